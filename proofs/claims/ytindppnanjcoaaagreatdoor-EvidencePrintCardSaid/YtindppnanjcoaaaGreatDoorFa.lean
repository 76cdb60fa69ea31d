/- The functions do what they are in plain Lean. Conditions: none. -/
import Derived.Test.YtindppnanjcoaaaGreatDoorOk
import Derived.Test.YtindppnanjcoaaaGreatDoorMi
import Derived.Test.YtindppnanjcoaaaGreatDoorIt
set_option maxRecDepth 100000
namespace Go.Proofs.YtindppnanjcoaaaGreatDoor.Ab
open Go
attribute [local irreducible] AL AD AW nlO nlV nlD

set_option maxHeartbeats 20000000 in
theorem m_match_model_ok {n : Nat} {a1 : A72} {r : A7} (hm : m_match_model n a1 = some r) : Fn Tryz.prog 32 [(A72.e a1)] (A7.e r) := by
  unfold m_match_model at hm
  refine Fn.of_AW (fnn := Tryz.f32) Tryz.func32 rfl (Nat.le_of_ble_eq_true rfl) (fun g0 w0 hw0 => ?_)
  refine AW.reset 0 [(0, .d (A72.e a1))] [] (WOK.g0 hw0 (by simp)) ⟨[], rfl, rfl, rfl, ⟨(.d rfl), trivial⟩, trivial, .nil⟩ ?_
  refine AW.seqR ?_
  refine AL.s rfl (op_box (n := 0) (.e rfl) rfl rfl rfl) ?_
  refine AL.s rfl (op_alloc (n := 1) zr49 rfl) ?_
  refine AL.nil ?_
  refine AW.seqR ?_
  refine AL.s rfl (op_alloc (n := 2) zr49 rfl) ?_
  refine AL.nil ?_
  refine AW.seq ?_
  refine AW.seqR ?_
  refine AL.s rfl (op_load_ptrA (.e rfl) rfl rfl rfl ag95) ?_
  refine AL.s rfl (op_moveD (.e rfl)) ?_
  refine AL.nil ?_
  refine AW.block ?_
  obtain ⟨t_1, hI1, hk1⟩ := bindE hm
  refine AW.loopS (σ := (Int × A7)) (τ := A7) 0 (fun x => [(2, .ptr 1 0), (3, .ptr 2 0), (7, .d (A72.e a1)), (8, .d (.int .i64 x.1))]) (fun x => [.row ((A72.e a1).cells.map .d), .row [.d (.int .i64 (0 : Int)), .d (.int .i64 (0 : Int)), .d (.int .i64 (0 : Int)), .d (.int .i64 (0 : Int)), .d (.int .i64 (0 : Int)), .d (.int .i64 (0 : Int)), .d (.int .i64 (0 : Int)), .d (.int .i64 (0 : Int)), .d (.int .i64 (0 : Int)), .d (.int .i64 (0 : Int)), .d (.int .i64 (0 : Int)), .d (.int .i64 (0 : Int)), .d (.int .i64 (0 : Int)), .d (.int .i64 (0 : Int)), .d (.int .i64 (0 : Int)), .d (.int .i64 (0 : Int)), .d (.int .i64 (0 : Int)), .d (.int .i64 (0 : Int)), .d (.int .i64 (0 : Int)), .d (.int .i64 (0 : Int)), .d (.int .i64 (0 : Int)), .d (.int .i64 (0 : Int)), .d (.int .i64 (0 : Int)), .d (.int .i64 (0 : Int)), .d (.int .i64 (0 : Int)), .d (.int .i64 (0 : Int)), .d (.int .i64 (0 : Int)), .d (.int .i64 (0 : Int)), .d (.int .i64 (0 : Int)), .d (.int .i64 (0 : Int)), .d (.int .i64 (0 : Int)), .d (.int .i64 (0 : Int)), .d (.int .i64 (0 : Int)), .d (.int .i64 (0 : Int)), .d (.int .i64 (0 : Int)), .d (.int .i64 (0 : Int)), .d (.int .i64 (0 : Int)), .d (.int .i64 (0 : Int)), .d (.int .i64 (0 : Int)), .d (.int .i64 (0 : Int)), .d (.int .i64 (0 : Int)), .d (.int .i64 (0 : Int))], .row ((A7.e x.2).cells.map .d)]) hI1 (WOK.g0 hw0 (by simp)) ⟨[0, 1, 2], rfl, rfl, rfl, ⟨(.ptr rfl), (.ptr rfl), (.d rfl), (.d rfl), trivial⟩, trivial, (.row rfl (cd (A72.e a1).cells) (.row rfl (.cons (.d rfl) (.cons (.d rfl) (.cons (.d rfl) (.cons (.d rfl) (.cons (.d rfl) (.cons (.d rfl) (.cons (.d rfl) (.cons (.d rfl) (.cons (.d rfl) (.cons (.d rfl) (.cons (.d rfl) (.cons (.d rfl) (.cons (.d rfl) (.cons (.d rfl) (.cons (.d rfl) (.cons (.d rfl) (.cons (.d rfl) (.cons (.d rfl) (.cons (.d rfl) (.cons (.d rfl) (.cons (.d rfl) (.cons (.d rfl) (.cons (.d rfl) (.cons (.d rfl) (.cons (.d rfl) (.cons (.d rfl) (.cons (.d rfl) (.cons (.d rfl) (.cons (.d rfl) (.cons (.d rfl) (.cons (.d rfl) (.cons (.d rfl) (.cons (.d rfl) (.cons (.d rfl) (.cons (.d rfl) (.cons (.d rfl) (.cons (.d rfl) (.cons (.d rfl) (.cons (.d rfl) (.cons (.d rfl) (.cons (.d rfl) (.cons (.d rfl) .nil)))))))))))))))))))))))))))))))))))))))))) (.row rfl (.cons (.d rfl) (.cons (.d rfl) (.cons (.d rfl) (.cons (.d rfl) (.cons (.d rfl) (.cons (.d rfl) (.cons (.d rfl) (.cons (.d rfl) (.cons (.d rfl) (.cons (.d rfl) (.cons (.d rfl) (.cons (.d rfl) (.cons (.d rfl) (.cons (.d rfl) (.cons (.d rfl) (.cons (.d rfl) (.cons (.d rfl) (.cons (.d rfl) (.cons (.d rfl) (.cons (.d rfl) (.cons (.d rfl) (.cons (.d rfl) (.cons (.d rfl) (.cons (.d rfl) (.cons (.d rfl) (.cons (.d rfl) (.cons (.d rfl) (.cons (.d rfl) (.cons (.d rfl) (.cons (.d rfl) (.cons (.d rfl) (.cons (.d rfl) (.cons (.d rfl) (.cons (.d rfl) (.cons (.d rfl) (.cons (.d rfl) (.cons (.d rfl) (.cons (.d rfl) (.cons (.d rfl) (.cons (.d rfl) (.cons (.d rfl) (.cons (.d rfl) .nil)))))))))))))))))))))))))))))))))))))))))) .nil)))⟩ ?_
  rintro n1 ⟨s2, s3⟩ hI1
  obtain ⟨y_1, hm, hI1⟩ := iterS hI1
  replace hm : m_match_model_L1 n _ s2 s3 = some y_1 := hm
  unfold m_match_model_L1 at hm
  try dsimp only at hm
  refine AW.seqR ?_
  refine AL.s rfl (op_lss (.r rfl) (.r rfl)) ?_
  refine AL.nil ?_
  refine AW.seq ?_
  refine AW.cond (b := _) rfl (fun hc1 => ?_) (fun hc1 => ?_)
  · replace hm := iteT hc1 hm
    refine AW.skip ?_
    refine nq ?_
    refine AW.seq ?_
    refine AW.block ?_
    refine AW.seqR ?_
    refine AL.s rfl (op_moveD (.e rfl)) ?_
    obtain ⟨v4, hv4, hm⟩ := bindE hm
    refine AL.s rfl (op_indexAgg (f := A6.e) (l := a1.l) (s := 6) (.r rfl) rfl enA6 (.r rfl) hv4 rfl Tryz.underlying95 (.inr ⟨ag94, fun _ => rfl⟩) ⟨_, rfl, rfl⟩) ?_
    refine AL.s rfl (op_alloc (n := 3) zr94 rfl) ?_
    refine AL.s rfl (op_assignD (.e rfl)) ?_
    refine AL.s rfl (op_store (.e rfl) (.e rfl) rfl rfl rfl ⟨_, rfl, rfl⟩ rfl (Nat.le_of_ble_eq_true rfl)) ?_
    refine AL.nil ?_
    refine AW.seqR ?_
    refine AL.s rfl (op_moveD (.e rfl)) ?_
    refine AL.nil ?_
    refine AW.block ?_
    obtain ⟨t_2, hI2, hk2⟩ := bindE hm
    refine AW.loopS (σ := (Int × A7)) (τ := A7) 0 (fun x => [(2, .ptr 1 0), (3, .ptr 2 0), (4, .d (.int .i64 s2)), (5, .ptr 3 0), (7, .d (A72.e a1)), (8, .d (.int .i64 s2)), (12, .d (.int .i64 x.1))]) (fun x => [.row ((A72.e a1).cells.map .d), .row [.d (.int .i64 (0 : Int)), .d (.int .i64 (0 : Int)), .d (.int .i64 (0 : Int)), .d (.int .i64 (0 : Int)), .d (.int .i64 (0 : Int)), .d (.int .i64 (0 : Int)), .d (.int .i64 (0 : Int)), .d (.int .i64 (0 : Int)), .d (.int .i64 (0 : Int)), .d (.int .i64 (0 : Int)), .d (.int .i64 (0 : Int)), .d (.int .i64 (0 : Int)), .d (.int .i64 (0 : Int)), .d (.int .i64 (0 : Int)), .d (.int .i64 (0 : Int)), .d (.int .i64 (0 : Int)), .d (.int .i64 (0 : Int)), .d (.int .i64 (0 : Int)), .d (.int .i64 (0 : Int)), .d (.int .i64 (0 : Int)), .d (.int .i64 (0 : Int)), .d (.int .i64 (0 : Int)), .d (.int .i64 (0 : Int)), .d (.int .i64 (0 : Int)), .d (.int .i64 (0 : Int)), .d (.int .i64 (0 : Int)), .d (.int .i64 (0 : Int)), .d (.int .i64 (0 : Int)), .d (.int .i64 (0 : Int)), .d (.int .i64 (0 : Int)), .d (.int .i64 (0 : Int)), .d (.int .i64 (0 : Int)), .d (.int .i64 (0 : Int)), .d (.int .i64 (0 : Int)), .d (.int .i64 (0 : Int)), .d (.int .i64 (0 : Int)), .d (.int .i64 (0 : Int)), .d (.int .i64 (0 : Int)), .d (.int .i64 (0 : Int)), .d (.int .i64 (0 : Int)), .d (.int .i64 (0 : Int)), .d (.int .i64 (0 : Int))], .row ((A7.e x.2).cells.map .d), .row [.d (.int .i64 v4.e0), .d (.int .i64 v4.e1), .d (.int .i64 v4.e2), .d (.int .i64 v4.e3), .d (.int .i64 v4.e4), .d (.int .i64 v4.e5)]]) hI2 (WOK.g0 hw0 (by simp)) ⟨[0, 1, 2, 3], rfl, rfl, rfl, ⟨(.ptr rfl), (.ptr rfl), (.d rfl), (.ptr rfl), (.d rfl), (.d rfl), (.d rfl), trivial⟩, trivial, (.row rfl (cd (A72.e a1).cells) (.row rfl (.cons (.d rfl) (.cons (.d rfl) (.cons (.d rfl) (.cons (.d rfl) (.cons (.d rfl) (.cons (.d rfl) (.cons (.d rfl) (.cons (.d rfl) (.cons (.d rfl) (.cons (.d rfl) (.cons (.d rfl) (.cons (.d rfl) (.cons (.d rfl) (.cons (.d rfl) (.cons (.d rfl) (.cons (.d rfl) (.cons (.d rfl) (.cons (.d rfl) (.cons (.d rfl) (.cons (.d rfl) (.cons (.d rfl) (.cons (.d rfl) (.cons (.d rfl) (.cons (.d rfl) (.cons (.d rfl) (.cons (.d rfl) (.cons (.d rfl) (.cons (.d rfl) (.cons (.d rfl) (.cons (.d rfl) (.cons (.d rfl) (.cons (.d rfl) (.cons (.d rfl) (.cons (.d rfl) (.cons (.d rfl) (.cons (.d rfl) (.cons (.d rfl) (.cons (.d rfl) (.cons (.d rfl) (.cons (.d rfl) (.cons (.d rfl) (.cons (.d rfl) .nil)))))))))))))))))))))))))))))))))))))))))) (.row rfl (.cons (.d rfl) (.cons (.d rfl) (.cons (.d rfl) (.cons (.d rfl) (.cons (.d rfl) (.cons (.d rfl) (.cons (.d rfl) (.cons (.d rfl) (.cons (.d rfl) (.cons (.d rfl) (.cons (.d rfl) (.cons (.d rfl) (.cons (.d rfl) (.cons (.d rfl) (.cons (.d rfl) (.cons (.d rfl) (.cons (.d rfl) (.cons (.d rfl) (.cons (.d rfl) (.cons (.d rfl) (.cons (.d rfl) (.cons (.d rfl) (.cons (.d rfl) (.cons (.d rfl) (.cons (.d rfl) (.cons (.d rfl) (.cons (.d rfl) (.cons (.d rfl) (.cons (.d rfl) (.cons (.d rfl) (.cons (.d rfl) (.cons (.d rfl) (.cons (.d rfl) (.cons (.d rfl) (.cons (.d rfl) (.cons (.d rfl) (.cons (.d rfl) (.cons (.d rfl) (.cons (.d rfl) (.cons (.d rfl) (.cons (.d rfl) (.cons (.d rfl) .nil)))))))))))))))))))))))))))))))))))))))))) (.row rfl (.cons (.d rfl) (.cons (.d rfl) (.cons (.d rfl) (.cons (.d rfl) (.cons (.d rfl) (.cons (.d rfl) .nil)))))) .nil))))⟩ ?_
    rintro n2 ⟨s5, s6⟩ hI2
    obtain ⟨y_2, hm, hI2⟩ := iterS hI2
    replace hm : m_match_model_L2 n _ _ s5 s6 = some y_2 := hm
    unfold m_match_model_L2 at hm
    try dsimp only at hm
    refine AW.seqR ?_
    refine AL.s rfl (op_lss (.r rfl) (.r rfl)) ?_
    refine AL.nil ?_
    refine AW.seq ?_
    refine AW.cond (b := _) rfl (fun hc2 => ?_) (fun hc2 => ?_)
    · replace hm := iteT hc2 hm
      refine AW.skip ?_
      refine nq ?_
      refine AW.seq ?_
      refine AW.block ?_
      refine AW.seqR ?_
      refine AL.s rfl (op_moveD (.e rfl)) ?_
      refine AL.s rfl (op_assignD (.e rfl)) ?_
      refine AL.nil ?_
      refine AW.drawn [([], []), ([], []), ([], []), ([], []), ([], []), ([3], []), ([], []), ([], []), ([], []), ([], []), ([3], []), ([], []), ([], []), ([], []), ([2], [2])] mo (by decide +kernel) ?_
      refine AD.s (ws := []) rfl rfl (fun H' _ hH => op_moveD (.e rfl)) ?_
      refine AD.s (ws := []) rfl rfl (fun H' _ hH => op_moveD (.e rfl)) ?_
      refine AD.s (ws := []) rfl rfl (fun H' _ hH => op_moveD (.e rfl)) ?_
      refine AD.s (ws := []) rfl rfl (fun H' _ hH => op_mulw (.r rfl) (.r rfl)) ?_
      obtain ⟨v7, hv7, hm⟩ := bindE hm
      refine AD.s (ws := []) rfl rfl (fun H' _ hH => op_indexA (l := v4.l) (s := 1) (.e rfl) (.r rfl) hv7 rfl Tryz.underlying94 ⟨_, rfl, rfl⟩) ?_
      refine AD.s (ws := []) rfl rfl (fun H' _ hH => op_loadAt1 (X := (A6.e v4).cells) (.e rfl) ((hH _ (by simp)).trans rfl) (AtD.ix (f := D.i) (l := v4.l) En.i (AtD.root : AtD (A6.e v4).cells 0 _ _) hv7) sc3) ?_
      refine AD.s (ws := []) rfl rfl (fun H' _ hH => op_moveD (.e rfl)) ?_
      refine AD.s (ws := []) rfl rfl (fun H' _ hH => op_mulw (.r rfl) (.r rfl)) ?_
      refine AD.s (ws := []) rfl rfl (fun H' _ hH => op_addw (.r rfl) (.r rfl)) ?_
      obtain ⟨v8, hv8, hm⟩ := bindE hm
      refine AD.s (ws := []) rfl rfl (fun H' _ hH => op_indexA (l := v4.l) (s := 1) (.e rfl) (.r rfl) hv8 rfl Tryz.underlying94 ⟨_, rfl, rfl⟩) ?_
      refine AD.s (ws := []) rfl rfl (fun H' _ hH => op_loadAt1 (X := (A6.e v4).cells) (.e rfl) ((hH _ (by simp)).trans rfl) (AtD.ix (f := D.i) (l := v4.l) En.i (AtD.root : AtD (A6.e v4).cells 0 _ _) hv8) sc3) ?_
      refine AD.s (ws := []) rfl rfl (fun H' _ hH => op_build bd46 (.cons (.e rfl) rfl rfl rfl rfl (Nat.le_of_ble_eq_true rfl) (.cons (.e rfl) rfl rfl rfl rfl (Nat.le_of_ble_eq_true rfl) .nil))) ?_
      obtain ⟨v9, hv9, hm⟩ := bindE hm
      refine AD.s (ws := []) rfl rfl (fun H' _ hH => op_indexA (l := s6.l) (s := 6) (.e rfl) (.r rfl) hv9 rfl Tryz.underlying49 ⟨_, rfl, rfl⟩) ?_
      obtain ⟨v10, hv10, hm⟩ := bindE hm
      refine AD.s (ws := []) rfl rfl (fun H' _ hH => op_indexA (l := v9.l) (s := 2) (.e rfl) (.r rfl) hv10 rfl Tryz.underlying47 ⟨_, rfl, rfl⟩) ?_
      obtain ⟨v11, hv11, hm⟩ := bindE hm
      obtain ⟨v12, hv12, hm⟩ := bindE hm
      refine AD.s (ws := [(2, _)]) rfl rfl (fun H' _ hH => op_storeAt (X := (A7.e s6).cells) (X' := (A7.e v12).cells) (.e rfl) (.e rfl) ((hH _ (by simp)).trans rfl) (AtD.ix (f := SRatio.e) (l := v9.l) enSRatio (AtD.ix (f := A3.e) (l := s6.l) enA3 (AtD.root : AtD (A7.e s6).cells 0 _ _) hv9) hv10) (PutD.ix (f := SRatio.e) (l := v9.l) (l' := v11.l) enSRatio (AtD.ix (f := A3.e) (l := s6.l) enA3 (AtD.root : AtD (A7.e s6).cells 0 _ _) hv9) (PutD.ix (f := A3.e) (l := s6.l) (l' := v12.l) enA3 (AtD.root : AtD (A7.e s6).cells 0 _ _) (PutD.root rfl : PutD (A7.e s6).cells 0 _ _ (A7.e v12).cells) (A7.put_l hv12)) (A3.put_l hv11)) rfl rfl ⟨_, rfl, rfl⟩) ?_
      refine AD.nil ?_
      refine bq_n ?_
      refine nq ?_
      refine AW.region ?_
      refine AL.s rfl (op_addw (.r rfl) (.r rfl)) ?_
      refine AL.s rfl (op_moveD (.e rfl)) ?_
      refine AL.nil ?_
      obtain rfl := Option.some.inj hm
      exact nq ⟨_, hI2, ⟨[0, 1, 2, 3], rfl, rfl, rfl, ⟨(.ptr rfl), (.ptr rfl), (.d rfl), (.ptr rfl), (.d rfl), (.d rfl), (.d rfl), trivial⟩, trivial, (.row rfl (cd (A72.e a1).cells) (.row rfl (.cons (.d rfl) (.cons (.d rfl) (.cons (.d rfl) (.cons (.d rfl) (.cons (.d rfl) (.cons (.d rfl) (.cons (.d rfl) (.cons (.d rfl) (.cons (.d rfl) (.cons (.d rfl) (.cons (.d rfl) (.cons (.d rfl) (.cons (.d rfl) (.cons (.d rfl) (.cons (.d rfl) (.cons (.d rfl) (.cons (.d rfl) (.cons (.d rfl) (.cons (.d rfl) (.cons (.d rfl) (.cons (.d rfl) (.cons (.d rfl) (.cons (.d rfl) (.cons (.d rfl) (.cons (.d rfl) (.cons (.d rfl) (.cons (.d rfl) (.cons (.d rfl) (.cons (.d rfl) (.cons (.d rfl) (.cons (.d rfl) (.cons (.d rfl) (.cons (.d rfl) (.cons (.d rfl) (.cons (.d rfl) (.cons (.d rfl) (.cons (.d rfl) (.cons (.d rfl) (.cons (.d rfl) (.cons (.d rfl) (.cons (.d rfl) (.cons (.d rfl) .nil)))))))))))))))))))))))))))))))))))))))))) (.row rfl (.cons (.d rfl) (.cons (.d rfl) (.cons (.d rfl) (.cons (.d rfl) (.cons (.d rfl) (.cons (.d rfl) (.cons (.d rfl) (.cons (.d rfl) (.cons (.d rfl) (.cons (.d rfl) (.cons (.d rfl) (.cons (.d rfl) (.cons (.d rfl) (.cons (.d rfl) (.cons (.d rfl) (.cons (.d rfl) (.cons (.d rfl) (.cons (.d rfl) (.cons (.d rfl) (.cons (.d rfl) (.cons (.d rfl) (.cons (.d rfl) (.cons (.d rfl) (.cons (.d rfl) (.cons (.d rfl) (.cons (.d rfl) (.cons (.d rfl) (.cons (.d rfl) (.cons (.d rfl) (.cons (.d rfl) (.cons (.d rfl) (.cons (.d rfl) (.cons (.d rfl) (.cons (.d rfl) (.cons (.d rfl) (.cons (.d rfl) (.cons (.d rfl) (.cons (.d rfl) (.cons (.d rfl) (.cons (.d rfl) (.cons (.d rfl) (.cons (.d rfl) .nil)))))))))))))))))))))))))))))))))))))))))) (.row rfl (.cons (.d rfl) (.cons (.d rfl) (.cons (.d rfl) (.cons (.d rfl) (.cons (.d rfl) (.cons (.d rfl) .nil)))))) .nil))))⟩⟩
    · replace hm := iteF hc2 hm
      refine AW.exit ?_
      refine tq_exit ?_
      refine tq_exit ?_
      obtain rfl := Option.some.inj hm
      obtain rfl := Option.some.inj hI2
      replace hm := hk2
      try dsimp only at hm
      refine bq_hit ?_
      refine bq_n ?_
      refine nq ?_
      refine AW.region ?_
      refine AL.s rfl (op_addw (.r rfl) (.r rfl)) ?_
      refine AL.s rfl (op_moveD (.e rfl)) ?_
      refine AL.nil ?_
      obtain rfl := Option.some.inj hm
      exact nq ⟨_, hI1, ⟨[0, 1, 2], rfl, rfl, rfl, ⟨(.ptr rfl), (.ptr rfl), (.d rfl), (.d rfl), trivial⟩, trivial, (.row rfl (cd (A72.e a1).cells) (.row rfl (.cons (.d rfl) (.cons (.d rfl) (.cons (.d rfl) (.cons (.d rfl) (.cons (.d rfl) (.cons (.d rfl) (.cons (.d rfl) (.cons (.d rfl) (.cons (.d rfl) (.cons (.d rfl) (.cons (.d rfl) (.cons (.d rfl) (.cons (.d rfl) (.cons (.d rfl) (.cons (.d rfl) (.cons (.d rfl) (.cons (.d rfl) (.cons (.d rfl) (.cons (.d rfl) (.cons (.d rfl) (.cons (.d rfl) (.cons (.d rfl) (.cons (.d rfl) (.cons (.d rfl) (.cons (.d rfl) (.cons (.d rfl) (.cons (.d rfl) (.cons (.d rfl) (.cons (.d rfl) (.cons (.d rfl) (.cons (.d rfl) (.cons (.d rfl) (.cons (.d rfl) (.cons (.d rfl) (.cons (.d rfl) (.cons (.d rfl) (.cons (.d rfl) (.cons (.d rfl) (.cons (.d rfl) (.cons (.d rfl) (.cons (.d rfl) (.cons (.d rfl) .nil)))))))))))))))))))))))))))))))))))))))))) (.row rfl (.cons (.d rfl) (.cons (.d rfl) (.cons (.d rfl) (.cons (.d rfl) (.cons (.d rfl) (.cons (.d rfl) (.cons (.d rfl) (.cons (.d rfl) (.cons (.d rfl) (.cons (.d rfl) (.cons (.d rfl) (.cons (.d rfl) (.cons (.d rfl) (.cons (.d rfl) (.cons (.d rfl) (.cons (.d rfl) (.cons (.d rfl) (.cons (.d rfl) (.cons (.d rfl) (.cons (.d rfl) (.cons (.d rfl) (.cons (.d rfl) (.cons (.d rfl) (.cons (.d rfl) (.cons (.d rfl) (.cons (.d rfl) (.cons (.d rfl) (.cons (.d rfl) (.cons (.d rfl) (.cons (.d rfl) (.cons (.d rfl) (.cons (.d rfl) (.cons (.d rfl) (.cons (.d rfl) (.cons (.d rfl) (.cons (.d rfl) (.cons (.d rfl) (.cons (.d rfl) (.cons (.d rfl) (.cons (.d rfl) (.cons (.d rfl) (.cons (.d rfl) .nil)))))))))))))))))))))))))))))))))))))))))) .nil)))⟩⟩
  · replace hm := iteF hc1 hm
    refine AW.exit ?_
    refine tq_exit ?_
    refine tq_exit ?_
    obtain rfl := Option.some.inj hm
    obtain rfl := Option.some.inj hI1
    replace hm := hk1
    try dsimp only at hm
    refine bq_hit ?_
    refine nq ?_
    refine AW.seqR ?_
    refine AL.s rfl (op_load_ptrA (.e rfl) rfl rfl rfl ag49) ?_
    refine AL.s rfl (op_storeA (.e rfl) (.e rfl) rfl rfl ⟨_, rfl, rfl⟩ rfl (Nat.le_of_ble_eq_true rfl)) ?_
    refine AL.nil ?_
    refine AW.ret ?_
    obtain rfl := Option.some.inj hm
    exact EndQ.d (.cellA (.e rfl) rfl rfl rfl ag49 .nil) rfl rfl

set_option maxHeartbeats 20000000 in
theorem m_match_Works_ok {n : Nat} {r : A7} (hm : m_match_Works n  = some r) : Fn Tryz.prog 12 [] (A7.e r) := by
  unfold m_match_Works at hm
  refine Fn.of_AW (fnn := Tryz.f12) Tryz.func12 rfl (Nat.le_of_ble_eq_true rfl) (fun g0 w0 hw0 => ?_)
  refine AW.seqR ?_
  refine AL.s rfl (op_alloc (n := 0) zr49 rfl) ?_
  refine AL.nil ?_
  refine AW.seqR ?_
  refine AL.s rfl (op_buildArrF ba94 (.cons (.e rfl) rfl rfl rfl rfl (Nat.le_of_ble_eq_true rfl) (.cons (.e rfl) rfl rfl rfl rfl (Nat.le_of_ble_eq_true rfl) (.cons (.e rfl) rfl rfl rfl rfl (Nat.le_of_ble_eq_true rfl) (.cons (.e rfl) rfl rfl rfl rfl (Nat.le_of_ble_eq_true rfl) (.cons (.e rfl) rfl rfl rfl rfl (Nat.le_of_ble_eq_true rfl) (.cons (.e rfl) rfl rfl rfl rfl (Nat.le_of_ble_eq_true rfl) .nil)))))) rfl rfl) ?_
  refine AL.s rfl (op_buildArrF ba94 (.cons (.e rfl) rfl rfl rfl rfl (Nat.le_of_ble_eq_true rfl) (.cons (.e rfl) rfl rfl rfl rfl (Nat.le_of_ble_eq_true rfl) (.cons (.e rfl) rfl rfl rfl rfl (Nat.le_of_ble_eq_true rfl) (.cons (.e rfl) rfl rfl rfl rfl (Nat.le_of_ble_eq_true rfl) (.cons (.e rfl) rfl rfl rfl rfl (Nat.le_of_ble_eq_true rfl) (.cons (.e rfl) rfl rfl rfl rfl (Nat.le_of_ble_eq_true rfl) .nil)))))) rfl rfl) ?_
  refine AL.s rfl (op_buildArrF ba94 (.cons (.e rfl) rfl rfl rfl rfl (Nat.le_of_ble_eq_true rfl) (.cons (.e rfl) rfl rfl rfl rfl (Nat.le_of_ble_eq_true rfl) (.cons (.e rfl) rfl rfl rfl rfl (Nat.le_of_ble_eq_true rfl) (.cons (.e rfl) rfl rfl rfl rfl (Nat.le_of_ble_eq_true rfl) (.cons (.e rfl) rfl rfl rfl rfl (Nat.le_of_ble_eq_true rfl) (.cons (.e rfl) rfl rfl rfl rfl (Nat.le_of_ble_eq_true rfl) .nil)))))) rfl rfl) ?_
  refine AL.s rfl (op_buildArrF ba94 (.cons (.e rfl) rfl rfl rfl rfl (Nat.le_of_ble_eq_true rfl) (.cons (.e rfl) rfl rfl rfl rfl (Nat.le_of_ble_eq_true rfl) (.cons (.e rfl) rfl rfl rfl rfl (Nat.le_of_ble_eq_true rfl) (.cons (.e rfl) rfl rfl rfl rfl (Nat.le_of_ble_eq_true rfl) (.cons (.e rfl) rfl rfl rfl rfl (Nat.le_of_ble_eq_true rfl) (.cons (.e rfl) rfl rfl rfl rfl (Nat.le_of_ble_eq_true rfl) .nil)))))) rfl rfl) ?_
  refine AL.s rfl (op_buildArrF ba94 (.cons (.e rfl) rfl rfl rfl rfl (Nat.le_of_ble_eq_true rfl) (.cons (.e rfl) rfl rfl rfl rfl (Nat.le_of_ble_eq_true rfl) (.cons (.e rfl) rfl rfl rfl rfl (Nat.le_of_ble_eq_true rfl) (.cons (.e rfl) rfl rfl rfl rfl (Nat.le_of_ble_eq_true rfl) (.cons (.e rfl) rfl rfl rfl rfl (Nat.le_of_ble_eq_true rfl) (.cons (.e rfl) rfl rfl rfl rfl (Nat.le_of_ble_eq_true rfl) .nil)))))) rfl rfl) ?_
  refine AL.s rfl (op_buildArrF ba94 (.cons (.e rfl) rfl rfl rfl rfl (Nat.le_of_ble_eq_true rfl) (.cons (.e rfl) rfl rfl rfl rfl (Nat.le_of_ble_eq_true rfl) (.cons (.e rfl) rfl rfl rfl rfl (Nat.le_of_ble_eq_true rfl) (.cons (.e rfl) rfl rfl rfl rfl (Nat.le_of_ble_eq_true rfl) (.cons (.e rfl) rfl rfl rfl rfl (Nat.le_of_ble_eq_true rfl) (.cons (.e rfl) rfl rfl rfl rfl (Nat.le_of_ble_eq_true rfl) .nil)))))) rfl rfl) ?_
  refine AL.s rfl (op_buildArrF ba94 (.cons (.e rfl) rfl rfl rfl rfl (Nat.le_of_ble_eq_true rfl) (.cons (.e rfl) rfl rfl rfl rfl (Nat.le_of_ble_eq_true rfl) (.cons (.e rfl) rfl rfl rfl rfl (Nat.le_of_ble_eq_true rfl) (.cons (.e rfl) rfl rfl rfl rfl (Nat.le_of_ble_eq_true rfl) (.cons (.e rfl) rfl rfl rfl rfl (Nat.le_of_ble_eq_true rfl) (.cons (.e rfl) rfl rfl rfl rfl (Nat.le_of_ble_eq_true rfl) .nil)))))) rfl rfl) ?_
  refine AL.s rfl (op_buildArrF ba95 (.cons (.e rfl) rfl rfl rfl rfl (Nat.le_of_ble_eq_true rfl) (.cons (.e rfl) rfl rfl rfl rfl (Nat.le_of_ble_eq_true rfl) (.cons (.e rfl) rfl rfl rfl rfl (Nat.le_of_ble_eq_true rfl) (.cons (.e rfl) rfl rfl rfl rfl (Nat.le_of_ble_eq_true rfl) (.cons (.e rfl) rfl rfl rfl rfl (Nat.le_of_ble_eq_true rfl) (.cons (.e rfl) rfl rfl rfl rfl (Nat.le_of_ble_eq_true rfl) (.cons (.e rfl) rfl rfl rfl rfl (Nat.le_of_ble_eq_true rfl) .nil))))))) rfl rfl) ?_
  obtain ⟨v1, hv1, hm⟩ := bindE hm
  refine AL.s rfl (op_fn Tryz.call32 (.e rfl) (.cons (.r rfl) .nil) (m_match_model_ok hv1)) ?_
  refine AL.s rfl (op_store (.e rfl) (.e rfl) rfl rfl rfl ⟨_, rfl, rfl⟩ rfl (Nat.le_of_ble_eq_true rfl)) ?_
  refine AL.nil ?_
  refine AW.ret ?_
  obtain rfl := Option.some.inj hm
  exact EndQ.d (.cellA (.e rfl) rfl rfl rfl ag49 .nil) rfl rfl

set_option maxHeartbeats 20000000 in
theorem m_slices_IndexFunc_3_odds_Ratio_3_odds_Ratio_ok {n : Nat} {H : List HE} {a1 : (List A3)} {p2 : A3 → Option Bool} {r : Int} {ff_p2 : FuncId} {caps_p2 : List V} (hff_p2 : ∀ (a : Array Value) (w : World), (callFunc ff_p2 a).run Tryz.prog w = .ok (.enter ff_p2 a) w) (hF_p2 : ∀ (y1 : A3) (b : Bool), p2 y1 = some b → ACall Tryz.prog ff_p2 (.d (A3.e y1) :: caps_p2) H fun r' H' => r' = .d (.bool b) ∧ H' = H) (hm : m_slices_IndexFunc_3_odds_Ratio_3_odds_Ratio n a1 p2 = some r) : ACall Tryz.prog 155 [.d (.sl (a1.map A3.e)), .fn (.func ff_p2) caps_p2] H fun r' H' => r' = .d (.int .i64 r) ∧ H' = H := by
  unfold m_slices_IndexFunc_3_odds_Ratio_3_odds_Ratio at hm
  refine ACall.of_AW (fnn := Tryz.f155) Tryz.func155 rfl (Nat.le_of_ble_eq_true rfl) (fun g0 w0 hw0 => ?_)
  refine AW.seqR ?_
  refine AL.s rfl (op_assignD (.e rfl)) ?_
  refine AL.nil ?_
  refine AW.seq ?_
  refine AW.seqR ?_
  refine AL.s rfl (op_moveD (.e rfl)) ?_
  refine AL.s rfl (op_lenM (f := A3.e) (.r rfl) sl185) ?_
  refine AL.s rfl (op_moveD (.e rfl)) ?_
  refine AL.nil ?_
  refine AW.block ?_
  obtain ⟨t_1, hI1, hk1⟩ := bindE hm
  refine AW.loopN (σ := Int) (τ := (Int ⊕ Unit)) [0, 1, 7] (fun x => [(8, .d (.int .i64 x))]) hI1 ⟨by first | exact .of rfl | exact .d rfl, trivial⟩ ?_
  rintro n1 s3 hI1
  obtain ⟨y_1, hm, hI1⟩ := iterS hI1
  replace hm : m_slices_IndexFunc_3_odds_Ratio_3_odds_Ratio_L1 n _ _ s3 = some y_1 := hm
  unfold m_slices_IndexFunc_3_odds_Ratio_3_odds_Ratio_L1 at hm
  try dsimp only at hm
  refine AW.seqR ?_
  refine AL.s rfl (op_lss (.r rfl) (.r rfl)) ?_
  refine AL.nil ?_
  refine AW.seq ?_
  refine AW.cond (b := _) rfl (fun hc1 => ?_) (fun hc1 => ?_)
  · replace hm := iteT hc1 hm
    refine AW.skip ?_
    refine nq ?_
    refine AW.seq ?_
    refine AW.block ?_
    refine AW.seqR ?_
    refine AL.s rfl (op_moveD (.e rfl)) ?_
    refine AL.s rfl (op_assignD (.e rfl)) ?_
    refine AL.nil ?_
    refine AW.seqR ?_
    refine AL.s rfl (op_moveF (.e rfl)) ?_
    refine AL.s rfl (op_moveD (.e rfl)) ?_
    refine AL.s rfl (op_moveD (.e rfl)) ?_
    obtain ⟨v4, hv4, hm⟩ := bindE hm
    refine AL.s rfl (op_indexAddrM (f := A3.e) (.r rfl) (.r rfl) hv4 enA3 sl185) ?_
    refine AL.s rfl (op_loadA (.e rfl) rfl ag47) ?_
    obtain ⟨v5, hv5, hm⟩ := bindE hm
    refine AL.s rfl (op_call hff_p2 (.e rfl) (.cons (.e rfl) .nil) (hF_p2 _ _ hv5)) ?_
    refine AL.nil ?_
    refine AW.cond (b := _) rfl (fun hc2 => ?_) (fun hc2 => ?_)
    · replace hm := iteT hc2 hm
      refine AW.seqR ?_
      refine AL.s rfl (op_moveD (.e rfl)) ?_
      refine AL.s rfl (op_assignD (.e rfl)) ?_
      refine AL.nil ?_
      refine AW.ret ?_
      refine bq_ret ?_
      refine tq_ret ?_
      refine tq_ret ?_
      obtain rfl := Option.some.inj hm
      obtain rfl := Option.some.inj hI1
      replace hm := hk1
      try dsimp only at hm
      refine bq_ret ?_
      refine tq_ret ?_
      obtain rfl := Option.some.inj hm
      exact ⟨_, _, (.tmp (.e rfl) .nil), .d rfl, rfl, rfl⟩
    · replace hm := iteF hc2 hm
      refine AW.skip ?_
      refine bq_n ?_
      refine nq ?_
      refine AW.region ?_
      refine AL.s rfl (op_addw (.r rfl) (.r rfl)) ?_
      refine AL.s rfl (op_moveD (.e rfl)) ?_
      refine AL.nil ?_
      obtain rfl := Option.some.inj hm
      exact nq ⟨_, hI1, ⟨by first | exact .of rfl | exact .d rfl, trivial⟩, ⟨rfl, rfl, rfl, trivial⟩, rfl⟩
  · replace hm := iteF hc1 hm
    refine AW.exit ?_
    refine tq_exit ?_
    refine tq_exit ?_
    obtain rfl := Option.some.inj hm
    obtain rfl := Option.some.inj hI1
    replace hm := hk1
    try dsimp only at hm
    refine bq_hit ?_
    refine nq ?_
    refine AW.seqR ?_
    refine AL.s rfl (op_assignD (.e rfl)) ?_
    refine AL.nil ?_
    refine AW.ret ?_
    obtain rfl := Option.some.inj hm
    exact ⟨_, _, (.tmp (.e rfl) .nil), .d rfl, rfl, rfl⟩

set_option maxHeartbeats 20000000 in
theorem m_slices_ContainsFunc_3_odds_Ratio_3_odds_Ratio_ok {n : Nat} {H : List HE} {a1 : (List A3)} {p2 : A3 → Option Bool} {r : Bool} {ff_p2 : FuncId} {caps_p2 : List V} (hff_p2 : ∀ (a : Array Value) (w : World), (callFunc ff_p2 a).run Tryz.prog w = .ok (.enter ff_p2 a) w) (hF_p2 : ∀ (y1 : A3) (b : Bool), p2 y1 = some b → ACall Tryz.prog ff_p2 (.d (A3.e y1) :: caps_p2) H fun r' H' => r' = .d (.bool b) ∧ H' = H) (hm : m_slices_ContainsFunc_3_odds_Ratio_3_odds_Ratio n a1 p2 = some r) : ACall Tryz.prog 111 [.d (.sl (a1.map A3.e)), .fn (.func ff_p2) caps_p2] H fun r' H' => r' = .d (.bool r) ∧ H' = H := by
  unfold m_slices_ContainsFunc_3_odds_Ratio_3_odds_Ratio at hm
  refine ACall.of_AW (fnn := Tryz.f111) Tryz.func111 rfl (Nat.le_of_ble_eq_true rfl) (fun g0 w0 hw0 => ?_)
  refine AW.seqR ?_
  refine AL.s rfl (op_assignD (.e rfl)) ?_
  refine AL.nil ?_
  refine AW.seqR ?_
  refine AL.s rfl (op_moveD (.e rfl)) ?_
  refine AL.s rfl (op_moveF (.e rfl)) ?_
  obtain ⟨v3, hv3, hm⟩ := bindE hm
  refine AL.s rfl (op_call Tryz.call155 (.e rfl) (.cons (.e rfl) (.cons (.e rfl) .nil)) (m_slices_IndexFunc_3_odds_Ratio_3_odds_Ratio_ok hff_p2 hF_p2 hv3)) ?_
  refine AL.s rfl (op_geq (.r rfl) (.r rfl)) ?_
  refine AL.s rfl (op_assignD (.e rfl)) ?_
  refine AL.nil ?_
  refine AW.ret ?_
  obtain rfl := Option.some.inj hm
  exact ⟨_, _, (.tmp (.e rfl) .nil), .d rfl, rfl, rfl⟩

set_option maxHeartbeats 20000000 in
theorem m_slices_IndexFunc_odds_Ratio_odds_Ratio_ok {n : Nat} {H : List HE} {a1 : (List SRatio)} {p2 : SRatio → Option Bool} {r : Int} {ff_p2 : FuncId} {caps_p2 : List V} (hff_p2 : ∀ (a : Array Value) (w : World), (callFunc ff_p2 a).run Tryz.prog w = .ok (.enter ff_p2 a) w) (hF_p2 : ∀ (y1 : SRatio) (b : Bool), p2 y1 = some b → ACall Tryz.prog ff_p2 (.d (SRatio.e y1) :: caps_p2) H fun r' H' => r' = .d (.bool b) ∧ H' = H) (hm : m_slices_IndexFunc_odds_Ratio_odds_Ratio n a1 p2 = some r) : ACall Tryz.prog 212 [.d (.sl (a1.map SRatio.e)), .fn (.func ff_p2) caps_p2] H fun r' H' => r' = .d (.int .i64 r) ∧ H' = H := by
  unfold m_slices_IndexFunc_odds_Ratio_odds_Ratio at hm
  refine ACall.of_AW (fnn := Tryz.f212) Tryz.func212 rfl (Nat.le_of_ble_eq_true rfl) (fun g0 w0 hw0 => ?_)
  refine AW.seqR ?_
  refine AL.s rfl (op_assignD (.e rfl)) ?_
  refine AL.nil ?_
  refine AW.seq ?_
  refine AW.seqR ?_
  refine AL.s rfl (op_moveD (.e rfl)) ?_
  refine AL.s rfl (op_lenM (f := SRatio.e) (.r rfl) sl88) ?_
  refine AL.s rfl (op_moveD (.e rfl)) ?_
  refine AL.nil ?_
  refine AW.block ?_
  obtain ⟨t_1, hI1, hk1⟩ := bindE hm
  refine AW.loopN (σ := Int) (τ := (Int ⊕ Unit)) [0, 1, 7] (fun x => [(8, .d (.int .i64 x))]) hI1 ⟨by first | exact .of rfl | exact .d rfl, trivial⟩ ?_
  rintro n1 s3 hI1
  obtain ⟨y_1, hm, hI1⟩ := iterS hI1
  replace hm : m_slices_IndexFunc_odds_Ratio_odds_Ratio_L1 n _ _ s3 = some y_1 := hm
  unfold m_slices_IndexFunc_odds_Ratio_odds_Ratio_L1 at hm
  try dsimp only at hm
  refine AW.seqR ?_
  refine AL.s rfl (op_lss (.r rfl) (.r rfl)) ?_
  refine AL.nil ?_
  refine AW.seq ?_
  refine AW.cond (b := _) rfl (fun hc1 => ?_) (fun hc1 => ?_)
  · replace hm := iteT hc1 hm
    refine AW.skip ?_
    refine nq ?_
    refine AW.seq ?_
    refine AW.block ?_
    refine AW.seqR ?_
    refine AL.s rfl (op_moveD (.e rfl)) ?_
    refine AL.s rfl (op_assignD (.e rfl)) ?_
    refine AL.nil ?_
    refine AW.seqR ?_
    refine AL.s rfl (op_moveF (.e rfl)) ?_
    refine AL.s rfl (op_moveD (.e rfl)) ?_
    refine AL.s rfl (op_moveD (.e rfl)) ?_
    obtain ⟨v4, hv4, hm⟩ := bindE hm
    refine AL.s rfl (op_indexAddrM (f := SRatio.e) (.r rfl) (.r rfl) hv4 enSRatio sl88) ?_
    refine AL.s rfl (op_loadA (.e rfl) rfl ag46) ?_
    obtain ⟨v5, hv5, hm⟩ := bindE hm
    refine AL.s rfl (op_call hff_p2 (.e rfl) (.cons (.e rfl) .nil) (hF_p2 _ _ hv5)) ?_
    refine AL.nil ?_
    refine AW.cond (b := _) rfl (fun hc2 => ?_) (fun hc2 => ?_)
    · replace hm := iteT hc2 hm
      refine AW.seqR ?_
      refine AL.s rfl (op_moveD (.e rfl)) ?_
      refine AL.s rfl (op_assignD (.e rfl)) ?_
      refine AL.nil ?_
      refine AW.ret ?_
      refine bq_ret ?_
      refine tq_ret ?_
      refine tq_ret ?_
      obtain rfl := Option.some.inj hm
      obtain rfl := Option.some.inj hI1
      replace hm := hk1
      try dsimp only at hm
      refine bq_ret ?_
      refine tq_ret ?_
      obtain rfl := Option.some.inj hm
      exact ⟨_, _, (.tmp (.e rfl) .nil), .d rfl, rfl, rfl⟩
    · replace hm := iteF hc2 hm
      refine AW.skip ?_
      refine bq_n ?_
      refine nq ?_
      refine AW.region ?_
      refine AL.s rfl (op_addw (.r rfl) (.r rfl)) ?_
      refine AL.s rfl (op_moveD (.e rfl)) ?_
      refine AL.nil ?_
      obtain rfl := Option.some.inj hm
      exact nq ⟨_, hI1, ⟨by first | exact .of rfl | exact .d rfl, trivial⟩, ⟨rfl, rfl, rfl, trivial⟩, rfl⟩
  · replace hm := iteF hc1 hm
    refine AW.exit ?_
    refine tq_exit ?_
    refine tq_exit ?_
    obtain rfl := Option.some.inj hm
    obtain rfl := Option.some.inj hI1
    replace hm := hk1
    try dsimp only at hm
    refine bq_hit ?_
    refine nq ?_
    refine AW.seqR ?_
    refine AL.s rfl (op_assignD (.e rfl)) ?_
    refine AL.nil ?_
    refine AW.ret ?_
    obtain rfl := Option.some.inj hm
    exact ⟨_, _, (.tmp (.e rfl) .nil), .d rfl, rfl, rfl⟩

set_option maxHeartbeats 20000000 in
theorem m_slices_ContainsFunc_odds_Ratio_odds_Ratio_ok {n : Nat} {H : List HE} {a1 : (List SRatio)} {p2 : SRatio → Option Bool} {r : Bool} {ff_p2 : FuncId} {caps_p2 : List V} (hff_p2 : ∀ (a : Array Value) (w : World), (callFunc ff_p2 a).run Tryz.prog w = .ok (.enter ff_p2 a) w) (hF_p2 : ∀ (y1 : SRatio) (b : Bool), p2 y1 = some b → ACall Tryz.prog ff_p2 (.d (SRatio.e y1) :: caps_p2) H fun r' H' => r' = .d (.bool b) ∧ H' = H) (hm : m_slices_ContainsFunc_odds_Ratio_odds_Ratio n a1 p2 = some r) : ACall Tryz.prog 157 [.d (.sl (a1.map SRatio.e)), .fn (.func ff_p2) caps_p2] H fun r' H' => r' = .d (.bool r) ∧ H' = H := by
  unfold m_slices_ContainsFunc_odds_Ratio_odds_Ratio at hm
  refine ACall.of_AW (fnn := Tryz.f157) Tryz.func157 rfl (Nat.le_of_ble_eq_true rfl) (fun g0 w0 hw0 => ?_)
  refine AW.seqR ?_
  refine AL.s rfl (op_assignD (.e rfl)) ?_
  refine AL.nil ?_
  refine AW.seqR ?_
  refine AL.s rfl (op_moveD (.e rfl)) ?_
  refine AL.s rfl (op_moveF (.e rfl)) ?_
  obtain ⟨v3, hv3, hm⟩ := bindE hm
  refine AL.s rfl (op_call Tryz.call212 (.e rfl) (.cons (.e rfl) (.cons (.e rfl) .nil)) (m_slices_IndexFunc_odds_Ratio_odds_Ratio_ok hff_p2 hF_p2 hv3)) ?_
  refine AL.s rfl (op_geq (.r rfl) (.r rfl)) ?_
  refine AL.s rfl (op_assignD (.e rfl)) ?_
  refine AL.nil ?_
  refine AW.ret ?_
  obtain rfl := Option.some.inj hm
  exact ⟨_, _, (.tmp (.e rfl) .nil), .d rfl, rfl, rfl⟩

set_option maxHeartbeats 20000000 in
theorem m_odds_Valid_1_ok {n : Nat} {a1 : SRatio} {r : Bool} (hm : m_odds_Valid_1 n a1 = some r) : Fn Tryz.prog 156 [(SRatio.e a1)] (.bool r) := by
  unfold m_odds_Valid_1 at hm
  refine Fn.of_AW (fnn := Tryz.f156) Tryz.func156 rfl (Nat.le_of_ble_eq_true rfl) (fun g0 w0 hw0 => ?_)
  refine AW.seqR ?_
  refine AL.s rfl (op_box (n := 0) (.e rfl) rfl rfl rfl) ?_
  refine AL.s rfl (op_assignD (.e rfl)) ?_
  refine AL.nil ?_
  refine AW.seqR ?_
  refine AL.s rfl (op_field_ptr (.e rfl) fd46_0) ?_
  refine AL.s rfl (op_load_ptr1 (.e rfl) rfl rfl sc3) ?_
  refine AL.s rfl (op_lss (.r rfl) (.r rfl)) ?_
  refine AL.s rfl (op_moveD (.e rfl)) ?_
  refine AL.sF rfl rfl rfl rfl (fun g => op_field_ptr (.e rfl) fd46_0) ?_
  refine AL.sF rfl rfl rfl rfl (fun g => op_load_ptr1 (.we (nt g) rfl) rfl rfl sc3) ?_
  refine AL.sF rfl rfl rfl rfl (fun g => op_gtr (.we (nt g) rfl rfl) (.r rfl)) ?_
  refine AL.s rfl (op_or (.r rfl) rfl (fun h => (.we (nt h) rfl rfl))) ?_
  refine AL.s rfl (op_moveD (.e rfl)) ?_
  refine AL.sF rfl rfl rfl rfl (fun g => op_field_ptr (.e rfl) fd46_1) ?_
  refine AL.sF rfl rfl rfl rfl (fun g => op_load_ptr1 (.we (nt g) rfl) rfl rfl sc3) ?_
  refine AL.sF rfl rfl rfl rfl (fun g => op_lss (.we (nt g) rfl rfl) (.r rfl)) ?_
  refine AL.s rfl (op_or (.r rfl) rfl (fun h => (.we (nt h) rfl rfl))) ?_
  refine AL.s rfl (op_moveD (.e rfl)) ?_
  refine AL.sF rfl rfl rfl rfl (fun g => op_field_ptr (.e rfl) fd46_1) ?_
  refine AL.sF rfl rfl rfl rfl (fun g => op_load_ptr1 (.we (nt g) rfl) rfl rfl sc3) ?_
  refine AL.sF rfl rfl rfl rfl (fun g => op_gtr (.we (nt g) rfl rfl) (.r rfl)) ?_
  refine AL.s rfl (op_or (.r rfl) rfl (fun h => (.we (nt h) rfl rfl))) ?_
  refine AL.s rfl (op_assignD (.e rfl)) ?_
  refine AL.nil ?_
  refine AW.ret ?_
  obtain rfl := Option.some.inj hm
  exact EndQ.d (.tmp (.e rfl) .nil) rfl rfl

set_option maxHeartbeats 20000000 in
theorem m_odds_Valid_ok {n : Nat} {a1 : (List SRatio)} {r : Bool} (hm : m_odds_Valid n a1 = some r) : Fn Tryz.prog 113 [(.sl (a1.map SRatio.e))] (.bool r) := by
  unfold m_odds_Valid at hm
  refine Fn.of_AW (fnn := Tryz.f113) Tryz.func113 rfl (Nat.le_of_ble_eq_true rfl) (fun g0 w0 hw0 => ?_)
  refine AW.seqR ?_
  refine AL.s rfl (op_assignD (.e rfl)) ?_
  refine AL.nil ?_
  refine AW.seqR ?_
  refine AL.s rfl (op_assignF (.e rfl)) ?_
  refine AL.nil ?_
  refine AW.seqR ?_
  refine AL.s rfl (op_moveD (.e rfl)) ?_
  refine AL.s rfl (op_lenM (f := SRatio.e) (.r rfl) sl88) ?_
  refine AL.s rfl (op_leq (.r rfl) (.r rfl)) ?_
  refine AL.s rfl (op_moveD (.e rfl)) ?_
  refine AL.sT rfl rfl rfl rfl (fun g => op_moveD (.e rfl)) ?_
  refine AL.sT rfl rfl rfl rfl (fun g => op_moveF (.e rfl)) ?_
  obtain ⟨v2, hv2, hm⟩ := bindE hm
  refine AL.sT rfl rfl rfl rfl (fun g => op_call Tryz.call157 (.e rfl) (.cons (.we g rfl) (.cons (.we g rfl) .nil)) (m_slices_ContainsFunc_odds_Ratio_odds_Ratio_ok Tryz.call156 (fun _ _ hb => (m_odds_Valid_1_ok hb).at _) (iteT g hv2))) ?_
  refine AL.sT rfl rfl rfl rfl (fun g => op_not (.we g rfl rfl)) ?_
  refine AL.s rfl (op_and (.r rfl) (fun h => (.we h rfl rfl)) rfl) ?_
  refine AL.s rfl (op_assignD (.e rfl)) ?_
  refine AL.nil ?_
  refine AW.ret ?_
  obtain rfl := Option.some.inj hm
  exact EndQ.d (.tmp (.e rfl) .nil) rfl rfl

set_option maxHeartbeats 20000000 in
theorem m_match_Valid_1_ok {n : Nat} {a1 : A3} {r : Bool} (hm : m_match_Valid_1 n a1 = some r) : Fn Tryz.prog 112 [(A3.e a1)] (.bool r) := by
  unfold m_match_Valid_1 at hm
  refine Fn.of_AW (fnn := Tryz.f112) Tryz.func112 rfl (Nat.le_of_ble_eq_true rfl) (fun g0 w0 hw0 => ?_)
  refine AW.seqR ?_
  refine AL.s rfl (op_box (n := 0) (.e rfl) rfl rfl rfl) ?_
  refine AL.s rfl (op_assignD (.e rfl)) ?_
  refine AL.nil ?_
  refine AW.freezeRow (cs := (A3.e a1).cells) 0 [1] rfl ⟨rfl, trivial⟩ ?_
  refine AW.seqR ?_
  refine AL.s rfl (OpV.asD (op_sliceArr (f := SRatio.e) (l := a1.l) (s := 2) (.e rfl) rfl enSRatio rfl Tryz.underlying47 ⟨_, rfl, rfl⟩) rfl) ?_
  obtain ⟨v2, hv2, hm⟩ := bindE hm
  refine AL.s rfl (op_fn Tryz.call113 (.e rfl) (.cons (.r rfl) .nil) (m_odds_Valid_ok hv2)) ?_
  refine AL.s rfl (op_not (.r rfl)) ?_
  refine AL.s rfl (op_assignD (.e rfl)) ?_
  refine AL.nil ?_
  refine AW.ret ?_
  obtain rfl := Option.some.inj hm
  exact EndQ.d (.tmp (.e rfl) .nil) rfl rfl

set_option maxHeartbeats 20000000 in
theorem m_match_Valid_ok {n : Nat} {a1 : A7} {r : Bool} (hm : m_match_Valid n a1 = some r) : Fn Tryz.prog 64 [(A7.e a1)] (.bool r) := by
  unfold m_match_Valid at hm
  refine Fn.of_AW (fnn := Tryz.f64) Tryz.func64 rfl (Nat.le_of_ble_eq_true rfl) (fun g0 w0 hw0 => ?_)
  refine AW.seqR ?_
  refine AL.s rfl (op_box (n := 0) (.e rfl) rfl rfl rfl) ?_
  refine AL.s rfl (op_assignD (.e rfl)) ?_
  refine AL.nil ?_
  refine AW.freezeRow (cs := (A7.e a1).cells) 0 [1] rfl ⟨rfl, trivial⟩ ?_
  refine AW.seqR ?_
  refine AL.s rfl (OpV.asD (op_sliceArr (f := A3.e) (l := a1.l) (s := 6) (.e rfl) rfl enA3 rfl Tryz.underlying49 ⟨_, rfl, rfl⟩) rfl) ?_
  obtain ⟨v2, hv2, hm⟩ := bindE hm
  refine AL.s rfl (op_call Tryz.call111 (.e rfl) (.cons (.e rfl) (.cons (.e rfl) .nil)) (m_slices_ContainsFunc_3_odds_Ratio_3_odds_Ratio_ok Tryz.call112 (fun _ _ hb => (m_match_Valid_1_ok hb).at _) hv2)) ?_
  refine AL.s rfl (op_not (.r rfl)) ?_
  refine AL.s rfl (op_assignD (.e rfl)) ?_
  refine AL.nil ?_
  refine AW.ret ?_
  obtain rfl := Option.some.inj hm
  exact EndQ.d (.tmp (.e rfl) .nil) rfl rfl

set_option maxHeartbeats 20000000 in
theorem m_slices_IndexFunc_int_int_ok {n : Nat} {H : List HE} {a1 : (List Int)} {p2 : Int → Option Bool} {r : Int} {ff_p2 : FuncId} {caps_p2 : List V} (hff_p2 : ∀ (a : Array Value) (w : World), (callFunc ff_p2 a).run Tryz.prog w = .ok (.enter ff_p2 a) w) (hF_p2 : ∀ (y1 : Int) (b : Bool), p2 y1 = some b → ACall Tryz.prog ff_p2 (.d (.int .i64 y1) :: caps_p2) H fun r' H' => r' = .d (.bool b) ∧ H' = H) (hm : m_slices_IndexFunc_int_int n a1 p2 = some r) : ACall Tryz.prog 114 [.d (.sl (a1.map D.i)), .fn (.func ff_p2) caps_p2] H fun r' H' => r' = .d (.int .i64 r) ∧ H' = H := by
  unfold m_slices_IndexFunc_int_int at hm
  refine ACall.of_AW (fnn := Tryz.f114) Tryz.func114 rfl (Nat.le_of_ble_eq_true rfl) (fun g0 w0 hw0 => ?_)
  refine AW.seqR ?_
  refine AL.s rfl (op_assignD (.e rfl)) ?_
  refine AL.nil ?_
  refine AW.seq ?_
  refine AW.seqR ?_
  refine AL.s rfl (op_moveD (.e rfl)) ?_
  refine AL.s rfl (op_lenM (f := D.i) (.r rfl) sl33) ?_
  refine AL.s rfl (op_moveD (.e rfl)) ?_
  refine AL.nil ?_
  refine AW.block ?_
  obtain ⟨t_1, hI1, hk1⟩ := bindE hm
  refine AW.loopN (σ := Int) (τ := (Int ⊕ Unit)) [0, 1, 7] (fun x => [(8, .d (.int .i64 x))]) hI1 ⟨by first | exact .of rfl | exact .d rfl, trivial⟩ ?_
  rintro n1 s3 hI1
  obtain ⟨y_1, hm, hI1⟩ := iterS hI1
  replace hm : m_slices_IndexFunc_int_int_L1 n _ _ s3 = some y_1 := hm
  unfold m_slices_IndexFunc_int_int_L1 at hm
  try dsimp only at hm
  refine AW.seqR ?_
  refine AL.s rfl (op_lss (.r rfl) (.r rfl)) ?_
  refine AL.nil ?_
  refine AW.seq ?_
  refine AW.cond (b := _) rfl (fun hc1 => ?_) (fun hc1 => ?_)
  · replace hm := iteT hc1 hm
    refine AW.skip ?_
    refine nq ?_
    refine AW.seq ?_
    refine AW.block ?_
    refine AW.seqR ?_
    refine AL.s rfl (op_moveD (.e rfl)) ?_
    refine AL.s rfl (op_assignD (.e rfl)) ?_
    refine AL.nil ?_
    refine AW.seqR ?_
    refine AL.s rfl (op_moveF (.e rfl)) ?_
    refine AL.s rfl (op_moveD (.e rfl)) ?_
    refine AL.s rfl (op_moveD (.e rfl)) ?_
    obtain ⟨v4, hv4, hm⟩ := bindE hm
    refine AL.s rfl (op_indexAddrM (f := D.i) (.r rfl) (.r rfl) hv4 En.i sl33) ?_
    refine AL.s rfl (op_load_vp1 (.e rfl) rfl sc3) ?_
    obtain ⟨v5, hv5, hm⟩ := bindE hm
    refine AL.s rfl (op_call hff_p2 (.e rfl) (.cons (.e rfl) .nil) (hF_p2 _ _ hv5)) ?_
    refine AL.nil ?_
    refine AW.cond (b := _) rfl (fun hc2 => ?_) (fun hc2 => ?_)
    · replace hm := iteT hc2 hm
      refine AW.seqR ?_
      refine AL.s rfl (op_moveD (.e rfl)) ?_
      refine AL.s rfl (op_assignD (.e rfl)) ?_
      refine AL.nil ?_
      refine AW.ret ?_
      refine bq_ret ?_
      refine tq_ret ?_
      refine tq_ret ?_
      obtain rfl := Option.some.inj hm
      obtain rfl := Option.some.inj hI1
      replace hm := hk1
      try dsimp only at hm
      refine bq_ret ?_
      refine tq_ret ?_
      obtain rfl := Option.some.inj hm
      exact ⟨_, _, (.tmp (.e rfl) .nil), .d rfl, rfl, rfl⟩
    · replace hm := iteF hc2 hm
      refine AW.skip ?_
      refine bq_n ?_
      refine nq ?_
      refine AW.region ?_
      refine AL.s rfl (op_addw (.r rfl) (.r rfl)) ?_
      refine AL.s rfl (op_moveD (.e rfl)) ?_
      refine AL.nil ?_
      obtain rfl := Option.some.inj hm
      exact nq ⟨_, hI1, ⟨by first | exact .of rfl | exact .d rfl, trivial⟩, ⟨rfl, rfl, rfl, trivial⟩, rfl⟩
  · replace hm := iteF hc1 hm
    refine AW.exit ?_
    refine tq_exit ?_
    refine tq_exit ?_
    obtain rfl := Option.some.inj hm
    obtain rfl := Option.some.inj hI1
    replace hm := hk1
    try dsimp only at hm
    refine bq_hit ?_
    refine nq ?_
    refine AW.seqR ?_
    refine AL.s rfl (op_assignD (.e rfl)) ?_
    refine AL.nil ?_
    refine AW.ret ?_
    obtain rfl := Option.some.inj hm
    exact ⟨_, _, (.tmp (.e rfl) .nil), .d rfl, rfl, rfl⟩

set_option maxHeartbeats 20000000 in
theorem m_slices_ContainsFunc_int_int_ok {n : Nat} {H : List HE} {a1 : (List Int)} {p2 : Int → Option Bool} {r : Bool} {ff_p2 : FuncId} {caps_p2 : List V} (hff_p2 : ∀ (a : Array Value) (w : World), (callFunc ff_p2 a).run Tryz.prog w = .ok (.enter ff_p2 a) w) (hF_p2 : ∀ (y1 : Int) (b : Bool), p2 y1 = some b → ACall Tryz.prog ff_p2 (.d (.int .i64 y1) :: caps_p2) H fun r' H' => r' = .d (.bool b) ∧ H' = H) (hm : m_slices_ContainsFunc_int_int n a1 p2 = some r) : ACall Tryz.prog 65 [.d (.sl (a1.map D.i)), .fn (.func ff_p2) caps_p2] H fun r' H' => r' = .d (.bool r) ∧ H' = H := by
  unfold m_slices_ContainsFunc_int_int at hm
  refine ACall.of_AW (fnn := Tryz.f65) Tryz.func65 rfl (Nat.le_of_ble_eq_true rfl) (fun g0 w0 hw0 => ?_)
  refine AW.seqR ?_
  refine AL.s rfl (op_assignD (.e rfl)) ?_
  refine AL.nil ?_
  refine AW.seqR ?_
  refine AL.s rfl (op_moveD (.e rfl)) ?_
  refine AL.s rfl (op_moveF (.e rfl)) ?_
  obtain ⟨v3, hv3, hm⟩ := bindE hm
  refine AL.s rfl (op_call Tryz.call114 (.e rfl) (.cons (.e rfl) (.cons (.e rfl) .nil)) (m_slices_IndexFunc_int_int_ok hff_p2 hF_p2 hv3)) ?_
  refine AL.s rfl (op_geq (.r rfl) (.r rfl)) ?_
  refine AL.s rfl (op_assignD (.e rfl)) ?_
  refine AL.nil ?_
  refine AW.ret ?_
  obtain rfl := Option.some.inj hm
  exact ⟨_, _, (.tmp (.e rfl) .nil), .d rfl, rfl, rfl⟩

set_option maxHeartbeats 20000000 in
theorem m_match_Factors_1_ok {n : Nat} {a1 : Int} {r : Bool} (hm : m_match_Factors_1 n a1 = some r) : Fn Tryz.prog 66 [(.int .i64 a1)] (.bool r) := by
  unfold m_match_Factors_1 at hm
  refine Fn.of_AW (fnn := Tryz.f66) Tryz.func66 rfl (Nat.le_of_ble_eq_true rfl) (fun g0 w0 hw0 => ?_)
  refine AW.seqR ?_
  refine AL.s rfl (op_assignD (.e rfl)) ?_
  refine AL.nil ?_
  refine AW.seqR ?_
  refine AL.s rfl (op_moveD (.e rfl)) ?_
  refine AL.s rfl (op_lss (.r rfl) (.r rfl)) ?_
  refine AL.s rfl (op_moveD (.e rfl)) ?_
  refine AL.sF rfl rfl rfl rfl (fun g => op_moveD (.e rfl)) ?_
  refine AL.sF rfl rfl rfl rfl (fun g => op_gtr (.we (nt g) rfl rfl) (.r rfl)) ?_
  refine AL.s rfl (op_or (.r rfl) rfl (fun h => (.we (nt h) rfl rfl))) ?_
  refine AL.s rfl (op_assignD (.e rfl)) ?_
  refine AL.nil ?_
  refine AW.ret ?_
  obtain rfl := Option.some.inj hm
  exact EndQ.d (.tmp (.e rfl) .nil) rfl rfl

set_option maxHeartbeats 20000000 in
theorem m_match_Factors_ok {n : Nat} {a1 : A7} {a2 : A73} {r : ((List SRatio) × Int)} (hm : m_match_Factors n a1 a2 = some r) : Fn Tryz.prog 31 [(A7.e a1), (A73.e a2)] (.tup [(.sl (r.1.map SRatio.e)), (.int .i64 r.2)]) := by
  unfold m_match_Factors at hm
  refine Fn.of_AW (fnn := Tryz.f31) Tryz.func31 rfl (Nat.le_of_ble_eq_true rfl) (fun g0 w0 hw0 => ?_)
  refine AW.reset 0 [(0, .d (A7.e a1)), (1, .d (A73.e a2))] [] (WOK.g0 hw0 (by simp)) ⟨[], rfl, rfl, rfl, ⟨(.d rfl), (.d rfl), trivial⟩, trivial, .nil⟩ ?_
  refine AW.seqR ?_
  refine AL.s rfl (op_box (n := 0) (.e rfl) rfl rfl rfl) ?_
  refine AL.s rfl (op_box (n := 1) (.e rfl) rfl rfl rfl) ?_
  refine AL.s rfl (op_assignN (.e rfl)) ?_
  refine AL.s rfl (op_assignD (.e rfl)) ?_
  refine AL.nil ?_
  refine AW.seq ?_
  refine AW.freezeRow (cs := (A73.e a2).cells) 1 [3] rfl ⟨rfl, trivial⟩ ?_
  refine AW.seqR ?_
  refine AL.s rfl (op_load_ptrA (.e rfl) rfl rfl rfl ag49) ?_
  obtain ⟨v3, hv3, hm⟩ := bindE hm
  refine AL.s rfl (op_fn Tryz.call64 (.e rfl) (.cons (.r rfl) .nil) (m_match_Valid_ok hv3)) ?_
  refine AL.s rfl (op_not (.r rfl)) ?_
  refine AL.s rfl (op_moveD (.e rfl)) ?_
  refine AL.sF rfl rfl rfl rfl (fun g => OpV.asD (op_sliceArr (f := D.i) (l := a2.l) (s := 1) (.e rfl) rfl En.i rfl Tryz.underlying41 ⟨_, rfl, rfl⟩) rfl) ?_
  obtain ⟨v4, hv4, hm⟩ := bindE hm
  refine AL.sF rfl rfl rfl rfl (fun g => op_call Tryz.call65 (.e rfl) (.cons (.we (nt g) rfl) (.cons (.e rfl) .nil)) (m_slices_ContainsFunc_int_int_ok Tryz.call66 (fun _ _ hb => (m_match_Factors_1_ok hb).at _) (iteT (nt g) hv4))) ?_
  refine AL.s rfl (op_or (.r rfl) rfl (fun h => (.we (nt h) rfl rfl))) ?_
  refine AL.nil ?_
  refine AW.cond (b := _) rfl (fun hc1 => ?_) (fun hc1 => ?_)
  · replace hm := iteT hc1 hm
    refine AW.seqR ?_
    refine AL.s rfl (op_assignN (.e rfl)) ?_
    refine AL.s rfl (op_assignD (.e rfl)) ?_
    refine AL.nil ?_
    refine AW.ret ?_
    refine tq_ret ?_
    obtain rfl := Option.some.inj hm
    exact EndQ.d (.tmp (.e rfl) (.tmp (.e rfl) .nil)) rfl rfl
  · replace hm := iteF hc1 hm
    refine AW.skip ?_
    refine nq ?_
    refine AW.seqR ?_
    refine AL.s rfl (op_assignN (.e rfl)) ?_
    refine AL.nil ?_
    refine AW.seq ?_
    refine AW.seqR ?_
    refine AL.s rfl (op_loadA (.e rfl) rfl ag41) ?_
    refine AL.s rfl (op_moveD (.e rfl)) ?_
    refine AL.nil ?_
    refine AW.block ?_
    refine AW.tokenize (n := 2) 6 46 2 rfl rfl (by simp) ?_
    obtain ⟨t_1, hI1, hk1⟩ := bindE hm
    refine AW.loopS (σ := ((List SRatio) × Int)) (τ := (List SRatio)) 0 (fun x => [(2, .ptr 0 0), (6, .tk 2 (x.1.map SRatio.e)), (16, .d (A73.e a2)), (17, .d (.int .i64 x.2))]) (fun x => [.row ((A7.e a1).cells.map .d), .dead, .tok x.1.length 46 2]) hI1 (WOK.g0 hw0 (by simp)) ⟨[0, 1, 2], rfl, rfl, rfl, ⟨(.ptr rfl), (.tk rfl), (.d rfl), (.d rfl), trivial⟩, trivial, (.row rfl (cd (A7.e a1).cells) (.dead (.tok rfl .nil)))⟩ ?_
    rintro n1 ⟨s5, s6⟩ hI1
    obtain ⟨y_1, hm, hI1⟩ := iterS hI1
    replace hm : m_match_Factors_L1 n _ _ s5 s6 = some y_1 := hm
    unfold m_match_Factors_L1 at hm
    try dsimp only at hm
    refine AW.seqR ?_
    refine AL.s rfl (op_lss (.r rfl) (.r rfl)) ?_
    refine AL.nil ?_
    refine AW.seq ?_
    refine AW.cond (b := _) rfl (fun hc2 => ?_) (fun hc2 => ?_)
    · replace hm := iteT hc2 hm
      refine AW.skip ?_
      refine nq ?_
      obtain ⟨t_j1, hm, hkj1⟩ := bindE hm
      refine AW.cutS (α := (List SRatio)) 0 (fun x => x = t_j1) (fun x => [(2, .ptr 0 0), (6, .tk 2 (x.map SRatio.e)), (16, .d (A73.e a2)), (17, .d (.int .i64 s6))]) (fun x => [.row ((A7.e a1).cells.map .d), .dead, .tok x.length 46 2]) (WOK.g0 hw0 (by simp)) ?_ ?_
      · skip
        refine AW.block ?_
        refine AW.seqR ?_
        refine AL.s rfl (op_moveD (.e rfl)) ?_
        obtain ⟨v7, hv7, hm⟩ := bindE hm
        refine AL.s rfl (op_indexAgg (f := D.i) (l := a2.l) (s := 1) (.r rfl) rfl En.i (.r rfl) hv7 rfl Tryz.underlying41 (.inl ⟨sc3, fun _ => rfl⟩) ⟨_, rfl, rfl⟩) ?_
        refine AL.s rfl (op_assignD (.e rfl)) ?_
        refine AL.s rfl (op_assignD (.e rfl)) ?_
        refine AL.nil ?_
        refine AW.seqR ?_
        refine AL.s rfl (op_moveD (.e rfl)) ?_
        refine AL.s rfl (op_neq (.r rfl) (.r rfl)) ?_
        refine AL.nil ?_
        refine AW.cond (b := _) rfl (fun hc3 => ?_) (fun hc3 => ?_)
        · replace hm := iteT hc3 hm
          refine AW.region ?_
          refine AL.s rfl (op_moveT (.e rfl)) ?_
          refine AL.s rfl (op_moveD (.e rfl)) ?_
          refine AL.s rfl (op_moveD (.e rfl)) ?_
          refine AL.s rfl (op_subw (.r rfl) (.r rfl)) ?_
          obtain ⟨v8, hv8, hm⟩ := bindE hm
          refine AL.s rfl (op_indexA (l := a1.l) (s := 6) (.e rfl) (.r rfl) hv8 rfl Tryz.underlying49 ⟨_, rfl, rfl⟩) ?_
          obtain ⟨v9, hv9, hm⟩ := bindE hm
          refine AL.s rfl (op_indexA (l := v8.l) (s := 2) (.e rfl) (.r rfl) hv9 rfl Tryz.underlying47 ⟨_, rfl, rfl⟩) ?_
          refine AL.s rfl (op_loadAtA (X := (A7.e a1).cells) (.e rfl) rfl (AtD.ix (f := SRatio.e) (l := v8.l) enSRatio (AtD.ix (f := A3.e) (l := a1.l) enA3 (AtD.root : AtD (A7.e a1).cells 0 _ _) hv8) hv9) ag46) ?_
          refine AL.s rfl (op_buildSlice (ds := ([v9] : List SRatio).map SRatio.e) sl88 (.cons (.r rfl) rfl (enSRatio.one _) .nil) rfl (by decide)) ?_
          obtain ⟨v10, hv10, hm⟩ := bindE hm
          refine AL.s rfl (op_appendM (f := SRatio.e) (l' := ([v9] : List SRatio)) sl88 (.e rfl) (.r rfl) rfl rfl enSRatio hv10) ?_
          refine AL.s rfl (op_assignT (.e rfl)) ?_
          refine AL.nil ?_
          refine bq_n ?_
          obtain rfl := Option.some.inj hm
          exact nq ⟨_, rfl, ⟨[0, 1, 2], rfl, rfl, rfl, ⟨(.ptr rfl), (.tk rfl), (.d rfl), (.d rfl), trivial⟩, trivial, (.row rfl (cd (A7.e a1).cells) (.dead (.tok rfl .nil)))⟩⟩
        · replace hm := iteF hc3 hm
          refine AW.skip ?_
          refine bq_n ?_
          obtain rfl := Option.some.inj hm
          exact nq ⟨_, rfl, ⟨[0, 1, 2], rfl, rfl, rfl, ⟨(.ptr rfl), (.tk rfl), (.d rfl), (.d rfl), trivial⟩, trivial, (.row rfl (cd (A7.e a1).cells) (.dead (.tok rfl .nil)))⟩⟩
      · rintro s11 rfl
        replace hm := hkj1
        try dsimp only at hm
        refine AW.region ?_
        refine AL.s rfl (op_addw (.r rfl) (.r rfl)) ?_
        refine AL.s rfl (op_moveD (.e rfl)) ?_
        refine AL.nil ?_
        obtain rfl := Option.some.inj hm
        exact nq ⟨_, hI1, ⟨[0, 1, 2], rfl, rfl, rfl, ⟨(.ptr rfl), (.tk rfl), (.d rfl), (.d rfl), trivial⟩, trivial, (.row rfl (cd (A7.e a1).cells) (.dead (.tok rfl .nil)))⟩⟩
    · replace hm := iteF hc2 hm
      refine AW.exit ?_
      refine tq_exit ?_
      refine tq_exit ?_
      obtain rfl := Option.some.inj hm
      obtain rfl := Option.some.inj hI1
      replace hm := hk1
      try dsimp only at hm
      refine bq_hit ?_
      refine nq ?_
      refine AW.seqR ?_
      refine AL.s rfl (op_moveT (.e rfl)) ?_
      refine AL.s rfl (op_assignT (.e rfl)) ?_
      refine AL.s rfl (op_assignD (.e rfl)) ?_
      refine AL.nil ?_
      refine AW.ret ?_
      obtain rfl := Option.some.inj hm
      exact EndQ.d (.tmp (.e rfl) (.tmp (.e rfl) .nil)) rfl rfl

set_option maxHeartbeats 20000000 in
theorem m_match_Explain_ok {n : Nat} {a1 : A7} {a2 : A73} {r : ((List (List UInt8)) × Int)} (hm : m_match_Explain n a1 a2 = some r) : Fn Tryz.prog 11 [(A7.e a1), (A73.e a2)] (.tup [(.sl (r.1.map D.str)), (.int .i64 r.2)]) := by
  unfold m_match_Explain at hm
  refine Fn.of_AW (fnn := Tryz.f11) Tryz.func11 rfl (Nat.le_of_ble_eq_true rfl) (fun g0 w0 hw0 => ?_)
  refine AW.reset 0 [(0, .d (A7.e a1)), (1, .d (A73.e a2))] [] (WOK.g0 hw0 (by simp)) ⟨[], rfl, rfl, rfl, ⟨(.d rfl), (.d rfl), trivial⟩, trivial, .nil⟩ ?_
  refine AW.seqR ?_
  refine AL.s rfl (op_box (n := 0) (.e rfl) rfl rfl rfl) ?_
  refine AL.s rfl (op_box (n := 1) (.e rfl) rfl rfl rfl) ?_
  refine AL.s rfl (op_assignN (.e rfl)) ?_
  refine AL.s rfl (op_assignD (.e rfl)) ?_
  refine AL.nil ?_
  refine AW.seq ?_
  refine AW.seqR ?_
  refine AL.s rfl (op_load_ptrA (.e rfl) rfl rfl rfl ag49) ?_
  refine AL.s rfl (op_load_ptrA (.e rfl) rfl rfl rfl ag41) ?_
  obtain ⟨v3, hv3, hm⟩ := bindE hm
  refine AL.s rfl (op_fn Tryz.call31 (.e rfl) (.cons (.r rfl) (.cons (.r rfl) .nil)) (m_match_Factors_ok hv3)) ?_
  refine AL.s rfl (op_moveD (.e rfl)) ?_
  refine AL.s rfl (op_extractD (.e rfl) rfl) ?_
  refine AL.s rfl (op_extractD (.e rfl) rfl) ?_
  refine AL.s rfl (op_assignD (.e rfl)) ?_
  refine AL.s rfl (op_assignD (.e rfl)) ?_
  refine AL.nil ?_
  refine AW.seqR ?_
  refine AL.s rfl (op_moveD (.e rfl)) ?_
  refine AL.s rfl (op_neq (.r rfl) (.r rfl)) ?_
  refine AL.nil ?_
  refine AW.cond (b := _) rfl (fun hc1 => ?_) (fun hc1 => ?_)
  · replace hm := iteT hc1 hm
    refine AW.seqR ?_
    refine AL.s rfl (op_moveD (.e rfl)) ?_
    refine AL.s rfl (op_assignN (.e rfl)) ?_
    refine AL.s rfl (op_assignD (.e rfl)) ?_
    refine AL.nil ?_
    refine AW.ret ?_
    refine tq_ret ?_
    obtain rfl := Option.some.inj hm
    exact EndQ.d (.tmp (.e rfl) (.tmp (.e rfl) .nil)) rfl rfl
  · replace hm := iteF hc1 hm
    refine AW.skip ?_
    refine nq ?_
    refine AW.seqR ?_
    refine AL.s rfl (op_buildArrF ba91 (.cons (.e rfl) rfl rfl rfl rfl (Nat.le_of_ble_eq_true rfl) (.cons (.e rfl) rfl rfl rfl rfl (Nat.le_of_ble_eq_true rfl) (.cons (.e rfl) rfl rfl rfl rfl (Nat.le_of_ble_eq_true rfl) (.cons (.e rfl) rfl rfl rfl rfl (Nat.le_of_ble_eq_true rfl) (.cons (.e rfl) rfl rfl rfl rfl (Nat.le_of_ble_eq_true rfl) (.cons (.e rfl) rfl rfl rfl rfl (Nat.le_of_ble_eq_true rfl) (.cons (.e rfl) rfl rfl rfl rfl (Nat.le_of_ble_eq_true rfl) .nil))))))) rfl rfl) ?_
    refine AL.s rfl (op_alloc (n := 2) zr91 rfl) ?_
    refine AL.s rfl (op_storeA (.e rfl) (.e rfl) rfl rfl ⟨_, rfl, rfl⟩ rfl (Nat.le_of_ble_eq_true rfl)) ?_
    refine AL.nil ?_
    refine AW.seqR ?_
    refine AL.s rfl (op_buildArrF ba92 (.cons (.e rfl) rfl rfl rfl rfl (Nat.le_of_ble_eq_true rfl) (.cons (.e rfl) rfl rfl rfl rfl (Nat.le_of_ble_eq_true rfl) (.cons (.e rfl) rfl rfl rfl rfl (Nat.le_of_ble_eq_true rfl) (.cons (.e rfl) rfl rfl rfl rfl (Nat.le_of_ble_eq_true rfl) .nil)))) rfl rfl) ?_
    refine AL.s rfl (op_alloc (n := 3) zr92 rfl) ?_
    refine AL.s rfl (op_storeA (.e rfl) (.e rfl) rfl rfl ⟨_, rfl, rfl⟩ rfl (Nat.le_of_ble_eq_true rfl)) ?_
    refine AL.nil ?_
    refine AW.seqR ?_
    refine AL.s rfl (op_assignN (.e rfl)) ?_
    refine AL.nil ?_
    refine AW.seq ?_
    refine AW.seqR ?_
    refine AL.s rfl (op_load_ptrA (.e rfl) rfl rfl rfl ag41) ?_
    refine AL.s rfl (op_moveD (.e rfl)) ?_
    refine AL.nil ?_
    refine AW.block ?_
    refine AW.tokenize (n := 4) 10 9 1 rfl rfl (by simp) ?_
    obtain ⟨t_1, hI1, hk1⟩ := bindE hm
    refine AW.loopS (σ := ((List (List UInt8)) × Int)) (τ := (List (List UInt8))) 0 (fun x => [(2, .ptr 0 0), (8, .ptr 2 0), (9, .ptr 3 0), (10, .tk 4 (x.1.map D.str)), (25, .d (A73.e a2)), (26, .d (.int .i64 x.2))]) (fun x => [.row ((A7.e a1).cells.map .d), .row [.d (.int .i64 a2.e0), .d (.int .i64 a2.e1), .d (.int .i64 a2.e2), .d (.int .i64 a2.e3), .d (.int .i64 a2.e4), .d (.int .i64 a2.e5), .d (.int .i64 a2.e6)], .row [.d (.str ([116, 105, 116, 108, 101] : List UInt8)), .d (.str ([97, 117, 116, 104, 111, 114] : List UInt8)), .d (.str ([121, 101, 97, 114] : List UInt8)), .d (.str ([105, 115, 98, 110] : List UInt8)), .d (.str ([108, 97, 110, 103, 117, 97, 103, 101] : List UInt8)), .d (.str ([112, 117, 98, 108, 105, 115, 104, 101, 114] : List UInt8)), .d (.str ([101, 100, 105, 116, 105, 111, 110] : List UInt8))], .row [.d (.str ([] : List UInt8)), .d (.str ([97, 103, 114, 101, 101, 115] : List UInt8)), .d (.str ([110, 101, 97, 114] : List UInt8)), .d (.str ([100, 105, 102, 102, 101, 114, 115] : List UInt8))], .tok x.1.length 9 1]) hI1 (WOK.g0 hw0 (by simp)) ⟨[0, 1, 2, 3, 4], rfl, rfl, rfl, ⟨(.ptr rfl), (.ptr rfl), (.ptr rfl), (.tk rfl), (.d rfl), (.d rfl), trivial⟩, trivial, (.row rfl (cd (A7.e a1).cells) (.row rfl (.cons (.d rfl) (.cons (.d rfl) (.cons (.d rfl) (.cons (.d rfl) (.cons (.d rfl) (.cons (.d rfl) (.cons (.d rfl) .nil))))))) (.row rfl (.cons (.d rfl) (.cons (.d rfl) (.cons (.d rfl) (.cons (.d rfl) (.cons (.d rfl) (.cons (.d rfl) (.cons (.d rfl) .nil))))))) (.row rfl (.cons (.d rfl) (.cons (.d rfl) (.cons (.d rfl) (.cons (.d rfl) .nil)))) (.tok rfl .nil)))))⟩ ?_
    rintro n1 ⟨s4, s5⟩ hI1
    obtain ⟨y_1, hm, hI1⟩ := iterS hI1
    replace hm : m_match_Explain_L1 n _ _ s4 s5 = some y_1 := hm
    unfold m_match_Explain_L1 at hm
    try dsimp only at hm
    refine AW.seqR ?_
    refine AL.s rfl (op_lss (.r rfl) (.r rfl)) ?_
    refine AL.nil ?_
    refine AW.seq ?_
    refine AW.cond (b := _) rfl (fun hc2 => ?_) (fun hc2 => ?_)
    · replace hm := iteT hc2 hm
      refine AW.skip ?_
      refine nq ?_
      obtain ⟨t_j1, hm, hkj1⟩ := bindE hm
      refine AW.cutS (α := (List (List UInt8))) 0 (fun x => x = t_j1) (fun x => [(2, .ptr 0 0), (8, .ptr 2 0), (9, .ptr 3 0), (10, .tk 4 (x.map D.str)), (25, .d (A73.e a2)), (26, .d (.int .i64 s5))]) (fun x => [.row ((A7.e a1).cells.map .d), .row [.d (.int .i64 a2.e0), .d (.int .i64 a2.e1), .d (.int .i64 a2.e2), .d (.int .i64 a2.e3), .d (.int .i64 a2.e4), .d (.int .i64 a2.e5), .d (.int .i64 a2.e6)], .row [.d (.str ([116, 105, 116, 108, 101] : List UInt8)), .d (.str ([97, 117, 116, 104, 111, 114] : List UInt8)), .d (.str ([121, 101, 97, 114] : List UInt8)), .d (.str ([105, 115, 98, 110] : List UInt8)), .d (.str ([108, 97, 110, 103, 117, 97, 103, 101] : List UInt8)), .d (.str ([112, 117, 98, 108, 105, 115, 104, 101, 114] : List UInt8)), .d (.str ([101, 100, 105, 116, 105, 111, 110] : List UInt8))], .row [.d (.str ([] : List UInt8)), .d (.str ([97, 103, 114, 101, 101, 115] : List UInt8)), .d (.str ([110, 101, 97, 114] : List UInt8)), .d (.str ([100, 105, 102, 102, 101, 114, 115] : List UInt8))], .tok x.length 9 1]) (WOK.g0 hw0 (by simp)) ?_ ?_
      · skip
        refine AW.block ?_
        refine AW.seqR ?_
        refine AL.s rfl (op_moveD (.e rfl)) ?_
        obtain ⟨v6, hv6, hm⟩ := bindE hm
        refine AL.s rfl (op_indexAgg (f := D.i) (l := a2.l) (s := 1) (.r rfl) rfl En.i (.r rfl) hv6 rfl Tryz.underlying41 (.inl ⟨sc3, fun _ => rfl⟩) ⟨_, rfl, rfl⟩) ?_
        refine AL.s rfl (op_assignD (.e rfl)) ?_
        refine AL.s rfl (op_assignD (.e rfl)) ?_
        refine AL.nil ?_
        refine AW.reset 0 [(2, .ptr 0 0), (8, .ptr 2 0), (9, .ptr 3 0), (10, .tk 4 (s4.map D.str)), (11, .d (.int .i64 s5)), (12, .d (.int .i64 v6)), (25, .d (A73.e a2)), (26, .d (.int .i64 s5))] [.row ((A7.e a1).cells.map .d), .row [.d (.int .i64 a2.e0), .d (.int .i64 a2.e1), .d (.int .i64 a2.e2), .d (.int .i64 a2.e3), .d (.int .i64 a2.e4), .d (.int .i64 a2.e5), .d (.int .i64 a2.e6)], .row [.d (.str ([116, 105, 116, 108, 101] : List UInt8)), .d (.str ([97, 117, 116, 104, 111, 114] : List UInt8)), .d (.str ([121, 101, 97, 114] : List UInt8)), .d (.str ([105, 115, 98, 110] : List UInt8)), .d (.str ([108, 97, 110, 103, 117, 97, 103, 101] : List UInt8)), .d (.str ([112, 117, 98, 108, 105, 115, 104, 101, 114] : List UInt8)), .d (.str ([101, 100, 105, 116, 105, 111, 110] : List UInt8))], .row [.d (.str ([] : List UInt8)), .d (.str ([97, 103, 114, 101, 101, 115] : List UInt8)), .d (.str ([110, 101, 97, 114] : List UInt8)), .d (.str ([100, 105, 102, 102, 101, 114, 115] : List UInt8))], .tok s4.length 9 1] (WOK.g0 hw0 (by simp)) ⟨[0, 1, 2, 3, 4], rfl, rfl, rfl, ⟨(.ptr rfl), (.ptr rfl), (.ptr rfl), (.tk rfl), (.d rfl), (.d rfl), (.d rfl), (.d rfl), trivial⟩, trivial, (.row rfl (cd (A7.e a1).cells) (.row rfl (.cons (.d rfl) (.cons (.d rfl) (.cons (.d rfl) (.cons (.d rfl) (.cons (.d rfl) (.cons (.d rfl) (.cons (.d rfl) .nil))))))) (.row rfl (.cons (.d rfl) (.cons (.d rfl) (.cons (.d rfl) (.cons (.d rfl) (.cons (.d rfl) (.cons (.d rfl) (.cons (.d rfl) .nil))))))) (.row rfl (.cons (.d rfl) (.cons (.d rfl) (.cons (.d rfl) (.cons (.d rfl) .nil)))) (.tok rfl .nil)))))⟩ ?_
        refine AW.seqR ?_
        refine AL.s rfl (op_moveD (.e rfl)) ?_
        refine AL.s rfl (op_neq (.r rfl) (.r rfl)) ?_
        refine AL.nil ?_
        refine AW.cond (b := _) rfl (fun hc3 => ?_) (fun hc3 => ?_)
        · replace hm := iteT hc3 hm
          refine AW.seqR ?_
          refine AL.s rfl (op_moveD (.e rfl)) ?_
          refine AL.s rfl (op_moveD (.e rfl)) ?_
          refine AL.s rfl (op_subw (.r rfl) (.r rfl)) ?_
          obtain ⟨v7, hv7, hm⟩ := bindE hm
          refine AL.s rfl (op_indexA (l := a1.l) (s := 6) (.e rfl) (.r rfl) hv7 rfl Tryz.underlying49 ⟨_, rfl, rfl⟩) ?_
          obtain ⟨v8, hv8, hm⟩ := bindE hm
          refine AL.s rfl (op_indexA (l := v7.l) (s := 2) (.e rfl) (.r rfl) hv8 rfl Tryz.underlying47 ⟨_, rfl, rfl⟩) ?_
          refine AL.s rfl (op_loadAtA (X := (A7.e a1).cells) (.e rfl) rfl (AtD.ix (f := SRatio.e) (l := v7.l) enSRatio (AtD.ix (f := A3.e) (l := a1.l) enA3 (AtD.root : AtD (A7.e a1).cells 0 _ _) hv7) hv8) ag46) ?_
          refine AL.s rfl (op_alloc (n := 5) zr46 rfl) ?_
          refine AL.s rfl (op_store (.e rfl) (.e rfl) rfl rfl rfl ⟨_, rfl, rfl⟩ rfl (Nat.le_of_ble_eq_true rfl)) ?_
          refine AL.nil ?_
          refine AW.free ?_
          refine AW.drawn [([], []), ([], []), ([], []), ([2], []), ([], []), ([], []), ([], []), ([3], []), ([], []), ([], []), ([], []), ([5], []), ([], []), ([], []), ([], []), ([], []), ([5], []), ([], []), ([], []), ([], []), ([4], [4]), ([], [])] mo (by decide +kernel) ?_
          refine AD.s (ws := []) rfl rfl (fun H' _ hH => op_moveT (.e rfl)) ?_
          refine AD.s (ws := []) rfl rfl (fun H' _ hH => op_moveD (.e rfl)) ?_
          obtain ⟨v9, hv9, hm⟩ := bindE hm
          refine AD.s (ws := []) rfl rfl (fun H' _ hH => op_indexA (l := (⟨([116, 105, 116, 108, 101] : List UInt8), ([97, 117, 116, 104, 111, 114] : List UInt8), ([121, 101, 97, 114] : List UInt8), ([105, 115, 98, 110] : List UInt8), ([108, 97, 110, 103, 117, 97, 103, 101] : List UInt8), ([112, 117, 98, 108, 105, 115, 104, 101, 114] : List UInt8), ([101, 100, 105, 116, 105, 111, 110] : List UInt8)⟩ : A74).l) (s := 1) (.e rfl) (.r rfl) hv9 rfl Tryz.underlying91 ⟨_, rfl, rfl⟩) ?_
          refine AD.s (ws := []) rfl rfl (fun H' _ hH => op_loadAt1 (X := (A74.e (⟨([116, 105, 116, 108, 101] : List UInt8), ([97, 117, 116, 104, 111, 114] : List UInt8), ([121, 101, 97, 114] : List UInt8), ([105, 115, 98, 110] : List UInt8), ([108, 97, 110, 103, 117, 97, 103, 101] : List UInt8), ([112, 117, 98, 108, 105, 115, 104, 101, 114] : List UInt8), ([101, 100, 105, 116, 105, 111, 110] : List UInt8)⟩ : A74)).cells) (.e rfl) ((hH _ (by simp)).trans rfl) (AtD.ix (f := D.str) (l := (⟨([116, 105, 116, 108, 101] : List UInt8), ([97, 117, 116, 104, 111, 114] : List UInt8), ([121, 101, 97, 114] : List UInt8), ([105, 115, 98, 110] : List UInt8), ([108, 97, 110, 103, 117, 97, 103, 101] : List UInt8), ([112, 117, 98, 108, 105, 115, 104, 101, 114] : List UInt8), ([101, 100, 105, 116, 105, 111, 110] : List UInt8)⟩ : A74).l) En.str (AtD.root : AtD (A74.e (⟨([116, 105, 116, 108, 101] : List UInt8), ([97, 117, 116, 104, 111, 114] : List UInt8), ([121, 101, 97, 114] : List UInt8), ([105, 115, 98, 110] : List UInt8), ([108, 97, 110, 103, 117, 97, 103, 101] : List UInt8), ([112, 117, 98, 108, 105, 115, 104, 101, 114] : List UInt8), ([101, 100, 105, 116, 105, 111, 110] : List UInt8)⟩ : A74)).cells 0 _ _) hv9) sc9) ?_
          obtain ⟨v10, hv10, hm⟩ := bindE hm
          refine AD.s (ws := []) rfl rfl (fun H' _ hH => op_addSM (.r rfl) (.r rfl) hv10) ?_
          refine AD.s (ws := []) rfl rfl (fun H' _ hH => op_moveD (.e rfl)) ?_
          obtain ⟨v11, hv11, hm⟩ := bindE hm
          refine AD.s (ws := []) rfl rfl (fun H' _ hH => op_indexA (l := (⟨([] : List UInt8), ([97, 103, 114, 101, 101, 115] : List UInt8), ([110, 101, 97, 114] : List UInt8), ([100, 105, 102, 102, 101, 114, 115] : List UInt8)⟩ : A4).l) (s := 1) (.e rfl) (.r rfl) hv11 rfl Tryz.underlying92 ⟨_, rfl, rfl⟩) ?_
          refine AD.s (ws := []) rfl rfl (fun H' _ hH => op_loadAt1 (X := (A4.e (⟨([] : List UInt8), ([97, 103, 114, 101, 101, 115] : List UInt8), ([110, 101, 97, 114] : List UInt8), ([100, 105, 102, 102, 101, 114, 115] : List UInt8)⟩ : A4)).cells) (.e rfl) ((hH _ (by simp)).trans rfl) (AtD.ix (f := D.str) (l := (⟨([] : List UInt8), ([97, 103, 114, 101, 101, 115] : List UInt8), ([110, 101, 97, 114] : List UInt8), ([100, 105, 102, 102, 101, 114, 115] : List UInt8)⟩ : A4).l) En.str (AtD.root : AtD (A4.e (⟨([] : List UInt8), ([97, 103, 114, 101, 101, 115] : List UInt8), ([110, 101, 97, 114] : List UInt8), ([100, 105, 102, 102, 101, 114, 115] : List UInt8)⟩ : A4)).cells 0 _ _) hv11) sc9) ?_
          obtain ⟨v12, hv12, hm⟩ := bindE hm
          refine AD.s (ws := []) rfl rfl (fun H' _ hH => op_addSM (.r rfl) (.r rfl) hv12) ?_
          obtain ⟨v13, hv13, hm⟩ := bindE hm
          refine AD.s (ws := []) rfl rfl (fun H' _ hH => op_addSM (.r rfl) (.r rfl) hv13) ?_
          refine AD.s (ws := []) rfl rfl (fun H' _ hH => op_field_ptr (.e rfl) fd46_0) ?_
          refine AD.s (ws := []) rfl rfl (fun H' _ hH => op_load_ptr1 (.e rfl) ((hH _ (by simp)).trans rfl) rfl sc3) ?_
          obtain ⟨v14, hv14, hm⟩ := bindE hm
          refine AD.s (ws := []) rfl rfl (fun H' _ hH => op_fn Tryz.call13 (.e rfl) (.cons (.r rfl) .nil) (itoaM_fn hv14)) ?_
          obtain ⟨v15, hv15, hm⟩ := bindE hm
          refine AD.s (ws := []) rfl rfl (fun H' _ hH => op_addSM (.r rfl) (.r rfl) hv15) ?_
          obtain ⟨v16, hv16, hm⟩ := bindE hm
          refine AD.s (ws := []) rfl rfl (fun H' _ hH => op_addSM (.r rfl) (.r rfl) hv16) ?_
          refine AD.s (ws := []) rfl rfl (fun H' _ hH => op_field_ptr (.e rfl) fd46_1) ?_
          refine AD.s (ws := []) rfl rfl (fun H' _ hH => op_load_ptr1 (.e rfl) ((hH _ (by simp)).trans rfl) rfl sc3) ?_
          obtain ⟨v17, hv17, hm⟩ := bindE hm
          refine AD.s (ws := []) rfl rfl (fun H' _ hH => op_fn Tryz.call13 (.e rfl) (.cons (.r rfl) .nil) (itoaM_fn hv17)) ?_
          obtain ⟨v18, hv18, hm⟩ := bindE hm
          refine AD.s (ws := []) rfl rfl (fun H' _ hH => op_addSM (.r rfl) (.r rfl) hv18) ?_
          refine AD.s (ws := []) rfl rfl (fun H' _ hH => op_buildSlice (ds := ([v18] : List (List UInt8)).map D.str) sl24 (.cons (.r rfl) rfl (En.str.one _) .nil) rfl (by decide)) ?_
          obtain ⟨v19, hv19, hm⟩ := bindE hm
          refine AD.s (ws := [(4, _)]) rfl rfl (fun H' _ hH => op_appendM (f := D.str) (l' := ([v18] : List (List UInt8))) sl24 (.e rfl) (.r rfl) ((hH _ (by simp)).trans rfl) rfl En.str hv19) ?_
          refine AD.s (ws := []) rfl rfl (fun H' _ hH => op_assignT (.e rfl)) ?_
          refine AD.nil ?_
          refine bq_n ?_
          obtain rfl := Option.some.inj hm
          exact nq ⟨_, rfl, ⟨[0, 1, 2, 3, 4], rfl, rfl, rfl, ⟨(.ptr rfl), (.ptr rfl), (.ptr rfl), (.tk rfl), (.d rfl), (.d rfl), trivial⟩, trivial, (.row rfl (cd (A7.e a1).cells) (.row rfl (.cons (.d rfl) (.cons (.d rfl) (.cons (.d rfl) (.cons (.d rfl) (.cons (.d rfl) (.cons (.d rfl) (.cons (.d rfl) .nil))))))) (.row rfl (.cons (.d rfl) (.cons (.d rfl) (.cons (.d rfl) (.cons (.d rfl) (.cons (.d rfl) (.cons (.d rfl) (.cons (.d rfl) .nil))))))) (.row rfl (.cons (.d rfl) (.cons (.d rfl) (.cons (.d rfl) (.cons (.d rfl) .nil)))) (.tok rfl .nil)))))⟩⟩
        · replace hm := iteF hc3 hm
          refine AW.skip ?_
          refine bq_n ?_
          obtain rfl := Option.some.inj hm
          exact nq ⟨_, rfl, ⟨[0, 1, 2, 3, 4], rfl, rfl, rfl, ⟨(.ptr rfl), (.ptr rfl), (.ptr rfl), (.tk rfl), (.d rfl), (.d rfl), trivial⟩, trivial, (.row rfl (cd (A7.e a1).cells) (.row rfl (.cons (.d rfl) (.cons (.d rfl) (.cons (.d rfl) (.cons (.d rfl) (.cons (.d rfl) (.cons (.d rfl) (.cons (.d rfl) .nil))))))) (.row rfl (.cons (.d rfl) (.cons (.d rfl) (.cons (.d rfl) (.cons (.d rfl) (.cons (.d rfl) (.cons (.d rfl) (.cons (.d rfl) .nil))))))) (.row rfl (.cons (.d rfl) (.cons (.d rfl) (.cons (.d rfl) (.cons (.d rfl) .nil)))) (.tok rfl .nil)))))⟩⟩
      · rintro s20 rfl
        replace hm := hkj1
        try dsimp only at hm
        refine AW.region ?_
        refine AL.s rfl (op_addw (.r rfl) (.r rfl)) ?_
        refine AL.s rfl (op_moveD (.e rfl)) ?_
        refine AL.nil ?_
        obtain rfl := Option.some.inj hm
        exact nq ⟨_, hI1, ⟨[0, 1, 2, 3, 4], rfl, rfl, rfl, ⟨(.ptr rfl), (.ptr rfl), (.ptr rfl), (.tk rfl), (.d rfl), (.d rfl), trivial⟩, trivial, (.row rfl (cd (A7.e a1).cells) (.row rfl (.cons (.d rfl) (.cons (.d rfl) (.cons (.d rfl) (.cons (.d rfl) (.cons (.d rfl) (.cons (.d rfl) (.cons (.d rfl) .nil))))))) (.row rfl (.cons (.d rfl) (.cons (.d rfl) (.cons (.d rfl) (.cons (.d rfl) (.cons (.d rfl) (.cons (.d rfl) (.cons (.d rfl) .nil))))))) (.row rfl (.cons (.d rfl) (.cons (.d rfl) (.cons (.d rfl) (.cons (.d rfl) .nil)))) (.tok rfl .nil)))))⟩⟩
    · replace hm := iteF hc2 hm
      refine AW.exit ?_
      refine tq_exit ?_
      refine tq_exit ?_
      obtain rfl := Option.some.inj hm
      obtain rfl := Option.some.inj hI1
      replace hm := hk1
      try dsimp only at hm
      refine bq_hit ?_
      refine nq ?_
      refine AW.seqR ?_
      refine AL.s rfl (op_moveT (.e rfl)) ?_
      refine AL.s rfl (op_assignT (.e rfl)) ?_
      refine AL.s rfl (op_assignD (.e rfl)) ?_
      refine AL.nil ?_
      refine AW.ret ?_
      obtain rfl := Option.some.inj hm
      exact EndQ.d (.tmp (.e rfl) (.tmp (.e rfl) .nil)) rfl rfl

set_option maxHeartbeats 20000000 in
theorem m_evidence_Print_ok {n : Nat} {a1 : (List SLink)} {r : ((List (List UInt8)) × Int)} (hm : m_evidence_Print n a1 = some r) : Fn Tryz.prog 5 [(.sl (a1.map SLink.e))] (.tup [(.sl (r.1.map D.str)), (.int .i64 r.2)]) := by
  unfold m_evidence_Print at hm
  refine Fn.of_AW (fnn := Tryz.f5) Tryz.func5 rfl (Nat.le_of_ble_eq_true rfl) (fun g0 w0 hw0 => ?_)
  refine AW.reset 0 [(0, .d (.sl (a1.map SLink.e)))] [] (WOK.g0 hw0 (by simp)) ⟨[], rfl, rfl, rfl, ⟨(.d rfl), trivial⟩, trivial, .nil⟩ ?_
  refine AW.seqR ?_
  refine AL.s rfl (op_assignN (.e rfl)) ?_
  refine AL.s rfl (op_assignD (.e rfl)) ?_
  refine AL.nil ?_
  refine AW.seqR ?_
  refine AL.s rfl (op_assignN (.e rfl)) ?_
  refine AL.nil ?_
  refine AW.seq ?_
  refine AW.seqR ?_
  refine AL.s rfl (op_moveD (.e rfl)) ?_
  refine AL.s rfl (op_lenM (f := SLink.e) (.r rfl) sl28) ?_
  refine AL.s rfl (op_moveD (.e rfl)) ?_
  refine AL.nil ?_
  refine AW.block ?_
  refine AW.tokenize (n := 0) 4 9 1 rfl rfl (by simp) ?_
  obtain ⟨t_1, hI1, hk1⟩ := bindE hm
  refine AW.loopS (σ := ((List (List UInt8)) × Int)) (τ := (((List (List UInt8)) × Int) ⊕ (List (List UInt8)))) 0 (fun x => [(4, .tk 0 (x.1.map D.str)), (10, .d (.sl (a1.map SLink.e))), (11, .d (.int .i64 (a1.length : Int))), (12, .d (.int .i64 x.2))]) (fun x => [.tok x.1.length 9 1]) hI1 (WOK.g0 hw0 (by simp)) ⟨[0], rfl, rfl, rfl, ⟨(.tk rfl), (.d rfl), (.d rfl), (.d rfl), trivial⟩, trivial, (.tok rfl .nil)⟩ ?_
  rintro n1 ⟨s2, s3⟩ hI1
  obtain ⟨y_1, hm, hI1⟩ := iterS hI1
  replace hm : m_evidence_Print_L1 n _ s2 s3 = some y_1 := hm
  unfold m_evidence_Print_L1 at hm
  try dsimp only at hm
  refine AW.seqR ?_
  refine AL.s rfl (op_lss (.r rfl) (.r rfl)) ?_
  refine AL.nil ?_
  refine AW.seq ?_
  refine AW.cond (b := _) rfl (fun hc1 => ?_) (fun hc1 => ?_)
  · replace hm := iteT hc1 hm
    refine AW.skip ?_
    refine nq ?_
    refine AW.seq ?_
    refine AW.block ?_
    refine AW.seqR ?_
    obtain ⟨v4, hv4, hm⟩ := bindE hm
    refine AL.s rfl (op_indexAddrM (f := SLink.e) (.r rfl) (.r rfl) hv4 enSLink sl28) ?_
    refine AL.s rfl (op_loadA (.e rfl) rfl ag43) ?_
    refine AL.s rfl (op_alloc (n := 1) zr43 rfl) ?_
    refine AL.s rfl (op_store (.e rfl) (.e rfl) rfl rfl rfl ⟨_, rfl, rfl⟩ rfl (Nat.le_of_ble_eq_true rfl)) ?_
    refine AL.nil ?_
    refine AW.seqD [([], []), ([], []), ([1], []), ([], []), ([], []), ([], []), ([], []), ([], []), ([], [])] mo (by decide +kernel) ?_
    obtain ⟨v5, hv5, hm⟩ := bindE hm
    refine AD.s (ws := []) rfl rfl (fun H' _ hH => op_fn Tryz.call12 (.e rfl) .nil (m_match_Works_ok hv5)) ?_
    refine AD.s (ws := []) rfl rfl (fun H' _ hH => op_field_ptr (.e rfl) fd43_3) ?_
    refine AD.s (ws := []) rfl rfl (fun H' _ hH => op_load_ptrA (.e rfl) ((hH _ (by simp)).trans rfl) rfl rfl ag41) ?_
    obtain ⟨v6, hv6, hm⟩ := bindE hm
    refine AD.s (ws := []) rfl rfl (fun H' _ hH => op_fn Tryz.call11 (.e rfl) (.cons (.r rfl) (.cons (.r rfl) .nil)) (m_match_Explain_ok hv6)) ?_
    refine AD.s (ws := []) rfl rfl (fun H' _ hH => op_moveD (.e rfl)) ?_
    refine AD.s (ws := []) rfl rfl (fun H' _ hH => op_extractD (.e rfl) rfl) ?_
    refine AD.s (ws := []) rfl rfl (fun H' _ hH => op_extractD (.e rfl) rfl) ?_
    refine AD.s (ws := []) rfl rfl (fun H' _ hH => op_assignD (.e rfl)) ?_
    refine AD.s (ws := []) rfl rfl (fun H' _ hH => op_assignD (.e rfl)) ?_
    refine AD.nil ?_
    refine AW.seq ?_
    refine AW.seqR ?_
    refine AL.s rfl (op_moveD (.e rfl)) ?_
    refine AL.s rfl (op_neq (.r rfl) (.r rfl)) ?_
    refine AL.nil ?_
    refine AW.cond (b := _) rfl (fun hc2 => ?_) (fun hc2 => ?_)
    · replace hm := iteT hc2 hm
      refine AW.seqR ?_
      refine AL.s rfl (op_moveD (.e rfl)) ?_
      refine AL.s rfl (op_assignN (.e rfl)) ?_
      refine AL.s rfl (op_assignD (.e rfl)) ?_
      refine AL.nil ?_
      refine AW.ret ?_
      refine tq_ret ?_
      refine bq_ret ?_
      refine tq_ret ?_
      refine tq_ret ?_
      obtain rfl := Option.some.inj hm
      obtain rfl := Option.some.inj hI1
      replace hm := hk1
      try dsimp only at hm
      refine bq_ret ?_
      refine tq_ret ?_
      obtain rfl := Option.some.inj hm
      exact EndQ.d (.tmp (.e rfl) (.tmp (.e rfl) .nil)) rfl rfl
    · replace hm := iteF hc2 hm
      refine AW.skip ?_
      refine nq ?_
      refine AW.seqD [([], []), ([1], []), ([], []), ([], []), ([], []), ([1], []), ([], []), ([], []), ([], [])] mo (by decide +kernel) ?_
      refine AD.s (ws := []) rfl rfl (fun H' _ hH => op_field_ptr (.e rfl) fd43_0) ?_
      refine AD.s (ws := []) rfl rfl (fun H' _ hH => op_load_ptr1 (.e rfl) ((hH _ (by simp)).trans rfl) rfl sc3) ?_
      obtain ⟨v7, hv7, hm⟩ := bindE hm
      refine AD.s (ws := []) rfl rfl (fun H' _ hH => op_fn Tryz.call13 (.e rfl) (.cons (.r rfl) .nil) (itoaM_fn hv7)) ?_
      obtain ⟨v8, hv8, hm⟩ := bindE hm
      refine AD.s (ws := []) rfl rfl (fun H' _ hH => op_addSM (.r rfl) (.r rfl) hv8) ?_
      refine AD.s (ws := []) rfl rfl (fun H' _ hH => op_field_ptr (.e rfl) fd43_1) ?_
      refine AD.s (ws := []) rfl rfl (fun H' _ hH => op_load_ptr1 (.e rfl) ((hH _ (by simp)).trans rfl) rfl sc3) ?_
      obtain ⟨v9, hv9, hm⟩ := bindE hm
      refine AD.s (ws := []) rfl rfl (fun H' _ hH => op_fn Tryz.call13 (.e rfl) (.cons (.r rfl) .nil) (itoaM_fn hv9)) ?_
      obtain ⟨v10, hv10, hm⟩ := bindE hm
      refine AD.s (ws := []) rfl rfl (fun H' _ hH => op_addSM (.r rfl) (.r rfl) hv10) ?_
      refine AD.s (ws := []) rfl rfl (fun H' _ hH => op_assignD (.e rfl)) ?_
      refine AD.nil ?_
      obtain ⟨t_j1, hm, hkj1⟩ := bindE hm
      refine AW.cutS (α := (List UInt8)) 0 (fun x => x = t_j1) (fun x => [(4, .tk 0 (s2.map D.str)), (9, .d (.str x)), (10, .d (.sl (a1.map SLink.e))), (11, .d (.int .i64 (a1.length : Int))), (12, .d (.int .i64 s3))]) (fun x => [.tok s2.length 9 1, .row ((SLink.e v4).cells.map .d)]) (WOK.g0 hw0 (by simp)) ?_ ?_
      · skip
        refine AW.reset 0 [(4, .tk 0 (s2.map D.str)), (6, .ptr 1 0), (7, .d (.sl (v6.1.map D.str))), (9, .d (.str v10)), (10, .d (.sl (a1.map SLink.e))), (11, .d (.int .i64 (a1.length : Int))), (12, .d (.int .i64 s3))] [.tok s2.length 9 1, .row ((SLink.e v4).cells.map .d)] (WOK.g0 hw0 (by simp)) ⟨[0, 1], rfl, rfl, rfl, ⟨(.tk rfl), (.ptr rfl), (.d rfl), (.d rfl), (.d rfl), (.d rfl), (.d rfl), trivial⟩, trivial, (.tok rfl (.row rfl (cd (SLink.e v4).cells) .nil))⟩ ?_
        refine AW.seqR ?_
        refine AL.s rfl (op_field_ptr (.e rfl) fd43_2) ?_
        refine AL.s rfl (op_load_ptr1 (.e rfl) rfl rfl sc4) ?_
        refine AL.nil ?_
        refine AW.cond (b := _) rfl (fun hc3 => ?_) (fun hc3 => ?_)
        · replace hm := iteT hc3 hm
          refine AW.region ?_
          refine AL.s rfl (op_moveD (.e rfl)) ?_
          obtain ⟨v11, hv11, hm⟩ := bindE hm
          refine AL.s rfl (op_addSM (.r rfl) (.r rfl) hv11) ?_
          refine AL.s rfl (op_assignD (.e rfl)) ?_
          refine AL.nil ?_
          obtain rfl := Option.some.inj hm
          exact nq ⟨_, rfl, ⟨[0, 1], rfl, rfl, rfl, ⟨(.tk rfl), (.d rfl), (.d rfl), (.d rfl), (.d rfl), trivial⟩, trivial, (.tok rfl (.row rfl (cd (SLink.e v4).cells) .nil))⟩⟩
        · replace hm := iteF hc3 hm
          refine AW.region ?_
          refine AL.s rfl (op_moveD (.e rfl)) ?_
          refine AL.s rfl (op_field_ptr (.e rfl) fd43_4) ?_
          refine AL.s rfl (op_load_ptr1 (.e rfl) rfl rfl sc3) ?_
          obtain ⟨v12, hv12, hm⟩ := bindE hm
          refine AL.s rfl (op_fn Tryz.call13 (.e rfl) (.cons (.r rfl) .nil) (itoaM_fn hv12)) ?_
          obtain ⟨v13, hv13, hm⟩ := bindE hm
          refine AL.s rfl (op_addSM (.r rfl) (.r rfl) hv13) ?_
          obtain ⟨v14, hv14, hm⟩ := bindE hm
          refine AL.s rfl (op_addSM (.r rfl) (.r rfl) hv14) ?_
          refine AL.s rfl (op_moveD (.e rfl)) ?_
          obtain ⟨v15, hv15, hm⟩ := bindE hm
          refine AL.s rfl (op_fn Tryz.call14 (.e rfl) (.cons (.r rfl) (.cons (.r rfl) .nil)) (joinM_fn hv15)) ?_
          obtain ⟨v16, hv16, hm⟩ := bindE hm
          refine AL.s rfl (op_addSM (.r rfl) (.r rfl) hv16) ?_
          obtain ⟨v17, hv17, hm⟩ := bindE hm
          refine AL.s rfl (op_addSM (.r rfl) (.r rfl) hv17) ?_
          refine AL.s rfl (op_assignD (.e rfl)) ?_
          refine AL.nil ?_
          obtain rfl := Option.some.inj hm
          exact nq ⟨_, rfl, ⟨[0, 1], rfl, rfl, rfl, ⟨(.tk rfl), (.d rfl), (.d rfl), (.d rfl), (.d rfl), trivial⟩, trivial, (.tok rfl (.row rfl (cd (SLink.e v4).cells) .nil))⟩⟩
      · rintro s18 rfl
        replace hm := hkj1
        try dsimp only at hm
        refine AW.region ?_
        refine AL.s rfl (op_moveT (.e rfl)) ?_
        refine AL.s rfl (op_moveD (.e rfl)) ?_
        refine AL.s rfl (op_buildSlice (ds := ([s18] : List (List UInt8)).map D.str) sl24 (.cons (.r rfl) rfl (En.str.one _) .nil) rfl (by decide)) ?_
        obtain ⟨v19, hv19, hm⟩ := bindE hm
        refine AL.s rfl (op_appendM (f := D.str) (l' := ([s18] : List (List UInt8))) sl24 (.e rfl) (.r rfl) rfl rfl En.str hv19) ?_
        refine AL.s rfl (op_assignT (.e rfl)) ?_
        refine AL.nil ?_
        refine bq_n ?_
        refine nq ?_
        refine AW.region ?_
        refine AL.s rfl (op_addw (.r rfl) (.r rfl)) ?_
        refine AL.s rfl (op_moveD (.e rfl)) ?_
        refine AL.nil ?_
        obtain rfl := Option.some.inj hm
        exact nq ⟨_, hI1, ⟨[0], rfl, rfl, rfl, ⟨(.tk rfl), (.d rfl), (.d rfl), (.d rfl), trivial⟩, trivial, (.tok rfl .nil)⟩⟩
  · replace hm := iteF hc1 hm
    refine AW.exit ?_
    refine tq_exit ?_
    refine tq_exit ?_
    obtain rfl := Option.some.inj hm
    obtain rfl := Option.some.inj hI1
    replace hm := hk1
    try dsimp only at hm
    refine bq_hit ?_
    refine nq ?_
    refine AW.seqR ?_
    refine AL.s rfl (op_moveT (.e rfl)) ?_
    refine AL.s rfl (op_assignT (.e rfl)) ?_
    refine AL.s rfl (op_assignD (.e rfl)) ?_
    refine AL.nil ?_
    refine AW.ret ?_
    obtain rfl := Option.some.inj hm
    exact EndQ.d (.tmp (.e rfl) (.tmp (.e rfl) .nil)) rfl rfl

set_option maxHeartbeats 20000000 in
theorem m_ref31_model_ok {n : Nat} {a1 : A72} {r : A7} (hm : m_ref31_model n a1 = some r) : Fn Tryz.prog 41 [(A72.e a1)] (A7.e r) := by
  unfold m_ref31_model at hm
  refine Fn.of_AW (fnn := Tryz.f41) Tryz.func41 rfl (Nat.le_of_ble_eq_true rfl) (fun g0 w0 hw0 => ?_)
  refine AW.reset 0 [(0, .d (A72.e a1))] [] (WOK.g0 hw0 (by simp)) ⟨[], rfl, rfl, rfl, ⟨(.d rfl), trivial⟩, trivial, .nil⟩ ?_
  refine AW.seqR ?_
  refine AL.s rfl (op_box (n := 0) (.e rfl) rfl rfl rfl) ?_
  refine AL.s rfl (op_alloc (n := 1) zr60 rfl) ?_
  refine AL.nil ?_
  refine AW.seqR ?_
  refine AL.s rfl (op_alloc (n := 2) zr60 rfl) ?_
  refine AL.nil ?_
  refine AW.seq ?_
  refine AW.seqR ?_
  refine AL.s rfl (op_assignD (.e rfl)) ?_
  refine AL.nil ?_
  refine AW.block ?_
  obtain ⟨t_1, hI1, hk1⟩ := bindE hm
  refine AW.loopS (σ := (Int × A7)) (τ := A7) 0 (fun x => [(1, .ptr 0 0), (2, .ptr 1 0), (3, .ptr 2 0), (4, .d (.int .i64 x.1))]) (fun x => [.row ((A72.e a1).cells.map .d), .row [.d (.int .i64 (0 : Int)), .d (.int .i64 (0 : Int)), .d (.int .i64 (0 : Int)), .d (.int .i64 (0 : Int)), .d (.int .i64 (0 : Int)), .d (.int .i64 (0 : Int)), .d (.int .i64 (0 : Int)), .d (.int .i64 (0 : Int)), .d (.int .i64 (0 : Int)), .d (.int .i64 (0 : Int)), .d (.int .i64 (0 : Int)), .d (.int .i64 (0 : Int)), .d (.int .i64 (0 : Int)), .d (.int .i64 (0 : Int)), .d (.int .i64 (0 : Int)), .d (.int .i64 (0 : Int)), .d (.int .i64 (0 : Int)), .d (.int .i64 (0 : Int)), .d (.int .i64 (0 : Int)), .d (.int .i64 (0 : Int)), .d (.int .i64 (0 : Int)), .d (.int .i64 (0 : Int)), .d (.int .i64 (0 : Int)), .d (.int .i64 (0 : Int)), .d (.int .i64 (0 : Int)), .d (.int .i64 (0 : Int)), .d (.int .i64 (0 : Int)), .d (.int .i64 (0 : Int)), .d (.int .i64 (0 : Int)), .d (.int .i64 (0 : Int)), .d (.int .i64 (0 : Int)), .d (.int .i64 (0 : Int)), .d (.int .i64 (0 : Int)), .d (.int .i64 (0 : Int)), .d (.int .i64 (0 : Int)), .d (.int .i64 (0 : Int)), .d (.int .i64 (0 : Int)), .d (.int .i64 (0 : Int)), .d (.int .i64 (0 : Int)), .d (.int .i64 (0 : Int)), .d (.int .i64 (0 : Int)), .d (.int .i64 (0 : Int))], .row ((A7.e x.2).cells.map .d)]) hI1 (WOK.g0 hw0 (by simp)) ⟨[0, 1, 2], rfl, rfl, rfl, ⟨(.ptr rfl), (.ptr rfl), (.ptr rfl), (.d rfl), trivial⟩, trivial, (.row rfl (cd (A72.e a1).cells) (.row rfl (.cons (.d rfl) (.cons (.d rfl) (.cons (.d rfl) (.cons (.d rfl) (.cons (.d rfl) (.cons (.d rfl) (.cons (.d rfl) (.cons (.d rfl) (.cons (.d rfl) (.cons (.d rfl) (.cons (.d rfl) (.cons (.d rfl) (.cons (.d rfl) (.cons (.d rfl) (.cons (.d rfl) (.cons (.d rfl) (.cons (.d rfl) (.cons (.d rfl) (.cons (.d rfl) (.cons (.d rfl) (.cons (.d rfl) (.cons (.d rfl) (.cons (.d rfl) (.cons (.d rfl) (.cons (.d rfl) (.cons (.d rfl) (.cons (.d rfl) (.cons (.d rfl) (.cons (.d rfl) (.cons (.d rfl) (.cons (.d rfl) (.cons (.d rfl) (.cons (.d rfl) (.cons (.d rfl) (.cons (.d rfl) (.cons (.d rfl) (.cons (.d rfl) (.cons (.d rfl) (.cons (.d rfl) (.cons (.d rfl) (.cons (.d rfl) (.cons (.d rfl) .nil)))))))))))))))))))))))))))))))))))))))))) (.row rfl (.cons (.d rfl) (.cons (.d rfl) (.cons (.d rfl) (.cons (.d rfl) (.cons (.d rfl) (.cons (.d rfl) (.cons (.d rfl) (.cons (.d rfl) (.cons (.d rfl) (.cons (.d rfl) (.cons (.d rfl) (.cons (.d rfl) (.cons (.d rfl) (.cons (.d rfl) (.cons (.d rfl) (.cons (.d rfl) (.cons (.d rfl) (.cons (.d rfl) (.cons (.d rfl) (.cons (.d rfl) (.cons (.d rfl) (.cons (.d rfl) (.cons (.d rfl) (.cons (.d rfl) (.cons (.d rfl) (.cons (.d rfl) (.cons (.d rfl) (.cons (.d rfl) (.cons (.d rfl) (.cons (.d rfl) (.cons (.d rfl) (.cons (.d rfl) (.cons (.d rfl) (.cons (.d rfl) (.cons (.d rfl) (.cons (.d rfl) (.cons (.d rfl) (.cons (.d rfl) (.cons (.d rfl) (.cons (.d rfl) (.cons (.d rfl) (.cons (.d rfl) .nil)))))))))))))))))))))))))))))))))))))))))) .nil)))⟩ ?_
  rintro n1 ⟨s2, s3⟩ hI1
  obtain ⟨y_1, hm, hI1⟩ := iterS hI1
  replace hm : m_ref31_model_L1 n _ s2 s3 = some y_1 := hm
  unfold m_ref31_model_L1 at hm
  try dsimp only at hm
  refine AW.seq ?_
  refine AW.seqR ?_
  refine AL.s rfl (op_moveD (.e rfl)) ?_
  refine AL.s rfl (op_lss (.r rfl) (.r rfl)) ?_
  refine AL.nil ?_
  refine AW.cond (b := _) rfl (fun hc1 => ?_) (fun hc1 => ?_)
  · replace hm := iteT hc1 hm
    refine AW.skip ?_
    refine nq ?_
    refine AW.seq ?_
    refine AW.block ?_
    refine AW.seqR ?_
    refine AL.s rfl (op_assignD (.e rfl)) ?_
    refine AL.nil ?_
    refine AW.block ?_
    obtain ⟨t_2, hI2, hk2⟩ := bindE hm
    refine AW.loopS (σ := (Int × A7)) (τ := A7) 0 (fun x => [(1, .ptr 0 0), (2, .ptr 1 0), (3, .ptr 2 0), (4, .d (.int .i64 s2)), (5, .d (.int .i64 x.1))]) (fun x => [.row ((A72.e a1).cells.map .d), .row [.d (.int .i64 (0 : Int)), .d (.int .i64 (0 : Int)), .d (.int .i64 (0 : Int)), .d (.int .i64 (0 : Int)), .d (.int .i64 (0 : Int)), .d (.int .i64 (0 : Int)), .d (.int .i64 (0 : Int)), .d (.int .i64 (0 : Int)), .d (.int .i64 (0 : Int)), .d (.int .i64 (0 : Int)), .d (.int .i64 (0 : Int)), .d (.int .i64 (0 : Int)), .d (.int .i64 (0 : Int)), .d (.int .i64 (0 : Int)), .d (.int .i64 (0 : Int)), .d (.int .i64 (0 : Int)), .d (.int .i64 (0 : Int)), .d (.int .i64 (0 : Int)), .d (.int .i64 (0 : Int)), .d (.int .i64 (0 : Int)), .d (.int .i64 (0 : Int)), .d (.int .i64 (0 : Int)), .d (.int .i64 (0 : Int)), .d (.int .i64 (0 : Int)), .d (.int .i64 (0 : Int)), .d (.int .i64 (0 : Int)), .d (.int .i64 (0 : Int)), .d (.int .i64 (0 : Int)), .d (.int .i64 (0 : Int)), .d (.int .i64 (0 : Int)), .d (.int .i64 (0 : Int)), .d (.int .i64 (0 : Int)), .d (.int .i64 (0 : Int)), .d (.int .i64 (0 : Int)), .d (.int .i64 (0 : Int)), .d (.int .i64 (0 : Int)), .d (.int .i64 (0 : Int)), .d (.int .i64 (0 : Int)), .d (.int .i64 (0 : Int)), .d (.int .i64 (0 : Int)), .d (.int .i64 (0 : Int)), .d (.int .i64 (0 : Int))], .row ((A7.e x.2).cells.map .d)]) hI2 (WOK.g0 hw0 (by simp)) ⟨[0, 1, 2], rfl, rfl, rfl, ⟨(.ptr rfl), (.ptr rfl), (.ptr rfl), (.d rfl), (.d rfl), trivial⟩, trivial, (.row rfl (cd (A72.e a1).cells) (.row rfl (.cons (.d rfl) (.cons (.d rfl) (.cons (.d rfl) (.cons (.d rfl) (.cons (.d rfl) (.cons (.d rfl) (.cons (.d rfl) (.cons (.d rfl) (.cons (.d rfl) (.cons (.d rfl) (.cons (.d rfl) (.cons (.d rfl) (.cons (.d rfl) (.cons (.d rfl) (.cons (.d rfl) (.cons (.d rfl) (.cons (.d rfl) (.cons (.d rfl) (.cons (.d rfl) (.cons (.d rfl) (.cons (.d rfl) (.cons (.d rfl) (.cons (.d rfl) (.cons (.d rfl) (.cons (.d rfl) (.cons (.d rfl) (.cons (.d rfl) (.cons (.d rfl) (.cons (.d rfl) (.cons (.d rfl) (.cons (.d rfl) (.cons (.d rfl) (.cons (.d rfl) (.cons (.d rfl) (.cons (.d rfl) (.cons (.d rfl) (.cons (.d rfl) (.cons (.d rfl) (.cons (.d rfl) (.cons (.d rfl) (.cons (.d rfl) (.cons (.d rfl) .nil)))))))))))))))))))))))))))))))))))))))))) (.row rfl (.cons (.d rfl) (.cons (.d rfl) (.cons (.d rfl) (.cons (.d rfl) (.cons (.d rfl) (.cons (.d rfl) (.cons (.d rfl) (.cons (.d rfl) (.cons (.d rfl) (.cons (.d rfl) (.cons (.d rfl) (.cons (.d rfl) (.cons (.d rfl) (.cons (.d rfl) (.cons (.d rfl) (.cons (.d rfl) (.cons (.d rfl) (.cons (.d rfl) (.cons (.d rfl) (.cons (.d rfl) (.cons (.d rfl) (.cons (.d rfl) (.cons (.d rfl) (.cons (.d rfl) (.cons (.d rfl) (.cons (.d rfl) (.cons (.d rfl) (.cons (.d rfl) (.cons (.d rfl) (.cons (.d rfl) (.cons (.d rfl) (.cons (.d rfl) (.cons (.d rfl) (.cons (.d rfl) (.cons (.d rfl) (.cons (.d rfl) (.cons (.d rfl) (.cons (.d rfl) (.cons (.d rfl) (.cons (.d rfl) (.cons (.d rfl) (.cons (.d rfl) .nil)))))))))))))))))))))))))))))))))))))))))) .nil)))⟩ ?_
    rintro n2 ⟨s4, s5⟩ hI2
    obtain ⟨y_2, hm, hI2⟩ := iterS hI2
    replace hm : m_ref31_model_L2 n _ _ s4 s5 = some y_2 := hm
    unfold m_ref31_model_L2 at hm
    try dsimp only at hm
    refine AW.seq ?_
    refine AW.seqR ?_
    refine AL.s rfl (op_moveD (.e rfl)) ?_
    refine AL.s rfl (op_lss (.r rfl) (.r rfl)) ?_
    refine AL.nil ?_
    refine AW.cond (b := _) rfl (fun hc2 => ?_) (fun hc2 => ?_)
    · replace hm := iteT hc2 hm
      refine AW.skip ?_
      refine nq ?_
      refine AW.seq ?_
      refine AW.block ?_
      refine AW.drawn [([], []), ([], []), ([], []), ([], []), ([], []), ([], []), ([], []), ([0], []), ([], []), ([], []), ([], []), ([], []), ([], []), ([], []), ([0], []), ([], []), ([], []), ([], []), ([2], [2])] mo (by decide +kernel) ?_
      refine AD.s (ws := []) rfl rfl (fun H' _ hH => op_moveD (.e rfl)) ?_
      refine AD.s (ws := []) rfl rfl (fun H' _ hH => op_moveD (.e rfl)) ?_
      refine AD.s (ws := []) rfl rfl (fun H' _ hH => op_moveD (.e rfl)) ?_
      refine AD.s (ws := []) rfl rfl (fun H' _ hH => op_moveD (.e rfl)) ?_
      refine AD.s (ws := []) rfl rfl (fun H' _ hH => op_mulw (.r rfl) (.r rfl)) ?_
      obtain ⟨v6, hv6, hm⟩ := bindE hm
      refine AD.s (ws := []) rfl rfl (fun H' _ hH => op_indexA (l := a1.l) (s := 6) (.e rfl) (.r rfl) hv6 rfl Tryz.underlying95 ⟨_, rfl, rfl⟩) ?_
      obtain ⟨v7, hv7, hm⟩ := bindE hm
      refine AD.s (ws := []) rfl rfl (fun H' _ hH => op_indexA (l := v6.l) (s := 1) (.e rfl) (.r rfl) hv7 rfl Tryz.underlying94 ⟨_, rfl, rfl⟩) ?_
      refine AD.s (ws := []) rfl rfl (fun H' _ hH => op_loadAt1 (X := (A72.e a1).cells) (.e rfl) ((hH _ (by simp)).trans rfl) (AtD.ix (f := D.i) (l := v6.l) En.i (AtD.ix (f := A6.e) (l := a1.l) enA6 (AtD.root : AtD (A72.e a1).cells 0 _ _) hv6) hv7) sc3) ?_
      refine AD.s (ws := []) rfl rfl (fun H' _ hH => op_moveD (.e rfl)) ?_
      refine AD.s (ws := []) rfl rfl (fun H' _ hH => op_moveD (.e rfl)) ?_
      refine AD.s (ws := []) rfl rfl (fun H' _ hH => op_mulw (.r rfl) (.r rfl)) ?_
      refine AD.s (ws := []) rfl rfl (fun H' _ hH => op_addw (.r rfl) (.r rfl)) ?_
      obtain ⟨v8, hv8, hm⟩ := bindE hm
      refine AD.s (ws := []) rfl rfl (fun H' _ hH => op_indexA (l := a1.l) (s := 6) (.e rfl) (.r rfl) hv8 rfl Tryz.underlying95 ⟨_, rfl, rfl⟩) ?_
      obtain ⟨v9, hv9, hm⟩ := bindE hm
      refine AD.s (ws := []) rfl rfl (fun H' _ hH => op_indexA (l := v8.l) (s := 1) (.e rfl) (.r rfl) hv9 rfl Tryz.underlying94 ⟨_, rfl, rfl⟩) ?_
      refine AD.s (ws := []) rfl rfl (fun H' _ hH => op_loadAt1 (X := (A72.e a1).cells) (.e rfl) ((hH _ (by simp)).trans rfl) (AtD.ix (f := D.i) (l := v8.l) En.i (AtD.ix (f := A6.e) (l := a1.l) enA6 (AtD.root : AtD (A72.e a1).cells 0 _ _) hv8) hv9) sc3) ?_
      refine AD.s (ws := []) rfl rfl (fun H' _ hH => op_build bd57 (.cons (.e rfl) rfl rfl rfl rfl (Nat.le_of_ble_eq_true rfl) (.cons (.e rfl) rfl rfl rfl rfl (Nat.le_of_ble_eq_true rfl) .nil))) ?_
      obtain ⟨v10, hv10, hm⟩ := bindE hm
      refine AD.s (ws := []) rfl rfl (fun H' _ hH => op_indexA (l := s5.l) (s := 6) (.e rfl) (.r rfl) hv10 rfl Tryz.underlying60 ⟨_, rfl, rfl⟩) ?_
      obtain ⟨v11, hv11, hm⟩ := bindE hm
      refine AD.s (ws := []) rfl rfl (fun H' _ hH => op_indexA (l := v10.l) (s := 2) (.e rfl) (.r rfl) hv11 rfl Tryz.underlying58 ⟨_, rfl, rfl⟩) ?_
      obtain ⟨v12, hv12, hm⟩ := bindE hm
      obtain ⟨v13, hv13, hm⟩ := bindE hm
      refine AD.s (ws := [(2, _)]) rfl rfl (fun H' _ hH => op_storeAt (X := (A7.e s5).cells) (X' := (A7.e v13).cells) (.e rfl) (.e rfl) ((hH _ (by simp)).trans rfl) (AtD.ix (f := SRatio.e) (l := v10.l) enSRatio (AtD.ix (f := A3.e) (l := s5.l) enA3 (AtD.root : AtD (A7.e s5).cells 0 _ _) hv10) hv11) (PutD.ix (f := SRatio.e) (l := v10.l) (l' := v12.l) enSRatio (AtD.ix (f := A3.e) (l := s5.l) enA3 (AtD.root : AtD (A7.e s5).cells 0 _ _) hv10) (PutD.ix (f := A3.e) (l := s5.l) (l' := v13.l) enA3 (AtD.root : AtD (A7.e s5).cells 0 _ _) (PutD.root rfl : PutD (A7.e s5).cells 0 _ _ (A7.e v13).cells) (A7.put_l hv13)) (A3.put_l hv12)) rfl rfl ⟨_, rfl, rfl⟩) ?_
      refine AD.nil ?_
      refine bq_n ?_
      refine nq ?_
      refine AW.region ?_
      refine AL.s rfl (op_moveD (.e rfl)) ?_
      refine AL.s rfl (op_addw (.r rfl) (.r rfl)) ?_
      refine AL.s rfl (op_assignD (.e rfl)) ?_
      refine AL.nil ?_
      obtain rfl := Option.some.inj hm
      exact nq ⟨_, hI2, ⟨[0, 1, 2], rfl, rfl, rfl, ⟨(.ptr rfl), (.ptr rfl), (.ptr rfl), (.d rfl), (.d rfl), trivial⟩, trivial, (.row rfl (cd (A72.e a1).cells) (.row rfl (.cons (.d rfl) (.cons (.d rfl) (.cons (.d rfl) (.cons (.d rfl) (.cons (.d rfl) (.cons (.d rfl) (.cons (.d rfl) (.cons (.d rfl) (.cons (.d rfl) (.cons (.d rfl) (.cons (.d rfl) (.cons (.d rfl) (.cons (.d rfl) (.cons (.d rfl) (.cons (.d rfl) (.cons (.d rfl) (.cons (.d rfl) (.cons (.d rfl) (.cons (.d rfl) (.cons (.d rfl) (.cons (.d rfl) (.cons (.d rfl) (.cons (.d rfl) (.cons (.d rfl) (.cons (.d rfl) (.cons (.d rfl) (.cons (.d rfl) (.cons (.d rfl) (.cons (.d rfl) (.cons (.d rfl) (.cons (.d rfl) (.cons (.d rfl) (.cons (.d rfl) (.cons (.d rfl) (.cons (.d rfl) (.cons (.d rfl) (.cons (.d rfl) (.cons (.d rfl) (.cons (.d rfl) (.cons (.d rfl) (.cons (.d rfl) (.cons (.d rfl) .nil)))))))))))))))))))))))))))))))))))))))))) (.row rfl (.cons (.d rfl) (.cons (.d rfl) (.cons (.d rfl) (.cons (.d rfl) (.cons (.d rfl) (.cons (.d rfl) (.cons (.d rfl) (.cons (.d rfl) (.cons (.d rfl) (.cons (.d rfl) (.cons (.d rfl) (.cons (.d rfl) (.cons (.d rfl) (.cons (.d rfl) (.cons (.d rfl) (.cons (.d rfl) (.cons (.d rfl) (.cons (.d rfl) (.cons (.d rfl) (.cons (.d rfl) (.cons (.d rfl) (.cons (.d rfl) (.cons (.d rfl) (.cons (.d rfl) (.cons (.d rfl) (.cons (.d rfl) (.cons (.d rfl) (.cons (.d rfl) (.cons (.d rfl) (.cons (.d rfl) (.cons (.d rfl) (.cons (.d rfl) (.cons (.d rfl) (.cons (.d rfl) (.cons (.d rfl) (.cons (.d rfl) (.cons (.d rfl) (.cons (.d rfl) (.cons (.d rfl) (.cons (.d rfl) (.cons (.d rfl) (.cons (.d rfl) .nil)))))))))))))))))))))))))))))))))))))))))) .nil)))⟩⟩
    · replace hm := iteF hc2 hm
      refine AW.exit ?_
      refine tq_exit ?_
      refine tq_exit ?_
      obtain rfl := Option.some.inj hm
      obtain rfl := Option.some.inj hI2
      replace hm := hk2
      try dsimp only at hm
      refine bq_hit ?_
      refine bq_n ?_
      refine nq ?_
      refine AW.region ?_
      refine AL.s rfl (op_moveD (.e rfl)) ?_
      refine AL.s rfl (op_addw (.r rfl) (.r rfl)) ?_
      refine AL.s rfl (op_assignD (.e rfl)) ?_
      refine AL.nil ?_
      obtain rfl := Option.some.inj hm
      exact nq ⟨_, hI1, ⟨[0, 1, 2], rfl, rfl, rfl, ⟨(.ptr rfl), (.ptr rfl), (.ptr rfl), (.d rfl), trivial⟩, trivial, (.row rfl (cd (A72.e a1).cells) (.row rfl (.cons (.d rfl) (.cons (.d rfl) (.cons (.d rfl) (.cons (.d rfl) (.cons (.d rfl) (.cons (.d rfl) (.cons (.d rfl) (.cons (.d rfl) (.cons (.d rfl) (.cons (.d rfl) (.cons (.d rfl) (.cons (.d rfl) (.cons (.d rfl) (.cons (.d rfl) (.cons (.d rfl) (.cons (.d rfl) (.cons (.d rfl) (.cons (.d rfl) (.cons (.d rfl) (.cons (.d rfl) (.cons (.d rfl) (.cons (.d rfl) (.cons (.d rfl) (.cons (.d rfl) (.cons (.d rfl) (.cons (.d rfl) (.cons (.d rfl) (.cons (.d rfl) (.cons (.d rfl) (.cons (.d rfl) (.cons (.d rfl) (.cons (.d rfl) (.cons (.d rfl) (.cons (.d rfl) (.cons (.d rfl) (.cons (.d rfl) (.cons (.d rfl) (.cons (.d rfl) (.cons (.d rfl) (.cons (.d rfl) (.cons (.d rfl) (.cons (.d rfl) .nil)))))))))))))))))))))))))))))))))))))))))) (.row rfl (.cons (.d rfl) (.cons (.d rfl) (.cons (.d rfl) (.cons (.d rfl) (.cons (.d rfl) (.cons (.d rfl) (.cons (.d rfl) (.cons (.d rfl) (.cons (.d rfl) (.cons (.d rfl) (.cons (.d rfl) (.cons (.d rfl) (.cons (.d rfl) (.cons (.d rfl) (.cons (.d rfl) (.cons (.d rfl) (.cons (.d rfl) (.cons (.d rfl) (.cons (.d rfl) (.cons (.d rfl) (.cons (.d rfl) (.cons (.d rfl) (.cons (.d rfl) (.cons (.d rfl) (.cons (.d rfl) (.cons (.d rfl) (.cons (.d rfl) (.cons (.d rfl) (.cons (.d rfl) (.cons (.d rfl) (.cons (.d rfl) (.cons (.d rfl) (.cons (.d rfl) (.cons (.d rfl) (.cons (.d rfl) (.cons (.d rfl) (.cons (.d rfl) (.cons (.d rfl) (.cons (.d rfl) (.cons (.d rfl) (.cons (.d rfl) (.cons (.d rfl) .nil)))))))))))))))))))))))))))))))))))))))))) .nil)))⟩⟩
  · replace hm := iteF hc1 hm
    refine AW.exit ?_
    refine tq_exit ?_
    refine tq_exit ?_
    obtain rfl := Option.some.inj hm
    obtain rfl := Option.some.inj hI1
    replace hm := hk1
    try dsimp only at hm
    refine bq_hit ?_
    refine nq ?_
    refine AW.seqR ?_
    refine AL.s rfl (op_load_ptrA (.e rfl) rfl rfl rfl ag60) ?_
    refine AL.s rfl (op_storeA (.e rfl) (.e rfl) rfl rfl ⟨_, rfl, rfl⟩ rfl (Nat.le_of_ble_eq_true rfl)) ?_
    refine AL.nil ?_
    refine AW.ret ?_
    obtain rfl := Option.some.inj hm
    exact EndQ.d (.cellA (.e rfl) rfl rfl rfl ag60 .nil) rfl rfl

set_option maxHeartbeats 20000000 in
theorem m_ref31_Works_ok {n : Nat} {r : A7} (hm : m_ref31_Works n  = some r) : Fn Tryz.prog 16 [] (A7.e r) := by
  unfold m_ref31_Works at hm
  refine Fn.of_AW (fnn := Tryz.f16) Tryz.func16 rfl (Nat.le_of_ble_eq_true rfl) (fun g0 w0 hw0 => ?_)
  refine AW.seqR ?_
  refine AL.s rfl (op_alloc (n := 0) zr60 rfl) ?_
  refine AL.nil ?_
  refine AW.seqR ?_
  refine AL.s rfl (op_buildArrF ba94 (.cons (.e rfl) rfl rfl rfl rfl (Nat.le_of_ble_eq_true rfl) (.cons (.e rfl) rfl rfl rfl rfl (Nat.le_of_ble_eq_true rfl) (.cons (.e rfl) rfl rfl rfl rfl (Nat.le_of_ble_eq_true rfl) (.cons (.e rfl) rfl rfl rfl rfl (Nat.le_of_ble_eq_true rfl) (.cons (.e rfl) rfl rfl rfl rfl (Nat.le_of_ble_eq_true rfl) (.cons (.e rfl) rfl rfl rfl rfl (Nat.le_of_ble_eq_true rfl) .nil)))))) rfl rfl) ?_
  refine AL.s rfl (op_buildArrF ba94 (.cons (.e rfl) rfl rfl rfl rfl (Nat.le_of_ble_eq_true rfl) (.cons (.e rfl) rfl rfl rfl rfl (Nat.le_of_ble_eq_true rfl) (.cons (.e rfl) rfl rfl rfl rfl (Nat.le_of_ble_eq_true rfl) (.cons (.e rfl) rfl rfl rfl rfl (Nat.le_of_ble_eq_true rfl) (.cons (.e rfl) rfl rfl rfl rfl (Nat.le_of_ble_eq_true rfl) (.cons (.e rfl) rfl rfl rfl rfl (Nat.le_of_ble_eq_true rfl) .nil)))))) rfl rfl) ?_
  refine AL.s rfl (op_buildArrF ba94 (.cons (.e rfl) rfl rfl rfl rfl (Nat.le_of_ble_eq_true rfl) (.cons (.e rfl) rfl rfl rfl rfl (Nat.le_of_ble_eq_true rfl) (.cons (.e rfl) rfl rfl rfl rfl (Nat.le_of_ble_eq_true rfl) (.cons (.e rfl) rfl rfl rfl rfl (Nat.le_of_ble_eq_true rfl) (.cons (.e rfl) rfl rfl rfl rfl (Nat.le_of_ble_eq_true rfl) (.cons (.e rfl) rfl rfl rfl rfl (Nat.le_of_ble_eq_true rfl) .nil)))))) rfl rfl) ?_
  refine AL.s rfl (op_buildArrF ba94 (.cons (.e rfl) rfl rfl rfl rfl (Nat.le_of_ble_eq_true rfl) (.cons (.e rfl) rfl rfl rfl rfl (Nat.le_of_ble_eq_true rfl) (.cons (.e rfl) rfl rfl rfl rfl (Nat.le_of_ble_eq_true rfl) (.cons (.e rfl) rfl rfl rfl rfl (Nat.le_of_ble_eq_true rfl) (.cons (.e rfl) rfl rfl rfl rfl (Nat.le_of_ble_eq_true rfl) (.cons (.e rfl) rfl rfl rfl rfl (Nat.le_of_ble_eq_true rfl) .nil)))))) rfl rfl) ?_
  refine AL.s rfl (op_buildArrF ba94 (.cons (.e rfl) rfl rfl rfl rfl (Nat.le_of_ble_eq_true rfl) (.cons (.e rfl) rfl rfl rfl rfl (Nat.le_of_ble_eq_true rfl) (.cons (.e rfl) rfl rfl rfl rfl (Nat.le_of_ble_eq_true rfl) (.cons (.e rfl) rfl rfl rfl rfl (Nat.le_of_ble_eq_true rfl) (.cons (.e rfl) rfl rfl rfl rfl (Nat.le_of_ble_eq_true rfl) (.cons (.e rfl) rfl rfl rfl rfl (Nat.le_of_ble_eq_true rfl) .nil)))))) rfl rfl) ?_
  refine AL.s rfl (op_buildArrF ba94 (.cons (.e rfl) rfl rfl rfl rfl (Nat.le_of_ble_eq_true rfl) (.cons (.e rfl) rfl rfl rfl rfl (Nat.le_of_ble_eq_true rfl) (.cons (.e rfl) rfl rfl rfl rfl (Nat.le_of_ble_eq_true rfl) (.cons (.e rfl) rfl rfl rfl rfl (Nat.le_of_ble_eq_true rfl) (.cons (.e rfl) rfl rfl rfl rfl (Nat.le_of_ble_eq_true rfl) (.cons (.e rfl) rfl rfl rfl rfl (Nat.le_of_ble_eq_true rfl) .nil)))))) rfl rfl) ?_
  refine AL.s rfl (op_buildArrF ba94 (.cons (.e rfl) rfl rfl rfl rfl (Nat.le_of_ble_eq_true rfl) (.cons (.e rfl) rfl rfl rfl rfl (Nat.le_of_ble_eq_true rfl) (.cons (.e rfl) rfl rfl rfl rfl (Nat.le_of_ble_eq_true rfl) (.cons (.e rfl) rfl rfl rfl rfl (Nat.le_of_ble_eq_true rfl) (.cons (.e rfl) rfl rfl rfl rfl (Nat.le_of_ble_eq_true rfl) (.cons (.e rfl) rfl rfl rfl rfl (Nat.le_of_ble_eq_true rfl) .nil)))))) rfl rfl) ?_
  refine AL.s rfl (op_buildArrF ba95 (.cons (.e rfl) rfl rfl rfl rfl (Nat.le_of_ble_eq_true rfl) (.cons (.e rfl) rfl rfl rfl rfl (Nat.le_of_ble_eq_true rfl) (.cons (.e rfl) rfl rfl rfl rfl (Nat.le_of_ble_eq_true rfl) (.cons (.e rfl) rfl rfl rfl rfl (Nat.le_of_ble_eq_true rfl) (.cons (.e rfl) rfl rfl rfl rfl (Nat.le_of_ble_eq_true rfl) (.cons (.e rfl) rfl rfl rfl rfl (Nat.le_of_ble_eq_true rfl) (.cons (.e rfl) rfl rfl rfl rfl (Nat.le_of_ble_eq_true rfl) .nil))))))) rfl rfl) ?_
  obtain ⟨v1, hv1, hm⟩ := bindE hm
  refine AL.s rfl (op_fn Tryz.call41 (.e rfl) (.cons (.r rfl) .nil) (m_ref31_model_ok hv1)) ?_
  refine AL.s rfl (op_store (.e rfl) (.e rfl) rfl rfl rfl ⟨_, rfl, rfl⟩ rfl (Nat.le_of_ble_eq_true rfl)) ?_
  refine AL.nil ?_
  refine AW.ret ?_
  obtain rfl := Option.some.inj hm
  exact EndQ.d (.cellA (.e rfl) rfl rfl rfl ag60 .nil) rfl rfl

set_option maxHeartbeats 20000000 in
theorem m_ref28_Valid_ok {n : Nat} {a1 : (List SRatio)} {r : Bool} (hm : m_ref28_Valid n a1 = some r) : Fn Tryz.prog 121 [(.sl (a1.map SRatio.e))] (.bool r) := by
  unfold m_ref28_Valid at hm
  refine Fn.of_AW (fnn := Tryz.f121) Tryz.func121 rfl (Nat.le_of_ble_eq_true rfl) (fun g0 w0 hw0 => ?_)
  refine AW.reset 0 [(0, .d (.sl (a1.map SRatio.e)))] [] (WOK.g0 hw0 (by simp)) ⟨[], rfl, rfl, rfl, ⟨(.d rfl), trivial⟩, trivial, .nil⟩ ?_
  refine AW.seqR ?_
  refine AL.s rfl (op_assignD (.e rfl)) ?_
  refine AL.nil ?_
  refine AW.seq ?_
  refine AW.seqR ?_
  refine AL.s rfl (op_assignD (.e rfl)) ?_
  refine AL.nil ?_
  refine AW.block ?_
  obtain ⟨t_1, hI1, hk1⟩ := bindE hm
  refine AW.loopS (σ := Int) (τ := (Bool ⊕ Unit)) 0 (fun x => [(0, .d (.sl (a1.map SRatio.e))), (3, .d (.int .i64 x))]) (fun x => []) hI1 (WOK.g0 hw0 (by simp)) ⟨[], rfl, rfl, rfl, ⟨(.d rfl), (.d rfl), trivial⟩, trivial, .nil⟩ ?_
  rintro n1 s2 hI1
  obtain ⟨y_1, hm, hI1⟩ := iterS hI1
  replace hm : m_ref28_Valid_L1 n _ s2 = some y_1 := hm
  unfold m_ref28_Valid_L1 at hm
  try dsimp only at hm
  refine AW.seq ?_
  refine AW.seqR ?_
  refine AL.s rfl (op_moveD (.e rfl)) ?_
  refine AL.s rfl (op_moveD (.e rfl)) ?_
  refine AL.s rfl (op_lenM (f := SRatio.e) (.r rfl) sl106) ?_
  refine AL.s rfl (op_lss (.r rfl) (.r rfl)) ?_
  refine AL.nil ?_
  refine AW.cond (b := _) rfl (fun hc1 => ?_) (fun hc1 => ?_)
  · replace hm := iteT hc1 hm
    refine AW.skip ?_
    refine nq ?_
    refine AW.seq ?_
    refine AW.block ?_
    refine AW.seqR ?_
    refine AL.s rfl (op_moveD (.e rfl)) ?_
    refine AL.s rfl (op_moveD (.e rfl)) ?_
    obtain ⟨v3, hv3, hm⟩ := bindE hm
    refine AL.s rfl (op_indexAddrM (f := SRatio.e) (.r rfl) (.r rfl) hv3 enSRatio sl106) ?_
    refine AL.s rfl (op_field_vp (.e rfl) fd57_0) ?_
    refine AL.s rfl (op_load_vp1 (.e rfl) rfl sc3) ?_
    refine AL.s rfl (op_lss (.r rfl) (.r rfl)) ?_
    refine AL.s rfl (op_moveD (.e rfl)) ?_
    refine AL.sF rfl rfl rfl rfl (fun g => op_moveD (.e rfl)) ?_
    refine AL.sF rfl rfl rfl rfl (fun g => op_moveD (.e rfl)) ?_
    obtain ⟨v4, hv4, hm⟩ := bindE hm
    refine AL.sF rfl rfl rfl rfl (fun g => op_indexAddrM (f := SRatio.e) (.we (nt g) rfl rfl) (.we (nt g) rfl rfl) (iteT (nt g) hv4) enSRatio sl106) ?_
    refine AL.sF rfl rfl rfl rfl (fun g => op_field_vp (.we (nt g) rfl) fd57_0) ?_
    refine AL.sF rfl rfl rfl rfl (fun g => op_load_vp1 (.we (nt g) rfl) rfl sc3) ?_
    refine AL.sF rfl rfl rfl rfl (fun g => op_gtr (.we (nt g) rfl rfl) (.r rfl)) ?_
    refine AL.s rfl (op_or (.r rfl) rfl (fun h => (.we (nt h) rfl rfl))) ?_
    refine AL.s rfl (op_moveD (.e rfl)) ?_
    refine AL.sF rfl rfl rfl rfl (fun g => op_moveD (.e rfl)) ?_
    refine AL.sF rfl rfl rfl rfl (fun g => op_moveD (.e rfl)) ?_
    obtain ⟨v5, hv5, hm⟩ := bindE hm
    refine AL.sF rfl rfl rfl rfl (fun g => op_indexAddrM (f := SRatio.e) (.we (nt g) rfl rfl) (.we (nt g) rfl rfl) (iteT (nt g) hv5) enSRatio sl106) ?_
    refine AL.sF rfl rfl rfl rfl (fun g => op_field_vp (.we (nt g) rfl) fd57_1) ?_
    refine AL.sF rfl rfl rfl rfl (fun g => op_load_vp1 (.we (nt g) rfl) rfl sc3) ?_
    refine AL.sF rfl rfl rfl rfl (fun g => op_lss (.we (nt g) rfl rfl) (.r rfl)) ?_
    refine AL.s rfl (op_or (.r rfl) rfl (fun h => (.we (nt h) rfl rfl))) ?_
    refine AL.s rfl (op_moveD (.e rfl)) ?_
    refine AL.sF rfl rfl rfl rfl (fun g => op_moveD (.e rfl)) ?_
    refine AL.sF rfl rfl rfl rfl (fun g => op_moveD (.e rfl)) ?_
    obtain ⟨v6, hv6, hm⟩ := bindE hm
    refine AL.sF rfl rfl rfl rfl (fun g => op_indexAddrM (f := SRatio.e) (.we (nt g) rfl rfl) (.we (nt g) rfl rfl) (iteT (nt g) hv6) enSRatio sl106) ?_
    refine AL.sF rfl rfl rfl rfl (fun g => op_field_vp (.we (nt g) rfl) fd57_1) ?_
    refine AL.sF rfl rfl rfl rfl (fun g => op_load_vp1 (.we (nt g) rfl) rfl sc3) ?_
    refine AL.sF rfl rfl rfl rfl (fun g => op_gtr (.we (nt g) rfl rfl) (.r rfl)) ?_
    refine AL.s rfl (op_or (.r rfl) rfl (fun h => (.we (nt h) rfl rfl))) ?_
    refine AL.nil ?_
    refine AW.cond (b := _) rfl (fun hc2 => ?_) (fun hc2 => ?_)
    · replace hm := iteT hc2 hm
      refine AW.seqR ?_
      refine AL.s rfl (op_assignD (.e rfl)) ?_
      refine AL.nil ?_
      refine AW.ret ?_
      refine bq_ret ?_
      refine tq_ret ?_
      refine tq_ret ?_
      obtain rfl := Option.some.inj hm
      obtain rfl := Option.some.inj hI1
      replace hm := hk1
      try dsimp only at hm
      refine bq_ret ?_
      refine tq_ret ?_
      obtain rfl := Option.some.inj hm
      exact EndQ.d (.tmp (.e rfl) .nil) rfl rfl
    · replace hm := iteF hc2 hm
      refine AW.skip ?_
      refine bq_n ?_
      refine nq ?_
      refine AW.region ?_
      refine AL.s rfl (op_moveD (.e rfl)) ?_
      refine AL.s rfl (op_addw (.r rfl) (.r rfl)) ?_
      refine AL.s rfl (op_assignD (.e rfl)) ?_
      refine AL.nil ?_
      obtain rfl := Option.some.inj hm
      exact nq ⟨_, hI1, ⟨[], rfl, rfl, rfl, ⟨(.d rfl), (.d rfl), trivial⟩, trivial, .nil⟩⟩
  · replace hm := iteF hc1 hm
    refine AW.exit ?_
    refine tq_exit ?_
    refine tq_exit ?_
    obtain rfl := Option.some.inj hm
    obtain rfl := Option.some.inj hI1
    replace hm := hk1
    try dsimp only at hm
    refine bq_hit ?_
    refine nq ?_
    refine AW.seqR ?_
    refine AL.s rfl (op_moveD (.e rfl)) ?_
    refine AL.s rfl (op_lenM (f := SRatio.e) (.r rfl) sl106) ?_
    refine AL.s rfl (op_leq (.r rfl) (.r rfl)) ?_
    refine AL.s rfl (op_assignD (.e rfl)) ?_
    refine AL.nil ?_
    refine AW.ret ?_
    obtain rfl := Option.some.inj hm
    exact EndQ.d (.tmp (.e rfl) .nil) rfl rfl

set_option maxHeartbeats 20000000 in
theorem m_ref31_Valid_ok {n : Nat} {a1 : A7} {r : Bool} (hm : m_ref31_Valid n a1 = some r) : Fn Tryz.prog 70 [(A7.e a1)] (.bool r) := by
  unfold m_ref31_Valid at hm
  refine Fn.of_AW (fnn := Tryz.f70) Tryz.func70 rfl (Nat.le_of_ble_eq_true rfl) (fun g0 w0 hw0 => ?_)
  refine AW.reset 0 [(0, .d (A7.e a1))] [] (WOK.g0 hw0 (by simp)) ⟨[], rfl, rfl, rfl, ⟨(.d rfl), trivial⟩, trivial, .nil⟩ ?_
  refine AW.seqR ?_
  refine AL.s rfl (op_box (n := 0) (.e rfl) rfl rfl rfl) ?_
  refine AL.s rfl (op_assignD (.e rfl)) ?_
  refine AL.nil ?_
  refine AW.seq ?_
  refine AW.seqR ?_
  refine AL.s rfl (op_assignD (.e rfl)) ?_
  refine AL.nil ?_
  refine AW.block ?_
  obtain ⟨t_1, hI1, hk1⟩ := bindE hm
  refine AW.loopS (σ := Int) (τ := (Bool ⊕ Unit)) 0 (fun x => [(1, .ptr 0 0), (3, .d (.int .i64 x))]) (fun x => [.row ((A7.e a1).cells.map .d)]) hI1 (WOK.g0 hw0 (by simp)) ⟨[0], rfl, rfl, rfl, ⟨(.ptr rfl), (.d rfl), trivial⟩, trivial, (.row rfl (cd (A7.e a1).cells) .nil)⟩ ?_
  rintro n1 s2 hI1
  obtain ⟨y_1, hm, hI1⟩ := iterS hI1
  replace hm : m_ref31_Valid_L1 n _ s2 = some y_1 := hm
  unfold m_ref31_Valid_L1 at hm
  try dsimp only at hm
  refine AW.seq ?_
  refine AW.seqR ?_
  refine AL.s rfl (op_moveD (.e rfl)) ?_
  refine AL.s rfl (op_lss (.r rfl) (.r rfl)) ?_
  refine AL.nil ?_
  refine AW.cond (b := _) rfl (fun hc1 => ?_) (fun hc1 => ?_)
  · replace hm := iteT hc1 hm
    refine AW.skip ?_
    refine nq ?_
    refine AW.seq ?_
    refine AW.block ?_
    refine AW.seqR ?_
    refine AL.s rfl (op_assignD (.e rfl)) ?_
    refine AL.nil ?_
    refine AW.block ?_
    obtain ⟨t_2, hI2, hk2⟩ := bindE hm
    refine AW.loopS (σ := Int) (τ := (Bool ⊕ Unit)) 0 (fun x => [(1, .ptr 0 0), (3, .d (.int .i64 s2)), (4, .d (.int .i64 x))]) (fun x => [.row ((A7.e a1).cells.map .d)]) hI2 (WOK.g0 hw0 (by simp)) ⟨[0], rfl, rfl, rfl, ⟨(.ptr rfl), (.d rfl), (.d rfl), trivial⟩, trivial, (.row rfl (cd (A7.e a1).cells) .nil)⟩ ?_
    rintro n2 s3 hI2
    obtain ⟨y_2, hm, hI2⟩ := iterS hI2
    replace hm : m_ref31_Valid_L2 n _ _ s3 = some y_2 := hm
    unfold m_ref31_Valid_L2 at hm
    try dsimp only at hm
    refine AW.seq ?_
    refine AW.seqR ?_
    refine AL.s rfl (op_moveD (.e rfl)) ?_
    refine AL.s rfl (op_lss (.r rfl) (.r rfl)) ?_
    refine AL.nil ?_
    refine AW.cond (b := _) rfl (fun hc2 => ?_) (fun hc2 => ?_)
    · replace hm := iteT hc2 hm
      refine AW.skip ?_
      refine nq ?_
      refine AW.seq ?_
      refine AW.block ?_
      refine AW.seqR ?_
      refine AL.s rfl (op_moveD (.e rfl)) ?_
      refine AL.s rfl (op_moveD (.e rfl)) ?_
      obtain ⟨v4, hv4, hm⟩ := bindE hm
      refine AL.s rfl (op_indexA (l := a1.l) (s := 6) (.e rfl) (.r rfl) hv4 rfl Tryz.underlying60 ⟨_, rfl, rfl⟩) ?_
      obtain ⟨v5, hv5, hm⟩ := bindE hm
      refine AL.s rfl (op_indexA (l := v4.l) (s := 2) (.e rfl) (.r rfl) hv5 rfl Tryz.underlying58 ⟨_, rfl, rfl⟩) ?_
      refine AL.s rfl (op_loadAtA (X := (A7.e a1).cells) (.e rfl) rfl (AtD.ix (f := SRatio.e) (l := v4.l) enSRatio (AtD.ix (f := A3.e) (l := a1.l) enA3 (AtD.root : AtD (A7.e a1).cells 0 _ _) hv4) hv5) ag57) ?_
      refine AL.s rfl (op_buildSlice (ds := ([v5] : List SRatio).map SRatio.e) sl106 (.cons (.r rfl) rfl (enSRatio.one _) .nil) rfl (by decide)) ?_
      obtain ⟨v6, hv6, hm⟩ := bindE hm
      refine AL.s rfl (op_fn Tryz.call121 (.e rfl) (.cons (.r rfl) .nil) (m_ref28_Valid_ok hv6)) ?_
      refine AL.s rfl (op_not (.r rfl)) ?_
      refine AL.nil ?_
      refine AW.cond (b := _) rfl (fun hc3 => ?_) (fun hc3 => ?_)
      · replace hm := iteT hc3 hm
        refine AW.seqR ?_
        refine AL.s rfl (op_assignD (.e rfl)) ?_
        refine AL.nil ?_
        refine AW.ret ?_
        refine bq_ret ?_
        refine tq_ret ?_
        refine tq_ret ?_
        obtain rfl := Option.some.inj hm
        obtain rfl := Option.some.inj hI2
        replace hm := hk2
        try dsimp only at hm
        refine bq_ret ?_
        refine bq_ret ?_
        refine tq_ret ?_
        refine tq_ret ?_
        obtain rfl := Option.some.inj hm
        obtain rfl := Option.some.inj hI1
        replace hm := hk1
        try dsimp only at hm
        refine bq_ret ?_
        refine tq_ret ?_
        obtain rfl := Option.some.inj hm
        exact EndQ.d (.tmp (.e rfl) .nil) rfl rfl
      · replace hm := iteF hc3 hm
        refine AW.skip ?_
        refine bq_n ?_
        refine nq ?_
        refine AW.region ?_
        refine AL.s rfl (op_moveD (.e rfl)) ?_
        refine AL.s rfl (op_addw (.r rfl) (.r rfl)) ?_
        refine AL.s rfl (op_assignD (.e rfl)) ?_
        refine AL.nil ?_
        obtain rfl := Option.some.inj hm
        exact nq ⟨_, hI2, ⟨[0], rfl, rfl, rfl, ⟨(.ptr rfl), (.d rfl), (.d rfl), trivial⟩, trivial, (.row rfl (cd (A7.e a1).cells) .nil)⟩⟩
    · replace hm := iteF hc2 hm
      refine AW.exit ?_
      refine tq_exit ?_
      refine tq_exit ?_
      obtain rfl := Option.some.inj hm
      obtain rfl := Option.some.inj hI2
      replace hm := hk2
      try dsimp only at hm
      refine bq_hit ?_
      refine bq_n ?_
      refine nq ?_
      refine AW.region ?_
      refine AL.s rfl (op_moveD (.e rfl)) ?_
      refine AL.s rfl (op_addw (.r rfl) (.r rfl)) ?_
      refine AL.s rfl (op_assignD (.e rfl)) ?_
      refine AL.nil ?_
      obtain rfl := Option.some.inj hm
      exact nq ⟨_, hI1, ⟨[0], rfl, rfl, rfl, ⟨(.ptr rfl), (.d rfl), trivial⟩, trivial, (.row rfl (cd (A7.e a1).cells) .nil)⟩⟩
  · replace hm := iteF hc1 hm
    refine AW.exit ?_
    refine tq_exit ?_
    refine tq_exit ?_
    obtain rfl := Option.some.inj hm
    obtain rfl := Option.some.inj hI1
    replace hm := hk1
    try dsimp only at hm
    refine bq_hit ?_
    refine nq ?_
    refine AW.seqR ?_
    refine AL.s rfl (op_assignD (.e rfl)) ?_
    refine AL.nil ?_
    refine AW.ret ?_
    obtain rfl := Option.some.inj hm
    exact EndQ.d (.tmp (.e rfl) .nil) rfl rfl

end Go.Proofs.YtindppnanjcoaaaGreatDoor.Ab
