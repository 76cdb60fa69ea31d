/- The functions do what they are in plain Lean. Conditions: none. -/
import Derived.Test.YtgcmhhcopeiomaaTy
import Derived.Test.YtgcmhhcopeiomaaMi
import Derived.Test.YtgcmhhcopeiomaaFe
set_option maxRecDepth 100000
namespace Go.Proofs.Ytgcmhhcopeiomaa.Ab
open Go
attribute [local irreducible] AL AD AW

set_option maxHeartbeats 20000000 in
theorem m_law31_MatchMissing_ok {n : Nat} {a1 : SFeatures} {a2 : SFeatures} {a3 : Int} {r : Bool} (hm : m_law31_MatchMissing n a1 a2 a3 = some r) : Fn Try.prog 6 [(SFeatures.e a1), (SFeatures.e a2), (.int .u8 a3)] (.bool r) := by
  unfold m_law31_MatchMissing at hm
  refine Fn.of_AW (fnn := Try.f6) Try.func6 rfl (Nat.le_of_ble_eq_true rfl) (fun g0 w0 hw0 => ?_)
  refine AW.reset 0 [(0, .d (SFeatures.e a1)), (1, .d (SFeatures.e a2)), (2, .d (.int .u8 a3))] [] (WOK.g0 hw0 (by simp)) ⟨[], rfl, rfl, rfl, ⟨(.d rfl), (.d rfl), (.d rfl), trivial⟩, trivial, .nil⟩ ?_
  refine AW.seqR ?_
  refine AL.s rfl (op_box (n := 0) (.e rfl) rfl rfl rfl) ?_
  refine AL.s rfl (op_box (n := 1) (.e rfl) rfl rfl rfl) ?_
  refine AL.s rfl (op_assignD (.e rfl)) ?_
  refine AL.nil ?_
  refine AW.seq ?_
  refine AW.seqR ?_
  obtain ⟨v4, hv4, hm⟩ := bindE hm
  refine AL.s rfl (op_fn Try.call7 (.e rfl) .nil (m_law31_awake_ok hv4)) ?_
  refine AL.s rfl (op_not (.r rfl)) ?_
  refine AL.s rfl (op_moveD (.e rfl)) ?_
  refine AL.sF rfl rfl rfl rfl (fun g => op_load_ptrA (.e rfl) rfl rfl rfl ag25) ?_
  obtain ⟨v5, hv5, hm⟩ := bindE hm
  refine AL.sF rfl rfl rfl rfl (fun g => op_fn Try.call8 (.e rfl) (.cons (.we (nt g) rfl rfl) .nil) (m_ref29_Few_ok (iteT (nt g) hv5))) ?_
  refine AL.sF rfl rfl rfl rfl (fun g => op_not (.we (nt g) rfl rfl)) ?_
  refine AL.s rfl (op_or (.r rfl) rfl (fun h => (.we (nt h) rfl rfl))) ?_
  refine AL.s rfl (op_moveD (.e rfl)) ?_
  refine AL.sF rfl rfl rfl rfl (fun g => op_load_ptrA (.e rfl) rfl rfl rfl ag25) ?_
  obtain ⟨v6, hv6, hm⟩ := bindE hm
  refine AL.sF rfl rfl rfl rfl (fun g => op_fn Try.call8 (.e rfl) (.cons (.we (nt g) rfl rfl) .nil) (m_ref29_Few_ok (iteT (nt g) hv6))) ?_
  refine AL.sF rfl rfl rfl rfl (fun g => op_not (.we (nt g) rfl rfl)) ?_
  refine AL.s rfl (op_or (.r rfl) rfl (fun h => (.we (nt h) rfl rfl))) ?_
  refine AL.s rfl (op_moveD (.e rfl)) ?_
  refine AL.sF rfl rfl rfl rfl (fun g => op_load_ptrA (.e rfl) rfl rfl rfl ag25) ?_
  obtain ⟨v7, hv7, hm⟩ := bindE hm
  refine AL.sF rfl rfl rfl rfl (fun g => op_fn Try.call9 (.e rfl) (.cons (.we (nt g) rfl rfl) .nil) (m_ref29_Valid_ok (iteT (nt g) hv7))) ?_
  refine AL.sF rfl rfl rfl rfl (fun g => op_not (.we (nt g) rfl rfl)) ?_
  refine AL.s rfl (op_or (.r rfl) rfl (fun h => (.we (nt h) rfl rfl))) ?_
  refine AL.s rfl (op_moveD (.e rfl)) ?_
  refine AL.sF rfl rfl rfl rfl (fun g => op_load_ptrA (.e rfl) rfl rfl rfl ag25) ?_
  obtain ⟨v8, hv8, hm⟩ := bindE hm
  refine AL.sF rfl rfl rfl rfl (fun g => op_fn Try.call9 (.e rfl) (.cons (.we (nt g) rfl rfl) .nil) (m_ref29_Valid_ok (iteT (nt g) hv8))) ?_
  refine AL.sF rfl rfl rfl rfl (fun g => op_not (.we (nt g) rfl rfl)) ?_
  refine AL.s rfl (op_or (.r rfl) rfl (fun h => (.we (nt h) rfl rfl))) ?_
  refine AL.nil ?_
  refine AW.cond (b := _) rfl (fun hc1 => ?_) (fun hc1 => ?_)
  · replace hm := iteT hc1 hm
    refine AW.seqR ?_
    obtain ⟨v9, hv9, hm⟩ := bindE hm
    refine AL.s rfl (op_fn Try.call7 (.e rfl) .nil (m_law31_awake_ok hv9)) ?_
    refine AL.s rfl (op_assignD (.e rfl)) ?_
    refine AL.nil ?_
    refine AW.ret ?_
    refine tq_ret ?_
    obtain rfl := Option.some.inj hm
    exact EndQ.d (.tmp (.e rfl) .nil) rfl rfl
  · replace hm := iteF hc1 hm
    refine AW.skip ?_
    refine nq ?_
    refine AW.free ?_
    refine AW.free ?_
    refine AW.seqD [([0], []), ([], []), ([1], []), ([], []), ([], [2]), ([], [3]), ([2], [2]), ([3], [3])] mo (by decide +kernel) ?_
    refine AD.s (ws := []) rfl rfl (fun H' _ hH => op_load_ptrA (.e rfl) ((hH _ (by simp)).trans rfl) rfl rfl ag25) ?_
    obtain ⟨v10, hv10, hm⟩ := bindE hm
    refine AD.s (ws := []) rfl rfl (fun H' _ hH => op_fn Try.call10 (.e rfl) (.cons (.r rfl) .nil) (m_law29_Own_ok hv10)) ?_
    refine AD.s (ws := []) rfl rfl (fun H' _ hH => op_load_ptrA (.e rfl) ((hH _ (by simp)).trans rfl) rfl rfl ag25) ?_
    obtain ⟨v11, hv11, hm⟩ := bindE hm
    refine AD.s (ws := []) rfl rfl (fun H' _ hH => op_fn Try.call10 (.e rfl) (.cons (.r rfl) .nil) (m_law29_Own_ok hv11)) ?_
    refine AD.s (ws := [(2, _)]) rfl rfl (fun H' _ hH => op_allocR zr30 ((hH _ (by simp)).trans rfl)) ?_
    refine AD.s (ws := [(3, _)]) rfl rfl (fun H' _ hH => op_allocR zr30 ((hH _ (by simp)).trans rfl)) ?_
    refine AD.s (ws := [(2, _)]) rfl rfl (fun H' _ hH => op_store (.e rfl) (.e rfl) ((hH _ (by simp)).trans rfl) rfl rfl ⟨_, rfl, rfl⟩ rfl (Nat.le_of_ble_eq_true rfl)) ?_
    refine AD.s (ws := [(3, _)]) rfl rfl (fun H' _ hH => op_store (.e rfl) (.e rfl) ((hH _ (by simp)).trans rfl) rfl rfl ⟨_, rfl, rfl⟩ rfl (Nat.le_of_ble_eq_true rfl)) ?_
    refine AD.nil ?_
    refine AW.seqR ?_
    refine AL.s rfl (op_load_ptrA (.e rfl) rfl rfl rfl ag30) ?_
    refine AL.s rfl (op_alloc (n := 4) zr30 rfl) ?_
    refine AL.s rfl (op_storeA (.e rfl) (.e rfl) rfl rfl ⟨_, rfl, rfl⟩ rfl (Nat.le_of_ble_eq_true rfl)) ?_
    refine AL.nil ?_
    refine AW.seqR ?_
    refine AL.s rfl (op_moveD (.e rfl)) ?_
    refine AL.s rfl (op_conv_int (.r rfl) ⟨_, Try.underlying5⟩ Try.underlying3) ?_
    obtain ⟨v12, hv12, hm⟩ := bindE hm
    refine AL.s rfl (op_remM (.r rfl) (.r rfl) hv12) ?_
    refine AL.s rfl (op_assignD (.e rfl)) ?_
    refine AL.nil ?_
    obtain ⟨t_j1, hm, hkj1⟩ := bindE hm
    refine AW.cutS (α := ((List (List UInt8)) × (List UInt8) × (List Int) × (List (List UInt8)) × (List (List UInt8)) × (List (List UInt8)) × (List (List UInt8)))) 0 (fun x => x = t_j1) (fun x => [(7, .ptr 2 0), (8, .ptr 3 0), (9, .ptr 4 0), (10, .d (.int .i64 v12))]) (fun x => [.row [.d (.int .i64 a1.fID), .d (.sl (a1.fTitle.map D.str)), .d (.str a1.fAuthor), .d (.sl (a1.fYears.map D.i)), .d (.sl (a1.fIsbns.map D.str)), .d (.sl (a1.fLangs.map D.str)), .d (.sl (a1.fPublisher.map D.str)), .d (.sl (a1.fEdition.map D.str))], .row [.d (.int .i64 a2.fID), .d (.sl (a2.fTitle.map D.str)), .d (.str a2.fAuthor), .d (.sl (a2.fYears.map D.i)), .d (.sl (a2.fIsbns.map D.str)), .d (.sl (a2.fLangs.map D.str)), .d (.sl (a2.fPublisher.map D.str)), .d (.sl (a2.fEdition.map D.str))], .row [.d (.int .i64 v10.fID), .d (.sl (v10.fTitle.map D.str)), .d (.str v10.fAuthor), .d (.sl (v10.fYears.map D.i)), .d (.sl (v10.fIsbns.map D.str)), .d (.sl (v10.fLangs.map D.str)), .d (.sl (v10.fPublisher.map D.str)), .d (.sl (v10.fEdition.map D.str))], .row [.d (.int .i64 v11.fID), .d (.sl (v11.fTitle.map D.str)), .d (.str v11.fAuthor), .d (.sl (v11.fYears.map D.i)), .d (.sl (v11.fIsbns.map D.str)), .d (.sl (v11.fLangs.map D.str)), .d (.sl (v11.fPublisher.map D.str)), .d (.sl (v11.fEdition.map D.str))], .row [.d (.int .i64 v10.fID), .d (.sl (x.1.map D.str)), .d (.str x.2.1), .d (.sl (x.2.2.1.map D.i)), .d (.sl (x.2.2.2.1.map D.str)), .d (.sl (x.2.2.2.2.1.map D.str)), .d (.sl (x.2.2.2.2.2.1.map D.str)), .d (.sl (x.2.2.2.2.2.2.map D.str))]]) (WOK.g0 hw0 (by simp)) ?_ ?_
    · skip
      refine AW.reset 0 [(7, .ptr 2 0), (8, .ptr 3 0), (9, .ptr 4 0), (10, .d (.int .i64 v12))] [.row [.d (.int .i64 a1.fID), .d (.sl (a1.fTitle.map D.str)), .d (.str a1.fAuthor), .d (.sl (a1.fYears.map D.i)), .d (.sl (a1.fIsbns.map D.str)), .d (.sl (a1.fLangs.map D.str)), .d (.sl (a1.fPublisher.map D.str)), .d (.sl (a1.fEdition.map D.str))], .row [.d (.int .i64 a2.fID), .d (.sl (a2.fTitle.map D.str)), .d (.str a2.fAuthor), .d (.sl (a2.fYears.map D.i)), .d (.sl (a2.fIsbns.map D.str)), .d (.sl (a2.fLangs.map D.str)), .d (.sl (a2.fPublisher.map D.str)), .d (.sl (a2.fEdition.map D.str))], .row [.d (.int .i64 v10.fID), .d (.sl (v10.fTitle.map D.str)), .d (.str v10.fAuthor), .d (.sl (v10.fYears.map D.i)), .d (.sl (v10.fIsbns.map D.str)), .d (.sl (v10.fLangs.map D.str)), .d (.sl (v10.fPublisher.map D.str)), .d (.sl (v10.fEdition.map D.str))], .row [.d (.int .i64 v11.fID), .d (.sl (v11.fTitle.map D.str)), .d (.str v11.fAuthor), .d (.sl (v11.fYears.map D.i)), .d (.sl (v11.fIsbns.map D.str)), .d (.sl (v11.fLangs.map D.str)), .d (.sl (v11.fPublisher.map D.str)), .d (.sl (v11.fEdition.map D.str))], .row [.d (.int .i64 v10.fID), .d (.sl (v10.fTitle.map D.str)), .d (.str v10.fAuthor), .d (.sl (v10.fYears.map D.i)), .d (.sl (v10.fIsbns.map D.str)), .d (.sl (v10.fLangs.map D.str)), .d (.sl (v10.fPublisher.map D.str)), .d (.sl (v10.fEdition.map D.str))]] (WOK.g0 hw0 (by simp)) ⟨[0, 1, 2, 3, 4], rfl, rfl, rfl, ⟨(.ptr rfl), (.ptr rfl), (.ptr rfl), (.d rfl), trivial⟩, trivial, (.row rfl (.cons (.d rfl) (.cons (.d rfl) (.cons (.d rfl) (.cons (.d rfl) (.cons (.d rfl) (.cons (.d rfl) (.cons (.d rfl) (.cons (.d rfl) .nil)))))))) (.row rfl (.cons (.d rfl) (.cons (.d rfl) (.cons (.d rfl) (.cons (.d rfl) (.cons (.d rfl) (.cons (.d rfl) (.cons (.d rfl) (.cons (.d rfl) .nil)))))))) (.row rfl (.cons (.d rfl) (.cons (.d rfl) (.cons (.d rfl) (.cons (.d rfl) (.cons (.d rfl) (.cons (.d rfl) (.cons (.d rfl) (.cons (.d rfl) .nil)))))))) (.row rfl (.cons (.d rfl) (.cons (.d rfl) (.cons (.d rfl) (.cons (.d rfl) (.cons (.d rfl) (.cons (.d rfl) (.cons (.d rfl) (.cons (.d rfl) .nil)))))))) (.row rfl (.cons (.d rfl) (.cons (.d rfl) (.cons (.d rfl) (.cons (.d rfl) (.cons (.d rfl) (.cons (.d rfl) (.cons (.d rfl) (.cons (.d rfl) .nil)))))))) .nil)))))⟩ ?_
      refine AW.seqR ?_
      refine AL.s rfl (op_moveD (.e rfl)) ?_
      refine AL.nil ?_
      refine AW.block ?_
      refine AW.seqR ?_
      refine AL.s rfl (op_eql (.r rfl) (.r rfl)) ?_
      refine AL.s rfl (op_assignD (.e rfl)) ?_
      refine AL.nil ?_
      refine AW.cond (b := _) rfl (fun hc2 => ?_) (fun hc2 => ?_)
      · replace hm := iteT hc2 hm
        refine AW.region ?_
        refine AL.s rfl (op_field_ptr (.e rfl) fd30_1) ?_
        refine AL.s rfl (op_storeNil (.e rfl) (.e rfl) rfl rfl ⟨_, rfl, rfl⟩ (Nat.le_of_ble_eq_true rfl)) ?_
        refine AL.nil ?_
        refine bq_n ?_
        obtain rfl := Option.some.inj hm
        exact nq ⟨_, rfl, ⟨[0, 1, 2, 3, 4], rfl, rfl, rfl, ⟨(.ptr rfl), (.ptr rfl), (.ptr rfl), (.d rfl), trivial⟩, trivial, (.row rfl (.cons (.d rfl) (.cons (.d rfl) (.cons (.d rfl) (.cons (.d rfl) (.cons (.d rfl) (.cons (.d rfl) (.cons (.d rfl) (.cons (.d rfl) .nil)))))))) (.row rfl (.cons (.d rfl) (.cons (.d rfl) (.cons (.d rfl) (.cons (.d rfl) (.cons (.d rfl) (.cons (.d rfl) (.cons (.d rfl) (.cons (.d rfl) .nil)))))))) (.row rfl (.cons (.d rfl) (.cons (.d rfl) (.cons (.d rfl) (.cons (.d rfl) (.cons (.d rfl) (.cons (.d rfl) (.cons (.d rfl) (.cons (.d rfl) .nil)))))))) (.row rfl (.cons (.d rfl) (.cons (.d rfl) (.cons (.d rfl) (.cons (.d rfl) (.cons (.d rfl) (.cons (.d rfl) (.cons (.d rfl) (.cons (.d rfl) .nil)))))))) (.row rfl (.cons (.d rfl) (.cons (.d rfl) (.cons (.d rfl) (.cons (.d rfl) (.cons (.d rfl) (.cons (.d rfl) (.cons (.d rfl) (.cons (.d rfl) .nil)))))))) .nil)))))⟩⟩
      · replace hm := iteF hc2 hm
        refine AW.seqR ?_
        refine AL.s rfl (op_eql (.r rfl) (.r rfl)) ?_
        refine AL.s rfl (op_assignD (.e rfl)) ?_
        refine AL.nil ?_
        refine AW.cond (b := _) rfl (fun hc3 => ?_) (fun hc3 => ?_)
        · replace hm := iteT hc3 hm
          refine AW.region ?_
          refine AL.s rfl (op_field_ptr (.e rfl) fd30_2) ?_
          refine AL.s rfl (op_storeD (.e rfl) (.e rfl) rfl rfl rfl ⟨_, rfl, rfl⟩ (Nat.le_of_ble_eq_true rfl)) ?_
          refine AL.nil ?_
          refine bq_n ?_
          obtain rfl := Option.some.inj hm
          exact nq ⟨_, rfl, ⟨[0, 1, 2, 3, 4], rfl, rfl, rfl, ⟨(.ptr rfl), (.ptr rfl), (.ptr rfl), (.d rfl), trivial⟩, trivial, (.row rfl (.cons (.d rfl) (.cons (.d rfl) (.cons (.d rfl) (.cons (.d rfl) (.cons (.d rfl) (.cons (.d rfl) (.cons (.d rfl) (.cons (.d rfl) .nil)))))))) (.row rfl (.cons (.d rfl) (.cons (.d rfl) (.cons (.d rfl) (.cons (.d rfl) (.cons (.d rfl) (.cons (.d rfl) (.cons (.d rfl) (.cons (.d rfl) .nil)))))))) (.row rfl (.cons (.d rfl) (.cons (.d rfl) (.cons (.d rfl) (.cons (.d rfl) (.cons (.d rfl) (.cons (.d rfl) (.cons (.d rfl) (.cons (.d rfl) .nil)))))))) (.row rfl (.cons (.d rfl) (.cons (.d rfl) (.cons (.d rfl) (.cons (.d rfl) (.cons (.d rfl) (.cons (.d rfl) (.cons (.d rfl) (.cons (.d rfl) .nil)))))))) (.row rfl (.cons (.d rfl) (.cons (.d rfl) (.cons (.d rfl) (.cons (.d rfl) (.cons (.d rfl) (.cons (.d rfl) (.cons (.d rfl) (.cons (.d rfl) .nil)))))))) .nil)))))⟩⟩
        · replace hm := iteF hc3 hm
          refine AW.seqR ?_
          refine AL.s rfl (op_eql (.r rfl) (.r rfl)) ?_
          refine AL.s rfl (op_assignD (.e rfl)) ?_
          refine AL.nil ?_
          refine AW.cond (b := _) rfl (fun hc4 => ?_) (fun hc4 => ?_)
          · replace hm := iteT hc4 hm
            refine AW.region ?_
            refine AL.s rfl (op_field_ptr (.e rfl) fd30_3) ?_
            refine AL.s rfl (op_storeNil (.e rfl) (.e rfl) rfl rfl ⟨_, rfl, rfl⟩ (Nat.le_of_ble_eq_true rfl)) ?_
            refine AL.nil ?_
            refine bq_n ?_
            obtain rfl := Option.some.inj hm
            exact nq ⟨_, rfl, ⟨[0, 1, 2, 3, 4], rfl, rfl, rfl, ⟨(.ptr rfl), (.ptr rfl), (.ptr rfl), (.d rfl), trivial⟩, trivial, (.row rfl (.cons (.d rfl) (.cons (.d rfl) (.cons (.d rfl) (.cons (.d rfl) (.cons (.d rfl) (.cons (.d rfl) (.cons (.d rfl) (.cons (.d rfl) .nil)))))))) (.row rfl (.cons (.d rfl) (.cons (.d rfl) (.cons (.d rfl) (.cons (.d rfl) (.cons (.d rfl) (.cons (.d rfl) (.cons (.d rfl) (.cons (.d rfl) .nil)))))))) (.row rfl (.cons (.d rfl) (.cons (.d rfl) (.cons (.d rfl) (.cons (.d rfl) (.cons (.d rfl) (.cons (.d rfl) (.cons (.d rfl) (.cons (.d rfl) .nil)))))))) (.row rfl (.cons (.d rfl) (.cons (.d rfl) (.cons (.d rfl) (.cons (.d rfl) (.cons (.d rfl) (.cons (.d rfl) (.cons (.d rfl) (.cons (.d rfl) .nil)))))))) (.row rfl (.cons (.d rfl) (.cons (.d rfl) (.cons (.d rfl) (.cons (.d rfl) (.cons (.d rfl) (.cons (.d rfl) (.cons (.d rfl) (.cons (.d rfl) .nil)))))))) .nil)))))⟩⟩
          · replace hm := iteF hc4 hm
            refine AW.seqR ?_
            refine AL.s rfl (op_eql (.r rfl) (.r rfl)) ?_
            refine AL.s rfl (op_assignD (.e rfl)) ?_
            refine AL.nil ?_
            refine AW.cond (b := _) rfl (fun hc5 => ?_) (fun hc5 => ?_)
            · replace hm := iteT hc5 hm
              refine AW.region ?_
              refine AL.s rfl (op_field_ptr (.e rfl) fd30_4) ?_
              refine AL.s rfl (op_storeNil (.e rfl) (.e rfl) rfl rfl ⟨_, rfl, rfl⟩ (Nat.le_of_ble_eq_true rfl)) ?_
              refine AL.nil ?_
              refine bq_n ?_
              obtain rfl := Option.some.inj hm
              exact nq ⟨_, rfl, ⟨[0, 1, 2, 3, 4], rfl, rfl, rfl, ⟨(.ptr rfl), (.ptr rfl), (.ptr rfl), (.d rfl), trivial⟩, trivial, (.row rfl (.cons (.d rfl) (.cons (.d rfl) (.cons (.d rfl) (.cons (.d rfl) (.cons (.d rfl) (.cons (.d rfl) (.cons (.d rfl) (.cons (.d rfl) .nil)))))))) (.row rfl (.cons (.d rfl) (.cons (.d rfl) (.cons (.d rfl) (.cons (.d rfl) (.cons (.d rfl) (.cons (.d rfl) (.cons (.d rfl) (.cons (.d rfl) .nil)))))))) (.row rfl (.cons (.d rfl) (.cons (.d rfl) (.cons (.d rfl) (.cons (.d rfl) (.cons (.d rfl) (.cons (.d rfl) (.cons (.d rfl) (.cons (.d rfl) .nil)))))))) (.row rfl (.cons (.d rfl) (.cons (.d rfl) (.cons (.d rfl) (.cons (.d rfl) (.cons (.d rfl) (.cons (.d rfl) (.cons (.d rfl) (.cons (.d rfl) .nil)))))))) (.row rfl (.cons (.d rfl) (.cons (.d rfl) (.cons (.d rfl) (.cons (.d rfl) (.cons (.d rfl) (.cons (.d rfl) (.cons (.d rfl) (.cons (.d rfl) .nil)))))))) .nil)))))⟩⟩
            · replace hm := iteF hc5 hm
              refine AW.seqR ?_
              refine AL.s rfl (op_eql (.r rfl) (.r rfl)) ?_
              refine AL.s rfl (op_assignD (.e rfl)) ?_
              refine AL.nil ?_
              refine AW.cond (b := _) rfl (fun hc6 => ?_) (fun hc6 => ?_)
              · replace hm := iteT hc6 hm
                refine AW.region ?_
                refine AL.s rfl (op_field_ptr (.e rfl) fd30_5) ?_
                refine AL.s rfl (op_storeNil (.e rfl) (.e rfl) rfl rfl ⟨_, rfl, rfl⟩ (Nat.le_of_ble_eq_true rfl)) ?_
                refine AL.nil ?_
                refine bq_n ?_
                obtain rfl := Option.some.inj hm
                exact nq ⟨_, rfl, ⟨[0, 1, 2, 3, 4], rfl, rfl, rfl, ⟨(.ptr rfl), (.ptr rfl), (.ptr rfl), (.d rfl), trivial⟩, trivial, (.row rfl (.cons (.d rfl) (.cons (.d rfl) (.cons (.d rfl) (.cons (.d rfl) (.cons (.d rfl) (.cons (.d rfl) (.cons (.d rfl) (.cons (.d rfl) .nil)))))))) (.row rfl (.cons (.d rfl) (.cons (.d rfl) (.cons (.d rfl) (.cons (.d rfl) (.cons (.d rfl) (.cons (.d rfl) (.cons (.d rfl) (.cons (.d rfl) .nil)))))))) (.row rfl (.cons (.d rfl) (.cons (.d rfl) (.cons (.d rfl) (.cons (.d rfl) (.cons (.d rfl) (.cons (.d rfl) (.cons (.d rfl) (.cons (.d rfl) .nil)))))))) (.row rfl (.cons (.d rfl) (.cons (.d rfl) (.cons (.d rfl) (.cons (.d rfl) (.cons (.d rfl) (.cons (.d rfl) (.cons (.d rfl) (.cons (.d rfl) .nil)))))))) (.row rfl (.cons (.d rfl) (.cons (.d rfl) (.cons (.d rfl) (.cons (.d rfl) (.cons (.d rfl) (.cons (.d rfl) (.cons (.d rfl) (.cons (.d rfl) .nil)))))))) .nil)))))⟩⟩
              · replace hm := iteF hc6 hm
                refine AW.seqR ?_
                refine AL.s rfl (op_eql (.r rfl) (.r rfl)) ?_
                refine AL.s rfl (op_assignD (.e rfl)) ?_
                refine AL.nil ?_
                refine AW.cond (b := _) rfl (fun hc7 => ?_) (fun hc7 => ?_)
                · replace hm := iteT hc7 hm
                  refine AW.region ?_
                  refine AL.s rfl (op_field_ptr (.e rfl) fd30_6) ?_
                  refine AL.s rfl (op_storeNil (.e rfl) (.e rfl) rfl rfl ⟨_, rfl, rfl⟩ (Nat.le_of_ble_eq_true rfl)) ?_
                  refine AL.nil ?_
                  refine bq_n ?_
                  obtain rfl := Option.some.inj hm
                  exact nq ⟨_, rfl, ⟨[0, 1, 2, 3, 4], rfl, rfl, rfl, ⟨(.ptr rfl), (.ptr rfl), (.ptr rfl), (.d rfl), trivial⟩, trivial, (.row rfl (.cons (.d rfl) (.cons (.d rfl) (.cons (.d rfl) (.cons (.d rfl) (.cons (.d rfl) (.cons (.d rfl) (.cons (.d rfl) (.cons (.d rfl) .nil)))))))) (.row rfl (.cons (.d rfl) (.cons (.d rfl) (.cons (.d rfl) (.cons (.d rfl) (.cons (.d rfl) (.cons (.d rfl) (.cons (.d rfl) (.cons (.d rfl) .nil)))))))) (.row rfl (.cons (.d rfl) (.cons (.d rfl) (.cons (.d rfl) (.cons (.d rfl) (.cons (.d rfl) (.cons (.d rfl) (.cons (.d rfl) (.cons (.d rfl) .nil)))))))) (.row rfl (.cons (.d rfl) (.cons (.d rfl) (.cons (.d rfl) (.cons (.d rfl) (.cons (.d rfl) (.cons (.d rfl) (.cons (.d rfl) (.cons (.d rfl) .nil)))))))) (.row rfl (.cons (.d rfl) (.cons (.d rfl) (.cons (.d rfl) (.cons (.d rfl) (.cons (.d rfl) (.cons (.d rfl) (.cons (.d rfl) (.cons (.d rfl) .nil)))))))) .nil)))))⟩⟩
                · replace hm := iteF hc7 hm
                  refine AW.region ?_
                  refine AL.s rfl (op_field_ptr (.e rfl) fd30_7) ?_
                  refine AL.s rfl (op_storeNil (.e rfl) (.e rfl) rfl rfl ⟨_, rfl, rfl⟩ (Nat.le_of_ble_eq_true rfl)) ?_
                  refine AL.nil ?_
                  refine bq_n ?_
                  obtain rfl := Option.some.inj hm
                  exact nq ⟨_, rfl, ⟨[0, 1, 2, 3, 4], rfl, rfl, rfl, ⟨(.ptr rfl), (.ptr rfl), (.ptr rfl), (.d rfl), trivial⟩, trivial, (.row rfl (.cons (.d rfl) (.cons (.d rfl) (.cons (.d rfl) (.cons (.d rfl) (.cons (.d rfl) (.cons (.d rfl) (.cons (.d rfl) (.cons (.d rfl) .nil)))))))) (.row rfl (.cons (.d rfl) (.cons (.d rfl) (.cons (.d rfl) (.cons (.d rfl) (.cons (.d rfl) (.cons (.d rfl) (.cons (.d rfl) (.cons (.d rfl) .nil)))))))) (.row rfl (.cons (.d rfl) (.cons (.d rfl) (.cons (.d rfl) (.cons (.d rfl) (.cons (.d rfl) (.cons (.d rfl) (.cons (.d rfl) (.cons (.d rfl) .nil)))))))) (.row rfl (.cons (.d rfl) (.cons (.d rfl) (.cons (.d rfl) (.cons (.d rfl) (.cons (.d rfl) (.cons (.d rfl) (.cons (.d rfl) (.cons (.d rfl) .nil)))))))) (.row rfl (.cons (.d rfl) (.cons (.d rfl) (.cons (.d rfl) (.cons (.d rfl) (.cons (.d rfl) (.cons (.d rfl) (.cons (.d rfl) (.cons (.d rfl) .nil)))))))) .nil)))))⟩⟩
    · rintro ⟨s13, s14, s15, s16, s17, s18, s19⟩ rfl
      replace hm := hkj1
      try dsimp only at hm
      refine AW.seqR ?_
      refine AL.s rfl (op_load_ptrA (.e rfl) rfl rfl rfl ag30) ?_
      refine AL.s rfl (op_load_ptrA (.e rfl) rfl rfl rfl ag30) ?_
      obtain ⟨v20, hv20, hm⟩ := bindE hm
      refine AL.s rfl (op_fn Try.call11 (.e rfl) (.cons (.r rfl) (.cons (.r rfl) .nil)) (m_match_Compare_ok hv20)) ?_
      refine AL.s rfl (op_moveD (.e rfl)) ?_
      refine AL.s rfl (op_extractD (.e rfl) rfl) ?_
      refine AL.s rfl (op_extractD (.e rfl) rfl) ?_
      refine AL.s rfl (op_alloc (n := 5) zr32 rfl) ?_
      refine AL.s rfl (op_store (.e rfl) (.e rfl) rfl rfl rfl ⟨_, rfl, rfl⟩ rfl (Nat.le_of_ble_eq_true rfl)) ?_
      refine AL.s rfl (op_assignD (.e rfl)) ?_
      refine AL.nil ?_
      refine AW.seqR ?_
      refine AL.s rfl (op_load_ptrA (.e rfl) rfl rfl rfl ag30) ?_
      refine AL.s rfl (op_load_ptrA (.e rfl) rfl rfl rfl ag30) ?_
      obtain ⟨v21, hv21, hm⟩ := bindE hm
      refine AL.s rfl (op_fn Try.call11 (.e rfl) (.cons (.r rfl) (.cons (.r rfl) .nil)) (m_match_Compare_ok hv21)) ?_
      refine AL.s rfl (op_moveD (.e rfl)) ?_
      refine AL.s rfl (op_extractD (.e rfl) rfl) ?_
      refine AL.s rfl (op_extractD (.e rfl) rfl) ?_
      refine AL.s rfl (op_alloc (n := 6) zr32 rfl) ?_
      refine AL.s rfl (op_store (.e rfl) (.e rfl) rfl rfl rfl ⟨_, rfl, rfl⟩ rfl (Nat.le_of_ble_eq_true rfl)) ?_
      refine AL.s rfl (op_assignD (.e rfl)) ?_
      refine AL.nil ?_
      refine AW.seq ?_
      refine AW.seqR ?_
      refine AL.s rfl (op_moveD (.e rfl)) ?_
      refine AL.s rfl (op_neq (.r rfl) (.r rfl)) ?_
      refine AL.s rfl (op_moveD (.e rfl)) ?_
      refine AL.sF rfl rfl rfl rfl (fun g => op_moveD (.e rfl)) ?_
      refine AL.sF rfl rfl rfl rfl (fun g => op_neq (.we (nt g) rfl rfl) (.r rfl)) ?_
      refine AL.s rfl (op_or (.r rfl) rfl (fun h => (.we (nt h) rfl rfl))) ?_
      refine AL.s rfl (op_moveD (.e rfl)) ?_
      refine AL.sF rfl rfl rfl rfl (fun g => op_moveD (.e rfl)) ?_
      obtain ⟨v22, hv22, hm⟩ := bindE hm
      refine AL.sF rfl rfl rfl rfl (fun g => op_indexA (l := v21.1.l) (s := 1) (.e rfl) (.we (nt g) rfl rfl) (iteT (nt g) hv22) rfl Try.underlying32 ⟨_, rfl, rfl⟩) ?_
      refine AL.sF rfl rfl rfl rfl (fun g => op_loadAt1 (X := (A7.e v21.1).cells) (.we (nt g) rfl) rfl (AtD.ix (f := D.i) (l := v21.1.l) En.i (AtD.root : AtD (A7.e v21.1).cells 0 _ _) (iteT (nt g) hv22)) sc3) ?_
      refine AL.sF rfl rfl rfl rfl (fun g => op_neq (.we (nt g) rfl rfl) (.r rfl)) ?_
      refine AL.s rfl (op_or (.r rfl) rfl (fun h => (.we (nt h) rfl rfl))) ?_
      refine AL.nil ?_
      refine AW.cond (b := _) rfl (fun hc8 => ?_) (fun hc8 => ?_)
      · replace hm := iteT hc8 hm
        refine AW.seqR ?_
        refine AL.s rfl (op_assignD (.e rfl)) ?_
        refine AL.nil ?_
        refine AW.ret ?_
        refine tq_ret ?_
        obtain rfl := Option.some.inj hm
        exact EndQ.d (.tmp (.e rfl) .nil) rfl rfl
      · replace hm := iteF hc8 hm
        refine AW.skip ?_
        refine nq ?_
        refine AW.seqR ?_
        obtain ⟨v23, hv23, hm⟩ := bindE hm
        refine AL.s rfl (op_fn Try.call12 (.e rfl) .nil (m_match_Works_ok hv23)) ?_
        refine AL.s rfl (op_alloc (n := 7) zr40 rfl) ?_
        refine AL.s rfl (op_store (.e rfl) (.e rfl) rfl rfl rfl ⟨_, rfl, rfl⟩ rfl (Nat.le_of_ble_eq_true rfl)) ?_
        refine AL.nil ?_
        refine AW.seqR ?_
        refine AL.s rfl (op_load_ptrA (.e rfl) rfl rfl rfl ag40) ?_
        refine AL.s rfl (op_load_ptrA (.e rfl) rfl rfl rfl ag32) ?_
        refine AL.toD 99 rfl ?_
        refine AL.toD 100 rfl ?_
        obtain ⟨v24, hv24, hm⟩ := bindE hm
        refine AL.s rfl (op_callF (v := .tup [.hs 8 0 v24.1.length 2, .d (.int .i64 v24.2)]) (H' := [.row [.d (.int .i64 a1.fID), .d (.sl (a1.fTitle.map D.str)), .d (.str a1.fAuthor), .d (.sl (a1.fYears.map D.i)), .d (.sl (a1.fIsbns.map D.str)), .d (.sl (a1.fLangs.map D.str)), .d (.sl (a1.fPublisher.map D.str)), .d (.sl (a1.fEdition.map D.str))], .row [.d (.int .i64 a2.fID), .d (.sl (a2.fTitle.map D.str)), .d (.str a2.fAuthor), .d (.sl (a2.fYears.map D.i)), .d (.sl (a2.fIsbns.map D.str)), .d (.sl (a2.fLangs.map D.str)), .d (.sl (a2.fPublisher.map D.str)), .d (.sl (a2.fEdition.map D.str))], .row [.d (.int .i64 v10.fID), .d (.sl (v10.fTitle.map D.str)), .d (.str v10.fAuthor), .d (.sl (v10.fYears.map D.i)), .d (.sl (v10.fIsbns.map D.str)), .d (.sl (v10.fLangs.map D.str)), .d (.sl (v10.fPublisher.map D.str)), .d (.sl (v10.fEdition.map D.str))], .row [.d (.int .i64 v11.fID), .d (.sl (v11.fTitle.map D.str)), .d (.str v11.fAuthor), .d (.sl (v11.fYears.map D.i)), .d (.sl (v11.fIsbns.map D.str)), .d (.sl (v11.fLangs.map D.str)), .d (.sl (v11.fPublisher.map D.str)), .d (.sl (v11.fEdition.map D.str))], .row [.d (.int .i64 v10.fID), .d (.sl (s13.map D.str)), .d (.str s14), .d (.sl (s15.map D.i)), .d (.sl (s16.map D.str)), .d (.sl (s17.map D.str)), .d (.sl (s18.map D.str)), .d (.sl (s19.map D.str))], .row [.d (.int .i64 v20.1.e0), .d (.int .i64 v20.1.e1), .d (.int .i64 v20.1.e2), .d (.int .i64 v20.1.e3), .d (.int .i64 v20.1.e4), .d (.int .i64 v20.1.e5), .d (.int .i64 v20.1.e6)], .row [.d (.int .i64 v21.1.e0), .d (.int .i64 v21.1.e1), .d (.int .i64 v21.1.e2), .d (.int .i64 v21.1.e3), .d (.int .i64 v21.1.e4), .d (.int .i64 v21.1.e5), .d (.int .i64 v21.1.e6)], .row [.d (.int .i64 v23.e0.e0.fNum), .d (.int .i64 v23.e0.e0.fDen), .d (.int .i64 v23.e0.e1.fNum), .d (.int .i64 v23.e0.e1.fDen), .d (.int .i64 v23.e0.e2.fNum), .d (.int .i64 v23.e0.e2.fDen), .d (.int .i64 v23.e1.e0.fNum), .d (.int .i64 v23.e1.e0.fDen), .d (.int .i64 v23.e1.e1.fNum), .d (.int .i64 v23.e1.e1.fDen), .d (.int .i64 v23.e1.e2.fNum), .d (.int .i64 v23.e1.e2.fDen), .d (.int .i64 v23.e2.e0.fNum), .d (.int .i64 v23.e2.e0.fDen), .d (.int .i64 v23.e2.e1.fNum), .d (.int .i64 v23.e2.e1.fDen), .d (.int .i64 v23.e2.e2.fNum), .d (.int .i64 v23.e2.e2.fDen), .d (.int .i64 v23.e3.e0.fNum), .d (.int .i64 v23.e3.e0.fDen), .d (.int .i64 v23.e3.e1.fNum), .d (.int .i64 v23.e3.e1.fDen), .d (.int .i64 v23.e3.e2.fNum), .d (.int .i64 v23.e3.e2.fDen), .d (.int .i64 v23.e4.e0.fNum), .d (.int .i64 v23.e4.e0.fDen), .d (.int .i64 v23.e4.e1.fNum), .d (.int .i64 v23.e4.e1.fDen), .d (.int .i64 v23.e4.e2.fNum), .d (.int .i64 v23.e4.e2.fDen), .d (.int .i64 v23.e5.e0.fNum), .d (.int .i64 v23.e5.e0.fDen), .d (.int .i64 v23.e5.e1.fNum), .d (.int .i64 v23.e5.e1.fDen), .d (.int .i64 v23.e5.e2.fNum), .d (.int .i64 v23.e5.e2.fDen), .d (.int .i64 v23.e6.e0.fNum), .d (.int .i64 v23.e6.e0.fDen), .d (.int .i64 v23.e6.e1.fNum), .d (.int .i64 v23.e6.e1.fDen), .d (.int .i64 v23.e6.e2.fNum), .d (.int .i64 v23.e6.e2.fDen)], .lst (v24.1.map SRatio.e) 37 2]) [] Try.call16 (.e rfl) (.cons (.e rfl) (.cons (.e rfl) .nil)) (m_match_Factors_f2_ok hv24) rfl .nil rfl rfl rfl rfl rfl rfl rfl rfl) ?_
        refine AL.s rfl (op_moveU (.e rfl)) ?_
        refine AL.s rfl (op_extractV (.e rfl) rfl) ?_
        refine AL.s rfl (op_extractV (.e rfl) rfl) ?_
        refine AL.s rfl (op_assignH (.e rfl)) ?_
        refine AL.s rfl (op_assignD (.e rfl)) ?_
        refine AL.nil ?_
        refine AW.reset 0 [(10, .d (.int .i64 v12)), (11, .ptr 5 0), (13, .ptr 6 0), (15, .ptr 7 0), (16, .hs 8 0 v24.1.length 2), (17, .d (.int .i64 v24.2))] [.row [.d (.int .i64 a1.fID), .d (.sl (a1.fTitle.map D.str)), .d (.str a1.fAuthor), .d (.sl (a1.fYears.map D.i)), .d (.sl (a1.fIsbns.map D.str)), .d (.sl (a1.fLangs.map D.str)), .d (.sl (a1.fPublisher.map D.str)), .d (.sl (a1.fEdition.map D.str))], .row [.d (.int .i64 a2.fID), .d (.sl (a2.fTitle.map D.str)), .d (.str a2.fAuthor), .d (.sl (a2.fYears.map D.i)), .d (.sl (a2.fIsbns.map D.str)), .d (.sl (a2.fLangs.map D.str)), .d (.sl (a2.fPublisher.map D.str)), .d (.sl (a2.fEdition.map D.str))], .row [.d (.int .i64 v10.fID), .d (.sl (v10.fTitle.map D.str)), .d (.str v10.fAuthor), .d (.sl (v10.fYears.map D.i)), .d (.sl (v10.fIsbns.map D.str)), .d (.sl (v10.fLangs.map D.str)), .d (.sl (v10.fPublisher.map D.str)), .d (.sl (v10.fEdition.map D.str))], .row [.d (.int .i64 v11.fID), .d (.sl (v11.fTitle.map D.str)), .d (.str v11.fAuthor), .d (.sl (v11.fYears.map D.i)), .d (.sl (v11.fIsbns.map D.str)), .d (.sl (v11.fLangs.map D.str)), .d (.sl (v11.fPublisher.map D.str)), .d (.sl (v11.fEdition.map D.str))], .row [.d (.int .i64 v10.fID), .d (.sl (s13.map D.str)), .d (.str s14), .d (.sl (s15.map D.i)), .d (.sl (s16.map D.str)), .d (.sl (s17.map D.str)), .d (.sl (s18.map D.str)), .d (.sl (s19.map D.str))], .row [.d (.int .i64 v20.1.e0), .d (.int .i64 v20.1.e1), .d (.int .i64 v20.1.e2), .d (.int .i64 v20.1.e3), .d (.int .i64 v20.1.e4), .d (.int .i64 v20.1.e5), .d (.int .i64 v20.1.e6)], .row [.d (.int .i64 v21.1.e0), .d (.int .i64 v21.1.e1), .d (.int .i64 v21.1.e2), .d (.int .i64 v21.1.e3), .d (.int .i64 v21.1.e4), .d (.int .i64 v21.1.e5), .d (.int .i64 v21.1.e6)], .row [.d (.int .i64 v23.e0.e0.fNum), .d (.int .i64 v23.e0.e0.fDen), .d (.int .i64 v23.e0.e1.fNum), .d (.int .i64 v23.e0.e1.fDen), .d (.int .i64 v23.e0.e2.fNum), .d (.int .i64 v23.e0.e2.fDen), .d (.int .i64 v23.e1.e0.fNum), .d (.int .i64 v23.e1.e0.fDen), .d (.int .i64 v23.e1.e1.fNum), .d (.int .i64 v23.e1.e1.fDen), .d (.int .i64 v23.e1.e2.fNum), .d (.int .i64 v23.e1.e2.fDen), .d (.int .i64 v23.e2.e0.fNum), .d (.int .i64 v23.e2.e0.fDen), .d (.int .i64 v23.e2.e1.fNum), .d (.int .i64 v23.e2.e1.fDen), .d (.int .i64 v23.e2.e2.fNum), .d (.int .i64 v23.e2.e2.fDen), .d (.int .i64 v23.e3.e0.fNum), .d (.int .i64 v23.e3.e0.fDen), .d (.int .i64 v23.e3.e1.fNum), .d (.int .i64 v23.e3.e1.fDen), .d (.int .i64 v23.e3.e2.fNum), .d (.int .i64 v23.e3.e2.fDen), .d (.int .i64 v23.e4.e0.fNum), .d (.int .i64 v23.e4.e0.fDen), .d (.int .i64 v23.e4.e1.fNum), .d (.int .i64 v23.e4.e1.fDen), .d (.int .i64 v23.e4.e2.fNum), .d (.int .i64 v23.e4.e2.fDen), .d (.int .i64 v23.e5.e0.fNum), .d (.int .i64 v23.e5.e0.fDen), .d (.int .i64 v23.e5.e1.fNum), .d (.int .i64 v23.e5.e1.fDen), .d (.int .i64 v23.e5.e2.fNum), .d (.int .i64 v23.e5.e2.fDen), .d (.int .i64 v23.e6.e0.fNum), .d (.int .i64 v23.e6.e0.fDen), .d (.int .i64 v23.e6.e1.fNum), .d (.int .i64 v23.e6.e1.fDen), .d (.int .i64 v23.e6.e2.fNum), .d (.int .i64 v23.e6.e2.fDen)], .lst (v24.1.map SRatio.e) 37 2] (WOK.g0 hw0 (by simp)) ⟨[0, 1, 2, 3, 4, 5, 6, 7, 8], rfl, rfl, rfl, ⟨(.d rfl), (.ptr rfl), (.ptr rfl), (.ptr rfl), (.hs rfl rfl), (.d rfl), trivial⟩, trivial, (.row rfl (.cons (.d rfl) (.cons (.d rfl) (.cons (.d rfl) (.cons (.d rfl) (.cons (.d rfl) (.cons (.d rfl) (.cons (.d rfl) (.cons (.d rfl) .nil)))))))) (.row rfl (.cons (.d rfl) (.cons (.d rfl) (.cons (.d rfl) (.cons (.d rfl) (.cons (.d rfl) (.cons (.d rfl) (.cons (.d rfl) (.cons (.d rfl) .nil)))))))) (.row rfl (.cons (.d rfl) (.cons (.d rfl) (.cons (.d rfl) (.cons (.d rfl) (.cons (.d rfl) (.cons (.d rfl) (.cons (.d rfl) (.cons (.d rfl) .nil)))))))) (.row rfl (.cons (.d rfl) (.cons (.d rfl) (.cons (.d rfl) (.cons (.d rfl) (.cons (.d rfl) (.cons (.d rfl) (.cons (.d rfl) (.cons (.d rfl) .nil)))))))) (.row rfl (.cons (.d rfl) (.cons (.d rfl) (.cons (.d rfl) (.cons (.d rfl) (.cons (.d rfl) (.cons (.d rfl) (.cons (.d rfl) (.cons (.d rfl) .nil)))))))) (.row rfl (.cons (.d rfl) (.cons (.d rfl) (.cons (.d rfl) (.cons (.d rfl) (.cons (.d rfl) (.cons (.d rfl) (.cons (.d rfl) .nil))))))) (.row rfl (.cons (.d rfl) (.cons (.d rfl) (.cons (.d rfl) (.cons (.d rfl) (.cons (.d rfl) (.cons (.d rfl) (.cons (.d rfl) .nil))))))) (.row rfl (.cons (.d rfl) (.cons (.d rfl) (.cons (.d rfl) (.cons (.d rfl) (.cons (.d rfl) (.cons (.d rfl) (.cons (.d rfl) (.cons (.d rfl) (.cons (.d rfl) (.cons (.d rfl) (.cons (.d rfl) (.cons (.d rfl) (.cons (.d rfl) (.cons (.d rfl) (.cons (.d rfl) (.cons (.d rfl) (.cons (.d rfl) (.cons (.d rfl) (.cons (.d rfl) (.cons (.d rfl) (.cons (.d rfl) (.cons (.d rfl) (.cons (.d rfl) (.cons (.d rfl) (.cons (.d rfl) (.cons (.d rfl) (.cons (.d rfl) (.cons (.d rfl) (.cons (.d rfl) (.cons (.d rfl) (.cons (.d rfl) (.cons (.d rfl) (.cons (.d rfl) (.cons (.d rfl) (.cons (.d rfl) (.cons (.d rfl) (.cons (.d rfl) (.cons (.d rfl) (.cons (.d rfl) (.cons (.d rfl) (.cons (.d rfl) (.cons (.d rfl) .nil)))))))))))))))))))))))))))))))))))))))))) (.lst rfl .nil)))))))))⟩ ?_
        refine AW.seqR ?_
        refine AL.s rfl (op_load_ptrA (.e rfl) rfl rfl rfl ag40) ?_
        refine AL.s rfl (op_load_ptrA (.e rfl) rfl rfl rfl ag32) ?_
        refine AL.toD 105 rfl ?_
        refine AL.toD 106 rfl ?_
        obtain ⟨v25, hv25, hm⟩ := bindE hm
        refine AL.s rfl (op_callF (v := .tup [.hs 9 0 v25.1.length 2, .d (.int .i64 v25.2)]) (H' := [.row [.d (.int .i64 a1.fID), .d (.sl (a1.fTitle.map D.str)), .d (.str a1.fAuthor), .d (.sl (a1.fYears.map D.i)), .d (.sl (a1.fIsbns.map D.str)), .d (.sl (a1.fLangs.map D.str)), .d (.sl (a1.fPublisher.map D.str)), .d (.sl (a1.fEdition.map D.str))], .row [.d (.int .i64 a2.fID), .d (.sl (a2.fTitle.map D.str)), .d (.str a2.fAuthor), .d (.sl (a2.fYears.map D.i)), .d (.sl (a2.fIsbns.map D.str)), .d (.sl (a2.fLangs.map D.str)), .d (.sl (a2.fPublisher.map D.str)), .d (.sl (a2.fEdition.map D.str))], .row [.d (.int .i64 v10.fID), .d (.sl (v10.fTitle.map D.str)), .d (.str v10.fAuthor), .d (.sl (v10.fYears.map D.i)), .d (.sl (v10.fIsbns.map D.str)), .d (.sl (v10.fLangs.map D.str)), .d (.sl (v10.fPublisher.map D.str)), .d (.sl (v10.fEdition.map D.str))], .row [.d (.int .i64 v11.fID), .d (.sl (v11.fTitle.map D.str)), .d (.str v11.fAuthor), .d (.sl (v11.fYears.map D.i)), .d (.sl (v11.fIsbns.map D.str)), .d (.sl (v11.fLangs.map D.str)), .d (.sl (v11.fPublisher.map D.str)), .d (.sl (v11.fEdition.map D.str))], .row [.d (.int .i64 v10.fID), .d (.sl (s13.map D.str)), .d (.str s14), .d (.sl (s15.map D.i)), .d (.sl (s16.map D.str)), .d (.sl (s17.map D.str)), .d (.sl (s18.map D.str)), .d (.sl (s19.map D.str))], .row [.d (.int .i64 v20.1.e0), .d (.int .i64 v20.1.e1), .d (.int .i64 v20.1.e2), .d (.int .i64 v20.1.e3), .d (.int .i64 v20.1.e4), .d (.int .i64 v20.1.e5), .d (.int .i64 v20.1.e6)], .row [.d (.int .i64 v21.1.e0), .d (.int .i64 v21.1.e1), .d (.int .i64 v21.1.e2), .d (.int .i64 v21.1.e3), .d (.int .i64 v21.1.e4), .d (.int .i64 v21.1.e5), .d (.int .i64 v21.1.e6)], .row [.d (.int .i64 v23.e0.e0.fNum), .d (.int .i64 v23.e0.e0.fDen), .d (.int .i64 v23.e0.e1.fNum), .d (.int .i64 v23.e0.e1.fDen), .d (.int .i64 v23.e0.e2.fNum), .d (.int .i64 v23.e0.e2.fDen), .d (.int .i64 v23.e1.e0.fNum), .d (.int .i64 v23.e1.e0.fDen), .d (.int .i64 v23.e1.e1.fNum), .d (.int .i64 v23.e1.e1.fDen), .d (.int .i64 v23.e1.e2.fNum), .d (.int .i64 v23.e1.e2.fDen), .d (.int .i64 v23.e2.e0.fNum), .d (.int .i64 v23.e2.e0.fDen), .d (.int .i64 v23.e2.e1.fNum), .d (.int .i64 v23.e2.e1.fDen), .d (.int .i64 v23.e2.e2.fNum), .d (.int .i64 v23.e2.e2.fDen), .d (.int .i64 v23.e3.e0.fNum), .d (.int .i64 v23.e3.e0.fDen), .d (.int .i64 v23.e3.e1.fNum), .d (.int .i64 v23.e3.e1.fDen), .d (.int .i64 v23.e3.e2.fNum), .d (.int .i64 v23.e3.e2.fDen), .d (.int .i64 v23.e4.e0.fNum), .d (.int .i64 v23.e4.e0.fDen), .d (.int .i64 v23.e4.e1.fNum), .d (.int .i64 v23.e4.e1.fDen), .d (.int .i64 v23.e4.e2.fNum), .d (.int .i64 v23.e4.e2.fDen), .d (.int .i64 v23.e5.e0.fNum), .d (.int .i64 v23.e5.e0.fDen), .d (.int .i64 v23.e5.e1.fNum), .d (.int .i64 v23.e5.e1.fDen), .d (.int .i64 v23.e5.e2.fNum), .d (.int .i64 v23.e5.e2.fDen), .d (.int .i64 v23.e6.e0.fNum), .d (.int .i64 v23.e6.e0.fDen), .d (.int .i64 v23.e6.e1.fNum), .d (.int .i64 v23.e6.e1.fDen), .d (.int .i64 v23.e6.e2.fNum), .d (.int .i64 v23.e6.e2.fDen)], .lst (v24.1.map SRatio.e) 37 2, .lst (v25.1.map SRatio.e) 37 2]) [] Try.call16 (.e rfl) (.cons (.e rfl) (.cons (.e rfl) .nil)) (m_match_Factors_f2_ok hv25) rfl .nil rfl rfl rfl rfl rfl rfl rfl rfl) ?_
        refine AL.s rfl (op_moveU (.e rfl)) ?_
        refine AL.s rfl (op_extractV (.e rfl) rfl) ?_
        refine AL.s rfl (op_extractV (.e rfl) rfl) ?_
        refine AL.s rfl (op_assignH (.e rfl)) ?_
        refine AL.s rfl (op_assignD (.e rfl)) ?_
        refine AL.nil ?_
        refine AW.seq ?_
        refine AW.seqR ?_
        refine AL.s rfl (op_moveD (.e rfl)) ?_
        refine AL.s rfl (op_neq (.r rfl) (.r rfl)) ?_
        refine AL.s rfl (op_moveD (.e rfl)) ?_
        refine AL.sF rfl rfl rfl rfl (fun g => op_moveD (.e rfl)) ?_
        refine AL.sF rfl rfl rfl rfl (fun g => op_neq (.we (nt g) rfl rfl) (.r rfl)) ?_
        refine AL.s rfl (op_or (.r rfl) rfl (fun h => (.we (nt h) rfl rfl))) ?_
        refine AL.nil ?_
        refine AW.cond (b := _) rfl (fun hc9 => ?_) (fun hc9 => ?_)
        · replace hm := iteT hc9 hm
          refine AW.seqR ?_
          refine AL.s rfl (op_assignD (.e rfl)) ?_
          refine AL.nil ?_
          refine AW.ret ?_
          refine tq_ret ?_
          obtain rfl := Option.some.inj hm
          exact EndQ.d (.tmp (.e rfl) .nil) rfl rfl
        · replace hm := iteF hc9 hm
          refine AW.skip ?_
          refine nq ?_
          obtain ⟨t_j2, hm, hkj2⟩ := bindE hm
          refine AW.cutS (α := (List SRatio)) 0 (fun x => x = t_j2) (fun x => [(10, .d (.int .i64 v12)), (11, .ptr 5 0), (13, .ptr 6 0), (16, .hs 8 0 v24.1.length 2), (18, .hs 9 0 x.length 2)]) (fun x => [.row [.d (.int .i64 a1.fID), .d (.sl (a1.fTitle.map D.str)), .d (.str a1.fAuthor), .d (.sl (a1.fYears.map D.i)), .d (.sl (a1.fIsbns.map D.str)), .d (.sl (a1.fLangs.map D.str)), .d (.sl (a1.fPublisher.map D.str)), .d (.sl (a1.fEdition.map D.str))], .row [.d (.int .i64 a2.fID), .d (.sl (a2.fTitle.map D.str)), .d (.str a2.fAuthor), .d (.sl (a2.fYears.map D.i)), .d (.sl (a2.fIsbns.map D.str)), .d (.sl (a2.fLangs.map D.str)), .d (.sl (a2.fPublisher.map D.str)), .d (.sl (a2.fEdition.map D.str))], .row [.d (.int .i64 v10.fID), .d (.sl (v10.fTitle.map D.str)), .d (.str v10.fAuthor), .d (.sl (v10.fYears.map D.i)), .d (.sl (v10.fIsbns.map D.str)), .d (.sl (v10.fLangs.map D.str)), .d (.sl (v10.fPublisher.map D.str)), .d (.sl (v10.fEdition.map D.str))], .row [.d (.int .i64 v11.fID), .d (.sl (v11.fTitle.map D.str)), .d (.str v11.fAuthor), .d (.sl (v11.fYears.map D.i)), .d (.sl (v11.fIsbns.map D.str)), .d (.sl (v11.fLangs.map D.str)), .d (.sl (v11.fPublisher.map D.str)), .d (.sl (v11.fEdition.map D.str))], .row [.d (.int .i64 v10.fID), .d (.sl (s13.map D.str)), .d (.str s14), .d (.sl (s15.map D.i)), .d (.sl (s16.map D.str)), .d (.sl (s17.map D.str)), .d (.sl (s18.map D.str)), .d (.sl (s19.map D.str))], .row [.d (.int .i64 v20.1.e0), .d (.int .i64 v20.1.e1), .d (.int .i64 v20.1.e2), .d (.int .i64 v20.1.e3), .d (.int .i64 v20.1.e4), .d (.int .i64 v20.1.e5), .d (.int .i64 v20.1.e6)], .row [.d (.int .i64 v21.1.e0), .d (.int .i64 v21.1.e1), .d (.int .i64 v21.1.e2), .d (.int .i64 v21.1.e3), .d (.int .i64 v21.1.e4), .d (.int .i64 v21.1.e5), .d (.int .i64 v21.1.e6)], .row [.d (.int .i64 v23.e0.e0.fNum), .d (.int .i64 v23.e0.e0.fDen), .d (.int .i64 v23.e0.e1.fNum), .d (.int .i64 v23.e0.e1.fDen), .d (.int .i64 v23.e0.e2.fNum), .d (.int .i64 v23.e0.e2.fDen), .d (.int .i64 v23.e1.e0.fNum), .d (.int .i64 v23.e1.e0.fDen), .d (.int .i64 v23.e1.e1.fNum), .d (.int .i64 v23.e1.e1.fDen), .d (.int .i64 v23.e1.e2.fNum), .d (.int .i64 v23.e1.e2.fDen), .d (.int .i64 v23.e2.e0.fNum), .d (.int .i64 v23.e2.e0.fDen), .d (.int .i64 v23.e2.e1.fNum), .d (.int .i64 v23.e2.e1.fDen), .d (.int .i64 v23.e2.e2.fNum), .d (.int .i64 v23.e2.e2.fDen), .d (.int .i64 v23.e3.e0.fNum), .d (.int .i64 v23.e3.e0.fDen), .d (.int .i64 v23.e3.e1.fNum), .d (.int .i64 v23.e3.e1.fDen), .d (.int .i64 v23.e3.e2.fNum), .d (.int .i64 v23.e3.e2.fDen), .d (.int .i64 v23.e4.e0.fNum), .d (.int .i64 v23.e4.e0.fDen), .d (.int .i64 v23.e4.e1.fNum), .d (.int .i64 v23.e4.e1.fDen), .d (.int .i64 v23.e4.e2.fNum), .d (.int .i64 v23.e4.e2.fDen), .d (.int .i64 v23.e5.e0.fNum), .d (.int .i64 v23.e5.e0.fDen), .d (.int .i64 v23.e5.e1.fNum), .d (.int .i64 v23.e5.e1.fDen), .d (.int .i64 v23.e5.e2.fNum), .d (.int .i64 v23.e5.e2.fDen), .d (.int .i64 v23.e6.e0.fNum), .d (.int .i64 v23.e6.e0.fDen), .d (.int .i64 v23.e6.e1.fNum), .d (.int .i64 v23.e6.e1.fDen), .d (.int .i64 v23.e6.e2.fNum), .d (.int .i64 v23.e6.e2.fDen)], .lst (v24.1.map SRatio.e) 37 2, .lst (x.map SRatio.e) 37 2]) (WOK.g0 hw0 (by simp)) ?_ ?_
          · skip
            refine AW.seqR ?_
            refine AL.s rfl (op_moveD (.e rfl)) ?_
            obtain ⟨v26, hv26, hm⟩ := bindE hm
            refine AL.s rfl (op_indexA (l := v20.1.l) (s := 1) (.e rfl) (.r rfl) hv26 rfl Try.underlying32 ⟨_, rfl, rfl⟩) ?_
            refine AL.s rfl (op_loadAt1 (X := (A7.e v20.1).cells) (.e rfl) rfl (AtD.ix (f := D.i) (l := v20.1.l) En.i (AtD.root : AtD (A7.e v20.1).cells 0 _ _) hv26) sc3) ?_
            refine AL.s rfl (op_neq (.r rfl) (.r rfl)) ?_
            refine AL.nil ?_
            refine AW.cond (b := _) rfl (fun hc10 => ?_) (fun hc10 => ?_)
            · replace hm := iteT hc10 hm
              refine AW.free ?_
              refine AW.drawn [([], []), ([], []), ([], []), ([], []), ([5], []), ([], []), ([], []), ([], []), ([7], []), ([], []), ([9], [9, 10]), ([], [])] mo (by decide +kernel) ?_
              refine AD.s (ws := []) rfl rfl (fun H' _ hH => op_moveH (.e rfl)) ?_
              refine AD.s (ws := []) rfl rfl (fun H' _ hH => op_moveD (.e rfl)) ?_
              refine AD.s (ws := []) rfl rfl (fun H' _ hH => op_moveD (.e rfl)) ?_
              obtain ⟨v27, hv27, hm⟩ := bindE hm
              refine AD.s (ws := []) rfl rfl (fun H' _ hH => op_indexA (l := v20.1.l) (s := 1) (.e rfl) (.r rfl) hv27 rfl Try.underlying32 ⟨_, rfl, rfl⟩) ?_
              refine AD.s (ws := []) rfl rfl (fun H' _ hH => op_loadAt1 (X := (A7.e v20.1).cells) (.e rfl) ((hH _ (by simp)).trans rfl) (AtD.ix (f := D.i) (l := v20.1.l) En.i (AtD.root : AtD (A7.e v20.1).cells 0 _ _) hv27) sc3) ?_
              refine AD.s (ws := []) rfl rfl (fun H' _ hH => op_subw (.r rfl) (.r rfl)) ?_
              obtain ⟨v28, hv28, hm⟩ := bindE hm
              refine AD.s (ws := []) rfl rfl (fun H' _ hH => op_indexA (l := v23.l) (s := 6) (.e rfl) (.r rfl) hv28 rfl Try.underlying40 ⟨_, rfl, rfl⟩) ?_
              obtain ⟨v29, hv29, hm⟩ := bindE hm
              refine AD.s (ws := []) rfl rfl (fun H' _ hH => op_indexA (l := v28.l) (s := 2) (.e rfl) (.r rfl) hv29 rfl Try.underlying38 ⟨_, rfl, rfl⟩) ?_
              refine AD.s (ws := []) rfl rfl (fun H' _ hH => op_loadAtA (X := (A72.e v23).cells) (.e rfl) ((hH _ (by simp)).trans rfl) (AtD.ix (f := SRatio.e) (l := v28.l) enSRatio (AtD.ix (f := A3.e) (l := v23.l) enA3 (AtD.root : AtD (A72.e v23).cells 0 _ _) hv28) hv29) ag37) ?_
              refine AD.s (ws := []) rfl rfl (fun H' _ hH => op_buildSlice (ds := ([v29] : List SRatio).map SRatio.e) sl51 (.cons (.r rfl) rfl (enSRatio.one _) .nil) rfl (by decide)) ?_
              obtain ⟨v30, hv30, hm⟩ := bindE hm
              refine AD.s (ws := [(9, _), (10, _)]) rfl rfl (fun H' _ hH => op_appendHRM (res := 10) (f := SRatio.e) (l := v25.1) (l' := ([v29] : List SRatio)) sl51 (.e rfl) (.r rfl) ((hH _ (by simp)).trans rfl) rfl ((hH _ (by simp)).trans rfl) enSRatio hv30) ?_
              refine AD.s (ws := []) rfl rfl (fun H' _ hH => op_assignH (.e rfl)) ?_
              refine AD.nil ?_
              obtain rfl := Option.some.inj hm
              exact nq ⟨_, rfl, ⟨[0, 1, 2, 3, 4, 5, 6, 7, 8, 10], rfl, rfl, rfl, ⟨(.d rfl), (.ptr rfl), (.ptr rfl), (.hs rfl rfl), (.hs rfl rfl), trivial⟩, trivial, (.row rfl (.cons (.d rfl) (.cons (.d rfl) (.cons (.d rfl) (.cons (.d rfl) (.cons (.d rfl) (.cons (.d rfl) (.cons (.d rfl) (.cons (.d rfl) .nil)))))))) (.row rfl (.cons (.d rfl) (.cons (.d rfl) (.cons (.d rfl) (.cons (.d rfl) (.cons (.d rfl) (.cons (.d rfl) (.cons (.d rfl) (.cons (.d rfl) .nil)))))))) (.row rfl (.cons (.d rfl) (.cons (.d rfl) (.cons (.d rfl) (.cons (.d rfl) (.cons (.d rfl) (.cons (.d rfl) (.cons (.d rfl) (.cons (.d rfl) .nil)))))))) (.row rfl (.cons (.d rfl) (.cons (.d rfl) (.cons (.d rfl) (.cons (.d rfl) (.cons (.d rfl) (.cons (.d rfl) (.cons (.d rfl) (.cons (.d rfl) .nil)))))))) (.row rfl (.cons (.d rfl) (.cons (.d rfl) (.cons (.d rfl) (.cons (.d rfl) (.cons (.d rfl) (.cons (.d rfl) (.cons (.d rfl) (.cons (.d rfl) .nil)))))))) (.row rfl (.cons (.d rfl) (.cons (.d rfl) (.cons (.d rfl) (.cons (.d rfl) (.cons (.d rfl) (.cons (.d rfl) (.cons (.d rfl) .nil))))))) (.row rfl (.cons (.d rfl) (.cons (.d rfl) (.cons (.d rfl) (.cons (.d rfl) (.cons (.d rfl) (.cons (.d rfl) (.cons (.d rfl) .nil))))))) (.row rfl (.cons (.d rfl) (.cons (.d rfl) (.cons (.d rfl) (.cons (.d rfl) (.cons (.d rfl) (.cons (.d rfl) (.cons (.d rfl) (.cons (.d rfl) (.cons (.d rfl) (.cons (.d rfl) (.cons (.d rfl) (.cons (.d rfl) (.cons (.d rfl) (.cons (.d rfl) (.cons (.d rfl) (.cons (.d rfl) (.cons (.d rfl) (.cons (.d rfl) (.cons (.d rfl) (.cons (.d rfl) (.cons (.d rfl) (.cons (.d rfl) (.cons (.d rfl) (.cons (.d rfl) (.cons (.d rfl) (.cons (.d rfl) (.cons (.d rfl) (.cons (.d rfl) (.cons (.d rfl) (.cons (.d rfl) (.cons (.d rfl) (.cons (.d rfl) (.cons (.d rfl) (.cons (.d rfl) (.cons (.d rfl) (.cons (.d rfl) (.cons (.d rfl) (.cons (.d rfl) (.cons (.d rfl) (.cons (.d rfl) (.cons (.d rfl) (.cons (.d rfl) .nil)))))))))))))))))))))))))))))))))))))))))) (.lst rfl (.lst rfl .nil))))))))))⟩⟩
            · replace hm := iteF hc10 hm
              refine AW.skip ?_
              obtain rfl := Option.some.inj hm
              exact nq ⟨_, rfl, ⟨[0, 1, 2, 3, 4, 5, 6, 7, 8, 9], rfl, rfl, rfl, ⟨(.d rfl), (.ptr rfl), (.ptr rfl), (.hs rfl rfl), (.hs rfl rfl), trivial⟩, trivial, (.row rfl (.cons (.d rfl) (.cons (.d rfl) (.cons (.d rfl) (.cons (.d rfl) (.cons (.d rfl) (.cons (.d rfl) (.cons (.d rfl) (.cons (.d rfl) .nil)))))))) (.row rfl (.cons (.d rfl) (.cons (.d rfl) (.cons (.d rfl) (.cons (.d rfl) (.cons (.d rfl) (.cons (.d rfl) (.cons (.d rfl) (.cons (.d rfl) .nil)))))))) (.row rfl (.cons (.d rfl) (.cons (.d rfl) (.cons (.d rfl) (.cons (.d rfl) (.cons (.d rfl) (.cons (.d rfl) (.cons (.d rfl) (.cons (.d rfl) .nil)))))))) (.row rfl (.cons (.d rfl) (.cons (.d rfl) (.cons (.d rfl) (.cons (.d rfl) (.cons (.d rfl) (.cons (.d rfl) (.cons (.d rfl) (.cons (.d rfl) .nil)))))))) (.row rfl (.cons (.d rfl) (.cons (.d rfl) (.cons (.d rfl) (.cons (.d rfl) (.cons (.d rfl) (.cons (.d rfl) (.cons (.d rfl) (.cons (.d rfl) .nil)))))))) (.row rfl (.cons (.d rfl) (.cons (.d rfl) (.cons (.d rfl) (.cons (.d rfl) (.cons (.d rfl) (.cons (.d rfl) (.cons (.d rfl) .nil))))))) (.row rfl (.cons (.d rfl) (.cons (.d rfl) (.cons (.d rfl) (.cons (.d rfl) (.cons (.d rfl) (.cons (.d rfl) (.cons (.d rfl) .nil))))))) (.row rfl (.cons (.d rfl) (.cons (.d rfl) (.cons (.d rfl) (.cons (.d rfl) (.cons (.d rfl) (.cons (.d rfl) (.cons (.d rfl) (.cons (.d rfl) (.cons (.d rfl) (.cons (.d rfl) (.cons (.d rfl) (.cons (.d rfl) (.cons (.d rfl) (.cons (.d rfl) (.cons (.d rfl) (.cons (.d rfl) (.cons (.d rfl) (.cons (.d rfl) (.cons (.d rfl) (.cons (.d rfl) (.cons (.d rfl) (.cons (.d rfl) (.cons (.d rfl) (.cons (.d rfl) (.cons (.d rfl) (.cons (.d rfl) (.cons (.d rfl) (.cons (.d rfl) (.cons (.d rfl) (.cons (.d rfl) (.cons (.d rfl) (.cons (.d rfl) (.cons (.d rfl) (.cons (.d rfl) (.cons (.d rfl) (.cons (.d rfl) (.cons (.d rfl) (.cons (.d rfl) (.cons (.d rfl) (.cons (.d rfl) (.cons (.d rfl) (.cons (.d rfl) .nil)))))))))))))))))))))))))))))))))))))))))) (.lst rfl (.lst rfl .nil))))))))))⟩⟩
          · rintro s31 rfl
            replace hm := hkj2
            try dsimp only at hm
            refine AW.seqR ?_
            refine AL.s rfl (op_moveH (.e rfl)) ?_
            refine AL.s rfl (op_moveH (.e rfl)) ?_
            obtain ⟨v32, hv32, hm⟩ := bindE hm
            refine AL.s rfl (op_lend [8, 9] Try.call23 (.e rfl) (.l (f := SRatio.e) (l := v24.1) (.e rfl) rfl rfl enSRatio rfl (.l (f := SRatio.e) (l := s31) (.e rfl) rfl rfl enSRatio rfl .nil)) (m_odds_Compare_ok hv32) rfl) ?_
            refine AL.s rfl (op_moveD (.e rfl)) ?_
            refine AL.s rfl (op_extractD (.e rfl) rfl) ?_
            refine AL.s rfl (op_extractD (.e rfl) rfl) ?_
            refine AL.s rfl (op_assignD (.e rfl)) ?_
            refine AL.s rfl (op_assignD (.e rfl)) ?_
            refine AL.nil ?_
            refine AW.seqR ?_
            refine AL.s rfl (op_moveD (.e rfl)) ?_
            obtain ⟨v33, hv33, hm⟩ := bindE hm
            refine AL.s rfl (op_indexA (l := v20.1.l) (s := 1) (.e rfl) (.r rfl) hv33 rfl Try.underlying32 ⟨_, rfl, rfl⟩) ?_
            obtain ⟨v34, hv34, hm⟩ := bindE hm
            refine AL.s rfl (op_storeAt (X := (A7.e v20.1).cells) (X' := (A7.e v34).cells) (.e rfl) (.e rfl) rfl (AtD.ix (f := D.i) (l := v20.1.l) En.i (AtD.root : AtD (A7.e v20.1).cells 0 _ _) hv33) (PutD.ix (f := D.i) (l := v20.1.l) (l' := v34.l) En.i (AtD.root : AtD (A7.e v20.1).cells 0 _ _) (PutD.root rfl : PutD (A7.e v20.1).cells 0 _ _ (A7.e v34).cells) (A7.put_l hv34)) rfl rfl ⟨_, rfl, rfl⟩) ?_
            refine AL.nil ?_
            refine AW.seqR ?_
            refine AL.s rfl (op_moveD (.e rfl)) ?_
            refine AL.s rfl (op_eql (.r rfl) (.r rfl)) ?_
            refine AL.s rfl (op_moveD (.e rfl)) ?_
            refine AL.sT rfl rfl rfl rfl (fun g => op_moveD (.e rfl)) ?_
            refine AL.sT rfl rfl rfl rfl (fun g => op_eql (.we g rfl rfl) (.r rfl)) ?_
            refine AL.s rfl (op_and (.r rfl) (fun h => (.we h rfl rfl)) rfl) ?_
            refine AL.s rfl (op_moveD (.e rfl)) ?_
            refine AL.sT rfl rfl rfl rfl (fun g => op_load_ptrA (.e rfl) rfl rfl rfl ag32) ?_
            refine AL.sT rfl rfl rfl rfl (fun g => op_load_ptrA (.e rfl) rfl rfl rfl ag32) ?_
            refine AL.sT rfl rfl rfl rfl (fun g => op_eqlSt (a := (⟨v34.e0, v34.e1, v34.e2, v34.e3, v34.e4, v34.e5, v34.e6⟩ : A7)) (b := (⟨v21.1.e0, v21.1.e1, v21.1.e2, v21.1.e3, v21.1.e4, v21.1.e5, v21.1.e6⟩ : A7)) es32 (.we g rfl rfl) (.we g rfl rfl)) ?_
            refine AL.s rfl (op_and (.r rfl) (fun h => (.we h rfl rfl)) rfl) ?_
            refine AL.s rfl (op_assignD (.e rfl)) ?_
            refine AL.nil ?_
            refine AW.ret ?_
            obtain rfl := Option.some.inj hm
            exact EndQ.d (.tmp (.e rfl) .nil) rfl rfl

end Go.Proofs.Ytgcmhhcopeiomaa.Ab
