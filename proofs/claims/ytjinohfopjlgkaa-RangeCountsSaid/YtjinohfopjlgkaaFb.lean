/- The functions do what they are in plain Lean. Conditions: none. -/
import Derived.Test.YtjinohfopjlgkaaTy
import Derived.Test.YtjinohfopjlgkaaMi
import Derived.Test.YtjinohfopjlgkaaSp
import Derived.Test.YtjinohfopjlgkaaFa
set_option maxRecDepth 100000
namespace Go.Proofs.Ytjinohfopjlgkaa.Ab
open Go
attribute [local irreducible] AL AD AW nlO nlV nlD

set_option maxHeartbeats 20000000 in
theorem m_rangeindex_replaced_ok {n : Nat} {a1 : SIndex} {a2 : Int} {a3 : Int} {a4 : (List (List SItem))} {r : SIndex} (hm : m_rangeindex_replaced n a1 a2 a3 a4 = some r) : Fn Try.prog 53 [(SIndex.e a1), (.int .i64 a2), (.int .i64 a3), (.sl (a4.map (esl SItem.e)))] (SIndex.e r) := by
  unfold m_rangeindex_replaced at hm
  refine Fn.of_AW (fnn := Try.f53) Try.func53 rfl (Nat.le_of_ble_eq_true rfl) (fun g0 w0 hw0 => ?_)
  refine AW.seqR ?_
  refine AL.s rfl (op_box (n := 0) (.e rfl) rfl rfl rfl) ?_
  refine AL.s rfl (op_alloc (n := 1) zr28 rfl) ?_
  refine AL.nil ?_
  refine AW.seqD [([], []), ([0], []), ([], []), ([], []), ([], []), ([], []), ([0], []), ([], []), ([], []), ([], []), ([], []), ([], []), ([1], [1])] mo (by decide +kernel) ?_
  refine AD.s (ws := []) rfl rfl (fun H' _ hH => op_field_ptr (.e rfl) fd28_0) ?_
  refine AD.s (ws := []) rfl rfl (fun H' _ hH => op_load_ptr1 (.e rfl) ((hH _ (by simp)).trans rfl) rfl sc26) ?_
  refine AD.s (ws := []) rfl rfl (fun H' _ hH => op_moveD (.e rfl)) ?_
  obtain ⟨v5, hv5, hm⟩ := bindE hm
  refine AD.s (ws := []) rfl rfl (fun H' _ hH => op_sliceM (f := (esl SItem.e)) (.r rfl) sl26 rfl (.r rfl) En.sl hv5) ?_
  refine AD.s (ws := []) rfl rfl (fun H' _ hH => op_moveD (.e rfl)) ?_
  refine AD.s (ws := []) rfl rfl (fun H' _ hH => op_field_ptr (.e rfl) fd28_0) ?_
  refine AD.s (ws := []) rfl rfl (fun H' _ hH => op_load_ptr1 (.e rfl) ((hH _ (by simp)).trans rfl) rfl sc26) ?_
  refine AD.s (ws := []) rfl rfl (fun H' _ hH => op_moveD (.e rfl)) ?_
  obtain ⟨v6, hv6, hm⟩ := bindE hm
  refine AD.s (ws := []) rfl rfl (fun H' _ hH => op_sliceM (f := (esl SItem.e)) (.r rfl) sl26 (.r rfl) rfl En.sl hv6) ?_
  refine AD.s (ws := []) rfl rfl (fun H' _ hH => op_buildSlice (ds := ([v5, a4, v6] : List (List (List SItem))).map (esl (esl SItem.e))) sl119 (.cons (.r rfl) rfl (En.sl.one _) (.cons (.r rfl) rfl (En.sl.one _) (.cons (.r rfl) rfl (En.sl.one _) .nil))) rfl (by decide)) ?_
  obtain ⟨v7, hv7, hm⟩ := bindE hm
  refine AD.s (ws := []) rfl rfl (fun H' _ hH => op_fn Try.call69 (.e rfl) (.cons (.r rfl) .nil) (m_slices_Concat_rangeindex_Item_rangeindex_Itemx_ok hv7)) ?_
  refine AD.s (ws := []) rfl rfl (fun H' _ hH => op_build bd28 (.cons (.e rfl) rfl rfl rfl rfl (Nat.le_of_ble_eq_true rfl) .nil)) ?_
  refine AD.s (ws := [(1, _)]) rfl rfl (fun H' _ hH => op_storeA (.e rfl) (.e rfl) ((hH _ (by simp)).trans rfl) rfl ⟨_, rfl, rfl⟩ rfl (Nat.le_of_ble_eq_true rfl)) ?_
  refine AD.nil ?_
  refine AW.ret ?_
  obtain rfl := Option.some.inj hm
  exact EndQ.d (.cellA (.e rfl) rfl rfl rfl ag28 .nil) rfl rfl

set_option maxHeartbeats 20000000 in
theorem m_slices_IndexFunc_rangeindex_Item_rangeindex_Item_ok {n : Nat} {H : List HE} {a1 : (List SItem)} {p2 : SItem → Option Bool} {r : Int} {ff_p2 : FuncId} {caps_p2 : List V} (hff_p2 : ∀ (a : Array Value) (w : World), (callFunc ff_p2 a).run Try.prog w = .ok (.enter ff_p2 a) w) (hF_p2 : ∀ (y1 : SItem) (b : Bool), p2 y1 = some b → ACall Try.prog ff_p2 (.d (SItem.e y1) :: caps_p2) H fun r' H' => r' = .d (.bool b) ∧ H' = H) (hm : m_slices_IndexFunc_rangeindex_Item_rangeindex_Item n a1 p2 = some r) : ACall Try.prog 60 [.d (.sl (a1.map SItem.e)), .fn (.func ff_p2) caps_p2] H fun r' H' => r' = .d (.int .i64 r) ∧ H' = H := by
  unfold m_slices_IndexFunc_rangeindex_Item_rangeindex_Item at hm
  refine ACall.of_AW (fnn := Try.f60) Try.func60 rfl (Nat.le_of_ble_eq_true rfl) (fun g0 w0 hw0 => ?_)
  refine AW.seqR ?_
  refine AL.s rfl (op_assignD (.e rfl)) ?_
  refine AL.nil ?_
  refine AW.seq ?_
  refine AW.seqR ?_
  refine AL.s rfl (op_moveD (.e rfl)) ?_
  refine AL.s rfl (op_lenM (f := SItem.e) (.r rfl) sl34) ?_
  refine AL.s rfl (op_moveD (.e rfl)) ?_
  refine AL.nil ?_
  refine AW.block ?_
  obtain ⟨t_1, hI1, hk1⟩ := bindE hm
  refine AW.loopN (σ := Int) (τ := (Int ⊕ Unit)) [0, 1, 7] (fun x => [(8, .d (.int .i64 x))]) hI1 ⟨by first | exact .of rfl | exact .d rfl, trivial⟩ ?_
  rintro n1 s3 hI1
  obtain ⟨y_1, hm, hI1⟩ := iterS hI1
  replace hm : m_slices_IndexFunc_rangeindex_Item_rangeindex_Item_L1 n _ _ s3 = some y_1 := hm
  unfold m_slices_IndexFunc_rangeindex_Item_rangeindex_Item_L1 at hm
  try dsimp only at hm
  refine AW.seqR ?_
  refine AL.s rfl (op_lss (.r rfl) (.r rfl)) ?_
  refine AL.nil ?_
  refine AW.seq ?_
  refine AW.cond (b := _) rfl (fun hc1 => ?_) (fun hc1 => ?_)
  · replace hm := iteT hc1 hm
    refine AW.skip ?_
    refine nq ?_
    refine AW.seq ?_
    refine AW.block ?_
    refine AW.seqR ?_
    refine AL.s rfl (op_moveD (.e rfl)) ?_
    refine AL.s rfl (op_assignD (.e rfl)) ?_
    refine AL.nil ?_
    refine AW.seqR ?_
    refine AL.s rfl (op_moveF (.e rfl)) ?_
    refine AL.s rfl (op_moveD (.e rfl)) ?_
    refine AL.s rfl (op_moveD (.e rfl)) ?_
    obtain ⟨v4, hv4, hm⟩ := bindE hm
    refine AL.s rfl (op_indexAddrM (f := SItem.e) (.r rfl) (.r rfl) hv4 enSItem sl34) ?_
    refine AL.s rfl (op_loadA (.e rfl) rfl ag56) ?_
    obtain ⟨v5, hv5, hm⟩ := bindE hm
    refine AL.s rfl (op_call hff_p2 (.e rfl) (.cons (.e rfl) .nil) (hF_p2 _ _ hv5)) ?_
    refine AL.nil ?_
    refine AW.cond (b := _) rfl (fun hc2 => ?_) (fun hc2 => ?_)
    · replace hm := iteT hc2 hm
      refine AW.seqR ?_
      refine AL.s rfl (op_moveD (.e rfl)) ?_
      refine AL.s rfl (op_assignD (.e rfl)) ?_
      refine AL.nil ?_
      refine AW.ret ?_
      refine bq_ret ?_
      refine tq_ret ?_
      refine tq_ret ?_
      obtain rfl := Option.some.inj hm
      obtain rfl := Option.some.inj hI1
      replace hm := hk1
      try dsimp only at hm
      refine bq_ret ?_
      refine tq_ret ?_
      obtain rfl := Option.some.inj hm
      exact ⟨_, _, (.tmp (.e rfl) .nil), .d rfl, rfl, rfl⟩
    · replace hm := iteF hc2 hm
      refine AW.skip ?_
      refine bq_n ?_
      refine nq ?_
      refine AW.region ?_
      refine AL.s rfl (op_addw (.r rfl) (.r rfl)) ?_
      refine AL.s rfl (op_moveD (.e rfl)) ?_
      refine AL.nil ?_
      obtain rfl := Option.some.inj hm
      exact nq ⟨_, hI1, ⟨by first | exact .of rfl | exact .d rfl, trivial⟩, ⟨rfl, rfl, rfl, trivial⟩, rfl⟩
  · replace hm := iteF hc1 hm
    refine AW.exit ?_
    refine tq_exit ?_
    refine tq_exit ?_
    obtain rfl := Option.some.inj hm
    obtain rfl := Option.some.inj hI1
    replace hm := hk1
    try dsimp only at hm
    refine bq_hit ?_
    refine nq ?_
    refine AW.seqR ?_
    refine AL.s rfl (op_assignD (.e rfl)) ?_
    refine AL.nil ?_
    refine AW.ret ?_
    obtain rfl := Option.some.inj hm
    exact ⟨_, _, (.tmp (.e rfl) .nil), .d rfl, rfl, rfl⟩

set_option maxHeartbeats 20000000 in
theorem m_slices_ContainsFunc_rangeindex_Item_rangeindex_Item_ok {n : Nat} {H : List HE} {a1 : (List SItem)} {p2 : SItem → Option Bool} {r : Bool} {ff_p2 : FuncId} {caps_p2 : List V} (hff_p2 : ∀ (a : Array Value) (w : World), (callFunc ff_p2 a).run Try.prog w = .ok (.enter ff_p2 a) w) (hF_p2 : ∀ (y1 : SItem) (b : Bool), p2 y1 = some b → ACall Try.prog ff_p2 (.d (SItem.e y1) :: caps_p2) H fun r' H' => r' = .d (.bool b) ∧ H' = H) (hm : m_slices_ContainsFunc_rangeindex_Item_rangeindex_Item n a1 p2 = some r) : ACall Try.prog 41 [.d (.sl (a1.map SItem.e)), .fn (.func ff_p2) caps_p2] H fun r' H' => r' = .d (.bool r) ∧ H' = H := by
  unfold m_slices_ContainsFunc_rangeindex_Item_rangeindex_Item at hm
  refine ACall.of_AW (fnn := Try.f41) Try.func41 rfl (Nat.le_of_ble_eq_true rfl) (fun g0 w0 hw0 => ?_)
  refine AW.seqR ?_
  refine AL.s rfl (op_assignD (.e rfl)) ?_
  refine AL.nil ?_
  refine AW.seqR ?_
  refine AL.s rfl (op_moveD (.e rfl)) ?_
  refine AL.s rfl (op_moveF (.e rfl)) ?_
  obtain ⟨v3, hv3, hm⟩ := bindE hm
  refine AL.s rfl (op_call Try.call60 (.e rfl) (.cons (.e rfl) (.cons (.e rfl) .nil)) (m_slices_IndexFunc_rangeindex_Item_rangeindex_Item_ok hff_p2 hF_p2 hv3)) ?_
  refine AL.s rfl (op_geq (.r rfl) (.r rfl)) ?_
  refine AL.s rfl (op_assignD (.e rfl)) ?_
  refine AL.nil ?_
  refine AW.ret ?_
  obtain rfl := Option.some.inj hm
  exact ⟨_, _, (.tmp (.e rfl) .nil), .d rfl, rfl, rfl⟩

set_option maxHeartbeats 20000000 in
theorem m_rangeindex_Of_1_ok {n : Nat} {a1 : SItem} {r : Bool} (hm : m_rangeindex_Of_1 n a1 = some r) : Fn Try.prog 42 [(SItem.e a1)] (.bool r) := by
  unfold m_rangeindex_Of_1 at hm
  refine Fn.of_AW (fnn := Try.f42) Try.func42 rfl (Nat.le_of_ble_eq_true rfl) (fun g0 w0 hw0 => ?_)
  refine AW.seqR ?_
  refine AL.s rfl (op_box (n := 0) (.e rfl) rfl rfl rfl) ?_
  refine AL.s rfl (op_assignD (.e rfl)) ?_
  refine AL.nil ?_
  refine AW.seqR ?_
  refine AL.s rfl (op_load_ptrA (.e rfl) rfl rfl rfl ag56) ?_
  obtain ⟨v2, hv2, hm⟩ := bindE hm
  refine AL.s rfl (op_fn Try.call38 (.e rfl) (.cons (.r rfl) .nil) (m_rangeindex_item_ok hv2)) ?_
  refine AL.s rfl (op_not (.r rfl)) ?_
  refine AL.s rfl (op_assignD (.e rfl)) ?_
  refine AL.nil ?_
  refine AW.ret ?_
  obtain rfl := Option.some.inj hm
  exact EndQ.d (.tmp (.e rfl) .nil) rfl rfl

set_option maxHeartbeats 20000000 in
theorem m_slices_Clone_rangeindex_Item_rangeindex_Item_ok {n : Nat} {a1 : (List SItem)} {r : (List SItem)} (hm : m_slices_Clone_rangeindex_Item_rangeindex_Item n a1 = some r) : ACall Try.prog 43 [.d (.sl (a1.map SItem.e))] [] fun r' H' => r' = resOf [.hs 0 0 r.length 2] ∧ H' = [.lst (r.map SItem.e) 56 2] := by
  unfold m_slices_Clone_rangeindex_Item_rangeindex_Item at hm
  refine ACall.of_AWG (fnn := Try.f43) Try.func43 rfl (Nat.le_of_ble_eq_true rfl) (fun g0 w0 hw0 => ?_)
  refine AW.seqR ?_
  refine AL.s rfl (op_assignN (.e rfl)) ?_
  refine AL.nil ?_
  refine AW.seq ?_
  refine AW.seqR ?_
  refine AL.s rfl (op_moveD (.e rfl)) ?_
  refine AL.sE rfl (op_nilS (.r rfl) rfl sl34) ?_
  rintro _ ⟨b0, rfl, hb0⟩
  refine AL.nil ?_
  refine AW.cond (b := _) rfl (fun hc0 => ?_) (fun hc0 => ?_)
  · have hm : some ([] : (List SItem)) = some r := by have ha := hb0 hc0; simp only [List.map_eq_nil_iff] at ha; subst ha; simpa [app] using hm
    refine AW.seqR ?_
    refine AL.s rfl (op_assignN (.e rfl)) ?_
    refine AL.nil ?_
    refine AW.lstize (n := 0) 2 56 2 rfl rfl ?_
    refine AW.ret ?_
    refine tq_ret ?_
    obtain rfl := Option.some.inj hm
    exact ⟨_, [0], (.tmp (.e rfl) .nil), rfl, rfl, (.cons (.hs rfl rfl) .nil), (.lst rfl .nil)⟩
  · skip
    refine AW.skip ?_
    refine nq ?_
    refine AW.seqR ?_
    refine AL.s rfl (op_buildSlice (ds := ([] : List SItem).map SItem.e) sl34 .nil rfl (by decide)) ?_
    refine AL.s rfl (op_moveD (.e rfl)) ?_
    obtain ⟨v2, hv2, hm⟩ := bindE hm
    refine AL.s rfl (op_appendEH (n := 0) (f := SItem.e) (l' := a1) sl34 (.e rfl) (.r rfl) rfl enSItem hv2) ?_
    refine AL.s rfl (op_assignH (.e rfl)) ?_
    refine AL.nil ?_
    refine AW.ret ?_
    obtain rfl := Option.some.inj hm
    exact ⟨_, [1], (.tmp (.e rfl) .nil), rfl, rfl, (.cons (.hs rfl rfl) .nil), (.lst rfl .nil)⟩

theorem m_slices_SortFunc_rangeindex_Item_rangeindex_Item_inv {n : Nat} {c1 r : List SItem} (hm : m_slices_SortFunc_rangeindex_Item_rangeindex_Item n c1 = some r) : 64 ≤ n ∧ c1.length < 4611686018427387904 ∧ r = isort (ltOf cfC) c1 := by
  unfold m_slices_SortFunc_rangeindex_Item_rangeindex_Item at hm
  split at hm
  · rename_i h; injection hm with hm; exact ⟨h.1, h.2, hm.symm⟩
  · cases hm
theorem m_slices_SortFunc_rangeindex_Item_rangeindex_Item_len {n : Nat} {c1 r : List SItem} (hm : m_slices_SortFunc_rangeindex_Item_rangeindex_Item n c1 = some r) : r.length = c1.length := by
  obtain ⟨_, _, rfl⟩ := m_slices_SortFunc_rangeindex_Item_rangeindex_Item_inv hm; exact isort_len _ _
theorem m_slices_SortFunc_rangeindex_Item_rangeindex_Item_ok {n : Nat} {c1 r : List SItem} (hm : m_slices_SortFunc_rangeindex_Item_rangeindex_Item n c1 = some r) : ACall Try.prog 44 [.hs 0 0 c1.length 2, .fn (.func 39) []] [.lst (c1.map SItem.e) 56 2] fun r' H' => r' = resOf [] ∧ H' = [.lst (r.map SItem.e) 56 2] := by
  obtain ⟨h1, h2, rfl⟩ := m_slices_SortFunc_rangeindex_Item_rangeindex_Item_inv hm
  exact ACall.sortF sortsC ⟨fun _ => rfl, fun x c hc => by simp [SItem.e, D.cells] at hc; first | (rcases hc with h | h | h <;> subst h <;> rfl) | (rcases hc with h | h <;> subst h <;> rfl) | (subst hc; rfl)⟩ (fun _ => rfl) (fun x y => m_rangeindex_order_ok (cfC_ok h1 x y)) cfC_swo cfC_total h2

set_option maxHeartbeats 20000000 in
theorem m_slices_Compact_rangeindex_Item_rangeindex_Item_ok {n : Nat} {c1 : (List SItem)} {r : (List SItem)} (hm : m_slices_Compact_rangeindex_Item_rangeindex_Item n c1 = some r) : ACall Try.prog 47 [.hs 0 0 c1.length 2] [.lst (c1.map SItem.e) 56 2] fun r' H' => r' = resOf [.hs 1 0 r.length 2] ∧ H' = [.dead, .lst (r.map SItem.e) 56 2] := by
  unfold m_slices_Compact_rangeindex_Item_rangeindex_Item at hm
  refine ACall.of_AWG (fnn := Try.f47) Try.func47 rfl (Nat.le_of_ble_eq_true rfl) (fun g0 w0 hw0 => ?_)
  refine AW.reset 1 [(0, .hs 0 0 c1.length 2)] [.lst (c1.map SItem.e) 56 2] (WOK.g0 hw0 (by simp)) ⟨[0], rfl, rfl, rfl, ⟨(.hs rfl rfl), trivial⟩, trivial, (.lst rfl .nil)⟩ ?_
  refine AW.seqR ?_
  refine AL.s rfl (op_assignN (.e rfl)) ?_
  refine AL.nil ?_
  refine AW.seq ?_
  refine AW.seqR ?_
  refine AL.s rfl (op_moveH (.e rfl)) ?_
  refine AL.s rfl (op_len_hs (.e rfl) rfl sl34) ?_
  refine AL.s rfl (op_lss (.r rfl) (.r rfl)) ?_
  refine AL.nil ?_
  refine AW.cond (b := _) rfl (fun hc1 => ?_) (fun hc1 => ?_)
  · replace hm := iteT hc1 hm
    refine AW.seqR ?_
    refine AL.s rfl (op_moveH (.e rfl)) ?_
    refine AL.s rfl (op_assignH (.e rfl)) ?_
    refine AL.nil ?_
    refine AW.moveL (n := 1) (f := SItem.e) (l := c1) 0 [2] rfl rfl ⟨rfl, trivial⟩ ?_
    refine AW.ret ?_
    refine tq_ret ?_
    obtain rfl := Option.some.inj hm
    exact ⟨_, [0, 1], (.tmp (.e rfl) .nil), rfl, rfl, (.cons (.hs rfl rfl) .nil), (.dead (.lst rfl .nil))⟩
  · replace hm := iteF hc1 hm
    refine AW.skip ?_
    refine nq ?_
    refine AW.seq ?_
    refine AW.seqR ?_
    refine AL.s rfl (op_assignD (.e rfl)) ?_
    refine AL.nil ?_
    refine AW.block ?_
    obtain ⟨t_1, hI1, hk1⟩ := bindE hm
    refine AW.loopS (σ := Int) (τ := ((List SItem) ⊕ Unit)) 1 (fun x => [(0, .hs 0 0 c1.length 2), (3, .d (.int .i64 x))]) (fun x => [.lst (c1.map SItem.e) 56 2]) hI1 (WOK.g0 hw0 (by simp)) ⟨[0], rfl, rfl, rfl, ⟨(.hs rfl rfl), (.d rfl), trivial⟩, trivial, (.lst rfl .nil)⟩ ?_
    rintro n1 s2 hI1
    obtain ⟨y_1, hm, hI1⟩ := iterS hI1
    replace hm : m_slices_Compact_rangeindex_Item_rangeindex_Item_L1 n _ s2 = some y_1 := hm
    unfold m_slices_Compact_rangeindex_Item_rangeindex_Item_L1 at hm
    try dsimp only at hm
    refine AW.seq ?_
    refine AW.seqR ?_
    refine AL.s rfl (op_moveD (.e rfl)) ?_
    refine AL.s rfl (op_moveH (.e rfl)) ?_
    refine AL.s rfl (op_len_hs (.e rfl) rfl sl34) ?_
    refine AL.s rfl (op_lss (.r rfl) (.r rfl)) ?_
    refine AL.nil ?_
    refine AW.cond (b := _) rfl (fun hc2 => ?_) (fun hc2 => ?_)
    · replace hm := iteT hc2 hm
      refine AW.skip ?_
      refine nq ?_
      refine AW.seq ?_
      refine AW.block ?_
      refine AW.seqD [([], []), ([], []), ([0], []), ([0], []), ([], []), ([], []), ([], []), ([0], []), ([0], []), ([], [])] mo (by decide +kernel) ?_
      refine AD.s (ws := []) rfl rfl (fun H' _ hH => op_moveH (.e rfl)) ?_
      refine AD.s (ws := []) rfl rfl (fun H' _ hH => op_moveD (.e rfl)) ?_
      obtain ⟨v3, hv3, hm⟩ := bindE hm
      refine AD.s (ws := []) rfl rfl (fun H' _ hH => op_indexAddr_ls (f := SItem.e) (l := c1) (.e rfl) ((hH _ (by simp)).trans rfl) rfl (.r rfl) hv3 sl34) ?_
      obtain ⟨v4, hv4, hm⟩ := bindE hm
      refine AD.s (ws := []) rfl rfl (fun H' _ hH => op_load_lsA (f := SItem.e) (l := c1) (a := s2) enSItem rfl (.e rfl) ((hH _ (by simp)).trans rfl) hv4 ag56) ?_
      refine AD.s (ws := []) rfl rfl (fun H' _ hH => op_moveH (.e rfl)) ?_
      refine AD.s (ws := []) rfl rfl (fun H' _ hH => op_moveD (.e rfl)) ?_
      refine AD.s (ws := []) rfl rfl (fun H' _ hH => op_subw (.r rfl) (.r rfl)) ?_
      obtain ⟨v5, hv5, hm⟩ := bindE hm
      refine AD.s (ws := []) rfl rfl (fun H' _ hH => op_indexAddr_ls (f := SItem.e) (l := c1) (.e rfl) ((hH _ (by simp)).trans rfl) rfl (.r rfl) hv5 sl34) ?_
      obtain ⟨v6, hv6, hm⟩ := bindE hm
      refine AD.s (ws := []) rfl rfl (fun H' _ hH => op_load_lsA (f := SItem.e) (l := c1) (a := (IntKind.i64.wrap (s2 - (1 : Int)))) enSItem rfl (.e rfl) ((hH _ (by simp)).trans rfl) hv6 ag56) ?_
      refine AD.s (ws := []) rfl rfl (fun H' _ hH => op_eqlSt (a := v4) (b := v6) es56 (.r rfl) (.r rfl)) ?_
      refine AD.nil ?_
      refine AW.cond (b := _) rfl (fun hc3 => ?_) (fun hc3 => ?_)
      · replace hm := iteT hc3 hm
        refine AW.seqR ?_
        refine AL.s rfl (op_moveH (.e rfl)) ?_
        refine AL.s rfl (op_moveD (.e rfl)) ?_
        obtain ⟨v7, hv7, hm⟩ := bindE hm
        refine AL.s rfl (op_sliceH (f := SItem.e) (l := c1) (.e rfl) rfl rfl sl34 (.r rfl) rfl hv7) ?_
        refine AL.s rfl (op_assignH (.e rfl)) ?_
        refine AL.nil ?_
        refine AW.seq ?_
        refine AW.seqR ?_
        refine AL.s rfl (op_assignD (.e rfl)) ?_
        refine AL.nil ?_
        refine AW.block ?_
        obtain ⟨t_2, hI2, hk2⟩ := bindE hm
        refine AW.loopM (σ := (Int × Int × (List SItem))) (τ := (Int × (List SItem))) 1 [4] (fun x => [(0, .hs 0 0 x.2.2.length 2), (3, .d (.int .i64 x.1)), (5, .d (.int .i64 x.2.1))]) (fun x => [.lst (x.2.2.map SItem.e) 56 2]) hI2 (WOK.g0 hw0 (by simp)) ⟨[0], rfl, rfl, rfl, ⟨(.hs rfl rfl), (.d rfl), (.d rfl), trivial⟩, ⟨rfl, trivial⟩, (.lst rfl .nil)⟩ ?_
        rintro n2 ⟨s8, s9, s10⟩ hI2
        obtain ⟨y_2, hm, hI2⟩ := iterS hI2
        replace hm : m_slices_Compact_rangeindex_Item_rangeindex_Item_L2 n _ _ s8 s9 s10 = some y_2 := hm
        unfold m_slices_Compact_rangeindex_Item_rangeindex_Item_L2 at hm
        try dsimp only at hm
        refine AW.seq ?_
        refine AW.seqR ?_
        refine AL.s rfl (op_moveD (.e rfl)) ?_
        refine AL.s rfl (op_moveH (.e rfl)) ?_
        refine AL.s rfl (op_len_hs (.e rfl) rfl sl34) ?_
        refine AL.s rfl (op_lss (.r rfl) (.r rfl)) ?_
        refine AL.nil ?_
        refine AW.cond (b := _) rfl (fun hc4 => ?_) (fun hc4 => ?_)
        · replace hm := iteT hc4 hm
          refine AW.skip ?_
          refine nq ?_
          obtain ⟨t_j1, hm, hkj1⟩ := bindE hm
          refine AW.cutM (α := (Int × (List SItem))) 1 (fun x => x = t_j1) [4, 5] (fun x => [(0, .hs 0 0 x.2.length 2), (3, .d (.int .i64 x.1))]) (fun x => [.lst (x.2.map SItem.e) 56 2]) (WOK.g0 hw0 (by simp)) ?_ ?_
          · skip
            refine AW.block ?_
            refine AW.seqD [([], []), ([], []), ([0], []), ([0], []), ([], []), ([], []), ([], []), ([0], []), ([0], []), ([], [])] mo (by decide +kernel) ?_
            refine AD.s (ws := []) rfl rfl (fun H' _ hH => op_moveH (.e rfl)) ?_
            refine AD.s (ws := []) rfl rfl (fun H' _ hH => op_moveD (.e rfl)) ?_
            obtain ⟨v11, hv11, hm⟩ := bindE hm
            refine AD.s (ws := []) rfl rfl (fun H' _ hH => op_indexAddr_pc (lo := s2) (r := v7) (a := s9) (ls := s10.map SItem.e) (.e rfl) (slc_lo hv7) ((hH _ (by simp)).trans rfl) (.r rfl) hv11 sl34) ?_
            obtain ⟨v12, hv12, hm⟩ := bindE hm
            refine AD.s (ws := []) rfl rfl (fun H' _ hH => op_load_lsA (f := SItem.e) (l := s10) (a := (s2 + s9)) enSItem rfl (.e rfl) ((hH _ (by simp)).trans rfl) hv12 ag56) ?_
            refine AD.s (ws := []) rfl rfl (fun H' _ hH => op_moveH (.e rfl)) ?_
            refine AD.s (ws := []) rfl rfl (fun H' _ hH => op_moveD (.e rfl)) ?_
            refine AD.s (ws := []) rfl rfl (fun H' _ hH => op_subw (.r rfl) (.r rfl)) ?_
            obtain ⟨v13, hv13, hm⟩ := bindE hm
            refine AD.s (ws := []) rfl rfl (fun H' _ hH => op_indexAddr_pc (lo := s2) (r := v7) (a := (IntKind.i64.wrap (s9 - (1 : Int)))) (ls := s10.map SItem.e) (.e rfl) (slc_lo hv7) ((hH _ (by simp)).trans rfl) (.r rfl) hv13 sl34) ?_
            obtain ⟨v14, hv14, hm⟩ := bindE hm
            refine AD.s (ws := []) rfl rfl (fun H' _ hH => op_load_lsA (f := SItem.e) (l := s10) (a := (s2 + (IntKind.i64.wrap (s9 - (1 : Int))))) enSItem rfl (.e rfl) ((hH _ (by simp)).trans rfl) hv14 ag56) ?_
            refine AD.s (ws := []) rfl rfl (fun H' _ hH => op_neqSt (a := v12) (b := v14) es56 (.r rfl) (.r rfl)) ?_
            refine AD.nil ?_
            refine AW.cond (b := _) rfl (fun hc5 => ?_) (fun hc5 => ?_)
            · replace hm := iteT hc5 hm
              refine AW.seqR ?_
              refine AL.s rfl (op_moveH (.e rfl)) ?_
              refine AL.s rfl (op_moveD (.e rfl)) ?_
              refine AL.s rfl (op_moveH (.e rfl)) ?_
              refine AL.s rfl (op_moveD (.e rfl)) ?_
              obtain ⟨v15, hv15, hm⟩ := bindE hm
              refine AL.s rfl (op_indexAddr_pc (lo := s2) (r := v7) (a := s9) (ls := s10.map SItem.e) (.e rfl) (slc_lo hv7) rfl (.r rfl) hv15 sl34) ?_
              obtain ⟨v16, hv16, hm⟩ := bindE hm
              refine AL.s rfl (op_load_lsA (f := SItem.e) (l := s10) (a := (s2 + s9)) enSItem rfl (.e rfl) rfl hv16 ag56) ?_
              obtain ⟨v17, hv17, hm⟩ := bindE hm
              refine AL.s rfl (op_indexAddr_ls (f := SItem.e) (l := s10) (.e rfl) rfl rfl (.r rfl) hv17 sl34) ?_
              obtain ⟨v18, hv18, hm⟩ := bindE hm
              refine AL.s rfl (op_store_lsA (f := SItem.e) (l := s10) (a := s8) (v' := v16) enSItem (.e rfl) (.e rfl) rfl rfl ⟨_, rfl, rfl⟩ rfl hv18) ?_
              refine AL.nil ?_
              refine AW.region ?_
              refine AL.s rfl (op_moveD (.e rfl)) ?_
              refine AL.s rfl (op_addw (.r rfl) (.r rfl)) ?_
              refine AL.s rfl (op_assignD (.e rfl)) ?_
              refine AL.nil ?_
              refine bq_n ?_
              obtain rfl := Option.some.inj hm
              exact nq ⟨_, rfl, ⟨[0], rfl, rfl, rfl, ⟨(.hs rfl (setI_len hv18).symm), (.d rfl), trivial⟩, ⟨rfl, rfl, trivial⟩, (.lst rfl .nil)⟩⟩
            · replace hm := iteF hc5 hm
              refine AW.skip ?_
              refine bq_n ?_
              obtain rfl := Option.some.inj hm
              exact nq ⟨_, rfl, ⟨[0], rfl, rfl, rfl, ⟨(.hs rfl rfl), (.d rfl), trivial⟩, ⟨rfl, rfl, trivial⟩, (.lst rfl .nil)⟩⟩
          · rintro ⟨s19, s20⟩ rfl
            replace hm := hkj1
            try dsimp only at hm
            refine AW.region ?_
            refine AL.s rfl (op_moveD (.e rfl)) ?_
            refine AL.s rfl (op_addw (.r rfl) (.r rfl)) ?_
            refine AL.s rfl (op_assignD (.e rfl)) ?_
            refine AL.nil ?_
            obtain rfl := Option.some.inj hm
            exact nq ⟨_, hI2, ⟨[0], rfl, rfl, rfl, ⟨(.hs rfl rfl), (.d rfl), (.d rfl), trivial⟩, ⟨rfl, trivial⟩, (.lst rfl .nil)⟩⟩
        · replace hm := iteF hc4 hm
          refine AW.exit ?_
          refine tq_exit ?_
          refine tq_exit ?_
          obtain rfl := Option.some.inj hm
          obtain rfl := Option.some.inj hI2
          replace hm := hk2
          try dsimp only at hm
          refine bq_hit ?_
          refine nq ?_
          refine AW.seqR ?_
          refine AL.s rfl (op_moveH (.e rfl)) ?_
          refine AL.s rfl (op_moveD (.e rfl)) ?_
          obtain ⟨v21, hv21, hm⟩ := bindE hm
          refine AL.s rfl (op_sliceH (f := SItem.e) (l := s10) (.e rfl) rfl rfl sl34 (.r rfl) rfl hv21) ?_
          refine AL.s rfl (op_clear (f := SItem.e) (l := s10) (z := ((⟨(0 : Int), (0 : Int)⟩ : SItem) : SItem)) enSItem (.e rfl) rfl (slc_le hv21) sl34 zr56 rfl) ?_
          refine AL.nil ?_
          refine AW.seqR ?_
          refine AL.s rfl (op_moveH (.e rfl)) ?_
          refine AL.s rfl (op_moveD (.e rfl)) ?_
          obtain ⟨v22, hv22, hm⟩ := bindE hm
          refine AL.s rfl (op_truncH (f := SItem.e) (l := (clrL s10 s8.toNat v21.length ((⟨(0 : Int), (0 : Int)⟩ : SItem) : SItem))) (.e rfl) rfl (clrL_len (slc_le hv21)) sl34 (.r rfl) hv22) ?_
          refine AL.s rfl (op_assignH (.e rfl)) ?_
          refine AL.nil ?_
          refine AW.moveL (n := 1) (f := SItem.e) (l := v22) 0 [2] rfl rfl ⟨rfl, trivial⟩ ?_
          refine AW.ret ?_
          refine bq_ret ?_
          refine tq_ret ?_
          refine tq_ret ?_
          obtain rfl := Option.some.inj hm
          obtain rfl := Option.some.inj hI1
          replace hm := hk1
          try dsimp only at hm
          refine bq_ret ?_
          refine tq_ret ?_
          obtain rfl := Option.some.inj hm
          exact ⟨_, [0, 1], (.tmp (.e rfl) .nil), rfl, rfl, (.cons (.hs rfl rfl) .nil), (.dead (.lst rfl .nil))⟩
      · replace hm := iteF hc3 hm
        refine AW.skip ?_
        refine bq_n ?_
        refine nq ?_
        refine AW.region ?_
        refine AL.s rfl (op_moveD (.e rfl)) ?_
        refine AL.s rfl (op_addw (.r rfl) (.r rfl)) ?_
        refine AL.s rfl (op_assignD (.e rfl)) ?_
        refine AL.nil ?_
        obtain rfl := Option.some.inj hm
        exact nq ⟨_, hI1, ⟨[0], rfl, rfl, rfl, ⟨(.hs rfl rfl), (.d rfl), trivial⟩, trivial, (.lst rfl .nil)⟩⟩
    · replace hm := iteF hc2 hm
      refine AW.exit ?_
      refine tq_exit ?_
      refine tq_exit ?_
      obtain rfl := Option.some.inj hm
      obtain rfl := Option.some.inj hI1
      replace hm := hk1
      try dsimp only at hm
      refine bq_hit ?_
      refine nq ?_
      refine AW.seqR ?_
      refine AL.s rfl (op_moveH (.e rfl)) ?_
      refine AL.s rfl (op_assignH (.e rfl)) ?_
      refine AL.nil ?_
      refine AW.moveL (n := 1) (f := SItem.e) (l := c1) 0 [2] rfl rfl ⟨rfl, trivial⟩ ?_
      refine AW.ret ?_
      obtain rfl := Option.some.inj hm
      exact ⟨_, [0, 1], (.tmp (.e rfl) .nil), rfl, rfl, (.cons (.hs rfl rfl) .nil), (.dead (.lst rfl .nil))⟩

set_option maxHeartbeats 20000000 in
theorem m_rangeindex_Of_ok {n : Nat} {a1 : (List SItem)} {r : (SIndex × Int)} (hm : m_rangeindex_Of n a1 = some r) : Fn Try.prog 13 [(.sl (a1.map SItem.e))] (.tup [(SIndex.e r.1), (.int .i64 r.2)]) := by
  unfold m_rangeindex_Of at hm
  refine Fn.of_AW (fnn := Try.f13) Try.func13 rfl (Nat.le_of_ble_eq_true rfl) (fun g0 w0 hw0 => ?_)
  refine AW.seqR ?_
  refine AL.s rfl (op_alloc (n := 0) zr28 rfl) ?_
  refine AL.s rfl (op_assignD (.e rfl)) ?_
  refine AL.nil ?_
  refine AW.seq ?_
  refine AW.seqR ?_
  refine AL.s rfl (op_moveD (.e rfl)) ?_
  obtain ⟨v2, hv2, hm⟩ := bindE hm
  refine AL.s rfl (op_call Try.call41 (.e rfl) (.cons (.e rfl) (.cons (.e rfl) .nil)) (m_slices_ContainsFunc_rangeindex_Item_rangeindex_Item_ok Try.call42 (fun _ _ hb => (m_rangeindex_Of_1_ok hb).at _) hv2)) ?_
  refine AL.nil ?_
  refine AW.cond (b := _) rfl (fun hc1 => ?_) (fun hc1 => ?_)
  · replace hm := iteT hc1 hm
    refine AW.seqR ?_
    refine AL.s rfl (op_build bd28 .nil) ?_
    refine AL.s rfl (op_storeA (.e rfl) (.e rfl) rfl rfl ⟨_, rfl, rfl⟩ rfl (Nat.le_of_ble_eq_true rfl)) ?_
    refine AL.s rfl (op_assignD (.e rfl)) ?_
    refine AL.nil ?_
    refine AW.ret ?_
    refine tq_ret ?_
    obtain rfl := Option.some.inj hm
    exact EndQ.d (.cellA (.e rfl) rfl rfl rfl ag28 (.tmp (.e rfl) .nil)) rfl rfl
  · replace hm := iteF hc1 hm
    refine AW.skip ?_
    refine nq ?_
    refine AW.seqR ?_
    refine AL.s rfl (op_moveD (.e rfl)) ?_
    obtain ⟨v3, hv3, hm⟩ := bindE hm
    refine AL.s rfl (op_callF (v := .hs 1 0 v3.length 2) (H' := [.row [.ex ([].map (esl SItem.e))], .lst (v3.map SItem.e) 56 2]) [] Try.call43 (.e rfl) (.cons (.e rfl) .nil) (m_slices_Clone_rangeindex_Item_rangeindex_Item_ok hv3) rfl .nil rfl rfl rfl rfl rfl rfl rfl rfl) ?_
    refine AL.s rfl (op_assignH (.e rfl)) ?_
    refine AL.nil ?_
    refine AW.seqR ?_
    refine AL.s rfl (op_moveH (.e rfl)) ?_
    obtain ⟨v4, hv4, hm⟩ := bindE hm
    refine AL.s rfl (op_callF (v := .tup []) (H' := [.row [.ex ([].map (esl SItem.e))], .lst (v4.map SItem.e) 56 2]) [1] Try.call44 (.e rfl) (.cons (.e rfl) (.cons (.e rfl) .nil)) (m_slices_SortFunc_rangeindex_Item_rangeindex_Item_ok hv4) rfl (.cons rfl .nil) rfl rfl rfl rfl rfl rfl rfl rfl) ?_
    refine AL.nil ?_
    refine AW.reset 0 [(0, .hs 1 0 v4.length 2), (2, .ptr 0 0)] [.row [.ex ([].map (esl SItem.e))], .lst (v4.map SItem.e) 56 2] (WOK.g0 hw0 (by simp)) ⟨[0, 1], rfl, rfl, rfl, ⟨(.hs rfl (m_slices_SortFunc_rangeindex_Item_rangeindex_Item_len hv4).symm), (.ptr rfl), trivial⟩, trivial, (.row rfl (.cons .ex .nil) (.lst rfl .nil))⟩ ?_
    refine AW.seqR ?_
    refine AL.s rfl (op_moveH (.e rfl)) ?_
    obtain ⟨v5, hv5, hm⟩ := bindE hm
    refine AL.s rfl (op_callF (v := .hs 2 0 v5.length 2) (H' := [.row [.ex ([].map (esl SItem.e))], .dead, .lst (v5.map SItem.e) 56 2]) [1] Try.call47 (.e rfl) (.cons (.e rfl) .nil) (m_slices_Compact_rangeindex_Item_rangeindex_Item_ok hv5) rfl (.cons rfl .nil) rfl rfl rfl rfl rfl rfl rfl rfl) ?_
    refine AL.s rfl (op_callF (v := .fn (.func 64) [.vp [.sl (v5.map SItem.e)] 0, .vp [.int .i64 (32 : Int)] 0]) (H' := [.row [.ex ([].map (esl SItem.e))], .dead, .dead]) [2] Try.call46 (.e rfl) (.cons (.e rfl) (.cons (.e rfl) .nil)) (chunk_ok (l := v5) (e := 56)) rfl (.cons rfl .nil) rfl rfl rfl rfl rfl rfl rfl rfl) ?_
    obtain ⟨v6, hv6, hm⟩ := bindE hm
    refine AL.s rfl (op_call Try.call45 (.e rfl) (.cons (.e rfl) .nil) (collect_ok hv6)) ?_
    refine AL.s rfl (op_build bd28 (.cons (.e rfl) rfl rfl rfl rfl (Nat.le_of_ble_eq_true rfl) .nil)) ?_
    refine AL.s rfl (op_storeA (.e rfl) (.e rfl) rfl rfl ⟨_, rfl, rfl⟩ rfl (Nat.le_of_ble_eq_true rfl)) ?_
    refine AL.s rfl (op_assignD (.e rfl)) ?_
    refine AL.nil ?_
    refine AW.ret ?_
    obtain rfl := Option.some.inj hm
    exact EndQ.d (.cellA (.e rfl) rfl rfl rfl ag28 (.tmp (.e rfl) .nil)) rfl rfl

set_option maxHeartbeats 20000000 in
theorem m_slices_BinarySearchFunc_rangeindex_Item_rangeindex_Item_rangeindex_Item_ok {n : Nat} {a1 : (List SItem)} {a2 : SItem} {r : (Int × Bool)} (hm : m_slices_BinarySearchFunc_rangeindex_Item_rangeindex_Item_rangeindex_Item n a1 a2 = some r) : ACall Try.prog 51 [.d (.sl (a1.map SItem.e)), .d (SItem.e a2), .fn (.func 39) []] [] fun r' H' => r' = resOf [.d (.int .i64 r.1), .d (.bool r.2)] ∧ H' = [] := by
  unfold m_slices_BinarySearchFunc_rangeindex_Item_rangeindex_Item_rangeindex_Item at hm
  refine ACall.of_AWG (fnn := Try.f51) Try.func51 rfl (Nat.le_of_ble_eq_true rfl) (fun g0 w0 hw0 => ?_)
  refine AW.reset 0 [(0, .d (.sl (a1.map SItem.e))), (1, .d (SItem.e a2)), (2, .fn (.func 39) [])] [] (WOK.g0 hw0 (by simp)) ⟨[], rfl, rfl, rfl, ⟨(.d rfl), (.d rfl), .fn0, trivial⟩, trivial, .nil⟩ ?_
  refine AW.seqR ?_
  refine AL.s rfl (op_box (n := 0) (.e rfl) rfl rfl rfl) ?_
  refine AL.s rfl (op_assignD (.e rfl)) ?_
  refine AL.s rfl (op_assignD (.e rfl)) ?_
  refine AL.nil ?_
  refine AW.seqR ?_
  refine AL.s rfl (op_moveD (.e rfl)) ?_
  refine AL.s rfl (op_lenM (f := SItem.e) (.r rfl) sl34) ?_
  refine AL.s rfl (op_assignD (.e rfl)) ?_
  refine AL.nil ?_
  refine AW.seqR ?_
  refine AL.s rfl (op_moveD (.e rfl)) ?_
  refine AL.s rfl (op_assignD (.e rfl)) ?_
  refine AL.s rfl (op_assignD (.e rfl)) ?_
  refine AL.nil ?_
  refine AW.seq ?_
  refine AW.block ?_
  obtain ⟨t_1, hI1, hk1⟩ := bindE hm
  refine AW.loopS (σ := (Int × Int)) (τ := Int) 0 (fun x => [(0, .d (.sl (a1.map SItem.e))), (2, .fn (.func 39) []), (4, .ptr 0 0), (8, .d (.int .i64 (a1.length : Int))), (9, .d (.int .i64 x.1)), (10, .d (.int .i64 x.2))]) (fun x => [.row [.d (.int .i64 a2.fN), .d (.int .i64 a2.fDoc)]]) hI1 (WOK.g0 hw0 (by simp)) ⟨[0], rfl, rfl, rfl, ⟨(.d rfl), .fn0, (.ptr rfl), (.d rfl), (.d rfl), (.d rfl), trivial⟩, trivial, (.row rfl (.cons (.d rfl) (.cons (.d rfl) .nil)) .nil)⟩ ?_
  rintro n1 ⟨s3, s4⟩ hI1
  obtain ⟨y_1, hm, hI1⟩ := iterS hI1
  replace hm : m_slices_BinarySearchFunc_rangeindex_Item_rangeindex_Item_rangeindex_Item_L1 n _ _ s3 s4 = some y_1 := hm
  unfold m_slices_BinarySearchFunc_rangeindex_Item_rangeindex_Item_rangeindex_Item_L1 at hm
  try dsimp only at hm
  refine AW.seq ?_
  refine AW.seqR ?_
  refine AL.s rfl (op_moveD (.e rfl)) ?_
  refine AL.s rfl (op_moveD (.e rfl)) ?_
  refine AL.s rfl (op_lss (.r rfl) (.r rfl)) ?_
  refine AL.nil ?_
  refine AW.cond (b := _) rfl (fun hc1 => ?_) (fun hc1 => ?_)
  · replace hm := iteT hc1 hm
    refine AW.skip ?_
    refine nq ?_
    refine AW.block ?_
    refine AW.seqR ?_
    refine AL.s rfl (op_moveD (.e rfl)) ?_
    refine AL.s rfl (op_moveD (.e rfl)) ?_
    refine AL.s rfl (op_addw (.r rfl) (.r rfl)) ?_
    refine AL.s rfl (op_conv_int (.r rfl) ⟨_, Try.underlying3⟩ Try.underlying99) ?_
    obtain ⟨v5, hv5, hm⟩ := bindE hm
    refine AL.s rfl (op_shrM (.r rfl) (.r rfl) hv5) ?_
    refine AL.s rfl (op_conv_int (.r rfl) ⟨_, Try.underlying99⟩ Try.underlying3) ?_
    refine AL.s rfl (op_assignD (.e rfl)) ?_
    refine AL.nil ?_
    refine AW.seqD [([], []), ([], []), ([], []), ([], []), ([], []), ([0], []), ([], []), ([], [])] mo (by decide +kernel) ?_
    refine AD.s (ws := []) rfl rfl (fun H' _ hH => op_moveF (.e rfl)) ?_
    refine AD.s (ws := []) rfl rfl (fun H' _ hH => op_moveD (.e rfl)) ?_
    refine AD.s (ws := []) rfl rfl (fun H' _ hH => op_moveD (.e rfl)) ?_
    obtain ⟨v6, hv6, hm⟩ := bindE hm
    refine AD.s (ws := []) rfl rfl (fun H' _ hH => op_indexAddrM (f := SItem.e) (.r rfl) (.r rfl) hv6 enSItem sl34) ?_
    refine AD.s (ws := []) rfl rfl (fun H' _ hH => op_loadA (.e rfl) rfl ag56) ?_
    refine AD.s (ws := []) rfl rfl (fun H' _ hH => op_load_ptrA (.e rfl) ((hH _ (by simp)).trans rfl) rfl rfl ag56) ?_
    obtain ⟨v7, hv7, hm⟩ := bindE hm
    refine AD.s (ws := []) rfl rfl (fun H' _ hH => op_fn Try.call39 (.e rfl) (.cons (.r rfl) (.cons (.r rfl) .nil)) (m_rangeindex_order_ok hv7)) ?_
    refine AD.s (ws := []) rfl rfl (fun H' _ hH => op_lss (.r rfl) (.r rfl)) ?_
    refine AD.nil ?_
    refine AW.cond (b := _) rfl (fun hc2 => ?_) (fun hc2 => ?_)
    · replace hm := iteT hc2 hm
      refine AW.region ?_
      refine AL.s rfl (op_moveD (.e rfl)) ?_
      refine AL.s rfl (op_addw (.r rfl) (.r rfl)) ?_
      refine AL.s rfl (op_assignD (.e rfl)) ?_
      refine AL.nil ?_
      refine bq_n ?_
      obtain rfl := Option.some.inj hm
      exact nq ⟨_, hI1, ⟨[0], rfl, rfl, rfl, ⟨(.d rfl), .fn0, (.ptr rfl), (.d rfl), (.d rfl), (.d rfl), trivial⟩, trivial, (.row rfl (.cons (.d rfl) (.cons (.d rfl) .nil)) .nil)⟩⟩
    · replace hm := iteF hc2 hm
      refine AW.region ?_
      refine AL.s rfl (op_moveD (.e rfl)) ?_
      refine AL.s rfl (op_assignD (.e rfl)) ?_
      refine AL.nil ?_
      refine bq_n ?_
      obtain rfl := Option.some.inj hm
      exact nq ⟨_, hI1, ⟨[0], rfl, rfl, rfl, ⟨(.d rfl), .fn0, (.ptr rfl), (.d rfl), (.d rfl), (.d rfl), trivial⟩, trivial, (.row rfl (.cons (.d rfl) (.cons (.d rfl) .nil)) .nil)⟩⟩
  · replace hm := iteF hc1 hm
    refine AW.exit ?_
    refine tq_exit ?_
    refine tq_exit ?_
    obtain rfl := Option.some.inj hm
    obtain rfl := Option.some.inj hI1
    replace hm := hk1
    try dsimp only at hm
    refine bq_hit ?_
    refine nq ?_
    refine AW.seqD [([], []), ([], []), ([], []), ([], []), ([], []), ([], []), ([], []), ([], []), ([], []), ([], []), ([0], []), ([], []), ([], []), ([], []), ([], []), ([], [])] mo (by decide +kernel) ?_
    refine AD.s (ws := []) rfl rfl (fun H' _ hH => op_moveD (.e rfl)) ?_
    refine AD.s (ws := []) rfl rfl (fun H' _ hH => op_moveD (.e rfl)) ?_
    refine AD.s (ws := []) rfl rfl (fun H' _ hH => op_moveD (.e rfl)) ?_
    refine AD.s (ws := []) rfl rfl (fun H' _ hH => op_lss (.r rfl) (.r rfl)) ?_
    refine AD.s (ws := []) rfl rfl (fun H' _ hH => op_moveD (.e rfl)) ?_
    refine AD.sT rfl rfl rfl rfl (fun g H' _ hH => op_moveF (.e rfl)) ?_
    refine AD.sT rfl rfl rfl rfl (fun g H' _ hH => op_moveD (.e rfl)) ?_
    refine AD.sT rfl rfl rfl rfl (fun g H' _ hH => op_moveD (.e rfl)) ?_
    obtain ⟨v8, hv8, hm⟩ := bindE hm
    refine AD.sT rfl rfl rfl rfl (fun g H' _ hH => op_indexAddrM (f := SItem.e) (.we g rfl rfl) (.we g rfl rfl) (iteT g hv8) enSItem sl34) ?_
    refine AD.sT rfl rfl rfl rfl (fun g H' _ hH => op_loadA (.we g rfl) rfl ag56) ?_
    refine AD.sT rfl rfl rfl rfl (fun g H' _ hH => op_load_ptrA (.e rfl) ((hH _ (by simp)).trans rfl) rfl rfl ag56) ?_
    obtain ⟨v9, hv9, hm⟩ := bindE hm
    refine AD.sT rfl rfl rfl rfl (fun g H' _ hH => op_fn Try.call39 (.we g rfl) (.cons (.we g rfl rfl) (.cons (.we g rfl rfl) .nil)) (m_rangeindex_order_ok (iteT g hv9))) ?_
    refine AD.sT rfl rfl rfl rfl (fun g H' _ hH => op_eql (.we g rfl rfl) (.r rfl)) ?_
    refine AD.s (ws := []) rfl rfl (fun H' _ hH => op_and (.r rfl) (fun h => (.we h rfl rfl)) rfl) ?_
    refine AD.s (ws := []) rfl rfl (fun H' _ hH => op_assignD (.e rfl)) ?_
    refine AD.s (ws := []) rfl rfl (fun H' _ hH => op_assignD (.e rfl)) ?_
    refine AD.nil ?_
    refine AW.ret ?_
    obtain rfl := Option.some.inj hm
    exact ⟨_, [], (.tmp (.e rfl) (.tmp (.e rfl) .nil)), rfl, rfl, (.cons (.d rfl) (.cons (.d rfl) .nil)), .nil⟩

set_option maxHeartbeats 20000000 in
theorem m_slices_Insert_rangeindex_Item_rangeindex_Item_ok {n : Nat} {c1 : List SItem} {a2 : Int} {a3 : List SItem} {r : List SItem} (hm : m_slices_Insert_rangeindex_Item_rangeindex_Item n c1 a2 a3 = some r) : ACall Try.prog 52 [.hs 0 0 c1.length 2, .d (.int .i64 a2), .d (.sl (a3.map SItem.e))] [.lst (c1.map SItem.e) 56 2] fun r' H' => r' = resOf [.hs 1 0 r.length 2] ∧ H' = [.dead, .lst (r.map SItem.e) 56 2] := by
  obtain ⟨i, x, rfl, rfl, hi, hb, hl, rfl⟩ := insL_inv hm
  refine ACall.of_AWG (fnn := Try.f52) Try.func52 rfl (Nat.le_of_ble_eq_true rfl) (fun g0 w0 hw0 => ?_)
  obtain ⟨ad, c, hg, hlc, hmax, hroom⟩ := hw0.lst 0 _ _ _ rfl
  clear hroom
  rw [List.length_map] at hlc
  have hrl : (c1.take i ++ x :: c1.drop i).length = c1.length + 1 := by simp; omega
  have h1 : ∀ y : SItem, (SItem.e y).cells.length = 2 := enSItem.sz
  refine AW.seqR ?_
  refine AL.s rfl (op_assignN (.e rfl)) ?_
  refine AL.nil ?_
  refine AW.seqR ?_
  refine AL.s rfl (op_moveH (.e rfl)) ?_
  refine AL.s rfl (op_moveD (.e rfl)) ?_
  refine AL.s rfl (op_sliceH (f := SItem.e) (l := c1) (.e rfl) rfl rfl sl34 (.r rfl) rfl (slc_tail hi rfl)) ?_
  refine AL.nil ?_
  refine AW.seqR ?_
  refine AL.s rfl (op_moveD (.e rfl)) ?_
  refine AL.s rfl (op_lenM (f := SItem.e) (l := [x]) (.r rfl) sl34) ?_
  refine AL.s rfl (op_assignD (.e rfl)) ?_
  refine AL.nil ?_
  refine AW.seq ?_
  refine AW.seqR ?_
  refine AL.s rfl (op_moveD (.e rfl)) ?_
  refine AL.s rfl (op_eql (.r rfl) (.r rfl)) ?_
  refine AL.nil ?_
  refine AW.cond (b := _) rfl (fun hc1 => absurd hc1 (by simp)) (fun _ => ?_)
  refine AW.skip ?_
  refine nq ?_
  refine AW.seqR ?_
  refine AL.s rfl (op_moveH (.e rfl)) ?_
  refine AL.s rfl (op_len_hs (.e rfl) rfl sl34) ?_
  refine AL.s rfl (op_assignD (.e rfl)) ?_
  refine AL.nil ?_
  refine AW.seq ?_
  refine AW.seqR ?_
  refine AL.s rfl (op_moveD (.e rfl)) ?_
  refine AL.s rfl (op_moveD (.e rfl)) ?_
  refine AL.s rfl (op_eql (.r rfl) (.r rfl)) ?_
  refine AL.nil ?_
  refine AW.cond (b := _) rfl (fun hc2 => ?_) (fun hc2 => ?_)
  · have hin : i = c1.length := by simp at hc2; omega
    subst hin
    refine AW.seqR ?_
    refine AL.s rfl (op_moveH (.e rfl)) ?_
    refine AL.s rfl (op_moveD (.e rfl)) ?_
    refine AL.s rfl (OpV.appendT sl34.u sl34.u (op_appendHM (n := 1) (f := SItem.e) (l := c1) (l' := [x]) sl34 (.e rfl) (.r rfl) rfl rfl rfl enSItem (app1 hb hl))) ?_
    refine AL.s rfl (op_assignH (.e rfl)) ?_
    refine AL.nil ?_
    refine AW.ret ?_
    refine tq_ret ?_
    have he : c1.take c1.length ++ x :: c1.drop c1.length = c1 ++ [x] := by simp
    rw [he]
    exact ⟨_, [0, 1], (.tmp (.e rfl) .nil), rfl, rfl, (.cons (.hs rfl rfl) .nil), (.dead (.lst rfl .nil))⟩
  · have hin : i < c1.length := by simp at hc2; omega
    refine AW.skip ?_
    refine nq ?_
    refine AW.seq ?_
    refine AW.seqR ?_
    refine AL.s rfl (op_moveD (.e rfl)) ?_
    refine AL.s rfl (op_moveD (.e rfl)) ?_
    refine AL.s rfl (op_addE (.r rfl) (.r rfl) (w1 hl)) ?_
    refine AL.s rfl (op_moveH (.e rfl)) ?_
    refine AL.sX rfl (op_cap hg (.e rfl) rfl sl34) (fun _ => ?_)
    refine AL.s rfl (op_gtr (.r rfl) (.r rfl)) ?_
    refine AL.nil ?_
    refine AW.cond (b := _) rfl (fun hc3 => ?_) (fun hc3 => ?_)
    · have hc : c < c1.length + 1 := by simp at hc3; omega
      refine AW.free ?_
      refine AW.seqR ?_
      refine AL.s rfl (op_moveH (.e rfl)) ?_
      refine AL.s rfl (op_moveD (.e rfl)) ?_
      refine AL.s rfl (op_sliceH (f := SItem.e) (l := c1) (.e rfl) rfl rfl sl34 rfl (.r rfl) (slc_head hi)) ?_
      refine AL.s rfl (op_moveD (.e rfl)) ?_
      refine AL.s rfl (op_moveD (.e rfl)) ?_
      refine AL.s rfl (op_addE (.r rfl) (.r rfl) (w1 hl)) ?_
      refine AL.s rfl (op_moveD (.e rfl)) ?_
      refine AL.s rfl (op_subE (.r rfl) (.r rfl) (ws hl hi)) ?_
      refine AL.sX rfl (op_appendZS (f := SItem.e) (l := c1) (z := (⟨(0 : Int), (0 : Int)⟩ : SItem)) (res := 1) (i := i) hg (.e (congrArg (V.hs 0 0 · 2) (by simp; omega))) (.r rfl) rfl hi enSItem (by decide) (by omega) (by omega) sl34 Try.underlying3 zr56 rfl rfl (by rw [show i + (c1.length + 1 - i) = c1.length + 1 by omega]; exact hb) (by omega)) (fun _ => ?_)
      refine AL.s rfl (op_assignH (.e rfl)) ?_
      refine AL.nil ?_
      have hZl : (c1.take i ++ List.replicate (c1.length + 1 - i) (⟨(0 : Int), (0 : Int)⟩ : SItem)).length = i + (c1.length + 1 - i) := by simp; omega
      refine AW.seqR ?_
      refine AL.s rfl (op_moveH (.e rfl)) ?_
      refine AL.s rfl (op_moveD (.e rfl)) ?_
      refine AL.s rfl (op_sliceH (f := SItem.e) (l := c1.take i ++ List.replicate (c1.length + 1 - i) (⟨(0 : Int), (0 : Int)⟩ : SItem)) (.e rfl) rfl hZl sl34 (.r rfl) rfl (slc_tail (by omega) (by omega))) ?_
      refine AL.s rfl (op_moveD (.e rfl)) ?_
      refine AL.s rfl (op_copyDS (f := SItem.e) (l := c1.take i ++ List.replicate (c1.length + 1 - i) (⟨(0 : Int), (0 : Int)⟩ : SItem)) (src := [x]) (lo := i) (len := c1.length + 1 - i) enSItem (by decide) (.e (cong2 (V.hs 1 · · 2) (Int.toNat_natCast i) (by rw [List.length_drop, hZl]; omega))) rfl (by omega) (.r rfl) sl34) ?_
      refine AL.nil ?_
      have hY1 : (cpyL (c1.take i ++ List.replicate (c1.length + 1 - i) (⟨(0 : Int), (0 : Int)⟩ : SItem)) i (c1.length + 1 - i) [x]).length = i + (c1.length + 1 - i) := by rw [cpyL_len (by omega), hZl]
      refine AW.seqD [([], []), ([], []), ([], []), ([], []), ([1], []), ([], []), ([], []), ([0], []), ([1, 0], [1])] mo (by decide +kernel) ?_
      refine AD.s (ws := []) rfl rfl (fun H' _ hH => op_moveH (.e rfl)) ?_
      refine AD.s (ws := []) rfl rfl (fun H' _ hH => op_moveD (.e rfl)) ?_
      refine AD.s (ws := []) rfl rfl (fun H' _ hH => op_moveD (.e rfl)) ?_
      refine AD.s (ws := []) rfl rfl (fun H' _ hH => op_addE (.r rfl) (.r rfl) (w1 (by omega))) ?_
      refine AD.s (ws := []) rfl rfl (fun H' _ hH => op_sliceH (f := SItem.e) (l := cpyL (c1.take i ++ List.replicate (c1.length + 1 - i) (⟨(0 : Int), (0 : Int)⟩ : SItem)) i (c1.length + 1 - i) [x]) (.e rfl) ((hH _ (by simp)).trans rfl) hY1 sl34 (.r rfl) rfl (slc_tail (by omega) (by omega))) ?_
      refine AD.s (ws := []) rfl rfl (fun H' _ hH => op_moveH (.e rfl)) ?_
      refine AD.s (ws := []) rfl rfl (fun H' _ hH => op_moveD (.e rfl)) ?_
      refine AD.s (ws := []) rfl rfl (fun H' _ hH => op_sliceH (f := SItem.e) (l := c1) (.e rfl) ((hH _ (by simp)).trans rfl) rfl sl34 (.r rfl) rfl (slc_tail hi rfl)) ?_
      refine AD.s (ws := [(1, _)]) rfl rfl (fun H' _ hH => op_copyHS (f := SItem.e) (l := cpyL (c1.take i ++ List.replicate (c1.length + 1 - i) (⟨(0 : Int), (0 : Int)⟩ : SItem)) i (c1.length + 1 - i) [x]) (l2 := c1) (src := c1.drop i) (lo := i + 1) (len := c1.length - i) (lo2 := i) (len2 := c1.length - i) enSItem (by decide)
        (.e (cong2 (V.hs 1 · · 2) (Int.toNat_natCast _) (by rw [List.length_drop, hY1]; omega))) ((hH _ (by simp)).trans rfl) (by omega) (.e (cong2 (V.hs 0 · · 2) (Int.toNat_natCast _) (List.length_drop ..))) ((hH _ (by simp)).trans rfl) (List.take_of_length_le (by simp)) (by omega) sl34) ?_
      refine AD.nil ?_
      rw [cpy_grow hi]
      refine AW.seqR ?_
      refine AL.s rfl (op_moveH (.e rfl)) ?_
      refine AL.s rfl (op_assignH (.e rfl)) ?_
      refine AL.nil ?_
      refine AW.ret ?_
      refine tq_ret ?_
      exact ⟨_, [0, 1], (.tmp (.e rfl) .nil), rfl, rfl, (.cons (.hs rfl (by rw [hrl]; omega)) .nil), (.dead (.lst rfl .nil))⟩
    · have hc : c1.length + 1 ≤ c := by simp at hc3; omega
      refine AW.skip ?_
      refine nq ?_
      refine AW.seqR ?_
      refine AL.s rfl (op_moveH (.e rfl)) ?_
      refine AL.s rfl (op_moveD (.e rfl)) ?_
      refine AL.s rfl (op_moveD (.e rfl)) ?_
      refine AL.s rfl (op_addE (.r rfl) (.r rfl) (w1 hl)) ?_
      refine AL.sX rfl (op_upS (l := c1.map SItem.e) hg (.e rfl) (.r rfl) rfl (List.length_map ..) (enSItem.szL c1) hc sl34) (fun u => ?_)
      refine AL.s rfl (op_assignH (.e rfl)) ?_
      refine AL.nil ?_
      have hUl : (c1.map SItem.e ++ [D.agg (u.1.map .raw)]).length = c1.length + 1 := by simp
      have hU1 : ∀ y ∈ c1.map SItem.e ++ [D.agg (u.1.map .raw)], y.cells.length = 2 := fun y hy => by
        rcases List.mem_append.1 hy with h | h
        · exact enSItem.szL c1 y h
        · rw [List.mem_singleton.1 h]; exact (List.length_map ..).trans u.2
      refine AW.seq ?_
      refine AW.seqR ?_
      refine AL.s rfl (op_moveD (.e rfl)) ?_
      refine AL.s rfl (op_moveH (.e rfl)) ?_
      refine AL.s rfl (op_moveD (.e rfl)) ?_
      refine AL.s rfl (op_moveD (.e rfl)) ?_
      refine AL.s rfl (op_addE (.r rfl) (.r rfl) (w1 (by omega))) ?_
      refine AL.s rfl (op_sliceH (f := id) (l := c1.map SItem.e ++ [D.agg (u.1.map .raw)]) (.e rfl) (by rw [List.map_id]; rfl) hUl sl34 (.r rfl) rfl (slc_tail (by rw [hUl]; omega) (by rw [hUl]))) ?_
      refine AL.s rfl (op_overlapsS (l := [SItem.e x]) (L := c1.map SItem.e ++ [D.agg (u.1.map .raw)]) (lo := i + 1) (len := c1.length - i) (tS := 34) (tR := 4)
        (run_callFunc_extern Try.func67 (by kernel_rfl) (by kernel_rfl) (by kernel_rfl) (by kernel_rfl)) (by decide) (.e rfl) (.r rfl) (.e (cong2 (V.hs 0 · · 2) (Int.toNat_natCast _) (by rw [List.length_drop, hUl]; omega))) rfl (by rw [hUl]; omega) (by omega) (enSItem.szL [x]) (enSItem.oneL [x]) (by simp) sl34) ?_
      refine AL.s rfl (op_not (.r rfl)) ?_
      refine AL.nil ?_
      refine AW.cond (b := _) rfl (fun _ => ?_) (fun hc4 => absurd hc4 (by decide))
      refine AW.seqD [([], []), ([], []), ([], []), ([], []), ([0], []), ([], []), ([], []), ([0], []), ([0], [0])] mo (by decide +kernel) ?_
      refine AD.s (ws := []) rfl rfl (fun H' _ hH => op_moveH (.e rfl)) ?_
      refine AD.s (ws := []) rfl rfl (fun H' _ hH => op_moveD (.e rfl)) ?_
      refine AD.s (ws := []) rfl rfl (fun H' _ hH => op_moveD (.e rfl)) ?_
      refine AD.s (ws := []) rfl rfl (fun H' _ hH => op_addE (.r rfl) (.r rfl) (w1 (by omega))) ?_
      refine AD.s (ws := []) rfl rfl (fun H' _ hH => op_sliceH (f := id) (l := c1.map SItem.e ++ [D.agg (u.1.map .raw)]) (.e rfl) (by rw [List.map_id]; exact (hH _ (by simp)).trans rfl) hUl sl34 (.r rfl) rfl (slc_tail (by rw [hUl]; omega) (by rw [hUl]))) ?_
      refine AD.s (ws := []) rfl rfl (fun H' _ hH => op_moveH (.e rfl)) ?_
      refine AD.s (ws := []) rfl rfl (fun H' _ hH => op_moveD (.e rfl)) ?_
      refine AD.s (ws := []) rfl rfl (fun H' _ hH => op_sliceH (f := id) (l := c1.map SItem.e ++ [D.agg (u.1.map .raw)]) (.e rfl) (by rw [List.map_id]; exact (hH _ (by simp)).trans rfl) hUl sl34 (.r rfl) rfl (slc_tail (by rw [hUl]; omega) (by rw [hUl]))) ?_
      refine AD.s (ws := [(0, _)]) rfl rfl (fun H' _ hH => op_copySelfS (L := c1.map SItem.e ++ [D.agg (u.1.map .raw)]) (src := (c1.drop i).map SItem.e) (lo := i + 1) (len := c1.length - i) (lo2 := i) (len2 := c1.length + 1 - i) (n := c1.length - i) hU1 (by decide)
        (.e (cong2 (V.hs 0 · · 2) (Int.toNat_natCast _) (by rw [List.length_drop, hUl]; omega))) (.e (cong2 (V.hs 0 · · 2) (Int.toNat_natCast _) (by rw [List.length_drop, hUl]))) ((hH _ (by simp)).trans rfl) (by rw [hUl]; omega) (by rw [hUl]; omega) (by omega)
        (by rw [List.drop_append_of_le_length (by simp; omega), List.take_append_of_le_length (by simp), List.take_of_length_le (by simp), List.map_drop]) (enSItem.oneL _) sl34) ?_
      refine AD.nil ?_
      have hX : (c1.map SItem.e ++ [D.agg (u.1.map .raw)]).take (i + 1) ++ (c1.drop i).map SItem.e ++ (c1.map SItem.e ++ [D.agg (u.1.map .raw)]).drop (i + 1 + (c1.length - i)) = (c1.take (i + 1) ++ c1.drop i).map SItem.e := by
        have e1 : (c1.map SItem.e ++ [D.agg (u.1.map .raw)]).take (i + 1) = (c1.take (i + 1)).map SItem.e := by rw [List.take_append_of_le_length (by simp; omega), List.map_take]
        have e2 : (c1.map SItem.e ++ [D.agg (u.1.map .raw)]).drop (i + 1 + (c1.length - i)) = [] := List.drop_of_length_le (by rw [hUl]; omega)
        rw [e1, e2, List.append_nil, ← List.map_append]
      rw [hX]
      have hXl : (c1.take (i + 1) ++ c1.drop i).length = c1.length + 1 := by simp; omega
      refine AW.seqR ?_
      refine AL.s rfl (op_moveH (.e rfl)) ?_
      refine AL.s rfl (op_moveD (.e rfl)) ?_
      refine AL.s rfl (op_sliceH (f := SItem.e) (l := c1.take (i + 1) ++ c1.drop i) (.e rfl) rfl hXl sl34 (.r rfl) rfl (slc_tail (by rw [hXl]; omega) (by rw [hXl]))) ?_
      refine AL.s rfl (op_moveD (.e rfl)) ?_
      refine AL.s rfl (op_copyDS (f := SItem.e) (l := c1.take (i + 1) ++ c1.drop i) (src := [x]) (lo := i) (len := c1.length + 1 - i) enSItem (by decide) (.e (cong2 (V.hs 0 · · 2) (Int.toNat_natCast i) (by rw [List.length_drop, hXl]))) rfl (by rw [hXl]; omega) (.r rfl) sl34) ?_
      refine AL.nil ?_
      rw [cpy_room hin]
      refine AW.seqR ?_
      refine AL.s rfl (op_moveH (.e rfl)) ?_
      refine AL.s rfl (op_assignH (.e rfl)) ?_
      refine AL.nil ?_
      refine AW.moveL (n := 1) (f := SItem.e) (l := c1.take i ++ x :: c1.drop i) 0 [6] rfl rfl ⟨rfl, trivial⟩ ?_
      refine AW.ret ?_
      refine tq_ret ?_
      exact ⟨_, [0, 1], (.tmp (.e rfl) .nil), rfl, rfl, (.cons (.hs rfl hrl.symm) .nil), (.dead (.lst rfl .nil))⟩

set_option maxHeartbeats 20000000 in
theorem m_rangeindex_Insert_ok {n : Nat} {a1 : SIndex} {a2 : SItem} {r : (SIndex × Bool)} (hm : m_rangeindex_Insert n a1 a2 = some r) : Fn Try.prog 25 [(SIndex.e a1), (SItem.e a2)] (.tup [(SIndex.e r.1), (.bool r.2)]) := by
  unfold m_rangeindex_Insert at hm
  refine Fn.of_AW (fnn := Try.f25) Try.func25 rfl (Nat.le_of_ble_eq_true rfl) (fun g0 w0 hw0 => ?_)
  refine AW.reset 0 [(0, .d (SIndex.e a1)), (1, .d (SItem.e a2))] [] (WOK.g0 hw0 (by simp)) ⟨[], rfl, rfl, rfl, ⟨(.d rfl), (.d rfl), trivial⟩, trivial, .nil⟩ ?_
  refine AW.seqR ?_
  refine AL.s rfl (op_box (n := 0) (.e rfl) rfl rfl rfl) ?_
  refine AL.s rfl (op_box (n := 1) (.e rfl) rfl rfl rfl) ?_
  refine AL.s rfl (op_alloc (n := 2) zr28 rfl) ?_
  refine AL.s rfl (op_assignD (.e rfl)) ?_
  refine AL.nil ?_
  refine AW.seq ?_
  refine AW.seqR ?_
  refine AL.s rfl (op_load_ptrA (.e rfl) rfl rfl rfl ag56) ?_
  obtain ⟨v3, hv3, hm⟩ := bindE hm
  refine AL.s rfl (op_fn Try.call38 (.e rfl) (.cons (.r rfl) .nil) (m_rangeindex_item_ok hv3)) ?_
  refine AL.s rfl (op_not (.r rfl)) ?_
  refine AL.s rfl (op_moveD (.e rfl)) ?_
  refine AL.sF rfl rfl rfl rfl (fun g => op_load_ptrA (.e rfl) rfl rfl rfl ag28) ?_
  obtain ⟨v4, hv4, hm⟩ := bindE hm
  refine AL.sF rfl rfl rfl rfl (fun g => op_fn Try.call10 (.e rfl) (.cons (.we (nt g) rfl rfl) .nil) (m_rangeindex_Valid_ok (iteT (nt g) hv4))) ?_
  refine AL.sF rfl rfl rfl rfl (fun g => op_not (.we (nt g) rfl rfl)) ?_
  refine AL.s rfl (op_or (.r rfl) rfl (fun h => (.we (nt h) rfl rfl))) ?_
  refine AL.nil ?_
  refine AW.cond (b := _) rfl (fun hc1 => ?_) (fun hc1 => ?_)
  · replace hm := iteT hc1 hm
    refine AW.seqR ?_
    refine AL.s rfl (op_load_ptrA (.e rfl) rfl rfl rfl ag28) ?_
    refine AL.s rfl (op_storeA (.e rfl) (.e rfl) rfl rfl ⟨_, rfl, rfl⟩ rfl (Nat.le_of_ble_eq_true rfl)) ?_
    refine AL.s rfl (op_assignD (.e rfl)) ?_
    refine AL.nil ?_
    refine AW.ret ?_
    refine tq_ret ?_
    obtain rfl := Option.some.inj hm
    exact EndQ.d (.cellA (.e rfl) rfl rfl rfl ag28 (.tmp (.e rfl) .nil)) rfl rfl
  · replace hm := iteF hc1 hm
    refine AW.skip ?_
    refine nq ?_
    refine AW.seq ?_
    refine AW.seqR ?_
    refine AL.s rfl (op_field_ptr (.e rfl) fd28_0) ?_
    refine AL.s rfl (op_load_ptr1 (.e rfl) rfl rfl sc26) ?_
    refine AL.s rfl (op_lenM (f := (esl SItem.e)) (.r rfl) sl26) ?_
    refine AL.s rfl (op_eql (.r rfl) (.r rfl)) ?_
    refine AL.nil ?_
    refine AW.cond (b := _) rfl (fun hc2 => ?_) (fun hc2 => ?_)
    · replace hm := iteT hc2 hm
      refine AW.seqR ?_
      refine AL.s rfl (op_load_ptrA (.e rfl) rfl rfl rfl ag56) ?_
      refine AL.s rfl (op_buildSlice (ds := ([(⟨a2.fN, a2.fDoc⟩ : SItem)] : List SItem).map SItem.e) sl34 (.cons (.r rfl) rfl (enSItem.one _) .nil) rfl (by decide)) ?_
      refine AL.s rfl (op_buildSlice (ds := ([([(⟨a2.fN, a2.fDoc⟩ : SItem)] : List SItem)] : List (List SItem)).map (esl SItem.e)) sl26 (.cons (.r rfl) rfl (En.sl.one _) .nil) rfl (by decide)) ?_
      refine AL.s rfl (op_build bd28 (.cons (.e rfl) rfl rfl rfl rfl (Nat.le_of_ble_eq_true rfl) .nil)) ?_
      refine AL.s rfl (op_storeA (.e rfl) (.e rfl) rfl rfl ⟨_, rfl, rfl⟩ rfl (Nat.le_of_ble_eq_true rfl)) ?_
      refine AL.s rfl (op_assignD (.e rfl)) ?_
      refine AL.nil ?_
      refine AW.ret ?_
      refine tq_ret ?_
      obtain rfl := Option.some.inj hm
      exact EndQ.d (.cellA (.e rfl) rfl rfl rfl ag28 (.tmp (.e rfl) .nil)) rfl rfl
    · replace hm := iteF hc2 hm
      refine AW.skip ?_
      refine nq ?_
      refine AW.seqR ?_
      refine AL.s rfl (op_load_ptrA (.e rfl) rfl rfl rfl ag28) ?_
      refine AL.s rfl (op_load_ptrA (.e rfl) rfl rfl rfl ag56) ?_
      obtain ⟨v5, hv5, hm⟩ := bindE hm
      refine AL.s rfl (op_fn Try.call50 (.e rfl) (.cons (.r rfl) (.cons (.r rfl) .nil)) (m_rangeindex_block_ok hv5)) ?_
      refine AL.s rfl (op_assignD (.e rfl)) ?_
      refine AL.nil ?_
      refine AW.seqD [([], []), ([0], []), ([], []), ([], []), ([], []), ([1], []), ([], []), ([], []), ([], []), ([], []), ([], []), ([], [])] mo (by decide +kernel) ?_
      refine AD.s (ws := []) rfl rfl (fun H' _ hH => op_field_ptr (.e rfl) fd28_0) ?_
      refine AD.s (ws := []) rfl rfl (fun H' _ hH => op_load_ptr1 (.e rfl) ((hH _ (by simp)).trans rfl) rfl sc26) ?_
      refine AD.s (ws := []) rfl rfl (fun H' _ hH => op_moveD (.e rfl)) ?_
      obtain ⟨v6, hv6, hm⟩ := bindE hm
      refine AD.s (ws := []) rfl rfl (fun H' _ hH => op_indexAddrM (f := (esl SItem.e)) (.r rfl) (.r rfl) hv6 En.sl sl26) ?_
      refine AD.s (ws := []) rfl rfl (fun H' _ hH => op_load_vp1 (.e rfl) rfl sc34) ?_
      refine AD.s (ws := []) rfl rfl (fun H' _ hH => op_load_ptrA (.e rfl) ((hH _ (by simp)).trans rfl) rfl rfl ag56) ?_
      obtain ⟨v7, hv7, hm⟩ := bindE hm
      refine AD.s (ws := []) rfl rfl (fun H' _ hH => op_callQW Try.call51 (.e rfl) (.a (.r rfl) (.a (.r rfl) (.i (.e rfl) .nil))) (m_slices_BinarySearchFunc_rangeindex_Item_rangeindex_Item_rangeindex_Item_ok hv7) rfl rfl rfl rfl) ?_
      refine AD.s (ws := []) rfl rfl (fun H' _ hH => op_moveU (.e rfl)) ?_
      refine AD.s (ws := []) rfl rfl (fun H' _ hH => op_extractV (.e rfl) rfl) ?_
      refine AD.s (ws := []) rfl rfl (fun H' _ hH => op_extractV (.e rfl) rfl) ?_
      refine AD.s (ws := []) rfl rfl (fun H' _ hH => op_assignD (.e rfl)) ?_
      refine AD.s (ws := []) rfl rfl (fun H' _ hH => op_assignD (.e rfl)) ?_
      refine AD.nil ?_
      refine AW.seq ?_
      refine AW.seqR ?_
      refine AL.s rfl (op_moveD (.e rfl)) ?_
      refine AL.nil ?_
      refine AW.cond (b := _) rfl (fun hc3 => ?_) (fun hc3 => ?_)
      · replace hm := iteT hc3 hm
        refine AW.seqR ?_
        refine AL.s rfl (op_load_ptrA (.e rfl) rfl rfl rfl ag28) ?_
        refine AL.s rfl (op_storeA (.e rfl) (.e rfl) rfl rfl ⟨_, rfl, rfl⟩ rfl (Nat.le_of_ble_eq_true rfl)) ?_
        refine AL.s rfl (op_assignD (.e rfl)) ?_
        refine AL.nil ?_
        refine AW.ret ?_
        refine tq_ret ?_
        obtain rfl := Option.some.inj hm
        exact EndQ.d (.cellA (.e rfl) rfl rfl rfl ag28 (.tmp (.e rfl) .nil)) rfl rfl
      · replace hm := iteF hc3 hm
        refine AW.skip ?_
        refine nq ?_
        refine AW.reset 0 [(2, .ptr 0 0), (3, .ptr 1 0), (4, .ptr 2 0), (6, .d (.int .i64 v5)), (7, .d (.int .i64 v7.1))] [.row [.d (.sl (a1.fBlocks.map (esl SItem.e)))], .row [.d (.int .i64 a2.fN), .d (.int .i64 a2.fDoc)], .row [.ex ([].map (esl SItem.e))]] (WOK.g0 hw0 (by simp)) ⟨[0, 1, 2], rfl, rfl, rfl, ⟨(.ptr rfl), (.ptr rfl), (.ptr rfl), (.d rfl), (.d rfl), trivial⟩, trivial, (.row rfl (.cons (.d rfl) .nil) (.row rfl (.cons (.d rfl) (.cons (.d rfl) .nil)) (.row rfl (.cons .ex .nil) .nil)))⟩ ?_
        refine AW.free ?_
        refine AW.free ?_
        refine AW.seqD [([], []), ([0], []), ([], []), ([], []), ([], []), ([], [3]), ([], []), ([1], []), ([], []), ([3], [3, 4]), ([], [])] mo (by decide +kernel) ?_
        refine AD.s (ws := []) rfl rfl (fun H' _ hH => op_field_ptr (.e rfl) fd28_0) ?_
        refine AD.s (ws := []) rfl rfl (fun H' _ hH => op_load_ptr1 (.e rfl) ((hH _ (by simp)).trans rfl) rfl sc26) ?_
        refine AD.s (ws := []) rfl rfl (fun H' _ hH => op_moveD (.e rfl)) ?_
        obtain ⟨v8, hv8, hm⟩ := bindE hm
        refine AD.s (ws := []) rfl rfl (fun H' _ hH => op_indexAddrM (f := (esl SItem.e)) (.r rfl) (.r rfl) hv8 En.sl sl26) ?_
        refine AD.s (ws := []) rfl rfl (fun H' _ hH => op_load_vp1 (.e rfl) rfl sc34) ?_
        obtain ⟨v9, hv9, hm⟩ := bindE hm
        refine AD.s (ws := [(3, _)]) rfl rfl (fun H' _ hH => op_callNew (res := 3) Try.call43 (.e rfl) (.cons (.r rfl) .nil) (m_slices_Clone_rangeindex_Item_rangeindex_Item_ok hv9) ((hH _ (by simp)).trans rfl)) ?_
        refine AD.s (ws := []) rfl rfl (fun H' _ hH => op_moveD (.e rfl)) ?_
        refine AD.s (ws := []) rfl rfl (fun H' _ hH => op_load_ptrA (.e rfl) ((hH _ (by simp)).trans rfl) rfl rfl ag56) ?_
        refine AD.s (ws := []) rfl rfl (fun H' _ hH => op_buildSlice (ds := ([(⟨a2.fN, a2.fDoc⟩ : SItem)] : List SItem).map SItem.e) sl34 (.cons (.r rfl) rfl (enSItem.one _) .nil) rfl (by decide)) ?_
        obtain ⟨v10, hv10, hm⟩ := bindE hm
        refine AD.s (ws := [(3, _), (4, _)]) rfl rfl (fun H' _ hH => op_callOwn (ds := [(.int .i64 v7.1), (.sl (([(⟨a2.fN, a2.fDoc⟩ : SItem)] : List SItem).map SItem.e))]) (id := 3) (res := 4) Try.call52 (.e rfl) (.e rfl) (.a (.r rfl) (.a (.r rfl) .nil)) (m_slices_Insert_rangeindex_Item_rangeindex_Item_ok hv10) ((hH _ (by simp)).trans rfl) ((hH _ (by simp)).trans rfl)) ?_
        refine AD.s (ws := []) rfl rfl (fun H' _ hH => op_assignH (.e rfl)) ?_
        refine AD.nil ?_
        refine AW.seq ?_
        refine AW.seqR ?_
        refine AL.s rfl (op_moveH (.e rfl)) ?_
        refine AL.s rfl (op_len_hs (.e rfl) rfl sl34) ?_
        obtain ⟨v11, hv11, hm⟩ := bindE hm
        refine AL.s rfl (op_quoM (.r rfl) (.r rfl) hv11) ?_
        refine AL.s rfl (op_assignD (.e rfl)) ?_
        refine AL.nil ?_
        refine AW.seqR ?_
        refine AL.s rfl (op_moveH (.e rfl)) ?_
        refine AL.s rfl (op_len_hs (.e rfl) rfl sl34) ?_
        refine AL.s rfl (op_gtr (.r rfl) (.r rfl)) ?_
        refine AL.nil ?_
        refine AW.cond (b := _) rfl (fun hc4 => ?_) (fun hc4 => ?_)
        · replace hm := iteT hc4 hm
          refine AW.freeze (f := SItem.e) (l := v10) 4 [9, 52, 53, 56] rfl rfl enSItem ⟨rfl, rfl, rfl, rfl, trivial⟩ ?_
          refine AW.seqD [([0], []), ([], []), ([], []), ([], []), ([], []), ([], []), ([], []), ([], []), ([], []), ([], []), ([], []), ([], []), ([], []), ([2], [2]), ([], [])] mo (by decide +kernel) ?_
          refine AD.s (ws := []) rfl rfl (fun H' _ hH => op_load_ptrA (.e rfl) ((hH _ (by simp)).trans rfl) rfl rfl ag28) ?_
          refine AD.s (ws := []) rfl rfl (fun H' _ hH => op_moveD (.e rfl)) ?_
          refine AD.s (ws := []) rfl rfl (fun H' _ hH => op_moveD (.e rfl)) ?_
          refine AD.s (ws := []) rfl rfl (fun H' _ hH => op_addw (.r rfl) (.r rfl)) ?_
          refine AD.s (ws := []) rfl rfl (fun H' _ hH => op_moveD (.e rfl)) ?_
          refine AD.s (ws := []) rfl rfl (fun H' _ hH => op_moveD (.e rfl)) ?_
          refine AD.s (ws := []) rfl rfl (fun H' _ hH => op_moveD (.e rfl)) ?_
          obtain ⟨v12, hv12, hm⟩ := bindE hm
          refine AD.s (ws := []) rfl rfl (fun H' _ hH => op_slice3 (f := SItem.e) (.r rfl) sl34 (.r rfl) (.r rfl) hv12) ?_
          refine AD.s (ws := []) rfl rfl (fun H' _ hH => op_moveD (.e rfl)) ?_
          refine AD.s (ws := []) rfl rfl (fun H' _ hH => op_moveD (.e rfl)) ?_
          obtain ⟨v13, hv13, hm⟩ := bindE hm
          refine AD.s (ws := []) rfl rfl (fun H' _ hH => op_sliceM (f := SItem.e) (.r rfl) sl34 (.r rfl) rfl enSItem hv13) ?_
          refine AD.s (ws := []) rfl rfl (fun H' _ hH => op_buildSlice (ds := ([v12, v13] : List (List SItem)).map (esl SItem.e)) sl26 (.cons (.r rfl) rfl (En.sl.one _) (.cons (.r rfl) rfl (En.sl.one _) .nil)) rfl (by decide)) ?_
          obtain ⟨v14, hv14, hm⟩ := bindE hm
          refine AD.s (ws := []) rfl rfl (fun H' _ hH => op_fn Try.call53 (.e rfl) (.cons (.r rfl) (.cons (.r rfl) (.cons (.r rfl) (.cons (.r rfl) .nil)))) (m_rangeindex_replaced_ok hv14)) ?_
          refine AD.s (ws := [(2, _)]) rfl rfl (fun H' _ hH => op_store (.e rfl) (.e rfl) ((hH _ (by simp)).trans rfl) rfl rfl ⟨_, rfl, rfl⟩ rfl (Nat.le_of_ble_eq_true rfl)) ?_
          refine AD.s (ws := []) rfl rfl (fun H' _ hH => op_assignD (.e rfl)) ?_
          refine AD.nil ?_
          refine AW.ret ?_
          refine tq_ret ?_
          obtain rfl := Option.some.inj hm
          exact EndQ.d (.cellA (.e rfl) rfl rfl rfl ag28 (.tmp (.e rfl) .nil)) rfl rfl
        · replace hm := iteF hc4 hm
          refine AW.skip ?_
          refine nq ?_
          refine AW.freeze (f := SItem.e) (l := v10) 4 [9, 52, 53, 56] rfl rfl enSItem ⟨rfl, rfl, rfl, rfl, trivial⟩ ?_
          refine AW.seqR ?_
          refine AL.s rfl (op_load_ptrA (.e rfl) rfl rfl rfl ag28) ?_
          refine AL.s rfl (op_moveD (.e rfl)) ?_
          refine AL.s rfl (op_moveD (.e rfl)) ?_
          refine AL.s rfl (op_addw (.r rfl) (.r rfl)) ?_
          refine AL.s rfl (op_moveD (.e rfl)) ?_
          refine AL.s rfl (op_buildSlice (ds := ([v10] : List (List SItem)).map (esl SItem.e)) sl26 (.cons (.r rfl) rfl (En.sl.one _) .nil) rfl (by decide)) ?_
          obtain ⟨v15, hv15, hm⟩ := bindE hm
          refine AL.s rfl (op_fn Try.call53 (.e rfl) (.cons (.r rfl) (.cons (.r rfl) (.cons (.r rfl) (.cons (.r rfl) .nil)))) (m_rangeindex_replaced_ok hv15)) ?_
          refine AL.s rfl (op_store (.e rfl) (.e rfl) rfl rfl rfl ⟨_, rfl, rfl⟩ rfl (Nat.le_of_ble_eq_true rfl)) ?_
          refine AL.s rfl (op_assignD (.e rfl)) ?_
          refine AL.nil ?_
          refine AW.ret ?_
          obtain rfl := Option.some.inj hm
          exact EndQ.d (.cellA (.e rfl) rfl rfl rfl ag28 (.tmp (.e rfl) .nil)) rfl rfl

set_option maxHeartbeats 20000000 in
theorem m_slices_Delete_rangeindex_Item_rangeindex_Item_ok {n : Nat} {c1 : List SItem} {a2 : Int} {a3 : Int} {r : List SItem} (hm : m_slices_Delete_rangeindex_Item_rangeindex_Item n c1 a2 a3 = some r) : ACall Try.prog 54 [.hs 0 0 c1.length 2, .d (.int .i64 a2), .d (.int .i64 a3)] [.lst (c1.map SItem.e) 56 2] fun r' H' => r' = resOf [.hs 1 0 r.length 2] ∧ H' = [.dead, .lst (r.map SItem.e) 56 2] := by
  obtain ⟨i, j, rfl, rfl, hij, hj, rfl⟩ := delL_inv hm
  refine ACall.of_AWG (fnn := Try.f54) Try.func54 rfl (Nat.le_of_ble_eq_true rfl) (fun g0 w0 hw0 => ?_)
  refine AW.seqR ?_
  refine AL.s rfl (op_assignN (.e rfl)) ?_
  refine AL.nil ?_
  refine AW.seqR ?_
  refine AL.s rfl (op_moveH (.e rfl)) ?_
  refine AL.s rfl (op_moveD (.e rfl)) ?_
  refine AL.s rfl (op_moveD (.e rfl)) ?_
  refine AL.s rfl (op_moveH (.e rfl)) ?_
  refine AL.s rfl (op_len_hs (.e rfl) rfl sl34) ?_
  refine AL.s rfl (op_slice3A (.e rfl) rfl (.r rfl) (.r rfl) (.r rfl) hij hj sl34) ?_
  refine AL.nil ?_
  refine AW.seq ?_
  refine AW.seqR ?_
  refine AL.s rfl (op_moveD (.e rfl)) ?_
  refine AL.s rfl (op_moveD (.e rfl)) ?_
  refine AL.s rfl (op_eql (.r rfl) (.r rfl)) ?_
  refine AL.nil ?_
  refine AW.cond (b := _) rfl (fun hc => ?_) (fun hc => ?_)
  · have hc' : i = j := by simp at hc; omega
    subst hc'
    refine AW.seqR ?_
    refine AL.s rfl (op_moveH (.e rfl)) ?_
    refine AL.s rfl (op_assignH (.e rfl)) ?_
    refine AL.nil ?_
    refine AW.moveL (n := 1) (f := SItem.e) (l := c1) 0 [6] rfl rfl ⟨rfl, trivial⟩ ?_
    refine AW.ret ?_
    refine tq_ret ?_
    rw [List.take_append_drop]
    exact ⟨_, [0, 1], (.tmp (.e rfl) .nil), rfl, rfl, (.cons (.hs rfl rfl) .nil), (.dead (.lst rfl .nil))⟩
  · refine AW.skip ?_
    refine nq ?_
    refine AW.seqR ?_
    refine AL.s rfl (op_moveH (.e rfl)) ?_
    refine AL.s rfl (op_len_hs (.e rfl) rfl sl34) ?_
    refine AL.s rfl (op_assignD (.e rfl)) ?_
    refine AL.nil ?_
    refine AW.seqD [([], []), ([], []), ([0], []), ([], []), ([], []), ([0], []), ([0], [0]), ([], [])] mo (by decide +kernel) ?_
    refine AD.s (ws := []) rfl rfl (fun H' _ hH => op_moveH (.e rfl)) ?_
    refine AD.s (ws := []) rfl rfl (fun H' _ hH => op_moveD (.e rfl)) ?_
    refine AD.s (ws := []) rfl rfl (fun H' _ hH => op_sliceH (f := SItem.e) (l := c1) (.e rfl) ((hH _ (by simp)).trans rfl) rfl sl34 rfl (.r rfl) (slc_head (Nat.le_trans hij hj))) ?_
    refine AD.s (ws := []) rfl rfl (fun H' _ hH => op_moveH (.e rfl)) ?_
    refine AD.s (ws := []) rfl rfl (fun H' _ hH => op_moveD (.e rfl)) ?_
    refine AD.s (ws := []) rfl rfl (fun H' _ hH => op_sliceH (f := SItem.e) (l := c1) (.e rfl) ((hH _ (by simp)).trans rfl) rfl sl34 (.r rfl) rfl (slc_tail hj rfl)) ?_
    refine AD.s (ws := [(0, _)]) rfl rfl (fun H' _ hH => op_appendSelf (L := c1.map SItem.e) (i := i) (j := j) (m := c1.length - j) (enSItem.szL c1) (.e (congrArg (V.hs 0 0 · 2) (by simp; omega))) (.e (cong2 (V.hs 0 · · 2) (Int.toNat_natCast j) (List.length_drop ..))) ((hH _ (by simp)).trans rfl) hij (by simp; omega) (enSItem.oneL c1) sl34) ?_
    refine AD.s (ws := []) rfl rfl (fun H' _ hH => op_assignH (.e rfl)) ?_
    refine AD.nil ?_
    have hX : (c1.map SItem.e).take i ++ (c1.map SItem.e).drop j ++ (c1.map SItem.e).drop (i + (c1.length - j)) = (c1.take i ++ c1.drop j ++ c1.drop (i + (c1.length - j))).map SItem.e := by
      rw [List.map_append, List.map_append, List.map_take, List.map_drop, List.map_drop]
    rw [hX]
    have hXl : (c1.take i ++ c1.drop j ++ c1.drop (i + (c1.length - j))).length = c1.length := by simp; omega
    have hXt : (c1.take i ++ c1.drop j ++ c1.drop (i + (c1.length - j))).take (i + (c1.length - j)) = c1.take i ++ c1.drop j := List.take_left' (by simp; omega)
    refine AW.seqR ?_
    refine AL.s rfl (op_moveH (.e rfl)) ?_
    refine AL.s rfl (op_moveH (.e rfl)) ?_
    refine AL.s rfl (op_len_hs (.e rfl) rfl sl34) ?_
    refine AL.s rfl (op_moveD (.e rfl)) ?_
    refine AL.s rfl (op_sliceB (L := (c1.take i ++ c1.drop j ++ c1.drop (i + (c1.length - j))).map SItem.e) (m := i + (c1.length - j)) (n := c1.length) (.e rfl) rfl (.r rfl) (.r rfl) (by omega) (by rw [List.length_map, hXl]; exact Nat.le_refl _) sl34) ?_
    refine AL.s rfl (op_clear (f := SItem.e) (l := c1.take i ++ c1.drop j ++ c1.drop (i + (c1.length - j))) (z := (⟨(0 : Int), (0 : Int)⟩ : SItem)) (off := i + (c1.length - j)) (len := c1.length - (i + (c1.length - j))) enSItem (.e rfl) rfl (by rw [hXl]; omega) sl34 zr56 rfl) ?_
    refine AL.truncL 0 (i + (c1.length - j)) rfl ?_
    refine AL.nil ?_
    have hT : ((clrL (c1.take i ++ c1.drop j ++ c1.drop (i + (c1.length - j))) (i + (c1.length - j)) (c1.length - (i + (c1.length - j))) (⟨(0 : Int), (0 : Int)⟩ : SItem)).map SItem.e).take (i + (c1.length - j)) = (c1.take i ++ c1.drop j).map SItem.e := by
      rw [← List.map_take, clrL_take (by rw [hXl]; omega), hXt]
    refine AW.congrH (H' := [.lst ((c1.take i ++ c1.drop j).map SItem.e) 56 2]) (by rw [← hT]; rfl) ?_
    refine AW.seqR ?_
    refine AL.s rfl (op_moveH (.e rfl)) ?_
    refine AL.s rfl (op_assignH (.e rfl)) ?_
    refine AL.nil ?_
    have hrl : (c1.take i ++ c1.drop j).length = i + (c1.length - j) := by simp; omega
    refine AW.moveL (n := 1) (f := SItem.e) (l := c1.take i ++ c1.drop j) 0 [6] rfl rfl ⟨(congrArg (V.hs 0 0 · 2) hrl.symm), trivial⟩ ?_
    refine AW.ret ?_
    exact ⟨_, [0, 1], (.tmp (.e rfl) .nil), rfl, rfl, (.cons (.hs rfl rfl) .nil), (.dead (.lst rfl .nil))⟩

set_option maxHeartbeats 20000000 in
theorem m_rangeindex_Remove_ok {n : Nat} {a1 : SIndex} {a2 : SItem} {r : (SIndex × Bool)} (hm : m_rangeindex_Remove n a1 a2 = some r) : Fn Try.prog 27 [(SIndex.e a1), (SItem.e a2)] (.tup [(SIndex.e r.1), (.bool r.2)]) := by
  unfold m_rangeindex_Remove at hm
  refine Fn.of_AW (fnn := Try.f27) Try.func27 rfl (Nat.le_of_ble_eq_true rfl) (fun g0 w0 hw0 => ?_)
  refine AW.reset 0 [(0, .d (SIndex.e a1)), (1, .d (SItem.e a2))] [] (WOK.g0 hw0 (by simp)) ⟨[], rfl, rfl, rfl, ⟨(.d rfl), (.d rfl), trivial⟩, trivial, .nil⟩ ?_
  refine AW.seqR ?_
  refine AL.s rfl (op_box (n := 0) (.e rfl) rfl rfl rfl) ?_
  refine AL.s rfl (op_box (n := 1) (.e rfl) rfl rfl rfl) ?_
  refine AL.s rfl (op_alloc (n := 2) zr28 rfl) ?_
  refine AL.s rfl (op_assignD (.e rfl)) ?_
  refine AL.nil ?_
  refine AW.seq ?_
  refine AW.seqR ?_
  refine AL.s rfl (op_field_ptr (.e rfl) fd28_0) ?_
  refine AL.s rfl (op_load_ptr1 (.e rfl) rfl rfl sc26) ?_
  refine AL.s rfl (op_lenM (f := (esl SItem.e)) (.r rfl) sl26) ?_
  refine AL.s rfl (op_eql (.r rfl) (.r rfl)) ?_
  refine AL.s rfl (op_moveD (.e rfl)) ?_
  refine AL.sF rfl rfl rfl rfl (fun g => op_load_ptrA (.e rfl) rfl rfl rfl ag28) ?_
  obtain ⟨v3, hv3, hm⟩ := bindE hm
  refine AL.sF rfl rfl rfl rfl (fun g => op_fn Try.call10 (.e rfl) (.cons (.we (nt g) rfl rfl) .nil) (m_rangeindex_Valid_ok (iteT (nt g) hv3))) ?_
  refine AL.sF rfl rfl rfl rfl (fun g => op_not (.we (nt g) rfl rfl)) ?_
  refine AL.s rfl (op_or (.r rfl) rfl (fun h => (.we (nt h) rfl rfl))) ?_
  refine AL.nil ?_
  refine AW.cond (b := _) rfl (fun hc1 => ?_) (fun hc1 => ?_)
  · replace hm := iteT hc1 hm
    refine AW.seqR ?_
    refine AL.s rfl (op_load_ptrA (.e rfl) rfl rfl rfl ag28) ?_
    refine AL.s rfl (op_storeA (.e rfl) (.e rfl) rfl rfl ⟨_, rfl, rfl⟩ rfl (Nat.le_of_ble_eq_true rfl)) ?_
    refine AL.s rfl (op_assignD (.e rfl)) ?_
    refine AL.nil ?_
    refine AW.ret ?_
    refine tq_ret ?_
    obtain rfl := Option.some.inj hm
    exact EndQ.d (.cellA (.e rfl) rfl rfl rfl ag28 (.tmp (.e rfl) .nil)) rfl rfl
  · replace hm := iteF hc1 hm
    refine AW.skip ?_
    refine nq ?_
    refine AW.seqR ?_
    refine AL.s rfl (op_load_ptrA (.e rfl) rfl rfl rfl ag28) ?_
    refine AL.s rfl (op_load_ptrA (.e rfl) rfl rfl rfl ag56) ?_
    obtain ⟨v4, hv4, hm⟩ := bindE hm
    refine AL.s rfl (op_fn Try.call50 (.e rfl) (.cons (.r rfl) (.cons (.r rfl) .nil)) (m_rangeindex_block_ok hv4)) ?_
    refine AL.s rfl (op_assignD (.e rfl)) ?_
    refine AL.nil ?_
    refine AW.seqD [([], []), ([0], []), ([], []), ([], []), ([], []), ([1], []), ([], []), ([], []), ([], []), ([], []), ([], []), ([], [])] mo (by decide +kernel) ?_
    refine AD.s (ws := []) rfl rfl (fun H' _ hH => op_field_ptr (.e rfl) fd28_0) ?_
    refine AD.s (ws := []) rfl rfl (fun H' _ hH => op_load_ptr1 (.e rfl) ((hH _ (by simp)).trans rfl) rfl sc26) ?_
    refine AD.s (ws := []) rfl rfl (fun H' _ hH => op_moveD (.e rfl)) ?_
    obtain ⟨v5, hv5, hm⟩ := bindE hm
    refine AD.s (ws := []) rfl rfl (fun H' _ hH => op_indexAddrM (f := (esl SItem.e)) (.r rfl) (.r rfl) hv5 En.sl sl26) ?_
    refine AD.s (ws := []) rfl rfl (fun H' _ hH => op_load_vp1 (.e rfl) rfl sc34) ?_
    refine AD.s (ws := []) rfl rfl (fun H' _ hH => op_load_ptrA (.e rfl) ((hH _ (by simp)).trans rfl) rfl rfl ag56) ?_
    obtain ⟨v6, hv6, hm⟩ := bindE hm
    refine AD.s (ws := []) rfl rfl (fun H' _ hH => op_callQW Try.call51 (.e rfl) (.a (.r rfl) (.a (.r rfl) (.i (.e rfl) .nil))) (m_slices_BinarySearchFunc_rangeindex_Item_rangeindex_Item_rangeindex_Item_ok hv6) rfl rfl rfl rfl) ?_
    refine AD.s (ws := []) rfl rfl (fun H' _ hH => op_moveU (.e rfl)) ?_
    refine AD.s (ws := []) rfl rfl (fun H' _ hH => op_extractV (.e rfl) rfl) ?_
    refine AD.s (ws := []) rfl rfl (fun H' _ hH => op_extractV (.e rfl) rfl) ?_
    refine AD.s (ws := []) rfl rfl (fun H' _ hH => op_assignD (.e rfl)) ?_
    refine AD.s (ws := []) rfl rfl (fun H' _ hH => op_assignD (.e rfl)) ?_
    refine AD.nil ?_
    refine AW.seq ?_
    refine AW.seqR ?_
    refine AL.s rfl (op_moveD (.e rfl)) ?_
    refine AL.s rfl (op_not (.r rfl)) ?_
    refine AL.nil ?_
    refine AW.cond (b := _) rfl (fun hc2 => ?_) (fun hc2 => ?_)
    · replace hm := iteT hc2 hm
      refine AW.seqR ?_
      refine AL.s rfl (op_load_ptrA (.e rfl) rfl rfl rfl ag28) ?_
      refine AL.s rfl (op_storeA (.e rfl) (.e rfl) rfl rfl ⟨_, rfl, rfl⟩ rfl (Nat.le_of_ble_eq_true rfl)) ?_
      refine AL.s rfl (op_assignD (.e rfl)) ?_
      refine AL.nil ?_
      refine AW.ret ?_
      refine tq_ret ?_
      obtain rfl := Option.some.inj hm
      exact EndQ.d (.cellA (.e rfl) rfl rfl rfl ag28 (.tmp (.e rfl) .nil)) rfl rfl
    · replace hm := iteF hc2 hm
      refine AW.skip ?_
      refine nq ?_
      refine AW.seqR ?_
      refine AL.s rfl (op_field_ptr (.e rfl) fd28_0) ?_
      refine AL.s rfl (op_load_ptr1 (.e rfl) rfl rfl sc26) ?_
      refine AL.s rfl (op_moveD (.e rfl)) ?_
      obtain ⟨v7, hv7, hm⟩ := bindE hm
      refine AL.s rfl (op_indexAddrM (f := (esl SItem.e)) (.r rfl) (.r rfl) hv7 En.sl sl26) ?_
      refine AL.s rfl (op_load_vp1 (.e rfl) rfl sc34) ?_
      obtain ⟨v8, hv8, hm⟩ := bindE hm
      refine AL.s rfl (op_callF (v := .hs 3 0 v8.length 2) (H' := [.row [.d (.sl (a1.fBlocks.map (esl SItem.e)))], .row [.d (.int .i64 a2.fN), .d (.int .i64 a2.fDoc)], .row [.ex ([].map (esl SItem.e))], .lst (v8.map SItem.e) 56 2]) [] Try.call43 (.e rfl) (.cons (.e rfl) .nil) (m_slices_Clone_rangeindex_Item_rangeindex_Item_ok hv8) rfl .nil rfl rfl rfl rfl rfl rfl rfl rfl) ?_
      refine AL.s rfl (op_moveD (.e rfl)) ?_
      refine AL.s rfl (op_moveD (.e rfl)) ?_
      refine AL.s rfl (op_addw (.r rfl) (.r rfl)) ?_
      obtain ⟨v9, hv9, hm⟩ := bindE hm
      refine AL.s rfl (op_callF (v := .hs 4 0 v9.length 2) (H' := [.row [.d (.sl (a1.fBlocks.map (esl SItem.e)))], .row [.d (.int .i64 a2.fN), .d (.int .i64 a2.fDoc)], .row [.ex ([].map (esl SItem.e))], .dead, .lst (v9.map SItem.e) 56 2]) [3] Try.call54 (.e rfl) (.cons (.e rfl) (.cons (.e rfl) (.cons (.e rfl) .nil))) (m_slices_Delete_rangeindex_Item_rangeindex_Item_ok hv9) rfl (.cons rfl .nil) rfl rfl rfl rfl rfl rfl rfl rfl) ?_
      refine AL.s rfl (op_assignH (.e rfl)) ?_
      refine AL.nil ?_
      refine AW.seq ?_
      refine AW.reset 0 [(2, .ptr 0 0), (4, .ptr 2 0), (6, .d (.int .i64 v4)), (9, .hs 4 0 v9.length 2)] [.row [.d (.sl (a1.fBlocks.map (esl SItem.e)))], .row [.d (.int .i64 a2.fN), .d (.int .i64 a2.fDoc)], .row [.ex ([].map (esl SItem.e))], .dead, .lst (v9.map SItem.e) 56 2] (WOK.g0 hw0 (by simp)) ⟨[0, 1, 2, 3, 4], rfl, rfl, rfl, ⟨(.ptr rfl), (.ptr rfl), (.d rfl), (.hs rfl rfl), trivial⟩, trivial, (.row rfl (.cons (.d rfl) .nil) (.row rfl (.cons (.d rfl) (.cons (.d rfl) .nil)) (.row rfl (.cons .ex .nil) (.dead (.lst rfl .nil)))))⟩ ?_
      refine AW.seqR ?_
      refine AL.s rfl (op_moveH (.e rfl)) ?_
      refine AL.s rfl (op_len_hs (.e rfl) rfl sl34) ?_
      refine AL.s rfl (op_eql (.r rfl) (.r rfl)) ?_
      refine AL.nil ?_
      refine AW.cond (b := _) rfl (fun hc3 => ?_) (fun hc3 => ?_)
      · replace hm := iteT hc3 hm
        refine AW.seqR ?_
        refine AL.s rfl (op_load_ptrA (.e rfl) rfl rfl rfl ag28) ?_
        refine AL.s rfl (op_moveD (.e rfl)) ?_
        refine AL.s rfl (op_moveD (.e rfl)) ?_
        refine AL.s rfl (op_addw (.r rfl) (.r rfl)) ?_
        obtain ⟨v10, hv10, hm⟩ := bindE hm
        refine AL.s rfl (op_fn Try.call53 (.e rfl) (.cons (.r rfl) (.cons (.r rfl) (.cons (.r rfl) (.cons (.r rfl) .nil)))) (m_rangeindex_replaced_ok hv10)) ?_
        refine AL.s rfl (op_store (.e rfl) (.e rfl) rfl rfl rfl ⟨_, rfl, rfl⟩ rfl (Nat.le_of_ble_eq_true rfl)) ?_
        refine AL.s rfl (op_assignD (.e rfl)) ?_
        refine AL.nil ?_
        refine AW.ret ?_
        refine tq_ret ?_
        obtain rfl := Option.some.inj hm
        exact EndQ.d (.cellA (.e rfl) rfl rfl rfl ag28 (.tmp (.e rfl) .nil)) rfl rfl
      · replace hm := iteF hc3 hm
        refine AW.skip ?_
        refine nq ?_
        refine AW.freeze (f := SItem.e) (l := v9) 4 [9, 50] rfl rfl enSItem ⟨rfl, rfl, trivial⟩ ?_
        refine AW.seqR ?_
        refine AL.s rfl (op_load_ptrA (.e rfl) rfl rfl rfl ag28) ?_
        refine AL.s rfl (op_moveD (.e rfl)) ?_
        refine AL.s rfl (op_moveD (.e rfl)) ?_
        refine AL.s rfl (op_addw (.r rfl) (.r rfl)) ?_
        refine AL.s rfl (op_moveD (.e rfl)) ?_
        refine AL.s rfl (op_buildSlice (ds := ([v9] : List (List SItem)).map (esl SItem.e)) sl26 (.cons (.r rfl) rfl (En.sl.one _) .nil) rfl (by decide)) ?_
        obtain ⟨v11, hv11, hm⟩ := bindE hm
        refine AL.s rfl (op_fn Try.call53 (.e rfl) (.cons (.r rfl) (.cons (.r rfl) (.cons (.r rfl) (.cons (.r rfl) .nil)))) (m_rangeindex_replaced_ok hv11)) ?_
        refine AL.s rfl (op_alloc (n := 5) zr28 rfl) ?_
        refine AL.s rfl (op_store (.e rfl) (.e rfl) rfl rfl rfl ⟨_, rfl, rfl⟩ rfl (Nat.le_of_ble_eq_true rfl)) ?_
        refine AL.nil ?_
        refine AW.seq ?_
        refine AW.seqR ?_
        refine AL.s rfl (op_moveD (.e rfl)) ?_
        refine AL.s rfl (op_subw (.r rfl) (.r rfl)) ?_
        refine AL.s rfl (op_max (.r rfl) (.r rfl)) ?_
        refine AL.s rfl (op_assignD (.e rfl)) ?_
        refine AL.nil ?_
        refine AW.block ?_
        obtain ⟨t_1, hI1, hk1⟩ := bindE hm
        refine AW.loopS (σ := (Int × (List (List SItem)))) (τ := (List (List SItem))) 0 (fun x => [(4, .ptr 2 0), (6, .d (.int .i64 v4)), (10, .ptr 5 0), (11, .d (.int .i64 x.1))]) (fun x => [.row [.d (.sl (a1.fBlocks.map (esl SItem.e)))], .row [.d (.int .i64 a2.fN), .d (.int .i64 a2.fDoc)], .row [.ex ([].map (esl SItem.e))], .dead, .dead, .row [.d (.sl (x.2.map (esl SItem.e)))]]) hI1 (WOK.g0 hw0 (by simp)) ⟨[0, 1, 2, 3, 4, 5], rfl, rfl, rfl, ⟨(.ptr rfl), (.d rfl), (.ptr rfl), (.d rfl), trivial⟩, trivial, (.row rfl (.cons (.d rfl) .nil) (.row rfl (.cons (.d rfl) (.cons (.d rfl) .nil)) (.row rfl (.cons .ex .nil) (.dead (.dead (.row rfl (.cons (.d rfl) .nil) .nil))))))⟩ ?_
        rintro n1 ⟨s12, s13⟩ hI1
        obtain ⟨y_1, hm, hI1⟩ := iterS hI1
        replace hm : m_rangeindex_Remove_L1 n _ s12 s13 = some y_1 := hm
        unfold m_rangeindex_Remove_L1 at hm
        try dsimp only at hm
        refine AW.seq ?_
        refine AW.seqR ?_
        refine AL.s rfl (op_moveD (.e rfl)) ?_
        refine AL.s rfl (op_addw (.r rfl) (.r rfl)) ?_
        refine AL.s rfl (op_field_ptr (.e rfl) fd28_0) ?_
        refine AL.s rfl (op_load_ptr1 (.e rfl) rfl rfl sc26) ?_
        refine AL.s rfl (op_lenM (f := (esl SItem.e)) (.r rfl) sl26) ?_
        refine AL.s rfl (op_lss (.r rfl) (.r rfl)) ?_
        refine AL.s rfl (op_moveD (.e rfl)) ?_
        refine AL.sT rfl rfl rfl rfl (fun g => op_moveD (.e rfl)) ?_
        refine AL.sT rfl rfl rfl rfl (fun g => op_moveD (.e rfl)) ?_
        refine AL.sT rfl rfl rfl rfl (fun g => op_leq (.we g rfl rfl) (.we g rfl rfl)) ?_
        refine AL.s rfl (op_and (.r rfl) (fun h => (.we h rfl rfl)) rfl) ?_
        refine AL.nil ?_
        refine AW.cond (b := _) rfl (fun hc4 => ?_) (fun hc4 => ?_)
        · replace hm := iteT hc4 hm
          refine AW.skip ?_
          refine nq ?_
          refine AW.block ?_
          refine AW.seqD [([], []), ([5], []), ([], []), ([], []), ([], []), ([], []), ([5], []), ([], []), ([], []), ([], []), ([], []), ([], []), ([], [])] mo (by decide +kernel) ?_
          refine AD.s (ws := []) rfl rfl (fun H' _ hH => op_field_ptr (.e rfl) fd28_0) ?_
          refine AD.s (ws := []) rfl rfl (fun H' _ hH => op_load_ptr1 (.e rfl) ((hH _ (by simp)).trans rfl) rfl sc26) ?_
          refine AD.s (ws := []) rfl rfl (fun H' _ hH => op_moveD (.e rfl)) ?_
          obtain ⟨v14, hv14, hm⟩ := bindE hm
          refine AD.s (ws := []) rfl rfl (fun H' _ hH => op_indexAddrM (f := (esl SItem.e)) (.r rfl) (.r rfl) hv14 En.sl sl26) ?_
          refine AD.s (ws := []) rfl rfl (fun H' _ hH => op_load_vp1 (.e rfl) rfl sc34) ?_
          refine AD.s (ws := []) rfl rfl (fun H' _ hH => op_field_ptr (.e rfl) fd28_0) ?_
          refine AD.s (ws := []) rfl rfl (fun H' _ hH => op_load_ptr1 (.e rfl) ((hH _ (by simp)).trans rfl) rfl sc26) ?_
          refine AD.s (ws := []) rfl rfl (fun H' _ hH => op_moveD (.e rfl)) ?_
          refine AD.s (ws := []) rfl rfl (fun H' _ hH => op_addw (.r rfl) (.r rfl)) ?_
          obtain ⟨v15, hv15, hm⟩ := bindE hm
          refine AD.s (ws := []) rfl rfl (fun H' _ hH => op_indexAddrM (f := (esl SItem.e)) (.r rfl) (.r rfl) hv15 En.sl sl26) ?_
          refine AD.s (ws := []) rfl rfl (fun H' _ hH => op_load_vp1 (.e rfl) rfl sc34) ?_
          refine AD.s (ws := []) rfl rfl (fun H' _ hH => op_assignD (.e rfl)) ?_
          refine AD.s (ws := []) rfl rfl (fun H' _ hH => op_assignD (.e rfl)) ?_
          refine AD.nil ?_
          refine AW.seq ?_
          refine AW.seqR ?_
          refine AL.s rfl (op_moveD (.e rfl)) ?_
          refine AL.s rfl (op_lenM (f := SItem.e) (.r rfl) sl34) ?_
          refine AL.s rfl (op_moveD (.e rfl)) ?_
          refine AL.s rfl (op_lenM (f := SItem.e) (.r rfl) sl34) ?_
          refine AL.s rfl (op_addw (.r rfl) (.r rfl)) ?_
          refine AL.s rfl (op_geq (.r rfl) (.r rfl)) ?_
          refine AL.nil ?_
          refine AW.cond (b := _) rfl (fun hc5 => ?_) (fun hc5 => ?_)
          · replace hm := iteT hc5 hm
            refine AW.seqR ?_
            refine AL.s rfl (op_moveD (.e rfl)) ?_
            refine AL.s rfl (op_addw (.r rfl) (.r rfl)) ?_
            refine AL.s rfl (op_assignD (.e rfl)) ?_
            refine AL.nil ?_
            refine AW.exit ?_
            refine tq_exit ?_
            refine bq_hit ?_
            obtain rfl := Option.some.inj hm
            exact nq ⟨_, hI1, ⟨[0, 1, 2, 3, 4, 5], rfl, rfl, rfl, ⟨(.ptr rfl), (.d rfl), (.ptr rfl), (.d rfl), trivial⟩, trivial, (.row rfl (.cons (.d rfl) .nil) (.row rfl (.cons (.d rfl) (.cons (.d rfl) .nil)) (.row rfl (.cons .ex .nil) (.dead (.dead (.row rfl (.cons (.d rfl) .nil) .nil))))))⟩⟩
          · replace hm := iteF hc5 hm
            refine AW.skip ?_
            refine nq ?_
            refine AW.drawn [([5], []), ([], []), ([], []), ([], []), ([], []), ([], []), ([], []), ([], []), ([], []), ([], []), ([5], [5])] mo (by decide +kernel) ?_
            refine AD.s (ws := []) rfl rfl (fun H' _ hH => op_load_ptrA (.e rfl) ((hH _ (by simp)).trans rfl) rfl rfl ag28) ?_
            refine AD.s (ws := []) rfl rfl (fun H' _ hH => op_moveD (.e rfl)) ?_
            refine AD.s (ws := []) rfl rfl (fun H' _ hH => op_moveD (.e rfl)) ?_
            refine AD.s (ws := []) rfl rfl (fun H' _ hH => op_addw (.r rfl) (.r rfl)) ?_
            refine AD.s (ws := []) rfl rfl (fun H' _ hH => op_moveD (.e rfl)) ?_
            refine AD.s (ws := []) rfl rfl (fun H' _ hH => op_moveD (.e rfl)) ?_
            refine AD.s (ws := []) rfl rfl (fun H' _ hH => op_buildSlice (ds := ([v14, v15] : List (List SItem)).map (esl SItem.e)) sl26 (.cons (.r rfl) rfl (En.sl.one _) (.cons (.r rfl) rfl (En.sl.one _) .nil)) rfl (by decide)) ?_
            obtain ⟨v16, hv16, hm⟩ := bindE hm
            refine AD.s (ws := []) rfl rfl (fun H' _ hH => op_fn Try.call37 (.e rfl) (.cons (.r rfl) .nil) (m_slices_Concat_rangeindex_Item_rangeindex_Item_ok hv16)) ?_
            refine AD.s (ws := []) rfl rfl (fun H' _ hH => op_buildSlice (ds := ([v16] : List (List SItem)).map (esl SItem.e)) sl26 (.cons (.r rfl) rfl (En.sl.one _) .nil) rfl (by decide)) ?_
            obtain ⟨v17, hv17, hm⟩ := bindE hm
            refine AD.s (ws := []) rfl rfl (fun H' _ hH => op_fn Try.call53 (.e rfl) (.cons (.r rfl) (.cons (.r rfl) (.cons (.r rfl) (.cons (.r rfl) .nil)))) (m_rangeindex_replaced_ok hv17)) ?_
            refine AD.s (ws := [(5, _)]) rfl rfl (fun H' _ hH => op_store (.e rfl) (.e rfl) ((hH _ (by simp)).trans rfl) rfl rfl ⟨_, rfl, rfl⟩ rfl (Nat.le_of_ble_eq_true rfl)) ?_
            refine AD.nil ?_
            refine bq_n ?_
            obtain rfl := Option.some.inj hm
            exact nq ⟨_, hI1, ⟨[0, 1, 2, 3, 4, 5], rfl, rfl, rfl, ⟨(.ptr rfl), (.d rfl), (.ptr rfl), (.d rfl), trivial⟩, trivial, (.row rfl (.cons (.d rfl) .nil) (.row rfl (.cons (.d rfl) (.cons (.d rfl) .nil)) (.row rfl (.cons .ex .nil) (.dead (.dead (.row rfl (.cons (.d rfl) .nil) .nil))))))⟩⟩
        · replace hm := iteF hc4 hm
          refine AW.exit ?_
          refine tq_exit ?_
          refine tq_exit ?_
          obtain rfl := Option.some.inj hm
          obtain rfl := Option.some.inj hI1
          replace hm := hk1
          try dsimp only at hm
          refine bq_hit ?_
          refine nq ?_
          refine AW.reset 0 [(4, .ptr 2 0), (10, .ptr 5 0)] [.row [.d (.sl (a1.fBlocks.map (esl SItem.e)))], .row [.d (.int .i64 a2.fN), .d (.int .i64 a2.fDoc)], .row [.ex ([].map (esl SItem.e))], .dead, .dead, .row [.d (.sl (s13.map (esl SItem.e)))]] (WOK.g0 hw0 (by simp)) ⟨[0, 1, 2, 3, 4, 5], rfl, rfl, rfl, ⟨(.ptr rfl), (.ptr rfl), trivial⟩, trivial, (.row rfl (.cons (.d rfl) .nil) (.row rfl (.cons (.d rfl) (.cons (.d rfl) .nil)) (.row rfl (.cons .ex .nil) (.dead (.dead (.row rfl (.cons (.d rfl) .nil) .nil))))))⟩ ?_
          refine AW.seqR ?_
          refine AL.s rfl (op_load_ptrA (.e rfl) rfl rfl rfl ag28) ?_
          refine AL.s rfl (op_storeA (.e rfl) (.e rfl) rfl rfl ⟨_, rfl, rfl⟩ rfl (Nat.le_of_ble_eq_true rfl)) ?_
          refine AL.s rfl (op_assignD (.e rfl)) ?_
          refine AL.nil ?_
          refine AW.ret ?_
          obtain rfl := Option.some.inj hm
          exact EndQ.d (.cellA (.e rfl) rfl rfl rfl ag28 (.tmp (.e rfl) .nil)) rfl rfl

set_option maxHeartbeats 20000000 in
theorem m_ref42_Less_ok {n : Nat} {a1 : SItem} {a2 : SItem} {r : Bool} (hm : m_ref42_Less n a1 a2 = some r) : Fn Try.prog 36 [(SItem.e a1), (SItem.e a2)] (.bool r) := by
  unfold m_ref42_Less at hm
  refine Fn.of_AW (fnn := Try.f36) Try.func36 rfl (Nat.le_of_ble_eq_true rfl) (fun g0 w0 hw0 => ?_)
  refine AW.seqR ?_
  refine AL.s rfl (op_box (n := 0) (.e rfl) rfl rfl rfl) ?_
  refine AL.s rfl (op_box (n := 1) (.e rfl) rfl rfl rfl) ?_
  refine AL.s rfl (op_assignD (.e rfl)) ?_
  refine AL.nil ?_
  refine AW.seqR ?_
  refine AL.s rfl (op_field_ptr (.e rfl) fd53_0) ?_
  refine AL.s rfl (op_load_ptr1 (.e rfl) rfl rfl sc3) ?_
  refine AL.s rfl (op_field_ptr (.e rfl) fd53_0) ?_
  refine AL.s rfl (op_load_ptr1 (.e rfl) rfl rfl sc3) ?_
  refine AL.s rfl (op_lss (.r rfl) (.r rfl)) ?_
  refine AL.s rfl (op_moveD (.e rfl)) ?_
  refine AL.sF rfl rfl rfl rfl (fun g => op_field_ptr (.e rfl) fd53_0) ?_
  refine AL.sF rfl rfl rfl rfl (fun g => op_load_ptr1 (.we (nt g) rfl) rfl rfl sc3) ?_
  refine AL.sF rfl rfl rfl rfl (fun g => op_field_ptr (.e rfl) fd53_0) ?_
  refine AL.sF rfl rfl rfl rfl (fun g => op_load_ptr1 (.we (nt g) rfl) rfl rfl sc3) ?_
  refine AL.sF rfl rfl rfl rfl (fun g => op_eql (.we (nt g) rfl rfl) (.we (nt g) rfl rfl)) ?_
  refine AL.sF rfl rfl rfl rfl (fun g => op_moveD (.we (nt g) rfl)) ?_
  refine AL.sTT rfl rfl rfl rfl (fun gp g => op_field_ptr (.e rfl) fd53_1) ?_
  refine AL.sTT rfl rfl rfl rfl (fun gp g => op_load_ptr1 (.we (an gp g) rfl) rfl rfl sc3) ?_
  refine AL.sTT rfl rfl rfl rfl (fun gp g => op_field_ptr (.e rfl) fd53_1) ?_
  refine AL.sTT rfl rfl rfl rfl (fun gp g => op_load_ptr1 (.we (an gp g) rfl) rfl rfl sc3) ?_
  refine AL.sTT rfl rfl rfl rfl (fun gp g => op_lss (.we (an gp g) rfl rfl) (.we (an gp g) rfl rfl)) ?_
  refine AL.sF rfl rfl rfl rfl (fun g => op_and (.we (nt g) rfl rfl) (fun h => (.we (an (nt g) h) rfl rfl)) rfl) ?_
  refine AL.s rfl (op_or (.r rfl) rfl (fun h => (.we (nt h) rfl rfl))) ?_
  refine AL.s rfl (op_assignD (.e rfl)) ?_
  refine AL.nil ?_
  refine AW.ret ?_
  obtain rfl := Option.some.inj hm
  exact EndQ.d (.tmp (.e rfl) .nil) rfl rfl

end Go.Proofs.Ytjinohfopjlgkaa.Ab
