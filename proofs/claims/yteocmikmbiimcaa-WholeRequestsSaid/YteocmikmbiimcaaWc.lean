/- The law WholeRequests: steps of requests, and a row of lenders. Conditions: none. -/
import Derived.Test.YteocmikmbiimcaaWb
import Derived.Test.YteocmikmbiimcaaOk
set_option maxRecDepth 100000
namespace Go.Proofs.Yteocmikmbiimcaa.Ab
open Go

theorem nodup_len2 {α : Type} [DecidableEq α] : ∀ (T L : List α), T.Nodup → (∀ t ∈ T, t ∈ L) → T.length ≤ L.length
  | [], _, _, _ => Nat.zero_le _
  | t :: T, L, hn, hs => by
    rw [List.nodup_cons] at hn
    have h1 : t ∈ L := hs t (by simp)
    have h2 := nodup_len2 T (L.erase t) hn.2 (fun x hx => (List.mem_erase_of_ne (fun e => hn.1 (by rw [← e]; exact hx))).2 (hs x (by simp [hx])))
    have h3 := List.length_erase_of_mem h1
    have h4 : 0 < L.length := List.length_pos_of_mem h1
    simp only [List.length_cons]
    omega
theorem take_not {α : Type} {T : List α} {d : α} {i : Nat} (h : T.Nodup) (hi : i < T.length) : T.getD i d ∉ T.take i := by
  intro hm
  have e : T = T.take i ++ T.drop i := (List.take_append_drop i T).symm
  rw [e, List.nodup_append] at h
  refine h.2.2 _ hm _ ?_ rfl
  have e2 : T.getD i d = T[i] := by simp [hi]
  rw [e2, List.drop_eq_getElem_cons hi]
  exact List.mem_cons_self
theorem name_len {s : List UInt8} (h : nameB s = true) : s.length ≤ 40 := by
  simp only [nameB, Bool.and_eq_true, decide_eq_true_eq] at h
  exact h.1.2
theorem fML : ML < FU := by decide
structure TOK (lib : List UInt8) (T : List (List UInt8)) : Prop where
  nd : T.Nodup
  nm : ∀ t ∈ T, nameB t = true ∧ t ≠ lib
  ln : T.length ≤ 19
theorem tried_ok {lib : List UInt8} {T : List (List UInt8)} (h : TOK lib T) : m_request_tried FU T lib = some true := by
  unfold m_request_tried
  have hl := h.ln
  have h1 : iter FU (fun s => m_request_tried_L1 FU T lib s) (0 : Int) = some (if anyN T.length (fun _ => false) = true then .inl false else .inr ()) := by
    refine iter_any (ρ := Bool ⊕ Unit) T.length FU _ _ _ (fun j hj => ?_) ?_ (by simp only [FU]; omega)
    · unfold m_request_tried_L1
      have hm : T.getD j [] ∈ T := by simp [hj]
      obtain ⟨n1, n2⟩ := h.nm _ hm
      have n3 := take_not (d := ([] : List UInt8)) h.nd hj
      have hn := name_len n1
      rw [decide_eq_true (show (j : Int) < (T.length : Int) by omega), if_pos rfl, ix_get ([] : List UInt8) hj, Option.bind_some, progName (by simp only [ML]; omega) fML, n1, Option.bind_some, decide_eq_false n2,
        slc_some (by decide) (by omega) (by omega)]
      simp only [Bool.not_true, Bool.or_self, Bool.not_false, if_true, Option.bind_some, Int.toNat_natCast, Int.toNat_zero, List.drop_zero]
      rw [containsS (by simp only [ML, List.length_take]; omega) fML, decide_eq_false n3, wadd1 hj (by simp only [ML]; omega)]
      rfl
    · simp [m_request_tried_L1]
  rw [h1, anyN_f.2 (fun _ _ => rfl)]
  simp
  omega
def rq (lib : List UInt8) (st : Int) (l : List UInt8) (T : List (List UInt8)) : SRequest := ⟨1, 2, lib, st, 0, l, T, 0, 0⟩
section
variable {lib l : List UInt8} {T : List (List UInt8)}
theorem name_of (h : nameB l = true) : m_request_Name FU l = some true := by
  rw [progName (by have := name_len h; simp only [ML]; omega) fML, h]
theorem has_of (h : TOK lib T) (l : List UInt8) : m_slices_Contains_string_string FU T l = some (decide (l ∈ T)) := containsS (by have := h.ln; simp only [ML]; omega) fML
theorem valid_placed (hl : nameB lib = true) (h : TOK lib T) : m_request_Valid FU (rq lib 1 [] T) = some true := by
  simp [m_request_Valid, rq, m_request_in, name_of hl, tried_ok h, m_request_lent]
theorem valid_routed (hl : nameB lib = true) (h : TOK lib T) (h1 : nameB l = true) (h2 : l ≠ lib) (h3 : l ∉ T) : m_request_Valid FU (rq lib 2 l T) = some true := by
  simp [m_request_Valid, rq, m_request_in, name_of hl, tried_ok h, m_request_lent, name_of h1, h2, has_of h, h3]
theorem clone_ok (h : TOK lib T) : m_slices_Clone_string_string FU T = some T := by
  unfold m_slices_Clone_string_string
  rw [app_some (by decide) (by have := h.ln; simp; omega)]; rfl
theorem k1 : m_request_Kinds FU 1 = some [1, 9, 10] := by rfl
theorem k2 : m_request_Kinds FU 2 = some [2, 3, 9] := by rfl
theorem c1 : m_slices_Contains_int_int FU [1, 9, 10] 1 = some true := by decide +kernel
theorem c10 : m_slices_Contains_int_int FU [1, 9, 10] 10 = some true := by decide +kernel
theorem c2 : m_slices_Contains_int_int FU [2, 3, 9] 2 = some true := by decide +kernel
theorem do_fail (hl : nameB lib = true) (h : TOK lib T) : m_request_Do FU (rq lib 1 [] T) ⟨10, 0, [], 0⟩ = some (rq lib 9 [] T, 0) := by
  unfold m_request_Do
  rw [show (⟨(rq lib 1 [] T).fID, (rq lib 1 [] T).fWork, (rq lib 1 [] T).fLibrary, (rq lib 1 [] T).fState, (rq lib 1 [] T).fTime, (rq lib 1 [] T).fLender, (rq lib 1 [] T).fTried, (rq lib 1 [] T).fDue, (rq lib 1 [] T).fRenewals⟩ : SRequest) = rq lib 1 [] T from rfl, valid_placed hl h]
  have hr : m_request_refused FU (rq lib 1 [] T) (⟨10, 0, [], 0⟩ : SStep) = some 0 := by simp [m_request_refused]
  simp only [rq, m_request_in, k1, c10, Option.bind_some]
  simp only [rq] at hr
  simp [hr, clone_ok h]
theorem do_route (hl : nameB lib = true) (h : TOK lib T) (h1 : nameB l = true) (h2 : l ≠ lib) (h3 : l ∉ T) : m_request_Do FU (rq lib 1 [] T) ⟨1, 0, l, 0⟩ = some (rq lib 2 l T, 0) := by
  unfold m_request_Do
  rw [show (⟨(rq lib 1 [] T).fID, (rq lib 1 [] T).fWork, (rq lib 1 [] T).fLibrary, (rq lib 1 [] T).fState, (rq lib 1 [] T).fTime, (rq lib 1 [] T).fLender, (rq lib 1 [] T).fTried, (rq lib 1 [] T).fDue, (rq lib 1 [] T).fRenewals⟩ : SRequest) = rq lib 1 [] T from rfl, valid_placed hl h]
  have hr : m_request_refused FU (rq lib 1 [] T) (⟨1, 0, l, 0⟩ : SStep) = some 0 := by simp [m_request_refused, rq, name_of h1, h2, has_of h, h3]
  simp only [rq, m_request_in, k1, c1, Option.bind_some]
  simp only [rq] at hr
  simp [hr, clone_ok h]
theorem do_refuse (hl : nameB lib = true) (h : TOK lib T) (h1 : nameB l = true) (h2 : l ≠ lib) (h3 : l ∉ T) : m_request_Do FU (rq lib 2 l T) ⟨2, 0, [], 0⟩ = some (rq lib 1 [] (T ++ [l]), 0) := by
  unfold m_request_Do
  rw [show (⟨(rq lib 2 l T).fID, (rq lib 2 l T).fWork, (rq lib 2 l T).fLibrary, (rq lib 2 l T).fState, (rq lib 2 l T).fTime, (rq lib 2 l T).fLender, (rq lib 2 l T).fTried, (rq lib 2 l T).fDue, (rq lib 2 l T).fRenewals⟩ : SRequest) = rq lib 2 l T from rfl, valid_routed hl h h1 h2 h3]
  have hln := h.ln
  have hr : m_request_refused FU (rq lib 2 l T) (⟨2, 0, [], 0⟩ : SStep) = some 0 := by
    have hq : ¬ (((rq lib 2 l T).fTried.length : Int) = 20) := by
      show ¬ ((T.length : Int) = 20)
      omega
    unfold m_request_refused
    rw [decide_eq_false hq]
    rfl
  have ha : app 16 T [l] = some (T ++ [l]) := app_some (by decide) (by simp; omega)
  simp only [rq, m_request_in, k2, c2, Option.bind_some]
  simp only [rq] at hr
  simp [hr, clone_ok h, ha]
end
theorem new_ok {lib : List UInt8} (hl : lib.length ≤ ML) : ∃ e, m_request_New FU 1 2 lib 0 = some e ∧ (e.2 = 0 → nameB lib = true ∧ e.1 = rq lib 1 [] []) := by
  unfold m_request_New
  simp only [m_request_in, progName hl fML, Option.bind_some]
  cases h : nameB lib
  · exact ⟨_, rfl, fun h => by simp at h⟩
  · exact ⟨_, rfl, fun _ => ⟨rfl, rfl⟩⟩
theorem take_step {α : Type} {l : List α} {j : Nat} (d : α) (h : j < l.length) : l.take j ++ [l.getD j d] = l.take (j + 1) := by
  rw [List.take_succ_eq_append_getElem h]; simp [h]
theorem copy_loop {l : List SLender} (hl : l.length ≤ 6) : ∃ t, iter FU (fun s => m_bookplatetop_WholeRequests_L1 FU l s.1 s.2) (([] : List SLender), (0 : Int)) = some t ∧ (t = .inl true ∨ t = .inr l) := by
  refine iter_inv (σ := List SLender × Int) (τ := Bool ⊕ List SLender) (I := fun k s => ∃ j : Nat, s = (l.take j, (j : Int)) ∧ j + k = l.length) (Q := fun t => t = .inl true ∨ t = .inr l) (by
    rintro k s ⟨j, rfl, h2⟩
    simp only [m_bookplatetop_WholeRequests_L1]
    by_cases hk : k = 0
    · right
      exact ⟨.inr l, by rw [decide_eq_false (by omega), List.take_of_length_le (by omega)]; rfl, .inr rfl⟩
    · rw [decide_eq_true (by omega), if_pos rfl, ix_get (default : SLender) (by omega), Option.bind_some, app_some (by decide) (by simp; omega), Option.bind_some]
      rw [show (⟨(l.getD j default).fLibrary, (⟨(l.getD j default).fPlace.e0, (l.getD j default).fPlace.e1⟩ : A2), (l.getD j default).fLoad⟩ : SLender) = l.getD j default from rfl, take_step default (by omega)]
      by_cases h5 : (50 : Int) < ((l.getD j default).fLibrary.length : Int)
      · right
        exact ⟨.inl true, by rw [decide_eq_true h5]; rfl, .inl rfl⟩
      · left
        refine ⟨_, k - 1, by rw [decide_eq_false h5, wadd1 (show j < l.length by omega) (by simp only [ML]; omega)]; rfl, by omega, j + 1, rfl, by omega⟩) l.length FU ([], 0) ⟨0, by simp, by omega⟩ (by simp only [FU]; omega)
theorem room_loop {l : List SLender} (hl : l.length ≤ 6) : iter FU (fun s => m_bookplatetop_WholeRequests_L3 FU l s.1 s.2) (([] : List Int), (0 : Int)) = some (List.replicate l.length 1) := by
  obtain ⟨t, h1, h2⟩ := iter_inv (σ := List Int × Int) (τ := List Int) (f := fun s => m_bookplatetop_WholeRequests_L3 FU l s.1 s.2) (I := fun k s => ∃ j : Nat, s = (List.replicate j 1, (j : Int)) ∧ j + k = l.length) (Q := fun t => t = List.replicate l.length 1) (by
    rintro k s ⟨j, rfl, h2⟩
    simp only [m_bookplatetop_WholeRequests_L3]
    by_cases hk : k = 0
    · right
      exact ⟨_, by rw [decide_eq_false (by omega)]; rfl, by rw [show j = l.length by omega]⟩
    · left
      rw [decide_eq_true (by omega), if_pos rfl, app_some (by decide) (by simp; omega), Option.bind_some]
      exact ⟨_, k - 1, by rw [wadd1 (show j < l.length by omega) (by simp only [ML]; omega)], by omega, j + 1, by rw [List.replicate_succ'], by omega⟩) l.length FU ([], 0) ⟨0, by simp, by omega⟩ (by simp only [FU]; omega)
  rw [h1, h2]
theorem none_loop {v : List Int × Int} (hl : v.1.length ≤ 6) (h : ∀ x ∈ v.1, x = -1) : iter FU (fun s => m_bookplatetop_WholeRequests_L4 FU v s) (0 : Int) = some (.inr ()) := by
  have h1 : iter FU (fun s => m_bookplatetop_WholeRequests_L4 FU v s) (0 : Int) = some (if anyN v.1.length (fun _ => false) = true then .inl false else .inr ()) := by
    refine iter_any (ρ := Bool ⊕ Unit) v.1.length FU _ _ _ (fun j hj => ?_) ?_ (by simp only [FU]; omega)
    · unfold m_bookplatetop_WholeRequests_L4
      have hm : v.1.getD j 0 = -1 := h _ (by simp [hj])
      rw [decide_eq_true (show (j : Int) < (v.1.length : Int) by omega), if_pos rfl, ix_get (0 : Int) hj, Option.bind_some, hm, wadd1 hj (by simp only [ML]; omega)]
      rfl
    · simp [m_bookplatetop_WholeRequests_L4]
  rw [h1, anyN_f.2 (fun _ _ => rfl)]
  simp
theorem cost_range {lib : List UInt8} {at_ : A2} {T : List (List UInt8)} {x : SLender} (ha : withinB at_ = true) (hx : badL x = false) :
    (costB lib at_ T x = -1 ∧ (x.fLibrary = lib ∨ x.fLibrary ∈ T)) ∨ (0 ≤ costB lib at_ T x ∧ costB lib at_ T x ≤ 5000 ∧ x.fLibrary ≠ lib ∧ x.fLibrary ∉ T) := by
  have h1 := in_of ha
  have h2 := good_of hx
  unfold costB
  by_cases h : x.fLibrary = lib ∨ x.fLibrary ∈ T
  · rw [if_pos h]; exact .inl ⟨rfl, h⟩
  · rw [if_neg h]
    right
    exact ⟨by omega, by omega, fun e => h (.inl e), fun e => h (.inr e)⟩
theorem whole_loop {lib : List UInt8} {at_ : A2} {l : List SLender} (hl : l.length ≤ 6) (hs : SaneL l) (hlib : nameB lib = true) (hat : withinB at_ = true) (hbad : l.any badL = false) :
    ∃ t, iter FU (fun s => m_bookplatetop_WholeRequests_L2 FU lib at_ l l s.1 s.2.1 s.2.2.1 s.2.2.2.1 s.2.2.2.2.1 s.2.2.2.2.2.1 s.2.2.2.2.2.2.1 s.2.2.2.2.2.2.2.1 s.2.2.2.2.2.2.2.2.1 s.2.2.2.2.2.2.2.2.2) ((0 : Int), (1 : Int), (2 : Int), lib, (1 : Int), (0 : Int), ([] : List UInt8), ([] : List (List UInt8)), (0 : Int), (0 : Int)) = some t ∧ t = .inl true := by
  refine iter_inv (σ := Int × Int × Int × List UInt8 × Int × Int × List UInt8 × List (List UInt8) × Int × Int) (I := fun k s => ∃ (j : Nat) (T : List (List UInt8)), s = ((j : Int), (1 : Int), (2 : Int), lib, (1 : Int), (0 : Int), ([] : List UInt8), T, (0 : Int), (0 : Int)) ∧ j + k = l.length + 1 ∧ T.length = j ∧ TOK lib T ∧ ∀ t ∈ T, t ∈ l.map (·.fLibrary))
    (Q := fun t : Bool ⊕ (Int × Int × List UInt8 × Int × Int × List UInt8 × List (List UInt8) × Int × Int) => t = .inl true) (by
    rintro k s ⟨j, T, rfl, h2, h3, hT, h4⟩
    simp only [m_bookplatetop_WholeRequests_L2]
    have hTl : T.length ≤ l.length := by
      have := nodup_len2 T _ hT.nd h4
      simpa using this
    rw [w64 (x := (l.length : Int) + 1) (by omega) (by omega), decide_eq_true (by omega), if_pos rfl]
    have hgood : ∀ x ∈ l, badL x = false := by simpa using hbad
    have hrow : m_route_Row FU lib (⟨at_.e0, at_.e1⟩ : A2) T l = some (l.map (costB lib at_ T), 0) := by
      have := progRow (n := FU) (lib := lib) (at_ := at_) (tried := T) (l := l) (by have := name_len hlib; simp only [ML]; omega) (by simp only [ML]; omega) hs fML
      rw [show (⟨at_.e0, at_.e1⟩ : A2) = at_ from rfl, this]
      unfold rowB
      rw [if_neg (by rw [hlib]; simp), if_neg (by rw [hat]; simp), hbad, decide_eq_false (show ¬ 12 < l.length by omega)]
      rfl
    rw [hrow, Option.bind_some, room_loop hl, Option.bind_some]
    dsimp only
    obtain ⟨p, hp⟩ : ∃ p : SProblem, p = ⟨[l.map (costB lib at_ T)], List.replicate l.length 1, 10000⟩ := ⟨_, rfl⟩
    rw [← hp]
    have hrl : (l.map (costB lib at_ T)).length = l.length := by simp
    have hsane : Sane p := by
      rw [hp]
      refine ⟨by simp [ML], by simp only [List.length_replicate, ML]; omega, fun x hx => ?_⟩
      rw [List.mem_singleton.1 hx, hrl]; simp only [ML]; omega
    have hcost : ∀ x ∈ l, (costB lib at_ T x = -1 ∧ (x.fLibrary = lib ∨ x.fLibrary ∈ T)) ∨ (0 ≤ costB lib at_ T x ∧ costB lib at_ T x ≤ 5000 ∧ x.fLibrary ≠ lib ∧ x.fLibrary ∉ T) := fun x hx => cost_range hat (hgood x hx)
    have hvb : validB p = true := by
      rw [hp]
      simp only [validB, inZ, List.length_singleton, List.length_replicate, Bool.and_eq_true, decide_eq_true_eq, List.all_eq_true, List.mem_singleton]
      refine ⟨⟨⟨⟨by decide, by omega⟩, by decide⟩, fun x hx => ?_⟩, fun row hr => ?_⟩
      · rw [List.eq_of_mem_replicate hx]; decide
      · subst hr
        refine ⟨hrl, fun c hc => ?_⟩
        obtain ⟨x, hx, rfl⟩ := List.mem_map.1 hc
        rcases hcost x hx with h | h <;> omega
    obtain ⟨a, y, s1, s2, s3⟩ := solve_ok hsane hvb
    obtain ⟨k1, _⟩ := check_ok hsane hvb s2 s3
    have hpc : p.fCosts.length = 1 := by rw [hp]; rfl
    have hpr : p.fRoom.length = l.length := by rw [hp]; simp
    have hal : a.length = 1 := s2.al.trans hpc
    have hC : ∀ i, Cf p 0 i = (l.map (costB lib at_ T)).getD i 0 := fun i => by rw [hp]; rfl
    obtain ⟨z, rfl⟩ : ∃ z, a = [z] := by
      match a, hal with
      | [z], _ => exact ⟨z, rfl⟩
    have hz : Af [z] 0 = z := rfl
    have hok := s2.pm.ok 0 (by omega) (by omega)
    rw [hz] at hok
    have hix : ix [z] (0 : Int) = some z := rfl
    have hzl : z < l.length := by rcases okX_cases hok with e | ⟨i, e, hi, _⟩ <;> omega
    rw [s1, Option.bind_some]
    dsimp only
    rw [show (⟨y.fAsks, y.fLenders⟩ : SPrices) = y from rfl, k1, hix]
    simp only [decide_true, Bool.not_true, Bool.or_self, Bool.not_false, if_true, Option.bind_some, List.length_singleton, Int.natCast_one, Bool.false_or, Bool.false_eq_true, if_false]
    rw [decide_eq_false (show ¬ (l.length : Int) ≤ z by omega)]
    simp only [Bool.not_false, if_true, Option.bind_some, decide_true, Bool.not_true, Bool.or_self, Bool.false_eq_true, if_false]
    rcases okX_cases hok with e | ⟨i, e, hi, hci⟩
    · -- nobody can be asked
      right
      subst e
      have hall : ∀ x ∈ l.map (costB lib at_ T), x = -1 := by
        intro c hc
        obtain ⟨x, hx, rfl⟩ := List.mem_map.1 hc
        rcases hcost x hx with h | h
        · exact h.1
        · exfalso
          obtain ⟨i, hi, rfl⟩ := List.getElem_of_mem hx
          have hci : Cf p 0 i = costB lib at_ T l[i] := by rw [hC]; simp [hi]
          have hB : Perm p.fRoom.length (Cf p) (fun _ => (i : Int)) 0 p.fCosts.length (gI p.fRoom) := by
            rw [hpc]
            refine ⟨fun z hz hz2 => ?_, fun j hj => ?_⟩
            · obtain rfl : z = 0 := by omega
              exact okX_j (by omega) (by rw [hci]; omega)
            · have : gI p.fRoom j = 1 := by rw [hp]; simp [gI, show j < l.length by omega]
              rw [this]
              simp only [cnt, sumR]
              split <;> omega
          have := s2.op _ hB
          rw [hpc] at this
          simp only [costA, sumR, hz, cst_n, cst_j, hci] at this
          have hpen : p.fPenalty = 10000 := by rw [hp]
          omega
      rw [decide_eq_true (show (-1 : Int) < 0 by decide), if_pos rfl]
      rw [none_loop (v := (l.map (costB lib at_ T), 0)) (by dsimp only; omega) hall, Option.bind_some]
      dsimp only
      have := do_fail hlib hT
      rw [show (⟨1, 2, lib, 1, 0, [], T, 0, 0⟩ : SRequest) = rq lib 1 [] T from rfl, this]
      exact ⟨.inl true, rfl, rfl⟩
    · left
      subst e
      rw [decide_eq_false (show ¬ (i : Int) < 0 by omega), if_neg (by simp)]
      have hil : i < l.length := by omega
      rw [ix_get (default : SLender) hil, Option.bind_some]
      have hmem : l.getD i default ∈ l := by simp [hil]
      have hcx : Cf p 0 i = costB lib at_ T (l.getD i default) := by rw [hC]; simp [hil]
      rcases hcost _ hmem with h | ⟨_, _, g1, g2⟩
      · exact absurd (hcx.trans h.1) hci
      · have hnm : nameB (l.getD i default).fLibrary = true := by
          have := hgood _ hmem
          simp only [badL, Bool.or_eq_false_iff, Bool.not_eq_false'] at this
          exact this.1.1
        rw [show (⟨1, 2, lib, 1, 0, [], T, 0, 0⟩ : SRequest) = rq lib 1 [] T from rfl, do_route hlib hT hnm g1 g2, Option.bind_some]
        dsimp only
        rw [show (rq lib 2 (l.getD i default).fLibrary T).fTime = 0 from rfl]
        have := do_refuse hlib hT hnm g1 g2
        rw [show (⟨(rq lib 2 (l.getD i default).fLibrary T).fID, (rq lib 2 (l.getD i default).fLibrary T).fWork, (rq lib 2 (l.getD i default).fLibrary T).fLibrary, (rq lib 2 (l.getD i default).fLibrary T).fState, 0, (rq lib 2 (l.getD i default).fLibrary T).fLender, (rq lib 2 (l.getD i default).fLibrary T).fTried, (rq lib 2 (l.getD i default).fLibrary T).fDue, (rq lib 2 (l.getD i default).fLibrary T).fRenewals⟩ : SRequest) = rq lib 2 (l.getD i default).fLibrary T from rfl, this]
        have hsub : ∀ t ∈ T ++ [(l.getD i default).fLibrary], t ∈ l.map (·.fLibrary) := fun t ht => by
          rcases List.mem_append.1 ht with h | h
          · exact h4 t h
          · rw [List.mem_singleton.1 h]; exact List.mem_map.2 ⟨_, hmem, rfl⟩
        have hnd : (T ++ [(l.getD i default).fLibrary]).Nodup := by
          rw [List.nodup_append]
          refine ⟨hT.nd, by simp, fun a ha b hb e => ?_⟩
          rw [List.mem_singleton.1 hb] at e
          exact g2 (e ▸ ha)
        have hlen := nodup_len2 _ _ hnd hsub
        simp only [List.length_append, List.length_singleton, List.length_map] at hlen
        refine ⟨_, k - 1, by simp only [decide_true, Bool.not_true, Bool.false_eq_true, if_false, Option.bind_some]; rw [wadd1 (show j < 7 by omega) (by decide)]; rfl, by omega, j + 1, T ++ [(l.getD i default).fLibrary], rfl, by omega, by simp [h3], ⟨hnd, fun t ht => ?_, by simp; omega⟩, hsub⟩
        rcases List.mem_append.1 ht with h | h
        · exact hT.nm t h
        · rw [List.mem_singleton.1 h]; exact ⟨hnm, g1⟩) (l.length + 1) FU _ ⟨0, [], rfl, by omega, rfl, ⟨List.nodup_nil, fun t ht => by simp at ht, by simp⟩, fun t ht => by simp at ht⟩ (by simp only [FU]; omega)
theorem plain_WholeRequests {lib : List UInt8} {at_ : A2} {l : List SLender} (h1 : lib.length ≤ ML) (hs : SaneL l) : m_bookplatetop_WholeRequests FU lib at_ l = some true := by
  unfold m_bookplatetop_WholeRequests
  obtain ⟨e0, n1, _⟩ := new_ok (lib := [106, 101, 110, 97]) (by decide)
  have hj : m_request_New FU 1 2 [106, 101, 110, 97] 0 = some (rq [106, 101, 110, 97] 1 [] [], 0) := by decide +kernel
  rw [hj, Option.bind_some]
  simp only [rq, decide_true, Bool.not_true, Bool.or_self, Bool.false_eq_true, if_false]
  split
  · rfl
  · rename_i hc
    simp only [Bool.or_eq_true, decide_eq_true_eq, not_or] at hc
    obtain ⟨t, t1, t2⟩ := copy_loop (l := l) (by omega)
    rw [t1, Option.bind_some]
    rcases t2 with rfl | rfl
    · rfl
    · dsimp only
      obtain ⟨e, n1, n2⟩ := new_ok h1
      rw [n1, Option.bind_some, show (⟨at_.e0, at_.e1⟩ : A2) = at_ from rfl, progRow h1 (by simp) hs fML, Option.bind_some]
      split
      · rfl
      · rename_i hc2
        simp only [Bool.or_eq_true, Bool.not_eq_true', decide_eq_false_iff_not, not_or, Decidable.not_not] at hc2
        obtain ⟨hlib, he⟩ := n2 hc2.1
        have hrow := hc2.2
        unfold rowB at hrow
        rw [if_neg (by rw [hlib]; simp)] at hrow
        split at hrow
        · exact absurd hrow (by decide)
        · rename_i hat
          split at hrow
          · exact absurd hrow (by decide)
          · rename_i hb
            simp only [Bool.or_eq_true, not_or, Bool.not_eq_true] at hb
            obtain ⟨t, u1, u2⟩ := whole_loop (lib := lib) (at_ := at_) (l := l) (by omega) hs hlib (by simpa using hat) hb.2
            rw [he]
            simp only [rq]
            rw [u1, Option.bind_some, u2]
end Go.Proofs.Yteocmikmbiimcaa.Ab
