/- Plain laws, joined. Conditions: none. -/
import Derived.Test.YtkdefjliknpliaaGreatDoorAb37
import Derived.Test.YtkdefjliknpliaaGreatDoorAb26
namespace Go.Proofs.YtkdefjliknpliaaGreatDoor.Ab
section
/- Lists of rows: copies, the piece that reaches behind the end, zeros appended, overlaps. Conditions: none. -/
open Go Go.RowKit

theorem flatS_len {s : Nat} : ∀ {L : List D}, (∀ x ∈ L, x.cells.length = s) → (D.flat L).length = L.length * s
  | [], _ => by simp [D.flat]
  | x :: L, h => by
    rw [flat_cons, List.length_append, flatS_len (fun y hy => h y (List.mem_cons_of_mem _ hy)), h x (List.mem_cons_self ..), List.length_cons, Nat.succ_mul]; omega
theorem flatS_take {s : Nat} : ∀ {L : List D} (k : Nat), (∀ x ∈ L, x.cells.length = s) → D.flat (L.take k) = (D.flat L).take (k * s)
  | [], k, _ => by simp [D.flat]
  | x :: L, 0, _ => by simp [D.flat]
  | x :: L, k + 1, h => by
    have h1 := h x (List.mem_cons_self ..)
    rw [List.take_succ_cons, flat_cons, flat_cons, flatS_take k (fun y hy => h y (List.mem_cons_of_mem _ hy)), Nat.succ_mul, List.take_append, h1, List.take_of_length_le (l := x.cells) (by omega), Nat.add_sub_cancel]
theorem flatS_drop {s : Nat} : ∀ {L : List D} (k : Nat), (∀ x ∈ L, x.cells.length = s) → D.flat (L.drop k) = (D.flat L).drop (k * s)
  | [], k, _ => by simp [D.flat]
  | x :: L, 0, _ => by simp
  | x :: L, k + 1, h => by
    have h1 := h x (List.mem_cons_self ..)
    rw [List.drop_succ_cons, flat_cons, flatS_drop k (fun y hy => h y (List.mem_cons_of_mem _ hy)), Nat.succ_mul, List.drop_append, h1, List.drop_of_length_le (l := x.cells) (by omega), List.nil_append, Nat.add_sub_cancel]
theorem subA_at {b cap lo s : Nat} (h : lo < cap) : subA (some (⟨b, 0, none⟩ : Addr)) cap lo s = some ⟨b, lo * s, none⟩ := by
  unfold subA
  by_cases h0 : lo = 0
  · rw [if_pos h0, h0, Nat.zero_mul]
  · rw [if_neg h0, if_neg (by omega)]; simp [Addr.add_none]
theorem set_none {α : Type} {H : List α} {id : Nat} {x : α} (h : H[id]? = some x) : H.set id x = H := by
  have hlt : id < H.length := (List.getElem?_eq_some_iff.1 h).1
  apply List.ext_getElem?
  intro i
  by_cases hi : i = id
  · subst hi; rw [List.getElem?_set_self hlt, h]
  · rw [List.getElem?_set_ne (Ne.symm hi)]
section
variable {P : Program} {ρ : Operand → V} {H : List HE} {ty : TypeId}
theorem copy_coreS {g : G} {w : World} {rr : Operand → Value} {L src : List D} {cs : List Value} {x y : Operand} {dT sT e bytes id lo len n m s : Nat} {dst : Option Nat} {pos : String} {after : Array Edge} {guard : Option (Nat × Bool)}
    (hw : WOK g w H) (hL : ∀ x ∈ L, x.cells.length = s) (hS : ∀ x ∈ src, x.cells.length = s) (_h0 : 0 < s) (hxr : Rep g w (.hs id lo len s) (rr x)) (hH : H[id]? = some (.lst L e s)) (hlen : lo + len ≤ L.length) (ht : SlT P dT e s bytes)
    (hm : (Builtin.lenOf (rr y)).run P w = .ok m w) (hn : n = min m len) (hsl : src.length = n) (hfc : (Builtin.firstCells s n (rr y)).run P w = .ok cs.toArray w) (hcl : cs.length = n * s)
    (hrep : ∀ (j : Nat) z v, (D.flat src)[j]? = some z → cs[j]? = some v → RepD g.Pr w z v) (hone : ∀ v ∈ cs, v.oneCell' = true) :
    OpRuns P ⟨dst, .call ⟨.builtin .copy, #[x, y], #[dT, sT]⟩, ty, pos, after, guard⟩ rr w fun rv w' => ∃ g', WOK g' w' (H.set id (.lst (L.take lo ++ src ++ L.drop (lo + n)) e s)) ∧ Evo g w g' w' ∧ Rep g' w' (.d (.int .i64 (n : Int))) rv := by
  obtain ⟨ad, cap, k1, k2, k3, k4⟩ := hw.lst id _ _ _ hH
  obtain ⟨ie, z, hie, hsz, _⟩ := ht.i
  generalize hr : rr x = u at hxr
  cases hxr with
  | @hs _ _ _ _ m' cap' n0 c0 a' a0 p1 p2 =>
    rw [k1] at p1; injection p1 with p1; injection p1 with p1 p3; injection p3 with p3 p4
    obtain ⟨r1, r2, r3, r4⟩ := p2 p1.symm
    subst p3; subst p4; subst r2
    have hmin : Nat.min m n0 = n := hn.symm
    by_cases hn0 : n = 0
    · clear k4
      subst hn0
      have hs0 : src = [] := List.eq_nil_of_length_eq_zero hsl
      have hc0 : cs = [] := List.eq_nil_of_length_eq_zero (by rw [hcl]; simp)
      subst hc0
      have hrun : (execOp rr ⟨dst, .call ⟨.builtin .copy, #[x, y], #[dT, sT]⟩, ty, pos, after, guard⟩).run P w = .ok (.value (.int .i64 ((0 : Nat) : Int))) w := by
        cases a0 <;> simp [execOp, resolve, invoke, builtin, Builtin.copy_, run_underlying ht.u, hr, hm, hmin, run_sizeOf' hie, hsz, hfc, storeCells, goInt]
      unfold OpRuns
      rw [hrun, hs0, List.append_nil, Nat.add_zero, List.take_append_drop, set_none hH]
      exact ⟨g, hw, .refl _ _, .d (.int _ _)⟩
    · have hcap : 0 < cap := by omega
      obtain ⟨b, arr, rfl, q0, q2, q3, q4, q5⟩ := k4 hcap
      clear k4
      rw [subA_at (by omega)] at r1
      subst r1
      have hns : (lo + n) * s = lo * s + n * s := Nat.add_mul ..
      have hfit : (lo + n) * s ≤ arr.size := by rw [q3]; exact Nat.mul_le_mul_right s (by omega)
      have hst := run_storeCells_at P b (lo * s) e cs 0 arr w q2 (by rw [hcl]; omega) hone
      have hrun : (execOp rr ⟨dst, .call ⟨.builtin .copy, #[x, y], #[dT, sT]⟩, ty, pos, after, guard⟩).run P w = .ok (.value (.int .i64 (n : Int))) (w.setRow b (arr.toList.take (lo * s + 0) ++ cs ++ arr.toList.drop (lo * s + 0 + cs.length)).toArray) := by
        simp [execOp, resolve, invoke, builtin, Builtin.copy_, run_underlying ht.u, hr, hm, hmin, run_sizeOf' hie, hsz, hfc, hst, goInt]
      unfold OpRuns
      rw [hrun]
      have fl := flatS_len hL
      have l1 : (D.flat (L.take lo)).length = lo * s := by rw [flatS_take lo hL, List.length_take, fl]; exact Nat.min_eq_left (Nat.mul_le_mul_right s (by omega))
      have l2 : (List.take (lo * s) arr.toList).length = lo * s := by simp; omega
      have l3 : (D.flat src).length = n * s := by rw [flatS_len hS, hsl]
      have key := WOK.storeLst (w' := w.setRow b (arr.toList.take (lo * s + 0) ++ cs ++ arr.toList.drop (lo * s + 0 + cs.length)).toArray) (l' := L.take lo ++ src ++ L.drop (lo + n))
        (arr' := (arr.toList.take (lo * s + 0) ++ cs ++ arr.toList.drop (lo * s + 0 + cs.length)).toArray) hw hH k1 hcap q0 ⟨rfl, rfl, rfl⟩ (setRow_size w b _) (setRow_heap w b arr _ e _ q2) (fun b'' hne => setRow_other w b b'' _ hne)
        (by simp; omega) (by rw [← q3]; simp; omega) (fun k x u hx' hu' => by
          simp only [Nat.add_zero, List.getElem?_toArray] at hu'
          rw [List.append_assoc, flat_append, flat_append] at hx'
          rw [List.append_assoc] at hu'
          by_cases hk : k < lo * s
          · rw [List.getElem?_append_left (by omega), flatS_take lo hL, List.getElem?_take, if_pos hk] at hx'
            rw [List.getElem?_append_left (by omega), List.getElem?_take, if_pos hk, Array.getElem?_toList] at hu'
            exact q5 k _ u hx' hu'
          · rw [List.getElem?_append_right (by omega), l1] at hx'
            rw [List.getElem?_append_right (by omega), l2] at hu'
            by_cases hk2 : k - lo * s < n * s
            · rw [List.getElem?_append_left (by omega)] at hx' hu'
              exact hrep _ x u hx' hu'
            · rw [List.getElem?_append_right (by omega), l3, flatS_drop _ hL, List.getElem?_drop] at hx'
              rw [List.getElem?_append_right (by omega), hcl, List.getElem?_drop, Array.getElem?_toList] at hu'
              rw [hns] at hx'
              exact q5 _ _ u hx' hu')
      exact ⟨g, key.1, key.2, .d (.int _ _)⟩

/-- The cells of a piece of a list. -/
theorem piece_cells {g : G} {w : World} {L : List D} {v : Value} {id lo len e s n : Nat} (hw : WOK g w H) (hL : ∀ x ∈ L, x.cells.length = s) (hH : H[id]? = some (.lst L e s)) (hr : Rep g w (.hs id lo len s) v) (hlen : lo + len ≤ L.length) (hn : n ≤ len) (hone : ∀ x ∈ (L.drop lo).take n, ∀ y ∈ x.cells, y.one = true) :
    (Builtin.lenOf v).run P w = .ok len w ∧ ∃ cs : List Value, cs.length = n * s ∧ (Builtin.firstCells s n v).run P w = .ok cs.toArray w ∧ (∀ (j : Nat) z u, (D.flat ((L.drop lo).take n))[j]? = some z → cs[j]? = some u → RepD g.Pr w z u) ∧ ∀ u ∈ cs, u.oneCell' = true := by
  obtain ⟨ad, cap, k1, k2, k3, k4⟩ := hw.lst id _ _ _ hH
  cases hr with
  | @hs _ _ _ _ m' cap' n0 c0 a' a0 p1 p2 =>
    rw [k1] at p1; injection p1 with p1; injection p1 with p1 p3; injection p3 with p3 p4
    obtain ⟨r1, r2, r3, r4⟩ := p2 p1.symm
    subst p3; subst p4; subst r2
    refine ⟨rfl, ?_⟩
    by_cases hn0 : n = 0
    · subst hn0
      refine ⟨[], by simp, ?_, by simp, by simp⟩
      cases a0 with
      | none => simp [Builtin.firstCells]
      | some ad => exact run_firstCells_some (P := P) w s 0 ad _ _ [] (by simp) (by simp)
    · obtain ⟨b, arr, rfl, q0, q2, q3, q4, q5⟩ := k4 (by omega)
      clear k4
      rw [subA_at (by omega)] at r1
      subst r1
      have fl := flatS_len hL
      have hfit : (lo + n) * s ≤ cap * s := Nat.mul_le_mul_right s (by omega)
      have hfit2 : (lo + n) * s ≤ L.length * s := Nat.mul_le_mul_right s (by omega)
      rw [Nat.add_mul] at hfit hfit2
      have hcl : ((arr.toList.drop (lo * s)).take (n * s)).length = n * s := by simp; omega
      have hcs : ∀ (j : Nat) v, ((arr.toList.drop (lo * s)).take (n * s))[j]? = some v → j < n * s ∧ arr[lo * s + j]? = some v := fun j v hv => by
        simp only [List.getElem?_take, List.getElem?_drop, Array.getElem?_toList] at hv
        split at hv
        · rename_i h; exact ⟨h, hv⟩
        · cases hv
      have hfl : ∀ j, j < n * s → (D.flat ((L.drop lo).take n))[j]? = (D.flat L)[lo * s + j]? := fun j hj => by
        rw [flatS_take n (fun x hx => hL x (List.mem_of_mem_drop hx)), flatS_drop lo hL, List.getElem?_take, if_pos hj, List.getElem?_drop]
      refine ⟨(arr.toList.drop (lo * s)).take (n * s), hcl, ?_, fun j z u hz hu => ?_, fun u hu => ?_⟩
      · exact run_firstCells_some (P := P) w s n ⟨b, lo * s, none⟩ _ _ _ hcl (fun j v hv => by
          rw [Addr.add_none, cell_of_cells q2]; exact (hcs j v hv).2)
      · obtain ⟨h1, h2⟩ := hcs j u hu
        rw [hfl j h1] at hz
        exact q5 _ z u hz h2
      · obtain ⟨j, hj⟩ := List.getElem?_of_mem hu
        obtain ⟨h1, h2⟩ := hcs j u hj
        obtain ⟨z, hz⟩ : ∃ z, (D.flat L)[lo * s + j]? = some z := ⟨_, List.getElem?_eq_getElem (by omega)⟩
        refine (q5 _ z u hz h2).one ?_
        rw [← hfl j h1] at hz
        obtain ⟨x, hx, hy⟩ := List.mem_flatMap.1 (List.mem_of_getElem? hz)
        exact hone x hx z hy

/-- A copy within one list. -/
theorem op_copySelfS {L src : List D} {x y : Operand} {dT sT e bytes id lo len lo2 len2 n s : Nat} (hL : ∀ x ∈ L, x.cells.length = s) (h0 : 0 < s) (hx : Is (ρ x) (.hs id lo len s)) (hy : Is (ρ y) (.hs id lo2 len2 s)) (hH : H[id]? = some (.lst L e s)) (hlen : lo + len ≤ L.length) (hlen2 : lo2 + len2 ≤ L.length)
    (hn : n = min len2 len) (hsrc : src = (L.drop lo2).take n) (hone : ∀ x ∈ src, ∀ y ∈ x.cells, y.one = true) (ht : SlT P dT e s bytes) :
    OpV P (.call ⟨.builtin .copy, #[x, y], #[dT, sT]⟩) ty ρ H (.d (.int .i64 (n : Int))) (H.set id (.lst (L.take lo ++ src ++ L.drop (lo + n)) e s)) := by
  intro g w rr pos after guard dst hw h
  have hxr := hx.rep (h x (by simp [Op.operands, Call.operands]))
  have hyr := hy.rep (h y (by simp [Op.operands, Call.operands]))
  subst hsrc
  obtain ⟨h1, cs, h2, h3, h4, h5⟩ := piece_cells (P := P) (n := n) hw hL hH hyr hlen2 (by omega) hone
  exact copy_coreS hw hL (fun x hx => hL x (List.mem_of_mem_drop (List.mem_of_mem_take hx))) h0 hxr hH hlen ht h1 hn (by simp; omega) h3 h2 h4 h5
/-- 'copy' of data into a piece of a list. -/
theorem op_copyDS {α : Type} {f : α → D} {l src : List α} {x y : Operand} {dT sT e bytes id lo len s : Nat} (hf : En f s) (h0 : 0 < s) (hx : Is (ρ x) (.hs id lo len s)) (hH : H[id]? = some (.lst (l.map f) e s)) (hlen : lo + len ≤ l.length) (hy : As (ρ y) (.sl (src.map f))) (ht : SlT P dT e s bytes) :
    OpV P (.call ⟨.builtin .copy, #[x, y], #[dT, sT]⟩) ty ρ H (.d (.int .i64 ((min src.length len : Nat) : Int))) (H.set id (.lst ((cpyL l lo len src).map f) e s)) := by
  intro g w rr pos after guard dst hw h
  have hxr := hx.rep (h x (by simp [Op.operands, Call.operands]))
  have hyr := hy.rep (h y (by simp [Op.operands, Call.operands]))
  obtain ⟨a, cap, hra, _⟩ := slice_form hyr
  simp only [List.length_map] at hra
  have hm : (Builtin.lenOf (rr y)).run P w = .ok src.length w := by rw [hra]; rfl
  have e1 : (cpyL l lo len src).map f = (l.map f).take lo ++ (src.take (min src.length len)).map f ++ (l.map f).drop (lo + min src.length len) := by
    unfold cpyL
    rw [List.map_append, List.map_append, List.map_take, List.map_drop, Nat.min_comm len, Nat.min_comm src.length len, Nat.min_comm len src.length]
    congr 2
    exact congrArg (List.map f) (List.take_eq_take_iff.2 (by omega))
  rw [e1]
  have hS : ∀ x ∈ (src.take (min src.length len)).map f, x.cells.length = s := hf.szL _
  by_cases hs0 : src = []
  · subst hs0
    refine copy_coreS (cs := []) hw (hf.szL l) hS h0 hxr hH (by simpa using hlen) ht hm rfl (by simp) ?_ (by simp) (by simp [D.flat]) (by simp)
    rw [hra]
    simp only [List.length_nil, Nat.zero_min]
    cases a with
    | none => simp [Builtin.firstCells]
    | some ad => exact run_firstCells_some (P := P) w s 0 ad _ _ [] (by simp) (by simp)
  · obtain ⟨b', o', cap', f', hra2, _, hk', hrep', hone'⟩ := hyr.slCells (hf.szL src) (hf.oneL src) (by simpa using hs0)
    simp only [List.length_map] at hra2 hk' hone'
    have hle : min src.length len * s ≤ src.length * s := Nat.mul_le_mul_right s (Nat.min_le_left ..)
    refine copy_coreS (cs := (List.range (min src.length len * s)).map f') hw (hf.szL l) hS h0 hxr hH (by simpa using hlen) ht hm rfl (by simp) ?_ (by simp) (fun j z v hz hv => ?_) (fun v hv => ?_)
    · rw [hra2]
      refine run_firstCells_some (P := P) w s _ ⟨b', o', none⟩ _ _ _ (by simp) (fun j v hv => ?_)
      have hj : j < min src.length len * s := by
        have := (List.getElem?_eq_some_iff.1 hv).1; simpa using this
      rw [range_map_get _ _ _ hj] at hv
      rw [Addr.add_none, (hk' j (by omega)).2]; exact hv
    · have hj : j < min src.length len * s := by
        have := (List.getElem?_eq_some_iff.1 hv).1; simpa using this
      rw [range_map_get _ _ _ hj] at hv
      injection hv with hv; subst hv
      refine hrep' j _ ?_
      rw [List.map_take, flatS_take _ (hf.szL src), List.getElem?_take, if_pos hj] at hz
      exact hz
    · obtain ⟨j, hj, rfl⟩ := List.mem_map.1 hv
      exact hone' j (by have := List.mem_range.1 hj; omega)
/-- 'copy' of a piece of a list into a piece of a list. -/
theorem op_copyHS {α : Type} {f : α → D} {l l2 src : List α} {x y : Operand} {dT sT e e2 bytes id lo len id2 lo2 len2 s : Nat} (hf : En f s) (h0 : 0 < s) (hx : Is (ρ x) (.hs id lo len s)) (hH : H[id]? = some (.lst (l.map f) e s)) (hlen : lo + len ≤ l.length)
    (hy : Is (ρ y) (.hs id2 lo2 len2 s)) (hH2 : H[id2]? = some (.lst (l2.map f) e2 s)) (hsrc : (l2.drop lo2).take len2 = src) (hlen2 : lo2 + len2 ≤ l2.length) (ht : SlT P dT e s bytes) :
    OpV P (.call ⟨.builtin .copy, #[x, y], #[dT, sT]⟩) ty ρ H (.d (.int .i64 ((min src.length len : Nat) : Int))) (H.set id (.lst ((cpyL l lo len src).map f) e s)) := by
  intro g w rr pos after guard dst hw h
  have hxr := hx.rep (h x (by simp [Op.operands, Call.operands]))
  have hyr := hy.rep (h y (by simp [Op.operands, Call.operands]))
  have hsl : src.length = len2 := by subst hsrc; simp; omega
  obtain ⟨h1, cs, h2, h3, h4, h5⟩ := piece_cells (P := P) (n := min src.length len) hw (hf.szL l2) hH2 hyr (by simpa using hlen2) (by omega) (fun x hx => hf.oneL l2 x (List.mem_of_mem_drop (List.mem_of_mem_take hx)))
  have e1 : (cpyL l lo len src).map f = (l.map f).take lo ++ (src.take (min src.length len)).map f ++ (l.map f).drop (lo + min src.length len) := by
    unfold cpyL
    rw [List.map_append, List.map_append, List.map_take, List.map_drop, Nat.min_comm src.length len]
    congr 2
    exact congrArg (List.map f) (List.take_eq_take_iff.2 (by omega))
  rw [e1]
  have e2 : ∀ k, k ≤ len2 → ((l2.map f).drop lo2).take k = (src.take k).map f := fun k hk => by
    rw [← hsrc, List.take_take, Nat.min_eq_left hk, List.map_take, List.map_drop]
  refine copy_coreS (cs := cs) hw (hf.szL l) (hf.szL _) h0 hxr hH (by simpa using hlen) ht h1 (by omega) (by simp) h3 h2 (fun j z u hz hu => h4 j z u ?_ hu) h5
  rw [← hz, e2 _ (by omega)]
/-- slices.overlaps of data and a list. -/
theorem op_overlapsS {fop x y : Operand} {f : FuncId} {ts : Array TypeId} {tS tR e bytes id lo len s : Nat} {l L : List D}
    (hc : ∀ (a : Array Value) (w : World), (callFunc f a).run P w = ((Extern.SlicesOverlaps.overlaps #[tS, tS] #[tR] a).run P w).andThen fun v w' => .ok (.value v) w') (h0 : 0 < s)
    (hf : Is (ρ fop) (.fn (.func f) [])) (hx : As (ρ x) (.sl l)) (hy : Is (ρ y) (.hs id lo len s)) (hH : H[id]? = some (.lst L e s)) (hlen : lo + len ≤ L.length) (hpos : 0 < len) (hl : ∀ x ∈ l, x.cells.length = s) (hone : ∀ x ∈ l, ∀ y ∈ x.cells, y.one = true) (hne : l ≠ []) (ht : SlT P tS e s bytes) :
    OpV P (.call ⟨.value fop, #[x, y], ts⟩) ty ρ H (.d (.bool false)) H := by
  intro g w rr pos after guard dst hw h
  have hxr := hx.rep (h x (by simp [Op.operands, Call.operands]))
  have hyr := hy.rep (h y (by simp [Op.operands, Call.operands]))
  have hfr := hf.rep (h fop (by simp [Op.operands, Call.operands]))
  obtain ⟨ad, cap, k1, k2, k3, k4⟩ := hw.lst id _ _ _ hH
  obtain ⟨ie, z, hie, hsz, _⟩ := ht.i
  obtain ⟨b', o', cap', f', hra, _, hk', _, _⟩ := hxr.slCells hl hone hne
  generalize hr2 : rr y = u2 at hyr
  cases hyr with
  | @hs _ _ _ _ m'' cap'' n1 c1 a'' a1 p1' p2' =>
    rw [k1] at p1'; injection p1' with p1'; injection p1' with p1' p3'; injection p3' with p3' p4'
    obtain ⟨s1, s2, s3, s4⟩ := p2' p1'.symm
    subst p3'; subst p4'; subst s2
    obtain ⟨b, arr, rfl, q0, q2, q3, q4, q5⟩ := k4 (by omega)
    clear k4
    have hsub : a1 = some ⟨b, lo * s, none⟩ := by rw [s1, subA_at (by omega)]
    subst hsub
    have hlp : 0 < l.length := List.length_pos_iff.2 hne
    obtain ⟨hp0, hc0⟩ := hk' 0 (Nat.mul_pos hlp h0)
    have hbne : b' ≠ b := fun e => by subst e; exact q4 _ hp0
    obtain ⟨arrA, etA, frA, hA⟩ : ∃ arrA etA frA, w.heap[b']? = some (.cells arrA etA frA) := by
      unfold World.cell? at hc0
      split at hc0
      · rename_i c1 c2 c3 hh; exact ⟨c1, c2, c3, hh⟩
      · cases hc0
    have hkA : arrA.size ≠ 0 := by
      intro h0
      have := hc0
      rw [cell_of_cells hA] at this
      rw [Array.getElem?_eq_none (by omega)] at this
      cases this
    have hsa : w.shape? b' = some (etA, arrA.size) := by simp [World.shape?, hA]
    have hsb : w.shape? b = some (e, arr.size) := by simp [World.shape?, q2]
    have hfb : ∀ o, w.frozen? ⟨b, o, none⟩ = false := fun o => by simp [World.frozen?, q2]
    have hov : (Extern.SlicesOverlaps.overlaps #[tS, tS] #[tR] #[.slice (some ⟨b', o', none⟩) l.length cap', .slice (some ⟨b, lo * s, none⟩) n1 c1]).run P w = .ok (.bool false) w := by
      have hnb : (b' != b) = true := by simpa using hbne
      have hnb' : (b' == b) = false := by simpa using hbne
      have hsize : ∀ w, (Go.sizeOf e).run P w = .ok s w := fun w => by rw [run_sizeOf' hie, hsz]
      change Sem.run P (α := Value) (do
        let some t := (#[tS, tS] : Array TypeId)[0]? | stuck "slices.overlaps: no parameter types"
        let .slice elem ← underlying t | stuck "slices.overlaps: slice type expected"
        let size ← sizeOf elem
        match (some (⟨b', o', none⟩ : Addr) : Option Addr), (some (⟨b, lo * s, none⟩ : Addr) : Option Addr) with
        | some a, some b =>
          if l.length = 0 ∨ n1 = 0 ∨ size = 0 then pure (Value.bool false)
          else if a.block != b.block && (← frozen a) && (← frozen b) then unsupported .addressObserved
          else do
            if a.block != b.block then do
              noView a; noView b
              if ← mayBeOne a b then return Value.bool ((← choose (.extern "sameAddr.stringBytes" 2)) == 1)
            pure (Value.bool (a.block == b.block && a.off < b.off + n1 * size && b.off < a.off + l.length * size))
        | _, _ => pure (Value.bool false)) w = _
      have hkB : arr.size ≠ 0 := by
        rw [q3]
        exact Nat.ne_of_gt (Nat.mul_pos (by omega) h0)
      obtain ⟨kA, hkA'⟩ : ∃ k, arrA.size = k + 1 := ⟨arrA.size - 1, by omega⟩
      obtain ⟨kB, hkB'⟩ : ∃ k, arr.size = k + 1 := ⟨arr.size - 1, by omega⟩
      rw [hkA'] at hsa; rw [hkB'] at hsb
      have e1 : ¬ (l.length = 0) := by omega
      have e2 : ¬ (n1 = 0) := by omega
      have e3 : ¬ (s = 0) := by omega
      cases hfa1 : w.frozen? ⟨b', o', none⟩ <;> cases hfa2 : w.frozen? ⟨b', kA + 1, none⟩ <;>
        simp [run_underlying ht.u, hsize, hne, e2, e3, hnb, hnb', frozen, noView, viewAt, mayBeOne, stringish, shape, Sem.run, hsa, hsb, hfb, hfa1, hfa2]
    generalize hrf : rr fop = fv at hfr
    cases hfr with
    | @fn _ _ arr2 hsz2 hrep2 =>
      have ha2 : arr2 = #[] := Array.eq_empty_of_size_eq_zero (by simpa using hsz2)
      subst ha2
      have hrun : (execOp rr ⟨dst, .call ⟨.value fop, #[x, y], ts⟩, ty, pos, after, guard⟩).run P w = .ok (.value (.bool false)) w := by
        simp [execOp, resolve, Deferred.ofValue, invoke, hrf, hra, hr2, hc, hov, Result.andThen_ok]
      unfold OpRuns
      rw [hrun]
      exact ⟨g, hw, .refl _ _, .d (.bool _)⟩
end

section
variable {F : FC} {ρ : Operand → V} {H : List HE} {ty : TypeId}
/-- A piece that reaches one place behind the last element. -/
theorem op_upS {x y : Operand} {t e id len c bytes s : Nat} {a : Option Addr} {l : List D} (hg : F.g0.τ id = some (0, a, c)) (hx : Is (ρ x) (.hs id 0 len s)) (hy : As (ρ y) (.int .i64 ((len + 1 : Nat) : Int))) (hH : H[id]? = some (.lst l e s)) (hl : l.length = len)
    (h1 : ∀ x ∈ l, x.cells.length = s) (hc : len + 1 ≤ c) (ht : SlT F.P t e s bytes) :
    OpVX F (α := {us : List Value // us.length = s}) (.slice t x none (some y) none) ty ρ H (fun _ => .hs id 0 (len + 1) s) (fun u => H.set id (.lst (l ++ [.agg (u.1.map .raw)]) e s)) := by
  intro g w r pos after guard dst hw he h
  have hτ := capOf hg he hw hH
  have hxr := hx.rep (h x (by simp [Op.operands]))
  have hyr := hy.int (h y (by simp [Op.operands]))
  obtain ⟨ad, cap, k1, k2, k3, k4⟩ := hw.lst id l e s hH
  rw [hτ] at k1; injection k1 with k1; injection k1 with _ k1; injection k1 with k1 k1'
  subst k1; subst k1'
  obtain ⟨b, arr, rfl, q0, q2, q3, q4, q5⟩ := k4 (by omega)
  clear k4
  obtain ⟨ie, z, hie, hsz, _⟩ := ht.i
  generalize hrx : r x = vx at hxr
  cases hxr with
  | @hs _ _ _ _ m cap' n0 c0 a' a0 p1 p2 =>
    rw [hτ] at p1; injection p1 with p1; injection p1 with p1 p3; injection p3 with p3 p4
    obtain ⟨r1, r2, r3, r4⟩ := hs0 (p2 p1.symm)
    subst p3; subst p4; subst r1; subst r2; subst r3
    have hhi : (Instr.sliceBound (.int .i64 ((n0 : Int) + 1)) c0 .sliceAcap).run F.P w = .ok (n0 + 1) w := by
      simp only [Instr.sliceBound, asIntOf, Sem.run_bind, Sem.run_pure, Result.andThen_ok]
      rw [if_pos (by omega)]
      have : ((n0 : Int) + 1).toNat = n0 + 1 := by omega
      rw [this]; rfl
    have hrun : (execOp r ⟨dst, .slice t x none (some y) none, ty, pos, after, guard⟩).run F.P w = .ok (.value (.slice (some ⟨b, 0, none⟩) (n0 + 1) c0)) w := by
      simp [execOp, Instr.sliceAt, Instr.slice, Instr.sliceBounds, run_underlying ht.u, hrx, hyr, run_sizeOf' hie, hsz, hhi, Addr.add]
    unfold OpRuns
    rw [hrun]
    have harr : (n0 + 1) * s ≤ arr.size := by rw [q3]; exact Nat.mul_le_mul_right s hc
    rw [Nat.succ_mul] at harr
    let us := (arr.toList.drop (n0 * s)).take s
    have hus : us.length = s := by simp [us]; omega
    have hug : ∀ j, j < s → us[j]? = arr[n0 * s + j]? := fun j hj => by simp [us, hj]
    have fl := flatS_len h1
    rw [hl] at fl
    have key := WOK.storeLst (w' := w) (l' := l ++ [.agg (us.map .raw)]) (arr' := arr) hw hH hτ (by omega) q0 ⟨rfl, rfl, rfl⟩ rfl q2 (fun _ _ => rfl) (by simp; omega) q3 (fun k x v hx' hv => by
      rw [flat_append] at hx'
      by_cases hk : k < (D.flat l).length
      · rw [List.getElem?_append_left hk] at hx'
        exact q5 k x v hx' hv
      · rw [List.getElem?_append_right (by omega)] at hx'
        simp only [D.flat, List.flatMap_cons, List.flatMap_nil, D.cells, List.append_nil, List.getElem?_map, Option.map_eq_some_iff] at hx'
        obtain ⟨u, hu, rfl⟩ := hx'
        have hfl : (List.flatMap D.cells l).length = n0 * s := fl
        rw [hfl] at hu
        have hks : k - n0 * s < s := by have := (List.getElem?_eq_some_iff.1 hu).1; omega
        rw [hug _ hks, show n0 * s + (k - n0 * s) = k by omega, hv] at hu
        injection hu with hu; subst hu
        exact .raw _)
    exact ⟨⟨us, hus⟩, g, key.1, key.2, .hs hτ (fun _ => ⟨rfl, rfl, rfl, by omega⟩)⟩
/-- Zeros that are appended to the beginning of a list that has no room for them: a new list. -/
theorem op_appendZSg {α : Type} {ab : Value → D} (hab : ∀ (Pr : Nat → Nat → Prop) (w : World) (v : Value), RepD Pr w (ab v) v) {f : α → D} {l : List α} {z : α} {x y : Operand} {t tn e id i c k res bytes s : Nat} {a : Option Addr} {zs : List Value} {kn : IntKind} (hg : F.g0.τ id = some (0, a, c)) (hx : Is (ρ x) (.hs id 0 i s)) (hy : As (ρ y) (.int .i64 (k : Int))) (hH : H[id]? = some (.lst (l.map f) e s))
    (hi : i ≤ l.length) (hf : En f s) (hs1 : 0 < s) (hc : c < i + k) (h0 : 0 < k) (ht : SlT F.P t e s bytes) (htn : F.P.underlying tn = some (.int kn)) (hz : Zr F.P e zs) (hfz : (f z).cells = zs.map ab) (hres : H[res]? = some .free)
    (hbytes : (i + k) * bytes ≤ 140737488355328) (hlen : i + k ≤ 4611686018427387904) :
    OpVX F (α := Unit) (.call ⟨.builtin .append, #[x, y], #[t, tn]⟩) ty ρ H (fun _ => .hs res 0 (i + k) s) (fun _ => H.set res (.lst ((l.take i ++ List.replicate k z).map f) e s)) := by
  intro g w r pos after guard dst hw he h
  have hτ := capOf hg he hw hH
  have hxr := hx.rep (h x (by simp [Op.operands, Call.operands]))
  have hyr := hy.int (h y (by simp [Op.operands, Call.operands]))
  obtain ⟨ad, cap, k1, k2, k3, k4⟩ := hw.lst id _ _ _ hH
  rw [hτ] at k1; injection k1 with k1; injection k1 with _ k1; injection k1 with k1 k1'
  subst k1; subst k1'
  simp only [List.length_map] at k2
  obtain ⟨ie, zv, hie, hsz, hby, hz1, hz2⟩ := ht.i
  obtain ⟨i', z', j1, j2, j3, j4⟩ := hz.z
  rw [hie] at j1; injection j1 with j1; subst j1
  rw [hz1] at j2; injection j2 with j2; subst j2
  have hzl : zs.length = s := by rw [← j3, Array.length_toList, hz2]
  generalize hrx : r x = vx at hxr
  cases hxr with
  | @hs _ _ _ _ m cap' n0 c0 a' a0 p1 p2 =>
    rw [hτ] at p1; injection p1 with p1; injection p1 with p1 p3; injection p3 with p3 p4
    obtain ⟨r1, r2, r3, r4⟩ := hs0 (p2 p1.symm)
    subst p3; subst p4; subst r1; subst r2; subst r3
    have fl := flatS_len (hf.szL l)
    rw [List.length_map] at fl
    have hil : n0 * s ≤ l.length * s := Nat.mul_le_mul_right s hi
    obtain ⟨olds, ho1, ho2, ho3⟩ : ∃ olds : List Value, olds.length = n0 * s ∧ (Builtin.firstCells ie.size n0 (.slice a0 n0 c0)).run F.P w.drew = .ok olds.toArray w.drew ∧
        (∀ (j : Nat) x v, (D.flat (l.map f))[j]? = some x → olds[j]? = some v → RepD g.Pr w x v) := by
      rw [hsz]
      by_cases hn : n0 = 0
      · subst hn
        refine ⟨[], by simp, ?_, by simp⟩
        cases a0 with
        | none => simp [Builtin.firstCells]
        | some ad => exact run_firstCells_some (P := F.P) w.drew s 0 ad _ _ [] (by simp) (by simp)
      · obtain ⟨b, arr, rfl, q0, q2, q3, q4, q5⟩ := k4 (by omega)
        have hca : n0 * s ≤ arr.size := by rw [q3]; exact Nat.mul_le_mul_right s r4
        refine ⟨arr.toList.take (n0 * s), by simp; omega, ?_, fun j x v hx' hv => ?_⟩
        · refine run_firstCells_some (P := F.P) w.drew s n0 ⟨b, 0, none⟩ _ _ _ (by simp; omega) (fun j v hv => ?_)
          rw [Addr.add_none, Nat.zero_add]
          show w.cell? _ = _
          rw [cell_of_cells q2]
          rw [List.getElem?_take] at hv
          split at hv
          · rwa [Array.getElem?_toList] at hv
          · cases hv
        · rw [List.getElem?_take] at hv
          split at hv
          · rw [Array.getElem?_toList] at hv
            exact q5 j x v hx' hv
          · cases hv
    have hrun0 := Lib.run_append_grow_zeros (P := F.P) w t tn ty e ie zv .i64 kn ht.u htn hie hz1 a0 n0 c0 olds ho2 k h0 (by omega) hc (by omega) (by rw [hby]; exact Nat.le_trans (Nat.mul_le_mul_right bytes (Nat.le_add_left k n0)) (by omega)) (by rw [hby]; exact growslice_fits hc hbytes)
    generalize hC : grownCap w (n0 + k) c0 e = C at hrun0
    have hC1 : n0 + k ≤ C := by rw [← hC]; exact grownCap_ge w (n0 + k) c0 e
    have hC2 : C ≤ 9223372036854775807 := by
      rw [← hC]
      have := grownCap_le_maxLen w (n0 + k) c0 e (by simp only [maxLen]; omega)
      simpa [maxLen] using this
    have hrun : (execOp r ⟨dst, .call ⟨.builtin .append, #[x, y], #[t, tn]⟩, ty, pos, after, guard⟩).run F.P w = .ok (.value (.slice (some ⟨w.heap.size, 0, none⟩) (n0 + k) C)) (w.drew.alloc (.cells (olds.toArray ++ Builtin.zeroCells zv.cells k ++ Builtin.zeroCells zv.cells (C - (n0 + k))) e)) := by
      simp [execOp, resolve, invoke, builtin, hrx, hyr, hrun0]
    unfold OpRuns
    rw [hrun]
    have hzc : ∀ m, (Builtin.zeroCells zv.cells m).size = m * s := fun m => by simp [Builtin.zeroCells, hz2]
    have hCs : n0 * s + k * s + (C - (n0 + k)) * s = C * s := by rw [← Nat.add_mul, ← Nat.add_mul]; congr 1; omega
    obtain ⟨g', w1, w2, w3⟩ := hw.newLst (w' := w.drew.alloc (.cells (olds.toArray ++ Builtin.zeroCells zv.cells k ++ Builtin.zeroCells zv.cells (C - (n0 + k))) e)) (id := res) (l := (l.take n0 ++ List.replicate k z).map f) (s := s) (cap := C)
      (arr := olds.toArray ++ Builtin.zeroCells zv.cells k ++ Builtin.zeroCells zv.cells (C - (n0 + k))) (et := e) hres ⟨rfl, rfl, rfl⟩ rfl (by simp; omega) hC2 (by simp [hzc, ho1]; omega) (fun j x v hx' hv => by
        rw [List.map_append, flat_append] at hx'
        rw [Array.append_assoc] at hv
        have l1 : (D.flat ((l.take n0).map f)).length = n0 * s := by rw [flatS_len (hf.szL _), List.length_map, List.length_take, Nat.min_eq_left hi]
        by_cases hj : j < n0 * s
        · rw [List.getElem?_append_left (by omega)] at hx'
          rw [Array.getElem?_append_left (by simp; omega)] at hv
          have hx2 : (D.flat (l.map f))[j]? = some x := by
            rw [List.map_take, flatS_take _ (hf.szL l), List.getElem?_take, if_pos hj] at hx'; exact hx'
          exact ho3 j x v hx2 (by simpa using hv)
        · rw [List.getElem?_append_right (by omega), l1] at hx'
          have l2 : (D.flat ((List.replicate k z).map f)).length = k * s := by rw [flatS_len (hf.szL _)]; simp
          have hjk : j - n0 * s < k * s := by
            have := (List.getElem?_eq_some_iff.1 hx').1
            omega
          rw [Array.getElem?_append_right (by simp; omega)] at hv
          simp only [List.size_toArray, ho1] at hv
          rw [Array.getElem?_append_left (by rw [hzc]; omega)] at hv
          rw [List.map_replicate] at hx'
          obtain ⟨q, q1, q2⟩ := flat_rep (s := s) (by simp [hzl]) hfz hx'
          have hq : q < zs.length := by have := Nat.mod_lt (j - n0 * s) hs1; omega
          simp only [List.getElem?_map, Option.map_eq_some_iff] at q1
          obtain ⟨u, q3, rfl⟩ := q1
          have hz3 : zv.cells.size = s := hz2
          have hvu : v = u := by
            unfold Builtin.zeroCells at hv
            rw [Array.getElem?_map, Array.getElem?_range, hz3, if_pos (by simpa [hz3] using hjk)] at hv
            simp only [Option.map_some, Option.some.injEq] at hv
            rw [← hv, ← q2]
            rw [← j3, Array.getElem?_toList] at q3
            simp [getElem!_def, q3]
          rw [hvu]
          exact hab _ _ _)
    exact ⟨(), g', w1, w2, .hs w3 (fun _ => ⟨rfl, rfl, rfl, by omega⟩)⟩
/-- Texts, and all else as it is. -/
def absT : Value → D
  | .string s => .str s.data.toList
  | v => .raw v
theorem RepD.absT (Pr : Nat → Nat → Prop) (w : World) (v : Value) : RepD Pr w (Ab.absT v) v := by
  unfold Ab.absT
  split
  · rename_i s; exact .str s.data.toList
  · exact .raw _
end
end
section
/- Calls that take a list over and hand one back, where the order is open. Conditions: none. -/
open Go Go.RowKit

/-- A function that takes a list over and hands one back: it has the number of a free entry. -/
theorem FnT.atR {P : Program} {f : FuncId} {ds : List D} {l l2 : List D} {e e2 : TypeId} {s s2 len len2 id res : Nat} {H : List HE} (h : ACall P f (.hs 0 0 len s :: ds.map .d) [.lst l e s] fun r H' => r = resOf [.hs 1 0 len2 s2] ∧ H' = [.dead, .lst l2 e2 s2])
    (hid : H[id]? = some (.lst l e s)) (hfr : H[res]? = some .free) :
    ACall P f (.hs id 0 len s :: ds.map .d) H fun r H' => r = .hs res 0 len2 s2 ∧ H' = (H.set id .dead).set res (.lst l2 e2 s2) := by
  intro g w vals hw hs ha
  let g0 : G := { σ := fun i => if i = 0 then g.σ id else none, τ := fun i => if i = 0 then g.τ id else none, υ := fun _ _ => False, X := fun b => g.blk id (.lst l e s) b, Pr := g.Pr }
  have hgX : ∀ b, g0.X b → g.X b := fun b hb => hw.blk id _ b hid hb
  have hz : ∀ {i : Nat} {x : HE}, [HE.lst l e s][i]? = some x → i = 0 ∧ x = .lst l e s := fun {i x} hx => by
    rcases i with _ | i
    · exact ⟨rfl, by simpa using hx.symm⟩
    · simp at hx
  have hw0 : WOK g0 w [.lst l e s] := by
    refine ⟨hw.pr, fun b hb => hw.xs b (hgX b hb), fun i x b hx hb => ?_, fun i i' x x' b hx hx' _ _ => ?_, fun i c hx => ?_, fun i n e1 s1 hx => ?_, fun i l1 e1 s1 hx => ?_, fun i x hx => ?_, fun i hi => ?_, fun x hx => ⟨fun hc => (hw.kc x hx).1 (hgX _ hc), (hw.kc x hx).2⟩⟩
    · obtain ⟨rfl, rfl⟩ := hz hx
      simpa [G.blk, g0] using hb
    · rw [(hz hx).1, (hz hx').1]
    · cases (hz hx).2
    · cases (hz hx).2
    · obtain ⟨rfl, hq⟩ := hz hx
      injection hq with q1 q2 q3
      subst q1; subst q2; subst q3
      obtain ⟨a, cap, k1, k2, k3, k4⟩ := hw.lst id _ _ _ hid
      refine ⟨a, cap, by simpa [g0] using k1, k2, k3, fun hc => ?_⟩
      obtain ⟨b, arr, p1, p2, p3⟩ := k4 hc
      exact ⟨b, arr, p1, by simpa [g0] using p2, p3⟩
    · cases (hz hx).2
    · have : i ≠ 0 := by
        rcases hi with hi | hi
        · intro h0; subst h0; simp at hi
        · simp at hi; omega
      simp [g0, this]
  have ha0 : ∀ (i : Nat) x v, (V.hs 0 0 len s :: ds.map V.d)[i]? = some x → vals[i]? = some v → Rep g0 w x v := by
    intro i x v hx hv
    rcases i with _ | i
    · have := ha 0 _ v rfl hv
      simp only [List.getElem?_cons_zero, Option.some.injEq] at hx
      subst hx
      cases this with
      | hs ht heq => exact .hs (by simpa [g0] using ht) heq
    · have := ha (i + 1) x v (by simpa using hx) hv
      simp only [List.getElem?_cons_succ, List.getElem?_map, Option.map_eq_some_iff] at hx
      obtain ⟨y, _, rfl⟩ := hx
      cases this with
      | d hd => exact .d hd
  refine (h g0 w vals hw0 (by simpa using hs) ha0).mono ?_
  rintro e' w' ⟨rv, r, g', H', rfl, hw', he, hr, rfl, rfl⟩
  have keep : ∀ b, b < w.heap.size → ¬ g0.X b → w'.heap[b]? = w.heap[b]? := fun b hb hx => he.keep b hb hx
  have hreslt : res < H.length := (List.getElem?_eq_some_iff.1 hfr).1
  have hidlt : id < H.length := (List.getElem?_eq_some_iff.1 hid).1
  have hne : id ≠ res := fun e => by subst e; rw [hfr] at hid; cases hid
  have hget : ∀ (i : Nat) x, ((H.set id .dead).set res (.lst l2 e2 s2))[i]? = some x → (i = res ∧ x = .lst l2 e2 s2) ∨ (i = id ∧ x = .dead) ∨ (i ≠ res ∧ i ≠ id ∧ H[i]? = some x) := by
    intro i x hx
    by_cases hi : i = res
    · subst hi; rw [List.getElem?_set_self (by simpa using hreslt)] at hx; exact .inl ⟨rfl, (Option.some.inj hx).symm⟩
    · rw [List.getElem?_set_ne (Ne.symm hi)] at hx
      by_cases hi2 : i = id
      · subst hi2; rw [List.getElem?_set_self hidlt] at hx; exact .inr (.inl ⟨rfl, (Option.some.inj hx).symm⟩)
      · rw [List.getElem?_set_ne (Ne.symm hi2)] at hx; exact .inr (.inr ⟨hi, hi2, hx⟩)
  obtain ⟨hfσ, hfτ, hfυ⟩ := hw.free res (.inl hfr)
  let g2 : G := { σ := fun i => if i = res then g'.σ 1 else g.σ i, τ := fun i => if i = res then g'.τ 1 else g.τ i, υ := g.υ, X := fun b => g.X b ∨ g'.X b, Pr := g'.Pr }
  have hX' : ∀ b, g'.X b → g0.X b ∨ w.heap.size ≤ b := fun b hb => he.x b hb
  have hold : ∀ b o, g'.Pr b o → b < w.heap.size → ¬ g0.X b → g.Pr b o := by
    intro b o hp hb hx
    rcases he.prn b o hp with h1 | h1 | h1
    · exact h1
    · exact (hx h1).elim
    · omega
  have hτne : ∀ i, i ≠ res → g2.τ i = g.τ i := fun i hi => by simp [g2, hi]
  have hσne : ∀ i, i ≠ res → g2.σ i = g.σ i := fun i hi => by simp [g2, hi]
  have hsep : ∀ (i : Nat) x b, i ≠ id → H[i]? = some x → g.blk i x b → ¬ g0.X b := fun i x b hi hx hb hc => hi (hw.sep i id x _ b hx hid hb hc)
  have hev : Evo g w g2 w' := {
    same := he.same
    size := he.size
    pr := he.pr
    prn := fun b o hp => by
      rcases he.prn b o hp with h1 | h1 | h1
      · exact .inl h1
      · exact .inr (.inl (hgX b h1))
      · exact .inr (.inr h1)
    x := fun b hb => by
      rcases hb with hb | hb
      · exact .inl hb
      · exact (hX' b hb).imp (hgX b) (fun h => h)
    keep := fun b hb hx => keep b hb (fun hc => hx (hgX b hc))
    σ := fun i b h => by
      have hi : i ≠ res := fun e => by subst e; rw [hfσ] at h; cases h
      rw [hσne i hi]; exact h
    τ := fun i m a cap h => by
      have hi : i ≠ res := fun e => by subst e; rw [hfτ] at h; cases h
      exact ⟨m, a, cap, by rw [hτne i hi]; exact h, .inr ⟨rfl, rfl, rfl⟩⟩ }
  have hblk : ∀ (i : Nat) x b, ((H.set id .dead).set res (.lst l2 e2 s2))[i]? = some x → g2.blk i x b →
      (i ≠ res ∧ H[i]? = some x ∧ g.blk i x b ∧ b < w.heap.size ∧ ¬ g0.X b) ∨ (i = res ∧ g'.blk 1 (.lst l2 e2 s2) b ∧ g'.X b) := by
    intro i x b hx hb
    rcases hget i x hx with ⟨rfl, rfl⟩ | ⟨rfl, rfl⟩ | ⟨hi, hi2, h1⟩
    · have : g'.blk 1 (.lst l2 e2 s2) b := by simpa [G.blk, g2] using hb
      exact .inr ⟨rfl, this, hw'.blk 1 _ b (by simp) this⟩
    · simp [G.blk] at hb
    · have : g.blk i x b := by
        cases x <;> simp only [G.blk, hτne i hi, hσne i hi] at hb ⊢ <;> exact hb
      exact .inl ⟨hi, h1, this, hw.xs b (hw.blk i x b h1 this), hsep i x b hi2 h1 this⟩
  have hfar : ∀ b, g'.X b → b < w.heap.size → g0.X b := fun b hb hlt => (hX' b hb).resolve_right (by omega)
  refine ⟨rv, .hs res 0 len2 s2, g2, _, rfl, ⟨hw'.pr, ?_, ?_, ?_, ?_, ?_, ?_, ?_, ?_, hw.kcE hev⟩, hev, ?_, rfl, rfl⟩
  · rintro b (hb | hb)
    · exact Nat.lt_of_lt_of_le (hw.xs b hb) he.size
    · exact hw'.xs b hb
  · intro i x b hx hb
    rcases hblk i x b hx hb with ⟨_, h1, h2, _⟩ | ⟨_, _, h1⟩
    · exact .inl (hw.blk i x b h1 h2)
    · exact .inr h1
  · intro i i' x x' b hx hx' hb hb'
    rcases hblk i x b hx hb with ⟨_, h1, h2, h3, h4⟩ | ⟨h1, h2, h3⟩ <;> rcases hblk i' x' b hx' hb' with ⟨_, k1, k2, k3, k4⟩ | ⟨k1, k2, k3⟩
    · exact hw.sep i i' x x' b h1 k1 h2 k2
    · exact (h4 (hfar b k3 h3)).elim
    · exact (k4 (hfar b h3 k3)).elim
    · omega
  · intro i c hx
    rcases hget i _ hx with ⟨_, h⟩ | ⟨_, h⟩ | ⟨hi, hi2, h⟩
    · cases h
    · cases h
    · obtain ⟨b, arr, et, h1, h2, h3, h4, h5⟩ := hw.row i c h
      have hB : g.blk i (.row c) b := h1
      have hb : b < w.heap.size := hw.xs b (hw.blk i _ b h hB)
      have hx := hsep i _ b hi2 h hB
      exact ⟨b, arr, et, by rw [hσne i hi]; exact h1, (keep b hb hx).trans h2, h3, fun k x v hx hv => (h4 k x v hx hv).mono hev, fun o hp => h5 o (hold b o hp hb hx)⟩
  · intro i n e1 s1 hx
    rcases hget i _ hx with ⟨_, h⟩ | ⟨_, h⟩ | ⟨hi, hi2, h⟩
    · cases h
    · cases h
    · obtain ⟨a, cap, h1, h2, h2', h3⟩ := hw.tok i n e1 s1 h
      refine ⟨a, cap, by rw [hτne i hi]; exact h1, h2, h2', fun hlt => ?_⟩
      obtain ⟨b, arr, u1, u2, u3, u4⟩ := h3 hlt
      have hB : g.blk i (.tok n e1 s1) b := by simp [G.blk, h1, u1, hlt]
      have hb : b < w.heap.size := hw.xs _ (hw.blk i _ b h hB)
      have hx := hsep i _ b hi2 h hB
      exact ⟨b, arr, u1, (keep _ hb hx).trans u2, u3, fun o hp => u4 o (hold _ o hp hb hx)⟩
  · intro i l1 e1 s1 hx
    rcases hget i _ hx with ⟨rfl, h⟩ | ⟨_, h⟩ | ⟨hi, hi2, h⟩
    · injection h with q1 q2 q3
      subst q1; subst q2; subst q3
      obtain ⟨a, cap, k1, k2, k3, k4⟩ := hw'.lst 1 l1 e1 s1 (by simp)
      refine ⟨a, cap, by simpa [g2] using k1, k2, k3, fun hc => ?_⟩
      obtain ⟨b, arr, p1, p2, p3⟩ := k4 hc
      exact ⟨b, arr, p1, by simpa [g2] using p2, p3⟩
    · cases h
    · obtain ⟨a, cap, h1, h2, h2', h3⟩ := hw.lst i l1 e1 s1 h
      refine ⟨a, cap, by rw [hτne i hi]; exact h1, h2, h2', fun hlt => ?_⟩
      obtain ⟨b, arr, u1, u0, u2, u3, u4, u5⟩ := h3 hlt
      have hB : g.blk i (.lst l1 e1 s1) b := by simp [G.blk, h1, u1, hlt]
      have hb : b < w.heap.size := hw.xs _ (hw.blk i _ b h hB)
      have hx := hsep i _ b hi2 h hB
      exact ⟨b, arr, u1, by rw [hσne i hi]; exact u0, (keep _ hb hx).trans u2, u3, fun o hp => u4 o (hold _ o hp hb hx), fun k x v hx hv => (u5 k x v hx hv).mono hev.pr⟩
  · intro i x hx
    rcases hget i _ hx with ⟨_, h⟩ | ⟨_, h⟩ | ⟨hi, hi2, h⟩
    · cases h
    · cases h
    · obtain ⟨b, h1, h2, h3, h4⟩ := hw.ob i x h
      have hB : g.blk i (.ob x) b := .inl h1
      have hb : b < w.heap.size := hw.xs b (hw.blk i _ b h hB)
      have hx := hsep i _ b hi2 h hB
      have hbu : ∀ b', g.υ i b' → b' < w.heap.size := fun b' hu => hw.xs b' (hw.blk i _ b' h (.inr hu))
      have hxu : ∀ b', g.υ i b' → ¬ g0.X b' := fun b' hu => hsep i _ b' hi2 h (.inr hu)
      exact ⟨b, by rw [hσne i hi]; exact h1, x.st hev.w (hτne i hi) rfl (keep b hb hx) (fun b' hu => keep b' (hbu b' hu) (hxu b' hu)) h2, fun o hp => h3 o (hold b o hp hb hx), fun b' o hu hp => h4 b' o hu (hold b' o hp (hbu b' hu) (hxu b' hu))⟩
  · intro i hi
    have : i ≠ res ∧ (H[i]? = some .free ∨ H.length ≤ i) := by
      rcases hi with hi | hi
      · rcases hget i _ hi with ⟨_, h⟩ | ⟨_, h⟩ | ⟨h1, _, h2⟩
        · cases h
        · cases h
        · exact ⟨h1, .inl h2⟩
      · simp at hi; exact ⟨by omega, .inr (by omega)⟩
    rw [hτne i this.1, hσne i this.1]
    exact hw.free i this.2
  · simp only [resOf] at hr
    cases hr with
    | hs ht heq => exact .hs (by simpa [g2] using ht) heq

section
variable {P : Program} {ρ : Operand → V} {H : List HE} {ty : TypeId}
theorem op_callOwn {fop : Operand} {f : FuncId} {x : Operand} {xs : List Operand} {ts : Array TypeId} {ds : List D} {l l2 : List D} {e e2 : TypeId} {s s2 len len2 id res : Nat} (hc : ∀ (a : Array Value) (w : World), (callFunc f a).run P w = .ok (.enter f a) w)
    (hf : Is (ρ fop) (.fn (.func f) [])) (hx : Is (ρ x) (.hs id 0 len s)) (ha : ArgsW ρ xs (ds.map .d)) (h : ACall P f (.hs 0 0 len s :: ds.map .d) [.lst l e s] fun r H' => r = resOf [.hs 1 0 len2 s2] ∧ H' = [.dead, .lst l2 e2 s2])
    (hid : H[id]? = some (.lst l e s)) (hfr : H[res]? = some .free) : OpV P (.call ⟨.value fop, (x :: xs).toArray, ts⟩) ty ρ H (.hs res 0 len2 s2) ((H.set id .dead).set res (.lst l2 e2 s2)) :=
  op_callW hc hf (.i hx ha) (FnT.atR h hid hfr)
end
end
end Go.Proofs.YtkdefjliknpliaaGreatDoor.Ab
