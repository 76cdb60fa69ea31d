/- Plain laws, joined. Conditions: none. -/
import Derived.Test.YtkdefjliknpliaaGreatDoorAb24
import Derived.Lib.Overlaps
import Derived.Lib.AppendZerosOnto
import Derived.Laws.StructEq
import Derived.KernelRfl
namespace Go.Proofs.YtkdefjliknpliaaGreatDoor.Ab
section
/- Lists that may have room behind their last element: capacity, a piece into the spare room, copies within a list, zeros that are appended to a piece without room. Conditions: none. -/
open Go

/-- As OpV, where the value and the heap behind it may depend on the run, and with what is known since the function was entered. -/
def OpVX (F : FC) {α : Type} (o : Op) (ty : TypeId) (ρ : Operand → V) (H : List HE) (v : α → V) (H' : α → List HE) : Prop :=
  ∀ g w r pos after guard dst, WOK g w H → Evo F.g0 F.w0 g w → (∀ x, x ∈ o.operands → Rep g w (ρ x) (r x)) →
    OpRuns F.P ⟨dst, o, ty, pos, after, guard⟩ r w fun rv w' => ∃ u g', WOK g' w' (H' u) ∧ Evo g w g' w' ∧ Rep g' w' (v u) rv
theorem AL.sX {F : FC} {K : St → Prop} {ops : Array Oper} {dst : Option Nat} {o : Op} {ty : TypeId} {pos : String} {after : Array Edge} {rest : List Oper} {α : Type} {v : α → V} {E : Nat → V} {H : List HE} {H' : α → List HE}
    (hd : dlt dst F.n = true) (h : OpVX F o ty (Ab.ρ E) H v H') (k : ∀ u, AL F ops K rest ⟨updO E dst (v u), H' u⟩) : AL F ops K (⟨dst, o, ty, pos, after, none⟩ :: rest) ⟨E, H⟩ := by
  have hd := dlt_lt hd
  rintro a w ⟨h1, h2, g, h3, h4, h5⟩
  simp only [wpL, Region.wanted, if_true]
  refine OpRuns.wp (h g w a.eval pos after none dst h3 h4 (fun x _ => Rep.eval h5 x)) ?_
  rintro rv w' ⟨u, g', hw', he, hr⟩
  exact k u _ _ (Sim.put h1 h2 h4 h5 hd hw' he hr)

section
variable {F : FC} {ρ : Operand → V} {H : List HE} {ty : TypeId}
theorem capOf {g : G} {w : World} {id c s : Nat} {a : Option Addr} {l : List D} {e : TypeId} (hg : F.g0.τ id = some (0, a, c)) (he : Evo F.g0 F.w0 g w) (hw : WOK g w H) (hH : H[id]? = some (.lst l e s)) : g.τ id = some (0, a, c) := by
  obtain ⟨m', a', c', h1, h2⟩ := he.τ id 0 a c hg
  obtain ⟨ad, cap, k1, _, _, k4⟩ := hw.lst id l e s hH
  clear k4
  rw [h1] at k1; injection k1 with k1; injection k1 with k0 k1
  rcases h2 with h2 | ⟨h2, h3, h4⟩
  · omega
  · rw [h1, h2, h3, h4]

theorem op_cap {x : Operand} {t e id len s c bytes : Nat} {a : Option Addr} {l : List D} (hg : F.g0.τ id = some (0, a, c)) (hx : Is (ρ x) (.hs id 0 len s)) (hH : H[id]? = some (.lst l e s)) (ht : SlT F.P t e s bytes) :
    OpVX F (α := Unit) (.call ⟨.builtin .cap, #[x], #[t]⟩) ty ρ H (fun _ => .d (.int .i64 (c : Int))) (fun _ => H) := by
  intro g w r pos after guard dst hw he h
  have hτ := capOf hg he hw hH
  have h1 := hx.rep (h x (by simp [Op.operands, Call.operands]))
  generalize hrx : r x = vx at h1
  cases h1 with
  | @hs _ _ _ _ m cap' n0 c0 a' a0 p1 p2 =>
    rw [hτ] at p1; injection p1 with p1; injection p1 with p1 p3; injection p3 with p3 p4
    obtain ⟨_, _, q3, _⟩ := hs0 (p2 p1.symm)
    subst p4; subst q3
    unfold OpRuns
    simp [execOp, resolve, invoke, builtin, Builtin.cap_, run_underlying ht.u, hrx, goInt]
    exact ⟨g, hw, .refl _ _, .d (.int _ _)⟩

/-- A piece that reaches one place behind the last element. -/
theorem op_up {x y : Operand} {t e id len c bytes : Nat} {a : Option Addr} {l : List D} (hg : F.g0.τ id = some (0, a, c)) (hx : Is (ρ x) (.hs id 0 len 1)) (hy : As (ρ y) (.int .i64 ((len + 1 : Nat) : Int))) (hH : H[id]? = some (.lst l e 1)) (hl : l.length = len)
    (h1 : ∀ x ∈ l, x.cells = [x]) (hc : len + 1 ≤ c) (ht : SlT F.P t e 1 bytes) :
    OpVX F (α := Value) (.slice t x none (some y) none) ty ρ H (fun _ => .hs id 0 (len + 1) 1) (fun u => H.set id (.lst (l ++ [.raw u]) e 1)) := by
  intro g w r pos after guard dst hw he h
  have hτ := capOf hg he hw hH
  have hxr := hx.rep (h x (by simp [Op.operands]))
  have hyr := hy.int (h y (by simp [Op.operands]))
  obtain ⟨ad, cap, k1, k2, k3, k4⟩ := hw.lst id l e 1 hH
  rw [hτ] at k1; injection k1 with k1; injection k1 with _ k1; injection k1 with k1 k1'
  subst k1; subst k1'
  obtain ⟨b, arr, rfl, q0, q2, q3, q4, q5⟩ := k4 (by omega)
  clear k4
  obtain ⟨ie, z, hie, hsz, _⟩ := ht.i
  generalize hrx : r x = vx at hxr
  cases hxr with
  | @hs _ _ _ _ m cap' n0 c0 a' a0 p1 p2 =>
    rw [hτ] at p1; injection p1 with p1; injection p1 with p1 p3; injection p3 with p3 p4
    obtain ⟨r1, r2, r3, r4⟩ := hs0 (p2 p1.symm)
    subst p3; subst p4; subst r1; subst r2; subst r3
    have hhi : (Instr.sliceBound (.int .i64 ((n0 : Int) + 1)) c0 .sliceAcap).run F.P w = .ok (n0 + 1) w := by
      simp only [Instr.sliceBound, asIntOf, Sem.run_bind, Sem.run_pure, Result.andThen_ok]
      rw [if_pos (by omega)]
      have : ((n0 : Int) + 1).toNat = n0 + 1 := by omega
      rw [this]; rfl
    have hrun : (execOp r ⟨dst, .slice t x none (some y) none, ty, pos, after, guard⟩).run F.P w = .ok (.value (.slice (some ⟨b, 0, none⟩) (n0 + 1) c0)) w := by
      simp [execOp, Instr.sliceAt, Instr.slice, Instr.sliceBounds, run_underlying ht.u, hrx, hyr, run_sizeOf' hie, hsz, hhi, Addr.add]
    unfold OpRuns
    rw [hrun]
    have harr : n0 < arr.size := by omega
    obtain ⟨u0, hu0⟩ : ∃ u, arr[n0]? = some u := ⟨_, Array.getElem?_eq_getElem harr⟩
    have key := WOK.storeLst (w' := w) (l' := l ++ [.raw u0]) (arr' := arr) hw hH hτ (by omega) q0 ⟨rfl, rfl, rfl⟩ rfl q2 (fun _ _ => rfl) (by simp; omega) q3 (fun k x v hx' hv => by
      rw [flat_append, flat_one h1] at hx'
      by_cases hk : k < l.length
      · rw [List.getElem?_append_left hk] at hx'
        exact q5 k x v (by rw [flat_one h1]; exact hx') hv
      · rw [List.getElem?_append_right (by omega)] at hx'
        have hk0 : k - l.length = 0 := by
          have := (List.getElem?_eq_some_iff.1 hx').1
          simp [D.flat, D.cells] at this; omega
        rw [hk0] at hx'
        simp [D.flat, D.cells] at hx'
        subst hx'
        have hkn : k = n0 := by omega
        rw [hkn, hu0] at hv
        injection hv with hv; subst hv
        exact .raw _)
    exact ⟨u0, g, key.1, key.2, .hs hτ (fun _ => ⟨rfl, rfl, rfl, by omega⟩)⟩

/-- Zeros that are appended to the beginning of a list that has no room for them: a new list. -/
theorem op_appendZ {α : Type} {f : α → D} {l : List α} {z : α} {x y : Operand} {t tn e id i c k res bytes : Nat} {a : Option Addr} {zs : List Value} {kn : IntKind} (hg : F.g0.τ id = some (0, a, c)) (hx : Is (ρ x) (.hs id 0 i 1)) (hy : As (ρ y) (.int .i64 (k : Int))) (hH : H[id]? = some (.lst (l.map f) e 1))
    (hi : i ≤ l.length) (h1 : ∀ x, (f x).cells = [f x]) (hc : c < i + k) (h0 : 0 < k) (ht : SlT F.P t e 1 bytes) (htn : F.P.underlying tn = some (.int kn)) (hz : Zr F.P e zs) (hfz : (f z).cells = zs.map absC) (hres : H[res]? = some .free)
    (hbytes : (i + k) * bytes ≤ 140737488355328) (hlen : i + k ≤ 4611686018427387904) :
    OpVX F (α := Unit) (.call ⟨.builtin .append, #[x, y], #[t, tn]⟩) ty ρ H (fun _ => .hs res 0 (i + k) 1) (fun _ => H.set res (.lst ((l.take i ++ List.replicate k z).map f) e 1)) := by
  intro g w r pos after guard dst hw he h
  have hτ := capOf hg he hw hH
  have hxr := hx.rep (h x (by simp [Op.operands, Call.operands]))
  have hyr := hy.int (h y (by simp [Op.operands, Call.operands]))
  obtain ⟨ad, cap, k1, k2, k3, k4⟩ := hw.lst id _ _ _ hH
  rw [hτ] at k1; injection k1 with k1; injection k1 with _ k1; injection k1 with k1 k1'
  subst k1; subst k1'
  simp only [List.length_map] at k2
  obtain ⟨ie, zv, hie, hsz, hby, hz1, hz2⟩ := ht.i
  obtain ⟨i', z', j1, j2, j3, j4⟩ := hz.z
  rw [hie] at j1; injection j1 with j1; subst j1
  rw [hz1] at j2; injection j2 with j2; subst j2
  have hzl : zs.length = 1 := by rw [← j3, Array.length_toList, hz2]
  generalize hrx : r x = vx at hxr
  cases hxr with
  | @hs _ _ _ _ m cap' n0 c0 a' a0 p1 p2 =>
    rw [hτ] at p1; injection p1 with p1; injection p1 with p1 p3; injection p3 with p3 p4
    obtain ⟨r1, r2, r3, r4⟩ := hs0 (p2 p1.symm)
    subst p3; subst p4; subst r1; subst r2; subst r3
    obtain ⟨olds, ho1, ho2, ho3⟩ : ∃ olds : List Value, olds.length = n0 ∧ (Builtin.firstCells ie.size n0 (.slice a0 n0 c0)).run F.P w.drew = .ok olds.toArray w.drew ∧
        (∀ (j : Nat) x v, (l.map f)[j]? = some x → olds[j]? = some v → RepD g.Pr w x v) := by
      rw [hsz]
      by_cases hn : n0 = 0
      · subst hn
        refine ⟨[], rfl, ?_, by simp⟩
        cases a0 with
        | none => simp [Builtin.firstCells]
        | some ad => exact run_firstCells_some (P := F.P) w.drew 1 0 ad _ _ [] (by simp) (by simp)
      · obtain ⟨b, arr, rfl, q0, q2, q3, q4, q5⟩ := k4 (by omega)
        refine ⟨arr.toList.take n0, by simp; omega, ?_, fun j x v hx' hv => ?_⟩
        · refine run_firstCells_some (P := F.P) w.drew 1 n0 ⟨b, 0, none⟩ _ _ _ (by simp; omega) (fun j v hv => ?_)
          rw [Addr.add_none, Nat.zero_add]
          show w.cell? _ = _
          rw [cell_of_cells q2]
          rw [List.getElem?_take] at hv
          split at hv
          · rwa [Array.getElem?_toList] at hv
          · cases hv
        · rw [List.getElem?_take] at hv
          split at hv
          · rw [Array.getElem?_toList] at hv
            exact q5 j x v (by rw [flat_one1 h1]; exact hx') hv
          · cases hv
    have hrun0 := Lib.run_append_grow_zeros (P := F.P) w t tn ty e ie zv .i64 kn ht.u htn hie hz1 a0 n0 c0 olds ho2 k h0 (by omega) hc (by omega) (by rw [hby]; exact Nat.le_trans (Nat.mul_le_mul_right bytes (Nat.le_add_left k n0)) (by omega)) (by rw [hby]; exact growslice_fits hc hbytes)
    generalize hC : grownCap w (n0 + k) c0 e = C at hrun0
    have hC1 : n0 + k ≤ C := by rw [← hC]; exact grownCap_ge w (n0 + k) c0 e
    have hC2 : C ≤ 9223372036854775807 := by
      rw [← hC]
      have := grownCap_le_maxLen w (n0 + k) c0 e (by simp only [maxLen]; omega)
      simpa [maxLen] using this
    have hrun : (execOp r ⟨dst, .call ⟨.builtin .append, #[x, y], #[t, tn]⟩, ty, pos, after, guard⟩).run F.P w = .ok (.value (.slice (some ⟨w.heap.size, 0, none⟩) (n0 + k) C)) (w.drew.alloc (.cells (olds.toArray ++ Builtin.zeroCells zv.cells k ++ Builtin.zeroCells zv.cells (C - (n0 + k))) e)) := by
      simp [execOp, resolve, invoke, builtin, hrx, hyr, hrun0]
    unfold OpRuns
    rw [hrun]
    have hzc : ∀ m, (Builtin.zeroCells zv.cells m).size = m := fun m => by simp [Builtin.zeroCells, hz2]
    obtain ⟨g', w1, w2, w3⟩ := hw.newLst (w' := w.drew.alloc (.cells (olds.toArray ++ Builtin.zeroCells zv.cells k ++ Builtin.zeroCells zv.cells (C - (n0 + k))) e)) (id := res) (l := (l.take n0 ++ List.replicate k z).map f) (s := 1) (cap := C)
      (arr := olds.toArray ++ Builtin.zeroCells zv.cells k ++ Builtin.zeroCells zv.cells (C - (n0 + k))) (et := e) hres ⟨rfl, rfl, rfl⟩ rfl (by simp; omega) hC2 (by simp [hzc, ho1]; omega) (fun j x v hx' hv => by
        rw [flat_one1 h1, List.map_append] at hx'
        rw [Array.append_assoc] at hv
        have l1 : ((l.take n0).map f).length = n0 := by simp; omega
        by_cases hj : j < n0
        · rw [List.getElem?_append_left (by omega)] at hx'
          rw [Array.getElem?_append_left (by simp; omega)] at hv
          have hx2 : (l.map f)[j]? = some x := by
            rw [List.map_take, List.getElem?_take, if_pos hj] at hx'; exact hx'
          exact ho3 j x v hx2 (by simpa using hv)
        · rw [List.getElem?_append_right (by omega), l1] at hx'
          have hjk : j - n0 < k := by
            have := (List.getElem?_eq_some_iff.1 hx').1
            simpa using this
          rw [Array.getElem?_append_right (by simp; omega)] at hv
          simp only [List.size_toArray, ho1] at hv
          rw [Array.getElem?_append_left (by rw [hzc]; omega)] at hv
          have hxz : x = f z := by
            simp [hjk] at hx'
            exact hx'.symm
          subst hxz
          have hzs : zv.cells.toList = zs := j3
          obtain ⟨u, hu⟩ : ∃ u, zs = [u] := List.length_eq_one_iff.1 hzl
          have hvu : v = u := by
            have hz3 : zv.cells = #[u] := by rw [← Array.toList_inj, hzs, hu]
            rw [hz3] at hv
            simp [Builtin.zeroCells] at hv
            obtain ⟨q, hq1, hq2⟩ := hv
            rw [Nat.mod_one] at hq2
            simpa using hq2.symm
          subst hvu
          have h2 := hfz
          rw [hu, h1] at h2
          simp at h2
          rw [h2]
          exact RepD.absC _ _ _)
    exact ⟨(), g', w1, w2, .hs w3 (fun _ => ⟨rfl, rfl, rfl, by omega⟩)⟩
end

section
variable {P : Program} {ρ : Operand → V} {H : List HE} {ty : TypeId}
/-- A copy within one list. -/
theorem op_copySelf {L src : List D} {x y : Operand} {dT sT e bytes id lo len lo2 len2 n : Nat} (hL : ∀ x ∈ L, x.cells = [x]) (hx : Is (ρ x) (.hs id lo len 1)) (hy : Is (ρ y) (.hs id lo2 len2 1)) (hH : H[id]? = some (.lst L e 1)) (hlen : lo + len ≤ L.length) (hlen2 : lo2 + len2 ≤ L.length)
    (hn : n = min len2 len) (hsrc : src = (L.drop lo2).take n) (hone : ∀ x ∈ src, x.one = true) (ht : SlT P dT e 1 bytes) :
    OpV P (.call ⟨.builtin .copy, #[x, y], #[dT, sT]⟩) ty ρ H (.d (.int .i64 (n : Int))) (H.set id (.lst (L.take lo ++ src ++ L.drop (lo + n)) e 1)) := by
  intro g w rr pos after guard dst hw h
  have hxr := hx.rep (h x (by simp [Op.operands, Call.operands]))
  have hyr := hy.rep (h y (by simp [Op.operands, Call.operands]))
  obtain ⟨ad, cap, k1, k2, k3, k4⟩ := hw.lst id _ _ _ hH
  obtain ⟨ie, z, hie, hsz, _⟩ := ht.i
  have hidlt : id < H.length := (List.getElem?_eq_some_iff.1 hH).1
  have hsl : src.length = n := by rw [hsrc]; simp; omega
  generalize hr : rr x = u at hxr
  generalize hr2 : rr y = u2 at hyr
  cases hxr with
  | @hs _ _ _ _ m' cap' n0 c0 a' a0 p1 p2 =>
    cases hyr with
    | @hs _ _ _ _ m'' cap'' n1 c1 a'' a1 p1' p2' =>
      rw [k1] at p1; injection p1 with p1; injection p1 with p1 p3; injection p3 with p3 p4
      rw [k1] at p1'; injection p1' with p1'; injection p1' with p1' p3'; injection p3' with p3' p4'
      obtain ⟨r1, r2, r3, r4⟩ := p2 p1.symm
      obtain ⟨s1, s2, s3, s4⟩ := p2' p1'.symm
      subst p3; subst p4; subst p3'; subst p4'; subst r2; subst s2
      by_cases hn0 : n = 0
      · clear k4
        have hs0 : src = [] := List.eq_nil_of_length_eq_zero (by omega)
        have hset : H.set id (.lst (L.take lo ++ src ++ L.drop (lo + n)) e 1) = H := by
          rw [hs0, hn0, List.append_nil, Nat.add_zero, List.take_append_drop]
          apply List.ext_getElem?
          intro i
          by_cases hi : i = id
          · subst hi; rw [List.getElem?_set_self hidlt, hH]
          · rw [List.getElem?_set_ne (Ne.symm hi)]
        have hmin : Nat.min n1 n0 = 0 := by rw [hn0] at hn; exact hn.symm
        have hfc : (Builtin.firstCells 1 0 (.slice a1 n1 c1)).run P w = .ok #[] w := by
          cases a1 with
          | none => simp [Builtin.firstCells]
          | some ad => exact run_firstCells_some (P := P) w 1 0 ad _ _ [] (by simp) (by simp)
        have hrun : (execOp rr ⟨dst, .call ⟨.builtin .copy, #[x, y], #[dT, sT]⟩, ty, pos, after, guard⟩).run P w = .ok (.value (.int .i64 (n : Int))) w := by
          rw [hn0]
          cases a0 <;> simp [execOp, resolve, invoke, builtin, Builtin.copy_, Builtin.lenOf, run_underlying ht.u, hr, hr2, hmin, run_sizeOf' hie, hsz, hfc, storeCells, goInt]
        unfold OpRuns
        rw [hrun, hset]
        exact ⟨g, hw, .refl _ _, .d (.int _ _)⟩
      · have hcap : 0 < cap := by omega
        obtain ⟨b, arr, rfl, q0, q2, q3, q4, q5⟩ := k4 hcap
        clear k4
        have hsub : ∀ lo, lo < cap → subA (some (⟨b, 0, none⟩ : Addr)) cap lo 1 = some ⟨b, lo, none⟩ := fun lo hlo => by
          unfold subA
          by_cases h0 : lo = 0
          · rw [if_pos h0, h0]
          · rw [if_neg h0, if_neg (by omega)]; simp [Addr.add_none]
        rw [hsub lo (by omega)] at r1
        rw [hsub lo2 (by omega)] at s1
        subst r1; subst s1
        let cs := (arr.toList.drop lo2).take n
        have hcl : cs.length = n := by simp [cs]; omega
        have hcs : ∀ (j : Nat) v, cs[j]? = some v → arr[lo2 + j]? = some v := fun j v hv => by
          simp only [cs, List.getElem?_take, List.getElem?_drop, Array.getElem?_toList] at hv
          split at hv
          · exact hv
          · cases hv
        have hrepc : ∀ (j : Nat) x v, src[j]? = some x → cs[j]? = some v → RepD g.Pr w x v := fun j x v hx' hv => by
          have h2 := hcs j v hv
          rw [hsrc, List.getElem?_take, List.getElem?_drop] at hx'
          split at hx'
          · exact q5 (lo2 + j) x v (by rw [flat_one hL]; exact hx') h2
          · cases hx'
        have hone' : ∀ u ∈ cs, u.oneCell' = true := fun u hu => by
          obtain ⟨j, hj⟩ := List.getElem?_of_mem hu
          have hjn : j < n := by have := (List.getElem?_eq_some_iff.1 hj).1; omega
          have hsj : src[j]? = some (src[j]'(by omega)) := List.getElem?_eq_getElem (by omega)
          exact (hrepc j _ u hsj hj).one (hone _ (List.getElem_mem _))
        have hfit : lo + cs.length ≤ arr.size := by omega
        have hst := run_storeCells_at P b lo e cs 0 arr w q2 (by omega) hone'
        have hfc : (Builtin.firstCells 1 n (.slice (some ⟨b, lo2, none⟩) n1 c1)).run P w = .ok cs.toArray w :=
          run_firstCells_some (P := P) w 1 n ⟨b, lo2, none⟩ _ _ _ (by omega) (fun j v hv => by
            rw [Addr.add_none, cell_of_cells q2]; exact hcs j v hv)
        have hmin : Nat.min n1 n0 = n := hn.symm
        have hrun : (execOp rr ⟨dst, .call ⟨.builtin .copy, #[x, y], #[dT, sT]⟩, ty, pos, after, guard⟩).run P w = .ok (.value (.int .i64 (n : Int))) (w.setRow b (arr.toList.take (lo + 0) ++ cs ++ arr.toList.drop (lo + 0 + cs.length)).toArray) := by
          simp [execOp, resolve, invoke, builtin, Builtin.copy_, Builtin.lenOf, run_underlying ht.u, hr, hr2, hmin, run_sizeOf' hie, hsz, hfc, hst, goInt]
        unfold OpRuns
        rw [hrun]
        have l1 : (L.take lo).length = lo := by simp; omega
        have l2 : (List.take lo arr.toList).length = lo := by simp; omega
        have hall : ∀ x ∈ L.take lo ++ src ++ L.drop (lo + n), x.cells = [x] := fun x hx' => by
          simp only [List.mem_append] at hx'
          rcases hx' with (h | h) | h
          · exact hL x (List.mem_of_mem_take h)
          · rw [hsrc] at h; exact hL x (List.mem_of_mem_drop (List.mem_of_mem_take h))
          · exact hL x (List.mem_of_mem_drop h)
        have key := WOK.storeLst (w' := w.setRow b (arr.toList.take (lo + 0) ++ cs ++ arr.toList.drop (lo + 0 + cs.length)).toArray) (l' := L.take lo ++ src ++ L.drop (lo + n))
          (arr' := (arr.toList.take (lo + 0) ++ cs ++ arr.toList.drop (lo + 0 + cs.length)).toArray) hw hH k1 hcap q0 ⟨rfl, rfl, rfl⟩ (setRow_size w b _) (setRow_heap w b arr _ e _ q2) (fun b'' hne => setRow_other w b b'' _ hne)
          (by simp; omega) (by simp; omega) (fun k x u hx' hu' => by
            rw [flat_one hall] at hx'
            simp only [Nat.add_zero, List.getElem?_toArray] at hu'
            rw [List.append_assoc] at hx' hu'
            by_cases hk : k < lo
            · rw [List.getElem?_append_left (by omega), List.getElem?_take, if_pos hk] at hx'
              rw [List.getElem?_append_left (by omega), List.getElem?_take, if_pos hk, Array.getElem?_toList] at hu'
              exact q5 k _ u (by rw [flat_one hL]; exact hx') hu'
            · rw [List.getElem?_append_right (by omega), l1] at hx'
              rw [List.getElem?_append_right (by omega), l2] at hu'
              by_cases hk2 : k - lo < n
              · rw [List.getElem?_append_left (by omega)] at hx' hu'
                exact hrepc _ x u hx' hu'
              · rw [List.getElem?_append_right (by omega), hsl, List.getElem?_drop] at hx'
                rw [List.getElem?_append_right (by omega), hcl, List.getElem?_drop, Array.getElem?_toList] at hu'
                exact q5 _ _ u (by rw [flat_one hL]; exact hx') hu')
        exact ⟨g, key.1, key.2, .d (.int _ _)⟩

/-- slices.overlaps of data and a list. -/
theorem op_overlaps {fop x y : Operand} {f : FuncId} {ts : Array TypeId} {tS tR e bytes id lo len : Nat} {l L : List D}
    (hc : ∀ (a : Array Value) (w : World), (callFunc f a).run P w = ((Extern.SlicesOverlaps.overlaps #[tS, tS] #[tR] a).run P w).andThen fun v w' => .ok (.value v) w')
    (hf : Is (ρ fop) (.fn (.func f) [])) (hx : As (ρ x) (.sl l)) (hy : Is (ρ y) (.hs id lo len 1)) (hH : H[id]? = some (.lst L e 1)) (hlen : lo + len ≤ L.length) (hpos : 0 < len) (hl : ∀ x ∈ l, x.cells.length = 1) (hone : ∀ x ∈ l, ∀ y ∈ x.cells, y.one = true) (hne : l ≠ []) (ht : SlT P tS e 1 bytes) :
    OpV P (.call ⟨.value fop, #[x, y], ts⟩) ty ρ H (.d (.bool false)) H := by
  intro g w rr pos after guard dst hw h
  have hxr := hx.rep (h x (by simp [Op.operands, Call.operands]))
  have hyr := hy.rep (h y (by simp [Op.operands, Call.operands]))
  have hfr := hf.rep (h fop (by simp [Op.operands, Call.operands]))
  obtain ⟨ad, cap, k1, k2, k3, k4⟩ := hw.lst id _ _ _ hH
  obtain ⟨ie, z, hie, hsz, _⟩ := ht.i
  obtain ⟨b', o', cap', f', hra, _, hk', _, _⟩ := hxr.slCells hl hone hne
  generalize hr2 : rr y = u2 at hyr
  cases hyr with
  | @hs _ _ _ _ m'' cap'' n1 c1 a'' a1 p1' p2' =>
    rw [k1] at p1'; injection p1' with p1'; injection p1' with p1' p3'; injection p3' with p3' p4'
    obtain ⟨s1, s2, s3, s4⟩ := p2' p1'.symm
    subst p3'; subst p4'; subst s2
    obtain ⟨b, arr, rfl, q0, q2, q3, q4, q5⟩ := k4 (by omega)
    clear k4
    have hsub : a1 = some ⟨b, lo, none⟩ := by
      rw [s1]; unfold subA
      by_cases h0 : lo = 0
      · rw [if_pos h0, h0]
      · rw [if_neg h0, if_neg (by omega)]; simp [Addr.add_none]
    subst hsub
    have hlp : 0 < l.length := List.length_pos_iff.2 hne
    obtain ⟨hp0, hc0⟩ := hk' 0 (by omega)
    have hbne : b' ≠ b := fun e => by subst e; exact q4 _ hp0
    obtain ⟨arrA, etA, frA, hA⟩ : ∃ arrA etA frA, w.heap[b']? = some (.cells arrA etA frA) := by
      unfold World.cell? at hc0
      split at hc0
      · rename_i c1 c2 c3 hh; exact ⟨c1, c2, c3, hh⟩
      · cases hc0
    have hkA : arrA.size ≠ 0 := by
      intro h0
      have := hc0
      rw [cell_of_cells hA] at this
      rw [Array.getElem?_eq_none (by omega)] at this
      cases this
    have hsa : w.shape? b' = some (etA, arrA.size) := by simp [World.shape?, hA]
    have hsb : w.shape? b = some (e, arr.size) := by simp [World.shape?, q2]
    have hfb : ∀ o, w.frozen? ⟨b, o, none⟩ = false := fun o => by simp [World.frozen?, q2]
    have hov : (Extern.SlicesOverlaps.overlaps #[tS, tS] #[tR] #[.slice (some ⟨b', o', none⟩) l.length cap', .slice (some ⟨b, lo, none⟩) n1 c1]).run P w = .ok (.bool false) w := by
      have hnb : (b' != b) = true := by simpa using hbne
      have hnb' : (b' == b) = false := by simpa using hbne
      have hsize : ∀ w, (Go.sizeOf e).run P w = .ok 1 w := fun w => by rw [run_sizeOf' hie, hsz]
      change Sem.run P (α := Value) (do
        let some t := (#[tS, tS] : Array TypeId)[0]? | stuck "slices.overlaps: no parameter types"
        let .slice elem ← underlying t | stuck "slices.overlaps: slice type expected"
        let size ← sizeOf elem
        match (some (⟨b', o', none⟩ : Addr) : Option Addr), (some (⟨b, lo, none⟩ : Addr) : Option Addr) with
        | some a, some b =>
          if l.length = 0 ∨ n1 = 0 ∨ size = 0 then pure (Value.bool false)
          else if a.block != b.block && (← frozen a) && (← frozen b) then unsupported .addressObserved
          else do
            if a.block != b.block then do
              noView a; noView b
              if ← mayBeOne a b then return Value.bool ((← choose (.extern "sameAddr.stringBytes" 2)) == 1)
            pure (Value.bool (a.block == b.block && a.off < b.off + n1 * size && b.off < a.off + l.length * size))
        | _, _ => pure (Value.bool false)) w = _
      have hkB : arr.size ≠ 0 := by omega
      obtain ⟨kA, hkA'⟩ : ∃ k, arrA.size = k + 1 := ⟨arrA.size - 1, by omega⟩
      obtain ⟨kB, hkB'⟩ : ∃ k, arr.size = k + 1 := ⟨arr.size - 1, by omega⟩
      rw [hkA'] at hsa; rw [hkB'] at hsb
      have e1 : ¬ (l.length = 0) := by omega
      have e2 : ¬ (n1 = 0) := by omega
      cases hfa1 : w.frozen? ⟨b', o', none⟩ <;> cases hfa2 : w.frozen? ⟨b', kA + 1, none⟩ <;>
        simp [run_underlying ht.u, hsize, hne, e2, hnb, hnb', frozen, noView, viewAt, mayBeOne, stringish, shape, Sem.run, hsa, hsb, hfb, hfa1, hfa2]
    generalize hrf : rr fop = fv at hfr
    cases hfr with
    | @fn _ _ arr2 hsz2 hrep2 =>
      have ha2 : arr2 = #[] := Array.eq_empty_of_size_eq_zero (by simpa using hsz2)
      subst ha2
      have hrun : (execOp rr ⟨dst, .call ⟨.value fop, #[x, y], ts⟩, ty, pos, after, guard⟩).run P w = .ok (.value (.bool false)) w := by
        simp [execOp, resolve, Deferred.ofValue, invoke, hrf, hra, hr2, hc, hov, Result.andThen_ok]
      unfold OpRuns
      rw [hrun]
      exact ⟨g, hw, .refl _ _, .d (.bool _)⟩
end

theorem cong2 {α β γ : Type} (f : α → β → γ) {a a' : α} {b b' : β} (h : a = a') (h' : b = b') : f a b = f a' b' := by rw [h, h']
theorem app1 {α : Type} {b : Nat} {l : List α} {x : α} (h : (l.length + 1) * b ≤ 140737488355328) (hb : l.length + 1 ≤ 4611686018427387904) : app b l [x] = some (l ++ [x]) := by
  unfold app; rw [if_pos ⟨h, hb⟩]
/-- slices.Insert of one element. -/
def insL {α : Type} (b : Nat) (l : List α) (i : Int) (v : List α) : Option (List α) :=
  match v with
  | [x] => if 0 ≤ i ∧ i ≤ l.length ∧ (l.length + 1) * b ≤ 140737488355328 ∧ l.length + 1 ≤ 4611686018427387904 then some (l.take i.toNat ++ x :: l.drop i.toNat) else none
  | _ => none
theorem insL_inv {α : Type} {b : Nat} {l v r : List α} {i : Int} (h : insL b l i v = some r) : ∃ (k : Nat) (x : α), i = (k : Int) ∧ v = [x] ∧ k ≤ l.length ∧ (l.length + 1) * b ≤ 140737488355328 ∧ l.length + 1 ≤ 4611686018427387904 ∧ r = l.take k ++ x :: l.drop k := by
  unfold insL at h
  split at h
  · split at h
    · rename_i x hc
      injection h with h
      exact ⟨i.toNat, x, by omega, rfl, by omega, hc.2.2.1, hc.2.2.2, h.symm⟩
    · cases h
  · cases h
theorem insL_eq {α : Type} {b : Nat} {l : List α} {k : Nat} {x : α} (h : k ≤ l.length) (hb : (l.length + 1) * b ≤ 140737488355328) (hl : l.length + 1 ≤ 4611686018427387904) : insL b l (k : Int) [x] = some (l.take k ++ x :: l.drop k) := by
  unfold insL
  simp only []
  rw [if_pos ⟨by omega, by omega, hb, hl⟩]; rfl
theorem slc_tail {α : Type} {l : List α} {i : Nat} {hi : Int} (h : i ≤ l.length) (hh : hi = (l.length : Int)) : slc l (i : Int) hi = some (l.drop i) := by
  subst hh
  unfold slc
  rw [if_pos ⟨by omega, by omega, by omega⟩]
  simp
theorem slc_head {α : Type} {l : List α} {i : Nat} (h : i ≤ l.length) : slc l (0 : Int) (i : Int) = some (l.take i) := by
  unfold slc
  rw [if_pos ⟨by omega, by omega, by omega⟩]
  simp
theorem cpy_grow0 {α : Type} (A B : List α) (x z : α) : cpyL (cpyL (A ++ List.replicate (B.length + 1) z) A.length (B.length + 1) [x]) (A.length + 1) B.length B = A ++ x :: B := by
  have e1 : cpyL (A ++ List.replicate (B.length + 1) z) A.length (B.length + 1) [x] = A ++ x :: List.replicate B.length z := by
    unfold cpyL
    simp [List.drop_append]
  rw [e1]
  unfold cpyL
  have q1 : List.take (A.length + 1) A = A := List.take_of_length_le (by omega)
  have q2 : List.drop (A.length + 1 + B.length) A = [] := List.drop_of_length_le (by omega)
  have q3 : A.length + 1 + B.length - A.length = B.length + 1 := by omega
  simp [List.take_append, List.drop_append, q1, q2, q3]
theorem cpy_grow {α : Type} {l : List α} {i : Nat} {x z : α} (h : i ≤ l.length) : cpyL (cpyL (l.take i ++ List.replicate (l.length + 1 - i) z) i (l.length + 1 - i) [x]) (i + 1) (l.length - i) (l.drop i) = l.take i ++ x :: l.drop i := by
  have h1 : (l.take i).length = i := by simp; omega
  have h2 : (l.drop i).length = l.length - i := by simp
  have := cpy_grow0 (l.take i) (l.drop i) x z
  rw [h1, h2, show l.length - i + 1 = l.length + 1 - i by omega] at this
  exact this
theorem cpy_room {α : Type} {l : List α} {i : Nat} {x : α} (h : i < l.length) : cpyL (l.take (i + 1) ++ l.drop i) i (l.length + 1 - i) [x] = l.take i ++ x :: l.drop i := by
  obtain ⟨A, y, B, rfl, rfl⟩ : ∃ A y B, l = A ++ y :: B ∧ i = A.length := ⟨l.take i, l[i], l.drop (i + 1), by simp, by simp; omega⟩
  unfold cpyL
  have q1 : List.take (A.length + 1) A = A := List.take_of_length_le (by omega)
  simp [List.take_append, List.drop_append, q1]
  have e1 : A.length + (B.length + 1) + 1 - A.length = B.length + 2 := by omega
  simp [e1]
end
section
/- Comparing rows of plain cells. Conditions: none. -/
open Go

section
variable {P : Program} {ρ : Operand → V} {H : List HE} {ty : TypeId}
/-- The beginning of a list, where the rest is given up. -/
theorem op_truncH {α : Type} {f : α → D} {l r : List α} {x : Operand} {t e s bytes id len : Nat} {hi : Int} {b : Option Operand} (hx : Is (ρ x) (.hs id 0 len s)) (hH : H[id]? = some (.lst (l.map f) e s)) (hl : l.length = len) (ht : SlT P t e s bytes) (hb : hiM ρ len b hi)
    (hv : slc l 0 hi = some r) : OpV P (.slice t x none b none) ty ρ H (.hs id 0 r.length s) (H.set id (.lst (r.map f) e s)) := by
  intro g w rr pos after guard dst hw h
  have h0 := op_sliceH (ty := ty) (a := none) hx hH hl ht rfl hb hv g w rr pos after guard dst hw h
  have hidlt : id < H.length := (List.getElem?_eq_some_iff.1 hH).1
  unfold OpRuns at h0 ⊢
  have hr : r = l.take hi.toNat := by
    unfold slc at hv
    split at hv
    · injection hv with hv; rw [← hv]; simp
    · cases hv
  revert h0
  generalize (execOp rr ⟨dst, .slice t x none b none, ty, pos, after, guard⟩).run P w = res
  have key : ∀ g' w', WOK g' w' H → WOK g' w' (H.set id (.lst (r.map f) e s)) ∧ Evo g' w' g' w' := by
    intro g' w' hw'
    obtain ⟨ad, cap, k1, k2, k3, k4⟩ := hw'.lst id _ _ _ hH
    by_cases hc : cap = 0
    · clear k4
      simp only [List.length_map] at k2
      have hl0 : l = [] := List.eq_nil_of_length_eq_zero (by omega)
      have hset : H.set id (.lst (r.map f) e s) = H := by
        rw [hr, hl0, List.take_nil]
        apply List.ext_getElem?
        intro i
        by_cases hi : i = id
        · subst hi; rw [List.getElem?_set_self hidlt, hH, hl0]
        · rw [List.getElem?_set_ne (Ne.symm hi)]
      rw [hset]; exact ⟨hw', .refl _ _⟩
    · obtain ⟨b, arr, rfl, q0, q2, q3, q4, q5⟩ := k4 (by omega)
      simp only [List.length_map] at k2
      refine WOK.storeLst (w' := w') (arr' := arr) hw' hH k1 (by omega) q0 ⟨rfl, rfl, rfl⟩ rfl q2 (fun _ _ => rfl) (by rw [hr]; simp; omega) q3 (fun k x v hx' hv' => q5 k x v ?_ hv')
      have : l.map f = r.map f ++ (l.drop hi.toNat).map f := by rw [hr, ← List.map_append, List.take_append_drop]
      rw [this, flat_append, List.getElem?_append_left (List.getElem?_eq_some_iff.1 hx').1]
      exact hx'
  cases res with
  | ok nx w' =>
    cases nx with
    | value v => rintro ⟨g', w1, w2, w3⟩; exact ⟨g', (key g' w' w1).1, w2, w3⟩
    | skip => rintro ⟨g', w1, w2, w3⟩; exact ⟨g', (key g' w' w1).1, w2, w3⟩
    | enter f args => intro h; exact h.mono fun e w'' ⟨v, he, g', w1, w2, w3⟩ => ⟨v, he, g', (key g' w'' w1).1, w2, w3⟩
    | _ => exact fun h => h
  | halt x w' => exact fun h => h
end
section
variable {P : Program} {ρ : Operand → V} {H : List HE} {ty : TypeId} {x y : Operand} {t u : TypeId} {k : IntKind} {a b c : Int}
theorem op_addE (hx : As (ρ x) (.int k a)) (hy : As (ρ y) (.int k b)) (h : k.wrap (a + b) = c) : OpV P (.binOp .add t x y u) ty ρ H (.d (.int k c)) H := h ▸ op_addw hx hy
theorem op_subE (hx : As (ρ x) (.int k a)) (hy : As (ρ y) (.int k b)) (h : k.wrap (a - b) = c) : OpV P (.binOp .sub t x y u) ty ρ H (.d (.int k c)) H := h ▸ op_subw hx hy
end
theorem w1 {m : Nat} (h : m + 1 ≤ 4611686018427387904) : IntKind.i64.wrap ((m : Int) + ((1 : Nat) : Int)) = ((m + 1 : Nat) : Int) := by
  rw [w64 (by omega) (by omega)]; omega
theorem ws {m i : Nat} (h : m + 1 ≤ 4611686018427387904) (hi : i ≤ m) : IntKind.i64.wrap (((m + 1 : Nat) : Int) - (i : Int)) = ((m + 1 - i : Nat) : Int) := by
  rw [w64 (by omega) (by omega)]; omega
theorem append_ty {P : Program} {t t2 e e2 ty : TypeId} (ht : P.underlying t = some (.slice e)) (h2 : P.underlying t2 = some (.slice e2)) (args : Array Value) (w : World) :
    (Builtin.append_ #[t, t2] ty args).run P w = (Builtin.append_ #[t, t] ty args).run P w := by
  unfold Builtin.append_
  have h0 : (#[t, t2] : Array TypeId)[0]? = some t := rfl
  have h1 : (#[t, t2] : Array TypeId)[1]? = some t2 := rfl
  have h3 : (#[t, t] : Array TypeId)[0]? = some t := rfl
  have h4 : (#[t, t] : Array TypeId)[1]? = some t := rfl
  rw [h0, h1, h3, h4]
  cases args[0]? with
  | none => rfl
  | some s =>
    cases args[1]? with
    | none => rfl
    | some x =>
      simp only [Sem.run_bind, run_underlying ht, Result.andThen_ok]
      cases s <;> simp only [Sem.run_bind, run_underlying ht, run_underlying h2, Result.andThen_ok, Sem.run_pure]
theorem OpV.appendT {P : Program} {ρ : Operand → V} {H H' : List HE} {ty t t2 e e2 : TypeId} {x y : Operand} {v : V} (ht : P.underlying t = some (.slice e)) (h2 : P.underlying t2 = some (.slice e2))
    (h : OpV P (.call ⟨.builtin .append, #[x, y], #[t, t]⟩) ty ρ H v H') : OpV P (.call ⟨.builtin .append, #[x, y], #[t, t2]⟩) ty ρ H v H' := by
  intro g w r pos after guard dst hw hx
  have h0 := h g w r pos after guard dst hw hx
  unfold OpRuns at h0 ⊢
  have e : (execOp r ⟨dst, .call ⟨.builtin .append, #[x, y], #[t, t2]⟩, ty, pos, after, guard⟩).run P w = (execOp r ⟨dst, .call ⟨.builtin .append, #[x, y], #[t, t]⟩, ty, pos, after, guard⟩).run P w := by
    simp [execOp, resolve, invoke, builtin, append_ty ht h2]
  rw [e]; exact h0

/-- Two values of a type are compared as what they mean. -/
def EqS {α : Type} [DecidableEq α] (P : Program) (t : TypeId) (f : α → D) : Prop :=
  P.eqGuardType P.depth t = false ∧ ∀ Pr w x y a b, RepD Pr w (f x) a → RepD Pr w (f y) b → ∃ xs ys, a = .agg xs ∧ b = .agg ys ∧ ∀ w', (Op.equalIn 10000 t (.agg xs) (.agg ys)).run P w' = .ok (decide (x = y)) w'

inductive RepLL (Pr : Nat → Nat → Prop) (w : World) : List D → List Value → Prop
  | nil : RepLL Pr w [] []
  | cons {x : D} {v : Value} {l : List D} {vs : List Value} : RepD Pr w x v → RepLL Pr w l vs → RepLL Pr w (x :: l) (v :: vs)
theorem RepLL.of {Pr : Nat → Nat → Prop} {w : World} : ∀ {l : List D} {vs : List Value}, vs.length = l.length → (∀ (i : Nat) x v, l[i]? = some x → vs[i]? = some v → RepD Pr w x v) → RepLL Pr w l vs
  | [], [], _, _ => .nil
  | x :: l, v :: vs, h, hh => .cons (hh 0 x v rfl rfl) (RepLL.of (by simpa using h) (fun i y u h1 h2 => hh (i + 1) y u h1 h2))
  | [], _ :: _, h, _ => by simp at h
  | _ :: _, [], h, _ => by simp at h
section
variable {P : Program} {ρ : Operand → V} {H : List HE} {ty : TypeId}
theorem op_eqlSt {α : Type} [DecidableEq α] {f : α → D} {x y : Operand} {t u : TypeId} {a b : α} (hE : EqS P t f) (hx : As (ρ x) (f a)) (hy : As (ρ y) (f b)) : OpV P (.binOp .eql t x y u) ty ρ H (.d (.bool (decide (a = b)))) H :=
  OpV.of_val fun g w r hw h => by
    obtain ⟨xs, ys, e1, e2, e3⟩ := hE.2 _ _ _ _ _ _ (hx.rep (h x (by simp [Op.operands]))) (hy.rep (h y (by simp [Op.operands])))
    refine ⟨.bool (decide (a = b)), fun pos after guard dst => ?_, .d (.bool _)⟩
    simp only [execOp, e1, e2, Sem.run_bind, run_eqGuard_agg _ _ _ _ _ _ _ hE.1, run_eql_struct, e3, Result.andThen_ok, Sem.run_pure]
theorem op_neqSt {α : Type} [DecidableEq α] {f : α → D} {x y : Operand} {t u : TypeId} {a b : α} (hE : EqS P t f) (hx : As (ρ x) (f a)) (hy : As (ρ y) (f b)) : OpV P (.binOp .neq t x y u) ty ρ H (.d (.bool (!decide (a = b)))) H :=
  OpV.of_val fun g w r hw h => by
    obtain ⟨xs, ys, e1, e2, e3⟩ := hE.2 _ _ _ _ _ _ (hx.rep (h x (by simp [Op.operands]))) (hy.rep (h y (by simp [Op.operands])))
    refine ⟨.bool (!decide (a = b)), fun pos after guard dst => ?_, .d (.bool _)⟩
    simp only [execOp, e1, e2, Sem.run_bind, run_eqGuard_agg _ _ _ _ _ _ _ hE.1, run_neq_struct, e3, Result.andThen_ok, Sem.run_pure]
end
theorem OpRuns.mono {P : Program} {o : Oper} {r : Operand → Value} {w : World} {K K' : Value → World → Prop} (h : OpRuns P o r w K) (hk : ∀ v w', K v w' → K' v w') : OpRuns P o r w K' := by
  unfold OpRuns at *
  generalize (execOp r o).run P w = q at *
  cases q with
  | ok n w' =>
    cases n with
    | value v => exact hk _ _ h
    | skip => exact hk _ _ h
    | enter f args => exact Calls.mono h (fun e w'' ⟨v, h1, h2⟩ => ⟨v, h1, hk _ _ h2⟩)
    | _ => exact h
  | halt _ _ => exact h
section
variable {P : Program} {ρ : Operand → V} {H : List HE} {ty : TypeId}
theorem ix_inv {α : Type} {l : List α} {k : Int} {v : α} (h : ix l k = some v) : 0 ≤ k ∧ l[k.toNat]? = some v ∧ k.toNat < l.length := by
  unfold ix at h
  split at h
  · rename_i h0
    exact ⟨h0, h, (List.getElem?_eq_some_iff.1 h).1⟩
  · cases h
theorem OpV.asD {o : Op} {y : V} {x : D} {H' : List HE} (h : OpV P o ty ρ H y H') (hx : y.asD = some x) : OpV P o ty ρ H (.d x) H' := fun g w r pos after guard dst hw hr =>
  OpRuns.mono (h g w r pos after guard dst hw hr) (fun _ _ ⟨g', h1, h2, h3⟩ => ⟨g', h1, h2, .d (h3.asD hx)⟩)
end
end
end Go.Proofs.YtkdefjliknpliaaGreatDoor.Ab
