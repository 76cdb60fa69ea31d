/- Plain laws, joined. Conditions: none. -/
import Derived.Test.YtkdefjliknpliaaGreatDoorAb22
import Derived.Scope
namespace Go.Proofs.YtkdefjliknpliaaGreatDoor.Ab
section
/- Pieces of lists that are written in place, and 'copy' into them. Conditions: none. -/
open Go

/-- A list with a piece written anew. -/
def cpyL {α : Type} (l : List α) (lo len : Nat) (c : List α) : List α := l.take lo ++ c.take len ++ l.drop (lo + min len c.length)
theorem cpyL_len {α : Type} {l : List α} {lo len : Nat} {c : List α} (h : lo + len ≤ l.length) : (cpyL l lo len c).length = l.length := by
  simp only [cpyL, List.length_append, List.length_take, List.length_drop]; omega
theorem slc_le {α : Type} {l r : List α} {lo hi : Int} (h : slc l lo hi = some r) : lo.toNat + r.length ≤ l.length := by
  unfold slc at h
  split at h
  · injection h with h; subst h; simp; omega
  · cases h
section
variable {P : Program} {ρ : Operand → V} {H : List HE} {ty : TypeId}

theorem op_sliceH {α : Type} {f : α → D} {l r : List α} {x : Operand} {t e s bytes id len : Nat} {lo hi : Int} {a b : Option Operand} (hx : Is (ρ x) (.hs id 0 len s)) (hH : H[id]? = some (.lst (l.map f) e s)) (hl : l.length = len) (ht : SlT P t e s bytes) (ha : loM ρ a lo) (hb : hiM ρ len b hi)
    (hv : slc l lo hi = some r) : OpV P (.slice t x a b none) ty ρ H (.hs id lo.toNat r.length s) H := by
  unfold slc at hv
  split at hv
  · rename_i hc
    injection hv with hv
    have hrl : r.length = hi.toNat - lo.toNat := by subst hv; simp; omega
    clear hv
    refine OpV.of_val fun g w rr hw h => ?_
    have h1 := hx.rep (h x (by cases a <;> cases b <;> simp [Op.operands]))
    obtain ⟨ad, cap, k1, k2, k3, _⟩ := hw.lst id _ _ _ hH
    rename_i k4; clear k4
    simp only [List.length_map] at k2
    obtain ⟨ie, z, hie, hsz, _⟩ := ht.i
    generalize hr : rr x = u at h1
    cases h1 with
    | @hs _ _ _ _ m cap' n0 c0 a' a0 p1 p2 =>
      rw [k1] at p1; injection p1 with p1; injection p1 with p1 p3
      injection p3 with p3 p4
      obtain ⟨r1, r2, r3, r4⟩ := hs0 (p2 p1.symm)
      subst r1; subst r3; subst p3; subst p4; subst r2
      have hlo : ∀ (z : Value) (y : Nat), z = .int .i64 lo → lo.toNat ≤ y → (Instr.sliceBound z y .sliceB).run P w = .ok lo.toNat w := fun z y hz hy => by
        subst hz
        simp only [Instr.sliceBound, asIntOf, Sem.run_bind, Sem.run_pure, Result.andThen_ok]
        rw [if_pos (by omega)]; rfl
      have hhi : ∀ (z : Value) (y : Nat), z = .int .i64 hi → hi.toNat ≤ y → (Instr.sliceBound z y .sliceAcap).run P w = .ok hi.toNat w := fun z y hz hy => by
        subst hz
        simp only [Instr.sliceBound, asIntOf, Sem.run_bind, Sem.run_pure, Result.andThen_ok]
        rw [if_pos (by omega)]; rfl
      have hcaphi : hi.toNat ≤ cap := by omega
      have hres : (if cap = lo.toNat then ad else ad.map (·.add (lo.toNat * s))) = subA ad cap lo.toNat s := by
        unfold subA
        by_cases h0 : lo.toNat = 0
        · rw [h0]; simp only [Nat.zero_mul, if_true]
          split
          · rfl
          · cases ad <;> simp [Addr.add]
        · rw [if_neg h0]
      refine ⟨.slice (subA ad cap lo.toNat s) (hi.toNat - lo.toNat) (cap - lo.toNat), fun _ _ _ _ => ?_, ?_⟩
      · cases a with
        | none =>
          have h0 : lo = 0 := ha
          subst h0
          simp only [Int.toNat_zero, Nat.zero_mul] at hres
          cases b with
          | none =>
            have h0 : hi = _ := hb
            subst h0
            simp [execOp, Instr.sliceAt, Instr.slice, Instr.sliceBounds, run_underlying ht.u, hr, run_sizeOf' hie, hsz, hres]
          | some y =>
            have h2 := As.int hb (h y (by simp [Op.operands]))
            simp [execOp, Instr.sliceAt, Instr.slice, Instr.sliceBounds, run_underlying ht.u, hr, run_sizeOf' hie, hsz, hhi _ _ h2 hcaphi, hres]
        | some z =>
          have h1 := As.int ha (h z (by cases b <;> simp [Op.operands]))
          cases b with
          | none =>
            have h0 : hi = _ := hb
            subst h0
            simp [execOp, Instr.sliceAt, Instr.slice, Instr.sliceBounds, run_underlying ht.u, hr, run_sizeOf' hie, hsz, hlo _ _ h1 (show lo.toNat ≤ n0 by omega), hres]
          | some y =>
            have h2 := As.int hb (h y (by simp [Op.operands]))
            simp [execOp, Instr.sliceAt, Instr.slice, Instr.sliceBounds, run_underlying ht.u, hr, run_sizeOf' hie, hsz, hhi _ _ h2 hcaphi, hlo _ _ h1 (show lo.toNat ≤ hi.toNat by omega), hres]
      · exact .hs k1 (fun _ => ⟨rfl, hrl.symm, rfl, by omega⟩)
  · cases hv

theorem copy_core {α : Type} {f : α → D} {l src : List α} {x y : Operand} {dT sT e bytes id lo len n m : Nat} {g : G} {w : World} {rr : Operand → Value} {cs : List Value} {pos : String} {after : Array Edge} {guard : Option (Nat × Bool)} {dst : Option Tmp} (hw : WOK g w H) (h1 : ∀ x, (f x).cells = [f x]) (hf : En f 1)
    (hx : Rep g w (.hs id lo len 1) (rr x)) (hH : H[id]? = some (.lst (l.map f) e 1)) (hlen : lo + len ≤ l.length) (ht : SlT P dT e 1 bytes) (hm : (Builtin.lenOf (rr y)).run P w = .ok m w) (hn : n = Nat.min m len) (hsm : src.length = m)
    (hfc : (Builtin.firstCells 1 n (rr y)).run P w = .ok cs.toArray w) (hcl : cs.length = n) (hcs : ∀ (j : Nat) v, cs[j]? = some v → ∃ z, src[j]? = some z ∧ RepD g.Pr w (f z) v) :
    OpRuns P ⟨dst, .call ⟨.builtin .copy, #[x, y], #[dT, sT]⟩, ty, pos, after, guard⟩ rr w fun rv w' => ∃ g', WOK g' w' (H.set id (.lst ((cpyL l lo len src).map f) e 1)) ∧ Evo g w g' w' ∧ Rep g' w' (.d (.int .i64 ((min src.length len : Nat) : Int))) rv := by
  obtain ⟨ad, cap, k1, k2, k3, k4⟩ := hw.lst id _ _ _ hH
  simp only [List.length_map] at k2
  obtain ⟨ie, z, hie, hsz, _⟩ := ht.i
  have hnn : n = min src.length len := by rw [hn, hsm]
  generalize hr : rr x = u at hx
  cases hx with
  | @hs _ _ _ _ m' cap' n0 c0 a' a0 p1 p2 =>
    rw [k1] at p1; injection p1 with p1; injection p1 with p1 p3
    injection p3 with p3 p4
    obtain ⟨r1, r2, r3, r4⟩ := p2 p1.symm
    subst p3; subst p4
    have hidlt : id < H.length := (List.getElem?_eq_some_iff.1 hH).1
    by_cases hn0 : n = 0
    · clear k4
      -- nothing is copied
      have hcs0 : cs = [] := List.eq_nil_of_length_eq_zero (by omega)
      subst hcs0
      have hsame : cpyL l lo len src = l := by
        have : min src.length len = 0 := by omega
        unfold cpyL
        have h0 : src.take len = [] := by
          rw [← List.length_eq_zero_iff, List.length_take]; omega
        rw [h0, List.append_nil, Nat.min_comm, this, Nat.add_zero, List.take_append_drop]
      have hset : H.set id (.lst ((cpyL l lo len src).map f) e 1) = H := by
        rw [hsame]
        apply List.ext_getElem?
        intro i
        by_cases hi : i = id
        · subst hi; rw [List.getElem?_set_self hidlt, hH]
        · rw [List.getElem?_set_ne (Ne.symm hi)]
      unfold OpRuns
      have hrun : (execOp rr ⟨dst, .call ⟨.builtin .copy, #[x, y], #[dT, sT]⟩, ty, pos, after, guard⟩).run P w = .ok (.value (.int .i64 ((min src.length len : Nat) : Int))) w := by
        rw [← hnn, hn0]
        rw [hn0] at hfc hn
        have : Nat.min m n0 = 0 := by rw [r2]; exact hn.symm
        cases a0 <;> simp [execOp, resolve, invoke, builtin, Builtin.copy_, run_underlying ht.u, hr, hm, this, run_sizeOf' hie, hsz, hfc, storeCells, goInt]
      rw [hrun, hset]
      exact ⟨g, hw, .refl _ _, .d (.int _ _)⟩
    · have hlpos : 0 < len := by omega
      have hcap : 0 < cap := by omega
      obtain ⟨b, arr, rfl, q0, q2, q3, q4, q5⟩ := k4 hcap
      clear k4
      have hsub : a0 = some ⟨b, lo, none⟩ := by
        rw [r1]; unfold subA
        by_cases h0 : lo = 0
        · rw [if_pos h0, h0]
        · rw [if_neg h0, if_neg (by omega)]; simp [Addr.add_none]
      have hone : ∀ u ∈ cs, u.oneCell' = true := fun u hu => by
        obtain ⟨j, hj⟩ := List.getElem?_of_mem hu
        obtain ⟨z, _, hz⟩ := hcs j u hj
        exact hz.one (hf.one z (f z) (by rw [h1]; simp))
      have hfit : lo + cs.length ≤ arr.size := by omega
      have hst := run_storeCells_at P b lo e cs 0 arr w q2 (by omega) hone
      unfold OpRuns
      have hrun : (execOp rr ⟨dst, .call ⟨.builtin .copy, #[x, y], #[dT, sT]⟩, ty, pos, after, guard⟩).run P w = .ok (.value (.int .i64 ((min src.length len : Nat) : Int))) (w.setRow b (arr.toList.take (lo + 0) ++ cs ++ arr.toList.drop (lo + 0 + cs.length)).toArray) := by
        rw [← hnn]
        have : Nat.min m n0 = n := by rw [r2]; exact hn.symm
        rw [hsub] at hr
        simp [execOp, resolve, invoke, builtin, Builtin.copy_, run_underlying ht.u, hr, hm, this, run_sizeOf' hie, hsz, hfc, hst, goInt]
      rw [hrun]
      refine ⟨g, ?_⟩
      have key := WOK.storeLst (w' := w.setRow b (arr.toList.take (lo + 0) ++ cs ++ arr.toList.drop (lo + 0 + cs.length)).toArray) (l' := (cpyL l lo len src).map f)
        (arr' := (arr.toList.take (lo + 0) ++ cs ++ arr.toList.drop (lo + 0 + cs.length)).toArray) hw hH k1 hcap q0 ⟨rfl, rfl, rfl⟩ (setRow_size w b _) (setRow_heap w b arr _ e _ q2) (fun b'' hne => setRow_other w b b'' _ hne)
        (by simp [cpyL_len hlen]; omega) (by simp; omega) (fun k x u hx' hu' => by
          rw [flat_one1 h1, List.getElem?_map, Option.map_eq_some_iff] at hx'
          obtain ⟨z, hz, rfl⟩ := hx'
          simp only [Nat.add_zero, List.getElem?_toArray] at hu'
          have l1 : (l.take lo).length = lo := by simp; omega
          have l2 : (List.take lo arr.toList).length = lo := by simp; omega
          have l3 : (src.take len).length = n := by rw [List.length_take]; omega
          unfold cpyL at hz
          rw [List.append_assoc] at hz hu'
          by_cases hk : k < lo
          · rw [List.getElem?_append_left (by omega), List.getElem?_take, if_pos hk] at hz
            rw [List.getElem?_append_left (by omega), List.getElem?_take, if_pos hk, Array.getElem?_toList] at hu'
            exact q5 k _ u (by rw [flat_one1 h1]; simp [hz]) hu'
          · rw [List.getElem?_append_right (by omega), l1] at hz
            rw [List.getElem?_append_right (by omega), l2] at hu'
            by_cases hk2 : k - lo < n
            · rw [List.getElem?_append_left (by omega), List.getElem?_take, if_pos (by omega)] at hz
              rw [List.getElem?_append_left (by omega)] at hu'
              obtain ⟨z', hz', hrep⟩ := hcs _ u hu'
              rw [hz] at hz'; injection hz' with hz'; subst hz'
              exact hrep
            · rw [List.getElem?_append_right (by omega), l3, List.getElem?_drop] at hz
              rw [List.getElem?_append_right (by omega), hcl, List.getElem?_drop, Array.getElem?_toList] at hu'
              have e1 : lo + min len src.length + (k - lo - n) = lo + cs.length + (k - lo - n) := by omega
              rw [e1] at hz
              rw [hcl] at hz
              exact q5 _ _ u (by rw [flat_one1 h1]; simp [hz]) hu')
      exact ⟨key.1, key.2, .d (.int _ _)⟩

/-- 'copy' of data into a piece of a list. -/
theorem op_copyD {α : Type} {f : α → D} {l src : List α} {x y : Operand} {dT sT e bytes id lo len : Nat} (h1 : ∀ x, (f x).cells = [f x]) (hf : En f 1) (hx : Is (ρ x) (.hs id lo len 1)) (hH : H[id]? = some (.lst (l.map f) e 1)) (hlen : lo + len ≤ l.length) (hy : As (ρ y) (.sl (src.map f))) (ht : SlT P dT e 1 bytes) :
    OpV P (.call ⟨.builtin .copy, #[x, y], #[dT, sT]⟩) ty ρ H (.d (.int .i64 ((min src.length len : Nat) : Int))) (H.set id (.lst ((cpyL l lo len src).map f) e 1)) := by
  intro g w rr pos after guard dst hw h
  have hxr := hx.rep (h x (by simp [Op.operands, Call.operands]))
  have hyr := hy.rep (h y (by simp [Op.operands, Call.operands]))
  obtain ⟨a, cap, hra, _⟩ := slice_form hyr
  simp only [List.length_map] at hra
  have hm : (Builtin.lenOf (rr y)).run P w = .ok src.length w := by rw [hra]; rfl
  by_cases hs0 : src = []
  · subst hs0
    refine copy_core (cs := []) (n := 0) (m := 0) hw h1 hf hxr hH hlen ht hm (by simp) rfl ?_ rfl (by simp)
    rw [hra]
    cases a with
    | none => simp [Builtin.firstCells]
    | some ad => exact run_firstCells_some (P := P) w 1 0 ad _ _ [] (by simp) (by simp)
  · obtain ⟨b', o', cap', f', hra2, _, hk', hrep', hone'⟩ := hyr.slCells (hf.szL src) (hf.oneL src) (by simpa using hs0)
    simp only [List.length_map, Nat.mul_one] at hra2 hk' hone'
    refine copy_core (cs := (List.range (min src.length len)).map f') (n := min src.length len) (m := src.length) hw h1 hf hxr hH hlen ht hm rfl rfl ?_ (by simp) (fun j v hv => ?_)
    · rw [hra2]
      refine run_firstCells_some (P := P) w 1 _ ⟨b', o', none⟩ _ _ _ (by simp) (fun j v hv => ?_)
      have hj : j < min src.length len := by
        have := (List.getElem?_eq_some_iff.1 hv).1; simpa using this
      rw [range_map_get _ _ _ hj] at hv
      rw [Addr.add_none, (hk' j (by omega)).2]; exact hv
    · have hj : j < min src.length len := by
        have := (List.getElem?_eq_some_iff.1 hv).1; simpa using this
      rw [range_map_get _ _ _ hj] at hv
      injection hv with hv; subst hv
      have hjl : j < src.length := by omega
      refine ⟨src[j], List.getElem?_eq_getElem hjl, hrep' j _ ?_⟩
      rw [flat_one1 h1]; simp [hjl]

/-- 'copy' of a piece of a list into a piece of a list, perhaps of the same one. -/
theorem op_copyH {α : Type} {f : α → D} {l l2 src : List α} {x y : Operand} {dT sT e e2 bytes id lo len id2 lo2 len2 : Nat} (h1 : ∀ x, (f x).cells = [f x]) (hf : En f 1) (hx : Is (ρ x) (.hs id lo len 1)) (hH : H[id]? = some (.lst (l.map f) e 1)) (hlen : lo + len ≤ l.length)
    (hy : Is (ρ y) (.hs id2 lo2 len2 1)) (hH2 : H[id2]? = some (.lst (l2.map f) e2 1)) (hsrc : (l2.drop lo2).take len2 = src) (hlen2 : lo2 + len2 ≤ l2.length) (ht : SlT P dT e 1 bytes) :
    OpV P (.call ⟨.builtin .copy, #[x, y], #[dT, sT]⟩) ty ρ H (.d (.int .i64 ((min src.length len : Nat) : Int))) (H.set id (.lst ((cpyL l lo len src).map f) e 1)) := by
  intro g w rr pos after guard dst hw h
  have hxr := hx.rep (h x (by simp [Op.operands, Call.operands]))
  have hyr := hy.rep (h y (by simp [Op.operands, Call.operands]))
  have hsl : src.length = len2 := by subst hsrc; simp; omega
  obtain ⟨ad, cap, k1, k2, k3, k4⟩ := hw.lst id2 _ _ _ hH2
  simp only [List.length_map] at k2
  generalize hr : rr y = u at hyr
  cases hyr with
  | @hs _ _ _ _ m' cap' n0 c0 a' a0 p1 p2 =>
    rw [k1] at p1; injection p1 with p1; injection p1 with p1 p3
    injection p3 with p3 p4
    obtain ⟨r1, r2, r3, r4⟩ := p2 p1.symm
    subst p3; subst p4
    have hm : (Builtin.lenOf (rr y)).run P w = .ok src.length w := by rw [hr, r2, hsl]; rfl
    by_cases hn0 : min src.length len = 0
    · clear k4
      refine copy_core (cs := []) (n := 0) (m := src.length) hw h1 hf hxr hH hlen ht hm hn0.symm rfl ?_ rfl (by simp)
      rw [hr]
      cases a0 with
      | none => simp [Builtin.firstCells]
      | some ad => exact run_firstCells_some (P := P) w 1 0 ad _ _ [] (by simp) (by simp)
    · have hcap : 0 < cap := by omega
      obtain ⟨b, arr, rfl, q0, q2, q3, q4, q5⟩ := k4 hcap
      clear k4
      have hsub : a0 = some ⟨b, lo2, none⟩ := by
        rw [r1]; unfold subA
        by_cases h0 : lo2 = 0
        · rw [if_pos h0, h0]
        · rw [if_neg h0, if_neg (by omega)]; simp [Addr.add_none]
      refine copy_core (cs := (arr.toList.drop lo2).take (min src.length len)) (n := min src.length len) (m := src.length) hw h1 hf hxr hH hlen ht hm rfl rfl ?_ (by simp; omega) (fun j v hv => ?_)
      · rw [hr, hsub]
        refine run_firstCells_some (P := P) w 1 _ ⟨b, lo2, none⟩ _ _ _ (by simp; omega) (fun j v hv => ?_)
        rw [List.getElem?_take] at hv
        split at hv
        · rw [List.getElem?_drop, Array.getElem?_toList] at hv
          rw [Addr.add_none, cell_of_cells q2]; exact hv
        · cases hv
      · rw [List.getElem?_take] at hv
        split at hv
        · rename_i hj
          rw [List.getElem?_drop, Array.getElem?_toList] at hv
          have hjl : lo2 + j < l2.length := by omega
          refine ⟨l2[lo2 + j], ?_, q5 (lo2 + j) _ v ?_ hv⟩
          · rw [← hsrc, List.getElem?_take, if_pos (by omega), List.getElem?_drop]; simp [hjl]
          · rw [flat_one1 h1]; simp [hjl]
        · cases hv
end

/- Code whose labels nobody jumps to. -/
section
variable {P : Program} {ρ : Operand → V} {H : List HE} {ty : TypeId}
end

/-- A slot's value is taken for data. -/
theorem AL.toD {F : FC} {K : St → Prop} {ops : Array Oper} {os : List Oper} {E : Nat → V} {H : List HE} (t : Nat) {x : D} (h : (E t).asD = some x) (k : AL F ops K os ⟨upd E t (.d x), H⟩) : AL F ops K os ⟨E, H⟩ := by
  rintro a w ⟨h1, h2, g, h3, h4, h5⟩
  refine k a w ⟨h1, h2, g, h3, h4, fun i => ?_⟩
  by_cases hi : i = t
  · subst hi
    show Rep g w (upd E i (.d x) i) _
    rw [upd_same]
    exact .d ((h5 i).asD h)
  · show Rep g w (upd E t (.d x) i) _
    rw [upd_ne _ _ hi]; exact h5 i
end
section
/- States told anew, slot by slot. Conditions: none. -/
open Go

def slots (m : List (Nat × V)) : Nat → V := fun i => lookV m i .any
theorem AW.cutS {F : FC} {Q : Exit → St → Prop} {α : Type} {x y : Code} {E : Nat → V} {H : List HE} (n0 : Nat) (I : α → Prop) (m : α → List (Nat × V)) (K : α → List HE)
    (hg : ∀ id, n0 ≤ id → F.g0.σ id = none ∧ F.g0.τ id = none)
    (h1 : AW F x (thenQ (fun s => ∃ z, I z ∧ Meets n0 E [] (m z) (K z) s) Q) ⟨E, H⟩) (h2 : ∀ z, I z → AW F y Q ⟨slots (m z), K z⟩) : AW F (.seq x y) Q ⟨E, H⟩ :=
  AW.cutM n0 I [] m K hg h1 h2
theorem AW.loopS {F : FC} {Q : Exit → St → Prop} {σ τ : Type} {c : Code} {E : Nat → V} {H : List HE} (n0 : Nat) (m : σ → List (Nat × V)) (K : σ → List HE) {f : σ → Option (σ ⊕ τ)} {n : Nat} {s0 : σ} {t : τ}
    (hit : iter n f s0 = some t) (hg : ∀ id, n0 ≤ id → F.g0.σ id = none ∧ F.g0.τ id = none) (h0 : Meets n0 E [] (m s0) (K s0) ⟨E, H⟩)
    (round : ∀ n' s, iter (n' + 1) f s = some t → AW F c (thenQ (fun st => ∃ s', iter n' f s' = some t ∧ Meets n0 (slots (m s)) [] (m s') (K s') st) Q) ⟨slots (m s), K s⟩) : AW F (.loop c) Q ⟨E, H⟩ :=
  AW.loopM n0 [] m K hit hg h0 (fun n' s h => (round n' s h).mono fun e st hq => by
    cases e with
    | normal =>
      obtain ⟨s', h1, S, k1, k2, k3, k4, k5, k6⟩ := hq
      exact ⟨s', h1, S, k1, k2, rfl, k4, trivial, k6⟩
    | _ => exact hq)
theorem AW.reset {F : FC} {Q : Exit → St → Prop} {c : Code} {E : Nat → V} {H : List HE} (n0 : Nat) (m : List (Nat × V)) (K : List HE) (hg : ∀ id, n0 ≤ id → F.g0.σ id = none ∧ F.g0.τ id = none) (h0 : Meets n0 E [] m K ⟨E, H⟩) (k : AW F c Q ⟨slots m, K⟩) : AW F c Q ⟨E, H⟩ :=
  fun a w hs => k a w (meets_sim hg hs h0)
end
end Go.Proofs.YtkdefjliknpliaaGreatDoor.Ab
