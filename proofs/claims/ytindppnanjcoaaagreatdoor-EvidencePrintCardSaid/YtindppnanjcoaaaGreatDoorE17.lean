/- The steps of a range; an operation made ready. Every operation, made ready. Statements and plain regions. Code and calls. Conditions: none. -/
import Derived.Test.YtindppnanjcoaaaGreatDoorE13
import Derived.Test.YtindppnanjcoaaaGreatDoorAb7
section
namespace Go.Proofs.YtindppnanjcoaaaGreatDoor.Ev
open Go
open Ab (OpRuns run_sizeOf' run_zeroValue' Addr.add_none)

section
variable {P : Program} {o : Op} {ty : TypeId} {ρ : Operand → CV} {H H' : Hp} {v : CV} {wq : Option Nat}

theorem RVm.left {σ : Sg} {seen : List Nat} : ∀ {c : List (CV × CV × Nat)} {l : List MapEntry}, RVm σ c l → RVm σ (c.filter fun e => !seen.contains e.2.2) (l.filter fun e => !seen.contains e.born)
  | [], _, h => by cases h; rfl
  | (a, x, n) :: c, _, ⟨e0, r, h1, h2, h3, h4, h5⟩ => by
    subst h1
    have ih := RVm.left (seen := seen) h5
    simp only [List.filter_cons, h4]
    split
    · exact ⟨e0, _, rfl, h2, h3, h4, ih⟩
    · exact ih
theorem RVm.all {σ : Sg} {since : Nat} : ∀ {c : List (CV × CV × Nat)} {l : List MapEntry}, RVm σ c l → c.all (fun e => Nat.blt e.2.2 since) = true → ∀ e ∈ l, e.born < since
  | [], _, h, _ => by cases h; simp
  | (a, x, n) :: c, _, ⟨e0, r, h1, h2, h3, h4, h5⟩, hall => by
    subst h1
    simp only [List.all_cons, Bool.and_eq_true, Nat.blt_eq] at hall
    intro e he
    simp only [List.mem_cons] at he
    rcases he with rfl | he
    · omega
    · exact h5.all hall.2 e he

theorem ok_next {x : Operand} {isS : Bool} (hne : evNext H (ρ x) isS ≠ []) : ∀ σ w r pos after guard dst, WOK σ H w → RV σ (ρ x) (r x) →
    OpRuns P ⟨dst, .next x isS, ty, pos, after, guard⟩ r w fun rv w' => ∃ q, q ∈ evNext H (ρ x) isS ∧ ∃ σ', WOK σ' q.2 w' ∧ Evo σ H w σ' q.2 w' ∧ RV σ' q.1 rv := by
  intro σ w r pos after guard dst hw h1
  have fin : ∀ {q : CV × Hp} {rv : Value} {w' : World} {σ' : Sg}, q ∈ evNext H (ρ x) isS → (Instr.next (r x) isS ty).run P w = .ok rv w' → WOK σ' q.2 w' → Evo σ H w σ' q.2 w' → RV σ' q.1 rv →
      OpRuns P ⟨dst, .next x isS, ty, pos, after, guard⟩ r w fun rv w' => ∃ q, q ∈ evNext H (ρ x) isS ∧ ∃ σ', WOK σ' q.2 w' ∧ Evo σ H w σ' q.2 w' ∧ RV σ' q.1 rv := by
    intro q rv w' σ' hq hr h2 h3 h4
    unfold OpRuns
    have : (execOp r ⟨dst, .next x isS, ty, pos, after, guard⟩).run P w = .ok (.value rv) w' := by simp [execOp, hr]
    rw [this]
    exact ⟨q, hq, σ', h2, h3, h4⟩
  generalize hl : evNext H (ρ x) isS = l at hne fin ⊢
  generalize hcx : ρ x = cx at hl h1
  unfold evNext at hl
  split at hl
  · rename_i id
    obtain ⟨b, p, c, hb, hrx⟩ := h1
    have hent := hw.ent id (hw.lt hb)
    split at hl
    · rename_i s ps hg
      rw [hg] at hent
      obtain ⟨b', c', f1, f2⟩ := hent
      rw [hb] at f1; cases f1
      cases hlt : Nat.blt ps s.size with
      | true =>
        rw [hlt] at hl
        simp only [cond_true] at hl
        split at hl
        · rename_i H1 hwr
          subst hl
          rw [Nat.blt_eq] at hlt
          obtain ⟨k1, k2⟩ := hw.obj (ob := .stringIter s (ps + (Utf8.decode s ps).2)) hb (by rw [hg]; rfl) hwr (by simp) (fun hlt => ⟨b, c, hb, by simp [hlt]⟩)
          refine fin (List.mem_singleton.2 rfl) (rv := .tuple #[.bool true, goInt ps, .int .i32 (Utf8.decode s ps).1]) ?_ k1 k2 ⟨_, rfl, _, _, rfl, rfl, _, _, rfl, rfl, _, _, rfl, rfl, rfl⟩
          simp [Instr.next, hrx, getObj, Sem.run, f2, hlt, setObj]
        · exact absurd hl.symm hne
      | false =>
        rw [hlt] at hl
        simp only [cond_false] at hl
        subst hl
        have hlt : ¬ ps < s.size := fun hc => by rw [show Nat.blt ps s.size = true by rw [Nat.blt_eq]; exact hc] at hlt; cases hlt
        refine fin (List.mem_singleton.2 rfl) (rv := .tuple #[.bool false]) ?_ hw (.refl _ _ _) ⟨_, rfl, _, _, rfl, rfl, rfl⟩
        simp [Instr.next, hrx, getObj, Sem.run, f2, hlt]
    · exact absurd hl.symm hne
  · rename_i id
    obtain ⟨b, p, c, hb, hrx⟩ := h1
    have hent := hw.ent id (hw.lt hb)
    split at hl
    · rename_i m since seen st hg
      rw [hg] at hent
      obtain ⟨b', c', mb, f1, f2, y, f3, rfl⟩ := hent
      rw [hb] at f1; cases f1
      split at hl
      · rename_i es cl hm
        have hent2 := hw.ent m (hw.lt f3)
        rw [hm] at hent2
        obtain ⟨bm, pm, cm⟩ := y
        obtain ⟨_, arr, ha, hr⟩ := ent_m hent2 f3
        cases hc : es.all (fun e => Nat.blt e.2.2 since) && Nat.ble since st with
        | false => rw [hc] at hl; exact absurd hl.symm hne
        | true =>
          rw [hc] at hl
          simp only [cond_true] at hl
          simp only [Bool.and_eq_true, Nat.ble_eq] at hc
          have hall := hr.all hc.1
          have hleft := hr.left (seen := seen)
          -- the candidates
          have hbad : ((!(⟨seen⟩ : Array Nat).isEmpty && !arr.isEmpty) && arr.all fun e => decide (e.born ≥ st)) = false := by
            by_cases hemp : arr.isEmpty = true
            · simp [hemp]
            · have : ∃ e, e ∈ arr.toList := by
                rcases hal : arr.toList with _ | ⟨e, t⟩
                · exact absurd (by simpa using hal) hemp
                · exact ⟨e, by simp⟩
              obtain ⟨e, he⟩ := this
              have hlt := hall e he
              have : (arr.all fun e => decide (e.born ≥ st)) = false := by
                rw [Bool.eq_false_iff]
                intro hA
                rw [Array.all_eq_true'] at hA
                have := hA e (by simpa using he)
                simp at this; omega
              rw [this, Bool.and_false]
          have hold : ((arr.filter fun e => !(⟨seen⟩ : Array Nat).contains e.born).filter fun e => decide (e.born < since)) = arr.filter fun e => !(⟨seen⟩ : Array Nat).contains e.born := by
            apply Array.filter_eq_self.2
            intro e he
            simp only [Array.mem_filter] at he
            simpa using hall e (by simpa using he.1)
          have hnew : ((arr.filter fun e => !(⟨seen⟩ : Array Nat).contains e.born).filter fun e => decide (e.born ≥ since)) = #[] := by
            apply Array.filter_eq_empty_iff.2
            intro e he
            simp only [Array.mem_filter] at he
            have := hall e (by simpa using he.1)
            simp; omega
          have htl : (arr.filter fun e => !(⟨seen⟩ : Array Nat).contains e.born).toList = arr.toList.filter fun e => !seen.contains e.born := by
            rw [Array.toList_filter]
            congr 1
            funext e; simp
          generalize hL : (arr.filter fun e => !(⟨seen⟩ : Array Nat).contains e.born) = L at hold hnew htl
          rw [← htl] at hleft
          split at hl
          · rename_i hnil
            rw [hnil] at hleft
            have hL0 : L = #[] := by have : L.toList = [] := hleft; simpa using this
            subst hL0
            split at hl
            · rename_i H1 hwr
              subst hl
              obtain ⟨hf, rfl⟩ := Hp.wr_eq hwr
              obtain ⟨k1, k2⟩ := hw.wr (w' := w) (x := .free) (hw.lt hb) hf (by rw [hg]; rfl) hb ⟨rfl, rfl, rfl⟩ rfl (fun _ _ => rfl) (by simp) trivial
              refine fin (List.mem_singleton.2 rfl) (rv := .tuple #[.bool false]) ?_ k1 k2 ⟨_, rfl, _, _, rfl, rfl, rfl⟩
              simp only [Instr.next, hrx, getObj, Sem.run_bind, Sem.run, f2, ha, Result.andThen_ok, hbad, Bool.false_eq_true, if_false, hL, hold, hnew]
              simp [choose, Sem.run, Question.forced]
            · exact absurd hl.symm hne
          · rename_i l0 hl0
            have hfl : H.fl ≤ id := by
              rcases hlq : l with _ | ⟨q, l1⟩
              · exact absurd hlq hne
              · have hq : q ∈ l := by rw [hlq]; simp
                rw [← hl] at hq
                obtain ⟨e, _, he⟩ := List.mem_filterMap.1 hq
                split at he
                · rename_i hwr; exact (Hp.wr_eq hwr).1
                · cases he
            have hwrS : ∀ a, H.wr id a = some ⟨(setF AO 4 id).s a H.h, H.n, H.fl⟩ := fun a => by
              simp only [Hp.wr, frc_eq, show Nat.ble H.fl id = true by rw [Nat.ble_eq]; exact hfl, cond_true]
            have hsz : 0 < L.size := by
              have := hleft.len
              simp only [Array.length_toList] at this
              rw [← this]
              exact List.length_pos_iff.2 hl0
            have hLe : L.isEmpty = false := by rw [Array.isEmpty_eq_false_iff]; intro hc; rw [hc] at hsz; simp at hsz
            obtain ⟨idx, d, hidx, hch⟩ : ∃ idx d, idx < L.size ∧ (choose (.mapNext L.size)).run P w = .ok idx { w with drawn := d } := by
              by_cases h1 : L.size ≤ 1
              · exact ⟨0, w.drawn, hsz, by simp [choose, Sem.run, Question.forced, h1]⟩
              · exact ⟨(Question.mapNext L.size).cut (w.tape w.drawn (.mapNext L.size)), w.drawn + 1, Nat.mod_lt _ hsz, by simp [choose, Sem.run, Question.forced, h1]⟩
            have he : L.toList[idx]? = some L[idx] := by rw [Array.getElem?_toList]; simp [hidx]
            obtain ⟨k, xv, g1, g2, g3⟩ := hleft.get he
            have hmem : (CV.t [.b true, k, xv], (⟨(setF AO 4 id).s (.mi (some m) since (seen ++ [L[idx].born]) cl) H.h, H.n, H.fl⟩ : Hp)) ∈ l := by
              rw [← hl]
              exact List.mem_filterMap.2 ⟨(k, xv, L[idx].born), List.mem_of_getElem? g1, by simp only [hwrS]⟩
            have hdr := hw.drew d
            obtain ⟨k1, k2⟩ := hdr.obj (ob := .mapIter (some bm) since (seen ++ [L[idx].born]).toArray cl) hb (by rw [hg]; rfl) (hwrS (.mi (some m) since (seen ++ [L[idx].born]) cl)) (by simp) (fun hlt =>
              ⟨b, c, _, hb, by simp [hlt], (bm, pm, cm), f3, rfl⟩)
            refine fin hmem (rv := .tuple #[.bool true, L[idx].key, L[idx].val]) ?_ k1 k2.drew ⟨_, rfl, _, _, rfl, rfl, _, _, rfl, g2, _, _, rfl, g3, rfl⟩
            simp only [Instr.next, hrx, getObj, Sem.run_bind, Sem.run, f2, ha, Result.andThen_ok, hbad, Bool.false_eq_true, if_false, hL, hold, hnew, hLe, Array.append_empty, Array.empty_append, Array.size_map, hch]
            simp [hidx, setObj, Sem.run, f2]
      · exact absurd hl.symm hne
    · exact absurd hl.symm hne
  · exact absurd hl.symm hne
end
end Go.Proofs.YtindppnanjcoaaaGreatDoor.Ev
end
section
namespace Go.Proofs.YtindppnanjcoaaaGreatDoor.Ev
open Go

section
variable {P : Program} {ty : TypeId} {H H' : Hp} {v : CV} {wq : Option Nat} {E : Env}

theorem val_eq {c : Option CV} (h : val H c = some (v, H')) : c = some v ∧ H' = H := by
  cases c with
  | none => cases h
  | some c => cases h; exact ⟨rfl, rfl⟩

theorem evOp_ok {o : Op} (h : evOp P o ty E H wq = some (v, H')) (hq : ∀ id, wq = some id → id < H.n) : OK1 P o ty (evO E) H v H' := by
  unfold evOp at h
  split at h
  · split at h
    · rename_i hz; exact ok_alloc hz h hq
    · cases h
  · split at h
    · rename_i hl; exact ok_box hl h hq
    · cases h
  · obtain ⟨h1, rfl⟩ := val_eq h; exact ok_build h1
  · exact ok_buildSlice h hq
  · exact ok_store h
  · split at h
    · rename_i hx; cases h; exact ok_nilCheck hx
    · cases h
  · rename_i fn fst cs
    cases he : fst.isEmpty with
    | false => rw [he] at h; cases h
    | true => rw [he] at h; cases h; exact ok_makeFunc he
  · exact ok_makeMap h hq
  · exact ok_makeSlice h hq
  · exact ok_slice h
  · obtain ⟨h1, rfl⟩ := val_eq h; exact ok_indexA h1
  · obtain ⟨h1, rfl⟩ := val_eq h; exact ok_index h1
  · obtain ⟨h1, rfl⟩ := val_eq h; exact ok_lookup h1
  · exact ok_mapUpdate h
  · exact ok_mapUpdate (ty := ty) h
  · exact ok_range h
  · obtain ⟨h1, rfl⟩ := val_eq h; exact ok_entry h1
  · exact ok_convert h
  · split at h
    · rename_i y hy
      split at h
      · rename_i u hu; cases h; exact ok_unOp hy hu
      · cases h
    · cases h
  · rename_i c
    obtain ⟨cal, xs, ts⟩ := c
    split at h
    · rename_i b hb
      simp only at hb h
      subst hb
      exact ok_B h
    · cases h
  · cases h

theorem ok_len {ts : Array TypeId} {x : Operand} {t : TypeId} (ht : ts.toList = [t]) (he : (elemT P t).isSome = true) (h : exLn P (evO E x) (.call ⟨.builtin .len, #[x], ts⟩) ty E H wq = some (v, H')) (hq : ∀ id, wq = some id → id < H.n) :
    OK1 P (.call ⟨.builtin .len, #[x], ts⟩) ty (evO E) H v H' := by
  obtain rfl : ts = #[t] := by rw [← Array.toArray_toList (xs := ts), ht]
  obtain ⟨e, he⟩ := Option.isSome_iff_exists.1 he
  unfold exLn at h
  split at h
  · rename_i id o n c hx0
    cases h
    refine OK1.val fun σ w r hw hx => ?_
    have h1 := hx x (by simp [Op.operands, Call.operands])
    rw [hx0] at h1
    obtain ⟨b, p, c', hb, hrx⟩ := h1
    exact ⟨.int .i64 n, fun _ _ _ _ => by simp [execOp, resolve, invoke, builtin, Builtin.len_, run_underlying (elemT_eq he), hrx, goInt], rfl⟩
  · rename_i id k n s hx0
    cases h
    refine OK1.val fun σ w r hw hx => ?_
    have h1 := hx x (by simp [Op.operands, Call.operands])
    rw [hx0] at h1
    obtain ⟨b, p, c', cap, q, hb, hrx, _⟩ := h1
    exact ⟨.int .i64 n, fun _ _ _ _ => by simp [execOp, resolve, invoke, builtin, Builtin.len_, run_underlying (elemT_eq he), hrx, goInt], rfl⟩
  · exact evOp_ok h hq

theorem exec_ok {o : Op} (h : exec P (comp P o ty) E H wq = some (v, H')) (hq : ∀ id, wq = some id → id < H.n) : OK1 P o ty (evO E) H v H' := by
  cases o with
  | move x => cases h; exact ok_mv
  | assign x => cases h; exact ok_as
  | binOp op t x y u =>
    obtain ⟨h1, rfl⟩ := val_eq (show val H (exBin (arF op) (binG P op t x y) (evO E x) (evO E y)) = some (v, H') from h)
    exact ok_bin h1
  | load t x =>
    simp only [comp] at h
    split at h
    · rename_i d n hd hn
      obtain ⟨h1, rfl⟩ := val_eq (show val H (exLd _ (evO E x) H) = some (v, H') from h)
      exact ok_ld hd hn h1
    · cases h
  | indexAddr t x i =>
    simp only [comp] at h
    split at h
    · rename_i e hu
      split at h
      · rename_i s hs
        obtain ⟨h1, rfl⟩ := val_eq (show val H (exIx s (evO E x) (asN (evO E i))) = some (v, H') from h)
        exact ok_ix hu hs h1
      · cases h
    · exact evOp_ok h hq
  | fieldAddr t x k =>
    simp only [comp] at h
    split at h
    · rename_i f hf
      split at h
      · rename_i s hs
        cases hb : Nat.beq s 0 with
        | true => rw [hb] at h; cases h
        | false =>
          rw [hb] at h
          obtain ⟨h1, rfl⟩ := val_eq (show val H (exFa f.offset (evO E x)) = some (v, H') from h)
          exact ok_fa hf hs (fun hc => by rw [hc] at hb; cases hb) h1
      · cases h
    · cases h
  | pick c a b =>
    obtain ⟨h1, rfl⟩ := val_eq (show val H (exPk (evO E c) (compX a) (compX b) E) = some (v, H') from h)
    exact ok_pk h1
  | extract x i =>
    obtain ⟨h1, rfl⟩ := val_eq (show val H (exEx (evO E x) i) = some (v, H') from h)
    exact ok_ex h1
  | next x s => cases h
  | call c =>
    obtain ⟨cal, xs, ts⟩ := c
    simp only [comp] at h
    split at h
    · cases h
    · rename_i x hxs
      obtain rfl : xs = #[x] := by rw [← Array.toArray_toList (xs := xs), hxs]
      split at h
      · rename_i t ht
        cases he : (elemT P t).isSome with
        | true => rw [he] at h; exact ok_len ht he h hq
        | false => rw [he] at h; exact evOp_ok h hq
      · exact evOp_ok h hq
    · exact evOp_ok h hq
  | _ => exact evOp_ok h hq
end
end Go.Proofs.YtindppnanjcoaaaGreatDoor.Ev
end
section
namespace Go.Proofs.YtindppnanjcoaaaGreatDoor.Ev
open Go
open Ab (OpRuns wpL wpOps_of_wpL)

def Out.good : Out → Bool
  | .bad => false
  | .or a b => a.good && b.good
  | _ => true

/-- The ways that end. -/
def Leaf : Out → Exit → Env → Hp → Prop
  | .n E H, e, E', H' => e = .normal ∧ E' = E ∧ H' = H
  | .x id E H, e, E', H' => e = .exit id ∧ E' = E ∧ H' = H
  | .r E H, e, E', H' => e = .ret ∧ E' = E ∧ H' = H
  | .bad, _, _, _ => False
  | .or a b, e, E', H' => Leaf a e E' H' ∨ Leaf b e E' H'

theorem out_or (K : Env → Hp → Out) (a b : Out) : Out.bnd K (.or a b) = .or (Out.bnd K a) (Out.bnd K b) := rfl

theorem bnd_good {K : Env → Hp → Out} : ∀ {o : Out}, (Out.bnd K o).good = true → o.good = true ∧ ∀ E H, Leaf o .normal E H → (K E H).good = true ∧ ∀ e E' H', Leaf (K E H) e E' H' → Leaf (Out.bnd K o) e E' H'
  | .n E H, h => ⟨rfl, fun E' H' ⟨_, h2, h3⟩ => by subst h2; subst h3; exact ⟨h, fun _ _ _ hl => hl⟩⟩
  | .x _ _ _, _ => ⟨rfl, fun _ _ ⟨h1, _⟩ => by cases h1⟩
  | .r _ _, _ => ⟨rfl, fun _ _ ⟨h1, _⟩ => by cases h1⟩
  | .bad, h => by cases h
  | .or a b, h => by
    rw [out_or] at h ⊢
    simp only [Out.good, Bool.and_eq_true] at h ⊢
    obtain ⟨a1, a2⟩ := bnd_good h.1
    obtain ⟨b1, b2⟩ := bnd_good h.2
    refine ⟨⟨a1, b1⟩, fun E H hl => ?_⟩
    rcases hl with hl | hl
    · exact ⟨(a2 E H hl).1, fun e E' H' h => .inl ((a2 E H hl).2 e E' H' h)⟩
    · exact ⟨(b2 E H hl).1, fun e E' H' h => .inr ((b2 E H hl).2 e E' H' h)⟩
theorem bnd_leaf {K : Env → Hp → Out} : ∀ {o : Out} {e : Exit} {E : Env} {H : Hp}, Leaf o e E H → e ≠ .normal → Leaf (Out.bnd K o) e E H
  | .n _ _, _, _, _, ⟨h1, _⟩, hne => absurd h1 hne
  | .x _ _ _, _, _, _, h, _ => h
  | .r _ _, _, _, _, h, _ => h
  | .bad, _, _, _, h, _ => h
  | .or _ _, _, _, _, .inl h, hne => .inl (bnd_leaf h hne)
  | .or _ _, _, _, _, .inr h, hne => .inr (bnd_leaf h hne)

theorem blk_good {id : Nat} : ∀ {o : Out}, (o.blk id).good = true → o.good = true
  | .n _ _, _ => rfl
  | .x _ _ _, _ => rfl
  | .r _ _, _ => rfl
  | .bad, h => by cases h
  | .or a b, h => by
    simp only [Out.blk, Out.good, Bool.and_eq_true] at h ⊢
    exact ⟨blk_good h.1, blk_good h.2⟩
theorem blk_leaf {id : Nat} : ∀ {o : Out} {e : Exit} {E : Env} {H : Hp}, Leaf o e E H → Leaf (o.blk id) (match e with | .exit i => if i = id then .normal else .exit i | e => e) E H
  | .n _ _, _, _, _, ⟨h1, h2⟩ => by subst h1; exact ⟨rfl, h2⟩
  | .r _ _, _, _, _, ⟨h1, h2⟩ => by subst h1; exact ⟨rfl, h2⟩
  | .bad, _, _, _, h => h.elim
  | .or _ _, _, _, _, .inl h => .inl (blk_leaf h)
  | .or _ _, _, _, _, .inr h => .inr (blk_leaf h)
  | .x i _ _, _, _, _, ⟨h1, h2⟩ => by
    subst h1
    simp only [Out.blk]
    by_cases hi : i = id
    · subst hi; simp only [Nat.beq_refl, cond_true, if_true]; exact ⟨rfl, h2⟩
    · have : Nat.beq i id = false := by rw [← Bool.not_eq_true, Nat.beq_eq]; exact hi
      simp only [this, cond_false, if_neg hi]; exact ⟨rfl, h2⟩

theorem ors_good {K : CV → Hp → Out} : ∀ {l : List (CV × Hp)}, (ors K l).good = true → l ≠ [] ∧ ∀ q ∈ l, (K q.1 q.2).good = true ∧ ∀ e E H, Leaf (K q.1 q.2) e E H → Leaf (ors K l) e E H
  | [], h => by cases h
  | [x], h => ⟨by simp, fun q hq => by simp at hq; subst hq; exact ⟨h, fun _ _ _ hl => hl⟩⟩
  | x :: y :: r, h => by
    simp only [ors, Out.good, Bool.and_eq_true] at h
    obtain ⟨_, ih⟩ := ors_good h.2
    refine ⟨by simp, fun q hq => ?_⟩
    simp only [List.mem_cons] at hq
    rcases hq with rfl | hq
    · exact ⟨h.1, fun _ _ _ hl => .inl hl⟩
    · obtain ⟨h1, h2⟩ := ih q (by simpa using hq)
      exact ⟨h1, fun e E H hl => .inr (h2 e E H hl)⟩

/-- A state of a function that is read. -/
def Sim (n : Nat) (σ : Sg) (E : Env) (H : Hp) (a : Act) (w : World) : Prop :=
  a.defers = [] ∧ a.tmps.size = n ∧ WOK σ H w ∧ ∀ t, t < 512 → RV σ ((getF CV 3 t).g E) (a.tmps.getD t undef)

theorem Sim.put {n : Nat} {σ σ' : Sg} {E : Env} {H H' : Hp} {a : Act} {w w' : World} (hs : Sim n σ E H a w) {dst : Option Nat} {v : CV} {rv : Value} (hd : ∀ d, dst = some d → d < n ∧ n ≤ 512) (hw : WOK σ' H' w') (he : Evo σ H w σ' H' w') (hr : RV σ' v rv) :
    Sim n σ' (putE E (dst.map (setF CV 3)) v) H' (a.put dst rv) w' := by
  obtain ⟨h1, h2, h3, h4⟩ := hs
  cases dst with
  | none => exact ⟨h1, h2, hw, fun t ht => (h4 t ht).mono he.ext⟩
  | some d =>
    obtain ⟨hd1, hd2⟩ := hd d rfl
    refine ⟨h1, by simpa [Act.put] using h2, hw, fun t ht => ?_⟩
    simp only [Option.map, putE, Act.put]
    by_cases htd : t = d
    · subst htd
      rw [get_same]
      have : t < a.tmps.size := by omega
      simpa [Array.getD, this] using hr
    · rw [get_ne _ _ _ _ _ (by rw [Nat.mod_eq_of_lt (by simpa using ht), Nat.mod_eq_of_lt (by simp; omega)]; exact htd)]
      have : (a.tmps.setIfInBounds d rv).getD t undef = a.tmps.getD t undef := by
        simp [Array.getD_eq_getD_getElem?, Array.getElem?_setIfInBounds_ne (Ne.symm htd)]
      rw [this]; exact (h4 t ht).mono he.ext

/-- What a call comes to. -/
def RunF (P : Program) (f : FuncId) (vals : Array Value) (w : World) (K : Value → World → Prop) : Prop :=
  match (callFunc f vals).run P w with
  | .ok (.value v) w' => K v w'
  | .ok (.enter g args) w' => Calls P g args w' fun e w'' => ∃ v, e = .returned v ∧ K v w''
  | _ => False

def RnOK (P : Program) (rn : Rn) : Prop := ∀ f xs H v H', rn f xs H = some (v, H') → ∀ σ w (vals : Array Value), WOK σ H w → RVs σ xs vals.toList →
  RunF P f vals w fun rv w' => ∃ σ', WOK σ' H' w' ∧ Evo σ H w σ' H' w' ∧ RV σ' v rv

section
variable {C : Cx} {rn : Rn} {n : Nat}

/-- A call as an operation. -/
theorem callV_ok (hrn : RnOK C.P rn) {E : Env} {H H' : Hp} {v : CV} {f : Operand} {xs : Array Operand} {ts : Array TypeId} {ty : TypeId} (h : callV rn E (compX f) (xs.toList.map compX) H = some (v, H')) :
    OK1 C.P (.call ⟨.value f, xs, ts⟩) ty (evO E) H v H' := by
  intro σ w r pos after guard dst hw hx
  unfold callV at h
  split at h
  · rename_i fn caps hf
    split at h
    · rename_i g
      have h1 : RV σ (evO E f) (r f) := hx f (by simp [Op.operands, Call.operands])
      have hf : evO E f = .f (.func g) caps := hf
      rw [hf] at h1
      obtain ⟨l, hrf, hl⟩ := h1
      have hmap : (xs.toList.map compX).map (evX E) = xs.toList.map (evO E) := by rw [List.map_map]; rfl
      rw [hmap] at h
      have hargs : RVs σ (xs.toList.map (evO E) ++ caps) ((xs.map r) ++ (⟨l⟩ : Array Value)).toList := by
        rw [Array.toList_append, Array.toList_map]
        exact (maps_rv fun x hx' => hx x (by simp only [Op.operands, Call.operands, Array.mem_append]; exact .inr (by simpa using hx'))).append hl
      have hrun := hrn g _ H v H' h σ w _ hw hargs
      have he : (execOp r ⟨dst, .call ⟨.value f, xs, ts⟩, ty, pos, after, guard⟩).run C.P w = (callFunc g ((xs.map r) ++ (⟨l⟩ : Array Value))).run C.P w := by
        simp [execOp, resolve, Deferred.ofValue, hrf, invoke]
      unfold RunF at hrun
      unfold OpRuns
      rw [he]
      generalize (callFunc g ((xs.map r) ++ (⟨l⟩ : Array Value))).run C.P w = res at hrun
      cases res with
      | ok nx w' => cases nx <;> first | exact hrun | exact hrun.elim
      | halt x w' => exact hrun.elim
    · cases h
  · cases h

theorem comp_nx {P : Program} {o : Op} {ty : TypeId} {x : X} {s : Bool} (h : comp P o ty = .nx x s) : ∃ y, o = .next y s ∧ compX y = x := by
  cases o with
  | next y s' => cases h; exact ⟨y, rfl, rfl⟩
  | load t x =>
    simp only [comp] at h
    split at h <;> cases h
  | indexAddr t x i =>
    simp only [comp] at h
    split at h
    · split at h <;> cases h
    · cases h
  | fieldAddr t x k =>
    simp only [comp] at h
    split at h
    · split at h
      · rename_i s _
        cases hb : Nat.beq s 0 <;> rw [hb] at h <;> cases h
      · cases h
    · cases h
  | call c =>
    simp only [comp] at h
    split at h
    · cases h
    · split at h
      · rename_i t _
        cases hb : (elemT P t).isSome <;> rw [hb] at h <;> cases h
      · cases h
    · cases h
  | _ => cases h
theorem comp_cl {P : Program} {o : Op} {ty : TypeId} {f : X} {xs : List X} (h : comp P o ty = .cl f xs) : ∃ g ys ts, o = .call ⟨.value g, ys, ts⟩ ∧ compX g = f ∧ ys.toList.map compX = xs := by
  cases o with
  | load t x =>
    simp only [comp] at h
    split at h <;> cases h
  | indexAddr t x i =>
    simp only [comp] at h
    split at h
    · split at h <;> cases h
    · cases h
  | fieldAddr t x k =>
    simp only [comp] at h
    split at h
    · split at h
      · rename_i s _
        cases hb : Nat.beq s 0 <;> rw [hb] at h <;> cases h
      · cases h
    · cases h
  | call c =>
    obtain ⟨cal, ys, ts⟩ := c
    simp only [comp] at h
    split at h
    · cases h; exact ⟨_, _, _, rfl, rfl, rfl⟩
    · split at h
      · rename_i t _
        cases hb : (elemT P t).isSome <;> rw [hb] at h <;> cases h
      · cases h
    · cases h
  | _ => cases h

theorem compK_eq (j : J) (E : Env) (H : Hp) (K : Env → Hp → Out) : (compK C rn j).f E H K = stepJ C rn j E H K := by
  have hv : ∀ (d : S Env CV) (c : Option CV), (Option.rec (motive := fun _ => Out) .bad (fun v => K (d.s v E) H) c : Out) = next1 (val H c) (some d) E K := by
    intro d c; cases c <;> rfl
  obtain ⟨g, i, d⟩ := j
  unfold compK
  split <;> rename_i h1 h2 h3 <;> (try simp only at h1 h2 h3; subst h1; subst h2; subst h3) <;> first | rfl | exact hv _ _

/-- One operation of a plain region. -/
theorem step_ok (hrn : RnOK C.P rn) {ops : Array Oper} {o : Oper} {E : Env} {H : Hp} {K : Env → Hp → Out} (hg : (stepJ C rn (compJ C.P n ops o) E H K).good = true) {σ : Sg} {a : Act} {w : World} (hs : Sim n σ E H a w)
    {next : Act → World → Prop} {Q : Exit → Act → World → Prop}
    (hn : ∀ E' H' σ' a' w', (K E' H').good = true → (∀ e E2 H2, Leaf (K E' H') e E2 H2 → Leaf (stepJ C rn (compJ C.P n ops o) E H K) e E2 H2) → Sim n σ' E' H' a' w' → Evo σ H w σ' H' w' → next a' w') :
    if Region.wanted o (yielded ops a.tmps) then o.wp C.P a w next Q else next (a.put o.dst undef) w := by
  obtain ⟨h1, h2, h3, h4⟩ := hs
  have hs : Sim n σ E H a w := ⟨h1, h2, h3, h4⟩
  unfold compJ at hg hn
  cases hd : dstOk n o.dst with
  | false => rw [hd] at hg; cases hg
  | true =>
    rw [hd] at hg hn
    simp only [cond_true] at hg hn
    have hdst : ∀ d, o.dst = some d → d < n ∧ n ≤ 512 := by
      intro d hod
      rw [hod] at hd
      simp only [dstOk, Bool.and_eq_true, Nat.blt_eq, Nat.ble_eq] at hd
      exact hd
    -- the operation is carried out
    have hdo : ∀ g, (doJ C rn ⟨g, comp C.P o.op o.type, o.dst.map (setF CV 3)⟩ E H K).good = true →
        (∀ E' H' σ' a' w', (K E' H').good = true → (∀ e E2 H2, Leaf (K E' H') e E2 H2 → Leaf (doJ C rn ⟨g, comp C.P o.op o.type, o.dst.map (setF CV 3)⟩ E H K) e E2 H2) → Sim n σ' E' H' a' w' → Evo σ H w σ' H' w' → next a' w') → o.wp C.P a w next Q := by
      obtain ⟨dst, op, ty, pos, after, guard⟩ := o
      simp only at hdst ⊢
      intro g hg hn
      have hval : ∀ {r : Option (CV × Hp)}, (∀ v H', r = some (v, H') → OK1 C.P op ty (evO E) H v H') → (next1 r (dst.map (setF CV 3)) E K).good = true →
          (∀ E' H' σ' a' w', (K E' H').good = true → (∀ e E2 H2, Leaf (K E' H') e E2 H2 → Leaf (next1 r (dst.map (setF CV 3)) E K) e E2 H2) → Sim n σ' E' H' a' w' → Evo σ H w σ' H' w' → next a' w') → Oper.wp C.P ⟨dst, op, ty, pos, after, guard⟩ a w next Q := by
        intro r hok hg hn
        rcases r with _ | ⟨v, H'⟩
        · cases hg
        · refine Ab.OpRuns.wp (hok v H' rfl σ w a.eval pos after guard dst h3 (fun x _ => evO_rv h4 x)) ?_
          rintro rv w' ⟨σ', k1, k2, k3⟩
          exact hn _ _ σ' _ _ hg (fun _ _ _ h => h) (hs.put hdst k1 k2 k3) k2
      unfold doJ at hg hn
      simp only at hg hn
      generalize hc : comp C.P op ty = ci at hg hn
      cases ci with
      | nx x s =>
        simp only at hg hn
        obtain ⟨y, rfl, rfl⟩ := comp_nx hc
        obtain ⟨hne, hall⟩ := ors_good hg
        refine Ab.OpRuns.wp (ok_next (ty := ty) (ρ := evO E) (x := y) (isS := s) hne σ w a.eval pos after guard dst h3 (evO_rv h4 y)) ?_
        rintro rv w' ⟨q, hq, σ', k1, k2, k3⟩
        obtain ⟨g1, g2⟩ := hall q hq
        exact hn _ _ σ' _ _ g1 g2 (hs.put hdst k1 k2 k3) k2
      | cl f xs =>
        simp only at hg hn
        obtain ⟨g', ys, ts, rfl, rfl, rfl⟩ := comp_cl hc
        exact hval (fun v H' hr => callV_ok hrn hr) hg hn
      | _ =>
        simp only at hg hn
        rw [← hc] at hg hn
        exact hval (fun v H' hr => exec_ok hr (by simp)) hg hn
    cases hgd : o.guard with
    | none =>
      simp only [hgd] at hg hn
      have hwant : Region.wanted o (yielded ops a.tmps) = true := by simp [Region.wanted, hgd]
      rw [hwant, if_pos rfl]
      exact hdo none hg hn
    | some p =>
      obtain ⟨j, wt⟩ := p
      simp only [hgd] at hg hn
      split at hg
      · rename_i t ht
        simp only [ht] at hn
        cases hlt : Nat.blt t 512 with
        | false => rw [hlt] at hg; cases hg
        | true =>
          rw [hlt] at hg hn
          simp only [cond_true] at hg hn
          rw [Nat.blt_eq] at hlt
          have hr := h4 t hlt
          have hy : ∀ b, a.tmps.getD t undef = .bool b → yielded ops a.tmps j = some b := by
            intro b hb
            have hts : t < a.tmps.size := by
              rcases Nat.lt_or_ge t a.tmps.size with h | h
              · exact h
              · simp [Array.getD, Nat.not_lt.2 h, undef] at hb
            have : a.tmps[t]? = some (.bool b) := by
              simp [Array.getD, hts] at hb; simp [hts, hb]
            simp [yielded, ht, this]
          have hy2 : ∀ x, a.tmps.getD t undef = .tuple x → yielded ops a.tmps j = none := by
            intro x hx
            simp only [yielded, ht, Option.bind_some]
            rcases Nat.lt_or_ge t a.tmps.size with h | h
            · have : a.tmps[t]? = some (.tuple x) := by
                simp [Array.getD, h] at hx; simp [h, hx]
              simp [this]
            · simp [h]
          unfold stepJ at hg hn
          simp only [want, yes] at hg hn
          generalize (getF CV 3 t).g E = cg at hr hg hn
          cases cg with
          | b q =>
            simp only at hg hn
            have hyq := hy q hr
            cases hq : (bif wt then q else not q) with
            | true =>
              rw [hq] at hg hn
              simp only [cond_true] at hg hn
              have hwant : Region.wanted o (yielded ops a.tmps) = true := by
                simp only [Region.wanted, hgd, hyq]
                cases wt <;> cases q <;> simp_all
              rw [hwant, if_pos rfl]
              exact hdo _ hg hn
            | false =>
              rw [hq] at hg hn
              simp only [cond_false, cond_true] at hg hn
              have hwant : Region.wanted o (yielded ops a.tmps) = false := by
                simp only [Region.wanted, hgd, hyq]
                cases wt <;> cases q <;> simp_all
              rw [hwant]
              simp only [Bool.false_eq_true, if_false]
              exact hn _ _ σ _ _ hg (fun _ _ _ h => h) (hs.put hdst h3 (.refl _ _ _) rfl) (.refl _ _ _)
          | v x =>
            cases x with
            | tuple xs =>
              simp only [cond_false, cond_true] at hg hn
              have hwant : Region.wanted o (yielded ops a.tmps) = false := by
                simp [Region.wanted, hgd, hy2 xs hr]
              rw [hwant]
              simp only [Bool.false_eq_true, if_false]
              exact hn _ _ σ _ _ hg (fun _ _ _ h => h) (hs.put hdst h3 (.refl _ _ _) rfl) (.refl _ _ _)
            | _ => cases hg
          | _ => cases hg
      · cases hg

theorem regL_cons (j : KJ) (js : List KJ) (E : Env) (H : Hp) : regL (j :: js) E H = j.f E H (regL js) := rfl

/-- The operations of a plain region. -/
theorem regL_ok (hrn : RnOK C.P rn) {ops : Array Oper} {σ0 : Sg} {H0 : Hp} {w0 : World} {ot : Out} : ∀ {os : List Oper} {E : Env} {H : Hp} {σ : Sg} {a : Act} {w : World}, (regL (os.map fun o => compK C rn (compJ C.P n ops o)) E H).good = true →
    (∀ e E' H', Leaf (regL (os.map fun o => compK C rn (compJ C.P n ops o)) E H) e E' H' → Leaf ot e E' H') → Sim n σ E H a w → Evo σ0 H0 w0 σ H w →
    wpL C.P ops (fun e a' w' => ∃ σ' E' H', Leaf ot e E' H' ∧ Sim n σ' E' H' a' w' ∧ Evo σ0 H0 w0 σ' H' w') os a w
  | [], E, H, σ, a, w, _, hl, hs, he => ⟨σ, E, H, hl _ _ _ ⟨rfl, rfl, rfl⟩, hs, he⟩
  | o :: os, E, H, σ, a, w, hg, hl, hs, he => by
    simp only [List.map_cons, regL_cons, compK_eq] at hg hl
    simp only [wpL]
    exact step_ok hrn hg hs fun E' H' σ' a' w' k1 k2 k3 k4 => regL_ok hrn k1 (fun e E2 H2 h => hl e E2 H2 (k2 e E2 H2 h)) k3 (he.trans k4)

/-- What code comes to. -/
def Post (n : Nat) (σ : Sg) (H : Hp) (w : World) (o : Out) : Exit → Act → World → Prop := fun e a' w' => ∃ σ' E' H', Leaf o e E' H' ∧ Sim n σ' E' H' a' w' ∧ Evo σ H w σ' H' w'

theorem region_ok (hrn : RnOK C.P rn) {id : Nat} {ops : Array Oper} {E : Env} {H : Hp} {σ : Sg} {a : Act} {w : World} (hg : (regL (regK C n rn ops) E H).good = true) (hs : Sim n σ E H a w) :
    (Code.region id ops false).wp C.P (Post n σ H w (regL (regK C n rn ops) E H)) a w := by
  refine wp_region ?_
  have := wpOps_of_wpL (P := C.P) (ops := ops) (Q := Post n σ H w (regL (regK C n rn ops) E H)) ops.toList 0 (by simp) a w (regL_ok hrn hg (fun _ _ _ h => h) hs (.refl _ _ _))
  rwa [List.range_eq_range', ← Array.length_toList]
end
end Go.Proofs.YtindppnanjcoaaaGreatDoor.Ev
end
section
namespace Go.Proofs.YtindppnanjcoaaaGreatDoor.Ev
open Go
open Ab (run_sizeOf' run_zeroValue' Addr.add_none)

/-- What code comes to when its regions do what is said of them. -/
def CodeOK (P : Program) (rn : Nat → Code → Env → Hp → Out) : Prop := ∀ n c E H, (rn n c E H).good = true → ∀ σ a w, Sim n σ E H a w → c.wp P (Post n σ H w (rn n c E H)) a w

theorem Post.mono {n : Nat} {σ σ1 : Sg} {H H1 : Hp} {w w1 : World} {o o1 : Out} (he : Evo σ H w σ1 H1 w1) {e : Exit} (hl : ∀ E' H', Leaf o1 e E' H' → Leaf o e E' H') {a' : Act} {w' : World} (h : Post n σ1 H1 w1 o1 e a' w') : Post n σ H w o e a' w' := by
  obtain ⟨σ', E', H', h1, h2, h3⟩ := h
  exact ⟨σ', E', H', hl _ _ h1, h2, he.trans h3⟩

section
variable {C : Cx} {rn : Rn}

theorem code_ok (hrn : RnOK C.P rn) (n : Nat) (hdr : ∀ id ops E H, okS ops = true → ((bif calm ops then rgC (regK C n rn ops) else drawn C n rn ops) E H).good = true → ∀ σ a w, Sim n σ E H a w → (Code.region id ops true).wp C.P (Post n σ H w ((bif calm ops then rgC (regK C n rn ops) else drawn C n rn ops) E H)) a w) :
    ∀ c E H, ((comC C n rn c).f E H).good = true → ∀ σ a w, Sim n σ E H a w → c.wp C.P (Post n σ H w ((comC C n rn c).f E H)) a w := by
  intro c
  induction c with
  | skip => intro E H _ σ a w hs; exact wp_skip ⟨σ, E, H, ⟨rfl, rfl, rfl⟩, hs, .refl _ _ _⟩
  | label l => intro E H _ σ a w hs; exact wp_label ⟨σ, E, H, ⟨rfl, rfl, rfl⟩, hs, .refl _ _ _⟩
  | exit id => intro E H _ σ a w hs; exact wp_exit ⟨σ, E, H, ⟨rfl, rfl, rfl⟩, hs, .refl _ _ _⟩
  | ret => intro E H _ σ a w hs; exact wp_ret ⟨σ, E, H, ⟨rfl, rfl, rfl⟩, hs, .refl _ _ _⟩
  | region id ops draw =>
    intro E H hg σ a w hs
    cases draw with
    | false => exact region_ok hrn hg hs
    | true =>
      cases ho : okS ops with
      | false =>
        simp only [comC, ho, cond_true, cond_false] at hg
        cases hg
      | true =>
        have he : (comC C n rn (.region id ops true)).f E H = (bif calm ops then rgC (regK C n rn ops) else drawn C n rn ops) E H := by
          simp only [comC, ho, cond_true]
          cases calm ops <;> rfl
        rw [he] at hg ⊢
        exact hdr id ops E H ho hg σ a w hs
  | seq x y ihx ihy =>
    intro E H hg σ a w hs
    simp only [comC] at hg ⊢
    obtain ⟨g1, g2⟩ := bnd_good (show (Out.bnd (comC C n rn y).f ((comC C n rn x).f E H)).good = true from hg)
    refine wp_seq (wp_mono (ihx E H g1 σ a w hs) ?_)
    rintro e a' w' ⟨σ', E', H', hl, h2, h3⟩
    cases e with
    | normal =>
      obtain ⟨k1, k2⟩ := g2 E' H' hl
      exact wp_mono (ihy E' H' k1 σ' a' w' h2) fun e a'' w'' h => h.mono h3 (fun _ _ => k2 e _ _)
    | exit id => exact ⟨σ', E', H', bnd_leaf hl (by simp), h2, h3⟩
    | goto l => exact ⟨σ', E', H', bnd_leaf hl (by simp), h2, h3⟩
    | ret => exact ⟨σ', E', H', bnd_leaf hl (by simp), h2, h3⟩
    | panic c => exact ⟨σ', E', H', bnd_leaf hl (by simp), h2, h3⟩
    | outgrown => exact ⟨σ', E', H', bnd_leaf hl (by simp), h2, h3⟩
  | cond c x y ihx ihy =>
    intro E H hg σ a w hs
    have he : (comC C n rn (.cond c x y)).f E H = cndF (evO E c) (comC C n rn x).f (comC C n rn y).f E H := by simp only [comC]; rfl
    rw [he] at hg ⊢
    have hr := evO_rv hs.2.2.2 c
    generalize evO E c = cc at hg hr ⊢
    unfold cndF at hg ⊢
    split at hg
    · rename_i q
      have hb : a.eval c = .bool q := hr
      cases q with
      | true => exact wp_cond_true hb (ihx E H hg σ a w hs)
      | false => exact wp_cond_false hb (ihy E H hg σ a w hs)
    · cases hg
  | block id b ih =>
    intro E H hg σ a w hs
    have he : (comC C n rn (.block id b)).f E H = Out.blk id ((comC C n rn b).f E H) := by simp only [comC]; rfl
    rw [he] at hg ⊢
    refine wp_block (wp_mono (ih E H (blk_good hg) σ a w hs) ?_)
    rintro e a' w' ⟨σ', E', H', hl, h2, h3⟩
    have hl' := blk_leaf (id := id) hl
    cases e with
    | exit i =>
      simp only [Exit.inBlock]
      by_cases hi : i = id
      · simp only [hi, if_true] at hl' ⊢; exact ⟨σ', E', H', hl', h2, h3⟩
      · simp only [hi, if_false] at hl' ⊢; exact ⟨σ', E', H', hl', h2, h3⟩
    | normal => exact ⟨σ', E', H', hl', h2, h3⟩
    | goto l => exact ⟨σ', E', H', hl', h2, h3⟩
    | ret => exact ⟨σ', E', H', hl', h2, h3⟩
    | panic c => exact ⟨σ', E', H', hl', h2, h3⟩
    | outgrown => exact ⟨σ', E', H', hl', h2, h3⟩
  | loop c ih =>
    intro E H hg σ a w hs
    have he : (comC C n rn (.loop c)).f E H = lpF 5000 (comC C n rn c).f E H := by simp only [comC]; rfl
    rw [he] at hg ⊢
    intro b k cs
    have key : ∀ m E H, (lpF m (comC C n rn c).f E H).good = true → ∀ σ a w, Sim n σ E H a w →
        ∃ e a' w', Post n σ H w (lpF m (comC C n rn c).f E H) e a' w' ∧ Arrives C.P (lone (b.at a (.code c :: .inLoop c :: k)) cs w) b k cs e a' w' := by
      intro m
      induction m with
      | zero => intro E H hg; cases hg
      | succ m ihm =>
        intro E H hg σ a w hs
        obtain ⟨g1, g2⟩ := bnd_good (show (Out.bnd (lpF m (comC C n rn c).f) ((comC C n rn c).f E H)).good = true from hg)
        obtain ⟨e, a₁, w₁, ⟨σ', E', H', hl, h2, h3⟩, harr⟩ := ih E H g1 σ a w hs b (.inLoop c :: k) cs
        have pass : e ≠ .normal → Post n σ H w (lpF (m + 1) (comC C n rn c).f E H) e a₁ w₁ := fun hne => ⟨σ', E', H', bnd_leaf (K := lpF m (comC C n rn c).f) hl hne, h2, h3⟩
        cases e with
        | normal =>
          obtain ⟨k1, k2⟩ := g2 E' H' hl
          obtain ⟨e₂, a₂, w₂, hq₂, harr₂⟩ := ihm E' H' k1 σ' a₁ w₁ h2
          exact ⟨e₂, a₂, w₂, hq₂.mono h3 (fun _ _ => k2 e₂ _ _), .of_steps (Steps.trans harr (.one step_inLoop)) harr₂⟩
        | exit id => exact ⟨_, a₁, w₁, pass (by simp), .pass (x := .inLoop c) rfl (fun _ _ => .inl (by simp)) harr⟩
        | goto l => exact ⟨_, a₁, w₁, pass (by simp), .pass (x := .inLoop c) rfl (fun _ _ => .inl (by simp)) harr⟩
        | ret => exact ⟨_, a₁, w₁, pass (by simp), .pass (x := .inLoop c) rfl (fun _ _ => .inl (by simp)) harr⟩
        | panic ch => exact ⟨_, a₁, w₁, pass (by simp), .pass (x := .inLoop c) rfl (fun _ _ => .inl (by simp)) harr⟩
        | outgrown => exact ⟨_, a₁, w₁, pass (by simp), .pass (x := .inLoop c) rfl (fun _ _ => .inl (by simp)) harr⟩
    obtain ⟨e, a', w', hq, harr⟩ := key 5000 E H hg σ a w hs
    exact ⟨e, a', w', hq, .of_steps (.one step_loop) harr⟩
  | _ => intro E H hg; simp only [comC] at hg; cases hg

/- What a function gives back. -/
theorem load_ok {P : Program} {σ : Sg} {w : World} {id : Nat} {l : List CV} (he : Ent σ w id (.k l)) {b p c : Nat} (hb : σ id = some (b, p, c)) {t : TypeId} {o : Nat} {v : CV} (h : partC P t l o = some v) :
    ∃ u, (loadVar t ⟨b, p + o, none⟩).run P w = .ok u w ∧ RV σ v u := by
  unfold partC at h
  split at h
  · rename_i d hd
    cases hag : notAgg d with
    | true =>
      rw [hag] at h
      obtain ⟨u, h3, h4⟩ := he.one hb (show nth l o = some v from h)
      exact ⟨u, by simp [loadVar, Ab.run_isAgg' hd, ← notAgg_eq, hag, h4], h3⟩
    | false =>
      rw [hag] at h
      simp only [cond_false] at h
      split at h
      · rename_i n hn
        split at h
        · rename_i q hq
          cases h
          obtain ⟨f, f1, f2, _⟩ := he.seg hb hq
          obtain ⟨i, hi, rfl⟩ := sizeT_eq hn
          refine ⟨.agg ((List.range i.size).map f).toArray, ?_, ⟨_, rfl, f1⟩⟩
          have := run_loadCells (P := P) w ⟨b, p + o, none⟩ i.size f (fun j hj => by rw [Addr.add_none]; exact f2 j hj)
          simp [loadVar, Ab.run_isAgg' hd, ← notAgg_eq, hag, run_sizeOf' hi, this]
        · cases h
      · cases h
  · cases h

theorem retL_ok {P : Program} {n : Nat} {σ : Sg} {E : Env} {H : Hp} {a : Act} {w : World} (hs : Sim n σ E H a w) : ∀ {rs : List ResultVar} {vs : List CV}, retL P H E rs = some vs → ∃ l, (rs.mapM (Ab.readRes a.tmps)).run P w = .ok l w ∧ RVs σ vs l
  | [], vs, h => by cases h; exact ⟨[], by simp, rfl⟩
  | .tmp t :: rs, vs, h => by
    simp only [retL] at h
    split at h
    · rename_i l hl
      cases h
      obtain ⟨m, h1, h2⟩ := retL_ok hs hl
      exact ⟨a.tmps.getD t undef :: m, by simp [List.mapM_cons, Ab.readRes, h1], _, _, rfl, evO_rv hs.2.2.2 (.tmp t), h2⟩
    · cases h
  | .cell x t :: rs, vs, h => by
    simp only [retL] at h
    split at h
    · rename_i id o l hx hl
      split at h
      · rename_i c hc
        split at h
        · rename_i v hv
          cases h
          obtain ⟨m, h1, h2⟩ := retL_ok hs hl
          have hr := evO_rv hs.2.2.2 (.tmp x)
          rw [hx] at hr
          obtain ⟨b, p, c', hb, hrx⟩ := hr
          have hent := hs.2.2.1.ent id (hs.2.2.1.lt hb)
          rw [row_eq hc] at hent
          obtain ⟨u, e1, e2⟩ := load_ok hent.rd hb hv
          have hrx : a.tmps.getD x undef = .pointer (some ⟨b, p + o, none⟩) := hrx
          exact ⟨u :: m, by simp [List.mapM_cons, Ab.readRes, hrx, asAddr, e1, h1], _, _, rfl, e2, h2⟩
        · cases h
      · cases h
    · cases h

theorem retV_ok {P : Program} {n : Nat} {σ : Sg} {E : Env} {H : Hp} {a : Act} {w : World} (hs : Sim n σ E H a w) {fn : Func} {v : CV} (h : retV P H fn E = some v) : ∃ rv, (results fn a.tmps).run P w = .ok rv w ∧ RV σ v rv := by
  unfold retV at h
  have hm : ∀ {l : List Value}, (fn.results.toList.mapM (Ab.readRes a.tmps)).run P w = .ok l w → (results fn a.tmps).run P w = .ok (if h : l.toArray.size = 1 then l.toArray[0] else .tuple l.toArray) w := by
    intro l hl
    have : (fn.results.mapM (Ab.readRes a.tmps)).run P w = .ok l.toArray w := by
      rw [Array.mapM_eq_mapM_toList]
      simp only [Sem.run_map, hl, Result.andThen_ok]
    simp only [Ab.results_eq, Sem.run_bind, this, Result.andThen_ok, Sem.run_pure]
  split at h
  · rename_i x hx
    cases h
    obtain ⟨l, h1, u, r, rfl, h2, rfl⟩ := retL_ok hs hx
    exact ⟨u, by simpa using hm h1, h2⟩
  · rename_i vs hne hx
    cases h
    obtain ⟨l, h1, h2⟩ := retL_ok hs hx
    refine ⟨.tuple l.toArray, ?_, l, rfl, h2⟩
    have hl := h2.length
    have : l.toArray.size ≠ 1 := by
      intro hc
      simp only [List.size_toArray] at hc
      rw [hc] at hl
      obtain ⟨x, rfl⟩ := List.length_eq_one_iff.1 hl
      exact hne x rfl
    have := hm h1
    rw [dif_neg (by assumption)] at this
    exact this
  · cases h

theorem args_get : ∀ (xs : List CV) (i : Nat) (E : Env) (t : Nat), i + xs.length ≤ 512 → t < 512 → (getF CV 3 t).g (args xs i E) = if i ≤ t ∧ t < i + xs.length then xs.getD (t - i) .any else (getF CV 3 t).g E
  | [], i, E, t, _, _ => by rw [if_neg (by simp)]; rfl
  | x :: r, i, E, t, hle, ht => by
    simp only [List.length_cons] at hle
    rw [args, args_get r (i + 1) _ t (by omega) ht]
    by_cases h1 : t = i
    · subst h1
      rw [if_neg (by omega), if_pos (by simp), get_same]
      simp
    · rw [get_ne _ _ _ _ _ (by rw [Nat.mod_eq_of_lt (by simpa using ht), Nat.mod_eq_of_lt (by simp; omega)]; exact h1)]
      by_cases h2 : i + 1 ≤ t ∧ t < i + 1 + r.length
      · rw [if_pos h2, if_pos (by simp; omega)]
        rw [show t - i = (t - (i + 1)) + 1 by omega]; simp
      · rw [if_neg h2, if_neg (by simp; omega)]

theorem Sim.enter {σ : Sg} {H : Hp} {w : World} {xs : List CV} {vals : Array Value} {n : Nat} (hw : WOK σ H w) (hr : RVs σ xs vals.toList) (hn : xs.length ≤ n) (hm : n ≤ 512) :
    Sim n σ (args xs 0 noEnv) H { tmps := vals ++ Array.replicate (n - vals.size) undef, defers := [] } w := by
  have hl := hr.length
  simp only [Array.length_toList] at hl
  refine ⟨rfl, by simp; omega, hw, fun t ht => ?_⟩
  rw [args_get _ _ _ _ (by omega) ht]
  by_cases h : 0 ≤ t ∧ t < 0 + xs.length
  · rw [if_pos h]
    have hx : nth xs t = some (xs.getD (t - 0) .any) := by
      rw [nth_eq]
      have : t < xs.length := by omega
      simp [List.getD, this]
    obtain ⟨v, hv, hrv⟩ := hr.nth hx
    rw [Array.getElem?_toList] at hv
    have : (vals ++ Array.replicate (n - vals.size) undef).getD t undef = v := by
      simp [Array.getD_eq_getD_getElem?, Array.getElem?_append_left (show t < vals.size by omega), hv]
    rw [this]; exact hrv
  · rw [if_neg h]
    have h1 : (getF CV 3 t).g noEnv = .v undef := get_all _ _ _
    rw [h1]
    show _ = undef
    rw [Array.getD_eq_getD_getElem?, Array.getElem?_append_right (by omega)]
    by_cases h2 : t - vals.size < n - vals.size
    · simp [h2]
    · rw [Array.getElem?_eq_none (by simp; omega)]; rfl

/-- The functions that are entered. -/
theorem run_enter {P : Program} (hN : ∀ (f : FuncId) (fn : Func), P.funcs[f]? = some fn → (fn.name == "runtime.NumGoroutine") = false) {f : FuncId} {fn : Func} {c : Code} (hf : P.funcs[f]? = some fn) (hb : fn.body = some c) (vals : Array Value) (w : World) :
    (callFunc f vals).run P w = .ok (.enter f vals) w := by
  have h1 : (program).run P w = .ok P w := rfl
  simp only [callFunc, Sem.run_bind, h1, Result.andThen_ok, hf, hN f fn hf, hb, Option.isNone_some, Bool.false_eq_true, if_false, Sem.run_pure]

/-- A function that is read comes to what its ways come to. -/
theorem enter_ok {run : Nat → Code → Env → Hp → Out} (hcode : CodeOK C.P run) (hN : ∀ (f : FuncId) (fn : Func), C.P.funcs[f]? = some fn → (fn.name == "runtime.NumGoroutine") = false) {f : FuncId} {fn : Func} {c : Code} (hf : C.P.funcs[f]? = some fn) (hb : fn.body = some c)
    {xs : List CV} {H : Hp} (hl : xs.length ≤ fn.ntmps) (hm : fn.ntmps ≤ 512) (hg : (run fn.ntmps c (args xs 0 noEnv) H).good = true)
    (hret : ∀ e E' H', Leaf (run fn.ntmps c (args xs 0 noEnv) H) e E' H' → (e = .normal ∨ e = .ret) ∧ ∃ v, retV C.P H' fn E' = some v) {σ : Sg} {w : World} {vals : Array Value} (hw : WOK σ H w) (hr : RVs σ xs vals.toList)
    {K : Value → World → Prop} (hK : ∀ e E' H' σ' w' v rv, Leaf (run fn.ntmps c (args xs 0 noEnv) H) e E' H' → retV C.P H' fn E' = some v → WOK σ' H' w' → Evo σ H w σ' H' w' → RV σ' v rv → K rv w') : RunF C.P f vals w K := by
  unfold RunF
  rw [run_enter hN hf hb]
  refine calls_of_wp hf hb (wp_mono (hcode _ c _ H hg σ _ w (Sim.enter hw hr hl hm)) ?_)
  rintro e a' w' ⟨σ', E', H', hlf, hs, he⟩
  obtain ⟨hee, v, hv⟩ := hret e E' H' hlf
  obtain ⟨rv, e1, e2⟩ := retV_ok hs hv
  have fin : a'.defers = [] ∧ ∃ v, (results fn a'.tmps).run C.P w' = .ok v w' ∧ ∃ v1, Ending.returned v = .returned v1 ∧ K v1 w' :=
    ⟨hs.1, rv, e1, rv, rfl, hK e E' H' σ' w' v rv hlf hv hs.2.2.1 he e2⟩
  rcases hee with rfl | rfl
  · exact fin
  · exact fin
end
end Go.Proofs.YtindppnanjcoaaaGreatDoor.Ev
end
