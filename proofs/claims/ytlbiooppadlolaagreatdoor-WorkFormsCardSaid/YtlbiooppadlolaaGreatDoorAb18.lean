/- Lists that are given up to be data, and lists that are lent to a call. Texts: pieces of them, bytes as a text, their order. Lists that are written in place and grow as well. Conditions: none. -/
import Derived.Test.YtlbiooppadlolaaGreatDoorAb15
import Derived.Laws.BytesArg
section
namespace Go.Proofs.YtlbiooppadlolaaGreatDoor.Ab
open Go

/-- The block of a list is read from now on, and not written. -/
theorem WOK.freeze {g : G} {w : World} {H : List HE} {id s : Nat} {l : List D} {e : TypeId} (hw : WOK g w H) (hH : H[id]? = some (.lst l e s)) (hs : ∀ x ∈ l, x.cells.length = s) :
    ∃ g', WOK g' w (H.set id .dead) ∧ Evo g w g' w ∧ (∀ i, g'.τ i = g.τ i) ∧ (∀ a cap, g.τ id = some (0, a, cap) → RepD g'.Pr w (.sl l) (.slice a l.length cap)) := by
  have hidlt : id < H.length := (List.getElem?_eq_some_iff.1 hH).1
  obtain ⟨a0, cap0, f1, f2, f3, f4⟩ := hw.lst id l e s hH
  let g' : G := { σ := g.σ, τ := g.τ, υ := g.υ, X := g.X, Pr := fun b o => g.Pr b o ∨ (0 < cap0 ∧ g.blk id (.lst l e s) b ∧ o < l.length * s) }
  have hXb : ∀ b, g.blk id (.lst l e s) b → g.X b := fun b hb => hw.blk id _ b hH hb
  have hev : Evo g w g' w := {
    same := ⟨rfl, rfl, rfl⟩
    size := Nat.le_refl _
    pr := fun b o hp => ⟨.inl hp, rfl⟩
    prn := fun b o h => by
      rcases h with h | ⟨_, h, _⟩
      · exact .inl h
      · exact .inr (.inl (hXb b h))
    x := fun b h => .inl h
    keep := fun b _ _ => rfl
    σ := fun _ _ h => h
    τ := fun _ m a cap h => ⟨m, a, cap, h, .inr ⟨rfl, rfl, rfl⟩⟩ }
  have hget : ∀ (i : Nat) e, (H.set id .dead)[i]? = some e → (i = id ∧ e = .dead) ∨ (i ≠ id ∧ H[i]? = some e) := by
    intro i e he
    by_cases hi : i = id
    · subst hi; rw [List.getElem?_set_self hidlt] at he; exact .inl ⟨rfl, (Option.some.inj he).symm⟩
    · rw [List.getElem?_set_ne (Ne.symm hi)] at he; exact .inr ⟨hi, he⟩
  have hne : ∀ (i : Nat) x b, i ≠ id → H[i]? = some x → g.blk i x b → ¬ g.blk id (.lst l e s) b := fun i x b hi hx hb hc => hi (hw.sep i id _ _ b hx hH hb hc)
  refine ⟨g', ⟨?_, hw.xs, ?_, ?_, ?_, ?_, ?_, ?_, ?_, hw.kcE hev⟩, hev, fun _ => rfl, ?_⟩
  · intro b o h
    rcases h with h | ⟨_, h, _⟩
    · exact hw.pr b o h
    · exact hw.xs b (hXb b h)
  · intro i x b he hb
    rcases hget i x he with ⟨rfl, rfl⟩ | ⟨hi, h⟩
    · simp [G.blk] at hb
    · exact hw.blk i x b h (by cases x <;> exact hb)
  · intro i i' x x' b he he' hb hb'
    rcases hget i x he with ⟨rfl, rfl⟩ | ⟨hi, h⟩
    · simp [G.blk] at hb
    · rcases hget i' x' he' with ⟨rfl, rfl⟩ | ⟨hi', h'⟩
      · simp [G.blk] at hb'
      · exact hw.sep i i' x x' b h h' (by cases x <;> exact hb) (by cases x' <;> exact hb')
  · intro i c he
    rcases hget i _ he with ⟨_, h⟩ | ⟨hi, h⟩
    · cases h
    · obtain ⟨b1, arr1, et1, g1, g2, g3, g4, g5⟩ := hw.row i c h
      refine ⟨b1, arr1, et1, g1, g2, g3, fun k x v hx hv => (g4 k x v hx hv).mono hev, fun o hp => ?_⟩
      rcases hp with hp | ⟨_, hp, _⟩
      · exact g5 o hp
      · exact hne i _ b1 hi h g1 hp
  · intro i n e1 s1 he
    rcases hget i _ he with ⟨_, h⟩ | ⟨hi, h⟩
    · cases h
    · obtain ⟨a, cap, g1, g2, g3, g4⟩ := hw.tok i n e1 s1 h
      refine ⟨a, cap, g1, g2, g3, fun hlt => ?_⟩
      obtain ⟨b1, arr1, k1, k2, k3, k4⟩ := g4 hlt
      refine ⟨b1, arr1, k1, k2, k3, fun o hp => ?_⟩
      rcases hp with hp | ⟨_, hp, _⟩
      · exact k4 o hp
      · exact absurd hp (hne i _ b1 hi h (by simp [G.blk, g1, hlt, k1]))
  · intro i l1 e1 s1 he
    rcases hget i _ he with ⟨_, h⟩ | ⟨hi, h⟩
    · cases h
    · obtain ⟨a, cap, g1, g2, g3, g4⟩ := hw.lst i l1 e1 s1 h
      refine ⟨a, cap, g1, g2, g3, fun hlt => ?_⟩
      obtain ⟨b1, arr1, k1, k0, k2, k3, k4, k5⟩ := g4 hlt
      refine ⟨b1, arr1, k1, k0, k2, k3, fun o hp => ?_, fun k x v hx hv => (k5 k x v hx hv).mono hev.pr⟩
      rcases hp with hp | ⟨_, hp, _⟩
      · exact k4 o hp
      · exact absurd hp (hne i _ b1 hi h (by simp [G.blk, g1, hlt, k1]))
  · intro i x he
    rcases hget i _ he with ⟨_, h⟩ | ⟨hi, h⟩
    · cases h
    · obtain ⟨b1, q1, q2, q3, q4⟩ := hw.ob i x h
      refine ⟨b1, q1, x.st hev.w rfl rfl rfl (fun _ _ => rfl) q2, fun o hp => ?_, fun b' o hu hp => ?_⟩
      · rcases hp with hp | ⟨_, hp, _⟩
        · exact q3 o hp
        · exact hne i _ b1 hi h (.inl q1) hp
      · rcases hp with hp | ⟨_, hp, _⟩
        · exact q4 b' o hu hp
        · exact hne i _ b' hi h (.inr hu) hp
  · intro i hi
    have hne : i ≠ id := by
      rintro rfl
      rcases hi with hi | hi
      · rw [List.getElem?_set_self hidlt] at hi; cases hi
      · simp at hi; omega
    refine hw.free i ?_
    rcases hi with hi | hi
    · rw [List.getElem?_set_ne (Ne.symm hne)] at hi; exact .inl hi
    · exact .inr (by simpa using hi)
  · intro a cap ht
    rw [f1] at ht; injection ht with ht; injection ht with _ ht; injection ht with h1 h2
    subst h1; subst h2
    refine .sl l a0 cap0 s (fun k => match a0 with | some ad => (w.cell? ⟨ad.block, k, none⟩).getD undef | none => undef) hs f2 (fun hnil => ?_) (fun k x hx => ?_)
    · have hlpos : 0 < l.length := List.length_pos_iff.2 hnil
      have hc : 0 < cap0 := by omega
      obtain ⟨b, arr, rfl, q0, q2, q3, q4, q5⟩ := f4 hc
      refine ⟨b, 0, rfl, fun k hk => ⟨.inr ⟨hc, by simp [G.blk, f1, hc], by omega⟩, ?_⟩⟩
      have hka : k < arr.size := by
        rw [q3]; exact Nat.lt_of_lt_of_le hk (Nat.mul_le_mul_right _ f2)
      simp only [Nat.zero_add, cell_of_cells q2]
      simp [hka]
    · have hfl := flat_length hs
      have hkl : k < l.length * s := by rw [← hfl]; exact (List.getElem?_eq_some_iff.1 hx).1
      have hc : 0 < cap0 := by
        rcases Nat.eq_zero_or_pos cap0 with h | h
        · have : l.length = 0 := by omega
          rw [this] at hkl; simp at hkl
        · exact h
      obtain ⟨b, arr, rfl, q0, q2, q3, q4, q5⟩ := f4 hc
      have hka : k < arr.size := by
        rw [q3]; exact Nat.lt_of_lt_of_le hkl (Nat.mul_le_mul_right _ f2)
      simp only [cell_of_cells q2]
      have : arr[k]? = some arr[k] := by simp [hka]
      rw [this]
      exact (q5 k x _ hx this).mono hev.pr

def setE (E : Nat → V) : List Nat → V → Nat → V
  | [], _ => E
  | t :: ts, v => upd (setE E ts v) t v
def SameE (E : Nat → V) (v : V) : List Nat → Prop
  | [] => True
  | t :: ts => E t = v ∧ SameE E v ts
theorem setE_rep {g : G} {w : World} {E : Nat → V} {v u : V} {i : Nat} {r : Value} (hr : Rep g w (E i) r) (huv : Rep g w u r → Rep g w v r) : ∀ {ts : List Nat}, SameE E u ts → Rep g w (setE E ts v i) r
  | [], _ => hr
  | t :: ts, h => by
    simp only [setE]
    by_cases hi : i = t
    · subst hi
      rw [upd_same]
      rw [h.1] at hr
      exact huv hr
    · rw [upd_ne _ _ hi]; exact setE_rep hr huv h.2

theorem AW.freeze {F : FC} {Q : Exit → St → Prop} {c : Code} {E : Nat → V} {H : List HE} {α : Type} {f : α → D} {l : List α} {e : TypeId} {s len : Nat} (id : Nat) (ts : List Nat) (hH : H[id]? = some (.lst (l.map f) e s)) (hl : l.length = len) (hf : En f s)
    (hE : SameE E (.hs id 0 len s) ts) (h : AW F c Q ⟨setE E ts (.d (.sl (l.map f))), H.set id .dead⟩) : AW F c Q ⟨E, H⟩ := by
  rintro a w ⟨h1, h2, g, h3, h4, h5⟩
  obtain ⟨a0, cap0, k1, k2, _⟩ := h3.lst id _ _ _ hH
  obtain ⟨g', w1, w2, w3, w4⟩ := h3.freeze hH (hf.szL l)
  refine h a w ⟨h1, h2, g', w1, h4.trans w2, fun i => setE_rep ((h5 i).mono w2) (fun hr => ?_) hE⟩
  generalize a.tmps.getD i undef = r at hr
  cases hr with
  | @hs _ _ _ _ m cap' n0 c0 a' a0' p1 p2 =>
    rw [w3, k1] at p1; injection p1 with p1; injection p1 with p1 p3; injection p3 with p3 p4
    obtain ⟨r1, r2, r3, _⟩ := hs0 (p2 p1.symm)
    have := w4 a0 cap0 k1
    subst r1; subst r3; subst p3; subst p4
    rw [r2, ← hl]
    simp only [List.length_map] at this
    exact .d this

/-- Plain results: nothing in memory. -/
def D.flatOk : D → Bool
  | .int _ _ | .bool _ | .str _ => true
  | .tup l => l.all fun x => match x with | .int _ _ | .bool _ | .str _ => true | _ => false
  | _ => false
theorem RepD.plain {Pr Pr' : Nat → Nat → Prop} {w w' : World} {x : D} {r : Value} (hx : x.flatOk = true) (h : RepD Pr w x r) : RepD Pr' w' x r := by
  cases h with
  | bool b => exact .bool b
  | int k n => exact .int k n
  | str s => exact .str s
  | raw => exact .raw _
  | agg l arr hs hr => simp [D.flatOk] at hx
  | sl => simp [D.flatOk] at hx
  | tup l arr hs hr =>
    refine .tup l arr hs (fun i y v hy hv => ?_)
    have := List.all_eq_true.1 hx y (List.mem_of_getElem? hy)
    have h2 := hr i y v hy hv
    cases h2 <;> simp at this
    · exact .bool _
    · exact .int _ _
    · exact .str _

/-- The lists that are lent. -/
def Lent (g : G) (H : List HE) (ids : List Nat) (b o : Nat) : Prop := ∃ id l e s, id ∈ ids ∧ H[id]? = some (.lst l e s) ∧ g.blk id (.lst l e s) b ∧ o < l.length * s

/-- Arguments of a call: data, or lists that are lent to it. -/
inductive ArgsM (ρ : Operand → V) (H : List HE) (ids : List Nat) : List Operand → List D → Prop
  | nil : ArgsM ρ H ids [] []
  | d {x : Operand} {d : D} {xs : List Operand} {ds : List D} : As (ρ x) d → ArgsM ρ H ids xs ds → ArgsM ρ H ids (x :: xs) (d :: ds)
  | l {x : Operand} {α : Type} {f : α → D} {l : List α} {id len s : Nat} {e : TypeId} {xs : List Operand} {ds : List D} : Is (ρ x) (.hs id 0 len s) → H[id]? = some (.lst (l.map f) e s) → l.length = len → En f s → inB ids id = true →
      ArgsM ρ H ids xs ds → ArgsM ρ H ids (x :: xs) (.sl (l.map f) :: ds)

theorem ArgsM.get {ρ : Operand → V} {H : List HE} {ids : List Nat} {xs : List Operand} {ds : List D} (h : ArgsM ρ H ids xs ds) : xs.length = ds.length ∧ ∀ (i : Nat) d, ds[i]? = some d → ∃ x, xs[i]? = some x ∧
    (As (ρ x) d ∨ ∃ (l : List D) (id len s : Nat) (e : TypeId), Is (ρ x) (.hs id 0 len s) ∧ H[id]? = some (.lst l e s) ∧ l.length = len ∧ (∀ x ∈ l, x.cells.length = s) ∧ id ∈ ids ∧ d = .sl l) := by
  induction h with
  | nil => simp
  | d ha _ ih =>
    refine ⟨by simp [ih.1], fun i d hd => ?_⟩
    cases i with
    | zero => simp only [List.getElem?_cons_zero, Option.some.injEq] at hd; subst hd; exact ⟨_, rfl, .inl ha⟩
    | succ i => exact ih.2 i d (by simpa using hd)
  | l h1 h2 h3 h4 h5 _ ih =>
    refine ⟨by simp [ih.1], fun i d hd => ?_⟩
    cases i with
    | zero => simp only [List.getElem?_cons_zero, Option.some.injEq] at hd; subst hd; exact ⟨_, rfl, .inr ⟨_, _, _, _, _, h1, h2, by simpa using h3, h4.szL _, inB_mem.1 h5, rfl⟩⟩
    | succ i => exact ih.2 i d (by simpa using hd)

theorem lent_rep {g : G} {w : World} {H : List HE} {ids : List Nat} {id s cap : Nat} {l : List D} {e : TypeId} {a : Option Addr} (hw : WOK g w H) (hH : H[id]? = some (.lst l e s)) (hs : ∀ x ∈ l, x.cells.length = s) (hid : id ∈ ids) (ht : g.τ id = some (0, a, cap)) :
    RepD (fun b o => g.Pr b o ∨ Lent g H ids b o) w (.sl l) (.slice a l.length cap) := by
  obtain ⟨a0, cap0, f1, f2, f3, f4⟩ := hw.lst id l e s hH
  rw [f1] at ht; injection ht with ht; injection ht with _ ht; injection ht with h1 h2
  subst h1; subst h2
  have mono : ∀ b o, g.Pr b o → (g.Pr b o ∨ Lent g H ids b o) ∧ w.cell? ⟨b, o, none⟩ = w.cell? ⟨b, o, none⟩ := fun b o h => ⟨.inl h, rfl⟩
  refine .sl l a0 cap0 s (fun k => match a0 with | some ad => (w.cell? ⟨ad.block, k, none⟩).getD undef | none => undef) hs f2 (fun hnil => ?_) (fun k x hx => ?_)
  · have hlpos : 0 < l.length := List.length_pos_iff.2 hnil
    have hc : 0 < cap0 := by omega
    obtain ⟨b, arr, rfl, q0, q2, q3, q4, q5⟩ := f4 hc
    refine ⟨b, 0, rfl, fun k hk => ⟨.inr ⟨id, l, e, s, hid, hH, by simp [G.blk, f1, hc], by omega⟩, ?_⟩⟩
    have hka : k < arr.size := by
      rw [q3]; exact Nat.lt_of_lt_of_le hk (Nat.mul_le_mul_right _ f2)
    simp only [Nat.zero_add, cell_of_cells q2]
    simp [hka]
  · have hfl := flat_length hs
    have hkl : k < l.length * s := by rw [← hfl]; exact (List.getElem?_eq_some_iff.1 hx).1
    have hc : 0 < cap0 := by
      rcases Nat.eq_zero_or_pos cap0 with h | h
      · have : l.length = 0 := by omega
        rw [this] at hkl; simp at hkl
      · exact h
    obtain ⟨b, arr, rfl, q0, q2, q3, q4, q5⟩ := f4 hc
    have hka : k < arr.size := by
      rw [q3]; exact Nat.lt_of_lt_of_le hkl (Nat.mul_le_mul_right _ f2)
    simp only [cell_of_cells q2]
    have : arr[k]? = some arr[k] := by simp [hka]
    rw [this]
    exact (q5 k x _ hx this).mono mono

section
variable {P : Program} {ρ : Operand → V} {H : List HE} {ty : TypeId}
/-- A call that reads lists which are written elsewhere, and whose results hold nothing of them. -/
theorem op_lend {fop : Operand} {f : FuncId} {args : Array Operand} {ts : Array TypeId} {ds : List D} {res : D} (ids : List Nat) (hc : ∀ (a : Array Value) (w : World), (callFunc f a).run P w = .ok (.enter f a) w)
    (hf : Is (ρ fop) (.fn (.func f) [])) (ha : ArgsM ρ H ids args.toList ds) (h : Fn P f ds res) (hp : res.flatOk = true) : OpV P (.call ⟨.value fop, args, ts⟩) ty ρ H (.d res) H := by
  intro g w r pos after guard dst hw hx
  have hmem : ∀ z, z ∈ args.toList → z ∈ (Op.call ⟨.value fop, args, ts⟩).operands := fun z hz => by
    simp only [Op.operands, Call.operands]; exact Array.mem_append.2 (.inr (by simpa using hz))
  have hfr := hf.rep (hx fop (by simp [Op.operands, Call.operands]))
  generalize hrf : r fop = fv at hfr
  cases hfr with
  | @fn _ _ arr hsz hrep =>
    have h0 : arr = #[] := by simpa using hsz
    subst h0
    let g0 : G := { σ := fun _ => none, τ := fun _ => none, υ := fun _ _ => False, X := fun _ => False, Pr := fun b o => g.Pr b o ∨ Lent g H ids b o }
    have hlentX : ∀ b o, Lent g H ids b o → g.X b := by
      rintro b o ⟨id, l, e, s, _, h1, h2, _⟩
      exact hw.blk id _ b h1 h2
    have hw0 : WOK g0 w [] := by
      refine ⟨fun b o hp => ?_, fun b hb => hb.elim, ?_, ?_, ?_, ?_, ?_, ?_, fun _ _ => ⟨rfl, rfl, fun _ h => h⟩, fun x hx => ⟨fun h => h, fun o ho => .inl ((hw.kc x hx).2.1 o ho), (hw.kc x hx).2.2⟩⟩
      · rcases hp with hp | hp
        · exact hw.pr b o hp
        · exact hw.xs b (hlentX b o hp)
      all_goals intros; simp_all
    have hcall := h g0 w (args.map r) hw0 (by have := ha.get.1; simp at this ⊢; omega) (fun i x v hx' hv => by
      simp only [List.getElem?_map, Option.map_eq_some_iff] at hx'
      obtain ⟨d, hd, rfl⟩ := hx'
      obtain ⟨y, hy, hyd⟩ := ha.get.2 i d hd
      have hvy : v = r y := by
        simp only [Array.getElem?_map, Option.map_eq_some_iff] at hv
        obtain ⟨z, hz, rfl⟩ := hv
        rw [← Array.getElem?_toList, hy] at hz
        injection hz with hz; rw [hz]
      subst hvy
      have hry := hx y (hmem y (List.mem_of_getElem? hy))
      rcases hyd with has | ⟨l, id, len, s, e, k1, k2, k3, k4, k5, rfl⟩
      · exact .d ((has.rep hry).mono (fun b o hp => ⟨.inl hp, rfl⟩))
      · have hh := k1.rep hry
        obtain ⟨a0, cap0, f1, _⟩ := hw.lst id l e s k2
        generalize hrr : r y = rr at hh
        cases hh with
        | @hs _ _ _ _ m cap' n0 c0 a' a0' p1 p2 =>
          rw [f1] at p1; injection p1 with p1; injection p1 with p1 p3; injection p3 with p3 p4
          obtain ⟨r1, r2, r3, _⟩ := hs0 (p2 p1.symm)
          have := lent_rep (ids := ids) hw k2 k4 k5 f1
          subst r1; subst r3; subst p3; subst p4
          rw [r2, ← k3]
          exact .d this)
    unfold OpRuns
    simp only [execOp, resolve, hrf, Deferred.ofValue, Sem.run_bind, Sem.run_pure, Result.andThen_ok, invoke, Array.empty_append, Array.append_empty, hc]
    refine hcall.mono ?_
    rintro e w' ⟨rv, res', g', H2, rfl, hw', he, hr, rfl⟩
    let g2 : G := { σ := g.σ, τ := g.τ, υ := g.υ, X := g.X, Pr := fun b o => g'.Pr b o ∧ ¬ ∃ o', Lent g H ids b o' }
    have keep : ∀ b, b < w.heap.size → w'.heap[b]? = w.heap[b]? := fun b hb => he.keep b hb (fun h => h)
    have hnl : ∀ b o, g.Pr b o → ¬ ∃ o', Lent g H ids b o' := by
      rintro b o hp ⟨o', id, l, e, s, _, h1, h2, _⟩
      obtain ⟨a, cap, k1, k2, k3, k4⟩ := hw.lst id l e s h1
      simp only [G.blk, k1, Option.bind_some] at h2
      split at h2
      · rename_i hcp
        obtain ⟨b1, arr1, q1, q0, q2, q3, q4, q5⟩ := k4 hcp
        subst q1
        simp at h2; subst h2
        exact q4 o hp
      · cases h2
    have hev : Evo g w g2 w' := {
      same := he.same
      size := he.size
      pr := fun b o hp => ⟨⟨(he.pr b o (.inl hp)).1, hnl b o hp⟩, (he.pr b o (.inl hp)).2⟩
      prn := fun b o hp => by
        rcases he.prn b o hp.1 with h1 | h1 | h1
        · rcases h1 with h1 | h1
          · exact .inl h1
          · exact (hp.2 ⟨o, h1⟩).elim
        · exact h1.elim
        · exact .inr (.inr h1)
      x := fun b hb => .inl hb
      keep := fun b hb _ => keep b hb
      σ := fun _ _ h => h
      τ := fun _ m a cap h => ⟨m, a, cap, h, .inr ⟨rfl, rfl, rfl⟩⟩ }
    have hold : ∀ b o, g2.Pr b o → b < w.heap.size → g.Pr b o := by
      rintro b o ⟨hp, hn⟩ hb
      rcases he.prn b o hp with h1 | h1 | h1
      · rcases h1 with h1 | h1
        · exact h1
        · exact (hn ⟨o, h1⟩).elim
      · exact h1.elim
      · omega
    refine ⟨rv, rfl, g2, ⟨fun b o hp => hw'.pr b o hp.1, fun b hb => Nat.lt_of_lt_of_le (hw.xs b hb) he.size, hw.blk, hw.sep, ?_, ?_, ?_, ?_, hw.free, hw.kcE hev⟩, hev, ?_⟩
    · intro id c hc
      obtain ⟨b, arr, et, h1, h2, h3, h4, h5⟩ := hw.row id c hc
      have hb : b < w.heap.size := hw.xs b (hw.blk id _ b hc h1)
      exact ⟨b, arr, et, h1, (keep b hb).trans h2, h3, fun k x v hx hv => (h4 k x v hx hv).mono hev, fun o hp => h5 o (hold b o hp hb)⟩
    · intro id n e s hn
      obtain ⟨a, cap, h1, h2, h2', h3⟩ := hw.tok id n e s hn
      refine ⟨a, cap, h1, h2, h2', fun hlt => ?_⟩
      obtain ⟨b, arr, e1, e2, e3, e4⟩ := h3 hlt
      have hb : b < w.heap.size := hw.xs _ (hw.blk id _ b hn (by simp [G.blk, h1, e1, hlt]))
      exact ⟨b, arr, e1, (keep _ hb).trans e2, e3, fun o hp => e4 o (hold _ o hp hb)⟩
    · intro id l e s hn
      obtain ⟨a, cap, h1, h2, h2', h3⟩ := hw.lst id l e s hn
      refine ⟨a, cap, h1, h2, h2', fun hlt => ?_⟩
      obtain ⟨b, arr, e1, e0, e2, e3, e4, e5⟩ := h3 hlt
      have hb : b < w.heap.size := hw.xs _ (hw.blk id _ b hn (by simp [G.blk, h1, e1, hlt]))
      exact ⟨b, arr, e1, e0, (keep _ hb).trans e2, e3, fun o hp => e4 o (hold _ o hp hb), fun k x v hx hv => (e5 k x v hx hv).mono hev.pr⟩
    · intro id x hx
      obtain ⟨b, h1, h2, h3, h4⟩ := hw.ob id x hx
      have hb : b < w.heap.size := hw.xs b (hw.blk id _ b hx (.inl h1))
      have hbu : ∀ b', g.υ id b' → b' < w.heap.size := fun b' h => hw.xs b' (hw.blk id _ b' hx (.inr h))
      exact ⟨b, h1, x.st hev.w rfl rfl (keep b hb) (fun b' h => keep b' (hbu b' h)) h2, fun o hp => h3 o (hold b o hp hb), fun b' o h hp => h4 b' o h (hold b' o hp (hbu b' h))⟩
    · cases hr with
      | d hd => exact .d (hd.plain hp)
end
end Go.Proofs.YtlbiooppadlolaaGreatDoor.Ab
end
section
namespace Go.Proofs.YtlbiooppadlolaaGreatDoor.Ab
open Go

section
variable {P : Program} {ρ : Operand → V} {H : List HE} {ty : TypeId} {x y : Operand} {t u : TypeId} {s s' : List UInt8}
end
end Go.Proofs.YtlbiooppadlolaaGreatDoor.Ab
end
section
namespace Go.Proofs.YtlbiooppadlolaaGreatDoor.Ab
open Go

/-- A list under a new number. -/
theorem WOK.moveLst {g : G} {w : World} {H : List HE} {id n s : Nat} {l : List D} {e : TypeId} (hw : WOK g w H) (hH : H[id]? = some (.lst l e s)) (hn : H[n]? = some .free) :
    ∃ g', WOK g' w ((H.set id .dead).set n (.lst l e s)) ∧ Evo g w g' w ∧ g'.τ n = g.τ id ∧ g'.σ n = g.σ id ∧ g'.Pr = g.Pr ∧ g'.τ id = g.τ id := by
  have hidlt : id < H.length := (List.getElem?_eq_some_iff.1 hH).1
  have hnlt : n < H.length := (List.getElem?_eq_some_iff.1 hn).1
  have hne : n ≠ id := fun h => by subst h; rw [hH] at hn; cases hn
  obtain ⟨hfσ, hfτ, hfυ⟩ := hw.free n (.inl hn)
  let g' : G := { σ := fun i => if i = n then g.σ id else g.σ i, τ := fun i => if i = n then g.τ id else g.τ i, υ := g.υ, X := g.X, Pr := g.Pr }
  have hσ' : ∀ i, i ≠ n → g'.σ i = g.σ i := fun i h => by simp [g', h]
  have hτ' : ∀ i, i ≠ n → g'.τ i = g.τ i := fun i h => by simp [g', h]
  have hev : Evo g w g' w := {
    same := ⟨rfl, rfl, rfl⟩
    size := Nat.le_refl _
    pr := fun b o hp => ⟨hp, rfl⟩
    prn := fun b o h => .inl h
    x := fun b h => .inl h
    keep := fun b _ _ => rfl
    σ := fun i b h => by
      have : i ≠ n := fun e => by subst e; rw [hfσ] at h; cases h
      rw [hσ' i this]; exact h
    τ := fun i m a cap h => by
      have : i ≠ n := fun e => by subst e; rw [hfτ] at h; cases h
      exact ⟨m, a, cap, by rw [hτ' i this]; exact h, .inr ⟨rfl, rfl, rfl⟩⟩ }
  have hget : ∀ (i : Nat) x, ((H.set id .dead).set n (.lst l e s))[i]? = some x → (i = n ∧ x = .lst l e s) ∨ (i = id ∧ x = .dead) ∨ (i ≠ n ∧ i ≠ id ∧ H[i]? = some x) := by
    intro i x he
    by_cases hi : i = n
    · subst hi; rw [List.getElem?_set_self (by simpa using hnlt)] at he; exact .inl ⟨rfl, (Option.some.inj he).symm⟩
    · rw [List.getElem?_set_ne (Ne.symm hi)] at he
      by_cases hi2 : i = id
      · subst hi2; rw [List.getElem?_set_self hidlt] at he; exact .inr (.inl ⟨rfl, (Option.some.inj he).symm⟩)
      · rw [List.getElem?_set_ne (Ne.symm hi2)] at he; exact .inr (.inr ⟨hi, hi2, he⟩)
  have hblk : ∀ (i : Nat) x b, ((H.set id .dead).set n (.lst l e s))[i]? = some x → g'.blk i x b → ∃ j, H[j]? = some x ∧ g.blk j x b ∧ ((i = n ∧ j = id) ∨ (i ≠ n ∧ j = i ∧ i ≠ id)) := by
    intro i x b he hb
    rcases hget i x he with ⟨rfl, rfl⟩ | ⟨rfl, rfl⟩ | ⟨h1, h2, h3⟩
    · exact ⟨id, hH, by simpa [G.blk, g'] using hb, .inl ⟨rfl, rfl⟩⟩
    · simp [G.blk] at hb
    · refine ⟨i, h3, ?_, .inr ⟨h1, rfl, h2⟩⟩
      cases x <;> simp only [G.blk, hσ' i h1, hτ' i h1] at hb ⊢ <;> exact hb
  refine ⟨g', ⟨hw.pr, hw.xs, ?_, ?_, ?_, ?_, ?_, ?_, ?_, hw.kc⟩, hev, by simp [g'], by simp [g'], rfl, hτ' id (Ne.symm hne)⟩
  · intro i x b he hb
    obtain ⟨j, h1, h2, _⟩ := hblk i x b he hb
    exact hw.blk j x b h1 h2
  · intro i i' x x' b he he' hb hb'
    obtain ⟨j, h1, h2, h3⟩ := hblk i x b he hb
    obtain ⟨j', h4, h5, h6⟩ := hblk i' x' b he' hb'
    have := hw.sep j j' x x' b h1 h4 h2 h5
    omega
  · intro i c he
    rcases hget i _ he with ⟨_, h⟩ | ⟨_, h⟩ | ⟨h1, h2, h3⟩
    · cases h
    · cases h
    · obtain ⟨b1, arr1, et1, k1, k2, k3, k4, k5⟩ := hw.row i c h3
      exact ⟨b1, arr1, et1, by rw [hσ' i h1]; exact k1, k2, k3, fun k x v hx hv => (k4 k x v hx hv).mono hev, k5⟩
  · intro i m e1 s1 he
    rcases hget i _ he with ⟨_, h⟩ | ⟨_, h⟩ | ⟨h1, h2, h3⟩
    · cases h
    · cases h
    · obtain ⟨a, cap, k1, k2⟩ := hw.tok i m e1 s1 h3
      exact ⟨a, cap, by rw [hτ' i h1]; exact k1, k2⟩
  · intro i l1 e1 s1 he
    rcases hget i _ he with ⟨rfl, h⟩ | ⟨_, h⟩ | ⟨h1, h2, h3⟩
    · injection h with q1 q2 q3
      subst q1; subst q2; subst q3
      obtain ⟨a, cap, k1, k2, k3, k4⟩ := hw.lst id l1 e1 s1 hH
      refine ⟨a, cap, by simp [g', k1], k2, k3, fun hc => ?_⟩
      obtain ⟨b, arr, p1, p2, p3⟩ := k4 hc
      exact ⟨b, arr, p1, by simp [g', p2], p3⟩
    · cases h
    · obtain ⟨a, cap, k1, k2, k3, k4⟩ := hw.lst i l1 e1 s1 h3
      refine ⟨a, cap, by rw [hτ' i h1]; exact k1, k2, k3, fun hc => ?_⟩
      obtain ⟨b, arr, p1, p2, p3⟩ := k4 hc
      exact ⟨b, arr, p1, by rw [hσ' i h1]; exact p2, p3⟩
  · intro i x he
    rcases hget i _ he with ⟨_, h⟩ | ⟨_, h⟩ | ⟨h1, h2, h3⟩
    · cases h
    · cases h
    · obtain ⟨b1, k1, k2, k3, k4⟩ := hw.ob i x h3
      exact ⟨b1, by rw [hσ' i h1]; exact k1, x.st hev.w (hτ' i h1) rfl rfl (fun _ _ => rfl) k2, k3, k4⟩
  · intro i hi
    have h1 : i ≠ n := by
      rintro rfl
      rcases hi with hi | hi
      · rw [List.getElem?_set_self (by simpa using hnlt)] at hi; cases hi
      · simp at hi; omega
    rw [hσ' i h1, hτ' i h1]
    refine hw.free i ?_
    rcases hi with hi | hi
    · rcases hget i _ hi with ⟨_, h⟩ | ⟨_, h⟩ | ⟨_, _, h⟩
      · cases h
      · cases h
      · exact .inl h
    · exact .inr (by simpa using hi)

/-- A list is let go. -/
theorem WOK.kill {g : G} {w : World} {H : List HE} {id : Nat} {e0 : HE} (hw : WOK g w H) (hH : H[id]? = some e0) (_h0 : e0 ≠ .free) : WOK g w (H.set id .dead) := by
  have hidlt : id < H.length := (List.getElem?_eq_some_iff.1 hH).1
  have hget : ∀ (i : Nat) x, (H.set id .dead)[i]? = some x → x = .dead ∨ H[i]? = some x := by
    intro i x he
    by_cases hi : i = id
    · subst hi; rw [List.getElem?_set_self hidlt] at he; exact .inl (Option.some.inj he).symm
    · rw [List.getElem?_set_ne (Ne.symm hi)] at he; exact .inr he
  refine ⟨hw.pr, hw.xs, ?_, ?_, ?_, ?_, ?_, ?_, ?_, hw.kc⟩
  · intro i x b he hb
    rcases hget i x he with rfl | h
    · simp [G.blk] at hb
    · exact hw.blk i x b h hb
  · intro i i' x x' b he he' hb hb'
    rcases hget i x he with rfl | h
    · simp [G.blk] at hb
    · rcases hget i' x' he' with rfl | h'
      · simp [G.blk] at hb'
      · exact hw.sep i i' x x' b h h' hb hb'
  · intro i c he
    rcases hget i _ he with h | h
    · cases h
    · exact hw.row i c h
  · intro i m e1 s1 he
    rcases hget i _ he with h | h
    · cases h
    · exact hw.tok i m e1 s1 h
  · intro i l e1 s1 he
    rcases hget i _ he with h | h
    · cases h
    · exact hw.lst i l e1 s1 h
  · intro i x he
    rcases hget i _ he with h | h
    · cases h
    · exact hw.ob i x h
  · intro i hi
    refine hw.free i ?_
    rcases hi with hi | hi
    · rcases hget i _ hi with h | h
      · cases h
      · exact .inl h
    · exact .inr (by simpa using hi)

section
variable {P : Program} {ρ : Operand → V} {H : List HE} {ty : TypeId}

theorem set_last2 (H : List HE) (id : Nat) (e : HE) (h : id < H.length) : (((H ++ [HE.free]).set id .dead).set H.length e) = (H.set id .dead) ++ [e] := by
  rw [List.set_append_left _ _ h]
  have : (H.set id HE.dead).length = H.length := by simp
  rw [← this, set_last]

/-- 'append' to a list that is written in place: it lies where it lay, or elsewhere; it has a new number. -/
theorem op_appendH {x y : Operand} {t e s bytes id n len : Nat} {l l' : List D} (ht : SlT P t e s bytes) (hx : Is (ρ x) (.hs id 0 len s)) (hy : As (ρ y) (.sl l')) (hH : H[id]? = some (.lst l e s)) (hll : l.length = len) (hn : H.length = n)
    (hs : ∀ x ∈ l ++ l', x.cells.length = s) (hone : ∀ x ∈ l', ∀ y ∈ x.cells, y.one = true) (hbytes : (l ++ l').length * bytes ≤ 140737488355328) (hlen : (l ++ l').length ≤ 4611686018427387904) :
    OpV P (.call ⟨.builtin .append, #[x, y], #[t, t]⟩) ty ρ H (.hs n 0 (l ++ l').length s) (H.set id .dead ++ [.lst (l ++ l') e s]) := by
  subst hn; subst hll
  intro g w r pos after guard dst hw h
  have h1 := hx.rep (h x (by simp [Op.operands, Call.operands]))
  have h2 := hy.rep (h y (by simp [Op.operands, Call.operands]))
  have hidlt : id < H.length := (List.getElem?_eq_some_iff.1 hH).1
  obtain ⟨a, cap, k1, k2, k3, k4⟩ := hw.lst id l e s hH
  generalize hrx : r x = vx at h1
  cases h1 with
  | @hs _ _ _ _ m cap' n0 c0 a' a0 p1 p2 =>
    rw [k1] at p1; injection p1 with p1; injection p1 with p1 p3; injection p3 with p3 p4
    obtain ⟨q1, q2, q3, _⟩ := hs0 (p2 p1.symm)
    subst q1; subst q3; subst p3; subst p4; subst q2
    have hH1 : (H ++ [HE.free])[id]? = some (.lst l e s) := by rw [List.getElem?_append_left hidlt]; exact hH
    have hfr : (H ++ [HE.free])[H.length]? = some .free := by simp
    suffices hgoal : ∃ rv w' g', (Builtin.append_ #[t, t] ty #[.slice a l.length cap, r y]).run P w = .ok rv w' ∧ WOK g' w' (((H ++ [HE.free]).set id .dead).set H.length (.lst (l ++ l') e s)) ∧ Evo g w g' w' ∧ Rep g' w' (.hs H.length 0 (l ++ l').length s) rv by
      obtain ⟨rv, w', g', e1, e2, e3, e4⟩ := hgoal
      unfold OpRuns
      have : (execOp r ⟨dst, .call ⟨.builtin .append, #[x, y], #[t, t]⟩, ty, pos, after, guard⟩).run P w = .ok (.value rv) w' := by
        simp [execOp, resolve, invoke, builtin, hrx, e1]
      rw [this]
      rw [set_last2 _ _ _ hidlt] at e2
      exact ⟨g', e2, e3, e4⟩
    by_cases hl0 : l' = []
    · subst hl0
      obtain ⟨a', cap', hra, _⟩ := slice_form h2
      rw [hra]
      obtain ⟨g', w1, w2, w3, _⟩ := hw.addFree.moveLst hH1 hfr
      refine ⟨_, w, g', append_none_run ht k2, by simpa using w1, w2, ?_⟩
      rw [List.append_nil]
      exact .hs (w3.trans k1) (fun _ => ⟨rfl, rfl, rfl, k2⟩)
    · have hlpos : 0 < l'.length := List.length_pos_iff.2 hl0
      obtain ⟨ie, z, hie, hsz, hby, hz1, hz2⟩ := ht.i
      have hsl : ∀ x ∈ l, x.cells.length = s := fun x hx => hs x (by simp [hx])
      have hsl' : ∀ x ∈ l', x.cells.length = s := fun x hx => hs x (by simp [hx])
      obtain ⟨b', o', cap', f', hra, _, hk', hrep', hone'⟩ := h2.slCells hsl' hone hl0
      rw [hra]
      have fl := flat_length hsl
      have hnews : ∀ (j : Nat) v, ((List.range (l'.length * s)).map f')[j]? = some v → w.cell? ((⟨b', o', none⟩ : Addr).add j) = some v := by
        intro j v hv
        have hj : j < l'.length * s := by
          have := (List.getElem?_eq_some_iff.1 hv).1; simpa using this
        rw [range_map_get _ _ _ hj] at hv
        rw [Addr.add_none, (hk' j hj).2]; exact hv
      have hone1 : ∀ u ∈ (List.range (l'.length * s)).map f', u.oneCell' = true := by
        intro u hu
        simp only [List.mem_map, List.mem_range] at hu
        obtain ⟨k, hk, rfl⟩ := hu
        exact hone' k hk
      have hmul : (l.length + l'.length) * s = l.length * s + l'.length * s := Nat.add_mul _ _ _
      -- contents of a row that begins with the old cells and the new ones
      have cont : ∀ (arr2 : List Value), (∀ (k : Nat) x v, (D.flat l)[k]? = some x → arr2[k]? = some v → RepD g.Pr w x v) → (∀ (k : Nat), k < l'.length * s → arr2[l.length * s + k]? = some (f' k)) →
          ∀ (k : Nat) x v, (D.flat (l ++ l'))[k]? = some x → arr2[k]? = some v → RepD g.Pr w x v := by
        intro arr2 c1 c2 k x v hx hv
        rw [flat_append] at hx
        by_cases hkl : k < l.length * s
        · rw [List.getElem?_append_left (by omega)] at hx
          exact c1 k x v hx hv
        · rw [List.getElem?_append_right (by omega), fl] at hx
          have hk2 : k - l.length * s < l'.length * s := by
            have := (List.getElem?_eq_some_iff.1 hx).1
            rw [flat_length hsl'] at this; exact this
          have := c2 (k - l.length * s) hk2
          rw [show l.length * s + (k - l.length * s) = k by omega, hv] at this
          injection this with this; subst this
          exact hrep' _ x hx
      by_cases hroom : l.length + l'.length ≤ cap
      · obtain ⟨b, arr, rfl, hσ, hb, harr, hPr, hcon⟩ := k4 (by omega)
        have hfit : l.length * s + l'.length * s ≤ arr.size := by
          rw [harr, ← hmul]; exact Nat.mul_le_mul_right _ hroom
        have hrun := run_append_room (P := P) w t ty e ie ht.u hie b l.length cap arr hb ⟨b', o', none⟩ l'.length cap' ((List.range (l'.length * s)).map f') (by simp [hsz]) hnews hone1 hroom (by rw [hsz]; simpa using hfit)
        rw [hsz] at hrun
        obtain ⟨g1, w1, w2, w3, w4, w5, _⟩ := hw.addFree.moveLst hH1 hfr
        have key := WOK.storeLst (w' := w.setRow b (arr.toList.take (l.length * s) ++ (List.range (l'.length * s)).map f' ++ arr.toList.drop (l.length * s + ((List.range (l'.length * s)).map f').length)).toArray) (l' := l ++ l')
          (arr' := (arr.toList.take (l.length * s) ++ (List.range (l'.length * s)).map f' ++ arr.toList.drop (l.length * s + ((List.range (l'.length * s)).map f').length)).toArray) (cap := cap) (b := b) w1 (id := H.length) (by rw [List.getElem?_set_self (by simp)]) (w3.trans k1) (by omega) (w4.trans hσ)
          ⟨rfl, rfl, rfl⟩ (setRow_size w b _) (setRow_heap w b arr _ e _ hb) (fun b'' hne => setRow_other w b b'' _ hne) (by simpa using hroom) (by simp; omega)
          (by
            rw [w5]
            intro k x v hx hv
            rw [List.getElem?_toArray] at hv
            refine cont _ (fun k x v hx hv => ?_) (fun k hk => ?_) k x v hx hv
            · have hkl : k < l.length * s := by rw [← fl]; exact (List.getElem?_eq_some_iff.1 hx).1
              rw [List.append_assoc, List.getElem?_append_left (by simp; omega), List.getElem?_take, if_pos hkl, Array.getElem?_toList] at hv
              exact hcon k x v hx hv
            · rw [List.append_assoc, List.getElem?_append_right (by simp; omega), List.getElem?_append_left (by simp; omega)]
              have : l.length * s + k - (List.take (l.length * s) arr.toList).length = k := by simp; omega
              rw [this]; exact range_map_get f' _ _ hk)
        refine ⟨_, _, g1, hrun, ?_, w2.trans key.2, ?_⟩
        · have := key.1
          rwa [List.set_set] at this
        · exact .hs (w3.trans k1) (fun _ => ⟨rfl, by simp, rfl, by simpa using hroom⟩)
      · simp only [List.length_append] at hbytes hlen
        let need := l.length + l'.length
        let C := grownCap w need cap e
        have hC : need ≤ C := grownCap_ge w need cap e
        have hC2 : C ≤ 9223372036854775807 := by
          have := grownCap_le_maxLen w need cap e (by simp only [maxLen]; omega)
          simpa [maxLen] using this
        have hgrow : cap < l.length + l'.length := by omega
        obtain ⟨olds, hol, hrun, hf2⟩ : ∃ (olds : List Value), olds.length = l.length * s ∧
            (Builtin.append_ #[t, t] ty #[.slice a l.length cap, .slice (some ⟨b', o', none⟩) l'.length cap']).run P w =
              .ok (.slice (some ⟨w.heap.size, 0, none⟩) need C) (w.drew.alloc (.cells (olds.toArray ++ ((List.range (l'.length * s)).map f').toArray ++ Builtin.zeroCells z.cells (C - need)) e)) ∧
            (∀ (k : Nat) x v, (D.flat l)[k]? = some x → olds[k]? = some v → RepD g.Pr w x v) := by
          by_cases hc0 : cap = 0
          · have hln : l = [] := List.eq_nil_of_length_eq_zero (by omega)
            subst hln
            refine ⟨[], by simp, ?_, by simp [D.flat]⟩
            cases a with
            | none =>
              subst hc0
              have := run_append_nil (P := P) w t ty e ie z ht.u hie hz1 ⟨b', o', none⟩ l'.length cap' ((List.range (l'.length * s)).map f') (by simp [hsz]) hnews hlpos (by omega) (by rw [hby]; simp at hbytes; omega)
              simpa [need, C] using this
            | some ad =>
              have := run_append_grow (P := P) w t ty e ie z ht.u hie hz1 ad 0 cap [] (by simp) (by simp) ⟨b', o', none⟩ l'.length cap' ((List.range (l'.length * s)).map f') (by simp [hsz]) hnews
                (by simpa using hgrow) (by simp at hlen ⊢; omega) (growslice_fits (by simpa using hgrow) (by rw [hby]; simpa using hbytes))
              simpa [need, C] using this
          · obtain ⟨b, arr, rfl, hσ, hb, harr, hPr, hcon⟩ := k4 (by omega)
            have hfit : l.length * s ≤ arr.size := by rw [harr]; exact Nat.mul_le_mul_right _ k2
            refine ⟨arr.toList.take (l.length * s), by simp; omega, ?_, fun k x v hx hv => ?_⟩
            · have := run_append_grow (P := P) w t ty e ie z ht.u hie hz1 ⟨b, 0, none⟩ l.length cap (arr.toList.take (l.length * s)) (by simp [hsz]; omega) (fun j v hv => by
                rw [Addr.add_none, Nat.zero_add, cell_of_cells hb]
                rw [List.getElem?_take] at hv
                split at hv
                · rwa [Array.getElem?_toList] at hv
                · cases hv) ⟨b', o', none⟩ l'.length cap' ((List.range (l'.length * s)).map f') (by simp [hsz]) hnews
                (by simpa using hgrow) (by simp at hlen ⊢; omega) (growslice_fits (by simpa using hgrow) (by rw [hby]; simpa using hbytes))
              simpa [need, C] using this
            · have hkl : k < l.length * s := by rw [← fl]; exact (List.getElem?_eq_some_iff.1 hx).1
              rw [List.getElem?_take, if_pos hkl, Array.getElem?_toList] at hv
              exact hcon k x v hx hv
        have hkill := hw.addFree.kill hH1 (by simp)
        have hzs : (Builtin.zeroCells z.cells (C - need)).size = (C - need) * s := by simp [Builtin.zeroCells, hz2]
        obtain ⟨g', w1, w2, w3⟩ := hkill.newLst (w' := w.drew.alloc (.cells (olds.toArray ++ ((List.range (l'.length * s)).map f').toArray ++ Builtin.zeroCells z.cells (C - need)) e)) (id := H.length) (l := l ++ l') (s := s) (cap := C)
          (arr := olds.toArray ++ ((List.range (l'.length * s)).map f').toArray ++ Builtin.zeroCells z.cells (C - need)) (et := e) (by rw [List.getElem?_set_ne (by omega)]; exact hfr) ⟨rfl, rfl, rfl⟩ rfl (by simpa [need] using hC) hC2
          (by
            have hC' : C * s = (l.length * s + l'.length * s) + (C - need) * s := by
              rw [← hmul, ← Nat.add_mul]; congr 1; exact (Nat.add_sub_cancel' hC).symm
            simp only [Array.size_append, List.size_toArray, List.length_map, List.length_range, hol, hzs]
            omega)
          (by
            intro k x v hx hv
            rw [← Array.getElem?_toList] at hv
            refine cont _ (fun k x v hx hv => ?_) (fun k hk => ?_) k x v hx hv
            · have hkl : k < l.length * s := by rw [← fl]; exact (List.getElem?_eq_some_iff.1 hx).1
              simp only [Array.toList_append, List.append_assoc] at hv
              rw [List.getElem?_append_left (by omega)] at hv
              exact hf2 k x v hx hv
            · simp only [Array.toList_append, List.append_assoc]
              rw [List.getElem?_append_right (by omega), hol, Nat.add_sub_cancel_left, List.getElem?_append_left (by simpa using hk)]
              exact range_map_get f' _ _ hk)
        exact ⟨_, _, g', hrun, w1, w2, .hs w3 (fun _ => ⟨rfl, by simp [need], rfl, by simpa [need] using hC⟩)⟩

theorem op_appendHM {α : Type} {f : α → D} {l l' r : List α} {x y : Operand} {t e s bytes id n len : Nat} (ht : SlT P t e s bytes) (hx : Is (ρ x) (.hs id 0 len s)) (hy : As (ρ y) (.sl (l'.map f))) (hH : H[id]? = some (.lst (l.map f) e s)) (hl : l.length = len) (hn : H.length = n)
    (hf : En f s) (hv : app bytes l l' = some r) : OpV P (.call ⟨.builtin .append, #[x, y], #[t, t]⟩) ty ρ H (.hs n 0 r.length s) (H.set id .dead ++ [.lst (r.map f) e s]) := by
  unfold app at hv
  split at hv
  · rename_i h
    injection hv with hv; subst hv
    have := op_appendH (ty := ty) ht hx hy hH (by simpa using hl) hn (by rw [← List.map_append]; exact hf.szL _) (hf.oneL _) (by simp only [List.length_append, List.length_map]; exact h.1) (by simp only [List.length_append, List.length_map]; exact h.2)
    rw [← List.map_append, List.length_map] at this
    exact this
  · cases hv
end

/-- An empty list begins as one that is written in place. -/
theorem AW.lstize {F : FC} {Q : Exit → St → Prop} {c : Code} {E : Nat → V} {H : List HE} (t : Nat) (e : TypeId) (s : Nat) {n : Nat} (ht : E t = .ex []) (hn : H.length = n)
    (h : AW F c Q ⟨upd E t (.hs n 0 0 s), H ++ [.lst [] e s]⟩) : AW F c Q ⟨E, H⟩ := by
  subst hn
  rintro a w ⟨h1, h2, g, h3, h4, h5⟩
  have hr := h5 t
  simp only [ht] at hr
  generalize hv : a.tmps.getD t undef = v at hr
  cases hr with
  | @ex _ ad hd =>
    obtain ⟨hfσ, hfτ, hfυ⟩ := h3.free H.length (.inr (Nat.le_refl _))
    let g' : G := { σ := g.σ, τ := fun i => if i = H.length then some (0, ad, 0) else g.τ i, υ := g.υ, X := g.X, Pr := g.Pr }
    have hτ' : ∀ i, i ≠ H.length → g'.τ i = g.τ i := fun i h => by simp [g', h]
    have hτid : g'.τ H.length = some (0, ad, 0) := by simp [g']
    have hev : Evo g w g' w := {
      same := ⟨rfl, rfl, rfl⟩
      size := Nat.le_refl _
      pr := fun b o hp => ⟨hp, rfl⟩
      prn := fun b o h => .inl h
      x := fun b h => .inl h
      keep := fun b _ _ => rfl
      σ := fun i b h => h
      τ := fun i m a c h => by
        have : i ≠ H.length := fun e => by subst e; rw [hfτ] at h; cases h
        exact ⟨m, a, c, by rw [hτ' i this]; exact h, .inr ⟨rfl, rfl, rfl⟩⟩ }
    have hget : ∀ (i : Nat) x, (H ++ [HE.lst [] e s])[i]? = some x → (i = H.length ∧ x = .lst [] e s) ∨ (i ≠ H.length ∧ H[i]? = some x) := by
      intro i x hx
      by_cases hi : i < H.length
      · rw [List.getElem?_append_left hi] at hx; exact .inr ⟨by omega, hx⟩
      · rw [List.getElem?_append_right (by omega)] at hx
        have : i - H.length = 0 := by
          by_cases h0 : i - H.length = 0
          · exact h0
          · rw [List.getElem?_eq_none (by simp; omega)] at hx; cases hx
        rw [this] at hx
        exact .inl ⟨by omega, by simpa using hx.symm⟩
    have hblk : ∀ (i : Nat) x b, (H ++ [HE.lst [] e s])[i]? = some x → g'.blk i x b → H[i]? = some x ∧ g.blk i x b := by
      intro i x b hx hb
      rcases hget i x hx with ⟨rfl, rfl⟩ | ⟨hi, h⟩
      · simp [G.blk, hτid] at hb
      · refine ⟨h, ?_⟩
        cases x <;> simp only [G.blk, hτ' i hi] at hb ⊢ <;> exact hb
    refine h a w ⟨h1, h2, g', ⟨h3.pr, h3.xs, ?_, ?_, ?_, ?_, ?_, ?_, ?_, h3.kcE hev⟩, h4.trans hev, fun i => ?_⟩
    · intro i x b hx hb
      obtain ⟨k1, k2⟩ := hblk i x b hx hb
      exact h3.blk i x b k1 k2
    · intro i i' x x' b hx hx' hb hb'
      obtain ⟨k1, k2⟩ := hblk i x b hx hb
      obtain ⟨k3, k4⟩ := hblk i' x' b hx' hb'
      exact h3.sep i i' x x' b k1 k3 k2 k4
    · intro i c hx
      rcases hget i _ hx with ⟨_, h⟩ | ⟨hi, h⟩
      · cases h
      · obtain ⟨b1, arr1, et1, k1, k2, k3, k4, k5⟩ := h3.row i c h
        exact ⟨b1, arr1, et1, k1, k2, k3, fun k x v hx hv => (k4 k x v hx hv).mono hev, k5⟩
    · intro i m e1 s1 hx
      rcases hget i _ hx with ⟨_, h⟩ | ⟨hi, h⟩
      · cases h
      · obtain ⟨a, cap, k1, k2⟩ := h3.tok i m e1 s1 h
        exact ⟨a, cap, by rw [hτ' i hi]; exact k1, k2⟩
    · intro i l1 e1 s1 hx
      rcases hget i _ hx with ⟨rfl, h⟩ | ⟨hi, h⟩
      · injection h with q1 q2 q3
        subst q1; subst q2; subst q3
        exact ⟨ad, 0, hτid, by simp, by omega, fun h => by omega⟩
      · obtain ⟨a, cap, k1, k2⟩ := h3.lst i l1 e1 s1 h
        exact ⟨a, cap, by rw [hτ' i hi]; exact k1, k2⟩
    · intro i x hx
      rcases hget i _ hx with ⟨_, h⟩ | ⟨hi, h⟩
      · cases h
      · obtain ⟨b1, k1, k2, k3, k4⟩ := h3.ob i x h
        exact ⟨b1, k1, x.st hev.w (hτ' i hi) rfl rfl (fun _ _ => rfl) k2, k3, k4⟩
    · intro i hi
      have hne : i ≠ H.length ∧ (H[i]? = some .free ∨ H.length ≤ i) := by
        rcases hi with hi | hi
        · rcases hget i _ hi with ⟨_, h⟩ | ⟨h1, h⟩
          · cases h
          · exact ⟨h1, .inl h⟩
        · simp at hi; exact ⟨by omega, .inr (by omega)⟩
      rw [hτ' i hne.1]
      exact h3.free i hne.2
    · by_cases hi : i = t
      · subst hi
        simp only [upd_same, hv]
        exact .hs hτid (fun _ => ⟨rfl, rfl, rfl, Nat.le_refl _⟩)
      · simp only [upd_ne _ _ hi]; exact (h5 i).mono hev
end Go.Proofs.YtlbiooppadlolaaGreatDoor.Ab
end
