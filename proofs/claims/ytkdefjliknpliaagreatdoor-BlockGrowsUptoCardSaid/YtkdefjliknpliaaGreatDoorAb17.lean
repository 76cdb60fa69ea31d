/- Plain laws, joined. Conditions: none. -/
import Derived.Test.YtkdefjliknpliaaGreatDoorAb14
import Derived.Laws.MakeOwn
import Derived.Laws.BytesArg
namespace Go.Proofs.YtkdefjliknpliaaGreatDoor.Ab
section
/- Lists that are made, written in place and read: what operations on them come to. Conditions: none. -/
open Go

def setI {α : Type} (l : List α) (k : Int) (v : α) : Option (List α) := if 0 ≤ k ∧ k.toNat < l.length then some (l.set k.toNat v) else none
theorem setI_len {α : Type} {l r : List α} {k : Int} {v : α} (h : setI l k v = some r) : r.length = l.length := by
  unfold setI at h
  split at h
  · injection h with h; subst h; simp
  · cases h

section
variable {P : Program} {ρ : Operand → V} {H : List HE} {ty : TypeId}

/-- A new list: an entry that was free. -/
theorem WOK.newLst {g : G} {w w' : World} {id s cap : Nat} {l : List D} {arr : Array Value} {et : TypeId} (hw : WOK g w H) (hH : H[id]? = some .free) (hsame : w'.os = w.os ∧ w'.tape = w.tape ∧ w'.output = w.output) (hh : w'.heap = w.heap.push (.cells arr et (0, 0)))
    (hlen : l.length ≤ cap) (hcap : cap ≤ 9223372036854775807) (harr : arr.size = cap * s) (hrep : ∀ (k : Nat) x v, (D.flat l)[k]? = some x → arr[k]? = some v → RepD g.Pr w x v) :
    ∃ g', WOK g' w' (H.set id (.lst l et s)) ∧ Evo g w g' w' ∧ g'.τ id = some (0, some ⟨w.heap.size, 0, none⟩, cap) := by
  have hidlt : id < H.length := (List.getElem?_eq_some_iff.1 hH).1
  obtain ⟨hfσ, hfτ, hfυ⟩ := hw.free id (.inl hH)
  let B := w.heap.size
  let g' : G := { σ := fun i => if i = id then some B else g.σ i, τ := fun i => if i = id then some (0, some ⟨B, 0, none⟩, cap) else g.τ i, υ := g.υ, X := fun b => g.X b ∨ b = B, Pr := g.Pr }
  have hold : ∀ b, b < B → w'.heap[b]? = w.heap[b]? := fun b hb => by
    rw [hh, Array.getElem?_push, if_neg (by omega)]
  have hnew : w'.heap[B]? = some (.cells arr et (0, 0)) := by simp [hh, B]
  have hsz : w'.heap.size = B + 1 := by simp [hh, B]
  have hσ' : ∀ i, i ≠ id → g'.σ i = g.σ i := fun i h => by simp [g', h]
  have hτ' : ∀ i, i ≠ id → g'.τ i = g.τ i := fun i h => by simp [g', h]
  have hτid : g'.τ id = some (0, some ⟨B, 0, none⟩, cap) := by simp [g']
  have hev : Evo g w g' w' := {
    same := hsame
    size := by omega
    pr := fun b o hp => ⟨hp, by have := hw.pr b o hp; simp [World.cell?, hold b this]⟩
    prn := fun b o h => .inl h
    x := fun b h => h.imp (fun h => h) (fun e => by omega)
    keep := fun b hb _ => hold b hb
    σ := fun i b h => by
      have : i ≠ id := fun e => by subst e; rw [hfσ] at h; cases h
      rw [hσ' i this]; exact h
    τ := fun i m a cap h => by
      have : i ≠ id := fun e => by subst e; rw [hfτ] at h; cases h
      exact ⟨m, a, cap, by rw [hτ' i this]; exact h, .inr ⟨rfl, rfl, rfl⟩⟩ }
  have hget : ∀ (i : Nat) e, (H.set id (.lst l et s))[i]? = some e → (i = id ∧ e = .lst l et s) ∨ (i ≠ id ∧ H[i]? = some e) := by
    intro i e he
    by_cases hi : i = id
    · subst hi; rw [List.getElem?_set_self hidlt] at he; exact .inl ⟨rfl, (Option.some.inj he).symm⟩
    · rw [List.getElem?_set_ne (Ne.symm hi)] at he; exact .inr ⟨hi, he⟩
  have hblk : ∀ (i : Nat) e b', (H.set id (.lst l et s))[i]? = some e → g'.blk i e b' → (i = id ∧ b' = B) ∨ (i ≠ id ∧ H[i]? = some e ∧ g.blk i e b' ∧ b' < B) := by
    intro i e b' he hb'
    rcases hget i e he with ⟨rfl, rfl⟩ | ⟨hne, h⟩
    · simp only [G.blk, hτid, Option.bind_some] at hb'
      split at hb' <;> simp at hb'
      exact .inl ⟨rfl, hb'.symm⟩
    · have : g.blk i e b' := by
        cases e <;> simp only [G.blk, hσ' i hne, hτ' i hne] at hb' ⊢ <;> exact hb'
      exact .inr ⟨hne, h, this, hw.xs b' (hw.blk i e b' h this)⟩
  refine ⟨g', ⟨fun b o h => by have := hw.pr b o h; show b < w'.heap.size; omega, ?_, ?_, ?_, ?_, ?_, ?_, ?_, ?_, hw.kcE hev⟩, hev, hτid⟩
  · intro b h
    show b < w'.heap.size
    rcases h with h | rfl
    · have := hw.xs b h; omega
    · omega
  · intro i e b' he hb'
    rcases hblk i e b' he hb' with ⟨_, rfl⟩ | ⟨_, h1, h2, _⟩
    · exact .inr rfl
    · exact .inl (hw.blk i e b' h1 h2)
  · intro i i' e e' b' he he' hb1 hb2
    rcases hblk i e b' he hb1 with ⟨r1, r2⟩ | ⟨_, h1, h2, h3⟩ <;> rcases hblk i' e' b' he' hb2 with ⟨s1, s2⟩ | ⟨_, h4, h5, h6⟩
    · omega
    · omega
    · omega
    · exact hw.sep i i' e e' b' h1 h4 h2 h5
  · intro i ci hi
    rcases hget i _ hi with ⟨rfl, he⟩ | ⟨hne, h⟩
    · cases he
    · obtain ⟨b1, arr1, et1, g1, g2, g3, g4, g5⟩ := hw.row i ci h
      have hlt := hw.xs b1 (hw.blk i _ b1 h (by simpa [G.blk] using g1))
      exact ⟨b1, arr1, et1, by rw [hσ' i hne]; exact g1, (hold b1 hlt).trans g2, g3, fun k x v hx hv => (g4 k x v hx hv).mono hev, g5⟩
  · intro i n e s hi
    rcases hget i _ hi with ⟨_, he⟩ | ⟨hne, h⟩
    · cases he
    · obtain ⟨a, cap, g1, g2, g3, g4⟩ := hw.tok i n e s h
      refine ⟨a, cap, by rw [hτ' i hne]; exact g1, g2, g3, fun hlt => ?_⟩
      obtain ⟨b1, arr1, k1, k2, k3, k4⟩ := g4 hlt
      have hlt' := hw.xs b1 (hw.blk i _ b1 h (by simp [G.blk, g1, hlt, k1]))
      exact ⟨b1, arr1, k1, (hold b1 hlt').trans k2, k3, k4⟩
  · intro i l1 e s1 hi
    rcases hget i _ hi with ⟨rfl, he⟩ | ⟨hne, h⟩
    · injection he with q1 q2 q3
      subst q1; subst q2; subst q3
      refine ⟨_, cap, hτid, hlen, hcap, fun _ => ⟨B, arr, rfl, by simp [g'], hnew, harr, fun o hp => by have := hw.pr B o hp; omega, fun k x v hx hv => (hrep k x v hx hv).mono hev.pr⟩⟩
    · obtain ⟨a, cap, g1, g2, g3, g4⟩ := hw.lst i l1 e s1 h
      refine ⟨a, cap, by rw [hτ' i hne]; exact g1, g2, g3, fun hlt => ?_⟩
      obtain ⟨b1, arr1, k1, k0, k2, k3, k4, k5⟩ := g4 hlt
      have hlt' := hw.xs b1 (hw.blk i _ b1 h (by simp [G.blk, g1, hlt, k1]))
      exact ⟨b1, arr1, k1, by rw [hσ' i hne]; exact k0, (hold b1 hlt').trans k2, k3, k4, fun k x v hx hv => (k5 k x v hx hv).mono hev.pr⟩
  · intro i x hi
    rcases hget i _ hi with ⟨_, he⟩ | ⟨hne, h⟩
    · cases he
    · obtain ⟨b1, q1, q2, q3, q4⟩ := hw.ob i x h
      have hlt := hw.xs b1 (hw.blk i _ b1 h (.inl q1))
      exact ⟨b1, by rw [hσ' i hne]; exact q1, x.st hev.w (hτ' i hne) rfl (hold b1 hlt) (fun b' hu => hold b' (hw.xs b' (hw.blk i _ b' h (.inr hu)))) q2, q3, q4⟩
  · intro i hi
    have hne : i ≠ id := by
      rintro rfl
      rcases hi with hi | hi
      · rw [List.getElem?_set_self hidlt] at hi; cases hi
      · simp at hi; omega
    rw [hσ' i hne, hτ' i hne]
    refine hw.free i ?_
    rcases hi with hi | hi
    · rw [List.getElem?_set_ne (Ne.symm hne)] at hi; exact .inl hi
    · exact .inr (by simpa using hi)

/-- A list that is written in place. -/
theorem WOK.storeLst {g : G} {w w' : World} {id b s cap : Nat} {l l' : List D} {arr' : Array Value} {et : TypeId} (hw : WOK g w H) (hH : H[id]? = some (.lst l et s)) (ht : g.τ id = some (0, some ⟨b, 0, none⟩, cap)) (h0 : 0 < cap)
    (hσ : g.σ id = some b) (hsame : w'.os = w.os ∧ w'.tape = w.tape ∧ w'.output = w.output) (hsz : w'.heap.size = w.heap.size) (hn : w'.heap[b]? = some (.cells arr' et (0, 0))) (ho : ∀ b', b' ≠ b → w'.heap[b']? = w.heap[b']?)
    (hlen : l'.length ≤ cap) (harr : arr'.size = cap * s) (hrep : ∀ (k : Nat) x v, (D.flat l')[k]? = some x → arr'[k]? = some v → RepD g.Pr w x v) : WOK g w' (H.set id (.lst l' et s)) ∧ Evo g w g w' := by
  have hidlt : id < H.length := (List.getElem?_eq_some_iff.1 hH).1
  have hbid : g.blk id (.lst l et s) b := by simp [G.blk, ht, h0]
  have hX : g.X b := hw.blk id _ b hH hbid
  obtain ⟨a0, cap0, f1, f2, f3, f4⟩ := hw.lst id l et s hH
  rw [ht] at f1; injection f1 with f1; injection f1 with _ f1; injection f1 with f1 f1'
  subst f1; subst f1'
  obtain ⟨b0, arr0, q1, q0, q2, q3, q4, q5⟩ := f4 h0
  injection q1 with q1; injection q1 with q1
  subst q1
  have hev : Evo g w g w' := {
    same := hsame
    size := by omega
    pr := fun b' o hp => ⟨hp, by
      have hne : b' ≠ b := fun e => by subst e; exact q4 o hp
      simp [World.cell?, ho b' hne]⟩
    prn := fun b o h => .inl h
    x := fun b h => .inl h
    keep := fun b' _ hx => ho b' (fun e => by subst e; exact hx hX)
    σ := fun _ _ h => h
    τ := fun _ m a cap h => ⟨m, a, cap, h, .inr ⟨rfl, rfl, rfl⟩⟩ }
  have hget : ∀ (i : Nat) e, (H.set id (.lst l' et s))[i]? = some e → (i = id ∧ e = .lst l' et s) ∨ (i ≠ id ∧ H[i]? = some e) := by
    intro i e he
    by_cases hi : i = id
    · subst hi; rw [List.getElem?_set_self hidlt] at he; exact .inl ⟨rfl, (Option.some.inj he).symm⟩
    · rw [List.getElem?_set_ne (Ne.symm hi)] at he; exact .inr ⟨hi, he⟩
  have hblk : ∀ (i : Nat) e b', (H.set id (.lst l' et s))[i]? = some e → g.blk i e b' → ∃ e', H[i]? = some e' ∧ g.blk i e' b' := by
    intro i e b' he hb'
    rcases hget i e he with ⟨rfl, rfl⟩ | ⟨_, h⟩
    · exact ⟨_, hH, hb'⟩
    · exact ⟨e, h, hb'⟩
  refine ⟨⟨fun b o h => by rw [hsz]; exact hw.pr b o h, fun b h => by rw [hsz]; exact hw.xs b h, ?_, ?_, ?_, ?_, ?_, ?_, ?_, hw.kcE hev⟩, hev⟩
  · intro i e b' he hb'
    obtain ⟨e', h1, h2⟩ := hblk i e b' he hb'
    exact hw.blk i e' b' h1 h2
  · intro i i' e e' b' he he' hb1 hb2
    obtain ⟨e1, h1, h2⟩ := hblk i e b' he hb1
    obtain ⟨e3, h3, h4⟩ := hblk i' e' b' he' hb2
    exact hw.sep i i' e1 e3 b' h1 h3 h2 h4
  · intro i ci hi
    rcases hget i _ hi with ⟨rfl, he⟩ | ⟨hne, h⟩
    · cases he
    · obtain ⟨b1, arr1, et1, g1, g2, g3, g4, g5⟩ := hw.row i ci h
      have hne' : b1 ≠ b := fun e => hne (hw.sep i id _ _ b1 h hH (by simpa [G.blk] using g1) (by rw [e]; exact hbid))
      exact ⟨b1, arr1, et1, g1, (ho b1 hne').trans g2, g3, fun k x v hx hv => (g4 k x v hx hv).mono hev, g5⟩
  · intro i n e s hi
    rcases hget i _ hi with ⟨_, he⟩ | ⟨hne, h⟩
    · cases he
    · obtain ⟨a, cap, g1, g2, g3, g4⟩ := hw.tok i n e s h
      refine ⟨a, cap, g1, g2, g3, fun hlt => ?_⟩
      obtain ⟨b1, arr1, k1, k2, k3, k4⟩ := g4 hlt
      have hne' : b1 ≠ b := fun e' => hne (hw.sep i id _ _ b1 h hH (by simp [G.blk, g1, hlt, k1]) (by rw [e']; exact hbid))
      exact ⟨b1, arr1, k1, (ho b1 hne').trans k2, k3, k4⟩
  · intro i l1 e s1 hi
    rcases hget i _ hi with ⟨rfl, he⟩ | ⟨hne, h⟩
    · injection he with r1 r2 r3
      subst r1; subst r2; subst r3
      exact ⟨_, cap, ht, hlen, f3, fun _ => ⟨b, arr', rfl, hσ, hn, harr, q4, fun k x v hx hv => (hrep k x v hx hv).mono hev.pr⟩⟩
    · obtain ⟨a, cap, g1, g2, g3, g4⟩ := hw.lst i l1 e s1 h
      refine ⟨a, cap, g1, g2, g3, fun hlt => ?_⟩
      obtain ⟨b1, arr1, k1, k0, k2, k3, k4, k5⟩ := g4 hlt
      have hne' : b1 ≠ b := fun e' => hne (hw.sep i id _ _ b1 h hH (by simp [G.blk, g1, hlt, k1]) (by rw [e']; exact hbid))
      exact ⟨b1, arr1, k1, k0, (ho b1 hne').trans k2, k3, k4, fun k x v hx hv => (k5 k x v hx hv).mono hev.pr⟩
  · intro i x hi
    rcases hget i _ hi with ⟨_, he⟩ | ⟨hne, h⟩
    · cases he
    · obtain ⟨b1, q1, q2, q3, q4⟩ := hw.ob i x h
      have hne' : b1 ≠ b := fun e' => hne (hw.sep i id _ _ b1 h hH (.inl q1) (by rw [e']; exact hbid))
      have hnu : ∀ b', g.υ i b' → b' ≠ b := fun b' hu e' => hne (hw.sep i id _ _ b' h hH (.inr hu) (by rw [e']; exact hbid))
      exact ⟨b1, q1, x.st hev.w rfl rfl (ho b1 hne') (fun b' hu => ho b' (hnu b' hu)) q2, q3, q4⟩
  · intro i hi
    refine hw.free i ?_
    rcases hi with hi | hi
    · rcases hget i _ hi with ⟨_, he⟩ | ⟨_, h⟩
      · cases he
      · exact .inl h
    · exact .inr (by simpa using hi)

theorem flat_rep {c : List D} {s : Nat} (hc : c.length = s) {n k : Nat} {x : D} {z : D} (hz : z.cells = c) (h : (D.flat (List.replicate n z))[k]? = some x) : ∃ j, c[j]? = some x ∧ j = k % s := by
  induction n generalizing k with
  | zero => simp [D.flat] at h
  | succ n ih =>
    rw [List.replicate_succ] at h
    simp only [D.flat, List.flatMap_cons, hz] at h
    rw [List.getElem?_append] at h
    split at h
    · exact ⟨k, h, by rw [Nat.mod_eq_of_lt (by omega)]⟩
    · obtain ⟨j, h1, h2⟩ := ih (by simpa [D.flat] using h)
      exact ⟨j, h1, by rw [h2, hc, ← Nat.mod_eq_sub_mod (by omega)]⟩

theorem flat_one1 {α : Type} {f : α → D} (h1 : ∀ x, (f x).cells = [f x]) (l : List α) : D.flat (l.map f) = l.map f :=
  flat_one (fun x hx => by obtain ⟨y, _, rfl⟩ := List.mem_map.1 hx; exact h1 y)

theorem op_len_hs {x : Operand} {t e s bytes id off len : Nat} {l : List D} {s' : Nat} {e' : TypeId} (hx : Is (ρ x) (.hs id off len s)) (hH : H[id]? = some (.lst l e' s')) (ht : SlT P t e s bytes) : OpV P (.call ⟨.builtin .len, #[x], #[t]⟩) ty ρ H (.d (.int .i64 (len : Int))) H :=
  OpV.of_val fun g w r hw h => ⟨.int .i64 len, fun _ _ _ _ => by
    have := hx.rep (h x (by simp [Op.operands, Call.operands]))
    obtain ⟨a, cap, k1, _⟩ := hw.lst id l e' s' hH
    generalize hr : r x = v at this
    cases this with
    | hs q1 q2 =>
      rw [k1] at q1; injection q1 with q1; injection q1 with q1 q3
      obtain ⟨_, p2, _, _⟩ := q2 q1.symm
      subst p2
      simp [execOp, resolve, invoke, builtin, Builtin.len_, run_underlying ht.u, hr, goInt], .d (.int _ _)⟩

theorem op_indexAddr_hs {α : Type} {f : α → D} {l : List α} {v : α} {x y : Operand} {t e bytes id len : Nat} {k : IntKind} {a : Int} (hx : Is (ρ x) (.hs id 0 len 1)) (hH : H[id]? = some (.lst (l.map f) e 1)) (hl : l.length = len)
    (hy : As (ρ y) (.int k a)) (hv : ix l a = some v) (ht : SlT P t e 1 bytes) : OpV P (.indexAddr t x y) ty ρ H (.ptr id a.toNat) H :=
  OpV.of_val fun g w r hw h => by
    have h1 := hx.rep (h x (by simp [Op.operands]))
    have h2 := hy.int (h y (by simp [Op.operands]))
    obtain ⟨i, hi, hv'⟩ := ix_nat hv
    subst hi
    have hil : i < l.length := (List.getElem?_eq_some_iff.1 hv').1
    obtain ⟨ad, cap, k1, k2, k3, k4⟩ := hw.lst id _ _ _ hH
    simp only [List.length_map] at k2
    obtain ⟨b, arr, rfl, q0, q2, q3, q4, q5⟩ := k4 (by omega)
    obtain ⟨ie, z, hie, hsz, _⟩ := ht.i
    generalize hr : r x = u at h1
    cases h1 with
    | @hs _ _ _ _ m cap' n0 c0 a' a0 p1 p2 =>
      rw [k1] at p1; injection p1 with p1; injection p1 with p1 p3
      injection p3 with p3 p4
      obtain ⟨r1, r2, r3, r4⟩ := hs0 (p2 p1.symm)
      have hlt : i < n0 := by omega
      subst r1; subst r3; subst p3
      refine ⟨.pointer (some ⟨b, i, none⟩), fun _ _ _ _ => ?_, .ptr q0⟩
      simp [execOp, Instr.indexAt, asIntOf, hr, h2, run_underlying ht.u, hlt, run_sizeOf' hie, hsz, Addr.add_none]

theorem op_load_lp {α : Type} {f : α → D} {l : List α} {v : α} {x : Operand} {t id : Nat} {e : TypeId} {a : Int} (h1 : ∀ x, (f x).cells = [f x]) (hx : Is (ρ x) (.ptr id a.toNat)) (hH : H[id]? = some (.lst (l.map f) e 1)) (hv : ix l a = some v) (ht : Sc P t) :
    OpV P (.load t x) ty ρ H (.d (f v)) H :=
  OpV.of_val fun g w r hw h => by
    have hp := hx.rep (h x (by simp [Op.operands]))
    obtain ⟨i, hi, hv'⟩ := ix_nat hv
    subst hi
    have hil : i < l.length := (List.getElem?_eq_some_iff.1 hv').1
    obtain ⟨ad, cap, k1, k2, k3, k4⟩ := hw.lst id _ _ _ hH
    simp only [List.length_map] at k2
    obtain ⟨b, arr, rfl, q0, q2, q3, q4, q5⟩ := k4 (by omega)
    generalize hr : r x = u at hp
    cases hp with
    | @ptr _ _ b' hb =>
      obtain rfl : b' = b := by rw [hb] at q0; exact Option.some.inj q0
      have hlt : i < arr.size := by omega
      simp only [Int.toNat_natCast] at hr
      have hcell : w.cell? ⟨b', i, none⟩ = some arr[i] := by rw [cell_of_cells q2]; simp [hlt]
      refine ⟨arr[i], fun _ _ _ _ => by simp [execOp, Instr.loadAt, Instr.sureAddr, hr, run_loadVar_one ht hcell], .d (q5 i _ _ ?_ (by simp [hlt]))⟩
      rw [flat_one1 h1]; simp [hv']

theorem op_store_lp {α : Type} {f : α → D} {l r : List α} {v : α} {x y : Operand} {t id : Nat} {e : TypeId} {a : Int} (h1 : ∀ x, (f x).cells = [f x]) (hx : Is (ρ x) (.ptr id a.toNat)) (hy : As (ρ y) (f v)) (hH : H[id]? = some (.lst (l.map f) e 1)) (hv : setI l a v = some r)
    (hsz : ∃ i, P.info? t = some i ∧ i.size = 1) (hf : En f 1) : OpV P (.store t x y) ty ρ H .any (H.set id (.lst (r.map f) e 1)) := by
  unfold setI at hv
  split at hv
  · rename_i hc
    injection hv with hv; subst hv
    obtain ⟨h0, hlt0⟩ := hc
    obtain ⟨i, rfl⟩ : ∃ i : Nat, a = (i : Int) := ⟨a.toNat, by omega⟩
    simp only [Int.toNat_natCast] at *
    intro g w r pos after guard dst hw h
    have hp := hx.rep (h x (by simp [Op.operands]))
    have hu := hy.rep (h y (by simp [Op.operands]))
    have hone := hu.one (hf.one v (f v) (by rw [h1]; simp))
    have hcells : (r y).cells = #[r y] := by
      cases hry : r y <;> simp_all [Value.cells, Value.oneCell']
    obtain ⟨inf, hi, his⟩ := hsz
    obtain ⟨ad, cap, k1, k2, k3, k4⟩ := hw.lst id _ _ _ hH
    simp only [List.length_map] at k2
    have hcap : 0 < cap := by omega
    obtain ⟨b, arr, rfl, q0, q2, q3, q4, q5⟩ := k4 hcap
    generalize hr : r x = v' at hp
    cases hp with
    | @ptr _ _ b' hb =>
      obtain rfl : b' = b := by rw [hb] at q0; exact Option.some.inj q0
      have hia : i < arr.size := by omega
      have hrun := run_storeCells_at P b' i e (r y).cells.toList 0 arr w q2 (by rw [hcells]; simp; omega) (fun u hu' => by rw [hcells] at hu'; simp at hu'; subst hu'; exact hone)
      have hsize : (r y).cells.size = inf.size := by rw [hcells, his]; rfl
      unfold OpRuns
      simp only [execOp, Instr.storeAt, Instr.sureAddr, hr, Sem.run_bind, Sem.run_pure, Result.andThen_ok, storeVar, run_sizeOf' hi, hsize, ne_eq, not_true_eq_false, if_false, hrun]
      refine ⟨g, ?_⟩
      have key := WOK.storeLst (w' := w.setRow b' (arr.toList.take (i + 0) ++ (r y).cells.toList ++ arr.toList.drop (i + 0 + (r y).cells.toList.length)).toArray) (l' := (l.set i v).map f)
        (arr' := (arr.toList.take (i + 0) ++ (r y).cells.toList ++ arr.toList.drop (i + 0 + (r y).cells.toList.length)).toArray) hw hH k1 hcap hb ⟨rfl, rfl, rfl⟩ (setRow_size w b' _) (setRow_heap w b' arr _ e _ q2) (fun b'' hne => setRow_other w b' b'' _ hne)
        (by simpa using k2) (by rw [hcells]; simp; omega) (fun k x u hx' hu' => by
          rw [flat_one1 h1, List.getElem?_map, Option.map_eq_some_iff] at hx'
          obtain ⟨z, hz, rfl⟩ := hx'
          rw [hcells] at hu'
          simp only [Nat.add_zero, List.getElem?_toArray] at hu'
          have l2 : (List.take i arr.toList).length = i := by simp; omega
          rw [List.append_assoc] at hu'
          rw [List.getElem?_set] at hz
          by_cases hk : k < i
          · rw [List.getElem?_append_left (by omega), List.getElem?_take, if_pos hk, Array.getElem?_toList] at hu'
            rw [if_neg (by omega)] at hz
            exact q5 k _ u (by rw [flat_one1 h1]; simp [hz]) hu'
          · rw [List.getElem?_append_right (by omega), l2] at hu'
            by_cases hk2 : k = i
            · subst hk2
              simp at hu'; subst hu'
              rw [if_pos rfl, if_pos hlt0] at hz
              injection hz with hz; subst hz
              exact hu
            · rw [List.getElem?_append_right (by simp; omega), List.getElem?_drop, Array.getElem?_toList] at hu'
              rw [if_neg (by omega)] at hz
              refine q5 k _ u (by rw [flat_one1 h1]; simp [hz]) ?_
              rw [← hu']; congr 1; simp; omega)
      exact ⟨key.1, key.2, .any⟩
  · cases hv
end
end
section
/- Lists that are given up to be data, and lists that are lent to a call. Conditions: none. -/
open Go

/-- The block of a list is read from now on, and not written. -/
theorem WOK.freeze {g : G} {w : World} {H : List HE} {id s : Nat} {l : List D} {e : TypeId} (hw : WOK g w H) (hH : H[id]? = some (.lst l e s)) (hs : ∀ x ∈ l, x.cells.length = s) :
    ∃ g', WOK g' w (H.set id .dead) ∧ Evo g w g' w ∧ (∀ i, g'.τ i = g.τ i) ∧ (∀ a cap, g.τ id = some (0, a, cap) → RepD g'.Pr w (.sl l) (.slice a l.length cap)) := by
  have hidlt : id < H.length := (List.getElem?_eq_some_iff.1 hH).1
  obtain ⟨a0, cap0, f1, f2, f3, f4⟩ := hw.lst id l e s hH
  let g' : G := { σ := g.σ, τ := g.τ, υ := g.υ, X := g.X, Pr := fun b o => g.Pr b o ∨ (0 < cap0 ∧ g.blk id (.lst l e s) b ∧ o < l.length * s) }
  have hXb : ∀ b, g.blk id (.lst l e s) b → g.X b := fun b hb => hw.blk id _ b hH hb
  have hev : Evo g w g' w := {
    same := ⟨rfl, rfl, rfl⟩
    size := Nat.le_refl _
    pr := fun b o hp => ⟨.inl hp, rfl⟩
    prn := fun b o h => by
      rcases h with h | ⟨_, h, _⟩
      · exact .inl h
      · exact .inr (.inl (hXb b h))
    x := fun b h => .inl h
    keep := fun b _ _ => rfl
    σ := fun _ _ h => h
    τ := fun _ m a cap h => ⟨m, a, cap, h, .inr ⟨rfl, rfl, rfl⟩⟩ }
  have hget : ∀ (i : Nat) e, (H.set id .dead)[i]? = some e → (i = id ∧ e = .dead) ∨ (i ≠ id ∧ H[i]? = some e) := by
    intro i e he
    by_cases hi : i = id
    · subst hi; rw [List.getElem?_set_self hidlt] at he; exact .inl ⟨rfl, (Option.some.inj he).symm⟩
    · rw [List.getElem?_set_ne (Ne.symm hi)] at he; exact .inr ⟨hi, he⟩
  have hne : ∀ (i : Nat) x b, i ≠ id → H[i]? = some x → g.blk i x b → ¬ g.blk id (.lst l e s) b := fun i x b hi hx hb hc => hi (hw.sep i id _ _ b hx hH hb hc)
  refine ⟨g', ⟨?_, hw.xs, ?_, ?_, ?_, ?_, ?_, ?_, ?_, hw.kcE hev⟩, hev, fun _ => rfl, ?_⟩
  · intro b o h
    rcases h with h | ⟨_, h, _⟩
    · exact hw.pr b o h
    · exact hw.xs b (hXb b h)
  · intro i x b he hb
    rcases hget i x he with ⟨rfl, rfl⟩ | ⟨hi, h⟩
    · simp [G.blk] at hb
    · exact hw.blk i x b h (by cases x <;> exact hb)
  · intro i i' x x' b he he' hb hb'
    rcases hget i x he with ⟨rfl, rfl⟩ | ⟨hi, h⟩
    · simp [G.blk] at hb
    · rcases hget i' x' he' with ⟨rfl, rfl⟩ | ⟨hi', h'⟩
      · simp [G.blk] at hb'
      · exact hw.sep i i' x x' b h h' (by cases x <;> exact hb) (by cases x' <;> exact hb')
  · intro i c he
    rcases hget i _ he with ⟨_, h⟩ | ⟨hi, h⟩
    · cases h
    · obtain ⟨b1, arr1, et1, g1, g2, g3, g4, g5⟩ := hw.row i c h
      refine ⟨b1, arr1, et1, g1, g2, g3, fun k x v hx hv => (g4 k x v hx hv).mono hev, fun o hp => ?_⟩
      rcases hp with hp | ⟨_, hp, _⟩
      · exact g5 o hp
      · exact hne i _ b1 hi h g1 hp
  · intro i n e1 s1 he
    rcases hget i _ he with ⟨_, h⟩ | ⟨hi, h⟩
    · cases h
    · obtain ⟨a, cap, g1, g2, g3, g4⟩ := hw.tok i n e1 s1 h
      refine ⟨a, cap, g1, g2, g3, fun hlt => ?_⟩
      obtain ⟨b1, arr1, k1, k2, k3, k4⟩ := g4 hlt
      refine ⟨b1, arr1, k1, k2, k3, fun o hp => ?_⟩
      rcases hp with hp | ⟨_, hp, _⟩
      · exact k4 o hp
      · exact absurd hp (hne i _ b1 hi h (by simp [G.blk, g1, hlt, k1]))
  · intro i l1 e1 s1 he
    rcases hget i _ he with ⟨_, h⟩ | ⟨hi, h⟩
    · cases h
    · obtain ⟨a, cap, g1, g2, g3, g4⟩ := hw.lst i l1 e1 s1 h
      refine ⟨a, cap, g1, g2, g3, fun hlt => ?_⟩
      obtain ⟨b1, arr1, k1, k0, k2, k3, k4, k5⟩ := g4 hlt
      refine ⟨b1, arr1, k1, k0, k2, k3, fun o hp => ?_, fun k x v hx hv => (k5 k x v hx hv).mono hev.pr⟩
      rcases hp with hp | ⟨_, hp, _⟩
      · exact k4 o hp
      · exact absurd hp (hne i _ b1 hi h (by simp [G.blk, g1, hlt, k1]))
  · intro i x he
    rcases hget i _ he with ⟨_, h⟩ | ⟨hi, h⟩
    · cases h
    · obtain ⟨b1, q1, q2, q3, q4⟩ := hw.ob i x h
      refine ⟨b1, q1, x.st hev.w rfl rfl rfl (fun _ _ => rfl) q2, fun o hp => ?_, fun b' o hu hp => ?_⟩
      · rcases hp with hp | ⟨_, hp, _⟩
        · exact q3 o hp
        · exact hne i _ b1 hi h (.inl q1) hp
      · rcases hp with hp | ⟨_, hp, _⟩
        · exact q4 b' o hu hp
        · exact hne i _ b' hi h (.inr hu) hp
  · intro i hi
    have hne : i ≠ id := by
      rintro rfl
      rcases hi with hi | hi
      · rw [List.getElem?_set_self hidlt] at hi; cases hi
      · simp at hi; omega
    refine hw.free i ?_
    rcases hi with hi | hi
    · rw [List.getElem?_set_ne (Ne.symm hne)] at hi; exact .inl hi
    · exact .inr (by simpa using hi)
  · intro a cap ht
    rw [f1] at ht; injection ht with ht; injection ht with _ ht; injection ht with h1 h2
    subst h1; subst h2
    refine .sl l a0 cap0 s (fun k => match a0 with | some ad => (w.cell? ⟨ad.block, k, none⟩).getD undef | none => undef) hs f2 (fun hnil => ?_) (fun k x hx => ?_)
    · have hlpos : 0 < l.length := List.length_pos_iff.2 hnil
      have hc : 0 < cap0 := by omega
      obtain ⟨b, arr, rfl, q0, q2, q3, q4, q5⟩ := f4 hc
      refine ⟨b, 0, rfl, fun k hk => ⟨.inr ⟨hc, by simp [G.blk, f1, hc], by omega⟩, ?_⟩⟩
      have hka : k < arr.size := by
        rw [q3]; exact Nat.lt_of_lt_of_le hk (Nat.mul_le_mul_right _ f2)
      simp only [Nat.zero_add, cell_of_cells q2]
      simp [hka]
    · have hfl := flat_length hs
      have hkl : k < l.length * s := by rw [← hfl]; exact (List.getElem?_eq_some_iff.1 hx).1
      have hc : 0 < cap0 := by
        rcases Nat.eq_zero_or_pos cap0 with h | h
        · have : l.length = 0 := by omega
          rw [this] at hkl; simp at hkl
        · exact h
      obtain ⟨b, arr, rfl, q0, q2, q3, q4, q5⟩ := f4 hc
      have hka : k < arr.size := by
        rw [q3]; exact Nat.lt_of_lt_of_le hkl (Nat.mul_le_mul_right _ f2)
      simp only [cell_of_cells q2]
      have : arr[k]? = some arr[k] := by simp [hka]
      rw [this]
      exact (q5 k x _ hx this).mono hev.pr

def setE (E : Nat → V) : List Nat → V → Nat → V
  | [], _ => E
  | t :: ts, v => upd (setE E ts v) t v
def SameE (E : Nat → V) (v : V) : List Nat → Prop
  | [] => True
  | t :: ts => E t = v ∧ SameE E v ts
theorem setE_rep {g : G} {w : World} {E : Nat → V} {v u : V} {i : Nat} {r : Value} (hr : Rep g w (E i) r) (huv : Rep g w u r → Rep g w v r) : ∀ {ts : List Nat}, SameE E u ts → Rep g w (setE E ts v i) r
  | [], _ => hr
  | t :: ts, h => by
    simp only [setE]
    by_cases hi : i = t
    · subst hi
      rw [upd_same]
      rw [h.1] at hr
      exact huv hr
    · rw [upd_ne _ _ hi]; exact setE_rep hr huv h.2

theorem AW.freeze {F : FC} {Q : Exit → St → Prop} {c : Code} {E : Nat → V} {H : List HE} {α : Type} {f : α → D} {l : List α} {e : TypeId} {s len : Nat} (id : Nat) (ts : List Nat) (hH : H[id]? = some (.lst (l.map f) e s)) (hl : l.length = len) (hf : En f s)
    (hE : SameE E (.hs id 0 len s) ts) (h : AW F c Q ⟨setE E ts (.d (.sl (l.map f))), H.set id .dead⟩) : AW F c Q ⟨E, H⟩ := by
  rintro a w ⟨h1, h2, g, h3, h4, h5⟩
  obtain ⟨a0, cap0, k1, k2, _⟩ := h3.lst id _ _ _ hH
  obtain ⟨g', w1, w2, w3, w4⟩ := h3.freeze hH (hf.szL l)
  refine h a w ⟨h1, h2, g', w1, h4.trans w2, fun i => setE_rep ((h5 i).mono w2) (fun hr => ?_) hE⟩
  generalize a.tmps.getD i undef = r at hr
  cases hr with
  | @hs _ _ _ _ m cap' n0 c0 a' a0' p1 p2 =>
    rw [w3, k1] at p1; injection p1 with p1; injection p1 with p1 p3; injection p3 with p3 p4
    obtain ⟨r1, r2, r3, _⟩ := hs0 (p2 p1.symm)
    have := w4 a0 cap0 k1
    subst r1; subst r3; subst p3; subst p4
    rw [r2, ← hl]
    simp only [List.length_map] at this
    exact .d this

/-- Plain results: nothing in memory. -/
def D.flatOk : D → Bool
  | .int _ _ | .bool _ | .str _ => true
  | .tup l => l.all fun x => match x with | .int _ _ | .bool _ | .str _ => true | _ => false
  | _ => false
theorem RepD.plain {Pr Pr' : Nat → Nat → Prop} {w w' : World} {x : D} {r : Value} (hx : x.flatOk = true) (h : RepD Pr w x r) : RepD Pr' w' x r := by
  cases h with
  | bool b => exact .bool b
  | int k n => exact .int k n
  | str s => exact .str s
  | raw => exact .raw _
  | agg l arr hs hr => simp [D.flatOk] at hx
  | sl => simp [D.flatOk] at hx
  | tup l arr hs hr =>
    refine .tup l arr hs (fun i y v hy hv => ?_)
    have := List.all_eq_true.1 hx y (List.mem_of_getElem? hy)
    have h2 := hr i y v hy hv
    cases h2 <;> simp at this
    · exact .bool _
    · exact .int _ _
    · exact .str _

/-- The lists that are lent. -/
def Lent (g : G) (H : List HE) (ids : List Nat) (b o : Nat) : Prop := ∃ id l e s, id ∈ ids ∧ H[id]? = some (.lst l e s) ∧ g.blk id (.lst l e s) b ∧ o < l.length * s

/-- Arguments of a call: data, or lists that are lent to it. -/
inductive ArgsM (ρ : Operand → V) (H : List HE) (ids : List Nat) : List Operand → List D → Prop
  | nil : ArgsM ρ H ids [] []
  | d {x : Operand} {d : D} {xs : List Operand} {ds : List D} : As (ρ x) d → ArgsM ρ H ids xs ds → ArgsM ρ H ids (x :: xs) (d :: ds)
  | l {x : Operand} {α : Type} {f : α → D} {l : List α} {id len s : Nat} {e : TypeId} {xs : List Operand} {ds : List D} : Is (ρ x) (.hs id 0 len s) → H[id]? = some (.lst (l.map f) e s) → l.length = len → En f s → inB ids id = true →
      ArgsM ρ H ids xs ds → ArgsM ρ H ids (x :: xs) (.sl (l.map f) :: ds)

theorem ArgsM.get {ρ : Operand → V} {H : List HE} {ids : List Nat} {xs : List Operand} {ds : List D} (h : ArgsM ρ H ids xs ds) : xs.length = ds.length ∧ ∀ (i : Nat) d, ds[i]? = some d → ∃ x, xs[i]? = some x ∧
    (As (ρ x) d ∨ ∃ (l : List D) (id len s : Nat) (e : TypeId), Is (ρ x) (.hs id 0 len s) ∧ H[id]? = some (.lst l e s) ∧ l.length = len ∧ (∀ x ∈ l, x.cells.length = s) ∧ id ∈ ids ∧ d = .sl l) := by
  induction h with
  | nil => simp
  | d ha _ ih =>
    refine ⟨by simp [ih.1], fun i d hd => ?_⟩
    cases i with
    | zero => simp only [List.getElem?_cons_zero, Option.some.injEq] at hd; subst hd; exact ⟨_, rfl, .inl ha⟩
    | succ i => exact ih.2 i d (by simpa using hd)
  | l h1 h2 h3 h4 h5 _ ih =>
    refine ⟨by simp [ih.1], fun i d hd => ?_⟩
    cases i with
    | zero => simp only [List.getElem?_cons_zero, Option.some.injEq] at hd; subst hd; exact ⟨_, rfl, .inr ⟨_, _, _, _, _, h1, h2, by simpa using h3, h4.szL _, inB_mem.1 h5, rfl⟩⟩
    | succ i => exact ih.2 i d (by simpa using hd)

theorem lent_rep {g : G} {w : World} {H : List HE} {ids : List Nat} {id s cap : Nat} {l : List D} {e : TypeId} {a : Option Addr} (hw : WOK g w H) (hH : H[id]? = some (.lst l e s)) (hs : ∀ x ∈ l, x.cells.length = s) (hid : id ∈ ids) (ht : g.τ id = some (0, a, cap)) :
    RepD (fun b o => g.Pr b o ∨ Lent g H ids b o) w (.sl l) (.slice a l.length cap) := by
  obtain ⟨a0, cap0, f1, f2, f3, f4⟩ := hw.lst id l e s hH
  rw [f1] at ht; injection ht with ht; injection ht with _ ht; injection ht with h1 h2
  subst h1; subst h2
  have mono : ∀ b o, g.Pr b o → (g.Pr b o ∨ Lent g H ids b o) ∧ w.cell? ⟨b, o, none⟩ = w.cell? ⟨b, o, none⟩ := fun b o h => ⟨.inl h, rfl⟩
  refine .sl l a0 cap0 s (fun k => match a0 with | some ad => (w.cell? ⟨ad.block, k, none⟩).getD undef | none => undef) hs f2 (fun hnil => ?_) (fun k x hx => ?_)
  · have hlpos : 0 < l.length := List.length_pos_iff.2 hnil
    have hc : 0 < cap0 := by omega
    obtain ⟨b, arr, rfl, q0, q2, q3, q4, q5⟩ := f4 hc
    refine ⟨b, 0, rfl, fun k hk => ⟨.inr ⟨id, l, e, s, hid, hH, by simp [G.blk, f1, hc], by omega⟩, ?_⟩⟩
    have hka : k < arr.size := by
      rw [q3]; exact Nat.lt_of_lt_of_le hk (Nat.mul_le_mul_right _ f2)
    simp only [Nat.zero_add, cell_of_cells q2]
    simp [hka]
  · have hfl := flat_length hs
    have hkl : k < l.length * s := by rw [← hfl]; exact (List.getElem?_eq_some_iff.1 hx).1
    have hc : 0 < cap0 := by
      rcases Nat.eq_zero_or_pos cap0 with h | h
      · have : l.length = 0 := by omega
        rw [this] at hkl; simp at hkl
      · exact h
    obtain ⟨b, arr, rfl, q0, q2, q3, q4, q5⟩ := f4 hc
    have hka : k < arr.size := by
      rw [q3]; exact Nat.lt_of_lt_of_le hkl (Nat.mul_le_mul_right _ f2)
    simp only [cell_of_cells q2]
    have : arr[k]? = some arr[k] := by simp [hka]
    rw [this]
    exact (q5 k x _ hx this).mono mono

def shrM (k : IntKind) (a b : Int) : Option Int := if b < 0 then none else some (a.fdiv (2 ^ (min b.toNat k.bits)))
section
variable {P : Program} {ρ : Operand → V} {H : List HE} {ty : TypeId}
theorem op_shrM {x y : Operand} {t u : TypeId} {k yk : IntKind} {a b c : Int} (hx : As (ρ x) (.int k a)) (hy : As (ρ y) (.int yk b)) (hv : shrM k a b = some c) : OpV P (.binOp .shr t x y u) ty ρ H (.d (.int k c)) H := by
  unfold shrM at hv
  split at hv
  · cases hv
  · rename_i h0
    injection hv with hv; subst hv
    exact OpV.of_val fun g w r hw h => ⟨_, fun _ _ _ _ => by simp [execOp, hx.int (h x (by simp [Op.operands])), hy.int (h y (by simp [Op.operands])), eqGuard, binOp, Op.shift, h0], .d (.int _ _)⟩
/-- A call that reads lists which are written elsewhere, and whose results hold nothing of them. -/
theorem op_lend {fop : Operand} {f : FuncId} {args : Array Operand} {ts : Array TypeId} {ds : List D} {res : D} (ids : List Nat) (hc : ∀ (a : Array Value) (w : World), (callFunc f a).run P w = .ok (.enter f a) w)
    (hf : Is (ρ fop) (.fn (.func f) [])) (ha : ArgsM ρ H ids args.toList ds) (h : Fn P f ds res) (hp : res.flatOk = true) : OpV P (.call ⟨.value fop, args, ts⟩) ty ρ H (.d res) H := by
  intro g w r pos after guard dst hw hx
  have hmem : ∀ z, z ∈ args.toList → z ∈ (Op.call ⟨.value fop, args, ts⟩).operands := fun z hz => by
    simp only [Op.operands, Call.operands]; exact Array.mem_append.2 (.inr (by simpa using hz))
  have hfr := hf.rep (hx fop (by simp [Op.operands, Call.operands]))
  generalize hrf : r fop = fv at hfr
  cases hfr with
  | @fn _ _ arr hsz hrep =>
    have h0 : arr = #[] := by simpa using hsz
    subst h0
    let g0 : G := { σ := fun _ => none, τ := fun _ => none, υ := fun _ _ => False, X := fun _ => False, Pr := fun b o => g.Pr b o ∨ Lent g H ids b o }
    have hlentX : ∀ b o, Lent g H ids b o → g.X b := by
      rintro b o ⟨id, l, e, s, _, h1, h2, _⟩
      exact hw.blk id _ b h1 h2
    have hw0 : WOK g0 w [] := by
      refine ⟨fun b o hp => ?_, fun b hb => hb.elim, ?_, ?_, ?_, ?_, ?_, ?_, fun _ _ => ⟨rfl, rfl, fun _ h => h⟩, fun x hx => ⟨fun h => h, fun o ho => .inl ((hw.kc x hx).2.1 o ho), (hw.kc x hx).2.2⟩⟩
      · rcases hp with hp | hp
        · exact hw.pr b o hp
        · exact hw.xs b (hlentX b o hp)
      all_goals intros; simp_all
    have hcall := h g0 w (args.map r) hw0 (by have := ha.get.1; simp at this ⊢; omega) (fun i x v hx' hv => by
      simp only [List.getElem?_map, Option.map_eq_some_iff] at hx'
      obtain ⟨d, hd, rfl⟩ := hx'
      obtain ⟨y, hy, hyd⟩ := ha.get.2 i d hd
      have hvy : v = r y := by
        simp only [Array.getElem?_map, Option.map_eq_some_iff] at hv
        obtain ⟨z, hz, rfl⟩ := hv
        rw [← Array.getElem?_toList, hy] at hz
        injection hz with hz; rw [hz]
      subst hvy
      have hry := hx y (hmem y (List.mem_of_getElem? hy))
      rcases hyd with has | ⟨l, id, len, s, e, k1, k2, k3, k4, k5, rfl⟩
      · exact .d ((has.rep hry).mono (fun b o hp => ⟨.inl hp, rfl⟩))
      · have hh := k1.rep hry
        obtain ⟨a0, cap0, f1, _⟩ := hw.lst id l e s k2
        generalize hrr : r y = rr at hh
        cases hh with
        | @hs _ _ _ _ m cap' n0 c0 a' a0' p1 p2 =>
          rw [f1] at p1; injection p1 with p1; injection p1 with p1 p3; injection p3 with p3 p4
          obtain ⟨r1, r2, r3, _⟩ := hs0 (p2 p1.symm)
          have := lent_rep (ids := ids) hw k2 k4 k5 f1
          subst r1; subst r3; subst p3; subst p4
          rw [r2, ← k3]
          exact .d this)
    unfold OpRuns
    simp only [execOp, resolve, hrf, Deferred.ofValue, Sem.run_bind, Sem.run_pure, Result.andThen_ok, invoke, Array.empty_append, Array.append_empty, hc]
    refine hcall.mono ?_
    rintro e w' ⟨rv, res', g', H2, rfl, hw', he, hr, rfl⟩
    let g2 : G := { σ := g.σ, τ := g.τ, υ := g.υ, X := g.X, Pr := fun b o => g'.Pr b o ∧ ¬ ∃ o', Lent g H ids b o' }
    have keep : ∀ b, b < w.heap.size → w'.heap[b]? = w.heap[b]? := fun b hb => he.keep b hb (fun h => h)
    have hnl : ∀ b o, g.Pr b o → ¬ ∃ o', Lent g H ids b o' := by
      rintro b o hp ⟨o', id, l, e, s, _, h1, h2, _⟩
      obtain ⟨a, cap, k1, k2, k3, k4⟩ := hw.lst id l e s h1
      simp only [G.blk, k1, Option.bind_some] at h2
      split at h2
      · rename_i hcp
        obtain ⟨b1, arr1, q1, q0, q2, q3, q4, q5⟩ := k4 hcp
        subst q1
        simp at h2; subst h2
        exact q4 o hp
      · cases h2
    have hev : Evo g w g2 w' := {
      same := he.same
      size := he.size
      pr := fun b o hp => ⟨⟨(he.pr b o (.inl hp)).1, hnl b o hp⟩, (he.pr b o (.inl hp)).2⟩
      prn := fun b o hp => by
        rcases he.prn b o hp.1 with h1 | h1 | h1
        · rcases h1 with h1 | h1
          · exact .inl h1
          · exact (hp.2 ⟨o, h1⟩).elim
        · exact h1.elim
        · exact .inr (.inr h1)
      x := fun b hb => .inl hb
      keep := fun b hb _ => keep b hb
      σ := fun _ _ h => h
      τ := fun _ m a cap h => ⟨m, a, cap, h, .inr ⟨rfl, rfl, rfl⟩⟩ }
    have hold : ∀ b o, g2.Pr b o → b < w.heap.size → g.Pr b o := by
      rintro b o ⟨hp, hn⟩ hb
      rcases he.prn b o hp with h1 | h1 | h1
      · rcases h1 with h1 | h1
        · exact h1
        · exact (hn ⟨o, h1⟩).elim
      · exact h1.elim
      · omega
    refine ⟨rv, rfl, g2, ⟨fun b o hp => hw'.pr b o hp.1, fun b hb => Nat.lt_of_lt_of_le (hw.xs b hb) he.size, hw.blk, hw.sep, ?_, ?_, ?_, ?_, hw.free, hw.kcE hev⟩, hev, ?_⟩
    · intro id c hc
      obtain ⟨b, arr, et, h1, h2, h3, h4, h5⟩ := hw.row id c hc
      have hb : b < w.heap.size := hw.xs b (hw.blk id _ b hc h1)
      exact ⟨b, arr, et, h1, (keep b hb).trans h2, h3, fun k x v hx hv => (h4 k x v hx hv).mono hev, fun o hp => h5 o (hold b o hp hb)⟩
    · intro id n e s hn
      obtain ⟨a, cap, h1, h2, h2', h3⟩ := hw.tok id n e s hn
      refine ⟨a, cap, h1, h2, h2', fun hlt => ?_⟩
      obtain ⟨b, arr, e1, e2, e3, e4⟩ := h3 hlt
      have hb : b < w.heap.size := hw.xs _ (hw.blk id _ b hn (by simp [G.blk, h1, e1, hlt]))
      exact ⟨b, arr, e1, (keep _ hb).trans e2, e3, fun o hp => e4 o (hold _ o hp hb)⟩
    · intro id l e s hn
      obtain ⟨a, cap, h1, h2, h2', h3⟩ := hw.lst id l e s hn
      refine ⟨a, cap, h1, h2, h2', fun hlt => ?_⟩
      obtain ⟨b, arr, e1, e0, e2, e3, e4, e5⟩ := h3 hlt
      have hb : b < w.heap.size := hw.xs _ (hw.blk id _ b hn (by simp [G.blk, h1, e1, hlt]))
      exact ⟨b, arr, e1, e0, (keep _ hb).trans e2, e3, fun o hp => e4 o (hold _ o hp hb), fun k x v hx hv => (e5 k x v hx hv).mono hev.pr⟩
    · intro id x hx
      obtain ⟨b, h1, h2, h3, h4⟩ := hw.ob id x hx
      have hb : b < w.heap.size := hw.xs b (hw.blk id _ b hx (.inl h1))
      have hbu : ∀ b', g.υ id b' → b' < w.heap.size := fun b' h => hw.xs b' (hw.blk id _ b' hx (.inr h))
      exact ⟨b, h1, x.st hev.w rfl rfl (keep b hb) (fun b' h => keep b' (hbu b' h)) h2, fun o hp => h3 o (hold b o hp hb), fun b' o h hp => h4 b' o h (hold b' o hp (hbu b' h))⟩
    · cases hr with
      | d hd => exact .d (hd.plain hp)
end
end
section
/- Texts: pieces of them, bytes as a text, their order. Conditions: none. -/
open Go

def textL (l : List Int) : List UInt8 := l.map fun n => UInt8.ofNat n.toNat
abbrev ltS (a b : List UInt8) : Bool := Go.Op.bytesLess a b
section
variable {P : Program} {ρ : Operand → V} {H : List HE} {ty : TypeId} {x y : Operand} {t u : TypeId} {s s' : List UInt8}
theorem op_textM {l : List Int} {e : TypeId} (hx : As (ρ x) (.sl (l.map (D.int .u8)))) (ht : P.underlying t = some (.slice e)) (hu : P.underlying u = some .string) (he : P.underlying e = some (.int .u8)) :
    OpV P (.convert t u x) ty ρ H (.d (.str (textL l))) H :=
  OpV.of_val fun g w r _ h => ⟨.string ⟨(textL l).toArray⟩, fun _ _ _ _ => by
    have h1 := hx.rep (h x (by simp [Op.operands]))
    generalize hr : r x = v at h1
    cases h1 with
    | sl _ a cap s' f hs' hcap hrow hrep =>
      simp only [List.length_map] at hcap hr
      by_cases hl : l = []
      · subst hl
        cases a with
        | none => simp [execOp, hr, run_convert_bytes_nil w t e ht he _ _ u hu, textL]; rfl
        | some ad =>
          have := run_convert_bytes_string (P := P) w t u e (some ad) 0 cap ht he hu
          simp at hr
          simp [execOp, hr, this, Conv.bytesToString, textL]
          rfl
      · have hs1 : s' = 1 := by
          obtain ⟨c, hc⟩ := List.exists_mem_of_ne_nil l hl
          exact (hs' (.int .u8 c) (List.mem_map.2 ⟨c, hc, rfl⟩)).symm
        subst hs1
        obtain ⟨b, o, rfl, hk⟩ := hrow (by simpa using hl)
        have hflat : D.flat (l.map (D.int .u8)) = l.map (D.int .u8) := flat_one (fun x hx => by obtain ⟨c, _, rfl⟩ := List.mem_map.1 hx; rfl)
        have := run_convert_bytes_arg (P := P) w t e ht he b o l.length cap l rfl (fun i hi => by
          have h2 := (hk i (by simpa using hi)).2
          have h3 := hrep i (.int .u8 (l.getD i 0)) (by rw [hflat]; simp [List.getD, hi])
          rw [h2]
          generalize f i = fv at h3
          cases h3
          rfl) u hu
        simp [execOp, hr, this]
        rfl, .d (.str _)⟩
theorem op_lssS (hx : As (ρ x) (.str s)) (hy : As (ρ y) (.str s')) : OpV P (.binOp .lss t x y u) ty ρ H (.d (.bool (ltS s s'))) H :=
  OpV.of_val fun _ _ _ _ h => ⟨.bool (ltS s s'), fun _ _ _ _ => by simp [execOp, hx.str (h x (by simp [Op.operands])), hy.str (h y (by simp [Op.operands])), eqGuard, binOp, Op.stringOp], .d (.bool _)⟩
theorem op_geqS (hx : As (ρ x) (.str s)) (hy : As (ρ y) (.str s')) : OpV P (.binOp .geq t x y u) ty ρ H (.d (.bool (!ltS s s'))) H :=
  OpV.of_val fun _ _ _ _ h => ⟨.bool (!ltS s s'), fun _ _ _ _ => by simp [execOp, hx.str (h x (by simp [Op.operands])), hy.str (h y (by simp [Op.operands])), eqGuard, binOp, Op.stringOp], .d (.bool _)⟩
theorem op_leqS (hx : As (ρ x) (.str s)) (hy : As (ρ y) (.str s')) : OpV P (.binOp .leq t x y u) ty ρ H (.d (.bool (ltS s s' || decide (s = s')))) H :=
  OpV.of_val fun _ _ _ _ h => ⟨.bool (ltS s s' || decide (s = s')), fun _ _ _ _ => by simp [execOp, hx.str (h x (by simp [Op.operands])), hy.str (h y (by simp [Op.operands])), eqGuard, binOp, Op.stringOp, beqL_dec], .d (.bool _)⟩
theorem op_gtrS (hx : As (ρ x) (.str s)) (hy : As (ρ y) (.str s')) : OpV P (.binOp .gtr t x y u) ty ρ H (.d (.bool (!(ltS s s' || decide (s = s'))))) H :=
  OpV.of_val fun _ _ _ _ h => ⟨.bool (!(ltS s s' || decide (s = s'))), fun _ _ _ _ => by simp [execOp, hx.str (h x (by simp [Op.operands])), hy.str (h y (by simp [Op.operands])), eqGuard, binOp, Op.stringOp, beqL_dec], .d (.bool _)⟩
end
end
end Go.Proofs.YtkdefjliknpliaaGreatDoor.Ab
