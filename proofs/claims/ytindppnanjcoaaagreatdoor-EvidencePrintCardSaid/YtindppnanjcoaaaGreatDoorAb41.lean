/- Lists of lists whose rows are written: one entry of the heap for all of them. Lists of rows that are written in place: their elements and the fields of these. Pieces of lists that are written in place: their elements; 'clear'. The number of what has been drawn only grows. Sorting lists that are written in place: the library's contracts in terms of plain lists. Sorting lists of numbers or texts in place. New lists with room, and cells that become data. Lists of rows: copies, the piece that reaches behind the end, zeros appended, overlaps. Calls that take a list over and hand one back, where the order is open. Pieces of a list in plain Lean. Taking elements out of a list in place. Containers whose rows are lists of their own. Conditions: none. -/
import Derived.Test.YtindppnanjcoaaaGreatDoorIj
import Derived.Lib.SliceRun
import Derived.Calls
import Derived.StepT
import Derived.Shelf.SlSortCmp.NoneTotal
import Derived.Test.YtindppnanjcoaaaGreatDoorAb28
import Derived.RowKit
section
namespace Go.Proofs.YtindppnanjcoaaaGreatDoor.Ab
open Go

/-- A row: data, or memory of its own. -/
def RowAt (g : G) (w : World) (id b : Nat) (e : TypeId) : Bool → List D → Value → Prop
  | false, l, v => RepD g.Pr w (.sl l) v
  | true, l, v => ∃ a cap, v = .slice a l.length cap ∧ l.length ≤ cap ∧ (l ≠ [] → ∃ br arr, a = some ⟨br, 0, none⟩ ∧ g.υ id br ∧ br ≠ b ∧ w.heap[br]? = some (.cells arr e (0, 0)) ∧ l.length ≤ arr.size ∧
      ∀ (k : Nat) x u, l[k]? = some x → arr[k]? = some u → RepD g.Pr w x u)
def rowB : Value → Option Nat
  | .slice (some a) _ _ => some a.block
  | _ => none
structure NlAt (g : G) (w : World) (id b : Nat) (e eo : TypeId) (N : Nat) (M : List (Bool × List D)) (Vs : List Value) : Prop where
  len : Vs.length = M.length
  n : M.length = N
  own : ∃ cap arr, g.τ id = some (0, some ⟨b, 0, none⟩, cap) ∧ N ≤ cap ∧ 0 < cap ∧ w.heap[b]? = some (.cells arr eo (0, 0)) ∧ N ≤ arr.size ∧ ∀ (k : Nat) v, Vs[k]? = some v → arr[k]? = some v
  row : ∀ (k : Nat) m v, M[k]? = some m → Vs[k]? = some v → RowAt g w id b e m.1 m.2 v
  dis : ∀ (k k' : Nat) l l' v v' B, k ≠ k' → M[k]? = some (true, l) → M[k']? = some (true, l') → l ≠ [] → l' ≠ [] → Vs[k]? = some v → Vs[k']? = some v' → rowB v = some B → rowB v' = some B → False

theorem RowAt.mono {g g' : G} {w w' : World} {id id' b : Nat} {e : TypeId} {f : Bool} {l : List D} {v : Value} (hP : ∀ b o, g.Pr b o → g'.Pr b o ∧ w'.cell? ⟨b, o, none⟩ = w.cell? ⟨b, o, none⟩)
    (hu : ∀ b', g.υ id b' → g'.υ id' b') (ho : ∀ b', g.υ id b' → b' ≠ b → w'.heap[b']? = w.heap[b']?) (h : RowAt g w id b e f l v) : RowAt g' w' id' b e f l v := by
  cases f with
  | false => exact RepD.mono hP h
  | true =>
    obtain ⟨a, cap, h1, h2, h3⟩ := h
    refine ⟨a, cap, h1, h2, fun hl => ?_⟩
    obtain ⟨br, arr, k1, k2, k3, k4, k5, k6⟩ := h3 hl
    exact ⟨br, arr, k1, hu _ k2, k3, (ho _ k2 k3).trans k4, k5, fun k x u hx hu' => (k6 k x u hx hu').mono hP⟩
theorem NlAt.st {g g' : G} {w w' : World} {id b : Nat} {e eo : TypeId} {N : Nat} {M : List (Bool × List D)} {Vs : List Value} (he : EvoW g w g' w') (ht : g'.τ id = g.τ id) (hu : g'.υ id = g.υ id) (hb : w'.heap[b]? = w.heap[b]?)
    (ho : ∀ b', g.υ id b' → w'.heap[b']? = w.heap[b']?) (h : NlAt g w id b e eo N M Vs) : NlAt g' w' id b e eo N M Vs where
  len := h.len
  n := h.n
  own := by
    obtain ⟨cap, arr, h1, h2, h3, h4, h5, h6⟩ := h.own
    exact ⟨cap, arr, ht ▸ h1, h2, h3, hb.trans h4, h5, h6⟩
  row := fun k m v hm hv => (h.row k m v hm hv).mono he.pr (fun b' hb' => by rw [hu]; exact hb') (fun b' hb' _ => ho b' hb')
  dis := h.dis
/-- Such a list, the values of its rows known; and not known. -/
def nlV (e eo : TypeId) (N : Nat) (M : List (Bool × List D)) (Vs : List Value) : OB where
  φ := fun g w id b => NlAt g w id b e eo N M Vs
  st := fun he ht hu hb ho h => h.st he ht hu hb ho
  fr := false
  fre := fun h => by cases h
def nlO (e eo : TypeId) (N : Nat) (M : List (Bool × List D)) : OB where
  φ := fun g w id b => ∃ Vs, NlAt g w id b e eo N M Vs
  st := fun he ht hu hb ho ⟨Vs, h⟩ => ⟨Vs, h.st he ht hu hb ho⟩
  fr := true
  fre := fun _ {g g' w i j b} hP ht hu ⟨Vs, h⟩ => ⟨Vs, ⟨h.len, h.n, by rw [ht]; exact h.own, fun k m v hm hv => RowAt.mono (g := g) (g' := g') (id := i) (id' := j) (fun b o hp => ⟨by rw [hP]; exact hp, rfl⟩) (fun b' hb' => by rw [hu]; exact hb') (fun _ _ _ => rfl) (h.row k m v hm hv), h.dis⟩⟩
section
variable {F : FC} {K : St → Prop} {ops : Array Oper} {os : List Oper} {E : Nat → V} {H : List HE} {e eo : TypeId} {N : Nat} {M : List (Bool × List D)}
end

/-! ### operations, the lists as plain Lean -/
def nlD {α : Type} (f : α → D) (M : List (Bool × List α)) : List (Bool × List D) := M.map fun r => (r.1, r.2.map f)
section
variable {P : Program} {ρ : Operand → V} {H : List HE} {ty : TypeId} {α : Type} {f : α → D} {e eo : TypeId} {N : Nat} {M : List (Bool × List α)} {Vs : List Value}
theorem set_cases {H : List HE} {id : Nat} {x : HE} (h : id < H.length) {i : Nat} {e : HE} (he : (H.set id x)[i]? = some e) : (i = id ∧ e = x) ∨ (i ≠ id ∧ H[i]? = some e) := by
  by_cases hi : i = id
  · subst hi; rw [List.getElem?_set_self h] at he; exact .inl ⟨rfl, (Option.some.inj he).symm⟩
  · rw [List.getElem?_set_ne (Ne.symm hi)] at he; exact .inr ⟨hi, he⟩

theorem put_get {arr : Array Value} {v : Value} {i k : Nat} {u : Value} (hi : i < arr.size) (h : (arr.toList.take (i + 0) ++ (#[v] : Array Value).toList ++ arr.toList.drop (i + 0 + (#[v] : Array Value).toList.length)).toArray[k]? = some u) :
    (k = i ∧ u = v) ∨ (k ≠ i ∧ arr[k]? = some u) := by
  simp only [Nat.add_zero, List.getElem?_toArray] at h
  have l2 : (List.take i arr.toList).length = i := by simp; omega
  rw [List.append_assoc] at h
  by_cases hk : k < i
  · rw [List.getElem?_append_left (by omega), List.getElem?_take, if_pos hk, Array.getElem?_toList] at h
    exact .inr ⟨by omega, h⟩
  · rw [List.getElem?_append_right (by omega), l2] at h
    by_cases hk2 : k = i
    · subst hk2
      simp at h
      exact .inl ⟨rfl, h.symm⟩
    · rw [List.getElem?_append_right (by simp; omega), List.getElem?_drop, Array.getElem?_toList] at h
      refine .inr ⟨hk2, ?_⟩
      rw [← h]; congr 1; simp; omega
end

section
variable {F : FC} {Q : Exit → St → Prop} {c y : Code} {st : St} {ops : Array Oper}
end
section
variable {P : Program} {ρ : Operand → V} {H : List HE} {ty : TypeId} {α : Type} {f : α → D} {e eo : TypeId} {N : Nat} {M : List (Bool × List α)} {Vs : List Value}
end
end Go.Proofs.YtindppnanjcoaaaGreatDoor.Ab
end
section
namespace Go.Proofs.YtindppnanjcoaaaGreatDoor.Ab
open Go

section
variable {P : Program} {ρ : Operand → V} {H : List HE} {ty : TypeId} {α : Type} {f : α → D} {l : List α} {v : α} {s : Nat} {a : Int}
end
end Go.Proofs.YtindppnanjcoaaaGreatDoor.Ab
end
section
namespace Go.Proofs.YtindppnanjcoaaaGreatDoor.Ab
open Go

section
variable {P : Program} {ρ : Operand → V} {H : List HE} {ty : TypeId} {α : Type} {f : α → D} {l r : List α} {v : α} {s : Nat} {a lo : Int}
end
end Go.Proofs.YtindppnanjcoaaaGreatDoor.Ab
end
section
namespace Go.Proofs.YtindppnanjcoaaaGreatDoor.Dr
open Go
def rw_ {α : Type} : Result α → World
  | .ok _ w => w
  | .halt _ w => w
theorem ask_dr {α : Type} : ∀ (s : Ask α) (w : World), w.drawn ≤ (w.ask s).2.drawn
  | .done a, w => by simp [World.ask]
  | .ask what range k, w => by
    simp only [World.ask]
    split
    · exact ask_dr _ _
    · exact Nat.le_trans (Nat.le_succ _) (ask_dr (k _) { w with drawn := w.drawn + 1 })
theorem sys_dr (w : World) (c : Sys) : w.drawn ≤ (w.sys c).2.drawn := by
  have h := ask_dr (Kernel.perform c w.os) w
  unfold World.sys
  split
  · exact Nat.le_refl _
  · rename_i r os w' _ he
    rw [he] at h
    exact h
theorem view_dr {p : Program} {w w' : World} {a k : Addr} {u : TypeId} {v : Value} {b : Bool} {l : List Addr} (h : w.viewStore p a u k v b = .ok (w', l)) : w'.drawn = w.drawn := by
  unfold World.viewStore at h
  simp only [bind, Except.bind, pure, Except.pure] at h
  repeat' split at h
  all_goals first | (cases h; done) | (cases h; rfl) | (rename_i h0; cases h0; done)
theorem far_dr {p : Program} {w w' : World} {a : Addr} {v : Value} {b : Bool} {l : List Addr} (h : w.farStore p a v b = .ok (w', l)) : w'.drawn = w.drawn := by
  unfold World.farStore at h
  split at h
  · split at h
    · rename_i he; cases h; exact view_dr he
    · cases h
  · cases h
theorem run_dr {α : Type} (p : Program) : ∀ (s : Sem α) (w : World), w.drawn ≤ (rw_ (s.run p w)).drawn := by
  intro s
  induction s with
  | pure a => intro w; exact Nat.le_refl _
  | load m a k ih =>
    intro w; simp only [Sem.run]; split
    · exact ih _ _
    · split
      · exact ih _ _
      · exact Nat.le_refl _
  | store m a v k ih =>
    intro w
    cases v
    all_goals first
      | exact Nat.le_refl _
      | (simp only [Sem.run]
         split
         · split
           · exact Nat.le_refl _
           · exact ih (w.setCell a _)
         · split
           · rename_i he
             exact Nat.le_trans (Nat.le_of_eq (far_dr he).symm) (ih _)
           · exact Nat.le_refl _)
  | new o k ih => intro w; exact ih w.heap.size { w with heap := w.heap.push o }
  | shape r k ih => intro w; simp only [Sem.run]; exact ih _ _
  | freeze a n k ih => intro w; have := ih (w.freeze a n); simp only [Sem.run]; unfold World.freeze at this ⊢; split <;> simp_all
  | frozen a k ih => intro w; simp only [Sem.run]; exact ih _ _
  | getObj r k ih =>
    intro w; simp only [Sem.run]; split
    · exact Nat.le_refl _
    · exact ih _ _
    · exact Nat.le_refl _
  | setObj r o k ih =>
    intro w; simp only [Sem.run]; split
    · exact Nat.le_refl _
    · exact ih { w with heap := w.heap.setIfInBounds r o }
    · exact Nat.le_refl _
  | choose q k ih =>
    intro w; simp only [Sem.run]; split
    · exact ih _ _
    · exact Nat.le_trans (Nat.le_succ _) (ih _ { w with drawn := w.drawn + 1 })
  | sys c k ih => intro w; simp only [Sem.run]; exact Nat.le_trans (sys_dr w c) (ih _ _)
  | program k ih => intro w; simp only [Sem.run]; exact ih _ _
  | mark m k ih => intro w; simp only [Sem.run]; exact ih _
  | halt h => intro w; exact Nat.le_refl _
theorem run_ok {α : Type} {p : Program} {s : Sem α} {w w' : World} {a : α} {n : Nat} (h : n ≤ w.drawn) (he : s.run p w = .ok a w') : n ≤ w'.drawn := by
  have h2 := run_dr p s w
  rw [he] at h2
  exact Nat.le_trans h h2
theorem run_halt {α : Type} {p : Program} {s : Sem α} {w w' : World} {a : Halt} {n : Nat} (h : n ≤ w.drawn) (he : s.run p w = .halt a w') : n ≤ w'.drawn := by
  have h2 := run_dr p s w
  rw [he] at h2
  exact Nat.le_trans h h2
def drS (n : Nat) : GStep → Prop
  | .go _ w _ | .comm _ _ _ _ w _ | .spawn _ _ w _ | .count _ w _ | .timer _ _ w _ | .alone _ _ w _ | .newcoro _ _ _ w _ | .coroswitch _ _ _ w _ | .collect _ w _ | .watch _ w _ => n ≤ w.drawn
  | .ended .. => True
theorem ite_dr {n : Nat} {c : Prop} [Decidable c] {a b : GStep} (h1 : drS n a) (h2 : drS n b) : drS n (if c then a else b) := by
  by_cases h : c
  · rw [if_pos h]; exact h1
  · rw [if_neg h]; exact h2
theorem after_dr {n : Nat} {es : Array Event} {s : GStep} (h : drS n s) : drS n (s.after es) := by
  cases s <;> exact h
theorem return_dr {n : Nat} {p : Program} {main : Bool} {fr : Frame} {cs : List Frame} {d : Option Dying} {v : Value} {w : World} (h : n ≤ w.drawn) : drS n (doReturn p main fr cs d v w) := by
  unfold doReturn
  repeat' split
  all_goals first | exact h | trivial
theorem endWith_dr {n : Nat} {w : World} {fd : Nat} {t : ByteArray} {o : Outcome} : drS n (endWith w fd t o) := by
  unfold endWith
  repeat' (first | split | trivial)
theorem endThrow_dr {n : Nat} {fr : Frame} {m : String} {w : World} (h : n ≤ w.drawn) : drS n (endThrow fr m w) := h
theorem endPrinting_dr {n : Nat} {p : Program} {fr : Frame} {v : Value} {w : World} (h : n ≤ w.drawn) : drS n (endPrinting p fr v w) := by
  unfold endPrinting
  extract_lets type what
  clear_value what
  cases what with
  | some s => exact h
  | none => trivial
theorem endFatal_dr {n : Nat} {p : Program} {fr : Frame} {cs : List Frame} {d : Option Dying} {m : String} {w : World} (h : n ≤ w.drawn) : drS n (endFatal p fr cs d m w) := by
  unfold endFatal
  extract_lets chain raw shown
  clear_value shown
  split
  · rename_i he; exact run_ok h he
  · trivial
  · trivial
theorem callDeferred_dr {n : Nat} {p : Program} {fr : Frame} {cs : List Frame} {dy : Option Dying} {d : Deferred} {w : World} (h : n ≤ w.drawn) : drS n (callDeferred p fr cs dy d w) := by
  unfold callDeferred
  refine ite_dr trivial ?_
  simp only [Sem.runT_eq]
  refine after_dr ?_
  split
  all_goals first
    | trivial
    | (rename_i he; first | exact run_ok h he | exact run_halt h he | exact endFatal_dr (run_halt h he) | exact endThrow_dr (run_halt h he))
    | (rename_i he; have h3 := run_ok h he; repeat' (first | exact h3 | trivial | split))
    | (rename_i he _; first | exact run_ok h he)
theorem writeOn_dr {n : Nat} {p : Program} {fr : Frame} {d : Dying} {f : Fatal} {w : World} (h : n ≤ w.drawn) : drS n (writeOn p fr d f w) := by
  unfold writeOn
  split
  · trivial
  · simp only [Sem.runT_eq]
    split
    all_goals first | trivial | (rename_i he; injection he with he _; first | exact run_ok h he | exact run_halt h he)
theorem die_dr {n : Nat} {p : Program} {fr : Frame} {d : Dying} {w : World} (h : n ≤ w.drawn) : drS n (die p fr d w) := by
  unfold die
  split
  · exact writeOn_dr h
  · split
    · split
      · exact h
      · exact endWith_dr
    · extract_lets d2
      split
      · exact h
      · split
        · rename_i he; exact run_ok h he
        · trivial
      · simp only [Sem.runT_eq]
        refine after_dr ?_
        split
        all_goals first | trivial | (rename_i he; first | exact run_ok h he | exact endPrinting_dr (run_halt h he))
      · trivial
theorem unwind_dr {n : Nat} {p : Program} {main : Bool} {fr : Frame} {cs : List Frame} {dy : Option Dying} {w : World} (h : n ≤ w.drawn) : drS n (unwind p main fr cs dy w) := by
  unfold unwind
  split
  · simp only [Sem.runT_eq]
    refine after_dr ?_
    split
    · rename_i he; exact run_ok h he
    · trivial
  · exact callDeferred_dr h
  · split
    · trivial
    · split
      · trivial
      · split
        · exact h
        · split
          · split
            · exact h
            · split
              · rename_i he; exact run_ok h he
              · trivial
              · trivial
          · split
            · exact endPrinting_dr h
            · trivial
    · split
      · exact return_dr h
      · simp only [Sem.runT_eq]
        refine after_dr ?_
        split
        · rename_i he; exact return_dr (run_ok h he)
        · trivial
        · trivial
theorem early_dr {n : Nat} {p : Program} {fr : Frame} {cs : List Frame} {dy : Option Dying} {g : Nat} {w : World} (h : n ≤ w.drawn) : drS n (early p fr cs dy g w) := by
  have hn : ∀ w' : World, n ≤ w'.drawn → drS n (match w'.heap[g]? with
    | some (.pending c elem) =>
      .go { frame := fr, callers := cs, status := .running, dying := dy } { w' with heap := w'.heap.setIfInBounds g (.cells c elem) }
    | _ => .ended (.stuck "early: the variable does not wait" (fr.pos p)) w') := fun w' h' => by
    split
    · exact h'
    · trivial
  unfold early
  extract_lets refuse notYet
  refine ite_dr (hn w h) ?_
  split
  · trivial
  · extract_lets there
    refine ite_dr (hn w h) (ite_dr (hn w h) ?_)
    split
    · trivial
    · exact h
    · trivial
    · exact hn w h
    · refine ite_dr h (ite_dr (hn w h) ?_)
      split
      · rename_i he; exact hn _ (run_ok h he)
      · rename_i he; exact run_ok h he
      · trivial
theorem apply_dr {n : Nat} {p : Program} {listen : Bool} {fr : Frame} {cs : List Frame} {dy : Option Dying} {s : Sem Next} {w : World} (h : n ≤ w.drawn) : drS n (stepG.apply p listen fr cs dy s w) := by
  unfold stepG.apply
  have hr : (if listen = true then s.runT p w #[] else (s.run p w, #[])).1 = s.run p w := by cases listen <;> simp [Sem.runT_eq]
  generalize (if listen = true then s.runT p w #[] else (s.run p w, #[])) = q at hr ⊢
  obtain ⟨r, es⟩ := q
  dsimp only at hr ⊢
  subst hr
  refine after_dr ?_
  split
  all_goals first
    | trivial
    | (rename_i he; first | exact run_ok h he | exact run_halt h he | exact endFatal_dr (run_halt h he) | exact endThrow_dr (run_halt h he) | exact early_dr (run_halt h he))
    | (rename_i he; have h3 := run_ok h he; repeat' (first | exact h3 | trivial | split))
    | (rename_i he; have h3 := run_ok h he; refine ite_dr h3 h3)
theorem oper_dr {n : Nat} {p : Program} {listen : Bool} {fr : Frame} {cs : List Frame} {dy : Option Dying} {w : World} (h : n ≤ w.drawn) : drS n (stepG.oper p listen fr cs dy w) := by
  unfold stepG.oper
  split
  · trivial
  · split
    · exact apply_dr h
    · exact apply_dr h
theorem exec_dr {n : Nat} {p : Program} {main listen : Bool} {fr : Frame} {cs : List Frame} {dy : Option Dying} {w : World} (h : n ≤ w.drawn) : drS n (stepG.exec p main listen fr cs dy w) := by
  have hl : ∀ jump : Option Code, drS n (match fr.roundOf with
    | none => if jump matches none | some .ret then GStep.go { frame := { fr with mode := .returning }, callers := cs, status := .running, dying := dy } w else .ended (.stuck "exit, goto: no such block or label" (fr.pos p)) w
    | some l =>
      let (r, es) := (Instr.endRound l jump).runT p w #[]
      GStep.after (seen p fr.fn es) <| match r with
      | .ok v w => doReturn p main fr cs dy v w
      | .halt _ w => .ended (.stuck "range over a function: no such loop" (fr.pos p)) w) := fun jump => by
    split
    · exact ite_dr h trivial
    · simp only [Sem.runT_eq]
      refine after_dr ?_
      split
      · rename_i he; exact return_dr (run_ok h he)
      · trivial
  unfold stepG.exec
  extract_lets go to lost leave
  have hleave : ∀ j, drS n (leave j) := hl
  clear_value leave
  have hto : ∀ k, drS n (to k) := fun _ => h
  have hgo : ∀ f w', n ≤ w'.drawn → drS n (go f w') := fun _ _ h => h
  split
  all_goals first
    | exact hleave _
    | exact hto _
    | trivial
    | exact apply_dr h
    | exact ite_dr (oper_dr h) h
    | skip
  · split
    · exact hto _
    · trivial
  · cases exitTo _ _ with
    | none => exact hleave _
    | some k => exact hto k
  · cases gotoIn _ _ with
    | none => exact hleave _
    | some k => exact hto k
  · simp only [Sem.runT_eq]
    refine after_dr ?_
    split
    · rename_i he; exact apply_dr (run_ok h he)
    · trivial
  · simp only [Sem.runT_eq]
    refine after_dr ?_
    split
    · rename_i he; exact hgo _ _ (run_ok h he)
    · rename_i he; exact hgo _ _ (run_halt h he)
    · trivial
  · cases Extern.next _ with
    | none => trivial
    | some e => exact apply_dr h
  · refine ite_dr (hto _) ?_
    split
    · rename_i he; exact hgo _ _ (run_ok h he)
    · trivial
theorem stepG_dr {n : Nat} {p : Program} {main listen : Bool} {g : Goroutine} {w : World} (h : n ≤ w.drawn) : drS n (stepG p main g w listen) := by
  unfold stepG
  obtain ⟨fr, cs, st, dy, off⟩ := g
  dsimp only
  split
  · exact die_dr h
  · exact exec_dr h
  · exact unwind_dr h
/-- A machine's next state. -/
def drM (n : Nat) : Stepped → Prop
  | .next m => n ≤ m.world.drawn
  | .ended .. => True
theorem iteM {n : Nat} {c : Prop} [Decidable c] {a b : Stepped} (h1 : drM n a) (h2 : drM n b) : drM n (if c then a else b) := by
  by_cases h : c
  · rw [if_pos h]; exact h1
  · rw [if_neg h]; exact h2
theorem look_dr {n : Nat} {p : Program} {gs : Array Goroutine} {rest : Rest} {w : World} (h : n ≤ w.drawn) : drM n (look p gs rest w) := by
  unfold look
  split
  · dsimp only
    refine iteM trivial ?_
    split
    · trivial
    · split
      · rename_i he; have h3 := run_ok h he; exact h3
      · trivial
      · trivial
  · trivial
theorem wait_dr {rest : Rest} {cs : Array CommCase} {w w' : World} {n : Nat} (h : n ≤ w.drawn) (he : waitingAt rest cs w = some w') : n ≤ w'.drawn := by
  unfold waitingAt at he
  split at he
  · split at he
    · cases he; exact h
    · cases he
  · cases he; exact h
theorem comm_dr {n : Nat} {p : Program} {rest : Rest} {gs : Array Goroutine} {i : Nat} {g : Goroutine} {cases_ : Array CommCase} {b : Bool} {s : CommShape} {w : World} (h : n ≤ w.drawn) : drM n (communicate p rest gs i g cases_ b s w).1 := by
  unfold communicate
  dsimp only
  repeat' (first | trivial | exact h | split)
  all_goals first
    | (have h3 := run_ok h (by assumption); exact h3)
    | (have h3 := run_ok (run_ok h (by assumption)) (by assumption); exact h3)
    | (have h3 := run_halt (run_ok h (by assumption)) (by assumption); exact h3)
    | (have h3 := wait_dr h (by assumption); exact h3)
theorem timer_dr {m m' : Machine} {op : TimerOp} {v : Value} (h : timerOp m op = .ok (v, m')) : m'.world.drawn = m.world.drawn := by
  have hd : ∀ (w : World) (c : Nat), (drain w c).2.drawn = w.drawn := fun w c => by unfold drain; split <;> rfl
  have hr : ∀ (m : Machine) k t a b, (retime m k t a b).2.world.drawn = m.world.drawn := fun m k t a b => by
    unfold retime
    cases t.chan with
    | none => rfl
    | some c =>
      have h1 := hd m.world c
      dsimp only
      generalize drain m.world c = q at h1 ⊢
      obtain ⟨q1, q2⟩ := q
      exact h1
  have hn : ∀ (m : Machine) a f (v : Value) (m' : Machine), (∀ k t, (f k t).2.world.drawn = m.world.drawn) → timerOp.named m a f = .ok (v, m') → m'.world.drawn = m.world.drawn := fun m a f v m' hf h => by
    unfold timerOp.named at h
    split at h
    · rename_i k _
      have h1 := hf k (m.rest.timers.getD k default)
      injection h with h
      rw [h] at h1; exact h1
    · cases h
  have ho : ∀ (m m2 : Machine) a, timerOp.opened m a = some m2 → m2.world.drawn = m.world.drawn := fun m m2 a h => by
    unfold timerOp.opened at h
    split at h
    · split at h
      · cases h; rfl
      · cases h
    · cases h; rfl
  cases op with
  | new t =>
    simp only [timerOp] at h
    split at h
    · cases h; rfl
    · split at h
      · split at h
        · cases h
        · cases h; rfl
      · cases h
  | stop var => exact hn m var _ v m' (fun k t => hr m k t _ _) h
  | reset var when period =>
    simp only [timerOp] at h
    split at h
    · rename_i m2 he
      rw [← ho m m2 var he]
      unfold timerOp.named at h
      split at h
      · rename_i k _
        have h1 := hr m2 k (m.rest.timers.getD k default) when period
        injection h with h
        have h' : retime m2 k (m.rest.timers.getD k default) when period = (v, m') := h
        rw [h'] at h1; exact h1
      · cases h
    · cases h
  | deadline ctx read write when =>
    simp only [timerOp] at h
    cases h; rfl
theorem serve_dr {n : Nat} {p : Program} {m : Machine} {k : Nat} (h : n ≤ m.world.drawn) : drM n (serve p m k) := by
  unfold serve
  split
  · trivial
  · exact h
  · dsimp only
    split
    · trivial
    · exact h
theorem runT_dr {n : Nat} {p : Program} {m : Machine} {i : Nat} {l : Bool} (h : n ≤ m.world.drawn) : drM n (runT p m i l).1 := by
  unfold runT
  dsimp only
  generalize m.gs.swapAt! i _ = q
  obtain ⟨g, gs⟩ := q
  dsimp only
  have h2 : drS n (stepG p (i == 0) g m.world l) := stepG_dr h
  generalize stepG p (i == 0) g m.world l = s at h2 ⊢
  cases s with
  | ended o w es => trivial
  | comm g cs b sh w es =>
    have h3 : drM n (communicate p m.rest gs i g cs b sh w).1 := comm_dr h2
    exact h3
  | go g w es => exact h2
  | spawn g c w es => exact h2
  | count g w es => exact iteM trivial h2
  | alone g on w es => exact h2
  | collect g w es => exact look_dr h2
  | watch g w es => exact h2
  | newcoro g c d w es => exact h2
  | coroswitch g c e w es =>
    dsimp only
    split
    · exact h2
    · split
      · rename_i he
        have h3 : drS n (endThrow g.frame "coroswitch on exited coro" w) := endThrow_dr h2
        rw [he] at h3; exact h3
      · trivial
    · trivial
  | timer g op w es =>
    dsimp only
    split
    · rename_i he
      have h3 := timer_dr he
      show n ≤ _
      exact Nat.le_trans h2 (Nat.le_of_eq h3.symm)
    · split
      · rename_i msg _ _ _ _ _ he
        have h3 : drS n (endThrow g.frame msg w) := endThrow_dr h2
        rw [he] at h3; exact h3
      · trivial
    · trivial
    · trivial
def drV (n : Nat) : Move → Prop
  | .goroutine m _ => n ≤ m.world.drawn
  | .machine s _ => drM n s
theorem iteV {n : Nat} {c : Prop} [Decidable c] {a b : Move} (h1 : drV n a) (h2 : drV n b) : drV n (if c then a else b) := by
  by_cases h : c
  · rw [if_pos h]; exact h1
  · rw [if_neg h]; exact h2
theorem askOn_dr {n : Nat} {p : Program} {m : Machine} (h : n ≤ m.world.drawn) : drV n (askOn p m) := by
  unfold askOn
  extract_lets mono rs ds pick
  have hp : ∀ m : Machine, n ≤ m.world.drawn → drV n (pick m) := fun m h => by
    show drV n (match (choose (.sched rs.length)).run p m.world with
      | .halt _ w => Move.machine (.ended (.stuck "sched" "") w)
      | .ok k world =>
        if rs.length ≤ 1 then .goroutine { m with world } (rs.getD k 0) else
        match (choose (.extern "sched.slice" 65536)).run p world with
        | .halt _ w => .machine (.ended (.stuck "sched.slice" "") w)
        | .ok n world => .goroutine { m with world, rest := { m.rest with slice := if n = 0 then none else some (rs.getD k 0, n) } } (rs.getD k 0))
    split
    · trivial
    · rename_i he
      have h3 := run_ok h he
      refine iteV h3 ?_
      split
      · trivial
      · rename_i he2
        exact run_ok h3 he2
  clear_value pick
  split
  · trivial
  · rename_i he
    have h3 := run_ok h he
    clear_value rs
    dsimp only
    refine iteV (serve_dr h3) ?_
    cases rs with
    | nil =>
      dsimp only
      split
      · exact h3
      · refine iteV h3 ?_
        split
        · trivial
        · trivial
    | cons r rs =>
      dsimp only
      split
      · exact hp _ h3
      · split
        · trivial
        · rename_i he2; exact hp _ (run_ok h3 he2)
        · rename_i he2; have h5 := run_ok h3 he2; exact h5
        · rename_i he2; have h5 := run_ok h3 he2; exact hp _ h5
theorem ask_drV {n : Nat} {p : Program} {m : Machine} (h : n ≤ m.world.drawn) : drV n (ask p m) := by
  unfold ask
  refine iteV ?_ (askOn_dr h)
  split
  · trivial
  · rename_i he
    have h3 := run_ok h he
    have h4 := look_dr (p := p) (gs := m.gs) (rest := m.rest) h3
    split
    · rename_i he2
      rw [he2] at h4
      exact askOn_dr h4
    · exact h4
  · rename_i he; exact askOn_dr (run_ok h he)
theorem move_dr {n : Nat} {p : Program} {m : Machine} (h : n ≤ m.world.drawn) : drV n (move p m) := by
  unfold move
  split
  · exact iteV h trivial
  · split
    · exact iteV h (ask_drV h)
    · exact ask_drV h
theorem step_dr {n : Nat} {p : Program} {m : Machine} (h : n ≤ m.world.drawn) : drM n (step p m) := by
  have h2 := move_dr (p := p) h
  unfold step stepT
  split
  · rename_i he; rw [he] at h2; exact runT_dr h2
  · rename_i he; rw [he] at h2; exact h2
theorem runN_dr {n : Nat} {p : Program} : ∀ (k : Nat) {m m' : Machine}, n ≤ m.world.drawn → runN p k m = .next m' → n ≤ m'.world.drawn
  | 0, m, m', h, he => by simp only [runN, Stepped.next.injEq] at he; subst he; exact h
  | k + 1, m, m', h, he => by
    have h2 := step_dr (p := p) h
    simp only [runN] at he
    split at he
    · rename_i hs; rw [hs] at h2; exact runN_dr k h2 he
    · rename_i hs; rw [he] at h2; exact h2
/-- The numbers drawn only grow. -/
theorem calls_dr {P : Program} {f : FuncId} {args : Array Value} {w : World} {R : Ending → World → Prop} (h : Calls P f args w R) :
    Calls P f args w fun e w' => R e w' ∧ ((∃ v, e = .returned v) → w.drawn ≤ w'.drawn) := fun cs => by
  obtain ⟨e, w', fr, h1, h2, h3, h4⟩ := h cs
  refine ⟨e, w', fr, ⟨h1, ?_⟩, h2, h3, h4⟩
  rintro ⟨v, rfl⟩
  obtain ⟨k, hk⟩ := h2
  exact runN_dr k (n := w.drawn) (Nat.le_refl _) hk
end Go.Proofs.YtindppnanjcoaaaGreatDoor.Dr
end
section
namespace Go.Proofs.YtindppnanjcoaaaGreatDoor.Ab
open Go Go.Sort

def plainV : D → Value
  | .bool b => .bool b
  | .int k n => .int k n
  | .str s => .string ⟨s.toArray⟩
  | .raw v => v
  | _ => undef
def D.scalar : D → Bool
  | .bool _ | .int _ _ | .str _ => true
  | _ => false
theorem plain_one {x : D} (hx : x.scalar = true) : (plainV x).oneCell' = true := by
  cases x <;> first | (simp [D.scalar] at hx; done) | rfl

/-- Rows of plain data: how many cells, and what lies in them. -/
structure Pl {α : Type} (f : α → D) (s : Nat) : Prop where
  len : ∀ x, (f x).cells.length = s
  sc : ∀ x, ∀ c ∈ (f x).cells, c.scalar = true
def encP {α : Type} (f : α → D) (x : α) : List Value := (f x).cells.map plainV

section
variable {α : Type} {f : α → D} {s : Nat}
theorem Pl.one (hp : Pl f s) (x : α) : ∀ v ∈ encP f x, v.oneCell' = true := fun v hv => by
  simp only [encP, List.mem_map] at hv
  obtain ⟨c, hc, rfl⟩ := hv
  exact plain_one (hp.sc x c hc)
theorem flat_getP (hs : ∀ x, (f x).cells.length = s) : ∀ {l : List α} {k : Nat} {x : D}, (D.flat (l.map f))[k]? = some x → ∃ y, l[k / s]? = some y ∧ (f y).cells[k % s]? = some x
  | [], k, x, h => by simp [D.flat] at h
  | y :: l, k, x, h => by
    rw [List.map_cons, flat_cons, List.getElem?_append, hs] at h
    split at h
    · rename_i hk
      exact ⟨y, by rw [Nat.div_eq_of_lt hk]; rfl, by rw [Nat.mod_eq_of_lt hk]; exact h⟩
    · rename_i hk
      obtain ⟨z, h1, h2⟩ := flat_getP hs h
      have h0 : 0 < s := by
        rcases Nat.eq_zero_or_pos s with h0 | h0
        · subst h0
          have := (List.getElem?_eq_some_iff.1 h2).1
          rw [hs] at this; omega
        · exact h0
      have e1 : k / s = (k - s) / s + 1 := by rw [← Nat.sub_add_cancel (show s ≤ k by omega), Nat.add_div_right _ h0]; simp
      have e2 : k % s = (k - s) % s := by rw [← Nat.sub_add_cancel (show s ≤ k by omega), Nat.add_mod_right]; simp
      exact ⟨z, by rw [e1]; exact h1, by rw [e2]; exact h2⟩
theorem WOK.grown {g : G} {w : World} {H : List HE} (hw : WOK g w H) (os : Array Obj) : WOK g (grow w os) H ∧ Evo g w g (grow w os) :=
  hw.below ⟨rfl, rfl, rfl, by simp [grow], fun k hk => by simp [grow, Array.getElem?_append, hk]⟩

/-- What a function of data does in a world of its own: the world behind it is the world before it, further drawn and grown. -/
theorem Fn.grows {P : Program} {c : FuncId} {ds : List D} {k : IntKind} {r : Int} (h : Fn P c ds (.int k r)) {w : World} (Pr : Nat → Nat → Prop) (hPr : ∀ b o, Pr b o → b < w.heap.size)
    (hkc : ∀ x ∈ KC, (∀ o, o < x.2.size → Pr x.1 o) ∧ ∃ et fr, w.heap[x.1]? = some (.cells x.2 et fr)) {vals : Array Value} (hs : vals.size = ds.length)
    (ha : ∀ (i : Nat) x v, ds[i]? = some x → vals[i]? = some v → RepD Pr w x v) :
    Calls P c vals w fun e w' => e = .returned (.int k r) ∧ ∃ q os', w' = grow (w.drewN q) os' := by
  have hw : WOK ⟨fun _ => none, fun _ => none, fun _ _ => False, fun _ => False, Pr⟩ w [] := by
    refine ⟨hPr, fun b h => h.elim, ?_, ?_, ?_, ?_, ?_, ?_, fun _ _ => ⟨rfl, rfl, fun _ h => h⟩, fun x hx => ⟨fun h => h, (hkc x hx).1, (hkc x hx).2⟩⟩ <;> (intros; simp_all)
  refine (Dr.calls_dr (h _ w vals hw (by simpa using hs) (fun i x v hx hv => ?_))).mono ?_
  · simp only [List.getElem?_map, Option.map_eq_some_iff] at hx
    obtain ⟨d, hd, rfl⟩ := hx
    exact .d (ha i d v hd hv)
  · rintro e w' ⟨⟨rv, res, g', H', rfl, h2, h3, h4, h5⟩, h6⟩
    subst h5
    have h7 := h6 ⟨rv, rfl⟩
    cases h4 with
    | d h8 =>
      cases h8
      refine ⟨rfl, w'.drawn - w.drawn, w'.heap.extract w.heap.size w'.heap.size, ?_⟩
      have hheap : w'.heap = w.heap ++ w'.heap.extract w.heap.size w'.heap.size := by
        apply Array.ext_getElem?
        intro i
        by_cases hi : i < w.heap.size
        · rw [Array.getElem?_append_left hi]; exact h3.keep i hi (fun h => h)
        · rw [Array.getElem?_append_right (by omega), Array.getElem?_extract]
          by_cases hi2 : i < w'.heap.size
          · rw [if_pos (by omega)]; congr 1; omega
          · rw [if_neg (by omega), Array.getElem?_eq_none (by omega)]
      obtain ⟨s1, s2, s3⟩ := h3.same
      obtain ⟨h', t', d', o', u'⟩ := w'
      obtain ⟨h0, t0, d0, o0, u0⟩ := w
      simp only at s1 s2 s3 h7 hheap
      subst s1; subst s2; subst s3
      simp only [grow, World.drewN, World.mk.injEq, and_true, true_and]
      exact ⟨hheap, by omega⟩

/-- What the library says of its sort with a function, at this program. -/
structure SortsF [Inhabited α] (P : Program) (fs c : FuncId) (enc : α → List Value) (s : Nat) (cf : α → α → Int) : Prop where
  nil : ∀ p cap w, Calls P fs #[.slice p 0 cap, .func (.func c) #[] #[]] w fun e w' => e = .returned (.tuple #[]) ∧ w' = w
  row : ∀ b cap (d : Array α) w, CmpLays P c #[] enc s cf b 0 d.size w → HoldsK enc s w b 0 d → b < w.heap.size → d.size < 4611686018427387904 →
    Calls P fs #[.slice (some ⟨b, 0, none⟩) d.size cap, .func (.func c) #[] #[]] w fun e w' => e = .returned (.tuple #[]) ∧ ∃ n os, w' = sortWorldK enc s w b 0 n (d.toList.mergeSort fun x y => !(ltOf cf) y x).toArray os

end
end Go.Proofs.YtindppnanjcoaaaGreatDoor.Ab
end
section
namespace Go.Proofs.YtindppnanjcoaaaGreatDoor.Ab
open Go Go.Sort

section
variable {α : Type} [Inhabited α] {f : α → D} {enc1 : α → Value}
theorem flat1 (he : ∀ x, encP f x = [enc1 x]) (l : List α) (k : Nat) (h : k < l.length) : (flatK (encP f) 1 l.toArray)[k]! = enc1 (l.toArray[k]!) := by
  rw [get_flatK _ _ _ _ (by simpa using h), Nat.div_one, Nat.mod_one, he]; rfl
/-- What the library says of its sort, at this program. -/
structure Sorts1 (P : Program) (fs : FuncId) (enc1 : α → Value) (lt : α → α → Bool) : Prop where
  nil : ∀ p cap w, Calls P fs #[.slice p 0 cap] w fun e w' => e = .returned (.tuple #[]) ∧ w' = w
  row : ∀ b cap (l : List α) w, Holds enc1 w b 0 l.toArray → b < w.heap.size → l.length < 4611686018427387904 →
    Calls P fs #[.slice (some ⟨b, 0, none⟩) l.length cap] w fun e w' => e = .returned (.tuple #[]) ∧ ∃ n os, w' = grow (putRow enc1 (Sort.ahead w n) b 0 (l.mergeSort fun x y => !lt y x).toArray) os
end
end Go.Proofs.YtindppnanjcoaaaGreatDoor.Ab
end
section
namespace Go.Proofs.YtindppnanjcoaaaGreatDoor.Ab
open Go Go.RowKit

/-- What the library says of its Grow at nil, at this program. -/
structure Grows (P : Program) (fs : FuncId) (e : TypeId) (s bytes : Nat) : Prop where
  zero : ∀ w, Calls P fs #[.slice none 0 0, .int .i64 0] w fun r w' => r = .returned (.slice none 0 0) ∧ w' = w
  more : ∀ (n : Nat) w, 0 < n → n * bytes ≤ 140737488355328 → n ≤ 4611686018427387904 → Calls P fs #[.slice none 0 0, .int .i64 n] w fun r w' =>
    ∃ C arr, r = .returned (.slice (some ⟨w.heap.size, 0, none⟩) 0 C) ∧ w' = w.drew.alloc (.cells arr e) ∧ arr.size = C * s ∧ C ≤ 9223372036854775807
theorem ACall.grow {P : Program} {fs : FuncId} {e : TypeId} {s bytes : Nat} {H : List HE} {n : Int} (hG : Grows P fs e s bytes) (h0 : 0 ≤ n) (h1 : n * bytes ≤ 140737488355328) (h2 : n ≤ 4611686018427387904) :
    ACall P fs [.nil, .d (.int .i64 n)] H fun r H' => r = .hs H.length 0 0 s ∧ H' = H ++ [.lst [] e s] := by
  intro g w vals hw hs ha
  obtain ⟨v0, v1, rfl⟩ : ∃ v0 v1, vals = #[v0, v1] := by
    obtain ⟨vs⟩ := vals
    match vs, hs with
    | [a, b], _ => exact ⟨a, b, rfl⟩
  have r0 := ha 0 _ v0 rfl rfl
  have r1 := ha 1 _ v1 rfl rfl
  cases r0
  cases r1 with
  | d r1 =>
    cases r1
    obtain ⟨m, rfl⟩ : ∃ m : Nat, n = m := ⟨n.toNat, by omega⟩
    by_cases hm : m = 0
    · subst hm
      refine (hG.zero w).mono ?_
      rintro r w' ⟨rfl, rfl⟩
      obtain ⟨g', w1, w2, w3⟩ := hw.lstize (s := s) (e := e) (ad := none)
      exact ⟨_, _, g', _, rfl, w1, w2, .hs w3 (fun _ => ⟨rfl, rfl, rfl, Nat.le_refl _⟩), rfl, rfl⟩
    · refine (hG.more m w (by omega) (by rw [← Int.natCast_mul] at h1; omega) (by omega)).mono ?_
      rintro r w' ⟨C, arr, rfl, rfl, h3, h4⟩
      obtain ⟨g', w1, w2, w3⟩ := hw.addFree.newLst (w' := w.drew.alloc (.cells arr e)) (id := H.length) (l := []) (s := s) (cap := C) (arr := arr) (et := e) (by simp) ⟨rfl, rfl, rfl⟩ rfl (Nat.zero_le _) h4 h3 (fun k x v hx _ => by simp [D.flat] at hx)
      rw [set_last] at w1
      exact ⟨_, _, g', _, rfl, w1, w2, .hs w3 (fun _ => ⟨rfl, rfl, rfl, by omega⟩), rfl, rfl⟩
section
variable {P : Program} {ρ : Operand → V} {H : List HE} {ty : TypeId}
end

/-- Arguments as they stand, or taken for data. -/
inductive ArgsW (ρ : Operand → V) : List Operand → List V → Prop
  | nil : ArgsW ρ [] []
  | i {x : Operand} {xs : List Operand} {v : V} {vs : List V} : Is (ρ x) v → ArgsW ρ xs vs → ArgsW ρ (x :: xs) (v :: vs)
  | a {x : Operand} {xs : List Operand} {d : D} {vs : List V} : As (ρ x) d → ArgsW ρ xs vs → ArgsW ρ (x :: xs) (.d d :: vs)
theorem ArgsW.get {ρ : Operand → V} {xs : List Operand} {vs : List V} (h : ArgsW ρ xs vs) : xs.length = vs.length ∧ ∀ (i : Nat) v, vs[i]? = some v → ∃ x, xs[i]? = some x ∧ ∀ {g w r}, Rep g w (ρ x) r → Rep g w v r := by
  induction h with
  | nil => exact ⟨rfl, fun i v h => by simp at h⟩
  | i hx _ ih =>
    refine ⟨by simp [ih.1], fun i v hv => ?_⟩
    cases i with
    | zero => simp only [List.getElem?_cons_zero, Option.some.injEq] at hv; subst hv; exact ⟨_, rfl, fun h => hx.rep h⟩
    | succ i => exact ih.2 i v (by simpa using hv)
  | a hx _ ih =>
    refine ⟨by simp [ih.1], fun i v hv => ?_⟩
    cases i with
    | zero => simp only [List.getElem?_cons_zero, Option.some.injEq] at hv; subst hv; exact ⟨_, rfl, fun h => .d (hx.rep h)⟩
    | succ i => exact ih.2 i v (by simpa using hv)
section
variable {P : Program} {ρ : Operand → V} {H : List HE} {ty : TypeId}
end

end Go.Proofs.YtindppnanjcoaaaGreatDoor.Ab
end
section
namespace Go.Proofs.YtindppnanjcoaaaGreatDoor.Ab
open Go Go.RowKit

section
variable {P : Program} {ρ : Operand → V} {H : List HE} {ty : TypeId}
end

section
variable {F : FC} {ρ : Operand → V} {H : List HE} {ty : TypeId}
end
end Go.Proofs.YtindppnanjcoaaaGreatDoor.Ab
end
section
namespace Go.Proofs.YtindppnanjcoaaaGreatDoor.Ab
open Go Go.RowKit

section
variable {P : Program} {ρ : Operand → V} {H : List HE} {ty : TypeId}
end
end Go.Proofs.YtindppnanjcoaaaGreatDoor.Ab
end
section
namespace Go.Proofs.YtindppnanjcoaaaGreatDoor.Ab
open Go
end Go.Proofs.YtindppnanjcoaaaGreatDoor.Ab
end
section
namespace Go.Proofs.YtindppnanjcoaaaGreatDoor.Ab
open Go Go.RowKit

section
variable {P : Program} {ρ : Operand → V} {H : List HE} {ty : TypeId}
end
end Go.Proofs.YtindppnanjcoaaaGreatDoor.Ab
end
section
namespace Go.Proofs.YtindppnanjcoaaaGreatDoor.Ab
open Go

/-! ### what is known of a state may be told otherwise -/
def Gh (F : FC) (s s' : St) : Prop := ∀ a w, Sim F s a w → Sim F s' a w
def GS (F : FC) (K : St → Prop) (s : St) : Prop := ∀ a w, Sim F s a w → ∃ s', Sim F s' a w ∧ K s'
section
variable {F : FC} {Q : Exit → St → Prop} {K : St → Prop} {c y : Code} {st s s' : St} {ops : Array Oper} {os : List Oper}
theorem GS.nil (h : K s) : GS F K s := fun _ _ hs => ⟨s, hs, h⟩
theorem Gh.wok {E : Nat → V} {H H' : List HE} (h : ∀ g w, WOK g w H → ∃ g', WOK g' w H' ∧ Evo g w g' w) : Gh F ⟨E, H⟩ ⟨E, H'⟩ := fun _ w ⟨h1, h2, g, h3, h4, h5⟩ => by
  obtain ⟨g', k1, k2⟩ := h g w h3
  exact ⟨h1, h2, g', k1, h4.trans k2, fun i => (h5 i).mono k2⟩
end

/-- Entries of the heap change, lists of their own among them; all others stay. -/
theorem WOK.chg3 {g g' : G} {w w' : World} {H H' : List HE} (K : Nat → Prop) (hw : WOK g w H) (he : Evo g w g' w') (hl : H'.length = H.length) (hKl : ∀ i, K i → i < H.length) (hH : ∀ i, ¬ K i → H'[i]? = H[i]?)
    (hg : ∀ i, ¬ K i → g'.σ i = g.σ i ∧ g'.τ i = g.τ i ∧ g'.υ i = g.υ i) (hX : ∀ i e b, ¬ K i → H[i]? = some e → g.blk i e b → g'.X b) (hXs : ∀ b, g'.X b → b < w'.heap.size) (hPs : ∀ b o, g'.Pr b o → b < w'.heap.size)
    (hu : ∀ i e b, ¬ K i → H[i]? = some e → g.blk i e b → w'.heap[b]? = w.heap[b]? ∧ ∀ o, g'.Pr b o → g.Pr b o)
    (hb : ∀ i e b, K i → H'[i]? = some e → g'.blk i e b → g'.X b ∧ ∀ i0 e0, ¬ K i0 → H[i0]? = some e0 → ¬ g.blk i0 e0 b)
    (hs : ∀ i i' e e' b, K i → K i' → H'[i]? = some e → H'[i']? = some e' → g'.blk i e b → g'.blk i' e' b → i = i')
    (hE : ∀ i e, K i → H'[i]? = some e → e = .dead ∨ (∃ x, e = .ob x ∧ ∃ b, g'.σ i = some b ∧ x.φ g' w' i b ∧ (∀ o, ¬ g'.Pr b o) ∧ ∀ b' o, g'.υ i b' → ¬ g'.Pr b' o) ∨
      ∃ l t s, e = .lst l t s ∧ ∃ a cap, g'.τ i = some (0, a, cap) ∧ l.length ≤ cap ∧ cap ≤ 9223372036854775807 ∧ (0 < cap → ∃ b arr, a = some ⟨b, 0, none⟩ ∧ g'.σ i = some b ∧ w'.heap[b]? = some (.cells arr t (0, 0)) ∧ arr.size = cap * s ∧ (∀ o, ¬ g'.Pr b o) ∧
        (∀ (k : Nat) x v, (D.flat l)[k]? = some x → arr[k]? = some v → RepD g'.Pr w' x v))) : WOK g' w' H' := by
  classical
  have hblk : ∀ i e b, ¬ K i → (g'.blk i e b ↔ g.blk i e b) := fun i e b hi => by
    obtain ⟨q1, q2, q3⟩ := hg i hi
    cases e <;> simp only [G.blk, q1, q2, q3]
  refine ⟨hPs, hXs, ?_, ?_, ?_, ?_, ?_, ?_, ?_, hw.kcE he⟩
  · intro i e b h1 h2
    by_cases hi : K i
    · exact (hb i e b hi h1 h2).1
    · exact hX i e b hi ((hH i hi) ▸ h1) ((hblk i e b hi).1 h2)
  · intro i i' e e' b h1 h2 h3 h4
    by_cases hi : K i <;> by_cases hi' : K i'
    · exact hs i i' e e' b hi hi' h1 h2 h3 h4
    · exact absurd ((hblk i' e' b hi').1 h4) ((hb i e b hi h1 h3).2 i' e' hi' ((hH i' hi') ▸ h2))
    · exact absurd ((hblk i e b hi).1 h3) ((hb i' e' b hi' h2 h4).2 i e hi ((hH i hi) ▸ h1))
    · exact hw.sep i i' e e' b ((hH i hi) ▸ h1) ((hH i' hi') ▸ h2) ((hblk i e b hi).1 h3) ((hblk i' e' b hi').1 h4)
  · intro i c h
    by_cases hi : K i
    · rcases hE i _ hi h with h | ⟨_, h, _⟩ | ⟨_, _, _, h, _⟩ <;> cases h
    · have h' := (hH i hi) ▸ h
      obtain ⟨q1, q2, q3⟩ := hg i hi
      obtain ⟨b1, arr1, et1, g1, g2, g3, g4, g5⟩ := hw.row i c h'
      obtain ⟨u1, u2⟩ := hu i _ b1 hi h' (by simpa [G.blk] using g1)
      exact ⟨b1, arr1, et1, q1 ▸ g1, u1.trans g2, g3, fun k x v hx hv => (g4 k x v hx hv).mono he, fun o hp => g5 o (u2 o hp)⟩
  · intro i n e s h
    by_cases hi : K i
    · rcases hE i _ hi h with h | ⟨_, h, _⟩ | ⟨_, _, _, h, _⟩ <;> cases h
    · have h' := (hH i hi) ▸ h
      obtain ⟨q1, q2, q3⟩ := hg i hi
      obtain ⟨a, cap, g1, g2, g3, g4⟩ := hw.tok i n e s h'
      refine ⟨a, cap, q2 ▸ g1, g2, g3, fun hlt => ?_⟩
      obtain ⟨b1, arr1, k1, k2, k3, k4⟩ := g4 hlt
      obtain ⟨u1, u2⟩ := hu i _ b1 hi h' (by simp [G.blk, g1, hlt, k1])
      exact ⟨b1, arr1, k1, u1.trans k2, k3, fun o hp => k4 o (u2 o hp)⟩
  · intro i l e s h
    by_cases hi : K i
    · rcases hE i _ hi h with h | ⟨_, h, _⟩ | ⟨l', t', s', h, k⟩
      · cases h
      · cases h
      · injection h with h1 h2 h3
        subst h1; subst h2; subst h3
        exact k
    · have h' := (hH i hi) ▸ h
      obtain ⟨q1, q2, q3⟩ := hg i hi
      obtain ⟨a, cap, g1, g2, g3, g4⟩ := hw.lst i l e s h'
      refine ⟨a, cap, q2 ▸ g1, g2, g3, fun hlt => ?_⟩
      obtain ⟨b1, arr1, k1, k0, k2, k3, k4, k5⟩ := g4 hlt
      obtain ⟨u1, u2⟩ := hu i _ b1 hi h' (by simp [G.blk, g1, hlt, k1])
      exact ⟨b1, arr1, k1, q1 ▸ k0, u1.trans k2, k3, fun o hp => k4 o (u2 o hp), fun k x v hx hv => (k5 k x v hx hv).mono he.pr⟩
  · intro i x h
    by_cases hi : K i
    · rcases hE i _ hi h with h | ⟨x', h, k⟩ | ⟨_, _, _, h, _⟩
      · cases h
      · injection h with h; subst h; exact k
      · cases h
    · have h' := (hH i hi) ▸ h
      obtain ⟨q1, q2, q3⟩ := hg i hi
      obtain ⟨b1, k1, k2, k3, k4⟩ := hw.ob i x h'
      obtain ⟨u1, u2⟩ := hu i _ b1 hi h' (.inl k1)
      refine ⟨b1, q1 ▸ k1, x.st he.w q2 q3 u1 (fun b' hb' => (hu i _ b' hi h' (.inr hb')).1) k2, fun o hp => k3 o (u2 o hp), fun b' o hb' hp => ?_⟩
      rw [q3] at hb'
      exact k4 b' o hb' ((hu i _ b' hi h' (.inr hb')).2 o hp)
  · intro i h
    have hi : ¬ K i := fun hi => by
      rcases h with h | h
      · rcases hE i _ hi h with h | ⟨_, h, _⟩ | ⟨_, _, _, h, _⟩ <;> cases h
      · have := hKl i hi; omega
    obtain ⟨q1, q2, q3⟩ := hg i hi
    rw [q1, q2, q3]
    exact hw.free i (h.imp (fun h => (hH i hi) ▸ h) (fun h => by omega))

/-- The same where nothing new comes in. -/
theorem WOK.chg2 {g g' : G} {w w' : World} {H H' : List HE} (K : Nat → Prop) (hw : WOK g w H) (he : Evo g w g' w') (hl : H'.length = H.length) (hKl : ∀ i, K i → i < H.length) (hH : ∀ i, ¬ K i → H'[i]? = H[i]?)
    (hg : ∀ i, ¬ K i → g'.σ i = g.σ i ∧ g'.τ i = g.τ i ∧ g'.υ i = g.υ i) (hX : ∀ i e b, ¬ K i → H[i]? = some e → g.blk i e b → g'.X b) (hXs : ∀ b, g'.X b → b < w'.heap.size) (hPs : ∀ b o, g'.Pr b o → b < w'.heap.size)
    (hu : ∀ i e b, ¬ K i → H[i]? = some e → g.blk i e b → w'.heap[b]? = w.heap[b]? ∧ ∀ o, g'.Pr b o → g.Pr b o)
    (hb : ∀ i e b, K i → H'[i]? = some e → g'.blk i e b → g'.X b ∧ ∃ i0 e0, K i0 ∧ H[i0]? = some e0 ∧ g.blk i0 e0 b)
    (hs : ∀ i i' e e' b, K i → K i' → H'[i]? = some e → H'[i']? = some e' → g'.blk i e b → g'.blk i' e' b → i = i')
    (hE : ∀ i e, K i → H'[i]? = some e → e = .dead ∨ (∃ x, e = .ob x ∧ ∃ b, g'.σ i = some b ∧ x.φ g' w' i b ∧ (∀ o, ¬ g'.Pr b o) ∧ ∀ b' o, g'.υ i b' → ¬ g'.Pr b' o) ∨
      ∃ l t s, e = .lst l t s ∧ ∃ a cap, g'.τ i = some (0, a, cap) ∧ l.length ≤ cap ∧ cap ≤ 9223372036854775807 ∧ (0 < cap → ∃ b arr, a = some ⟨b, 0, none⟩ ∧ g'.σ i = some b ∧ w'.heap[b]? = some (.cells arr t (0, 0)) ∧ arr.size = cap * s ∧ (∀ o, ¬ g'.Pr b o) ∧
        (∀ (k : Nat) x v, (D.flat l)[k]? = some x → arr[k]? = some v → RepD g'.Pr w' x v))) : WOK g' w' H' :=
  WOK.chg3 K hw he hl hKl hH hg hX hXs hPs hu (fun i e b hi h1 h2 => by
    obtain ⟨q1, j, f, q2, q3, q4⟩ := hb i e b hi h1 h2
    exact ⟨q1, fun i0 e0 hi0 h3 h4 => hi0 (hw.sep j i0 f e0 b q3 h3 q4 h4 ▸ q2)⟩) hs hE

/-! ### rows -/
inductive RowD where
  | own (l : List D)
  | lent (n len : Nat)
/-- The head of a row. -/
abbrev Hd := Option Addr × Nat × Nat
def hdV (h : Hd) : Value := .slice h.1 h.2.1 h.2.2
def hdD (h : Hd) : D := .raw (hdV h)
def RowV (g : G) (w : World) (id b : Nat) (e : TypeId) : RowD → Hd → Prop
  | .own l, h => h.2.1 = l.length ∧ l.length ≤ h.2.2 ∧ h.2.2 ≤ 9223372036854775807 ∧ (0 < h.2.2 → ∃ br arr, h.1 = some ⟨br, 0, none⟩ ∧ g.υ id br ∧ br ≠ b ∧ w.heap[br]? = some (.cells arr e (0, 0)) ∧ arr.size = h.2.2 ∧
      ∀ (k : Nat) x u, l[k]? = some x → arr[k]? = some u → RepD g.Pr w x u)
  | .lent n len, h => ∃ m a cap, g.τ n = some (m, a, cap) ∧ (m = 0 → h = (a, len, cap) ∧ len ≤ cap)
def bigB (h : Hd) : Option Nat := if 0 < h.2.2 then h.1.map (·.block) else none
def RowD.isOwn : RowD → Bool
  | .own _ => true
  | .lent _ _ => false
theorem RowV.fre {g g' : G} {w : World} {i j b : Nat} {e : TypeId} {r : RowD} {v : Hd} (hr : r.isOwn = true) (hP : g'.Pr = g.Pr) (hu : g'.υ j = g.υ i) (h : RowV g w i b e r v) : RowV g' w j b e r v := by
  cases r with
  | own l => unfold RowV at h ⊢; rw [hP, hu]; exact h
  | lent n len => cases hr
theorem RowV.mono {g g' : G} {w w' : World} {id id' b b1 : Nat} {e : TypeId} {r : RowD} {v : Hd} (he : EvoW g w g' w') (hu : ∀ l b', r = .own l → bigB v = some b' → g.υ id b' → b' ≠ b → g'.υ id' b' ∧ b' ≠ b1) (ho : ∀ b', g.υ id b' → b' ≠ b → w'.heap[b']? = w.heap[b']?)
    (h : RowV g w id b e r v) : RowV g' w' id' b1 e r v := by
  cases r with
  | own l =>
    obtain ⟨h1, h2, h3, h4⟩ := h
    refine ⟨h1, h2, h3, fun hc => ?_⟩
    obtain ⟨br, arr, k1, k2, k3, k4, k5, k6⟩ := h4 hc
    obtain ⟨u1, u2⟩ := hu l br rfl (by simp [bigB, hc, k1]) k2 k3
    exact ⟨br, arr, k1, u1, u2, (ho _ k2 k3).trans k4, k5, fun k x u hx hu' => (k6 k x u hx hu').mono he.pr⟩
  | lent n len =>
    obtain ⟨m, a, cap, h1, h2⟩ := h
    obtain ⟨m', a', cap', k1, k2⟩ := he.τ n m a cap h1
    refine ⟨m', a', cap', k1, fun h0 => ?_⟩
    rcases k2 with k2 | ⟨q1, q2, q3⟩
    · omega
    · subst q2; subst q3; exact h2 (by omega)

/-- Where the heads of rows lie. -/
structure Cont where
  C : G → World → Nat → Nat → List Hd → Prop
  st : ∀ {g g' : G} {w w' : World} {id b : Nat} {Vs : List Hd}, EvoW g w g' w' → g'.τ id = g.τ id → w'.heap[b]? = w.heap[b]? → C g w id b Vs → C g' w' id b Vs
  fr : Bool
  fre : fr = true → ∀ {g g' : G} {w : World} {i j b : Nat} {Vs : List Hd}, g'.Pr = g.Pr → g'.τ j = g.τ i → C g w i b Vs → C g' w j b Vs
structure CAt (C : Cont) (e : TypeId) (R : List RowD) (g : G) (w : World) (id b : Nat) (Vs : List Hd) : Prop where
  nob : ¬ g.υ id b
  c : C.C g w id b Vs
  len : Vs.length = R.length
  row : ∀ (k : Nat) r v, R[k]? = some r → Vs[k]? = some v → RowV g w id b e r v
  dis : ∀ (k k' : Nat) l l' v v' B, k ≠ k' → R[k]? = some (.own l) → R[k']? = some (.own l') → Vs[k]? = some v → Vs[k']? = some v' → bigB v = some B → bigB v' = some B → False
def cO (C : Cont) (e : TypeId) (R : List RowD) : OB where
  φ := fun g w id b => ∃ Vs, CAt C e R g w id b Vs
  st := fun he ht hu hb ho ⟨Vs, h⟩ => ⟨Vs, by rw [hu]; exact h.nob, C.st he ht hb h.c, h.len, fun k r v hr hv => (h.row k r v hr hv).mono he (fun _ b' _ _ hb' hb2 => ⟨by rw [hu]; exact hb', hb2⟩) (fun b' hb' _ => ho b' hb'), h.dis⟩
  fr := C.fr && R.all RowD.isOwn
  fre := fun h {g g' w i j b} hP hτ hu ⟨Vs, k⟩ => by
    obtain ⟨f1, f2⟩ := Bool.and_eq_true_iff.1 h
    exact ⟨Vs, by rw [hu]; exact k.nob, C.fre f1 hP hτ k.c, k.len, fun q r v hr hv => (k.row q r v hr hv).fre (List.all_eq_true.1 f2 r (List.mem_of_getElem? hr)) hP hu, k.dis⟩
section
variable {H : List HE} {C : Cont} {e : TypeId} {R : List RowD}
end
end Go.Proofs.YtindppnanjcoaaaGreatDoor.Ab
end
