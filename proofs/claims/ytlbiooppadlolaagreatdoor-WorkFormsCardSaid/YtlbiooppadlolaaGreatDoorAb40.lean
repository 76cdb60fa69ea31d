/- The number of what has been drawn only grows. Sorting lists that are written in place: the library's contracts in terms of plain lists. Sorting lists of numbers or texts in place. New lists with room, and cells that become data. Lists of rows: copies, the piece that reaches behind the end, zeros appended, overlaps. Calls that take a list over and hand one back, where the order is open. Pieces of a list in plain Lean. Taking elements out of a list in place. Conditions: none. -/
import Derived.Calls
import Derived.StepT
import Derived.Test.YtlbiooppadlolaaGreatDoorAb34
import Derived.Shelf.SlSortCmp.NoneTotal
import Derived.Test.YtlbiooppadlolaaGreatDoorAb27
import Derived.RowKit
section
namespace Go.Proofs.YtlbiooppadlolaaGreatDoor.Dr
open Go
def rw_ {α : Type} : Result α → World
  | .ok _ w => w
  | .halt _ w => w
theorem ask_dr {α : Type} : ∀ (s : Ask α) (w : World), w.drawn ≤ (w.ask s).2.drawn
  | .done a, w => by simp [World.ask]
  | .ask what range k, w => by
    simp only [World.ask]
    split
    · exact ask_dr _ _
    · exact Nat.le_trans (Nat.le_succ _) (ask_dr (k _) { w with drawn := w.drawn + 1 })
theorem sys_dr (w : World) (c : Sys) : w.drawn ≤ (w.sys c).2.drawn := by
  have h := ask_dr (Kernel.perform c w.os) w
  unfold World.sys
  split
  · exact Nat.le_refl _
  · rename_i r os w' _ he
    rw [he] at h
    exact h
theorem view_dr {p : Program} {w w' : World} {a k : Addr} {u : TypeId} {v : Value} {b : Bool} {l : List Addr} (h : w.viewStore p a u k v b = .ok (w', l)) : w'.drawn = w.drawn := by
  unfold World.viewStore at h
  simp only [bind, Except.bind, pure, Except.pure] at h
  repeat' split at h
  all_goals first | (cases h; done) | (cases h; rfl) | (rename_i h0; cases h0; done)
theorem far_dr {p : Program} {w w' : World} {a : Addr} {v : Value} {b : Bool} {l : List Addr} (h : w.farStore p a v b = .ok (w', l)) : w'.drawn = w.drawn := by
  unfold World.farStore at h
  split at h
  · split at h
    · rename_i he; cases h; exact view_dr he
    · cases h
  · cases h
theorem run_dr {α : Type} (p : Program) : ∀ (s : Sem α) (w : World), w.drawn ≤ (rw_ (s.run p w)).drawn := by
  intro s
  induction s with
  | pure a => intro w; exact Nat.le_refl _
  | load m a k ih =>
    intro w; simp only [Sem.run]; split
    · exact ih _ _
    · split
      · exact ih _ _
      · exact Nat.le_refl _
  | store m a v k ih =>
    intro w
    cases v
    all_goals first
      | exact Nat.le_refl _
      | (simp only [Sem.run]
         split
         · split
           · exact Nat.le_refl _
           · exact ih (w.setCell a _)
         · split
           · rename_i he
             exact Nat.le_trans (Nat.le_of_eq (far_dr he).symm) (ih _)
           · exact Nat.le_refl _)
  | new o k ih => intro w; exact ih w.heap.size { w with heap := w.heap.push o }
  | shape r k ih => intro w; simp only [Sem.run]; exact ih _ _
  | freeze a n k ih => intro w; have := ih (w.freeze a n); simp only [Sem.run]; unfold World.freeze at this ⊢; split <;> simp_all
  | frozen a k ih => intro w; simp only [Sem.run]; exact ih _ _
  | getObj r k ih =>
    intro w; simp only [Sem.run]; split
    · exact Nat.le_refl _
    · exact ih _ _
    · exact Nat.le_refl _
  | setObj r o k ih =>
    intro w; simp only [Sem.run]; split
    · exact Nat.le_refl _
    · exact ih { w with heap := w.heap.setIfInBounds r o }
    · exact Nat.le_refl _
  | choose q k ih =>
    intro w; simp only [Sem.run]; split
    · exact ih _ _
    · exact Nat.le_trans (Nat.le_succ _) (ih _ { w with drawn := w.drawn + 1 })
  | sys c k ih => intro w; simp only [Sem.run]; exact Nat.le_trans (sys_dr w c) (ih _ _)
  | program k ih => intro w; simp only [Sem.run]; exact ih _ _
  | mark m k ih => intro w; simp only [Sem.run]; exact ih _
  | halt h => intro w; exact Nat.le_refl _
theorem run_ok {α : Type} {p : Program} {s : Sem α} {w w' : World} {a : α} {n : Nat} (h : n ≤ w.drawn) (he : s.run p w = .ok a w') : n ≤ w'.drawn := by
  have h2 := run_dr p s w
  rw [he] at h2
  exact Nat.le_trans h h2
theorem run_halt {α : Type} {p : Program} {s : Sem α} {w w' : World} {a : Halt} {n : Nat} (h : n ≤ w.drawn) (he : s.run p w = .halt a w') : n ≤ w'.drawn := by
  have h2 := run_dr p s w
  rw [he] at h2
  exact Nat.le_trans h h2
def drS (n : Nat) : GStep → Prop
  | .go _ w _ | .comm _ _ _ _ w _ | .spawn _ _ w _ | .count _ w _ | .timer _ _ w _ | .alone _ _ w _ | .newcoro _ _ _ w _ | .coroswitch _ _ _ w _ | .collect _ w _ | .watch _ w _ => n ≤ w.drawn
  | .ended .. => True
theorem ite_dr {n : Nat} {c : Prop} [Decidable c] {a b : GStep} (h1 : drS n a) (h2 : drS n b) : drS n (if c then a else b) := by
  by_cases h : c
  · rw [if_pos h]; exact h1
  · rw [if_neg h]; exact h2
theorem after_dr {n : Nat} {es : Array Event} {s : GStep} (h : drS n s) : drS n (s.after es) := by
  cases s <;> exact h
theorem return_dr {n : Nat} {p : Program} {main : Bool} {fr : Frame} {cs : List Frame} {d : Option Dying} {v : Value} {w : World} (h : n ≤ w.drawn) : drS n (doReturn p main fr cs d v w) := by
  unfold doReturn
  repeat' split
  all_goals first | exact h | trivial
theorem endWith_dr {n : Nat} {w : World} {fd : Nat} {t : ByteArray} {o : Outcome} : drS n (endWith w fd t o) := by
  unfold endWith
  repeat' (first | split | trivial)
theorem endThrow_dr {n : Nat} {fr : Frame} {m : String} {w : World} (h : n ≤ w.drawn) : drS n (endThrow fr m w) := h
theorem endPrinting_dr {n : Nat} {p : Program} {fr : Frame} {v : Value} {w : World} (h : n ≤ w.drawn) : drS n (endPrinting p fr v w) := by
  unfold endPrinting
  extract_lets type what
  clear_value what
  cases what with
  | some s => exact h
  | none => trivial
theorem endFatal_dr {n : Nat} {p : Program} {fr : Frame} {cs : List Frame} {d : Option Dying} {m : String} {w : World} (h : n ≤ w.drawn) : drS n (endFatal p fr cs d m w) := by
  unfold endFatal
  extract_lets chain raw shown
  clear_value shown
  split
  · rename_i he; exact run_ok h he
  · trivial
  · trivial
theorem callDeferred_dr {n : Nat} {p : Program} {fr : Frame} {cs : List Frame} {dy : Option Dying} {d : Deferred} {w : World} (h : n ≤ w.drawn) : drS n (callDeferred p fr cs dy d w) := by
  unfold callDeferred
  refine ite_dr trivial ?_
  simp only [Sem.runT_eq]
  refine after_dr ?_
  split
  all_goals first
    | trivial
    | (rename_i he; first | exact run_ok h he | exact run_halt h he | exact endFatal_dr (run_halt h he) | exact endThrow_dr (run_halt h he))
    | (rename_i he; have h3 := run_ok h he; repeat' (first | exact h3 | trivial | split))
    | (rename_i he _; first | exact run_ok h he)
theorem writeOn_dr {n : Nat} {p : Program} {fr : Frame} {d : Dying} {f : Fatal} {w : World} (h : n ≤ w.drawn) : drS n (writeOn p fr d f w) := by
  unfold writeOn
  split
  · trivial
  · simp only [Sem.runT_eq]
    split
    all_goals first | trivial | (rename_i he; injection he with he _; first | exact run_ok h he | exact run_halt h he)
theorem die_dr {n : Nat} {p : Program} {fr : Frame} {d : Dying} {w : World} (h : n ≤ w.drawn) : drS n (die p fr d w) := by
  unfold die
  split
  · exact writeOn_dr h
  · split
    · split
      · exact h
      · exact endWith_dr
    · extract_lets d2
      split
      · exact h
      · split
        · rename_i he; exact run_ok h he
        · trivial
      · simp only [Sem.runT_eq]
        refine after_dr ?_
        split
        all_goals first | trivial | (rename_i he; first | exact run_ok h he | exact endPrinting_dr (run_halt h he))
      · trivial
theorem unwind_dr {n : Nat} {p : Program} {main : Bool} {fr : Frame} {cs : List Frame} {dy : Option Dying} {w : World} (h : n ≤ w.drawn) : drS n (unwind p main fr cs dy w) := by
  unfold unwind
  split
  · simp only [Sem.runT_eq]
    refine after_dr ?_
    split
    · rename_i he; exact run_ok h he
    · trivial
  · exact callDeferred_dr h
  · split
    · trivial
    · split
      · trivial
      · split
        · exact h
        · split
          · split
            · exact h
            · split
              · rename_i he; exact run_ok h he
              · trivial
              · trivial
          · split
            · exact endPrinting_dr h
            · trivial
    · split
      · exact return_dr h
      · simp only [Sem.runT_eq]
        refine after_dr ?_
        split
        · rename_i he; exact return_dr (run_ok h he)
        · trivial
        · trivial
theorem early_dr {n : Nat} {p : Program} {fr : Frame} {cs : List Frame} {dy : Option Dying} {g : Nat} {w : World} (h : n ≤ w.drawn) : drS n (early p fr cs dy g w) := by
  have hn : ∀ w' : World, n ≤ w'.drawn → drS n (match w'.heap[g]? with
    | some (.pending c elem) =>
      .go { frame := fr, callers := cs, status := .running, dying := dy } { w' with heap := w'.heap.setIfInBounds g (.cells c elem) }
    | _ => .ended (.stuck "early: the variable does not wait" (fr.pos p)) w') := fun w' h' => by
    split
    · exact h'
    · trivial
  unfold early
  extract_lets refuse notYet
  refine ite_dr (hn w h) ?_
  split
  · trivial
  · extract_lets there
    refine ite_dr (hn w h) (ite_dr (hn w h) ?_)
    split
    · trivial
    · exact h
    · trivial
    · exact hn w h
    · refine ite_dr h (ite_dr (hn w h) ?_)
      split
      · rename_i he; exact hn _ (run_ok h he)
      · rename_i he; exact run_ok h he
      · trivial
theorem apply_dr {n : Nat} {p : Program} {listen : Bool} {fr : Frame} {cs : List Frame} {dy : Option Dying} {s : Sem Next} {w : World} (h : n ≤ w.drawn) : drS n (stepG.apply p listen fr cs dy s w) := by
  unfold stepG.apply
  have hr : (if listen = true then s.runT p w #[] else (s.run p w, #[])).1 = s.run p w := by cases listen <;> simp [Sem.runT_eq]
  generalize (if listen = true then s.runT p w #[] else (s.run p w, #[])) = q at hr ⊢
  obtain ⟨r, es⟩ := q
  dsimp only at hr ⊢
  subst hr
  refine after_dr ?_
  split
  all_goals first
    | trivial
    | (rename_i he; first | exact run_ok h he | exact run_halt h he | exact endFatal_dr (run_halt h he) | exact endThrow_dr (run_halt h he) | exact early_dr (run_halt h he))
    | (rename_i he; have h3 := run_ok h he; repeat' (first | exact h3 | trivial | split))
    | (rename_i he; have h3 := run_ok h he; refine ite_dr h3 h3)
theorem oper_dr {n : Nat} {p : Program} {listen : Bool} {fr : Frame} {cs : List Frame} {dy : Option Dying} {w : World} (h : n ≤ w.drawn) : drS n (stepG.oper p listen fr cs dy w) := by
  unfold stepG.oper
  split
  · trivial
  · split
    · exact apply_dr h
    · exact apply_dr h
theorem exec_dr {n : Nat} {p : Program} {main listen : Bool} {fr : Frame} {cs : List Frame} {dy : Option Dying} {w : World} (h : n ≤ w.drawn) : drS n (stepG.exec p main listen fr cs dy w) := by
  have hl : ∀ jump : Option Code, drS n (match fr.roundOf with
    | none => if jump matches none | some .ret then GStep.go { frame := { fr with mode := .returning }, callers := cs, status := .running, dying := dy } w else .ended (.stuck "exit, goto: no such block or label" (fr.pos p)) w
    | some l =>
      let (r, es) := (Instr.endRound l jump).runT p w #[]
      GStep.after (seen p fr.fn es) <| match r with
      | .ok v w => doReturn p main fr cs dy v w
      | .halt _ w => .ended (.stuck "range over a function: no such loop" (fr.pos p)) w) := fun jump => by
    split
    · exact ite_dr h trivial
    · simp only [Sem.runT_eq]
      refine after_dr ?_
      split
      · rename_i he; exact return_dr (run_ok h he)
      · trivial
  unfold stepG.exec
  extract_lets go to lost leave
  have hleave : ∀ j, drS n (leave j) := hl
  clear_value leave
  have hto : ∀ k, drS n (to k) := fun _ => h
  have hgo : ∀ f w', n ≤ w'.drawn → drS n (go f w') := fun _ _ h => h
  split
  all_goals first
    | exact hleave _
    | exact hto _
    | trivial
    | exact apply_dr h
    | exact ite_dr (oper_dr h) h
    | skip
  · split
    · exact hto _
    · trivial
  · cases exitTo _ _ with
    | none => exact hleave _
    | some k => exact hto k
  · cases gotoIn _ _ with
    | none => exact hleave _
    | some k => exact hto k
  · simp only [Sem.runT_eq]
    refine after_dr ?_
    split
    · rename_i he; exact apply_dr (run_ok h he)
    · trivial
  · simp only [Sem.runT_eq]
    refine after_dr ?_
    split
    · rename_i he; exact hgo _ _ (run_ok h he)
    · rename_i he; exact hgo _ _ (run_halt h he)
    · trivial
  · cases Extern.next _ with
    | none => trivial
    | some e => exact apply_dr h
  · refine ite_dr (hto _) ?_
    split
    · rename_i he; exact hgo _ _ (run_ok h he)
    · trivial
theorem stepG_dr {n : Nat} {p : Program} {main listen : Bool} {g : Goroutine} {w : World} (h : n ≤ w.drawn) : drS n (stepG p main g w listen) := by
  unfold stepG
  obtain ⟨fr, cs, st, dy, off⟩ := g
  dsimp only
  split
  · exact die_dr h
  · exact exec_dr h
  · exact unwind_dr h
/-- A machine's next state. -/
def drM (n : Nat) : Stepped → Prop
  | .next m => n ≤ m.world.drawn
  | .ended .. => True
theorem iteM {n : Nat} {c : Prop} [Decidable c] {a b : Stepped} (h1 : drM n a) (h2 : drM n b) : drM n (if c then a else b) := by
  by_cases h : c
  · rw [if_pos h]; exact h1
  · rw [if_neg h]; exact h2
theorem look_dr {n : Nat} {p : Program} {gs : Array Goroutine} {rest : Rest} {w : World} (h : n ≤ w.drawn) : drM n (look p gs rest w) := by
  unfold look
  split
  · dsimp only
    refine iteM trivial ?_
    split
    · trivial
    · split
      · rename_i he; have h3 := run_ok h he; exact h3
      · trivial
      · trivial
  · trivial
theorem wait_dr {rest : Rest} {cs : Array CommCase} {w w' : World} {n : Nat} (h : n ≤ w.drawn) (he : waitingAt rest cs w = some w') : n ≤ w'.drawn := by
  unfold waitingAt at he
  split at he
  · split at he
    · cases he; exact h
    · cases he
  · cases he; exact h
theorem comm_dr {n : Nat} {p : Program} {rest : Rest} {gs : Array Goroutine} {i : Nat} {g : Goroutine} {cases_ : Array CommCase} {b : Bool} {s : CommShape} {w : World} (h : n ≤ w.drawn) : drM n (communicate p rest gs i g cases_ b s w).1 := by
  unfold communicate
  dsimp only
  repeat' (first | trivial | exact h | split)
  all_goals first
    | (have h3 := run_ok h (by assumption); exact h3)
    | (have h3 := run_ok (run_ok h (by assumption)) (by assumption); exact h3)
    | (have h3 := run_halt (run_ok h (by assumption)) (by assumption); exact h3)
    | (have h3 := wait_dr h (by assumption); exact h3)
theorem timer_dr {m m' : Machine} {op : TimerOp} {v : Value} (h : timerOp m op = .ok (v, m')) : m'.world.drawn = m.world.drawn := by
  have hd : ∀ (w : World) (c : Nat), (drain w c).2.drawn = w.drawn := fun w c => by unfold drain; split <;> rfl
  have hr : ∀ (m : Machine) k t a b, (retime m k t a b).2.world.drawn = m.world.drawn := fun m k t a b => by
    unfold retime
    cases t.chan with
    | none => rfl
    | some c =>
      have h1 := hd m.world c
      dsimp only
      generalize drain m.world c = q at h1 ⊢
      obtain ⟨q1, q2⟩ := q
      exact h1
  have hn : ∀ (m : Machine) a f (v : Value) (m' : Machine), (∀ k t, (f k t).2.world.drawn = m.world.drawn) → timerOp.named m a f = .ok (v, m') → m'.world.drawn = m.world.drawn := fun m a f v m' hf h => by
    unfold timerOp.named at h
    split at h
    · rename_i k _
      have h1 := hf k (m.rest.timers.getD k default)
      injection h with h
      rw [h] at h1; exact h1
    · cases h
  have ho : ∀ (m m2 : Machine) a, timerOp.opened m a = some m2 → m2.world.drawn = m.world.drawn := fun m m2 a h => by
    unfold timerOp.opened at h
    split at h
    · split at h
      · cases h; rfl
      · cases h
    · cases h; rfl
  cases op with
  | new t =>
    simp only [timerOp] at h
    split at h
    · cases h; rfl
    · split at h
      · split at h
        · cases h
        · cases h; rfl
      · cases h
  | stop var => exact hn m var _ v m' (fun k t => hr m k t _ _) h
  | reset var when period =>
    simp only [timerOp] at h
    split at h
    · rename_i m2 he
      rw [← ho m m2 var he]
      unfold timerOp.named at h
      split at h
      · rename_i k _
        have h1 := hr m2 k (m.rest.timers.getD k default) when period
        injection h with h
        have h' : retime m2 k (m.rest.timers.getD k default) when period = (v, m') := h
        rw [h'] at h1; exact h1
      · cases h
    · cases h
  | deadline ctx read write when =>
    simp only [timerOp] at h
    cases h; rfl
theorem serve_dr {n : Nat} {p : Program} {m : Machine} {k : Nat} (h : n ≤ m.world.drawn) : drM n (serve p m k) := by
  unfold serve
  split
  · trivial
  · exact h
  · dsimp only
    split
    · trivial
    · exact h
theorem runT_dr {n : Nat} {p : Program} {m : Machine} {i : Nat} {l : Bool} (h : n ≤ m.world.drawn) : drM n (runT p m i l).1 := by
  unfold runT
  dsimp only
  generalize m.gs.swapAt! i _ = q
  obtain ⟨g, gs⟩ := q
  dsimp only
  have h2 : drS n (stepG p (i == 0) g m.world l) := stepG_dr h
  generalize stepG p (i == 0) g m.world l = s at h2 ⊢
  cases s with
  | ended o w es => trivial
  | comm g cs b sh w es =>
    have h3 : drM n (communicate p m.rest gs i g cs b sh w).1 := comm_dr h2
    exact h3
  | go g w es => exact h2
  | spawn g c w es => exact h2
  | count g w es => exact iteM trivial h2
  | alone g on w es => exact h2
  | collect g w es => exact look_dr h2
  | watch g w es => exact h2
  | newcoro g c d w es => exact h2
  | coroswitch g c e w es =>
    dsimp only
    split
    · exact h2
    · split
      · rename_i he
        have h3 : drS n (endThrow g.frame "coroswitch on exited coro" w) := endThrow_dr h2
        rw [he] at h3; exact h3
      · trivial
    · trivial
  | timer g op w es =>
    dsimp only
    split
    · rename_i he
      have h3 := timer_dr he
      show n ≤ _
      exact Nat.le_trans h2 (Nat.le_of_eq h3.symm)
    · split
      · rename_i msg _ _ _ _ _ he
        have h3 : drS n (endThrow g.frame msg w) := endThrow_dr h2
        rw [he] at h3; exact h3
      · trivial
    · trivial
    · trivial
def drV (n : Nat) : Move → Prop
  | .goroutine m _ => n ≤ m.world.drawn
  | .machine s _ => drM n s
theorem iteV {n : Nat} {c : Prop} [Decidable c] {a b : Move} (h1 : drV n a) (h2 : drV n b) : drV n (if c then a else b) := by
  by_cases h : c
  · rw [if_pos h]; exact h1
  · rw [if_neg h]; exact h2
theorem askOn_dr {n : Nat} {p : Program} {m : Machine} (h : n ≤ m.world.drawn) : drV n (askOn p m) := by
  unfold askOn
  extract_lets mono rs ds pick
  have hp : ∀ m : Machine, n ≤ m.world.drawn → drV n (pick m) := fun m h => by
    show drV n (match (choose (.sched rs.length)).run p m.world with
      | .halt _ w => Move.machine (.ended (.stuck "sched" "") w)
      | .ok k world =>
        if rs.length ≤ 1 then .goroutine { m with world } (rs.getD k 0) else
        match (choose (.extern "sched.slice" 65536)).run p world with
        | .halt _ w => .machine (.ended (.stuck "sched.slice" "") w)
        | .ok n world => .goroutine { m with world, rest := { m.rest with slice := if n = 0 then none else some (rs.getD k 0, n) } } (rs.getD k 0))
    split
    · trivial
    · rename_i he
      have h3 := run_ok h he
      refine iteV h3 ?_
      split
      · trivial
      · rename_i he2
        exact run_ok h3 he2
  clear_value pick
  split
  · trivial
  · rename_i he
    have h3 := run_ok h he
    clear_value rs
    dsimp only
    refine iteV (serve_dr h3) ?_
    cases rs with
    | nil =>
      dsimp only
      split
      · exact h3
      · refine iteV h3 ?_
        split
        · trivial
        · trivial
    | cons r rs =>
      dsimp only
      split
      · exact hp _ h3
      · split
        · trivial
        · rename_i he2; exact hp _ (run_ok h3 he2)
        · rename_i he2; have h5 := run_ok h3 he2; exact h5
        · rename_i he2; have h5 := run_ok h3 he2; exact hp _ h5
theorem ask_drV {n : Nat} {p : Program} {m : Machine} (h : n ≤ m.world.drawn) : drV n (ask p m) := by
  unfold ask
  refine iteV ?_ (askOn_dr h)
  split
  · trivial
  · rename_i he
    have h3 := run_ok h he
    have h4 := look_dr (p := p) (gs := m.gs) (rest := m.rest) h3
    split
    · rename_i he2
      rw [he2] at h4
      exact askOn_dr h4
    · exact h4
  · rename_i he; exact askOn_dr (run_ok h he)
theorem move_dr {n : Nat} {p : Program} {m : Machine} (h : n ≤ m.world.drawn) : drV n (move p m) := by
  unfold move
  split
  · exact iteV h trivial
  · split
    · exact iteV h (ask_drV h)
    · exact ask_drV h
theorem step_dr {n : Nat} {p : Program} {m : Machine} (h : n ≤ m.world.drawn) : drM n (step p m) := by
  have h2 := move_dr (p := p) h
  unfold step stepT
  split
  · rename_i he; rw [he] at h2; exact runT_dr h2
  · rename_i he; rw [he] at h2; exact h2
theorem runN_dr {n : Nat} {p : Program} : ∀ (k : Nat) {m m' : Machine}, n ≤ m.world.drawn → runN p k m = .next m' → n ≤ m'.world.drawn
  | 0, m, m', h, he => by simp only [runN, Stepped.next.injEq] at he; subst he; exact h
  | k + 1, m, m', h, he => by
    have h2 := step_dr (p := p) h
    simp only [runN] at he
    split at he
    · rename_i hs; rw [hs] at h2; exact runN_dr k h2 he
    · rename_i hs; rw [he] at h2; exact h2
/-- The numbers drawn only grow. -/
theorem calls_dr {P : Program} {f : FuncId} {args : Array Value} {w : World} {R : Ending → World → Prop} (h : Calls P f args w R) :
    Calls P f args w fun e w' => R e w' ∧ ((∃ v, e = .returned v) → w.drawn ≤ w'.drawn) := fun cs => by
  obtain ⟨e, w', fr, h1, h2, h3, h4⟩ := h cs
  refine ⟨e, w', fr, ⟨h1, ?_⟩, h2, h3, h4⟩
  rintro ⟨v, rfl⟩
  obtain ⟨k, hk⟩ := h2
  exact runN_dr k (n := w.drawn) (Nat.le_refl _) hk
end Go.Proofs.YtlbiooppadlolaaGreatDoor.Dr
end
section
namespace Go.Proofs.YtlbiooppadlolaaGreatDoor.Ab
open Go Go.Sort

def plainV : D → Value
  | .bool b => .bool b
  | .int k n => .int k n
  | .str s => .string ⟨s.toArray⟩
  | .raw v => v
  | _ => undef
def D.scalar : D → Bool
  | .bool _ | .int _ _ | .str _ => true
  | _ => false
theorem rep_plain {Pr : Nat → Nat → Prop} {w : World} {x : D} {v : Value} (hx : x.scalar = true) (h : RepD Pr w x v) : v = plainV x := by
  cases h <;> first | rfl | (simp [D.scalar] at hx)
theorem plain_rep {Pr : Nat → Nat → Prop} {w : World} {x : D} (hx : x.scalar = true) : RepD Pr w x (plainV x) := by
  cases x <;> first | (simp [D.scalar] at hx; done) | constructor
theorem plain_one {x : D} (hx : x.scalar = true) : (plainV x).oneCell' = true := by
  cases x <;> first | (simp [D.scalar] at hx; done) | rfl

/-- Rows of plain data: how many cells, and what lies in them. -/
structure Pl {α : Type} (f : α → D) (s : Nat) : Prop where
  len : ∀ x, (f x).cells.length = s
  sc : ∀ x, ∀ c ∈ (f x).cells, c.scalar = true
def encP {α : Type} (f : α → D) (x : α) : List Value := (f x).cells.map plainV

section
variable {α : Type} {f : α → D} {s : Nat}
theorem Pl.one (hp : Pl f s) (x : α) : ∀ v ∈ encP f x, v.oneCell' = true := fun v hv => by
  simp only [encP, List.mem_map] at hv
  obtain ⟨c, hc, rfl⟩ := hv
  exact plain_one (hp.sc x c hc)
theorem flat_getP (hs : ∀ x, (f x).cells.length = s) : ∀ {l : List α} {k : Nat} {x : D}, (D.flat (l.map f))[k]? = some x → ∃ y, l[k / s]? = some y ∧ (f y).cells[k % s]? = some x
  | [], k, x, h => by simp [D.flat] at h
  | y :: l, k, x, h => by
    rw [List.map_cons, flat_cons, List.getElem?_append, hs] at h
    split at h
    · rename_i hk
      exact ⟨y, by rw [Nat.div_eq_of_lt hk]; rfl, by rw [Nat.mod_eq_of_lt hk]; exact h⟩
    · rename_i hk
      obtain ⟨z, h1, h2⟩ := flat_getP hs h
      have h0 : 0 < s := by
        rcases Nat.eq_zero_or_pos s with h0 | h0
        · subst h0
          have := (List.getElem?_eq_some_iff.1 h2).1
          rw [hs] at this; omega
        · exact h0
      have e1 : k / s = (k - s) / s + 1 := by rw [← Nat.sub_add_cancel (show s ≤ k by omega), Nat.add_div_right _ h0]; simp
      have e2 : k % s = (k - s) % s := by rw [← Nat.sub_add_cancel (show s ≤ k by omega), Nat.add_mod_right]; simp
      exact ⟨z, by rw [e1]; exact h1, by rw [e2]; exact h2⟩
theorem flatP_len (hs : ∀ x, (f x).cells.length = s) (l : List α) : (D.flat (l.map f)).length = l.length * s := by
  induction l with
  | nil => simp [D.flat]
  | cons y l ih => rw [List.map_cons, flat_cons, List.length_append, ih, hs]; simp [Nat.add_mul, Nat.add_comm]
theorem flatK_at [Inhabited α] (hp : Pl f s) {l : List α} {k : Nat} {x : D} (h : (D.flat (l.map f))[k]? = some x) : (flatK (encP f) s l.toArray)[k]? = some (plainV x) ∧ x.scalar = true := by
  have hk : k < l.length * s := by have := (List.getElem?_eq_some_iff.1 h).1; rwa [flatP_len hp.len] at this
  obtain ⟨y, h1, h2⟩ := flat_getP hp.len h
  have hk2 : k < (flatK (encP f) s l.toArray).size := by simpa using hk
  refine ⟨?_, hp.sc y x (List.mem_of_getElem? h2)⟩
  have h3 := get_flatK (encP f) s l.toArray k (by simpa using hk)
  rw [getElem!_pos (flatK (encP f) s l.toArray) k hk2] at h3
  rw [Array.getElem?_eq_getElem hk2, h3]
  have h4 : l.toArray[k / s]! = y := by
    obtain ⟨q1, q2⟩ := List.getElem?_eq_some_iff.1 h1
    rw [getElem!_pos l.toArray (k / s) (by simpa using q1)]; simpa using q2
  obtain ⟨q1, q2⟩ := List.getElem?_eq_some_iff.1 h2
  rw [h4]
  have h5 : (encP f y)[k % s]! = plainV x := by
    have : k % s < (encP f y).length := by simpa [encP] using q1
    rw [getElem!_pos (encP f y) (k % s) this]; simp [encP, q2]
  rw [h5]

/-- A world in which a list holds other elements. -/
theorem WOK.putL [Inhabited α] {g : G} {w : World} {H : List HE} {id b cap : Nat} {l l' : List α} {e : TypeId} (hp : Pl f s) (hw : WOK g w H) (hH : H[id]? = some (.lst (l.map f) e s)) (ht : g.τ id = some (0, some ⟨b, 0, none⟩, cap)) (h0 : 0 < cap) (hl : l'.length = l.length) (n : Nat) :
    WOK g (putRowK (encP f) s (Sort.ahead w n) b 0 l'.toArray) (H.set id (.lst (l'.map f) e s)) ∧ Evo g w g (putRowK (encP f) s (Sort.ahead w n) b 0 l'.toArray) := by
  obtain ⟨a1, cap1, f1, f2, f3, f4⟩ := hw.lst id _ e s hH
  rw [ht] at f1; injection f1 with f1; injection f1 with _ f1; injection f1 with f1 f1'
  subst f1; subst f1'
  obtain ⟨b0, arr, q1, q0, q2, q3, q4, q5⟩ := f4 h0
  injection q1 with q1; injection q1 with q1
  subst q1
  have hll : l'.length * s ≤ cap * s := Nat.mul_le_mul_right s (by rw [List.length_map] at f2; omega)
  refine hw.storeLst (arr' := putCells (fun v : Value => v) 0 (flatK (encP f) s l'.toArray) arr) hH ht h0 q0 ⟨rfl, rfl, rfl⟩ (by simp [putRowK]) ?_ ?_ (by simpa [hl] using f2) (by simp [putCells, q3]) ?_
  · simp only [putRowK, putRow, mapBlock, heap_ahead, Array.getElem?_modify, if_true, q2, Option.map_some, onCells]
    rfl
  · intro b' hb'
    simp only [putRowK, putRow, mapBlock, heap_ahead, Array.getElem?_modify, if_neg (Ne.symm hb')]
  · intro k x v hx hv
    obtain ⟨h1, h2⟩ := flatK_at hp hx
    have hk : k < (flatK (encP f) s l'.toArray).size := (Array.getElem?_eq_some_iff.1 h1).1
    have hka : k < arr.size := by rw [q3]; simp at hk; omega
    simp only [putCells, Array.getElem?_mapIdx, Array.getElem?_eq_getElem hka, Option.map_some, Option.some.injEq, Nat.zero_le, true_and, Nat.zero_add, Nat.sub_zero, if_pos hk] at hv
    rw [getElem!_pos (flatK (encP f) s l'.toArray) k hk, (Array.getElem?_eq_some_iff.1 h1).2] at hv
    have hv' : plainV x = v := hv
    rw [← hv']; exact plain_rep h2

theorem WOK.grown {g : G} {w : World} {H : List HE} (hw : WOK g w H) (os : Array Obj) : WOK g (grow w os) H ∧ Evo g w g (grow w os) :=
  hw.below ⟨rfl, rfl, rfl, by simp [grow], fun k hk => by simp [grow, Array.getElem?_append, hk]⟩

/-- What a function of data does in a world of its own: the world behind it is the world before it, further drawn and grown. -/
theorem Fn.grows {P : Program} {c : FuncId} {ds : List D} {k : IntKind} {r : Int} (h : Fn P c ds (.int k r)) {w : World} (Pr : Nat → Nat → Prop) (hPr : ∀ b o, Pr b o → b < w.heap.size)
    (hkc : ∀ x ∈ KC, (∀ o, o < x.2.size → Pr x.1 o) ∧ ∃ et fr, w.heap[x.1]? = some (.cells x.2 et fr)) {vals : Array Value} (hs : vals.size = ds.length)
    (ha : ∀ (i : Nat) x v, ds[i]? = some x → vals[i]? = some v → RepD Pr w x v) :
    Calls P c vals w fun e w' => e = .returned (.int k r) ∧ ∃ q os', w' = grow (w.drewN q) os' := by
  have hw : WOK ⟨fun _ => none, fun _ => none, fun _ _ => False, fun _ => False, Pr⟩ w [] := by
    refine ⟨hPr, fun b h => h.elim, ?_, ?_, ?_, ?_, ?_, ?_, fun _ _ => ⟨rfl, rfl, fun _ h => h⟩, fun x hx => ⟨fun h => h, (hkc x hx).1, (hkc x hx).2⟩⟩ <;> (intros; simp_all)
  refine (Dr.calls_dr (h _ w vals hw (by simpa using hs) (fun i x v hx hv => ?_))).mono ?_
  · simp only [List.getElem?_map, Option.map_eq_some_iff] at hx
    obtain ⟨d, hd, rfl⟩ := hx
    exact .d (ha i d v hd hv)
  · rintro e w' ⟨⟨rv, res, g', H', rfl, h2, h3, h4, h5⟩, h6⟩
    subst h5
    have h7 := h6 ⟨rv, rfl⟩
    cases h4 with
    | d h8 =>
      cases h8
      refine ⟨rfl, w'.drawn - w.drawn, w'.heap.extract w.heap.size w'.heap.size, ?_⟩
      have hheap : w'.heap = w.heap ++ w'.heap.extract w.heap.size w'.heap.size := by
        apply Array.ext_getElem?
        intro i
        by_cases hi : i < w.heap.size
        · rw [Array.getElem?_append_left hi]; exact h3.keep i hi (fun h => h)
        · rw [Array.getElem?_append_right (by omega), Array.getElem?_extract]
          by_cases hi2 : i < w'.heap.size
          · rw [if_pos (by omega)]; congr 1; omega
          · rw [if_neg (by omega), Array.getElem?_eq_none (by omega)]
      obtain ⟨s1, s2, s3⟩ := h3.same
      obtain ⟨h', t', d', o', u'⟩ := w'
      obtain ⟨h0, t0, d0, o0, u0⟩ := w
      simp only at s1 s2 s3 h7 hheap
      subst s1; subst s2; subst s3
      simp only [grow, World.drewN, World.mk.injEq, and_true, true_and]
      exact ⟨hheap, by omega⟩

/-- Sorted by insertion. -/
def insS {α : Type} (lt : α → α → Bool) (x : α) : List α → List α
  | [] => [x]
  | y :: l => if lt y x then y :: insS lt x l else x :: y :: l
def isort {α : Type} (lt : α → α → Bool) : List α → List α
  | [] => []
  | x :: l => insS lt x (isort lt l)
theorem insS_perm {α : Type} (lt : α → α → Bool) (x : α) : ∀ l : List α, (insS lt x l).Perm (x :: l)
  | [] => .refl _
  | y :: l => by
    simp only [insS]
    split
    · exact ((insS_perm lt x l).cons y).trans (.swap x y l)
    · exact .refl _
theorem isort_perm {α : Type} (lt : α → α → Bool) : ∀ l : List α, (isort lt l).Perm l
  | [] => .refl _
  | x :: l => (insS_perm lt x _).trans ((isort_perm lt l).cons x)
theorem isort_len {α : Type} (lt : α → α → Bool) (l : List α) : (isort lt l).length = l.length := (isort_perm lt l).length_eq
theorem insS_sorted {α : Type} {lt : α → α → Bool} (hO : SWO lt) (x : α) : ∀ {l : List α}, l.Pairwise (fun a b => (!lt b a) = true) → (insS lt x l).Pairwise (fun a b => (!lt b a) = true)
  | [], _ => by simp [insS]
  | y :: l, h => by
    obtain ⟨h1, h2⟩ := List.pairwise_cons.1 h
    simp only [insS]
    split
    · rename_i hyx
      refine List.pairwise_cons.2 ⟨fun z hz => ?_, insS_sorted hO x h2⟩
      rcases List.mem_cons.1 ((insS_perm lt x l).mem_iff.1 hz) with rfl | hz
      · cases hzy : lt z y with
        | false => rfl
        | true => have := hO.trans _ _ _ hyx hzy; rw [hO.irrefl] at this; cases this
      · exact h1 z hz
    · rename_i hyx
      have hyx : lt y x = false := by simpa using hyx
      refine List.pairwise_cons.2 ⟨fun z hz => ?_, h⟩
      rcases List.mem_cons.1 hz with rfl | hz
      · simp [hyx]
      · have h3 := h1 z hz
        simp only [Bool.not_eq_true'] at h3 ⊢
        exact hO.ntrans _ _ _ h3 hyx
theorem isort_sorted {α : Type} {lt : α → α → Bool} (hO : SWO lt) : ∀ l : List α, (isort lt l).Pairwise (fun a b => (!lt b a) = true)
  | [] => .nil
  | x :: l => insS_sorted hO x (isort_sorted hO l)
theorem merge_isort {α : Type} {lt : α → α → Bool} (hO : SWO lt) (hT : ∀ x y, lt x y = false → lt y x = false → x = y) (l : List α) : (l.mergeSort fun x y => !lt y x) = isort lt l := by
  refine List.Perm.eq_of_pairwise (le := fun x y => (!lt y x) = true) ?_ ?_ (isort_sorted hO l) ((List.mergeSort_perm _ _).trans (isort_perm lt l).symm)
  · intro x y _ _ h1 h2
    simp only [Bool.not_eq_true'] at h1 h2
    exact hT x y h2 h1
  · refine List.pairwise_mergeSort ?_ ?_ l
    · intro x y z h1 h2
      simp only [Bool.not_eq_true'] at h1 h2 ⊢
      exact hO.ntrans _ _ _ h2 h1
    · intro x y
      cases h1 : lt y x with
      | false => simp
      | true =>
        cases h2 : lt x y with
        | false => simp
        | true => have := hO.trans _ _ _ h1 h2; rw [hO.irrefl] at this; cases this

/-- What the library says of its sort with a function, at this program. -/
structure SortsF [Inhabited α] (P : Program) (fs c : FuncId) (enc : α → List Value) (s : Nat) (cf : α → α → Int) : Prop where
  nil : ∀ p cap w, Calls P fs #[.slice p 0 cap, .func (.func c) #[] #[]] w fun e w' => e = .returned (.tuple #[]) ∧ w' = w
  row : ∀ b cap (d : Array α) w, CmpLays P c #[] enc s cf b 0 d.size w → HoldsK enc s w b 0 d → b < w.heap.size → d.size < 4611686018427387904 →
    Calls P fs #[.slice (some ⟨b, 0, none⟩) d.size cap, .func (.func c) #[] #[]] w fun e w' => e = .returned (.tuple #[]) ∧ ∃ n os, w' = sortWorldK enc s w b 0 n (d.toList.mergeSort fun x y => !(ltOf cf) y x).toArray os

/-- A list in the heap: its memory. -/
theorem WOK.lstAt [Inhabited α] {g : G} {w : World} {H : List HE} {id : Nat} {l : List α} {e : TypeId} {v : Value} (hp : Pl f s) (hw : WOK g w H) (hH : H[id]? = some (.lst (l.map f) e s)) (hr : Rep g w (.hs id 0 l.length s) v) :
    ∃ a cap, v = .slice a l.length cap ∧ (l ≠ [] → ∃ b, a = some ⟨b, 0, none⟩ ∧ g.τ id = some (0, some ⟨b, 0, none⟩, cap) ∧ 0 < cap ∧ (∀ o, ¬ g.Pr b o) ∧ g.X b ∧ HoldsK (encP f) s w b 0 l.toArray) := by
  obtain ⟨a1, cap1, f1, f2, f3, f4⟩ := hw.lst id _ e s hH
  cases hr with
  | hs h1 h2 =>
    rw [f1] at h1; injection h1 with h1; injection h1 with h1 h3; injection h3 with h3 h4
    subst h1; subst h3; subst h4
    obtain ⟨r1, r2, r3, r4⟩ := hs0 (h2 rfl)
    subst r1; subst r2; subst r3
    refine ⟨_, _, rfl, fun hne => ?_⟩
    have hpos : 0 < l.length := List.length_pos_iff.2 hne
    have hcap := Nat.lt_of_lt_of_le hpos r4
    obtain ⟨b0, arr, q1, q0, q2, q3, q4, q5⟩ := f4 hcap
    subst q1
    refine ⟨b0, rfl, f1, hcap, q4, hw.blk id _ b0 hH (by simp [G.blk, f1, hcap]), fun j hj => ?_⟩
    have hj' : j < l.length * s := by simpa using hj
    have hx : ∃ x, (D.flat (l.map f))[j]? = some x := by
      have : j < (D.flat (l.map f)).length := by rw [flatP_len hp.len]; exact hj'
      exact ⟨_, List.getElem?_eq_getElem this⟩
    obtain ⟨x, hx⟩ := hx
    obtain ⟨h5, h6⟩ := flatK_at hp hx
    have hja : j < arr.size := by
      rw [q3]; rw [List.length_map] at f2
      exact Nat.lt_of_lt_of_le hj' (Nat.mul_le_mul_right s f2)
    have h7 := rep_plain h6 (q5 j x arr[j] hx (Array.getElem?_eq_getElem hja))
    rw [getElem!_pos (flatK (encP f) s l.toArray) j hj]
    have h8 : (flatK (encP f) s l.toArray)[j] = plainV x := (Array.getElem?_eq_some_iff.1 h5).2
    rw [h8, ← h7]
    have h9 : w.cell? ⟨b0, 0 + j, none⟩ = some arr[j] := by simp [World.cell?, q2, hja]
    exact ⟨h9, by simp [World.frozen?, q2]⟩

end
end Go.Proofs.YtlbiooppadlolaaGreatDoor.Ab
end
section
namespace Go.Proofs.YtlbiooppadlolaaGreatDoor.Ab
open Go Go.Sort

section
variable {α : Type} [Inhabited α] {f : α → D} {enc1 : α → Value}
theorem flat1 (he : ∀ x, encP f x = [enc1 x]) (l : List α) (k : Nat) (h : k < l.length) : (flatK (encP f) 1 l.toArray)[k]! = enc1 (l.toArray[k]!) := by
  rw [get_flatK _ _ _ _ (by simpa using h), Nat.div_one, Nat.mod_one, he]; rfl
theorem putRow1 (he : ∀ x, encP f x = [enc1 x]) (w : World) (b : Nat) (l : List α) : putRowK (encP f) 1 w b 0 l.toArray = putRow enc1 w b 0 l.toArray := by
  unfold putRowK putRow
  congr 1
  funext c
  unfold putCells
  apply Array.ext_getElem?
  intro k
  simp only [Array.getElem?_mapIdx, size_flatK, Nat.mul_one, Nat.zero_add, Nat.zero_le, true_and, Nat.sub_zero]
  cases c[k]? with
  | none => rfl
  | some x =>
    simp only [Option.map_some]
    by_cases hk : k < l.toArray.size
    · rw [if_pos hk, if_pos hk, flat1 he l k (by simpa using hk)]; rfl
    · rw [if_neg hk, if_neg hk]
theorem holds1 (he : ∀ x, encP f x = [enc1 x]) {w : World} {b : Nat} {l : List α} (h : HoldsK (encP f) 1 w b 0 l.toArray) : Holds enc1 w b 0 l.toArray := fun j hj => by
  have h1 := h j (by simpa using hj)
  rw [flat1 he l j (by simpa using hj)] at h1
  exact h1
/-- What the library says of its sort, at this program. -/
structure Sorts1 (P : Program) (fs : FuncId) (enc1 : α → Value) (lt : α → α → Bool) : Prop where
  nil : ∀ p cap w, Calls P fs #[.slice p 0 cap] w fun e w' => e = .returned (.tuple #[]) ∧ w' = w
  row : ∀ b cap (l : List α) w, Holds enc1 w b 0 l.toArray → b < w.heap.size → l.length < 4611686018427387904 →
    Calls P fs #[.slice (some ⟨b, 0, none⟩) l.length cap] w fun e w' => e = .returned (.tuple #[]) ∧ ∃ n os, w' = grow (putRow enc1 (Sort.ahead w n) b 0 (l.mergeSort fun x y => !lt y x).toArray) os
theorem ACall.sort1 {P : Program} {fs : FuncId} {lt : α → α → Bool} {e : TypeId} {l : List α} (hS : Sorts1 P fs enc1 lt) (hp : Pl f 1) (he : ∀ x, encP f x = [enc1 x]) (hO : SWO lt) (hT : ∀ x y, lt x y = false → lt y x = false → x = y) (hlen : l.length < 4611686018427387904) :
    ACall P fs [.hs 0 0 l.length 1] [.lst (l.map f) e 1] fun r H' => r = .tup [] ∧ H' = [.lst ((isort lt l).map f) e 1] := by
  intro g w vals hw hs ha
  obtain ⟨v0, rfl⟩ : ∃ v0, vals = #[v0] := by
    obtain ⟨vs⟩ := vals
    match vs, hs with
    | [a], _ => exact ⟨a, rfl⟩
  have h0 := ha 0 _ v0 rfl rfl
  obtain ⟨a, cap, rfl, hne⟩ := hw.lstAt hp rfl h0
  by_cases hl : l = []
  · subst hl
    refine (hS.nil a cap w).mono ?_
    rintro e' w' ⟨rfl, rfl⟩
    exact ⟨_, .tup [], g, _, rfl, hw, Evo.refl g w', .tup rfl (by simp), rfl, rfl⟩
  · obtain ⟨b, rfl, hτ, hcap, hpr, hX, hH⟩ := hne hl
    refine (hS.row b cap l w (holds1 he hH) (hw.xs b hX) hlen).mono ?_
    rintro e' w' ⟨rfl, n, os, rfl⟩
    obtain ⟨w1, w2⟩ := hw.putL (id := 0) (l' := isort lt l) hp rfl hτ hcap (isort_len _ l) n
    obtain ⟨w3, w4⟩ := w1.grown os
    rw [merge_isort hO hT, ← putRow1 he]
    exact ⟨_, .tup [], g, _, rfl, w3, w2.trans w4, .tup rfl (by simp), rfl, rfl⟩
end
def intLt (x y : Int) : Bool := decide (x < y)
theorem intLt_swo : SWO intLt where
  irrefl x := by simp [intLt]
  trans x y z h1 h2 := by simp [intLt] at *; omega
  ntrans x y z h1 h2 := by simp [intLt] at *; omega
theorem intLt_total (x y : Int) (h1 : intLt x y = false) (h2 : intLt y x = false) : x = y := by simp [intLt] at *; omega
theorem ACall.sort_int {P : Program} {fs : FuncId} {e : TypeId} {l : List Int} (hS : Sorts1 P fs (Value.int .i64) intLt) (hlen : l.length < 4611686018427387904) :
    ACall P fs [.hs 0 0 l.length 1] [.lst (l.map D.i) e 1] fun r H' => r = .tup [] ∧ H' = [.lst ((isort intLt l).map D.i) e 1] :=
  ACall.sort1 hS ⟨fun _ => rfl, fun x c hc => by simp [D.cells] at hc; subst hc; rfl⟩ (fun _ => rfl) intLt_swo intLt_total hlen
end Go.Proofs.YtlbiooppadlolaaGreatDoor.Ab
end
section
namespace Go.Proofs.YtlbiooppadlolaaGreatDoor.Ab
open Go Go.RowKit

/-- What the library says of its Grow at nil, at this program. -/
structure Grows (P : Program) (fs : FuncId) (e : TypeId) (s bytes : Nat) : Prop where
  zero : ∀ w, Calls P fs #[.slice none 0 0, .int .i64 0] w fun r w' => r = .returned (.slice none 0 0) ∧ w' = w
  more : ∀ (n : Nat) w, 0 < n → n * bytes ≤ 140737488355328 → n ≤ 4611686018427387904 → Calls P fs #[.slice none 0 0, .int .i64 n] w fun r w' =>
    ∃ C arr, r = .returned (.slice (some ⟨w.heap.size, 0, none⟩) 0 C) ∧ w' = w.drew.alloc (.cells arr e) ∧ arr.size = C * s ∧ C ≤ 9223372036854775807
theorem ACall.grow {P : Program} {fs : FuncId} {e : TypeId} {s bytes : Nat} {H : List HE} {n : Int} (hG : Grows P fs e s bytes) (h0 : 0 ≤ n) (h1 : n * bytes ≤ 140737488355328) (h2 : n ≤ 4611686018427387904) :
    ACall P fs [.nil, .d (.int .i64 n)] H fun r H' => r = .hs H.length 0 0 s ∧ H' = H ++ [.lst [] e s] := by
  intro g w vals hw hs ha
  obtain ⟨v0, v1, rfl⟩ : ∃ v0 v1, vals = #[v0, v1] := by
    obtain ⟨vs⟩ := vals
    match vs, hs with
    | [a, b], _ => exact ⟨a, b, rfl⟩
  have r0 := ha 0 _ v0 rfl rfl
  have r1 := ha 1 _ v1 rfl rfl
  cases r0
  cases r1 with
  | d r1 =>
    cases r1
    obtain ⟨m, rfl⟩ : ∃ m : Nat, n = m := ⟨n.toNat, by omega⟩
    by_cases hm : m = 0
    · subst hm
      refine (hG.zero w).mono ?_
      rintro r w' ⟨rfl, rfl⟩
      obtain ⟨g', w1, w2, w3⟩ := hw.lstize (s := s) (e := e) (ad := none)
      exact ⟨_, _, g', _, rfl, w1, w2, .hs w3 (fun _ => ⟨rfl, rfl, rfl, Nat.le_refl _⟩), rfl, rfl⟩
    · refine (hG.more m w (by omega) (by rw [← Int.natCast_mul] at h1; omega) (by omega)).mono ?_
      rintro r w' ⟨C, arr, rfl, rfl, h3, h4⟩
      obtain ⟨g', w1, w2, w3⟩ := hw.addFree.newLst (w' := w.drew.alloc (.cells arr e)) (id := H.length) (l := []) (s := s) (cap := C) (arr := arr) (et := e) (by simp) ⟨rfl, rfl, rfl⟩ rfl (Nat.zero_le _) h4 h3 (fun k x v hx _ => by simp [D.flat] at hx)
      rw [set_last] at w1
      exact ⟨_, _, g', _, rfl, w1, w2, .hs w3 (fun _ => ⟨rfl, rfl, rfl, by omega⟩), rfl, rfl⟩
section
variable {P : Program} {ρ : Operand → V} {H : List HE} {ty : TypeId}
end

/-- Arguments as they stand, or taken for data. -/
inductive ArgsW (ρ : Operand → V) : List Operand → List V → Prop
  | nil : ArgsW ρ [] []
  | i {x : Operand} {xs : List Operand} {v : V} {vs : List V} : Is (ρ x) v → ArgsW ρ xs vs → ArgsW ρ (x :: xs) (v :: vs)
  | a {x : Operand} {xs : List Operand} {d : D} {vs : List V} : As (ρ x) d → ArgsW ρ xs vs → ArgsW ρ (x :: xs) (.d d :: vs)
theorem ArgsW.get {ρ : Operand → V} {xs : List Operand} {vs : List V} (h : ArgsW ρ xs vs) : xs.length = vs.length ∧ ∀ (i : Nat) v, vs[i]? = some v → ∃ x, xs[i]? = some x ∧ ∀ {g w r}, Rep g w (ρ x) r → Rep g w v r := by
  induction h with
  | nil => exact ⟨rfl, fun i v h => by simp at h⟩
  | i hx _ ih =>
    refine ⟨by simp [ih.1], fun i v hv => ?_⟩
    cases i with
    | zero => simp only [List.getElem?_cons_zero, Option.some.injEq] at hv; subst hv; exact ⟨_, rfl, fun h => hx.rep h⟩
    | succ i => exact ih.2 i v (by simpa using hv)
  | a hx _ ih =>
    refine ⟨by simp [ih.1], fun i v hv => ?_⟩
    cases i with
    | zero => simp only [List.getElem?_cons_zero, Option.some.injEq] at hv; subst hv; exact ⟨_, rfl, fun h => .d (hx.rep h)⟩
    | succ i => exact ih.2 i v (by simpa using hv)
section
variable {P : Program} {ρ : Operand → V} {H : List HE} {ty : TypeId}
end

end Go.Proofs.YtlbiooppadlolaaGreatDoor.Ab
end
section
namespace Go.Proofs.YtlbiooppadlolaaGreatDoor.Ab
open Go Go.RowKit

section
variable {P : Program} {ρ : Operand → V} {H : List HE} {ty : TypeId}
end

section
variable {F : FC} {ρ : Operand → V} {H : List HE} {ty : TypeId}
end
end Go.Proofs.YtlbiooppadlolaaGreatDoor.Ab
end
section
namespace Go.Proofs.YtlbiooppadlolaaGreatDoor.Ab
open Go Go.RowKit

/-- A function that takes a list over and hands one back: it has the number of a free entry. -/
theorem FnT.atR {P : Program} {f : FuncId} {ds : List D} {l l2 : List D} {e e2 : TypeId} {s s2 len len2 id res : Nat} {H : List HE} (h : ACall P f (.hs 0 0 len s :: ds.map .d) [.lst l e s] fun r H' => r = resOf [.hs 1 0 len2 s2] ∧ H' = [.dead, .lst l2 e2 s2])
    (hid : H[id]? = some (.lst l e s)) (hfr : H[res]? = some .free) :
    ACall P f (.hs id 0 len s :: ds.map .d) H fun r H' => r = .hs res 0 len2 s2 ∧ H' = (H.set id .dead).set res (.lst l2 e2 s2) := by
  intro g w vals hw hs ha
  let g0 : G := { σ := fun i => if i = 0 then g.σ id else none, τ := fun i => if i = 0 then g.τ id else none, υ := fun _ _ => False, X := fun b => g.blk id (.lst l e s) b, Pr := g.Pr }
  have hgX : ∀ b, g0.X b → g.X b := fun b hb => hw.blk id _ b hid hb
  have hz : ∀ {i : Nat} {x : HE}, [HE.lst l e s][i]? = some x → i = 0 ∧ x = .lst l e s := fun {i x} hx => by
    rcases i with _ | i
    · exact ⟨rfl, by simpa using hx.symm⟩
    · simp at hx
  have hw0 : WOK g0 w [.lst l e s] := by
    refine ⟨hw.pr, fun b hb => hw.xs b (hgX b hb), fun i x b hx hb => ?_, fun i i' x x' b hx hx' _ _ => ?_, fun i c hx => ?_, fun i n e1 s1 hx => ?_, fun i l1 e1 s1 hx => ?_, fun i x hx => ?_, fun i hi => ?_, fun x hx => ⟨fun hc => (hw.kc x hx).1 (hgX _ hc), (hw.kc x hx).2⟩⟩
    · obtain ⟨rfl, rfl⟩ := hz hx
      simpa [G.blk, g0] using hb
    · rw [(hz hx).1, (hz hx').1]
    · cases (hz hx).2
    · cases (hz hx).2
    · obtain ⟨rfl, hq⟩ := hz hx
      injection hq with q1 q2 q3
      subst q1; subst q2; subst q3
      obtain ⟨a, cap, k1, k2, k3, k4⟩ := hw.lst id _ _ _ hid
      refine ⟨a, cap, by simpa [g0] using k1, k2, k3, fun hc => ?_⟩
      obtain ⟨b, arr, p1, p2, p3⟩ := k4 hc
      exact ⟨b, arr, p1, by simpa [g0] using p2, p3⟩
    · cases (hz hx).2
    · have : i ≠ 0 := by
        rcases hi with hi | hi
        · intro h0; subst h0; simp at hi
        · simp at hi; omega
      simp [g0, this]
  have ha0 : ∀ (i : Nat) x v, (V.hs 0 0 len s :: ds.map V.d)[i]? = some x → vals[i]? = some v → Rep g0 w x v := by
    intro i x v hx hv
    rcases i with _ | i
    · have := ha 0 _ v rfl hv
      simp only [List.getElem?_cons_zero, Option.some.injEq] at hx
      subst hx
      cases this with
      | hs ht heq => exact .hs (by simpa [g0] using ht) heq
    · have := ha (i + 1) x v (by simpa using hx) hv
      simp only [List.getElem?_cons_succ, List.getElem?_map, Option.map_eq_some_iff] at hx
      obtain ⟨y, _, rfl⟩ := hx
      cases this with
      | d hd => exact .d hd
  refine (h g0 w vals hw0 (by simpa using hs) ha0).mono ?_
  rintro e' w' ⟨rv, r, g', H', rfl, hw', he, hr, rfl, rfl⟩
  have keep : ∀ b, b < w.heap.size → ¬ g0.X b → w'.heap[b]? = w.heap[b]? := fun b hb hx => he.keep b hb hx
  have hreslt : res < H.length := (List.getElem?_eq_some_iff.1 hfr).1
  have hidlt : id < H.length := (List.getElem?_eq_some_iff.1 hid).1
  have hne : id ≠ res := fun e => by subst e; rw [hfr] at hid; cases hid
  have hget : ∀ (i : Nat) x, ((H.set id .dead).set res (.lst l2 e2 s2))[i]? = some x → (i = res ∧ x = .lst l2 e2 s2) ∨ (i = id ∧ x = .dead) ∨ (i ≠ res ∧ i ≠ id ∧ H[i]? = some x) := by
    intro i x hx
    by_cases hi : i = res
    · subst hi; rw [List.getElem?_set_self (by simpa using hreslt)] at hx; exact .inl ⟨rfl, (Option.some.inj hx).symm⟩
    · rw [List.getElem?_set_ne (Ne.symm hi)] at hx
      by_cases hi2 : i = id
      · subst hi2; rw [List.getElem?_set_self hidlt] at hx; exact .inr (.inl ⟨rfl, (Option.some.inj hx).symm⟩)
      · rw [List.getElem?_set_ne (Ne.symm hi2)] at hx; exact .inr (.inr ⟨hi, hi2, hx⟩)
  obtain ⟨hfσ, hfτ, hfυ⟩ := hw.free res (.inl hfr)
  let g2 : G := { σ := fun i => if i = res then g'.σ 1 else g.σ i, τ := fun i => if i = res then g'.τ 1 else g.τ i, υ := g.υ, X := fun b => g.X b ∨ g'.X b, Pr := g'.Pr }
  have hX' : ∀ b, g'.X b → g0.X b ∨ w.heap.size ≤ b := fun b hb => he.x b hb
  have hold : ∀ b o, g'.Pr b o → b < w.heap.size → ¬ g0.X b → g.Pr b o := by
    intro b o hp hb hx
    rcases he.prn b o hp with h1 | h1 | h1
    · exact h1
    · exact (hx h1).elim
    · omega
  have hτne : ∀ i, i ≠ res → g2.τ i = g.τ i := fun i hi => by simp [g2, hi]
  have hσne : ∀ i, i ≠ res → g2.σ i = g.σ i := fun i hi => by simp [g2, hi]
  have hsep : ∀ (i : Nat) x b, i ≠ id → H[i]? = some x → g.blk i x b → ¬ g0.X b := fun i x b hi hx hb hc => hi (hw.sep i id x _ b hx hid hb hc)
  have hev : Evo g w g2 w' := {
    same := he.same
    size := he.size
    pr := he.pr
    prn := fun b o hp => by
      rcases he.prn b o hp with h1 | h1 | h1
      · exact .inl h1
      · exact .inr (.inl (hgX b h1))
      · exact .inr (.inr h1)
    x := fun b hb => by
      rcases hb with hb | hb
      · exact .inl hb
      · exact (hX' b hb).imp (hgX b) (fun h => h)
    keep := fun b hb hx => keep b hb (fun hc => hx (hgX b hc))
    σ := fun i b h => by
      have hi : i ≠ res := fun e => by subst e; rw [hfσ] at h; cases h
      rw [hσne i hi]; exact h
    τ := fun i m a cap h => by
      have hi : i ≠ res := fun e => by subst e; rw [hfτ] at h; cases h
      exact ⟨m, a, cap, by rw [hτne i hi]; exact h, .inr ⟨rfl, rfl, rfl⟩⟩ }
  have hblk : ∀ (i : Nat) x b, ((H.set id .dead).set res (.lst l2 e2 s2))[i]? = some x → g2.blk i x b →
      (i ≠ res ∧ H[i]? = some x ∧ g.blk i x b ∧ b < w.heap.size ∧ ¬ g0.X b) ∨ (i = res ∧ g'.blk 1 (.lst l2 e2 s2) b ∧ g'.X b) := by
    intro i x b hx hb
    rcases hget i x hx with ⟨rfl, rfl⟩ | ⟨rfl, rfl⟩ | ⟨hi, hi2, h1⟩
    · have : g'.blk 1 (.lst l2 e2 s2) b := by simpa [G.blk, g2] using hb
      exact .inr ⟨rfl, this, hw'.blk 1 _ b (by simp) this⟩
    · simp [G.blk] at hb
    · have : g.blk i x b := by
        cases x <;> simp only [G.blk, hτne i hi, hσne i hi] at hb ⊢ <;> exact hb
      exact .inl ⟨hi, h1, this, hw.xs b (hw.blk i x b h1 this), hsep i x b hi2 h1 this⟩
  have hfar : ∀ b, g'.X b → b < w.heap.size → g0.X b := fun b hb hlt => (hX' b hb).resolve_right (by omega)
  refine ⟨rv, .hs res 0 len2 s2, g2, _, rfl, ⟨hw'.pr, ?_, ?_, ?_, ?_, ?_, ?_, ?_, ?_, hw.kcE hev⟩, hev, ?_, rfl, rfl⟩
  · rintro b (hb | hb)
    · exact Nat.lt_of_lt_of_le (hw.xs b hb) he.size
    · exact hw'.xs b hb
  · intro i x b hx hb
    rcases hblk i x b hx hb with ⟨_, h1, h2, _⟩ | ⟨_, _, h1⟩
    · exact .inl (hw.blk i x b h1 h2)
    · exact .inr h1
  · intro i i' x x' b hx hx' hb hb'
    rcases hblk i x b hx hb with ⟨_, h1, h2, h3, h4⟩ | ⟨h1, h2, h3⟩ <;> rcases hblk i' x' b hx' hb' with ⟨_, k1, k2, k3, k4⟩ | ⟨k1, k2, k3⟩
    · exact hw.sep i i' x x' b h1 k1 h2 k2
    · exact (h4 (hfar b k3 h3)).elim
    · exact (k4 (hfar b h3 k3)).elim
    · omega
  · intro i c hx
    rcases hget i _ hx with ⟨_, h⟩ | ⟨_, h⟩ | ⟨hi, hi2, h⟩
    · cases h
    · cases h
    · obtain ⟨b, arr, et, h1, h2, h3, h4, h5⟩ := hw.row i c h
      have hB : g.blk i (.row c) b := h1
      have hb : b < w.heap.size := hw.xs b (hw.blk i _ b h hB)
      have hx := hsep i _ b hi2 h hB
      exact ⟨b, arr, et, by rw [hσne i hi]; exact h1, (keep b hb hx).trans h2, h3, fun k x v hx hv => (h4 k x v hx hv).mono hev, fun o hp => h5 o (hold b o hp hb hx)⟩
  · intro i n e1 s1 hx
    rcases hget i _ hx with ⟨_, h⟩ | ⟨_, h⟩ | ⟨hi, hi2, h⟩
    · cases h
    · cases h
    · obtain ⟨a, cap, h1, h2, h2', h3⟩ := hw.tok i n e1 s1 h
      refine ⟨a, cap, by rw [hτne i hi]; exact h1, h2, h2', fun hlt => ?_⟩
      obtain ⟨b, arr, u1, u2, u3, u4⟩ := h3 hlt
      have hB : g.blk i (.tok n e1 s1) b := by simp [G.blk, h1, u1, hlt]
      have hb : b < w.heap.size := hw.xs _ (hw.blk i _ b h hB)
      have hx := hsep i _ b hi2 h hB
      exact ⟨b, arr, u1, (keep _ hb hx).trans u2, u3, fun o hp => u4 o (hold _ o hp hb hx)⟩
  · intro i l1 e1 s1 hx
    rcases hget i _ hx with ⟨rfl, h⟩ | ⟨_, h⟩ | ⟨hi, hi2, h⟩
    · injection h with q1 q2 q3
      subst q1; subst q2; subst q3
      obtain ⟨a, cap, k1, k2, k3, k4⟩ := hw'.lst 1 l1 e1 s1 (by simp)
      refine ⟨a, cap, by simpa [g2] using k1, k2, k3, fun hc => ?_⟩
      obtain ⟨b, arr, p1, p2, p3⟩ := k4 hc
      exact ⟨b, arr, p1, by simpa [g2] using p2, p3⟩
    · cases h
    · obtain ⟨a, cap, h1, h2, h2', h3⟩ := hw.lst i l1 e1 s1 h
      refine ⟨a, cap, by rw [hτne i hi]; exact h1, h2, h2', fun hlt => ?_⟩
      obtain ⟨b, arr, u1, u0, u2, u3, u4, u5⟩ := h3 hlt
      have hB : g.blk i (.lst l1 e1 s1) b := by simp [G.blk, h1, u1, hlt]
      have hb : b < w.heap.size := hw.xs _ (hw.blk i _ b h hB)
      have hx := hsep i _ b hi2 h hB
      exact ⟨b, arr, u1, by rw [hσne i hi]; exact u0, (keep _ hb hx).trans u2, u3, fun o hp => u4 o (hold _ o hp hb hx), fun k x v hx hv => (u5 k x v hx hv).mono hev.pr⟩
  · intro i x hx
    rcases hget i _ hx with ⟨_, h⟩ | ⟨_, h⟩ | ⟨hi, hi2, h⟩
    · cases h
    · cases h
    · obtain ⟨b, h1, h2, h3, h4⟩ := hw.ob i x h
      have hB : g.blk i (.ob x) b := .inl h1
      have hb : b < w.heap.size := hw.xs b (hw.blk i _ b h hB)
      have hx := hsep i _ b hi2 h hB
      have hbu : ∀ b', g.υ i b' → b' < w.heap.size := fun b' hu => hw.xs b' (hw.blk i _ b' h (.inr hu))
      have hxu : ∀ b', g.υ i b' → ¬ g0.X b' := fun b' hu => hsep i _ b' hi2 h (.inr hu)
      exact ⟨b, by rw [hσne i hi]; exact h1, x.st hev.w (hτne i hi) rfl (keep b hb hx) (fun b' hu => keep b' (hbu b' hu) (hxu b' hu)) h2, fun o hp => h3 o (hold b o hp hb hx), fun b' o hu hp => h4 b' o hu (hold b' o hp (hbu b' hu) (hxu b' hu))⟩
  · intro i hi
    have : i ≠ res ∧ (H[i]? = some .free ∨ H.length ≤ i) := by
      rcases hi with hi | hi
      · rcases hget i _ hi with ⟨_, h⟩ | ⟨_, h⟩ | ⟨h1, _, h2⟩
        · cases h
        · cases h
        · exact ⟨h1, .inl h2⟩
      · simp at hi; exact ⟨by omega, .inr (by omega)⟩
    rw [hτne i this.1, hσne i this.1]
    exact hw.free i this.2
  · simp only [resOf] at hr
    cases hr with
    | hs ht heq => exact .hs (by simpa [g2] using ht) heq

section
variable {P : Program} {ρ : Operand → V} {H : List HE} {ty : TypeId}
end
end Go.Proofs.YtlbiooppadlolaaGreatDoor.Ab
end
section
namespace Go.Proofs.YtlbiooppadlolaaGreatDoor.Ab
open Go
end Go.Proofs.YtlbiooppadlolaaGreatDoor.Ab
end
section
namespace Go.Proofs.YtlbiooppadlolaaGreatDoor.Ab
open Go Go.RowKit

section
variable {P : Program} {ρ : Operand → V} {H : List HE} {ty : TypeId}
end
end Go.Proofs.YtlbiooppadlolaaGreatDoor.Ab
end
