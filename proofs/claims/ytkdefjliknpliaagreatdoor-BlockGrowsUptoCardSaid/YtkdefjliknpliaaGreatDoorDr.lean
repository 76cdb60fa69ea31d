/- The number of what has been drawn only grows. Conditions: none. -/
import Derived.Calls
import Derived.StepT
namespace Go.Proofs.YtkdefjliknpliaaGreatDoor.Dr
open Go
def rw_ {α : Type} : Result α → World
  | .ok _ w => w
  | .halt _ w => w
theorem ask_dr {α : Type} : ∀ (s : Ask α) (w : World), w.drawn ≤ (w.ask s).2.drawn
  | .done a, w => by simp [World.ask]
  | .ask what range k, w => by
    simp only [World.ask]
    split
    · exact ask_dr _ _
    · exact Nat.le_trans (Nat.le_succ _) (ask_dr (k _) { w with drawn := w.drawn + 1 })
theorem sys_dr (w : World) (c : Sys) : w.drawn ≤ (w.sys c).2.drawn := by
  have h := ask_dr (Kernel.perform c w.os) w
  unfold World.sys
  split
  · exact Nat.le_refl _
  · rename_i r os w' _ he
    rw [he] at h
    exact h
theorem view_dr {p : Program} {w w' : World} {a k : Addr} {u : TypeId} {v : Value} {b : Bool} {l : List Addr} (h : w.viewStore p a u k v b = .ok (w', l)) : w'.drawn = w.drawn := by
  unfold World.viewStore at h
  simp only [bind, Except.bind, pure, Except.pure] at h
  repeat' split at h
  all_goals first | (cases h; done) | (cases h; rfl) | (rename_i h0; cases h0; done)
theorem far_dr {p : Program} {w w' : World} {a : Addr} {v : Value} {b : Bool} {l : List Addr} (h : w.farStore p a v b = .ok (w', l)) : w'.drawn = w.drawn := by
  unfold World.farStore at h
  split at h
  · split at h
    · rename_i he; cases h; exact view_dr he
    · cases h
  · cases h
theorem run_dr {α : Type} (p : Program) : ∀ (s : Sem α) (w : World), w.drawn ≤ (rw_ (s.run p w)).drawn := by
  intro s
  induction s with
  | pure a => intro w; exact Nat.le_refl _
  | load m a k ih =>
    intro w; simp only [Sem.run]; split
    · exact ih _ _
    · split
      · exact ih _ _
      · exact Nat.le_refl _
  | store m a v k ih =>
    intro w
    cases v
    all_goals first
      | exact Nat.le_refl _
      | (simp only [Sem.run]
         split
         · split
           · exact Nat.le_refl _
           · exact ih (w.setCell a _)
         · split
           · rename_i he
             exact Nat.le_trans (Nat.le_of_eq (far_dr he).symm) (ih _)
           · exact Nat.le_refl _)
  | new o k ih => intro w; exact ih w.heap.size { w with heap := w.heap.push o }
  | shape r k ih => intro w; simp only [Sem.run]; exact ih _ _
  | freeze a n k ih => intro w; have := ih (w.freeze a n); simp only [Sem.run]; unfold World.freeze at this ⊢; split <;> simp_all
  | frozen a k ih => intro w; simp only [Sem.run]; exact ih _ _
  | getObj r k ih =>
    intro w; simp only [Sem.run]; split
    · exact Nat.le_refl _
    · exact ih _ _
    · exact Nat.le_refl _
  | setObj r o k ih =>
    intro w; simp only [Sem.run]; split
    · exact Nat.le_refl _
    · exact ih { w with heap := w.heap.setIfInBounds r o }
    · exact Nat.le_refl _
  | choose q k ih =>
    intro w; simp only [Sem.run]; split
    · exact ih _ _
    · exact Nat.le_trans (Nat.le_succ _) (ih _ { w with drawn := w.drawn + 1 })
  | sys c k ih => intro w; simp only [Sem.run]; exact Nat.le_trans (sys_dr w c) (ih _ _)
  | program k ih => intro w; simp only [Sem.run]; exact ih _ _
  | mark m k ih => intro w; simp only [Sem.run]; exact ih _
  | halt h => intro w; exact Nat.le_refl _
theorem run_ok {α : Type} {p : Program} {s : Sem α} {w w' : World} {a : α} {n : Nat} (h : n ≤ w.drawn) (he : s.run p w = .ok a w') : n ≤ w'.drawn := by
  have h2 := run_dr p s w
  rw [he] at h2
  exact Nat.le_trans h h2
theorem run_halt {α : Type} {p : Program} {s : Sem α} {w w' : World} {a : Halt} {n : Nat} (h : n ≤ w.drawn) (he : s.run p w = .halt a w') : n ≤ w'.drawn := by
  have h2 := run_dr p s w
  rw [he] at h2
  exact Nat.le_trans h h2
def drS (n : Nat) : GStep → Prop
  | .go _ w _ | .comm _ _ _ _ w _ | .spawn _ _ w _ | .count _ w _ | .timer _ _ w _ | .alone _ _ w _ | .newcoro _ _ _ w _ | .coroswitch _ _ _ w _ | .collect _ w _ | .watch _ w _ => n ≤ w.drawn
  | .ended .. => True
theorem ite_dr {n : Nat} {c : Prop} [Decidable c] {a b : GStep} (h1 : drS n a) (h2 : drS n b) : drS n (if c then a else b) := by
  by_cases h : c
  · rw [if_pos h]; exact h1
  · rw [if_neg h]; exact h2
theorem after_dr {n : Nat} {es : Array Event} {s : GStep} (h : drS n s) : drS n (s.after es) := by
  cases s <;> exact h
theorem return_dr {n : Nat} {p : Program} {main : Bool} {fr : Frame} {cs : List Frame} {d : Option Dying} {v : Value} {w : World} (h : n ≤ w.drawn) : drS n (doReturn p main fr cs d v w) := by
  unfold doReturn
  repeat' split
  all_goals first | exact h | trivial
theorem endWith_dr {n : Nat} {w : World} {fd : Nat} {t : ByteArray} {o : Outcome} : drS n (endWith w fd t o) := by
  unfold endWith
  repeat' (first | split | trivial)
theorem endThrow_dr {n : Nat} {fr : Frame} {m : String} {w : World} (h : n ≤ w.drawn) : drS n (endThrow fr m w) := h
theorem endPrinting_dr {n : Nat} {p : Program} {fr : Frame} {v : Value} {w : World} (h : n ≤ w.drawn) : drS n (endPrinting p fr v w) := by
  unfold endPrinting
  extract_lets type what
  clear_value what
  cases what with
  | some s => exact h
  | none => trivial
theorem endFatal_dr {n : Nat} {p : Program} {fr : Frame} {cs : List Frame} {d : Option Dying} {m : String} {w : World} (h : n ≤ w.drawn) : drS n (endFatal p fr cs d m w) := by
  unfold endFatal
  extract_lets chain raw shown
  clear_value shown
  split
  · rename_i he; exact run_ok h he
  · trivial
  · trivial
theorem callDeferred_dr {n : Nat} {p : Program} {fr : Frame} {cs : List Frame} {dy : Option Dying} {d : Deferred} {w : World} (h : n ≤ w.drawn) : drS n (callDeferred p fr cs dy d w) := by
  unfold callDeferred
  refine ite_dr trivial ?_
  simp only [Sem.runT_eq]
  refine after_dr ?_
  split
  all_goals first
    | trivial
    | (rename_i he; first | exact run_ok h he | exact run_halt h he | exact endFatal_dr (run_halt h he) | exact endThrow_dr (run_halt h he))
    | (rename_i he; have h3 := run_ok h he; repeat' (first | exact h3 | trivial | split))
    | (rename_i he _; first | exact run_ok h he)
theorem writeOn_dr {n : Nat} {p : Program} {fr : Frame} {d : Dying} {f : Fatal} {w : World} (h : n ≤ w.drawn) : drS n (writeOn p fr d f w) := by
  unfold writeOn
  split
  · trivial
  · simp only [Sem.runT_eq]
    split
    all_goals first | trivial | (rename_i he; injection he with he _; first | exact run_ok h he | exact run_halt h he)
theorem die_dr {n : Nat} {p : Program} {fr : Frame} {d : Dying} {w : World} (h : n ≤ w.drawn) : drS n (die p fr d w) := by
  unfold die
  split
  · exact writeOn_dr h
  · split
    · split
      · exact h
      · exact endWith_dr
    · extract_lets d2
      split
      · exact h
      · split
        · rename_i he; exact run_ok h he
        · trivial
      · simp only [Sem.runT_eq]
        refine after_dr ?_
        split
        all_goals first | trivial | (rename_i he; first | exact run_ok h he | exact endPrinting_dr (run_halt h he))
      · trivial
theorem unwind_dr {n : Nat} {p : Program} {main : Bool} {fr : Frame} {cs : List Frame} {dy : Option Dying} {w : World} (h : n ≤ w.drawn) : drS n (unwind p main fr cs dy w) := by
  unfold unwind
  split
  · simp only [Sem.runT_eq]
    refine after_dr ?_
    split
    · rename_i he; exact run_ok h he
    · trivial
  · exact callDeferred_dr h
  · split
    · trivial
    · split
      · trivial
      · split
        · exact h
        · split
          · split
            · exact h
            · split
              · rename_i he; exact run_ok h he
              · trivial
              · trivial
          · split
            · exact endPrinting_dr h
            · trivial
    · split
      · exact return_dr h
      · simp only [Sem.runT_eq]
        refine after_dr ?_
        split
        · rename_i he; exact return_dr (run_ok h he)
        · trivial
        · trivial
theorem early_dr {n : Nat} {p : Program} {fr : Frame} {cs : List Frame} {dy : Option Dying} {g : Nat} {w : World} (h : n ≤ w.drawn) : drS n (early p fr cs dy g w) := by
  have hn : ∀ w' : World, n ≤ w'.drawn → drS n (match w'.heap[g]? with
    | some (.pending c elem) =>
      .go { frame := fr, callers := cs, status := .running, dying := dy } { w' with heap := w'.heap.setIfInBounds g (.cells c elem) }
    | _ => .ended (.stuck "early: the variable does not wait" (fr.pos p)) w') := fun w' h' => by
    split
    · exact h'
    · trivial
  unfold early
  extract_lets refuse notYet
  refine ite_dr (hn w h) ?_
  split
  · trivial
  · extract_lets there
    refine ite_dr (hn w h) (ite_dr (hn w h) ?_)
    split
    · trivial
    · exact h
    · trivial
    · exact hn w h
    · refine ite_dr h (ite_dr (hn w h) ?_)
      split
      · rename_i he; exact hn _ (run_ok h he)
      · rename_i he; exact run_ok h he
      · trivial
theorem apply_dr {n : Nat} {p : Program} {listen : Bool} {fr : Frame} {cs : List Frame} {dy : Option Dying} {s : Sem Next} {w : World} (h : n ≤ w.drawn) : drS n (stepG.apply p listen fr cs dy s w) := by
  unfold stepG.apply
  have hr : (if listen = true then s.runT p w #[] else (s.run p w, #[])).1 = s.run p w := by cases listen <;> simp [Sem.runT_eq]
  generalize (if listen = true then s.runT p w #[] else (s.run p w, #[])) = q at hr ⊢
  obtain ⟨r, es⟩ := q
  dsimp only at hr ⊢
  subst hr
  refine after_dr ?_
  split
  all_goals first
    | trivial
    | (rename_i he; first | exact run_ok h he | exact run_halt h he | exact endFatal_dr (run_halt h he) | exact endThrow_dr (run_halt h he) | exact early_dr (run_halt h he))
    | (rename_i he; have h3 := run_ok h he; repeat' (first | exact h3 | trivial | split))
    | (rename_i he; have h3 := run_ok h he; refine ite_dr h3 h3)
theorem oper_dr {n : Nat} {p : Program} {listen : Bool} {fr : Frame} {cs : List Frame} {dy : Option Dying} {w : World} (h : n ≤ w.drawn) : drS n (stepG.oper p listen fr cs dy w) := by
  unfold stepG.oper
  split
  · trivial
  · split
    · exact apply_dr h
    · exact apply_dr h
theorem exec_dr {n : Nat} {p : Program} {main listen : Bool} {fr : Frame} {cs : List Frame} {dy : Option Dying} {w : World} (h : n ≤ w.drawn) : drS n (stepG.exec p main listen fr cs dy w) := by
  have hl : ∀ jump : Option Code, drS n (match fr.roundOf with
    | none => if jump matches none | some .ret then GStep.go { frame := { fr with mode := .returning }, callers := cs, status := .running, dying := dy } w else .ended (.stuck "exit, goto: no such block or label" (fr.pos p)) w
    | some l =>
      let (r, es) := (Instr.endRound l jump).runT p w #[]
      GStep.after (seen p fr.fn es) <| match r with
      | .ok v w => doReturn p main fr cs dy v w
      | .halt _ w => .ended (.stuck "range over a function: no such loop" (fr.pos p)) w) := fun jump => by
    split
    · exact ite_dr h trivial
    · simp only [Sem.runT_eq]
      refine after_dr ?_
      split
      · rename_i he; exact return_dr (run_ok h he)
      · trivial
  unfold stepG.exec
  extract_lets go to lost leave
  have hleave : ∀ j, drS n (leave j) := hl
  clear_value leave
  have hto : ∀ k, drS n (to k) := fun _ => h
  have hgo : ∀ f w', n ≤ w'.drawn → drS n (go f w') := fun _ _ h => h
  split
  all_goals first
    | exact hleave _
    | exact hto _
    | trivial
    | exact apply_dr h
    | exact ite_dr (oper_dr h) h
    | skip
  · split
    · exact hto _
    · trivial
  · cases exitTo _ _ with
    | none => exact hleave _
    | some k => exact hto k
  · cases gotoIn _ _ with
    | none => exact hleave _
    | some k => exact hto k
  · simp only [Sem.runT_eq]
    refine after_dr ?_
    split
    · rename_i he; exact apply_dr (run_ok h he)
    · trivial
  · simp only [Sem.runT_eq]
    refine after_dr ?_
    split
    · rename_i he; exact hgo _ _ (run_ok h he)
    · rename_i he; exact hgo _ _ (run_halt h he)
    · trivial
  · cases Extern.next _ with
    | none => trivial
    | some e => exact apply_dr h
  · refine ite_dr (hto _) ?_
    split
    · rename_i he; exact hgo _ _ (run_ok h he)
    · trivial
theorem stepG_dr {n : Nat} {p : Program} {main listen : Bool} {g : Goroutine} {w : World} (h : n ≤ w.drawn) : drS n (stepG p main g w listen) := by
  unfold stepG
  obtain ⟨fr, cs, st, dy, off⟩ := g
  dsimp only
  split
  · exact die_dr h
  · exact exec_dr h
  · exact unwind_dr h
/-- A machine's next state. -/
def drM (n : Nat) : Stepped → Prop
  | .next m => n ≤ m.world.drawn
  | .ended .. => True
theorem iteM {n : Nat} {c : Prop} [Decidable c] {a b : Stepped} (h1 : drM n a) (h2 : drM n b) : drM n (if c then a else b) := by
  by_cases h : c
  · rw [if_pos h]; exact h1
  · rw [if_neg h]; exact h2
theorem look_dr {n : Nat} {p : Program} {gs : Array Goroutine} {rest : Rest} {w : World} (h : n ≤ w.drawn) : drM n (look p gs rest w) := by
  unfold look
  split
  · dsimp only
    refine iteM trivial ?_
    split
    · trivial
    · split
      · rename_i he; have h3 := run_ok h he; exact h3
      · trivial
      · trivial
  · trivial
theorem wait_dr {rest : Rest} {cs : Array CommCase} {w w' : World} {n : Nat} (h : n ≤ w.drawn) (he : waitingAt rest cs w = some w') : n ≤ w'.drawn := by
  unfold waitingAt at he
  split at he
  · split at he
    · cases he; exact h
    · cases he
  · cases he; exact h
theorem comm_dr {n : Nat} {p : Program} {rest : Rest} {gs : Array Goroutine} {i : Nat} {g : Goroutine} {cases_ : Array CommCase} {b : Bool} {s : CommShape} {w : World} (h : n ≤ w.drawn) : drM n (communicate p rest gs i g cases_ b s w).1 := by
  unfold communicate
  dsimp only
  repeat' (first | trivial | exact h | split)
  all_goals first
    | (have h3 := run_ok h (by assumption); exact h3)
    | (have h3 := run_ok (run_ok h (by assumption)) (by assumption); exact h3)
    | (have h3 := run_halt (run_ok h (by assumption)) (by assumption); exact h3)
    | (have h3 := wait_dr h (by assumption); exact h3)
theorem timer_dr {m m' : Machine} {op : TimerOp} {v : Value} (h : timerOp m op = .ok (v, m')) : m'.world.drawn = m.world.drawn := by
  have hd : ∀ (w : World) (c : Nat), (drain w c).2.drawn = w.drawn := fun w c => by unfold drain; split <;> rfl
  have hr : ∀ (m : Machine) k t a b, (retime m k t a b).2.world.drawn = m.world.drawn := fun m k t a b => by
    unfold retime
    cases t.chan with
    | none => rfl
    | some c =>
      have h1 := hd m.world c
      dsimp only
      generalize drain m.world c = q at h1 ⊢
      obtain ⟨q1, q2⟩ := q
      exact h1
  have hn : ∀ (m : Machine) a f (v : Value) (m' : Machine), (∀ k t, (f k t).2.world.drawn = m.world.drawn) → timerOp.named m a f = .ok (v, m') → m'.world.drawn = m.world.drawn := fun m a f v m' hf h => by
    unfold timerOp.named at h
    split at h
    · rename_i k _
      have h1 := hf k (m.rest.timers.getD k default)
      injection h with h
      rw [h] at h1; exact h1
    · cases h
  have ho : ∀ (m m2 : Machine) a, timerOp.opened m a = some m2 → m2.world.drawn = m.world.drawn := fun m m2 a h => by
    unfold timerOp.opened at h
    split at h
    · split at h
      · cases h; rfl
      · cases h
    · cases h; rfl
  cases op with
  | new t =>
    simp only [timerOp] at h
    split at h
    · cases h; rfl
    · split at h
      · split at h
        · cases h
        · cases h; rfl
      · cases h
  | stop var => exact hn m var _ v m' (fun k t => hr m k t _ _) h
  | reset var when period =>
    simp only [timerOp] at h
    split at h
    · rename_i m2 he
      rw [← ho m m2 var he]
      unfold timerOp.named at h
      split at h
      · rename_i k _
        have h1 := hr m2 k (m.rest.timers.getD k default) when period
        injection h with h
        have h' : retime m2 k (m.rest.timers.getD k default) when period = (v, m') := h
        rw [h'] at h1; exact h1
      · cases h
    · cases h
  | deadline ctx read write when =>
    simp only [timerOp] at h
    cases h; rfl
theorem serve_dr {n : Nat} {p : Program} {m : Machine} {k : Nat} (h : n ≤ m.world.drawn) : drM n (serve p m k) := by
  unfold serve
  split
  · trivial
  · exact h
  · dsimp only
    split
    · trivial
    · exact h
theorem runT_dr {n : Nat} {p : Program} {m : Machine} {i : Nat} {l : Bool} (h : n ≤ m.world.drawn) : drM n (runT p m i l).1 := by
  unfold runT
  dsimp only
  generalize m.gs.swapAt! i _ = q
  obtain ⟨g, gs⟩ := q
  dsimp only
  have h2 : drS n (stepG p (i == 0) g m.world l) := stepG_dr h
  generalize stepG p (i == 0) g m.world l = s at h2 ⊢
  cases s with
  | ended o w es => trivial
  | comm g cs b sh w es =>
    have h3 : drM n (communicate p m.rest gs i g cs b sh w).1 := comm_dr h2
    exact h3
  | go g w es => exact h2
  | spawn g c w es => exact h2
  | count g w es => exact iteM trivial h2
  | alone g on w es => exact h2
  | collect g w es => exact look_dr h2
  | watch g w es => exact h2
  | newcoro g c d w es => exact h2
  | coroswitch g c e w es =>
    dsimp only
    split
    · exact h2
    · split
      · rename_i he
        have h3 : drS n (endThrow g.frame "coroswitch on exited coro" w) := endThrow_dr h2
        rw [he] at h3; exact h3
      · trivial
    · trivial
  | timer g op w es =>
    dsimp only
    split
    · rename_i he
      have h3 := timer_dr he
      show n ≤ _
      exact Nat.le_trans h2 (Nat.le_of_eq h3.symm)
    · split
      · rename_i msg _ _ _ _ _ he
        have h3 : drS n (endThrow g.frame msg w) := endThrow_dr h2
        rw [he] at h3; exact h3
      · trivial
    · trivial
    · trivial
def drV (n : Nat) : Move → Prop
  | .goroutine m _ => n ≤ m.world.drawn
  | .machine s _ => drM n s
theorem iteV {n : Nat} {c : Prop} [Decidable c] {a b : Move} (h1 : drV n a) (h2 : drV n b) : drV n (if c then a else b) := by
  by_cases h : c
  · rw [if_pos h]; exact h1
  · rw [if_neg h]; exact h2
theorem askOn_dr {n : Nat} {p : Program} {m : Machine} (h : n ≤ m.world.drawn) : drV n (askOn p m) := by
  unfold askOn
  extract_lets mono rs ds pick
  have hp : ∀ m : Machine, n ≤ m.world.drawn → drV n (pick m) := fun m h => by
    show drV n (match (choose (.sched rs.length)).run p m.world with
      | .halt _ w => Move.machine (.ended (.stuck "sched" "") w)
      | .ok k world =>
        if rs.length ≤ 1 then .goroutine { m with world } (rs.getD k 0) else
        match (choose (.extern "sched.slice" 65536)).run p world with
        | .halt _ w => .machine (.ended (.stuck "sched.slice" "") w)
        | .ok n world => .goroutine { m with world, rest := { m.rest with slice := if n = 0 then none else some (rs.getD k 0, n) } } (rs.getD k 0))
    split
    · trivial
    · rename_i he
      have h3 := run_ok h he
      refine iteV h3 ?_
      split
      · trivial
      · rename_i he2
        exact run_ok h3 he2
  clear_value pick
  split
  · trivial
  · rename_i he
    have h3 := run_ok h he
    clear_value rs
    dsimp only
    refine iteV (serve_dr h3) ?_
    cases rs with
    | nil =>
      dsimp only
      split
      · exact h3
      · refine iteV h3 ?_
        split
        · trivial
        · trivial
    | cons r rs =>
      dsimp only
      split
      · exact hp _ h3
      · split
        · trivial
        · rename_i he2; exact hp _ (run_ok h3 he2)
        · rename_i he2; have h5 := run_ok h3 he2; exact h5
        · rename_i he2; have h5 := run_ok h3 he2; exact hp _ h5
theorem ask_drV {n : Nat} {p : Program} {m : Machine} (h : n ≤ m.world.drawn) : drV n (ask p m) := by
  unfold ask
  refine iteV ?_ (askOn_dr h)
  split
  · trivial
  · rename_i he
    have h3 := run_ok h he
    have h4 := look_dr (p := p) (gs := m.gs) (rest := m.rest) h3
    split
    · rename_i he2
      rw [he2] at h4
      exact askOn_dr h4
    · exact h4
  · rename_i he; exact askOn_dr (run_ok h he)
theorem move_dr {n : Nat} {p : Program} {m : Machine} (h : n ≤ m.world.drawn) : drV n (move p m) := by
  unfold move
  split
  · exact iteV h trivial
  · split
    · exact iteV h (ask_drV h)
    · exact ask_drV h
theorem step_dr {n : Nat} {p : Program} {m : Machine} (h : n ≤ m.world.drawn) : drM n (step p m) := by
  have h2 := move_dr (p := p) h
  unfold step stepT
  split
  · rename_i he; rw [he] at h2; exact runT_dr h2
  · rename_i he; rw [he] at h2; exact h2
theorem runN_dr {n : Nat} {p : Program} : ∀ (k : Nat) {m m' : Machine}, n ≤ m.world.drawn → runN p k m = .next m' → n ≤ m'.world.drawn
  | 0, m, m', h, he => by simp only [runN, Stepped.next.injEq] at he; subst he; exact h
  | k + 1, m, m', h, he => by
    have h2 := step_dr (p := p) h
    simp only [runN] at he
    split at he
    · rename_i hs; rw [hs] at h2; exact runN_dr k h2 he
    · rename_i hs; rw [he] at h2; exact h2
/-- The numbers drawn only grow. -/
theorem calls_dr {P : Program} {f : FuncId} {args : Array Value} {w : World} {R : Ending → World → Prop} (h : Calls P f args w R) :
    Calls P f args w fun e w' => R e w' ∧ ((∃ v, e = .returned v) → w.drawn ≤ w'.drawn) := fun cs => by
  obtain ⟨e, w', fr, h1, h2, h3, h4⟩ := h cs
  refine ⟨e, w', fr, ⟨h1, ?_⟩, h2, h3, h4⟩
  rintro ⟨v, rfl⟩
  obtain ⟨k, hk⟩ := h2
  exact runN_dr k (n := w.drawn) (Nat.le_refl _) hk
end Go.Proofs.YtkdefjliknpliaaGreatDoor.Dr
