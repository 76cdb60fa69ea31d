/- The number of what has been drawn only grows. Sorting lists that are written in place: the library's contracts in terms of plain lists. Sorting lists of numbers or texts in place. New lists with room, and cells that become data. Lists of rows: copies, the piece that reaches behind the end, zeros appended, overlaps. Calls that take a list over and hand one back, where the order is open. Pieces of a list in plain Lean. Taking elements out of a list in place. Containers whose rows are lists of their own. Slices whose rows are lists of their own: what holds for a list of heads holds for them. Slices of growing lists. Maps of growing lists. Maps of growing lists: operations. Maps of growing lists: rows put in, and all given up. Going through a map of growing lists, each of which is written. Containers of lists where ways meet; a list that is taken from in front. A list that is taken from in front: pieces and what is put behind. A list that is told out and is one of its own. Conditions: none. -/
import Derived.Test.YtjdnbobilgamdaaGreatDoorAl
import Derived.Calls
import Derived.StepT
import Derived.Test.YtjdnbobilgamdaaGreatDoorAb34
import Derived.Shelf.SlSortCmp.NoneTotal
import Derived.Test.YtjdnbobilgamdaaGreatDoorAb29
import Derived.Test.YtjdnbobilgamdaaGreatDoorAb27
import Derived.RowKit
import Derived.ArgAppend
section
namespace Go.Proofs.YtjdnbobilgamdaaGreatDoor.Dr
open Go
def rw_{α:Type}:Result α→World
 |.ok _ w=>w
 |.halt _ w=>w
theorem HK{α:Type}:∀ (s:Ask α) (w:World),w.drawn≤(w.ask s).2.drawn
 |.done a,w=>by simp[World.ask]
 |.ask S' range k,w=>by
  simp only[World.ask]
  split
  ·exact HK _ _
  ·exact abE (adF _) (HK (k _) {w with drawn:=w.drawn+1 })
theorem Ta(w:World)(c:Sys):w.drawn≤(w.sys c).2.drawn:=by
 have h:=HK (Kernel.perform c w.os) w
 unfold World.sys
 split
 ·exact aaZ _
 ·rename_i r os w' _ he
  rw[he] at h
  exact h
theorem PR{p:Program}{w w':World}{a k:Addr}{u:TypeId}{v:Value}{b:Bool}{l:List Addr}(h:w.viewStore p a u k v b=.ok (w',l)):w'.drawn=w.drawn:=by
 unfold World.viewStore at h
 simp only[bind,Except.bind,pure,Except.pure] at h
 repeat' split at h
 all_goals first|(cases h;done)|(cases h;rfl)|(rename_i h0;cases h0;done)
theorem Tb{p:Program}{w w':World}{a:Addr}{v:Value}{b:Bool}{l:List Addr}(h:w.farStore p a v b=.ok (w',l)):w'.drawn=w.drawn:=by
 unfold World.farStore at h
 split at h
 ·split at h
  ·rename_i he;cases h;exact PR he
  ·cases h
 ·cases h
theorem MA{α:Type}(p:Program):∀ (s:Sem α) (w:World),w.drawn≤(rw_ (s.run p w)).drawn:=by
 intro s
 induction s with
 |pure a=>intro w;exact aaZ _
 |load m a k ih=>
  intro w;simp only[Sem.run];split
  ·exact ih _ _
  ·split
   ·exact ih _ _
   ·exact aaZ _
 |store m a v k ih=>
  intro w
  cases v
  all_goals first
   |exact aaZ _
   |(simp only[Sem.run]
     split
     ·split
      ·exact aaZ _
      ·exact ih (w.setCell a _)
     ·split
      ·rename_i he
       exact abE (Nat.le_of_eq (Tb he).symm) (ih _)
      ·exact aaZ _)
 |new o k ih=>intro w;exact ih w.heap.size {w with heap:=w.heap.push o }
 |shape r k ih=>intro w;simp only[Sem.run];exact ih _ _
 |freeze a n k ih=>intro w;have:=ih (w.freeze a n);simp only[Sem.run];unfold World.freeze at this ⊢;split<;>simp_all
 |frozen a k ih=>intro w;simp only[Sem.run];exact ih _ _
 |getObj r k ih=>
  intro w;simp only[Sem.run];split
  ·exact aaZ _
  ·exact ih _ _
  ·exact aaZ _
 |setObj r o k ih=>
  intro w;simp only[Sem.run];split
  ·exact aaZ _
  ·exact ih {w with heap:=w.heap.setIfInBounds r o }
  ·exact aaZ _
 |choose q k ih=>
  intro w;simp only[Sem.run];split
  ·exact ih _ _
  ·exact abE (adF _) (ih _ {w with drawn:=w.drawn+1 })
 |sys c k ih=>intro w;simp only[Sem.run];exact abE (Ta w c) (ih _ _)
 |program k ih=>intro w;simp only[Sem.run];exact ih _ _
 |mark m k ih=>intro w;simp only[Sem.run];exact ih _
 |halt h=>intro w;exact aaZ _
theorem dq{α:Type}{p:Program}{s:Sem α}{w w':World}{a:α}{n:Nat}(h:n≤w.drawn)(he:s.run p w=.ok a w'):n≤w'.drawn:=by
 have h2:=MA p s w
 rw[he] at h2
 exact abE h h2
theorem run_halt{α:Type}{p:Program}{s:Sem α}{w w':World}{a:Halt}{n:Nat}(h:n≤w.drawn)(he:s.run p w=.halt a w'):n≤w'.drawn:=by
 have h2:=MA p s w
 rw[he] at h2
 exact abE h h2
def xU(n:Nat):GStep→Prop
 |.go _ w _|.comm _ _ _ _ w _|.spawn _ _ w _|.count _ w _|.timer _ _ w _|.alone _ _ w _|.newcoro _ _ _ w _|.coroswitch _ _ _ w _|.collect _ w _|.watch _ w _=>n≤w.drawn
 |.ended ..=>True
theorem qn{n:Nat}{c:Prop}[Decidable c]{a b:GStep}(h1:xU n a)(h2:xU n b):xU n (if c then a else b):=by
 by_cases h:c
 ·rw[aa2 h];exact h1
 ·rw[aa7 h];exact h2
theorem oe{n:Nat}{es:Array Event}{s:GStep}(h:xU n s):xU n (s.after es):=by
 cases s<;>exact h
theorem xV{n:Nat}{p:Program}{main:Bool}{fr:Frame}{cs:List Frame}{d:Option Dying}{v:Value}{w:World}(h:n≤w.drawn):xU n (doReturn p main fr cs d v w):=by
 unfold doReturn
 repeat' split
 all_goals first|exact h|trivial
theorem HL{n:Nat}{w:World}{fd:Nat}{t:ByteArray}{o:Outcome}:xU n (endWith w fd t o):=by
 unfold endWith
 repeat' (first|split|trivial)
theorem p8{n:Nat}{fr:Frame}{m:String}{w:World}(h:n≤w.drawn):xU n (endThrow fr m w):=h
theorem sD{n:Nat}{p:Program}{fr:Frame}{v:Value}{w:World}(h:n≤w.drawn):xU n (endPrinting p fr v w):=by
 unfold endPrinting
 extract_lets type S'
 clear_value S'
 cases S' with
 |some s=>exact h
 |none=>trivial
theorem yZ{n:Nat}{p:Program}{fr:Frame}{cs:List Frame}{d:Option Dying}{m:String}{w:World}(h:n≤w.drawn):xU n (endFatal p fr cs d m w):=by
 unfold endFatal
 extract_lets chain raw shown
 clear_value shown
 split
 ·rename_i he;exact dq h he
 ·trivial
 ·trivial
theorem zu{n:Nat}{p:Program}{fr:Frame}{cs:List Frame}{dy:Option Dying}{d:Deferred}{w:World}(h:n≤w.drawn):xU n (callDeferred p fr cs dy d w):=by
 unfold callDeferred
 refine qn trivial ?_
 simp only[adz]
 refine oe ?_
 split
 all_goals first
  |trivial
  |(rename_i he;first|exact dq h he|exact run_halt h he|exact yZ (run_halt h he)|exact p8 (run_halt h he))
  |(rename_i he;have h3:=dq h he;repeat' (first|exact h3|trivial|split))
  |(rename_i he _;first|exact dq h he)
theorem HM{n:Nat}{p:Program}{fr:Frame}{d:Dying}{f:Fatal}{w:World}(h:n≤w.drawn):xU n (writeOn p fr d f w):=by
 unfold writeOn
 split
 ·trivial
 ·simp only[adz]
  split
  all_goals first|trivial|(rename_i he;injection he with he _;first|exact dq h he|exact run_halt h he)
theorem Tc{n:Nat}{p:Program}{fr:Frame}{d:Dying}{w:World}(h:n≤w.drawn):xU n (die p fr d w):=by
 unfold die
 split
 ·exact HM h
 ·split
  ·split
   ·exact h
   ·exact HL
  ·extract_lets d2
   split
   ·exact h
   ·split
    ·rename_i he;exact dq h he
    ·trivial
   ·simp only[adz]
    refine oe ?_
    split
    all_goals first|trivial|(rename_i he;first|exact dq h he|exact sD (run_halt h he))
   ·trivial
theorem Ku{n:Nat}{p:Program}{main:Bool}{fr:Frame}{cs:List Frame}{dy:Option Dying}{w:World}(h:n≤w.drawn):xU n (unwind p main fr cs dy w):=by
 unfold unwind
 split
 ·simp only[adz]
  refine oe ?_
  split
  ·rename_i he;exact dq h he
  ·trivial
 ·exact zu h
 ·split
  ·trivial
  ·split
   ·trivial
   ·split
    ·exact h
    ·split
     ·split
      ·exact h
      ·split
       ·rename_i he;exact dq h he
       ·trivial
       ·trivial
     ·split
      ·exact sD h
      ·trivial
  ·split
   ·exact xV h
   ·simp only[adz]
    refine oe ?_
    split
    ·rename_i he;exact xV (dq h he)
    ·trivial
    ·trivial
theorem MB{n:Nat}{p:Program}{fr:Frame}{cs:List Frame}{dy:Option Dying}{g:Nat}{w:World}(h:n≤w.drawn):xU n (early p fr cs dy g w):=by
 have hn:∀ w':World,n≤w'.drawn→xU n (match w'.heap[g]? with
  |some (.pending c elem)=>
   .go {frame:=fr,callers:=cs,status:=.running,dying:=dy } {w' with heap:=w'.heap.setIfInBounds g (.cells c elem)}
  |_=>.ended (.stuck "early: the variable does not wait" (fr.pos p)) w'):=fun w' h'=>by
  split
  ·exact h'
  ·trivial
 unfold early
 extract_lets refuse notYet
 refine qn (hn w h) ?_
 split
 ·trivial
 ·extract_lets there
  refine qn (hn w h) (qn (hn w h) ?_)
  split
  ·trivial
  ·exact h
  ·trivial
  ·exact hn w h
  ·refine qn h (qn (hn w h) ?_)
   split
   ·rename_i he;exact hn _ (dq h he)
   ·rename_i he;exact dq h he
   ·trivial
theorem sE{n:Nat}{p:Program}{listen:Bool}{fr:Frame}{cs:List Frame}{dy:Option Dying}{s:Sem Next}{w:World}(h:n≤w.drawn):xU n (stepG.apply p listen fr cs dy s w):=by
 unfold stepG.apply
 have hr:(if listen=true then s.runT p w #[] else (s.run p w,#[])).1=s.run p w:=by cases listen<;>simp[adz]
 generalize (if listen=true then s.runT p w #[] else (s.run p w,#[]))=q at hr ⊢
 obtain⟨r,es⟩:=q
 dsimp only at hr ⊢
 subst hr
 refine oe ?_
 split
 all_goals first
  |trivial
  |(rename_i he;first|exact dq h he|exact run_halt h he|exact yZ (run_halt h he)|exact p8 (run_halt h he)|exact MB (run_halt h he))
  |(rename_i he;have h3:=dq h he;repeat' (first|exact h3|trivial|split))
  |(rename_i he;have h3:=dq h he;refine qn h3 h3)
theorem PS{n:Nat}{p:Program}{listen:Bool}{fr:Frame}{cs:List Frame}{dy:Option Dying}{w:World}(h:n≤w.drawn):xU n (stepG.oper p listen fr cs dy w):=by
 unfold stepG.oper
 split
 ·trivial
 ·split
  ·exact sE h
  ·exact sE h
theorem PT{n:Nat}{p:Program}{main listen:Bool}{fr:Frame}{cs:List Frame}{dy:Option Dying}{w:World}(h:n≤w.drawn):xU n (stepG.exec p main listen fr cs dy w):=by
 have hl:∀ jump:Option Code,xU n (match fr.roundOf with
  |none=>if jump matches none|some .ret then GStep.go {frame:={fr with mode:=.returning },callers:=cs,status:=.running,dying:=dy } w else .ended (.stuck "exit, goto: no such block or label" (fr.pos p)) w
  |some l=>
   let (r,es):=(Instr.endRound l jump).runT p w #[]
   GStep.after (seen p fr.fn es) <| match r with
   |.ok v w=>doReturn p main fr cs dy v w
   |.halt _ w=>.ended (.stuck "range over a function: no such loop" (fr.pos p)) w):=fun jump=>by
  split
  ·exact qn h trivial
  ·simp only[adz]
   refine oe ?_
   split
   ·rename_i he;exact xV (dq h he)
   ·trivial
 unfold stepG.exec
 extract_lets go to lost leave
 have HN:∀ j,xU n (leave j):=hl
 clear_value leave
 have VZ:∀ k,xU n (to k):=fun _=>h
 have YQ:∀ f w',n≤w'.drawn→xU n (go f w'):=fun _ _ h=>h
 split
 all_goals first
  |exact HN _
  |exact VZ _
  |trivial
  |exact sE h
  |exact qn (PS h) h
  |skip
 ·split
  ·exact VZ _
  ·trivial
 ·cases exitTo _ _ with
  |none=>exact HN _
  |some k=>exact VZ k
 ·cases gotoIn _ _ with
  |none=>exact HN _
  |some k=>exact VZ k
 ·simp only[adz]
  refine oe ?_
  split
  ·rename_i he;exact sE (dq h he)
  ·trivial
 ·simp only[adz]
  refine oe ?_
  split
  ·rename_i he;exact YQ _ _ (dq h he)
  ·rename_i he;exact YQ _ _ (run_halt h he)
  ·trivial
 ·cases Extern.next _ with
  |none=>trivial
  |some e=>exact sE h
 ·refine qn (VZ _) ?_
  split
  ·rename_i he;exact YQ _ _ (dq h he)
  ·trivial
theorem MC{n:Nat}{p:Program}{main listen:Bool}{g:Goroutine}{w:World}(h:n≤w.drawn):xU n (stepG p main g w listen):=by
 unfold stepG
 obtain⟨fr,cs,st,dy,off⟩:=g
 dsimp only
 split
 ·exact Tc h
 ·exact PT h
 ·exact Ku h
def OT(n:Nat):Stepped→Prop
 |.next m=>n≤m.world.drawn
 |.ended ..=>True
theorem V0{n:Nat}{c:Prop}[Decidable c]{a b:Stepped}(h1:OT n a)(h2:OT n b):OT n (if c then a else b):=by
 by_cases h:c
 ·rw[aa2 h];exact h1
 ·rw[aa7 h];exact h2
theorem I4{n:Nat}{p:Program}{gs:Array Goroutine}{rest:Rest}{w:World}(h:n≤w.drawn):OT n (look p gs rest w):=by
 unfold look
 split
 ·dsimp only
  refine V0 trivial ?_
  split
  ·trivial
  ·split
   ·rename_i he;have h3:=dq h he;exact h3
   ·trivial
   ·trivial
 ·trivial
theorem PU{rest:Rest}{cs:Array CommCase}{w w':World}{n:Nat}(h:n≤w.drawn)(he:waitingAt rest cs w=some w'):n≤w'.drawn:=by
 unfold waitingAt at he
 split at he
 ·split at he
  ·cases he;exact h
  ·cases he
 ·cases he;exact h
theorem PV{n:Nat}{p:Program}{rest:Rest}{gs:Array Goroutine}{i:Nat}{g:Goroutine}{Td:Array CommCase}{b:Bool}{s:CommShape}{w:World}(h:n≤w.drawn):OT n (communicate p rest gs i g Td b s w).1:=by
 unfold communicate
 dsimp only
 repeat' (first|trivial|exact h|split)
 all_goals first
  |(have h3:=dq h (by assumption);exact h3)
  |(have h3:=dq (dq h (by assumption)) (by assumption);exact h3)
  |(have h3:=run_halt (dq h (by assumption)) (by assumption);exact h3)
  |(have h3:=PU h (by assumption);exact h3)
theorem MD{m m':Machine}{op:TimerOp}{v:Value}(h:timerOp m op=.ok (v,m')):m'.world.drawn=m.world.drawn:=by
 have hd:∀ (w:World) (c:Nat),(drain w c).2.drawn=w.drawn:=fun w c=>by unfold drain;split<;>rfl
 have hr:∀ (m:Machine) k t a b,(retime m k t a b).2.world.drawn=m.world.drawn:=fun m k t a b=>by
  unfold retime
  cases t.chan with
  |none=>rfl
  |some c=>
   have h1:=hd m.world c
   dsimp only
   generalize drain m.world c=q at h1 ⊢
   obtain⟨q1,q2⟩:=q
   exact h1
 have hn:∀ (m:Machine) a f (v:Value) (m':Machine),(∀ k t,(f k t).2.world.drawn=m.world.drawn)→timerOp.named m a f=.ok (v,m')→m'.world.drawn=m.world.drawn:=fun m a f v m' hf h=>by
  unfold timerOp.named at h
  split at h
  ·rename_i k _
   have h1:=hf k (m.rest.timers.getD k default)
   injection h with h
   rw[h] at h1;exact h1
  ·cases h
 have ho:∀ (m m2:Machine) a,timerOp.opened m a=some m2→m2.world.drawn=m.world.drawn:=fun m m2 a h=>by
  unfold timerOp.opened at h
  split at h
  ·split at h
   ·cases h;rfl
   ·cases h
  ·cases h;rfl
 cases op with
 |new t=>
  simp only[timerOp] at h
  split at h
  ·cases h;rfl
  ·split at h
   ·split at h
    ·cases h
    ·cases h;rfl
   ·cases h
 |stop var=>exact hn m var _ v m' (fun k t=>hr m k t _ _) h
 |reset var when period=>
  simp only[timerOp] at h
  split at h
  ·rename_i m2 he
   rw[←ho m m2 var he]
   unfold timerOp.named at h
   split at h
   ·rename_i k _
    have h1:=hr m2 k (m.rest.timers.getD k default) when period
    injection h with h
    have h':retime m2 k (m.rest.timers.getD k default) when period=(v,m'):=h
    rw[h'] at h1;exact h1
   ·cases h
  ·cases h
 |deadline ctx read write when=>
  simp only[timerOp] at h
  cases h;rfl
theorem ME{n:Nat}{p:Program}{m:Machine}{k:Nat}(h:n≤m.world.drawn):OT n (serve p m k):=by
 unfold serve
 split
 ·trivial
 ·exact h
 ·dsimp only
  split
  ·trivial
  ·exact h
theorem PW{n:Nat}{p:Program}{m:Machine}{i:Nat}{l:Bool}(h:n≤m.world.drawn):OT n (runT p m i l).1:=by
 unfold runT
 dsimp only
 generalize m.gs.swapAt! i _=q
 obtain⟨g,gs⟩:=q
 dsimp only
 have h2:xU n (stepG p (i==0) g m.world l):=MC h
 generalize stepG p (i==0) g m.world l=s at h2 ⊢
 cases s with
 |ended o w es=>trivial
 |comm g cs b sh w es=>
  have h3:OT n (communicate p m.rest gs i g cs b sh w).1:=PV h2
  exact h3
 |go g w es=>exact h2
 |spawn g c w es=>exact h2
 |count g w es=>exact V0 trivial h2
 |alone g on w es=>exact h2
 |collect g w es=>exact I4 h2
 |watch g w es=>exact h2
 |newcoro g c d w es=>exact h2
 |coroswitch g c e w es=>
  dsimp only
  split
  ·exact h2
  ·split
   ·rename_i he
    have h3:xU n (endThrow g.frame "coroswitch on exited coro" w):=p8 h2
    rw[he] at h3;exact h3
   ·trivial
  ·trivial
 |timer g op w es=>
  dsimp only
  split
  ·rename_i he
   have h3:=MD he
   show n≤_
   exact abE h2 (Nat.le_of_eq h3.symm)
  ·split
   ·rename_i msg _ _ _ _ _ he
    have h3:xU n (endThrow g.frame msg w):=p8 h2
    rw[he] at h3;exact h3
   ·trivial
  ·trivial
  ·trivial
def RE(n:Nat):Move→Prop
 |.goroutine m _=>n≤m.world.drawn
 |.machine s _=>OT n s
theorem Kv{n:Nat}{c:Prop}[Decidable c]{a b:Move}(h1:RE n a)(h2:RE n b):RE n (if c then a else b):=by
 by_cases h:c
 ·rw[aa2 h];exact h1
 ·rw[aa7 h];exact h2
theorem A9{n:Nat}{p:Program}{m:Machine}(h:n≤m.world.drawn):RE n (askOn p m):=by
 unfold askOn
 extract_lets mono rs ds pick
 have hp:∀ m:Machine,n≤m.world.drawn→RE n (pick m):=fun m h=>by
  show RE n (match (choose (.sched rs.length)).run p m.world with
   |.halt _ w=>Move.machine (.ended (.stuck "sched" "") w)
   |.ok k world=>
    if rs.length≤1 then .goroutine {m with world } (rs.getD k 0) else
    match (choose (.extern "sched.slice" 65536)).run p world with
    |.halt _ w=>.machine (.ended (.stuck "sched.slice" "") w)
    |.ok n world=>.goroutine {m with world,rest:={m.rest with slice:=if n=0 then none else some (rs.getD k 0,n)} } (rs.getD k 0))
  split
  ·trivial
  ·rename_i he
   have h3:=dq h he
   refine Kv h3 ?_
   split
   ·trivial
   ·rename_i PX
    exact dq h3 PX
 clear_value pick
 split
 ·trivial
 ·rename_i he
  have h3:=dq h he
  clear_value rs
  dsimp only
  refine Kv (ME h3) ?_
  cases rs with
  |nil=>
   dsimp only
   split
   ·exact h3
   ·refine Kv h3 ?_
    split
    ·trivial
    ·trivial
  |cons r rs=>
   dsimp only
   split
   ·exact hp _ h3
   ·split
    ·trivial
    ·rename_i PX;exact hp _ (dq h3 PX)
    ·rename_i PX;have h5:=dq h3 PX;exact h5
    ·rename_i PX;have h5:=dq h3 PX;exact hp _ h5
theorem I5{n:Nat}{p:Program}{m:Machine}(h:n≤m.world.drawn):RE n (ask p m):=by
 unfold ask
 refine Kv ?_ (A9 h)
 split
 ·trivial
 ·rename_i he
  have h3:=dq h he
  have h4:=I4 (p:=p) (gs:=m.gs) (rest:=m.rest) h3
  split
  ·rename_i PX
   rw[PX] at h4
   exact A9 h4
  ·exact h4
 ·rename_i he;exact A9 (dq h he)
theorem PY{n:Nat}{p:Program}{m:Machine}(h:n≤m.world.drawn):RE n (move p m):=by
 unfold move
 split
 ·exact Kv h trivial
 ·split
  ·exact Kv h (I5 h)
  ·exact I5 h
theorem PZ{n:Nat}{p:Program}{m:Machine}(h:n≤m.world.drawn):OT n (step p m):=by
 have h2:=PY (p:=p) h
 unfold step stepT
 split
 ·rename_i he;rw[he] at h2;exact PW h2
 ·rename_i he;rw[he] at h2;exact h2
theorem I6{n:Nat}{p:Program}:∀ (k:Nat) {m m':Machine},n≤m.world.drawn→runN p k m=.next m'→n≤m'.world.drawn
 |0,m,m',h,he=>by simp only[runN,Stepped.next.injEq] at he;subst he;exact h
 |k+1,m,m',h,he=>by
  have h2:=PZ (p:=p) h
  simp only[runN] at he
  split at he
  ·rename_i hs;rw[hs] at h2;exact I6 k h2 he
  ·rename_i hs;rw[he] at h2;exact h2
theorem Ml{P:Program}{f:FuncId}{args:Array Value}{w:World}{R:Ending→World→Prop}(h:Calls P f args w R):
  Calls P f args w fun e w'=>R e w'∧((∃ v,e=.returned v)→w.drawn≤w'.drawn):=fun cs=>by
 obtain⟨e,w',fr,h1,h2,h3,h4⟩:=h cs
 refine⟨e,w',fr,⟨h1,?_⟩,h2,h3,h4⟩
 rintro⟨v,rfl⟩
 obtain⟨k,hk⟩:=h2
 exact I6 k (n:=w.drawn) (aaZ _) hk
end Go.Proofs.YtjdnbobilgamdaaGreatDoor.Dr
end
section
namespace Go.Proofs.YtjdnbobilgamdaaGreatDoor.Ab
open Go Go.Sort
def sw:D→Value
 |.bool b=>.bool b
 |.int k n=>.int k n
 |.str s=>.string ⟨s.toArray⟩
 |.raw v=>v
 |_=>undef
def D.scalar:D→Bool
 |.bool _|.int _ _|.str _=>true
 |_=>false
theorem Kj{Pr:Nat→Nat→Prop}{w:World}{x:D}{v:Value}(hx:x.scalar=true)(h:aV Pr w x v):v=sw x:=by
 cases h<;>first|rfl|(simp[D.scalar] at hx)
theorem Kk{Pr:Nat→Nat→Prop}{w:World}{x:D}(hx:x.scalar=true):aV Pr w x (sw x):=by
 cases x<;>first|(simp[D.scalar] at hx;done)|constructor
theorem Kl{x:D}(hx:x.scalar=true):(sw x).oneCell'=true:=by
 cases x<;>first|(simp[D.scalar] at hx;done)|rfl
structure Pl{α:Type}(f:α→D)(s:Nat):Prop where
 len:∀ x,(f x).cells.length=s
 sc:∀ x,∀ c∈(f x).cells,c.scalar=true
def n9{α:Type}(f:α→D)(x:α):List Value:=(f x).cells.map sw
section
variable {α:Type}{f:α→D}{s:Nat}
theorem Pl.one(hp:Pl f s)(x:α):∀ v∈n9 f x,v.oneCell'=true:=fun v hv=>by
 simp only[n9,abS] at hv
 obtain⟨c,hc,rfl⟩:=hv
 exact Kl (hp.sc x c hc)
theorem xP(hs:∀ x,(f x).cells.length=s):∀ {l:List α} {k:Nat} {x:D},(D.flat (l.map f))[k]?=some x→∃ y,l[k/s]?=some y∧(f y).cells[k%s]?=some x
 |[],k,x,h=>by simp[D.flat] at h
 |y::l,k,x,h=>by
  rw[abP,lg,ado,hs] at h
  split at h
  ·rename_i hk
   exact⟨y,by rw[Nat.div_eq_of_lt hk];rfl,by rw[abX hk];exact h⟩
  ·rename_i hk
   obtain⟨z,h1,h2⟩:=xP hs h
   have h0:0<s:=au
   have e1:k/s=(k-s)/s+1:=by rw[←Nat.sub_add_cancel (show s≤k by omega),Nat.add_div_right _ h0];simp
   have e2:k%s=(k-s)%s:=by rw[←Nat.sub_add_cancel (show s≤k by omega),Nat.add_mod_right];simp
   exact au
theorem CQ(hs:∀ x,(f x).cells.length=s)(l:List α):(D.flat (l.map f)).length=l.length*s:=by
 induction l with
 |nil=>simp[D.flat]
 |cons y l ih=>rw[abP,lg,aa9,ih,hs];simp[abV,adH]
theorem Fp[Inhabited α](hp:Pl f s){l:List α}{k:Nat}{x:D}(h:(D.flat (l.map f))[k]?=some x):(flatK (n9 f) s l.toArray)[k]?=some (sw x)∧x.scalar=true:=by
 have hk:k<l.length*s:=by have:=(aaS.1 h).1;rwa[CQ hp.len] at this
 obtain⟨y,h1,h2⟩:=xP hp.len h
 have oJ:k<(flatK (n9 f) s l.toArray).size:=au
 refine⟨?_,hp.sc y x (abc h2)⟩
 have h3:=get_flatK (n9 f) s l.toArray k (by simpa using hk)
 rw[aeh (flatK (n9 f) s l.toArray) k oJ] at h3
 rw[acx oJ,h3]
 have h4:l.toArray[k/s]! =y:=au
 obtain⟨q1,q2⟩:=aaS.1 h2
 rw[h4]
 have h5:(n9 f y)[k%s]! =sw x:=by
  have:k%s<(n9 f y).length:=by simpa[n9] using q1
  rw[aeh (n9 f y) (k%s) this];simp[n9,q2]
 rw[h5]
theorem aQ.Yv[Inhabited α]{g:G}{w:World}{H:List HE}{id b cap:Nat}{l l':List α}{e:TypeId}(hp:Pl f s)(hw:aQ g w H)(hH:H[id]?=some (.bn (l.map f) e s))(ht:g.τ id=some (0,some ⟨b,0,none⟩,cap))(h0:0<cap)(hl:l'.length=l.length)(n:Nat):
  aQ g (putRowK (n9 f) s (Sort.ahead w n) b 0 l'.toArray) (H.set id (.bn (l'.map f) e s))∧cG g w g (putRowK (n9 f) s (Sort.ahead w n) b 0 l'.toArray):=by
 obtain⟨a1,Yw,f1,f2,f3,f4⟩:=hw.bn id _ e s hH
 rw[ht] at f1;injection f1 with f1;injection f1 with _ f1;injection f1 with f1 X_
 subst f1;subst X_
 obtain⟨b0,arr,q1,q0,q2,q3,q4,q5⟩:=f4 h0
 injection q1 with q1;injection q1 with q1
 subst q1
 have Sw:l'.length*s≤cap*s:=abg s (by rw[aa4] at f2;omega)
 refine hw.pw (arr':=putCells (fun v:Value=>v) 0 (flatK (n9 f) s l'.toArray) arr) hH ht h0 q0 ⟨rfl,rfl,rfl⟩ (by simp[putRowK]) ?_ ?_ (by simpa[hl] using f2) (by simp[putCells,q3]) ?_
 ·simp only[putRowK,putRow,mapBlock,heap_ahead,adJ,abh,q2,abN,onCells]
  rfl
 ·intro b' dD
  simp only[putRowK,putRow,mapBlock,heap_ahead,adJ,aa7 (acN dD)]
 ·intro k x v hx hv
  obtain⟨h1,h2⟩:=Fp hp hx
  have hk:k<(flatK (n9 f) s l'.toArray).size:=(abd.1 h1).1
  have zo:k<arr.size:=by rw[q3];simp at hk;omega
  simp only[putCells,Array.getElem?_mapIdx,acx zo,abN,aaW,acp,true_and,abY,adW,aa2 hk] at hv
  rw[aeh (flatK (n9 f) s l'.toArray) k hk,(abd.1 h1).2] at hv
  have rf:sw x=v:=hv
  rw[←rf];exact Kk h2
theorem aQ.grown{g:G}{w:World}{H:List HE}(hw:aQ g w H)(os:Array Obj):aQ g (grow w os) H∧cG g w g (grow w os):=
 hw.below ⟨rfl,rfl,rfl,by simp[grow],fun k hk=>by simp[grow,Array.getElem?_append,hk]⟩
theorem Fn.Z8{P:Program}{c:FuncId}{ds:List D}{k:IntKind}{r:Int}(h:Fn P c ds (.int k r)){w:World}(Pr:Nat→Nat→Prop)(J_:∀ b o,Pr b o→b<w.heap.size)
  (U3:∀ x∈KC,(∀ o,o<x.2.size→Pr x.1 o)∧∃ et fr,w.heap[x.1]?=some (.cells x.2 et fr)){vals:Array Value}(hs:vals.size=ds.length)
  (ha:∀ (i:Nat) x v,ds[i]?=some x→vals[i]?=some v→aV Pr w x v):
  Calls P c vals w fun e w'=>e=.returned (.int k r)∧∃ q os',w'=grow (w.drewN q) os':=by
 have hw:aQ ⟨fun _=>none,fun _=>none,fun _ _=>False,fun _=>False,Pr⟩ w []:=by
  refine⟨J_,fun b h=>h.elim,?_,?_,?_,?_,?_,?_,fun _ _=>⟨rfl,rfl,fun _ h=>h⟩,fun x hx=>⟨fun h=>h,(U3 x hx).1,(U3 x hx).2⟩⟩<;>(intros;simp_all)
 refine(Dr.Ml (h _ w vals hw (by simpa using hs) (fun i x v hx hv=>?_))).mono ?_
 ·simp only[aba,aa6] at hx
  obtain⟨d,hd,rfl⟩:=hx
  exact .d (ha i d v hd hv)
 ·rintro e w' ⟨⟨rv,res,g',H',rfl,h2,h3,h4,h5⟩,h6⟩
  subst h5
  have h7:=h6 ⟨rv,rfl⟩
  cases h4 with
  |d h8=>
   cases h8
   refine⟨rfl,w'.drawn-w.drawn,w'.heap.extract w.heap.size w'.heap.size,?_⟩
   have p7:w'.heap=w.heap++w'.heap.extract w.heap.size w'.heap.size:=by
    apply Array.ext_getElem?
    intro i
    by_cases hi:i<w.heap.size
    ·rw[ab4 hi];exact h3.aY i hi (fun h=>h)
    ·exact au
   obtain⟨s1,s2,s3⟩:=h3.same
   obtain⟨h',t',d',o',u'⟩:=w'
   obtain⟨h0,t0,d0,o0,u0⟩:=w
   simp only at s1 s2 s3 h7 p7
   subst s1;subst s2;subst s3
   simp only[grow,World.drewN,World.mk.injEq,and_true,true_and]
   exact⟨p7,by omega⟩
def HD{α:Type}(lt:α→α→Bool)(x:α):List α→List α
 |[]=>[x]
 |y::l=>if lt y x then y::HD lt x l else x::y::l
def rV{α:Type}(lt:α→α→Bool):List α→List α
 |[]=>[]
 |x::l=>HD lt x (rV lt l)
theorem xQ{α:Type}(lt:α→α→Bool)(x:α):∀ l:List α,(HD lt x l).Perm (x::l)
 |[]=>.refl _
 |y::l=>by
  simp only[HD]
  split
  ·exact((xQ lt x l).cons y).trans (.swap x y l)
  ·exact .refl _
theorem rq{α:Type}(lt:α→α→Bool):∀ l:List α,(rV lt l).Perm l
 |[]=>.refl _
 |x::l=>(xQ lt x _).trans ((rq lt l).cons x)
theorem tF{α:Type}(lt:α→α→Bool)(l:List α):(rV lt l).length=l.length:=(rq lt l).length_eq
theorem yX{α:Type}{lt:α→α→Bool}(hO:SWO lt)(x:α):∀ {l:List α},l.Pairwise (fun a b=>(!lt b a)=true)→(HD lt x l).Pairwise (fun a b=>(!lt b a)=true)
 |[],_=>by simp[HD]
 |y::l,h=>by
  obtain⟨h1,h2⟩:=acf.1 h
  simp only[HD]
  split
  ·rename_i PC
   refine acf.2 ⟨fun z hz=>?_,yX hO x h2⟩
   rcases abq.1 ((xQ lt x l).mem_iff.1 hz) with rfl|hz
   ·cases hzy:lt z y with
    |false=>rfl
    |true=>have:=hO.trans _ _ _ PC hzy;rw[hO.irrefl] at this;cases this
   ·exact h1 z hz
  ·rename_i PC
   have PC:lt y x=false:=au
   refine acf.2 ⟨fun z hz=>?_,h⟩
   rcases abq.1 hz with rfl|hz
   ·simp[PC]
   ·have h3:=h1 z hz
    simp only[abC] at h3 ⊢
    exact hO.ntrans _ _ _ h3 PC
theorem ru{α:Type}{lt:α→α→Bool}(hO:SWO lt):∀ l:List α,(rV lt l).Pairwise (fun a b=>(!lt b a)=true)
 |[]=>.nil
 |x::l=>yX hO x (ru hO l)
theorem Fq{α:Type}{lt:α→α→Bool}(hO:SWO lt)(hT:∀ x y,lt x y=false→lt y x=false→x=y)(l:List α):(l.mergeSort fun x y=>!lt y x)=rV lt l:=by
 refine List.Perm.eq_of_pairwise (le:=fun x y=>(!lt y x)=true) ?_ ?_ (ru hO l) ((List.mergeSort_perm _ _).trans (rq lt l).symm)
 ·exact au
 ·refine List.pairwise_mergeSort ?_ ?_ l
  ·intro x y z h1 h2
   simp only[abC] at h1 h2 ⊢
   exact hO.ntrans _ _ _ h2 h1
  ·intro x y
   cases h1:lt y x with
   |false=>simp
   |true=>
    cases h2:lt x y with
    |false=>simp
    |true=>have:=hO.trans _ _ _ h1 h2;rw[hO.irrefl] at this;cases this
structure Yx[Inhabited α](P:Program)(fs c:FuncId)(enc:α→List Value)(s:Nat)(cf:α→α→Int):Prop where
 nil:∀ p cap w,Calls P fs #[.slice p 0 cap,.func (.func c) #[] #[]] w fun e w'=>e=.returned (.tuple #[])∧w'=w
 row:∀ b cap (d:Array α) w,CmpLays P c #[] enc s cf b 0 d.size w→HoldsK enc s w b 0 d→b<w.heap.size→d.size<4611686018427387904→
  Calls P fs #[.slice (some ⟨b,0,none⟩) d.size cap,.func (.func c) #[] #[]] w fun e w'=>e=.returned (.tuple #[])∧∃ n os,w'=sortWorldK enc s w b 0 n (d.toList.mergeSort fun x y=>!(ltOf cf) y x).toArray os
theorem aQ.Vu[Inhabited α]{g:G}{w:World}{H:List HE}{id:Nat}{l:List α}{e:TypeId}{v:Value}(hp:Pl f s)(hw:aQ g w H)(hH:H[id]?=some (.bn (l.map f) e s))(hr:cu g w (.hs id 0 l.length s) v):
  ∃ a cap,v=.slice a l.length cap∧(l≠[]→∃ b,a=some ⟨b,0,none⟩∧g.τ id=some (0,some ⟨b,0,none⟩,cap)∧0<cap∧(∀ o,¬g.Pr b o)∧g.X b∧HoldsK (n9 f) s w b 0 l.toArray):=by
 obtain⟨a1,Yw,f1,f2,f3,f4⟩:=hw.bn id _ e s hH
 cases hr with
 |hs h1 h2=>
  rw[f1] at h1;injection h1 with h1;injection h1 with h1 h3;injection h3 with h3 h4
  subst h1;subst h3;subst h4
  obtain⟨r1,r2,r3,r4⟩:=pV (h2 rfl)
  subst r1;subst r2;subst r3
  refine⟨_,_,rfl,fun aR=>?_⟩
  have qx:0<l.length:=abA.2 aR
  have ji:=aa_ qx r4
  obtain⟨b0,arr,q1,q0,q2,q3,q4,q5⟩:=f4 ji
  subst q1
  refine⟨b0,rfl,f1,ji,q4,hw.aD id _ b0 hH (by simp[G.aD,f1,ji]),fun j hj=>?_⟩
  have ph:j<l.length*s:=by simpa using hj
  have hx:∃ x,(D.flat (l.map f))[j]?=some x:=by
   have:j<(D.flat (l.map f)).length:=by rw[CQ hp.len];exact ph
   exact⟨_,aaV this⟩
  obtain⟨x,hx⟩:=hx
  obtain⟨h5,h6⟩:=Fp hp hx
  have SM:j<arr.size:=by
   rw[q3];rw[aa4] at f2
   exact aa_ ph (abg s f2)
  have h7:=Kj h6 (q5 j x arr[j] hx (acx SM))
  rw[aeh (flatK (n9 f) s l.toArray) j hj]
  have h8:(flatK (n9 f) s l.toArray)[j]=sw x:=(abd.1 h5).2
  rw[h8,←h7]
  have h9:w.cell? ⟨b0,0+j,none⟩=some arr[j]:=by simp[World.cell?,q2,SM]
  exact⟨h9,by simp[World.frozen?,q2]⟩
end
end Go.Proofs.YtjdnbobilgamdaaGreatDoor.Ab
end
section
namespace Go.Proofs.YtjdnbobilgamdaaGreatDoor.Ab
open Go Go.Sort
section
variable {α:Type}[Inhabited α]{f:α→D}{A4:α→Value}
theorem yT(he:∀ x,n9 f x=[A4 x])(l:List α)(k:Nat)(h:k<l.length):(flatK (n9 f) 1 l.toArray)[k]! =A4 (l.toArray[k]!):=by
 rw[get_flatK _ _ _ _ (by simpa using h),Nat.div_one,Nat.mod_one,he];rfl
theorem PG(he:∀ x,n9 f x=[A4 x])(w:World)(b:Nat)(l:List α):putRowK (n9 f) 1 w b 0 l.toArray=putRow A4 w b 0 l.toArray:=by
 unfold putRowK putRow
 congr 1
 funext c
 unfold putCells
 apply Array.ext_getElem?
 intro k
 simp only[Array.getElem?_mapIdx,size_flatK,adE,abY,acp,true_and,adW]
 cases c[k]? with
 |none=>rfl
 |some x=>
  simp only[abN]
  by_cases hk:k<l.toArray.size
  ·rw[aa2 hk,aa2 hk,yT he l k (by simpa using hk)];rfl
  ·rw[aa7 hk,aa7 hk]
theorem SS(he:∀ x,n9 f x=[A4 x]){w:World}{b:Nat}{l:List α}(h:HoldsK (n9 f) 1 w b 0 l.toArray):Holds A4 w b 0 l.toArray:=fun j hj=>by
 have h1:=h j (by simpa using hj)
 rw[yT he l j (by simpa using hj)] at h1
 exact h1
structure HH(P:Program)(fs:FuncId)(A4:α→Value)(lt:α→α→Bool):Prop where
 nil:∀ p cap w,Calls P fs #[.slice p 0 cap] w fun e w'=>e=.returned (.tuple #[])∧w'=w
 row:∀ b cap (l:List α) w,Holds A4 w b 0 l.toArray→b<w.heap.size→l.length<4611686018427387904→
  Calls P fs #[.slice (some ⟨b,0,none⟩) l.length cap] w fun e w'=>e=.returned (.tuple #[])∧∃ n os,w'=grow (putRow A4 (Sort.ahead w n) b 0 (l.mergeSort fun x y=>!lt y x).toArray) os
theorem aJ.Vx{P:Program}{fs:FuncId}{lt:α→α→Bool}{e:TypeId}{l:List α}(hS:HH P fs A4 lt)(hp:Pl f 1)(he:∀ x,n9 f x=[A4 x])(hO:SWO lt)(hT:∀ x y,lt x y=false→lt y x=false→x=y)(hlen:l.length<4611686018427387904):
  aJ P fs [.hs 0 0 l.length 1] [.bn (l.map f) e 1] fun r H'=>r=.gd []∧H'=[.bn ((rV lt l).map f) e 1]:=by
 intro g w vals hw hs ha
 obtain⟨v0,rfl⟩:∃ v0,vals=#[v0]:=by
  obtain⟨vs⟩:=vals
  match vs,hs with
  |[a],_=>exact⟨a,rfl⟩
 have h0:=ha 0 _ v0 rfl rfl
 obtain⟨a,cap,rfl,aR⟩:=hw.Vu hp rfl h0
 by_cases hl:l=[]
 ·subst hl
  refine(hS.nil a cap w).mono ?_
  rintro e' w' ⟨rfl,rfl⟩
  exact⟨_,.gd [],g,_,rfl,hw,cG.refl g w',.gd rfl (by simp),rfl,rfl⟩
 ·obtain⟨b,rfl,uh,ji,UH,hX,hH⟩:=aR hl
  refine(hS.row b cap l w (SS he hH) (hw.xs b hX) hlen).mono ?_
  rintro e' w' ⟨rfl,n,os,rfl⟩
  obtain⟨w1,w2⟩:=hw.Yv (id:=0) (l':=rV lt l) hp rfl uh ji (tF _ l) n
  obtain⟨w3,w4⟩:=w1.grown os
  rw[Fq hO hT,←PG he]
  exact⟨_,.gd [],g,_,rfl,w3,w2.trans w4,.gd rfl (by simp),rfl,rfl⟩
end
def n_(x y:Int):Bool:=decide (x<y)
theorem CR:SWO n_ where
 irrefl x:=by simp[n_]
 trans x y z h1 h2:=by simp[n_] at *;omega
 ntrans x y z h1 h2:=by simp[n_] at *;omega
theorem Fv(x y:Int)(h1:n_ x y=false)(h2:n_ y x=false):x=y:=by simp[n_] at *;omega
theorem aJ.Mo{P:Program}{fs:FuncId}{e:TypeId}{l:List Int}(hS:HH P fs (Value.int .i64) n_)(hlen:l.length<4611686018427387904):
  aJ P fs [.hs 0 0 l.length 1] [.bn (l.map D.i) e 1] fun r H'=>r=.gd []∧H'=[.bn ((rV n_ l).map D.i) e 1]:=
 aJ.Vx hS ⟨fun _=>rfl,fun x c hc=>by simp[D.cells] at hc;subst hc;rfl⟩ (fun _=>rfl) CR Fv hlen
end Go.Proofs.YtjdnbobilgamdaaGreatDoor.Ab
end
section
namespace Go.Proofs.YtjdnbobilgamdaaGreatDoor.Ab
open Go Go.RowKit
structure Vy(P:Program)(fs:FuncId)(e:TypeId)(s bytes:Nat):Prop where
 zero:∀ w,Calls P fs #[.slice none 0 0,.int .i64 0] w fun r w'=>r=.returned (.slice none 0 0)∧w'=w
 more:∀ (n:Nat) w,0<n→n*bytes≤140737488355328→n≤4611686018427387904→Calls P fs #[.slice none 0 0,.int .i64 n] w fun r w'=>
  ∃ C arr,r=.returned (.slice (some ⟨w.heap.size,0,none⟩) 0 C)∧w'=w.drew.alloc (.cells arr e)∧arr.size=C*s∧C≤9223372036854775807
theorem aJ.grow{P:Program}{fs:FuncId}{e:TypeId}{s bytes:Nat}{H:List HE}{n:Int}(hG:Vy P fs e s bytes)(h0:0≤n)(h1:n*bytes≤140737488355328)(h2:n≤4611686018427387904):
  aJ P fs [.nil,.d (.int .i64 n)] H fun r H'=>r=.hs H.length 0 0 s∧H'=H++[.bn [] e s]:=by
 intro g w vals hw hs ha
 obtain⟨v0,v1,rfl⟩:∃ v0 v1,vals=#[v0,v1]:=by
  obtain⟨vs⟩:=vals
  match vs,hs with
  |[a,b],_=>exact⟨a,b,rfl⟩
 have r0:=ha 0 _ v0 rfl rfl
 have r1:=ha 1 _ v1 rfl rfl
 cases r0
 cases r1 with
 |d r1=>
  cases r1
  obtain⟨m,rfl⟩:∃ m:Nat,n=m:=⟨n.toNat,by omega⟩
  by_cases hm:m=0
  ·subst hm
   refine(hG.zero w).mono ?_
   rintro r w' ⟨rfl,rfl⟩
   obtain⟨g',w1,w2,w3⟩:=hw.DL (s:=s) (e:=e) (ad:=none)
   exact⟨_,_,g',_,rfl,w1,w2,.hs w3 (fun _=>⟨rfl,rfl,rfl,aaZ _⟩),rfl,rfl⟩
  ·refine(hG.more m w (by omega) (by rw[←Int.natCast_mul] at h1;omega) (by omega)).mono ?_
   rintro r w' ⟨C,arr,rfl,rfl,h3,h4⟩
   obtain⟨g',w1,w2,w3⟩:=hw.il.AB (w':=w.drew.alloc (.cells arr e)) (id:=H.length) (l:=[]) (s:=s) (cap:=C) (arr:=arr) (et:=e) (by simp) ⟨rfl,rfl,rfl⟩ rfl (acp _) h4 h3 (fun k x v hx _=>by simp[D.flat] at hx)
   rw[mO] at w1
   exact⟨_,_,g',_,rfl,w1,w2,.hs w3 (fun _=>⟨rfl,rfl,rfl,by omega⟩),rfl,rfl⟩
section
variable {P:Program}{ρ:Operand→V}{H:List HE}{ty:TypeId}
end
inductive A5(ρ:Operand→V):List Operand→List V→Prop
 |nil:A5 ρ [] []
 |i {x:Operand} {xs:List Operand} {v:V} {vs:List V}:Is (ρ x) v→A5 ρ xs vs→A5 ρ (x::xs) (v::vs)
 |a {x:Operand} {xs:List Operand} {d:D} {vs:List V}:As (ρ x) d→A5 ρ xs vs→A5 ρ (x::xs) (.d d::vs)
theorem A5.get{ρ:Operand→V}{xs:List Operand}{vs:List V}(h:A5 ρ xs vs):xs.length=vs.length∧∀ (i:Nat) v,vs[i]?=some v→∃ x,xs[i]?=some x∧∀ {g w r},cu g w (ρ x) r→cu g w v r:=by
 induction h with
 |nil=>exact⟨rfl,fun i v h=>by simp at h⟩
 |i hx _ ih=>
  refine⟨by simp[ih.1],fun i v hv=>?_⟩
  cases i with
  |zero=>simp only[aa',aaW] at hv;subst hv;exact⟨_,rfl,fun h=>hx.rep h⟩
  |succ i=>exact ih.2 i v (by simpa using hv)
 |a hx _ ih=>
  refine⟨by simp[ih.1],fun i v hv=>?_⟩
  cases i with
  |zero=>simp only[aa',aaW] at hv;subst hv;exact⟨_,rfl,fun h=>.d (hx.rep h)⟩
  |succ i=>exact ih.2 i v (by simpa using hv)
section
variable {P:Program}{ρ:Operand→V}{H:List HE}{ty:TypeId}
end
end Go.Proofs.YtjdnbobilgamdaaGreatDoor.Ab
end
section
namespace Go.Proofs.YtjdnbobilgamdaaGreatDoor.Ab
open Go Go.RowKit
section
variable {P:Program}{ρ:Operand→V}{H:List HE}{ty:TypeId}
end
section
variable {F:FC}{ρ:Operand→V}{H:List HE}{ty:TypeId}
end
end Go.Proofs.YtjdnbobilgamdaaGreatDoor.Ab
end
section
namespace Go.Proofs.YtjdnbobilgamdaaGreatDoor.Ab
open Go Go.RowKit
section
variable {P:Program}{ρ:Operand→V}{H:List HE}{ty:TypeId}
end
end Go.Proofs.YtjdnbobilgamdaaGreatDoor.Ab
end
section
namespace Go.Proofs.YtjdnbobilgamdaaGreatDoor.Ab
open Go
end Go.Proofs.YtjdnbobilgamdaaGreatDoor.Ab
end
section
namespace Go.Proofs.YtjdnbobilgamdaaGreatDoor.Ab
open Go Go.RowKit
section
variable {P:Program}{ρ:Operand→V}{H:List HE}{ty:TypeId}
end
end Go.Proofs.YtjdnbobilgamdaaGreatDoor.Ab
end
section
namespace Go.Proofs.YtjdnbobilgamdaaGreatDoor.Ab
open Go
def Gh(F:FC)(s s':St):Prop:=∀ a w,jv F s a w→jv F s' a w
def GS(F:FC)(K:St→Prop)(s:St):Prop:=∀ a w,jv F s a w→∃ s',jv F s' a w∧K s'
section
variable {F:FC}{Q:Exit→St→Prop}{K:St→Prop}{c y:Code}{st s s':St}{ops:Array Oper}{os:List Oper}
theorem GS.nil(h:K s):GS F K s:=fun _ _ hs=>⟨s,hs,h⟩
theorem Gh.wok{E:Nat→V}{H H':List HE}(h:∀ g w,aQ g w H→∃ g',aQ g' w H'∧cG g w g' w):Gh F ⟨E,H⟩ ⟨E,H'⟩:=fun _ w ⟨h1,h2,g,h3,h4,h5⟩=>by
 obtain⟨g',k1,k2⟩:=h g w h3
 exact⟨h1,h2,g',k1,h4.trans k2,fun i=>(h5 i).mono k2⟩
end
theorem aQ.Vz{g g':G}{w w':World}{H H':List HE}(K:Nat→Prop)(hw:aQ g w H)(he:cG g w g' w')(hl:H'.length=H.length)(Yo:∀ i,K i→i<H.length)(hH:∀ i,¬K i→H'[i]?=H[i]?)
  (hg:∀ i,¬K i→g'.σ i=g.σ i∧g'.τ i=g.τ i∧g'.υ i=g.υ i)(hX:∀ i e b,¬K i→H[i]?=some e→g.aD i e b→g'.X b)(Vn:∀ b,g'.X b→b<w'.heap.size)(Vo:∀ b o,g'.Pr b o→b<w'.heap.size)
  (hu:∀ i e b,¬K i→H[i]?=some e→g.aD i e b→w'.heap[b]?=w.heap[b]?∧∀ o,g'.Pr b o→g.Pr b o)
  (hb:∀ i e b,K i→H'[i]?=some e→g'.aD i e b→g'.X b∧∀ i0 e0,¬K i0→H[i0]?=some e0→¬g.aD i0 e0 b)
  (hs:∀ i i' e e' b,K i→K i'→H'[i]?=some e→H'[i']?=some e'→g'.aD i e b→g'.aD i' e' b→i=i')
  (hE:∀ i e,K i→H'[i]?=some e→e=.dead∨(∃ x,e=.ob x∧∃ b,g'.σ i=some b∧x.φ g' w' i b∧(∀ o,¬g'.Pr b o)∧∀ b' o,g'.υ i b'→¬g'.Pr b' o)∨
   ∃ l t s,e=.bn l t s∧∃ a cap,g'.τ i=some (0,a,cap)∧l.length≤cap∧cap≤9223372036854775807∧(0<cap→∃ b arr,a=some ⟨b,0,none⟩∧g'.σ i=some b∧w'.heap[b]?=some (.cells arr t (0,0))∧arr.size=cap*s∧(∀ o,¬g'.Pr b o)∧
    (∀ (k:Nat) x v,(D.flat l)[k]?=some x→arr[k]?=some v→aV g'.Pr w' x v))):aQ g' w' H':=by
 classical
 have hblk:∀ i e b,¬K i→(g'.aD i e b↔g.aD i e b):=fun i e b hi=>by
  obtain⟨q1,q2,q3⟩:=hg i hi
  cases e<;>simp only[G.aD,q1,q2,q3]
 refine⟨Vo,Vn,?_,?_,?_,?_,?_,?_,?_,hw.Ca he⟩
 ·exact au
 ·intro i i' e e' b h1 h2 h3 h4
  by_cases hi:K i<;>by_cases uC:K i'
  ·exact au
  ·exact au
  ·exact au
  ·exact hw.sep i i' e e' b ((hH i hi)▸h1) ((hH i' uC)▸h2) ((hblk i e b hi).1 h3) ((hblk i' e' b uC).1 h4)
 ·intro i c h
  by_cases hi:K i
  ·exact au
  ·have h':=(hH i hi)▸h
   obtain⟨q1,q2,q3⟩:=hg i hi
   obtain⟨b1,dx,sj,g1,g2,g3,g4,g5⟩:=hw.row i c h'
   obtain⟨u1,u2⟩:=hu i _ b1 hi h' (by simpa[G.aD] using g1)
   exact⟨b1,dx,sj,q1▸g1,u1.trans g2,g3,fun k x v hx hv=>(g4 k x v hx hv).mono he,fun o hp=>g5 o (u2 o hp)⟩
 ·intro i n e s h
  by_cases hi:K i
  ·exact au
  ·have h':=(hH i hi)▸h
   obtain⟨q1,q2,q3⟩:=hg i hi
   obtain⟨a,cap,g1,g2,g3,g4⟩:=hw.tok i n e s h'
   refine⟨a,cap,q2▸g1,g2,g3,fun aN=>?_⟩
   obtain⟨b1,dx,k1,k2,k3,k4⟩:=g4 aN
   obtain⟨u1,u2⟩:=hu i _ b1 hi h' (by simp[G.aD,g1,aN,k1])
   exact au
 ·intro i l e s h
  by_cases hi:K i
  ·exact au
  ·have h':=(hH i hi)▸h
   obtain⟨q1,q2,q3⟩:=hg i hi
   obtain⟨a,cap,g1,g2,g3,g4⟩:=hw.bn i l e s h'
   refine⟨a,cap,q2▸g1,g2,g3,fun aN=>?_⟩
   obtain⟨b1,dx,k1,k0,k2,k3,k4,k5⟩:=g4 aN
   obtain⟨u1,u2⟩:=hu i _ b1 hi h' (by simp[G.aD,g1,aN,k1])
   exact⟨b1,dx,k1,q1▸k0,u1.trans k2,k3,fun o hp=>k4 o (u2 o hp),fun k x v hx hv=>(k5 k x v hx hv).mono he.pr⟩
 ·intro i x h
  by_cases hi:K i
  ·exact au
  ·have h':=(hH i hi)▸h
   obtain⟨q1,q2,q3⟩:=hg i hi
   obtain⟨b1,k1,k2,k3,k4⟩:=hw.ob i x h'
   obtain⟨u1,u2⟩:=hu i _ b1 hi h' (.inl k1)
   refine⟨b1,q1▸k1,x.st he.w q2 q3 u1 (fun b' dD=>(hu i _ b' hi h' (.inr dD)).1) k2,fun o hp=>k3 o (u2 o hp),fun b' o dD hp=>?_⟩
   rw[q3] at dD
   exact k4 b' o dD ((hu i _ b' hi h' (.inr dD)).2 o hp)
 ·intro i h
  have hi:¬K i:=fun hi=>by
   exact au
  obtain⟨q1,q2,q3⟩:=hg i hi
  rw[q1,q2,q3]
  exact hw.free i (h.imp (fun h=>(hH i hi)▸h) (fun h=>by omega))
theorem aQ.Yz{g g':G}{w w':World}{H H':List HE}(K:Nat→Prop)(hw:aQ g w H)(he:cG g w g' w')(hl:H'.length=H.length)(Yo:∀ i,K i→i<H.length)(hH:∀ i,¬K i→H'[i]?=H[i]?)
  (hg:∀ i,¬K i→g'.σ i=g.σ i∧g'.τ i=g.τ i∧g'.υ i=g.υ i)(hX:∀ i e b,¬K i→H[i]?=some e→g.aD i e b→g'.X b)(Vn:∀ b,g'.X b→b<w'.heap.size)(Vo:∀ b o,g'.Pr b o→b<w'.heap.size)
  (hu:∀ i e b,¬K i→H[i]?=some e→g.aD i e b→w'.heap[b]?=w.heap[b]?∧∀ o,g'.Pr b o→g.Pr b o)
  (hb:∀ i e b,K i→H'[i]?=some e→g'.aD i e b→g'.X b∧∃ i0 e0,K i0∧H[i0]?=some e0∧g.aD i0 e0 b)
  (hs:∀ i i' e e' b,K i→K i'→H'[i]?=some e→H'[i']?=some e'→g'.aD i e b→g'.aD i' e' b→i=i')
  (hE:∀ i e,K i→H'[i]?=some e→e=.dead∨(∃ x,e=.ob x∧∃ b,g'.σ i=some b∧x.φ g' w' i b∧(∀ o,¬g'.Pr b o)∧∀ b' o,g'.υ i b'→¬g'.Pr b' o)∨
   ∃ l t s,e=.bn l t s∧∃ a cap,g'.τ i=some (0,a,cap)∧l.length≤cap∧cap≤9223372036854775807∧(0<cap→∃ b arr,a=some ⟨b,0,none⟩∧g'.σ i=some b∧w'.heap[b]?=some (.cells arr t (0,0))∧arr.size=cap*s∧(∀ o,¬g'.Pr b o)∧
    (∀ (k:Nat) x v,(D.flat l)[k]?=some x→arr[k]?=some v→aV g'.Pr w' x v))):aQ g' w' H':=
 aQ.Vz K hw he hl Yo hH hg hX Vn Vo hu (fun i e b hi h1 h2=>by
  obtain⟨q1,j,f,q2,q3,q4⟩:=hb i e b hi h1 h2
  exact⟨q1,fun i0 e0 G6 h3 h4=>G6 (hw.sep j i0 f e0 b q3 h3 q4 h4▸q2)⟩) hs hE
inductive wB where
 |own (l:List D)
 |Ko (n len:Nat)
abbrev Hd:=Option Addr×Nat×Nat
def VA(h:Hd):Value:=.slice h.1 h.2.1 h.2.2
def hdD(h:Hd):D:=.raw (VA h)
def zt(g:G)(w:World)(id b:Nat)(e:TypeId):wB→Hd→Prop
 |.own l,h=>h.2.1=l.length∧l.length≤h.2.2∧h.2.2≤9223372036854775807∧(0<h.2.2→∃ br arr,h.1=some ⟨br,0,none⟩∧g.υ id br∧br≠b∧w.heap[br]?=some (.cells arr e (0,0))∧arr.size=h.2.2∧
   ∀ (k:Nat) x u,l[k]?=some x→arr[k]?=some u→aV g.Pr w x u)
 |.Ko n len,h=>∃ m a cap,g.τ n=some (m,a,cap)∧(m=0→h=(a,len,cap)∧len≤cap)
def Kp(h:Hd):Option Nat:=if 0<h.2.2 then h.1.map (·.block) else none
def wB.Rv:wB→Bool
 |.own _=>true
 |.Ko _ _=>false
theorem zt.JV{g g':G}{w:World}{i j b:Nat}{e:TypeId}{r:wB}{v:Hd}(hr:r.Rv=true)(hP:g'.Pr=g.Pr)(hu:g'.υ j=g.υ i)(h:zt g w i b e r v):zt g' w j b e r v:=by
 cases r with
 |own l=>unfold zt at h ⊢;rw[hP,hu];exact h
 |Ko n len=>cases hr
theorem zt.mono{g g':G}{w w':World}{id id' b b1:Nat}{e:TypeId}{r:wB}{v:Hd}(he:Dx g w g' w')(hu:∀ l b',r=.own l→Kp v=some b'→g.υ id b'→b'≠b→g'.υ id' b'∧b'≠b1)(ho:∀ b',g.υ id b'→b'≠b→w'.heap[b']?=w.heap[b']?)
  (h:zt g w id b e r v):zt g' w' id' b1 e r v:=by
 cases r with
 |own l=>
  obtain⟨h1,h2,h3,h4⟩:=h
  refine⟨h1,h2,h3,fun hc=>?_⟩
  obtain⟨br,arr,k1,k2,k3,k4,k5,k6⟩:=h4 hc
  obtain⟨u1,u2⟩:=hu l br rfl (by simp[Kp,hc,k1]) k2 k3
  exact⟨br,arr,k1,u1,u2,(ho _ k2 k3).trans k4,k5,fun k x u hx lO=>(k6 k x u hx lO).mono he.pr⟩
 |Ko n len=>
  obtain⟨m,a,cap,h1,h2⟩:=h
  obtain⟨m',a',eZ,k1,k2⟩:=he.τ n m a cap h1
  refine⟨m',a',eZ,k1,fun h0=>?_⟩
  rcases k2 with k2|⟨q1,q2,q3⟩
  ·omega
  ·exact au
structure Mp where
 C:G→World→Nat→Nat→List Hd→Prop
 st:∀ {g g':G} {w w':World} {id b:Nat} {Vs:List Hd},Dx g w g' w'→g'.τ id=g.τ id→w'.heap[b]?=w.heap[b]?→C g w id b Vs→C g' w' id b Vs
 fr:Bool
 JV:fr=true→∀ {g g':G} {w:World} {i j b:Nat} {Vs:List Hd},g'.Pr=g.Pr→g'.τ j=g.τ i→C g w i b Vs→C g' w j b Vs
structure XB(C:Mp)(e:TypeId)(R:List wB)(g:G)(w:World)(id b:Nat)(Vs:List Hd):Prop where
 XC:¬g.υ id b
 c:C.C g w id b Vs
 len:Vs.length=R.length
 row:∀ (k:Nat) r v,R[k]?=some r→Vs[k]?=some v→zt g w id b e r v
 Mi:∀ (k k':Nat) l l' v v' B,k≠k'→R[k]?=some (.own l)→R[k']?=some (.own l')→Vs[k]?=some v→Vs[k']?=some v'→Kp v=some B→Kp v'=some B→False
def cO(C:Mp)(e:TypeId)(R:List wB):OB where
 φ:=fun g w id b=>∃ Vs,XB C e R g w id b Vs
 st:=fun he ht hu hb ho ⟨Vs,h⟩=>⟨Vs,by rw[hu];exact h.XC,C.st he ht hb h.c,h.len,fun k r v hr hv=>(h.row k r v hr hv).mono he (fun _ b' _ _ dD xE=>⟨by rw[hu];exact dD,xE⟩) (fun b' dD _=>ho b' dD),h.Mi⟩
 fr:=C.fr&&R.all wB.Rv
 JV:=fun h {g g' w i j b} hP uh hu ⟨Vs,k⟩=>by
  obtain⟨f1,f2⟩:=Bool.and_eq_true_iff.1 h
  exact⟨Vs,by rw[hu];exact k.XC,C.JV f1 hP uh k.c,k.len,fun q r v hr hv=>(k.row q r v hr hv).JV (abi.1 f2 r (abc hr)) hP hu,k.Mi⟩
section
variable {H:List HE}{C:Mp}{e:TypeId}{R:List wB}
end
end Go.Proofs.YtjdnbobilgamdaaGreatDoor.Ab
end
section
namespace Go.Proofs.YtjdnbobilgamdaaGreatDoor.Ab
open Go
theorem aQ.reX{g:G}{w:World}{H:List HE}(hw:aQ g w H){X':Nat→Prop}(h1:∀ i e b,H[i]?=some e→g.aD i e b→X' b)(h2:∀ b,X' b→b<w.heap.size)(h3:∀ x∈KC,¬X' x.1):aQ {g with X:=X' } w H:=by
 have he:Dx g w {g with X:=X' } w:=⟨fun b o h=>⟨h,rfl⟩,fun _ _ h=>h,fun id m a cap h=>⟨m,a,cap,h,.inr ⟨rfl,rfl,rfl⟩⟩⟩
 have hb:∀ i e b,G.aD {g with X:=X' } i e b↔g.aD i e b:=fun i e b=>by cases e<;>exact Iff.rfl
 refine⟨hw.pr,h2,fun i e b hi h=>h1 i e b hi ((hb i e b).1 h),fun i i' e e' b hi uC h h'=>hw.sep i i' e e' b hi uC ((hb i e b).1 h) ((hb i' e' b).1 h'),fun i c hi=>?_,hw.tok,hw.bn,fun i x hi=>?_,hw.free,fun x hx=>?_⟩
 ·obtain⟨b,arr,et,e1,e2,e3,e4,e5⟩:=hw.row i c hi
  exact⟨b,arr,et,e1,e2,e3,fun k x v hx hv=>(e4 k x v hx hv).Rg he,e5⟩
 ·obtain⟨b,q1,q2,q3,q4⟩:=hw.ob i x hi
  exact⟨b,q1,x.st he rfl rfl rfl (fun _ _=>rfl) q2,q3,q4⟩
 ·obtain⟨_,q2,q3⟩:=hw.kc x hx
  exact⟨h3 x hx,q2,q3⟩
def HI(eo:TypeId)(s:Nat)(L:List Hd→List D):Mp where
 C:=fun g w id b Vs=>∃ cap arr,g.τ id=some (0,some ⟨b,0,none⟩,cap)∧(L Vs).length≤cap∧0<cap∧cap≤9223372036854775807∧w.heap[b]?=some (.cells arr eo (0,0))∧arr.size=cap*s∧∀ (k:Nat) x v,(D.flat (L Vs))[k]?=some x→arr[k]?=some v→aV g.Pr w x v
 st:=fun he ht hb ⟨cap,arr,h1,h2,h3,h4,h5,h6,h7⟩=>⟨cap,arr,ht.trans h1,h2,h3,h4,hb.trans h5,h6,fun k x v hx hv=>(h7 k x v hx hv).mono he.pr⟩
 fr:=true
 JV:=fun _ {g g' w i j b Vs} hP uh ⟨cap,arr,h1,h2⟩=>⟨cap,arr,uh.trans h1,by rw[hP];exact h2⟩
section
variable {H:List HE}{e eo:TypeId}{s:Nat}{L:List Hd→List D}{R:List wB}
theorem aQ.VB{g:G}{w:World}{id:Nat}(hw:aQ g w H)(hH:H[id]?=some (.ob (cO (HI eo s L) e R))):
  ∃ b Vs g1,g.σ id=some b∧XB (HI eo s L) e R g w id b Vs∧aQ g1 w (H.set id (.bn (L Vs) eo s))∧g1.Pr=g.Pr∧g1.σ=g.σ∧g1.τ=g.τ∧∀ b',g1.X b'↔g.X b'∧¬g.υ id b':=by
 have eC:id<H.length:=(aaS.1 hH).1
 obtain⟨b,k1,⟨Vs,k2⟩,k3,k4⟩:=hw.ob id _ hH
 obtain⟨cap,arr,c1,c2,c3,c4,c5,c6,c7⟩:=k2.c
 let g0:G:={g with υ:=fun i b'=>i≠id∧g.υ i b' }
 have bK:cG g w g0 w:={
  same:=⟨rfl,rfl,rfl⟩
  size:=aaZ _
  pr:=fun b o hp=>⟨hp,rfl⟩
  pK:=fun b o h=>.inl h
  x:=fun b h=>.inl h
  aY:=fun b _ _=>rfl
  σ:=fun _ _ h=>h
  τ:=fun _ m a cap h=>⟨m,a,cap,h,.inr ⟨rfl,rfl,rfl⟩⟩}
 have hblk:∀ b',g0.aD id (.bn (L Vs) eo s) b'→b'=b:=fun b' h=>by
  have h':((g.τ id).bind fun t=>if 0<t.2.2 then t.2.1.map (·.block) else none)=some b':=h
  rw[c1] at h'
  simp[c3] at h'
  exact h'.symm
 have w0:aQ g0 w (H.set id (.bn (L Vs) eo s)):=by
  refine aQ.Yz (fun i=>i=id) hw bK (by simp) (fun i h=>h▸eC) (fun i h=>abR (acN h)) (fun i h=>⟨rfl,rfl,by funext b';simp[g0,h]⟩) (fun i e b _ h1 h2=>hw.aD i e b h1 h2) hw.xs hw.pr (fun _ _ _ _ _ _=>⟨rfl,fun _ h=>h⟩) ?_ (fun i i' _ _ _ h h' _ _ _ _=>h.trans h'.symm) ?_
  ·rintro i x b' rfl h1 h2
   rcases jV eC h1 with ⟨_,rfl⟩|⟨h,_⟩
   ·rw[hblk b' h2]
    exact⟨hw.aD i _ b hH (.inl k1),i,_,rfl,hH,.inl k1⟩
   ·exact absurd rfl h
  ·rintro i x rfl h1
   rcases jV eC h1 with ⟨_,rfl⟩|⟨h,_⟩
   ·exact .inr (.inr ⟨_,_,_,rfl,some ⟨b,0,none⟩,cap,c1,c2,c4,fun _=>⟨b,arr,rfl,k1,c5,c6,k3,c7⟩⟩)
   ·exact absurd rfl h
 refine⟨b,Vs,{g0 with X:=fun b'=>g.X b'∧¬g.υ id b' },k1,k2,w0.reX (fun i x b' hi hb=>⟨w0.aD i x b' hi hb,fun hu=>?_⟩) (fun b' h=>hw.xs b' h.1) (fun x hx h=>(hw.kc x hx).1 h.1),rfl,rfl,rfl,fun _=>Iff.rfl⟩
 rcases jV eC hi with ⟨rfl,rfl⟩|⟨aR,hi⟩
 ·rw[hblk b' hb] at hu;exact k2.XC hu
 ·have dD:g.aD i x b':=by
   cases x<;>simp only[G.aD,g0] at hb ⊢<;>first|exact hb|exact hb.imp (fun h=>h) fun h=>h.2
  exact aR (hw.sep i id x _ b' hi hH dD (.inr hu))
theorem aQ.Mq{g g1 g':G}{w w':World}{id n b:Nat}{Vs SU:List Hd}{L':List Hd→List D}{R':List wB}{H':List HE}(hw:aQ g w H)(hH:H[id]?=some (.ob (cO (HI eo s L) e R)))
  (hC:XB (HI eo s L) e R g w id b Vs)(p1:g1.Pr=g.Pr)(p2:g1.σ=g.σ)(p3:g1.τ=g.τ)(p4:∀ b',g1.X b'↔g.X b'∧¬g.υ id b')(lN:aQ g' w' H')(he:cG g1 w g' w')(hn:H'[n]?=some (.bn (L' SU) eo s))(aR:L' SU≠[])
  (hlen:SU.length=R'.length)
  (k_:∀ (k:Nat) r v,R'[k]?=some r→SU[k]?=some v→(∃ k0:Nat,R[k0]?=some r∧Vs[k0]?=some v)∨(r=.own []∧v=(none,0,0))∨(∃ nn len,r=.Ko nn len∧zt g w id b e r v))
  (YA:∀ (k k':Nat) l l' v v' B,k≠k'→R'[k]?=some (.own l)→R'[k']?=some (.own l')→SU[k]?=some v→SU[k']?=some v'→Kp v=some B→Kp v'=some B→False):
  ∃ g2,aQ g2 w' (H'.set n (.ob (cO (HI eo s L') e R')))∧cG g w g2 w'∧Dx g' w' g2 w'∧Dx g w g2 w':=by
 have Po:n<H'.length:=(aaS.1 hn).1
 have YB:∀ b',g.υ id b'→g.X b':=fun b' h=>hw.aD id _ b' hH (.inr h)
 have XD:∀ b',g.υ id b'→b'<w.heap.size:=fun b' h=>hw.xs b' (YB b' h)
 have hUn:∀ b',g.υ id b'→¬g'.X b':=fun b' h hx=>by
  rcases he.x b' hx with h2|h2
  ·exact((p4 b').1 h2).2 h
  ·have:=XD b' h;omega
 have hUh:∀ b',g.υ id b'→w'.heap[b']?=w.heap[b']?:=fun b' h=>he.aY b' (XD b' h) (fun hx=>((p4 b').1 hx).2 h)
 have hUp:∀ b' o,g.υ id b'→¬g'.Pr b' o:=fun b' o h hp=>by
  rcases he.pK b' o hp with h2|h2|h2
  ·rw[p1] at h2
   obtain⟨_,_,_,_,q4⟩:=hw.ob id _ hH
   exact q4 b' o h h2
  ·exact((p4 b').1 h2).2 h
  ·have:=XD b' h;omega
 have w1:aQ {g' with X:=fun b'=>g'.X b'∨g.υ id b' } w' H':=lN.reX (fun i x b' hi hb=>.inl (lN.aD i x b' hi hb)) (fun b' h=>by
  rcases h with h|h
  ·exact lN.xs b' h
  ·exact aa_ (XD b' h) he.size) (fun x hx h=>by
  rcases h with h|h
  ·exact(lN.kc x hx).1 h
  ·exact(hw.kc x hx).1 (YB _ h))
 obtain⟨a,cap,f1,f2,f3,f4⟩:=lN.bn n _ _ _ hn
 have qx:=abA.2 aR
 obtain⟨b0,arr,rfl,q0,q2,q3,q4,q5⟩:=f4 (by omega)
 have VC:g'.X b0:=lN.aD n _ b0 hn (by simp[G.aD,f1,show 0<cap by omega])
 have VD:¬g.υ id b0:=fun h=>hUn b0 h VC
 let g2:G:={g' with X:=fun b'=>g'.X b'∨g.υ id b',υ:=fun i b'=>if i=n then g.υ id b' else g'.υ i b' }
 have bK:cG {g' with X:=fun b'=>g'.X b'∨g.υ id b' } w' g2 w':={
  same:=⟨rfl,rfl,rfl⟩
  size:=aaZ _
  pr:=fun b o hp=>⟨hp,rfl⟩
  pK:=fun b o h=>.inl h
  x:=fun b h=>.inl h
  aY:=fun b _ _=>rfl
  σ:=fun _ _ h=>h
  τ:=fun _ m a cap h=>⟨m,a,cap,h,.inr ⟨rfl,rfl,rfl⟩⟩}
 have XE:cG g w g2 w':={
  same:=he.same
  size:=he.size
  pr:=fun b o hp=>he.pr b o (by rw[p1];exact hp)
  pK:=fun b o h=>by
   rcases he.pK b o h with h2|h2|h2
   ·exact .inl (by rw[←p1];exact h2)
   ·exact .inr (.inl ((p4 b).1 h2).1)
   ·exact .inr (.inr h2)
  x:=fun b h=>by
   rcases h with h|h
   ·rcases he.x b h with h2|h2
    ·exact .inl ((p4 b).1 h2).1
    ·exact .inr h2
   ·exact .inl (YB b h)
  aY:=fun b hs hx=>he.aY b hs (fun h=>hx ((p4 b).1 h).1)
  σ:=fun i b h=>he.σ i b (by rw[p2];exact h)
  τ:=fun i m a cap h=>he.τ i m a cap (by rw[p3];exact h)}
 refine⟨g2,?_,XE,⟨fun b o h=>⟨h,rfl⟩,fun _ _ h=>h,fun _ m a cap h=>⟨m,a,cap,h,.inr ⟨rfl,rfl,rfl⟩⟩⟩,XE.w⟩
 have Rw:∀ b',g2.aD n (.ob (cO (HI eo s L') e R')) b'→b'=b0∨g.υ id b':=fun b' h=>by
  rcases h with h|h
  ·have h':g'.σ n=some b':=h
   rw[q0] at h';exact .inl (aa5 h').symm
  ·simp only[g2] at h;exact .inr h
 refine aQ.Vz (fun i=>i=n) w1 bK (by simp) (fun i h=>h▸Po) (fun i h=>abR (acN h)) (fun i h=>⟨rfl,rfl,by funext b';simp[g2,h]⟩) (fun i e b _ h1 h2=>w1.aD i e b h1 h2) w1.xs w1.pr (fun _ _ _ _ _ _=>⟨rfl,fun _ h=>h⟩) ?_ (fun i i' _ _ _ h h' _ _ _ _=>h.trans h'.symm) ?_
 ·rintro i x b' rfl h1 h2
  rcases jV Po h1 with ⟨_,rfl⟩|⟨h,_⟩
  rotate_left
  ·exact absurd rfl h
  have hx:g2.X b':=by
   rcases Rw b' h2 with rfl|h
   ·exact .inl VC
   ·exact .inr h
  refine⟨hx,fun i0 e0 G6 h3 h4=>?_⟩
  have h4':g'.aD i0 e0 b':=by cases e0<;>exact h4
  rcases Rw b' h2 with rfl|h
  ·exact G6 (lN.sep i0 i e0 _ b' h3 hn h4' (by simp[G.aD,f1,show 0<cap by omega]))
  ·exact hUn b' h (lN.aD i0 e0 b' h3 h4')
 ·rintro i x rfl h1
  rcases jV Po h1 with ⟨_,rfl⟩|⟨h,_⟩
  rotate_left
  ·exact absurd rfl h
  refine .inr (.inl ⟨_,rfl,b0,q0,⟨SU,?_,⟨cap,arr,f1,f2,by omega,f3,q2,q3,q5⟩,hlen,fun k r v hr hv=>?_,YA⟩,q4,fun b' o hu=>?_⟩)
  ·simp only[g2];exact VD
  ·rcases k_ k r v hr hv with ⟨k0,h1,h2⟩|⟨rfl,rfl⟩|⟨nn,len,rfl,h2⟩
   ·exact(hC.row k0 r v h1 h2).mono XE.w (fun l b' SF hB hu aak=>⟨by simp only[g2];exact hu,fun e2=>VD (e2▸hu)⟩) (fun b' hu _=>hUh b' hu)
   ·exact⟨rfl,aaZ _,by simp,fun h=>absurd h (by simp)⟩
   ·exact h2.mono XE.w (fun l b' SF=>by cases SF) (fun b' hu _=>hUh b' hu)
  ·simp only[g2] at hu
   exact hUp b' o hu
end
section
variable {P:Program}{ρ:Operand→V}{H:List HE}{ty:TypeId}{e eo:TypeId}{s:Nat}{L L':List Hd→List D}{R R':List wB}
end
end Go.Proofs.YtjdnbobilgamdaaGreatDoor.Ab
end
section
namespace Go.Proofs.YtjdnbobilgamdaaGreatDoor.Ab
open Go
section
variable {α:Type}
def XF:List Hd→List D:=fun Vs=>Vs.map hdD
def LB(f:α→D)(m:List (List α)):Option (Nat×Nat×Nat)→List wB
 |none=>m.map fun r=>.own (r.map f)
 |some y=>(m.map fun r=>.own (r.map f)).set y.1 (.Ko y.2.1 y.2.2)
def YC(f:α→D)(e eo:TypeId)(m:List (List α))(y:Option (Nat×Nat×Nat)):HE:=if m=[] then .bn [] eo 1 else .ob (cO (HI eo 1 XF) e (LB f m y))
theorem PJ{f:α→D}{m:List (List α)}{y:Option (Nat×Nat×Nat)}:(LB f m y).length=m.length:=by cases y<;>simp[LB]
end
section
variable {F:FC}{E:Nat→V}{H:List HE}{α:Type}{f:α→D}{e eo:TypeId}{m:List (List α)}
end
section
variable {P:Program}{ρ:Operand→V}{H:List HE}{ty:TypeId}{α:Type}{f:α→D}{e eo:TypeId}{m:List (List α)}{y:Option (Nat×Nat×Nat)}
end
section
variable {H:List HE}{α:Type}{f:α→D}{e eo:TypeId}{m:List (List α)}
end
end Go.Proofs.YtjdnbobilgamdaaGreatDoor.Ab
end
section
namespace Go.Proofs.YtjdnbobilgamdaaGreatDoor.Ab
open Go
section
variable {κ α:Type}[DecidableEq κ]
theorem pz{m:List (κ×List α)}{k:κ}:e_ m k=none↔∀ q∈m,q.1≠k:=by
 induction m with
 |nil=>simp[e_]
 |cons x m ih=>
  unfold e_
  by_cases h:k=x.1
  ·rw[aa2 h];simp[h]
  ·rw[aa7 h,Option.map_eq_none_iff,ih]
   simp[acN h]
end
section
variable {κ α:Type}[DecidableEq κ]{fk:κ→D}{f:α→D}{e:TypeId}
end
section
variable {F:FC}{E:Nat→V}{H:List HE}{κ α:Type}[DecidableEq κ]{fk:κ→D}{f:α→D}{e:TypeId}{m:List (κ×List α)}{L:List (κ×Nat×Nat)}
end
end Go.Proofs.YtjdnbobilgamdaaGreatDoor.Ab
end
section
namespace Go.Proofs.YtjdnbobilgamdaaGreatDoor.Ab
open Go
section
variable {P:Program}{H:List HE}{κ α:Type}[DecidableEq κ]{fk:κ→D}{f:α→D}{kv:κ→Value}{d:TypeDesc}{e:TypeId}
end
section
variable {P:Program}{ρ:Operand→V}{H:List HE}{ty:TypeId}{κ α:Type}[DecidableEq κ]{fk:κ→D}{f:α→D}{kv:κ→Value}{d:TypeDesc}{e:TypeId}{m:List (κ×List α)}{L:List (κ×Nat×Nat)}
end
end Go.Proofs.YtjdnbobilgamdaaGreatDoor.Ab
end
section
namespace Go.Proofs.YtjdnbobilgamdaaGreatDoor.Ab
open Go
section
variable {κ α:Type}[DecidableEq κ]
end
section
variable {P:Program}{ρ:Operand→V}{H:List HE}{ty:TypeId}{κ α:Type}[DecidableEq κ]{fk:κ→D}{f:α→D}{kv:κ→Value}{d:TypeDesc}{e:TypeId}{m:List (κ×List α)}{L L':List (κ×Nat×Nat)}
end
section
variable {F:FC}{E:Nat→V}{H:List HE}{κ α:Type}[DecidableEq κ]{fk:κ→D}{f:α→D}{e:TypeId}{m:List (κ×List α)}
end
end Go.Proofs.YtjdnbobilgamdaaGreatDoor.Ab
end
section
namespace Go.Proofs.YtjdnbobilgamdaaGreatDoor.Ab
open Go
section
variable {κ α:Type}[DecidableEq κ]
end
section
variable {P:Program}{ρ:Operand→V}{H:List HE}{ty:TypeId}{κ α:Type}[DecidableEq κ]{fk:κ→D}{f:α→D}{e:TypeId}{m:List (κ×List α)}{L:List (κ×Nat×Nat)}
end
end Go.Proofs.YtjdnbobilgamdaaGreatDoor.Ab
end
section
namespace Go.Proofs.YtjdnbobilgamdaaGreatDoor.Ab
open Go
theorem zt.pM{g:G}{w:World}{S:List Nat}{i j b:Nat}{e:TypeId}{l:List D}{v:Hd}(hS:S[i]?=some j)(h:zt g w j b e (.own l) v):zt (g.pM S) w i b e (.own l) v:=by
 obtain⟨h1,h2,h3,h4⟩:=h
 refine⟨h1,h2,h3,fun hc=>?_⟩
 obtain⟨br,arr,k1,k2,k3⟩:=h4 hc
 exact⟨br,arr,k1,⟨j,hS,k2⟩,k3⟩
theorem Mr{S:List Nat}{C:Mp}{e:TypeId}{R:List wB}(hC:∀ {g:G} {w:World} {i j b:Nat} {Vs:List Hd},S[i]?=some j→C.C g w j b Vs→C.C (g.pM S) w i b Vs)(hR:∀ r∈R,∃ l,r=.own l):LW S (cO C e R) (cO C e R):=fun{g w i j b} hS Rq=>by
 obtain⟨Vs,h⟩:=Rq
 refine⟨Vs,fun hu=>?_,hC hS h.c,h.len,fun k r v hr hv=>?_,h.Mi⟩
 ·obtain⟨j',h1,h2⟩:=hu
  rw[hS] at h1;injection h1 with h1;subst h1
  exact h.XC h2
 ·obtain⟨l,rfl⟩:=hR r (abc hr)
  exact(h.row k _ v hr hv).pM hS
theorem SV{S:List Nat}{α:Type}{f:α→D}{e eo:TypeId}{m:List (List α)}:LW S (cO (HI eo 1 XF) e (LB f m none)) (cO (HI eo 1 XF) e (LB f m none)):=
 Mr (C:=HI eo 1 XF) (fun{g w i j b Vs} hS ⟨cap,arr,h1,h2⟩=>⟨cap,arr,by simp only[G.pM,hS,aaQ];exact h1,h2⟩) (fun r hr=>by
  simp only[LB] at hr
  obtain⟨q,_,rfl⟩:=abS.1 hr
  exact⟨_,rfl⟩)
theorem kC.rs{S T:List Nat}{H K:List HE}{i:Nat}{α:Type}{f:α→D}{e eo:TypeId}{m:List (List α)}(h:H[i]?=some (YC f e eo m none))(hr:kC S H T K):kC S H (i::T) (YC f e eo m none::K):=by
 unfold YC at h ⊢
 by_cases hm:m=[]
 ·rw[aa2 hm] at h ⊢;exact .bn h hr
 ·rw[aa7 hm] at h ⊢;exact .ob h SV hr
section
variable {κ α:Type}[DecidableEq κ]{m:List (κ×List α)}{k k':κ}{l:List α}
end
section
variable {P:Program}{ρ:Operand→V}{H:List HE}{ty:TypeId}
section
variable {α:Type}{f:α→D}{e:TypeId}{q:List α}
end
end
end Go.Proofs.YtjdnbobilgamdaaGreatDoor.Ab
end
section
namespace Go.Proofs.YtjdnbobilgamdaaGreatDoor.Ab
open Go
section
variable {H:List HE}{e:TypeId}{q q':List D}
end
section
variable {P:Program}{ρ:Operand→V}{H:List HE}{ty:TypeId}{α:Type}{f:α→D}{e:TypeId}{q r:List α}
end
end Go.Proofs.YtjdnbobilgamdaaGreatDoor.Ab
end
section
namespace Go.Proofs.YtjdnbobilgamdaaGreatDoor.Ab
open Go
section
variable {P:Program}{ρ:Operand→V}{H:List HE}{ty:TypeId}
end
end Go.Proofs.YtjdnbobilgamdaaGreatDoor.Ab
end
