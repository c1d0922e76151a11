/- AmDr. -/
import Derived.StepT
import Derived.Calls
set_option linter.unusedSimpArgs false
set_option linter.unusedVariables false
namespace Go.Proofs.Am
open Go
def bec{α:Type}(d:Nat):Result α→Prop
 | .ok _ w=>d≤w.drawn
 | .halt _ w=>d≤w.drawn
theorem ahm{α:Type}{d:Nat}: ∀(a:Ask α) (w:World),d≤w.drawn→d≤(w.ask a).2.drawn
 | .done a,w,h=>h
 | .ask what range k,w,h=>by
  simp only[World.ask]
  split
  ·exact ahm _ w h
  ·exact ahm _ _ (by simp only;omega)
theorem a41{d:Nat}(w:World)(c:Sys)(h:d≤w.drawn):d≤(w.sys c).2.drawn:=by
 unfold World.sys
 have:=ahm (Kernel.perform c w.os) w h
 split
 ·exact h
 ·rename_i r os w' _ he
  rw[he]at this
  exact this
theorem ad5{d:Nat}{p:Program}{w:World}{a:Addr}{v:Value}{b:Bool}{r:World×List Addr}(h:d≤w.drawn)(he:w.farStore p a v b= .ok r):d≤r.1.drawn:=by
 unfold World.farStore at he
 split at he
 ·split at he
  ·rename_i hv
   cases he
   unfold World.viewStore at hv
   simp only[bind,Except.bind,pure,Except.pure,throw,throwThe,MonadExceptOf.throw]at hv
   repeat' split at hv
   all_goals first
    |(cases hv;done)
    |(cases hv;exact h)
  ·cases he
 ·cases he
theorem asb{p:Program}{d:Nat}{α:Type}(s:Sem α): ∀(w:World),d≤w.drawn→bec d (s.run p w):=by
 induction s with
 |pure a=>intro w h;exact h
 |load m a k ih=>
  intro w h
  simp only[Sem.run]
  split
  ·exact ih _ w h
  ·split
   ·exact ih _ w h
   ·exact h
 |store m a v k ih=>
  intro w h
  cases v<;>simp only[Sem.run]<;>first
   |exact h
   |(
    split
    ·split
     ·exact h
     ·exact ih _ h
    ·split
     ·rename_i hs
      exact ih _ (ad5 h hs)
     ·exact h)
 |new o k ih=>intro w h;exact ih _ _ h
 |shape r k ih=>intro w h;exact ih _ _ h
 |freeze a n k ih=>
  intro w h
  refine ih _ ?_
  show d≤(w.freeze a n).drawn
  unfold World.freeze
  split<;>exact h
 |frozen a k ih=>intro w h;exact ih _ _ h
 |getObj r k ih=>
  intro w h
  simp only[Sem.run]
  split
  ·exact h
  ·exact ih _ _ h
  ·exact h
 |setObj r o k ih=>
  intro w h
  simp only[Sem.run]
  split
  ·exact h
  ·exact ih _ h
  ·exact h
 |choose q k ih=>
  intro w h
  simp only[Sem.run]
  split
  ·exact ih _ _ h
  ·exact ih _ _ (by simp only;omega)
 |sys c k ih=>intro w h;exact ih _ _ (a41 w c h)
 |program k ih=>intro w h;exact ih _ _ h
 |mark m k ih=>intro w h;exact ih _ h
 |halt hh=>intro w h;exact h
def xj(d:Nat):GStep→Prop
 | .go _ w _=>d≤w.drawn
 | .comm _ _ _ _ w _=>d≤w.drawn
 | .spawn _ _ w _=>d≤w.drawn
 | .count _ w _=>d≤w.drawn
 | .timer _ _ w _=>d≤w.drawn
 | .alone _ _ w _=>d≤w.drawn
 | .newcoro _ _ _ w _=>d≤w.drawn
 | .coroswitch _ _ _ w _=>d≤w.drawn
 | .collect _ w _=>d≤w.drawn
 | .watch _ w _=>d≤w.drawn
 | .ended _ _ _=>True
theorem gu{d:Nat}{es:Array Event}{g:GStep}(h:xj d g):xj d (g.after es):=by cases g<;>exact h
theorem lu{d:Nat}{fr:Frame}{m:String}{w:World}(h:d≤w.drawn):xj d (endThrow fr m w):=h
theorem aih{d:Nat}{w:World}{fd:Nat}{t:ByteArray}{o:Outcome}:xj d (endWith w fd t o):=by
 unfold endWith
 simp only
 split
 ·split<;>trivial
 ·trivial
 ·trivial
theorem lr{d:Nat}{p:Program}{fr:Frame}{v:Value}{w:World}(h:d≤w.drawn):xj d (endPrinting p fr v w):=by
 unfold endPrinting
 simp only
 split
 ·exact h
 ·trivial
theorem bp{d:Nat}{p:Program}{α:Type}{s:Sem α}{w w':World}{a:α}(h:d≤w.drawn)(he:s.run p w= .ok a w'):d≤w'.drawn:=by
 have:=asb (p:=p) s w h
 rw[he]at this
 exact this
theorem fe{d:Nat}{p:Program}{α:Type}{s:Sem α}{w w':World}{a:Halt}(h:d≤w.drawn)(he:s.run p w= .halt a w'):d≤w'.drawn:=by
 have:=asb (p:=p) s w h
 rw[he]at this
 exact this
theorem ry{d:Nat}{p:Program}{fr:Frame}{cs:List Frame}{dy:Option Dying}{m:String}{w:World}(h:d≤w.drawn):xj d (endFatal p fr cs dy m w):=by
 unfold endFatal
 simp only
 split
 ·rename_i he;exact bp h he
 ·trivial
 ·trivial
theorem ajz{d:Nat}{p:Program}{fr:Frame}{dy:Dying}{f:Fatal}{w:World}(h:d≤w.drawn):xj d (writeOn p fr dy f w):=by
 unfold writeOn
 simp only[Sem.runT_eq]
 split
 ·trivial
 ·split
  ·rename_i he;exact bp h (Prod.mk.inj he).1
  ·rename_i he;exact fe h (Prod.mk.inj he).1
  ·trivial
  ·trivial
theorem a6u{d:Nat}{p:Program}{fr:Frame}{dy:Dying}{w:World}(h:d≤w.drawn):xj d (die p fr dy w):=by
 unfold die
 simp only[Sem.runT_eq]
 split
 ·exact ajz h
 ·split
  ·split
   ·exact h
   ·exact aih
  ·split
   ·exact h
   ·split
    ·rename_i he;exact bp h he
    ·trivial
   ·refine gu ?_
    split
    ·rename_i he;exact bp h he
    ·rename_i he;exact bp h he
    ·trivial
    ·rename_i he;exact lr (fe h he)
    ·trivial
   ·trivial
theorem md{d:Nat}{p:Program}{main:Bool}{fr:Frame}{cs:List Frame}{dy:Option Dying}{v:Value}{w:World}(h:d≤w.drawn):xj d (doReturn p main fr cs dy v w):=by
 unfold doReturn
 split
 ·split<;>exact h
 ·split
  ·exact h
  ·trivial
  ·split
   ·exact h
   ·split
    ·exact h
    ·trivial
theorem u2{d:Nat}{c:Prop} [Decidable c]{a b:GStep}(ha:xj d a)(hb:xj d b):xj d (if c then a else b):=by
 split<;>assumption
theorem tb{d:Nat}{p:Program}{fr:Frame}{cs:List Frame}{dy:Option Dying}{df:Deferred}{w:World}(h:d≤w.drawn):xj d (callDeferred p fr cs dy df w):=by
 unfold callDeferred
 simp only[Sem.runT_eq]
 refine u2 trivial (gu ?_)
 ·split
  all_goals first
   |trivial
   |(rename_i he;exact bp h he)
   |(rename_i he;exact fe h he)
   |(rename_i he;exact ry (fe h he))
   |(rename_i he;exact lu (fe h he))
   |(rename_i he;split<;>exact bp h he)
   |(rename_i he _;exact bp h he)
   |(rename_i he _ _;exact bp h he)
theorem anw{d:Nat}{p:Program}{main:Bool}{fr:Frame}{cs:List Frame}{dy:Option Dying}{w:World}(h:d≤w.drawn):xj d (unwind p main fr cs dy w):=by
 unfold unwind
 simp only[Sem.runT_eq]
 split
 ·refine gu ?_
  split
  ·rename_i he;exact bp h he
  ·trivial
 ·exact tb h
 ·split
  ·trivial
  ·split
   ·trivial
   ·split
    ·exact h
    ·split
     ·split
      ·exact h
      ·split
       ·rename_i he;exact bp h he
       ·trivial
       ·trivial
     ·split
      ·exact lr h
      ·trivial
  ·split
   ·exact md h
   ·refine gu ?_
    split
    ·rename_i he;exact md (bp h he)
    ·trivial
    ·trivial
theorem axk{d:Nat}{p:Program}{fr:Frame}{cs:List Frame}{dy:Option Dying}{g:Nat}{w:World}(h:d≤w.drawn):xj d (early p fr cs dy g w):=by
 have hn: ∀w:World,d≤w.drawn→xj d (match w.heap[g]? with
  |some (.pending c elem)=>GStep.go {frame:=fr,callers:=cs,status:= .running,dying:=dy} {w with heap:=w.heap.setIfInBounds g (.cells c elem)}
  |_=>GStep.ended (.stuck "early: the variable does not wait" (fr.pos p)) w):=fun w h=>by
  split
  ·exact h
  ·trivial
 unfold early
 simp only
 split
 ·exact hn w h
 ·split
  ·trivial
  ·split
   ·exact hn w h
   ·split
    ·exact hn w h
    ·split
     ·trivial
     ·exact h
     ·trivial
     ·exact hn w h
     ·split
      ·exact h
      ·split
       ·exact hn w h
       ·split
        ·rename_i he;exact hn _ (bp h he)
        ·rename_i he;exact bp h he
        ·trivial
theorem jz{d:Nat}{p:Program}{listen:Bool}{fr:Frame}{cs:List Frame}{dy:Option Dying}{s:Sem Next}{w:World}(h:d≤w.drawn):xj d (stepG.apply p listen fr cs dy s w):=by
 unfold stepG.apply
 simp only[Sem.runT_eq]
 refine gu ?_
 have e1:(if listen=true then(Sem.run p s w,Sem.events p s w #[])else(Sem.run p s w, #[])).1=Sem.run p s w:=by split<;>rfl
 rw[e1]
 split
 all_goals first
  |trivial
  |(rename_i he;exact bp h he)
  |(rename_i he;exact fe h he)
  |(rename_i he;exact ry (fe h he))
  |(rename_i he;exact lu (fe h he))
  |(rename_i he;exact axk (fe h he))
  |(rename_i he;split<;>exact bp h he)
  |(rename_i he;exact u2 (lu (bp h he)) (bp h he))
theorem ayi{d:Nat}{p:Program}{listen:Bool}{fr:Frame}{cs:List Frame}{dy:Option Dying}{w:World}(h:d≤w.drawn):xj d (stepG.oper p listen fr cs dy w):=by
 unfold stepG.oper
 split
 ·trivial
 ·split
  ·exact jz h
  ·exact jz h
theorem ay2{d:Nat}{p:Program}{main listen:Bool}{fr:Frame}{cs:List Frame}{dy:Option Dying}{w:World}(h:d≤w.drawn):xj d (stepG.exec p main listen fr cs dy w):=by
 have hleave: ∀jump:Option Code,xj d (match fr.roundOf with
   |none=>if(match jump with|none|some .ret=>true|_=>false)=true then GStep.go {frame:={fr with mode:= .returning},callers:=cs,status:= .running,dying:=dy} w else .ended (.stuck "exit, goto: no such block or label" (fr.pos p)) w
   |some l=>
    GStep.after (seen p fr.fn ((Instr.endRound l jump).events p w #[])) (match (Instr.endRound l jump).run p w with
    | .ok v w=>doReturn p main fr cs dy v w
    | .halt _ w=> .ended (.stuck "range over a function: no such loop" (fr.pos p)) w)):=fun jump=>by
  split
  ·exact u2 h trivial
  ·refine gu ?_
   split
   ·rename_i he;exact md (bp h he)
   ·trivial
 unfold stepG.exec
 simp only[Sem.runT_eq]
 split
 ·exact hleave none
 ·exact hleave (some .ret)
 ·exact h
 ·exact h
 ·exact h
 ·exact h
 ·exact h
 ·split
  ·exact h
  ·trivial
 ·exact h
 ·exact h
 ·exact h
 ·exact h
 ·rename_i x id k _
  cases exitTo id k with
  |none=>exact hleave (some (.exit id))
  |some k'=>exact h
 ·rename_i x l k _
  cases gotoIn l k with
  |none=>exact hleave (some (.goto l))
  |some k'=>exact h
 ·refine gu ?_
  split
  ·rename_i he;exact jz (bp h he)
  ·trivial
 ·trivial
 ·exact jz h
 ·refine gu ?_
  split
  ·rename_i he;exact bp h he
  ·rename_i he;exact fe h he
  ·trivial
 ·trivial
 ·exact jz h
 ·rename_i x row a args _
  cases Extern.next row with
  |none=>trivial
  |some e=>exact jz h
 ·refine u2 h ?_
  split
  ·rename_i he;exact bp h he
  ·trivial
 ·exact h
 ·exact u2 (ayi h) h
theorem as0{d:Nat}{p:Program}{main listen:Bool}{g:Goroutine}{w:World}(h:d≤w.drawn):xj d (stepG p main g w listen):=by
 unfold stepG
 simp only
 split
 ·exact a6u h
 ·exact ay2 h
 ·exact anw h
def ays(d:Nat):Stepped→Prop
 | .next m=>d≤m.world.drawn
 |_=>True
theorem azs{d:Nat}{c:Prop} [Decidable c]{a b:Stepped}(ha:ays d a)(hb:ays d b):ays d (if c then a else b):=by
 split<;>assumption
theorem vi{d:Nat}{p:Program}{rest:Rest}{gs:Array Goroutine}{i:Nat}{g:Goroutine}{cases:Array CommCase}{bl:Bool}{sh:CommShape}{w:World}
  (h:d≤w.drawn):ays d (communicate p rest gs i g cases bl sh w).1:=by
 unfold communicate
 simp only
 split
 ·trivial
 ·split
  ·split
   ·split
    ·rename_i w' he
     unfold waitingAt at he
     split at he
     ·split at he
      ·cases he;exact h
      ·cases he
     ·cases he;exact h
    ·trivial
   ·exact h
  ·split
   ·trivial
   ·rename_i k c way w' he
    have h':d≤w'.drawn:=bp h he
    split
    ·split
     ·rename_i hp;exact fe h' hp
     ·trivial
    ·exact h'
    ·exact h'
    ·split
     ·exact h'
     ·split
      ·rename_i hb
       have hx:=bp h' hb
       exact hx
      ·trivial
    ·exact h'
    ·exact h'
    ·trivial
theorem ako{d:Nat}{p:Program}{gs:Array Goroutine}{rest:Rest}{w:World}(h:d≤w.drawn):ays d (look p gs rest w):=by
 unfold look
 simp only
 split
 ·split
  ·trivial
  ·split
   ·trivial
   ·split
    ·rename_i he;have hx:=bp h he;exact hx
    ·trivial
    ·trivial
 ·trivial
theorem arx{d:Nat}{p:Program}{m:Machine}{k:Nat}(h:d≤m.world.drawn):ays d (serve p m k):=by
 unfold serve
 split
 ·trivial
 ·exact h
 ·simp only
  split
  ·trivial
  ·exact h
theorem aqz{d:Nat}{w:World}{c:Nat}(h:d≤w.drawn):d≤(drain w c).2.drawn:=by
 unfold drain
 split<;>exact h
theorem yh{d:Nat}{m:Machine}{k:Nat}{t:Timer}{a b:Nat}(h:d≤m.world.drawn):d≤(retime m k t a b).2.world.drawn:=by
 unfold retime
 cases hc:t.chan with
 |none=>exact h
 |some c=>exact aqz h
theorem ah7{d:Nat}{m m':Machine}{op:TimerOp}{v:Value}(h:d≤m.world.drawn)(he:timerOp m op= .ok (v,m')):d≤m'.world.drawn:=by
 have nm: ∀(mm:Machine) (var:Addr) (f:Nat→Timer→Value×Machine),(∀k t,d≤(f k t).2.world.drawn)→timerOp.named mm var f= .ok (v,m')→d≤m'.world.drawn:=by
  intro mm var f hf he
  unfold timerOp.named at he
  split at he
  ·have e:=congrArg Prod.snd (Except.ok.inj he)
   have:=hf (by assumption) (mm.rest.timers.getD (by assumption) default)
   rw[e]at this
   exact this
  ·cases he
 unfold timerOp at he
 split at he
 ·split at he
  ·cases he;exact h
  ·split at he
   ·split at he
    ·cases he
    ·cases he;exact h
   ·cases he
 ·exact nm _ _ _ (fun k t=>yh h) he
 ·split at he
  ·rename_i mm ho
   refine nm _ _ _ (fun k t=>yh ?_) he
   unfold timerOp.opened at ho
   split at ho
   ·split at ho
    ·cases ho;exact h
    ·cases ho
   ·cases ho;exact h
  ·cases he
 ·cases he;exact h
theorem a01{d:Nat}{p:Program}{m:Machine}{i:Nat}{l:Bool}(h:d≤m.world.drawn):ays d (runT p m i l).1:=by
 unfold runT
 simp only
 have hs: ∀g,xj d (stepG p (i==0) g m.world l):=fun g=>as0 h
 generalize hg:m.gs.swapAt! i {(default:Goroutine)with status:= .finished}=sw
 obtain⟨g,gs⟩:=sw
 simp only
 have hg:=hs g
 generalize stepG p (i==0) g m.world l=s at hg
 cases s with
 |ended o w es=>trivial
 |comm g cases bl sh w es=>exact vi hg
 |count g w es=>exact azs trivial hg
 |collect g w es=>exact ako hg
 |coroswitch g c ex w es=>
  simp only
  split
  ·exact hg
  ·split
   ·rename_i hh;cases hh;exact hg
   ·trivial
  ·trivial
 |timer g op w es=>
  simp only
  split
  ·rename_i he;have hx:=ah7 (m:={world:=w,gs,rest:=m.rest}) hg he;exact hx
  ·split
   ·rename_i hh;cases hh;exact hg
   ·trivial
  ·trivial
  ·trivial
 |_=>exact hg
def bb6(d:Nat):Move→Prop
 | .goroutine m _=>d≤m.world.drawn
 | .machine s _=>ays d s
theorem xf{d:Nat}{p:Program}{m:Machine}(h:d≤m.world.drawn):bb6 d (askOn p m):=by
 unfold askOn
 simp only
 have pk: ∀(m':Machine) (rs:List Nat),d≤m'.world.drawn→bb6 d (match (choose (.sched rs.length)).run p m'.world with
   | .halt _ w=> .machine (.ended (.stuck "sched" "") w)
   | .ok k world=>
    if rs.length≤1 then .goroutine {m' with world} (rs.getD k 0)else
    match (choose (.extern "sched.slice" 65536)).run p world with
    | .halt _ w=> .machine (.ended (.stuck "sched.slice" "") w)
    | .ok n world=> .goroutine {m' with world,rest:={m'.rest with slice:=if n=0 then none else some (rs.getD k 0,n)}} (rs.getD k 0)):=by
  intro m' rs h'
  split
  ·trivial
  ·rename_i he
   split
   ·exact bp h' he
   ·split
    ·trivial
    ·rename_i he2;exact bp (bp h' he) he2
 split
 ·trivial
 ·rename_i k world he
  have h1:d≤world.drawn:=bp h he
  split
  ·exact arx (m:={m with world}) h1
  ·split
   ·split
    ·exact h1
    ·split
     ·exact h1
     ·split
      ·trivial
      ·trivial
   ·split
    ·exact pk {m with world} _ h1
    ·split
     ·trivial
     ·rename_i he2;exact pk {m with world:=_} _ (bp h1 he2)
     ·rename_i he2;have hx:=bp h1 he2;exact hx
     ·rename_i he2;have hx:=bp h1 he2;exact pk (({m with world:=_}:Machine).advanceTo _) _ hx
theorem ak5{d:Nat}{p:Program}{m:Machine}(h:d≤m.world.drawn):bb6 d (ask p m):=by
 unfold ask
 split
 ·split
  ·trivial
  ·rename_i he
   have h1:=bp h he
   have hl:=ako (p:=p) (gs:=m.gs) (rest:=m.rest) h1
   split
   ·rename_i hm;rw[hm]at hl;exact xf hl
   ·exact hl
  ·rename_i he;exact xf (m:={m with world:=_}) (bp h he)
 ·exact xf h
theorem ax4{d:Nat}{p:Program}{m:Machine}(h:d≤m.world.drawn):bb6 d (move p m):=by
 unfold move
 split
 ·exact(by split<;>first|exact h|trivial)
 ·split
  ·split
   ·exact h
   ·exact ak5 (m:={m with rest:=_}) h
  ·exact ak5 h
theorem a1o{d:Nat}{p:Program}{m:Machine}(h:d≤m.world.drawn):ays d (step p m):=by
 unfold step stepT
 have hm:=ax4 (p:=p) h
 generalize move p m=mv at hm
 cases mv with
 |goroutine m' i=>exact a01 hm
 |machine s ops=>exact hm
theorem akb{d:Nat}{p:Program}: ∀(n:Nat) {m m':Machine},d≤m.world.drawn→runN p n m= .next m'→d≤m'.world.drawn
 |0,m,m',h,he=>by cases he;exact h
 |n+1,m,m',h,he=>by
  simp only[runN]at he
  have hs:=a1o (p:=p) h
  generalize step p m=s at he hs
  cases s with
  |next m1=>exact akb n hs he
  |_=>cases he
theorem aee{p:Program}{m m':Machine}(h:Steps p m m'):m.world.drawn≤m'.world.drawn:=by
 obtain⟨n,hn⟩:=h
 exact akb n (Nat.le_refl _) hn
theorem aws{P:Program}{k:FuncId}{as:Array Value}{w:World}{R:Ending→World→Prop}(h:Calls P k as w R):
  Calls P k as w fun e w'=>R e w'∧(e= .outgrown∨w.drawn≤w'.drawn):=by
 intro cs
 obtain⟨e,w',fr,hr,hc,hf,hl⟩:=h cs
 refine⟨e,w',fr,⟨hr,?_⟩,hc,hf,hl⟩
 cases e with
 |returned v=>exact .inr (aee hc)
 |panicked c=>exact .inr (aee hc)
 |outgrown=>exact .inl rfl
end Go.Proofs.Am
