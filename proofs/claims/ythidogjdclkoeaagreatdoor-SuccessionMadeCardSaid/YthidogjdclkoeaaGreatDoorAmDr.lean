/- AmDr. -/
import Derived.StepT
import Derived.Calls
set_option linter.unusedSimpArgs false
set_option linter.unusedVariables false
namespace Go.Proofs.Am
open Go
def a93{α:Type}(d:Nat):Result α->Prop
 | .ok _ w=>d<=w.drawn
 | .halt _ w=>d<=w.drawn
theorem ahi{α:Type}{d:Nat}: ∀(a:Ask α) (w:World),d<=w.drawn->d<=(w.ask a).2.drawn
 | .done a,w,h=>h
 | .ask what range k,w,h=>by
  simp only[World.ask];split
  ·exact ahi _ w h
  ·exact ahi _ _ (by simp only;omega)
theorem a3t{d:Nat}(w:World)(c:Sys)(h:d<=w.drawn):d<=(w.sys c).2.drawn:=by
 unfold World.sys;have:=ahi (Kernel.perform c w.os) w h;split
 ·exact h
 ·rename_i r os w' _ he;rw[he]at this;exact this
theorem af2{d:Nat}{p:Program}{w:World}{a:Addr}{v:Value}{b:Bool}{r:World×List Addr}(h:d<=w.drawn)(he:w.farStore p a v b= .ok r):d<=r.1.drawn:=by
 unfold World.farStore at he;split at he
 ·split at he
  ·rename_i hv
   cases he
   unfold World.viewStore at hv;simp only[bind,Except.bind,pure,Except.pure,throw,throwThe,MonadExceptOf.throw]at hv
   repeat' split at hv
   all_goals first
    |(cases hv;done)
    |(cases hv;exact h)
  ·cases he
 ·cases he
theorem ap9{p:Program}{d:Nat}{α:Type}(s:Sem α): ∀(w:World),d<=w.drawn->a93 d (s.run p w):=by
 induction s with
 |pure a=>intro w h;exact h
 |load m a k ih=>
  intro w h;simp only[Sem.run];split
  ·exact ih _ w h
  ·split
   ·exact ih _ w h
   ·exact h
 |store m a v k ih=>
  intro w h
  cases v<;>simp only[Sem.run]<;>first
   |exact h
   |(
    split
    ·split
     ·exact h
     ·exact ih _ h
    ·split
     ·rename_i hs;exact ih _ (af2 h hs)
     ·exact h)
 |new o k ih=>intro w h;exact ih _ _ h
 |shape r k ih=>intro w h;exact ih _ _ h
 |freeze a n k ih=>
  intro w h;refine ih _ ?_;show d<=(w.freeze a n).drawn;unfold World.freeze
  split<;>exact h
 |frozen a k ih=>intro w h;exact ih _ _ h
 |getObj r k ih=>
  intro w h;simp only[Sem.run];split
  ·exact h
  ·exact ih _ _ h
  ·exact h
 |setObj r o k ih=>
  intro w h;simp only[Sem.run];split
  ·exact h
  ·exact ih _ h
  ·exact h
 |choose q k ih=>
  intro w h;simp only[Sem.run];split
  ·exact ih _ _ h
  ·exact ih _ _ (by simp only;omega)
 |sys c k ih=>intro w h;exact ih _ _ (a3t w c h)
 |program k ih=>intro w h;exact ih _ _ h
 |mark m k ih=>intro w h;exact ih _ h
 |halt hh=>intro w h;exact h
def x9(d:Nat):GStep->Prop
 | .go _ w _=>d<=w.drawn
 | .comm _ _ _ _ w _=>d<=w.drawn
 | .spawn _ _ w _=>d<=w.drawn
 | .count _ w _=>d<=w.drawn
 | .timer _ _ w _=>d<=w.drawn
 | .alone _ _ w _=>d<=w.drawn
 | .newcoro _ _ _ w _=>d<=w.drawn
 | .coroswitch _ _ _ w _=>d<=w.drawn
 | .collect _ w _=>d<=w.drawn
 | .watch _ w _=>d<=w.drawn
 | .ended _ _ _=>True
theorem ii{d:Nat}{es:Array Event}{g:GStep}(h:x9 d g):x9 d (g.after es):=by cases g<;>exact h
theorem l6{d:Nat}{fr:Frame}{m:String}{w:World}(h:d<=w.drawn):x9 d (endThrow fr m w):=h
theorem aip{d:Nat}{w:World}{fd:Nat}{t:ByteArray}{o:Outcome}:x9 d (endWith w fd t o):=by
 unfold endWith;simp only;split
 ·split<;>trivial
 ·trivial
 ·trivial
theorem l7{d:Nat}{p:Program}{fr:Frame}{v:Value}{w:World}(h:d<=w.drawn):x9 d (endPrinting p fr v w):=by
 unfold endPrinting;simp only;split
 ·exact h
 ·trivial
theorem cu{d:Nat}{p:Program}{α:Type}{s:Sem α}{w w':World}{a:α}(h:d<=w.drawn)(he:s.run p w= .ok a w'):d<=w'.drawn:=by
 have:=ap9 (p:=p) s w h;rw[he]at this;exact this
theorem ge{d:Nat}{p:Program}{α:Type}{s:Sem α}{w w':World}{a:Halt}(h:d<=w.drawn)(he:s.run p w= .halt a w'):d<=w'.drawn:=by
 have:=ap9 (p:=p) s w h;rw[he]at this;exact this
theorem sq{d:Nat}{p:Program}{fr:Frame}{cs:List Frame}{dy:Option Dying}{m:String}{w:World}(h:d<=w.drawn):x9 d (endFatal p fr cs dy m w):=by
 unfold endFatal;simp only;split
 ·rename_i he;exact cu h he
 ·trivial
 ·trivial
theorem ai0{d:Nat}{p:Program}{fr:Frame}{dy:Dying}{f:Fatal}{w:World}(h:d<=w.drawn):x9 d (writeOn p fr dy f w):=by
 unfold writeOn;simp only[Sem.runT_eq];split
 ·trivial
 ·split
  ·rename_i he;exact cu h (Prod.mk.inj he).1
  ·rename_i he;exact ge h (Prod.mk.inj he).1
  ·trivial
  ·trivial
theorem a4c{d:Nat}{p:Program}{fr:Frame}{dy:Dying}{w:World}(h:d<=w.drawn):x9 d (die p fr dy w):=by
 unfold die;simp only[Sem.runT_eq];split
 ·exact ai0 h
 ·split
  ·split
   ·exact h
   ·exact aip
  ·split
   ·exact h
   ·split
    ·rename_i he;exact cu h he
    ·trivial
   ·refine ii ?_;split
    ·rename_i he;exact cu h he
    ·rename_i he;exact cu h he
    ·trivial
    ·rename_i he;exact l7 (ge h he)
    ·trivial
   ·trivial
theorem mg{d:Nat}{p:Program}{main:Bool}{fr:Frame}{cs:List Frame}{dy:Option Dying}{v:Value}{w:World}(h:d<=w.drawn):x9 d (doReturn p main fr cs dy v w):=by
 unfold doReturn;split
 ·split<;>exact h
 ·split
  ·exact h
  ·trivial
  ·split
   ·exact h
   ·split
    ·exact h
    ·trivial
theorem xx{d:Nat}{c:Prop} [Decidable c]{a b:GStep}(ha:x9 d a)(hb:x9 d b):x9 d (if c then a else b):=by
 split<;>assumption
theorem t6{d:Nat}{p:Program}{fr:Frame}{cs:List Frame}{dy:Option Dying}{df:Deferred}{w:World}(h:d<=w.drawn):x9 d (callDeferred p fr cs dy df w):=by
 unfold callDeferred;simp only[Sem.runT_eq];refine xx trivial (ii ?_)
 ·split
  all_goals first
   |trivial
   |(rename_i he;exact cu h he)
   |(rename_i he;exact ge h he)
   |(rename_i he;exact sq (ge h he))
   |(rename_i he;exact l6 (ge h he))
   |(rename_i he;split<;>exact cu h he)
   |(rename_i he _;exact cu h he)
   |(rename_i he _ _;exact cu h he)
theorem aot{d:Nat}{p:Program}{main:Bool}{fr:Frame}{cs:List Frame}{dy:Option Dying}{w:World}(h:d<=w.drawn):x9 d (unwind p main fr cs dy w):=by
 unfold unwind;simp only[Sem.runT_eq];split
 ·refine ii ?_;split
  ·rename_i he;exact cu h he
  ·trivial
 ·exact t6 h
 ·split
  ·trivial
  ·split
   ·trivial
   ·split
    ·exact h
    ·split
     ·split
      ·exact h
      ·split
       ·rename_i he;exact cu h he
       ·trivial
       ·trivial
     ·split
      ·exact l7 h
      ·trivial
  ·split
   ·exact mg h
   ·refine ii ?_;split
    ·rename_i he;exact mg (cu h he)
    ·trivial
    ·trivial
theorem auh{d:Nat}{p:Program}{fr:Frame}{cs:List Frame}{dy:Option Dying}{g:Nat}{w:World}(h:d<=w.drawn):x9 d (early p fr cs dy g w):=by
 have hn: ∀w:World,d<=w.drawn->x9 d (match w.heap[g]? with
  |some (.pending c elem)=>GStep.go {frame:=fr,callers:=cs,status:= .running,dying:=dy} {w with heap:=w.heap.setIfInBounds g (.cells c elem)}
  |_=>GStep.ended (.stuck "early: the variable does not wait" (fr.pos p)) w):=fun w h=>by
  split
  ·exact h
  ·trivial
 unfold early;simp only;split
 ·exact hn w h
 ·split
  ·trivial
  ·split
   ·exact hn w h
   ·split
    ·exact hn w h
    ·split
     ·trivial
     ·exact h
     ·trivial
     ·exact hn w h
     ·split
      ·exact h
      ·split
       ·exact hn w h
       ·split
        ·rename_i he;exact hn _ (cu h he)
        ·rename_i he;exact cu h he
        ·trivial
theorem ke{d:Nat}{p:Program}{listen:Bool}{fr:Frame}{cs:List Frame}{dy:Option Dying}{s:Sem Next}{w:World}(h:d<=w.drawn):x9 d (stepG.apply p listen fr cs dy s w):=by
 unfold stepG.apply;simp only[Sem.runT_eq];refine ii ?_;have e1:(if listen=true then(Sem.run p s w,Sem.events p s w #[])else(Sem.run p s w, #[])).1=Sem.run p s w:=by split<;>rfl
 rw[e1];split
 all_goals first
  |trivial
  |(rename_i he;exact cu h he)
  |(rename_i he;exact ge h he)
  |(rename_i he;exact sq (ge h he))
  |(rename_i he;exact l6 (ge h he))
  |(rename_i he;exact auh (ge h he))
  |(rename_i he;split<;>exact cu h he)
  |(rename_i he;exact xx (l6 (cu h he)) (cu h he))
theorem avk{d:Nat}{p:Program}{listen:Bool}{fr:Frame}{cs:List Frame}{dy:Option Dying}{w:World}(h:d<=w.drawn):x9 d (stepG.oper p listen fr cs dy w):=by
 unfold stepG.oper;split
 ·trivial
 ·split
  ·exact ke h
  ·exact ke h
theorem axe{d:Nat}{p:Program}{main listen:Bool}{fr:Frame}{cs:List Frame}{dy:Option Dying}{w:World}(h:d<=w.drawn):x9 d (stepG.exec p main listen fr cs dy w):=by
 have hleave: ∀jump:Option Code,x9 d (match fr.roundOf with
   |none=>if(match jump with|none|some .ret=>true|_=>false)=true then GStep.go {frame:={fr with mode:= .returning},callers:=cs,status:= .running,dying:=dy} w else .ended (.stuck "exit, goto: no such block or label" (fr.pos p)) w
   |some l=>
    GStep.after (seen p fr.fn ((Instr.endRound l jump).events p w #[])) (match (Instr.endRound l jump).run p w with
    | .ok v w=>doReturn p main fr cs dy v w
    | .halt _ w=> .ended (.stuck "range over a function: no such loop" (fr.pos p)) w)):=fun jump=>by
  split
  ·exact xx h trivial
  ·refine ii ?_;split
   ·rename_i he;exact mg (cu h he)
   ·trivial
 unfold stepG.exec;simp only[Sem.runT_eq];split
 ·exact hleave none
 ·exact hleave (some .ret)
 ·exact h
 ·exact h
 ·exact h
 ·exact h
 ·exact h
 ·split
  ·exact h
  ·trivial
 ·exact h
 ·exact h
 ·exact h
 ·exact h
 ·rename_i x id k _
  cases exitTo id k with
  |none=>exact hleave (some (.exit id))
  |some k'=>exact h
 ·rename_i x l k _
  cases gotoIn l k with
  |none=>exact hleave (some (.goto l))
  |some k'=>exact h
 ·refine ii ?_;split
  ·rename_i he;exact ke (cu h he)
  ·trivial
 ·trivial
 ·exact ke h
 ·refine ii ?_;split
  ·rename_i he;exact cu h he
  ·rename_i he;exact ge h he
  ·trivial
 ·trivial
 ·exact ke h
 ·rename_i x row a args _
  cases Extern.next row with
  |none=>trivial
  |some e=>exact ke h
 ·refine xx h ?_;split
  ·rename_i he;exact cu h he
  ·trivial
 ·exact h
 ·exact xx (avk h) h
theorem apf{d:Nat}{p:Program}{main listen:Bool}{g:Goroutine}{w:World}(h:d<=w.drawn):x9 d (stepG p main g w listen):=by
 unfold stepG;simp only;split
 ·exact a4c h
 ·exact axe h
 ·exact aot h
def aw7(d:Nat):Stepped->Prop
 | .next m=>d<=m.world.drawn
 |_=>True
theorem ay8{d:Nat}{c:Prop} [Decidable c]{a b:Stepped}(ha:aw7 d a)(hb:aw7 d b):aw7 d (if c then a else b):=by
 split<;>assumption
theorem xy{d:Nat}{p:Program}{rest:Rest}{gs:Array Goroutine}{i:Nat}{g:Goroutine}{cases:Array CommCase}{bl:Bool}{sh:CommShape}{w:World}
  (h:d<=w.drawn):aw7 d (communicate p rest gs i g cases bl sh w).1:=by
 unfold communicate;simp only;split
 ·trivial
 ·split
  ·split
   ·split
    ·rename_i w' he;unfold waitingAt at he;split at he
     ·split at he
      ·cases he;exact h
      ·cases he
     ·cases he;exact h
    ·trivial
   ·exact h
  ·split
   ·trivial
   ·rename_i k c way w' he;have h':d<=w'.drawn:=cu h he;split
    ·split
     ·rename_i hp;exact ge h' hp
     ·trivial
    ·exact h'
    ·exact h'
    ·split
     ·exact h'
     ·split
      ·rename_i hb;have hx:=cu h' hb;exact hx
      ·trivial
    ·exact h'
    ·exact h'
    ·trivial
theorem aje{d:Nat}{p:Program}{gs:Array Goroutine}{rest:Rest}{w:World}(h:d<=w.drawn):aw7 d (look p gs rest w):=by
 unfold look;simp only;split
 ·split
  ·trivial
  ·split
   ·trivial
   ·split
    ·rename_i he;have hx:=cu h he;exact hx
    ·trivial
    ·trivial
 ·trivial
theorem as6{d:Nat}{p:Program}{m:Machine}{k:Nat}(h:d<=m.world.drawn):aw7 d (serve p m k):=by
 unfold serve;split
 ·trivial
 ·exact h
 ·simp only;split
  ·trivial
  ·exact h
theorem au2{d:Nat}{w:World}{c:Nat}(h:d<=w.drawn):d<=(drain w c).2.drawn:=by
 unfold drain;split<;>exact h
theorem ze{d:Nat}{m:Machine}{k:Nat}{t:Timer}{a b:Nat}(h:d<=m.world.drawn):d<=(retime m k t a b).2.world.drawn:=by
 unfold retime
 cases hc:t.chan with
 |none=>exact h
 |some c=>exact au2 h
theorem ag3{d:Nat}{m m':Machine}{op:TimerOp}{v:Value}(h:d<=m.world.drawn)(he:timerOp m op= .ok (v,m')):d<=m'.world.drawn:=by
 have nm: ∀(mm:Machine) (var:Addr) (f:Nat->Timer->Value×Machine),(∀k t,d<=(f k t).2.world.drawn)->timerOp.named mm var f= .ok (v,m')->d<=m'.world.drawn:=by
  intro mm var f hf he;unfold timerOp.named at he;split at he
  ·have e:=congrArg Prod.snd (Except.ok.inj he);have:=hf (by assumption) (mm.rest.timers.getD (by assumption) default);rw[e]at this;exact this
  ·cases he
 unfold timerOp at he;split at he
 ·split at he
  ·cases he;exact h
  ·split at he
   ·split at he
    ·cases he
    ·cases he;exact h
   ·cases he
 ·exact nm _ _ _ (fun k t=>ze h) he
 ·split at he
  ·rename_i mm ho;refine nm _ _ _ (fun k t=>ze ?_) he;unfold timerOp.opened at ho;split at ho
   ·split at ho
    ·cases ho;exact h
    ·cases ho
   ·cases ho;exact h
  ·cases he
 ·cases he;exact h
theorem avx{d:Nat}{p:Program}{m:Machine}{i:Nat}{l:Bool}(h:d<=m.world.drawn):aw7 d (runT p m i l).1:=by
 unfold runT;simp only;have hs: ∀g,x9 d (stepG p (i==0) g m.world l):=fun g=>apf h;generalize hg:m.gs.swapAt! i {(default:Goroutine)with status:= .finished}=sw;obtain⟨g,gs⟩:=sw;simp only;have hg:=hs g;generalize stepG p (i==0) g m.world l=s at hg
 cases s with
 |ended o w es=>trivial
 |comm g cases bl sh w es=>exact xy hg
 |count g w es=>exact ay8 trivial hg
 |collect g w es=>exact aje hg
 |coroswitch g c ex w es=>
  simp only;split
  ·exact hg
  ·split
   ·rename_i hh;cases hh;exact hg
   ·trivial
  ·trivial
 |timer g op w es=>
  simp only;split
  ·rename_i he;have hx:=ag3 (m:={world:=w,gs,rest:=m.rest}) hg he;exact hx
  ·split
   ·rename_i hh;cases hh;exact hg
   ·trivial
  ·trivial
  ·trivial
 |_=>exact hg
def a7x(d:Nat):Move->Prop
 | .goroutine m _=>d<=m.world.drawn
 | .machine s _=>aw7 d s
theorem xr{d:Nat}{p:Program}{m:Machine}(h:d<=m.world.drawn):a7x d (askOn p m):=by
 unfold askOn;simp only
 have pk: ∀(m':Machine) (rs:List Nat),d<=m'.world.drawn->a7x d (match (choose (.sched rs.length)).run p m'.world with
   | .halt _ w=> .machine (.ended (.stuck "sched" "") w)
   | .ok k world=>
    if rs.length<=1 then .goroutine {m' with world} (rs.getD k 0)else
    match (choose (.extern "sched.slice" 65536)).run p world with
    | .halt _ w=> .machine (.ended (.stuck "sched.slice" "") w)
    | .ok n world=> .goroutine {m' with world,rest:={m'.rest with slice:=if n=0 then none else some (rs.getD k 0,n)}} (rs.getD k 0)):=by
  intro m' rs h';split
  ·trivial
  ·rename_i he;split
   ·exact cu h' he
   ·split
    ·trivial
    ·rename_i he2;exact cu (cu h' he) he2
 split
 ·trivial
 ·rename_i k world he;have h1:d<=world.drawn:=cu h he;split
  ·exact as6 (m:={m with world}) h1
  ·split
   ·split
    ·exact h1
    ·split
     ·exact h1
     ·split
      ·trivial
      ·trivial
   ·split
    ·exact pk {m with world} _ h1
    ·split
     ·trivial
     ·rename_i he2;exact pk {m with world:=_} _ (cu h1 he2)
     ·rename_i he2;have hx:=cu h1 he2;exact hx
     ·rename_i he2;have hx:=cu h1 he2;exact pk (({m with world:=_}:Machine).advanceTo _) _ hx
theorem ajv{d:Nat}{p:Program}{m:Machine}(h:d<=m.world.drawn):a7x d (ask p m):=by
 unfold ask;split
 ·split
  ·trivial
  ·rename_i he;have h1:=cu h he;have hl:=aje (p:=p) (gs:=m.gs) (rest:=m.rest) h1;split
   ·rename_i hm;rw[hm]at hl;exact xr hl
   ·exact hl
  ·rename_i he;exact xr (m:={m with world:=_}) (cu h he)
 ·exact xr h
theorem awe{d:Nat}{p:Program}{m:Machine}(h:d<=m.world.drawn):a7x d (move p m):=by
 unfold move;split
 ·exact(by split<;>first|exact h|trivial)
 ·split
  ·split
   ·exact h
   ·exact ajv (m:={m with rest:=_}) h
  ·exact ajv h
theorem awc{d:Nat}{p:Program}{m:Machine}(h:d<=m.world.drawn):aw7 d (step p m):=by
 unfold step stepT;have hm:=awe (p:=p) h;generalize move p m=mv at hm
 cases mv with
 |goroutine m' i=>exact avx hm
 |machine s ops=>exact hm
theorem akw{d:Nat}{p:Program}: ∀(n:Nat) {m m':Machine},d<=m.world.drawn->runN p n m= .next m'->d<=m'.world.drawn
 |0,m,m',h,he=>by cases he;exact h
 |n+1,m,m',h,he=>by
  simp only[runN]at he;have hs:=awc (p:=p) h;generalize step p m=s at he hs
  cases s with
  |next m1=>exact akw n hs he
  |_=>cases he
theorem ad4{p:Program}{m m':Machine}(h:Steps p m m'):m.world.drawn<=m'.world.drawn:=by
 obtain⟨n,hn⟩:=h;exact akw n (Nat.le_refl _) hn
theorem api{P:Program}{k:FuncId}{as:Array Value}{w:World}{R:Ending->World->Prop}(h:Calls P k as w R):
  Calls P k as w fun e w'=>R e w'/\(e= .outgrown\/w.drawn<=w'.drawn):=by
 intro cs;obtain⟨e,w',fr,hr,hc,hf,hl⟩:=h cs;refine⟨e,w',fr,⟨hr,?_⟩,hc,hf,hl⟩
 cases e with
 |returned v=>exact .inr (ad4 hc)
 |panicked c=>exact .inr (ad4 hc)
 |outgrown=>exact .inl rfl
end Go.Proofs.Am
