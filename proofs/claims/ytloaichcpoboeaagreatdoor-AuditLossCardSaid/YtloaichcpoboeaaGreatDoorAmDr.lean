/- AmDr. -/
import Derived.StepT
import Derived.Calls
set_option linter.unusedSimpArgs false
set_option linter.unusedVariables false
namespace Go.Proofs.Am
open Go
def bej{α:Type}(d:Nat):Result α→Prop
 | .ok _ w=>d≤w.drawn
 | .halt _ w=>d≤w.drawn
theorem aii{α:Type}{d:Nat}: ∀(a:Ask α) (w:World),d≤w.drawn→d≤(w.ask a).2.drawn
 | .done a,w,h=>h
 | .ask what range k,w,h=>by
  simp only[World.ask]
  split
  ·exact aii _ w h
  ·exact aii _ _ (by simp only;omega)
theorem a6x{d:Nat}(w:World)(c:Sys)(h:d≤w.drawn):d≤(w.sys c).2.drawn:=by
 unfold World.sys
 have:=aii (Kernel.perform c w.os) w h
 split
 ·exact h
 ·rename_i r os w' _ he
  rw[he]at this
  exact this
theorem aem{d:Nat}{p:Program}{w:World}{a:Addr}{v:Value}{b:Bool}{r:World×List Addr}(h:d≤w.drawn)(he:w.farStore p a v b= .ok r):d≤r.1.drawn:=by
 unfold World.farStore at he
 split at he
 ·split at he
  ·rename_i hv
   cases he
   unfold World.viewStore at hv
   simp only[bind,Except.bind,pure,Except.pure,throw,throwThe,MonadExceptOf.throw]at hv
   repeat' split at hv
   all_goals first
    |(cases hv;done)
    |(cases hv;exact h)
  ·cases he
 ·cases he
theorem av2{p:Program}{d:Nat}{α:Type}(s:Sem α): ∀(w:World),d≤w.drawn→bej d (s.run p w):=by
 induction s with
 |pure a=>intro w h;exact h
 |load m a k ih=>
  intro w h
  simp only[Sem.run]
  split
  ·exact ih _ w h
  ·split
   ·exact ih _ w h
   ·exact h
 |store m a v k ih=>
  intro w h
  cases v<;>simp only[Sem.run]<;>first
   |exact h
   |(
    split
    ·split
     ·exact h
     ·exact ih _ h
    ·split
     ·rename_i hs
      exact ih _ (aem h hs)
     ·exact h)
 |new o k ih=>intro w h;exact ih _ _ h
 |shape r k ih=>intro w h;exact ih _ _ h
 |freeze a n k ih=>
  intro w h
  refine ih _ ?_
  show d≤(w.freeze a n).drawn
  unfold World.freeze
  split<;>exact h
 |frozen a k ih=>intro w h;exact ih _ _ h
 |getObj r k ih=>
  intro w h
  simp only[Sem.run]
  split
  ·exact h
  ·exact ih _ _ h
  ·exact h
 |setObj r o k ih=>
  intro w h
  simp only[Sem.run]
  split
  ·exact h
  ·exact ih _ h
  ·exact h
 |choose q k ih=>
  intro w h
  simp only[Sem.run]
  split
  ·exact ih _ _ h
  ·exact ih _ _ (by simp only;omega)
 |sys c k ih=>intro w h;exact ih _ _ (a6x w c h)
 |program k ih=>intro w h;exact ih _ _ h
 |mark m k ih=>intro w h;exact ih _ h
 |halt hh=>intro w h;exact h
def xm(d:Nat):GStep→Prop
 | .go _ w _=>d≤w.drawn
 | .comm _ _ _ _ w _=>d≤w.drawn
 | .spawn _ _ w _=>d≤w.drawn
 | .count _ w _=>d≤w.drawn
 | .timer _ _ w _=>d≤w.drawn
 | .alone _ _ w _=>d≤w.drawn
 | .newcoro _ _ _ w _=>d≤w.drawn
 | .coroswitch _ _ _ w _=>d≤w.drawn
 | .collect _ w _=>d≤w.drawn
 | .watch _ w _=>d≤w.drawn
 | .ended _ _ _=>True
theorem gk{d:Nat}{es:Array Event}{g:GStep}(h:xm d g):xm d (g.after es):=by cases g<;>exact h
theorem me{d:Nat}{fr:Frame}{m:String}{w:World}(h:d≤w.drawn):xm d (endThrow fr m w):=h
theorem ajh{d:Nat}{w:World}{fd:Nat}{t:ByteArray}{o:Outcome}:xm d (endWith w fd t o):=by
 unfold endWith
 simp only
 split
 ·split<;>trivial
 ·trivial
 ·trivial
theorem mi{d:Nat}{p:Program}{fr:Frame}{v:Value}{w:World}(h:d≤w.drawn):xm d (endPrinting p fr v w):=by
 unfold endPrinting
 simp only
 split
 ·exact h
 ·trivial
theorem bp{d:Nat}{p:Program}{α:Type}{s:Sem α}{w w':World}{a:α}(h:d≤w.drawn)(he:s.run p w= .ok a w'):d≤w'.drawn:=by
 have:=av2 (p:=p) s w h
 rw[he]at this
 exact this
theorem fl{d:Nat}{p:Program}{α:Type}{s:Sem α}{w w':World}{a:Halt}(h:d≤w.drawn)(he:s.run p w= .halt a w'):d≤w'.drawn:=by
 have:=av2 (p:=p) s w h
 rw[he]at this
 exact this
theorem rk{d:Nat}{p:Program}{fr:Frame}{cs:List Frame}{dy:Option Dying}{m:String}{w:World}(h:d≤w.drawn):xm d (endFatal p fr cs dy m w):=by
 unfold endFatal
 simp only
 split
 ·rename_i he;exact bp h he
 ·trivial
 ·trivial
theorem aj4{d:Nat}{p:Program}{fr:Frame}{dy:Dying}{f:Fatal}{w:World}(h:d≤w.drawn):xm d (writeOn p fr dy f w):=by
 unfold writeOn
 simp only[Sem.runT_eq]
 split
 ·trivial
 ·split
  ·rename_i he;exact bp h (Prod.mk.inj he).1
  ·rename_i he;exact fl h (Prod.mk.inj he).1
  ·trivial
  ·trivial
theorem a5u{d:Nat}{p:Program}{fr:Frame}{dy:Dying}{w:World}(h:d≤w.drawn):xm d (die p fr dy w):=by
 unfold die
 simp only[Sem.runT_eq]
 split
 ·exact aj4 h
 ·split
  ·split
   ·exact h
   ·exact ajh
  ·split
   ·exact h
   ·split
    ·rename_i he;exact bp h he
    ·trivial
   ·refine gk ?_
    split
    ·rename_i he;exact bp h he
    ·rename_i he;exact bp h he
    ·trivial
    ·rename_i he;exact mi (fl h he)
    ·trivial
   ·trivial
theorem l7{d:Nat}{p:Program}{main:Bool}{fr:Frame}{cs:List Frame}{dy:Option Dying}{v:Value}{w:World}(h:d≤w.drawn):xm d (doReturn p main fr cs dy v w):=by
 unfold doReturn
 split
 ·split<;>exact h
 ·split
  ·exact h
  ·trivial
  ·split
   ·exact h
   ·split
    ·exact h
    ·trivial
theorem xj{d:Nat}{c:Prop} [Decidable c]{a b:GStep}(ha:xm d a)(hb:xm d b):xm d (if c then a else b):=by
 split<;>assumption
theorem tc{d:Nat}{p:Program}{fr:Frame}{cs:List Frame}{dy:Option Dying}{df:Deferred}{w:World}(h:d≤w.drawn):xm d (callDeferred p fr cs dy df w):=by
 unfold callDeferred
 simp only[Sem.runT_eq]
 refine xj trivial (gk ?_)
 ·split
  all_goals first
   |trivial
   |(rename_i he;exact bp h he)
   |(rename_i he;exact fl h he)
   |(rename_i he;exact rk (fl h he))
   |(rename_i he;exact me (fl h he))
   |(rename_i he;split<;>exact bp h he)
   |(rename_i he _;exact bp h he)
   |(rename_i he _ _;exact bp h he)
theorem ap7{d:Nat}{p:Program}{main:Bool}{fr:Frame}{cs:List Frame}{dy:Option Dying}{w:World}(h:d≤w.drawn):xm d (unwind p main fr cs dy w):=by
 unfold unwind
 simp only[Sem.runT_eq]
 split
 ·refine gk ?_
  split
  ·rename_i he;exact bp h he
  ·trivial
 ·exact tc h
 ·split
  ·trivial
  ·split
   ·trivial
   ·split
    ·exact h
    ·split
     ·split
      ·exact h
      ·split
       ·rename_i he;exact bp h he
       ·trivial
       ·trivial
     ·split
      ·exact mi h
      ·trivial
  ·split
   ·exact l7 h
   ·refine gk ?_
    split
    ·rename_i he;exact l7 (bp h he)
    ·trivial
    ·trivial
theorem aux{d:Nat}{p:Program}{fr:Frame}{cs:List Frame}{dy:Option Dying}{g:Nat}{w:World}(h:d≤w.drawn):xm d (early p fr cs dy g w):=by
 have hn: ∀w:World,d≤w.drawn→xm d (match w.heap[g]? with
  |some (.pending c elem)=>GStep.go {frame:=fr,callers:=cs,status:= .running,dying:=dy} {w with heap:=w.heap.setIfInBounds g (.cells c elem)}
  |_=>GStep.ended (.stuck "early: the variable does not wait" (fr.pos p)) w):=fun w h=>by
  split
  ·exact h
  ·trivial
 unfold early
 simp only
 split
 ·exact hn w h
 ·split
  ·trivial
  ·split
   ·exact hn w h
   ·split
    ·exact hn w h
    ·split
     ·trivial
     ·exact h
     ·trivial
     ·exact hn w h
     ·split
      ·exact h
      ·split
       ·exact hn w h
       ·split
        ·rename_i he;exact hn _ (bp h he)
        ·rename_i he;exact bp h he
        ·trivial
theorem j8{d:Nat}{p:Program}{listen:Bool}{fr:Frame}{cs:List Frame}{dy:Option Dying}{s:Sem Next}{w:World}(h:d≤w.drawn):xm d (stepG.apply p listen fr cs dy s w):=by
 unfold stepG.apply
 simp only[Sem.runT_eq]
 refine gk ?_
 have e1:(if listen=true then(Sem.run p s w,Sem.events p s w #[])else(Sem.run p s w, #[])).1=Sem.run p s w:=by split<;>rfl
 rw[e1]
 split
 all_goals first
  |trivial
  |(rename_i he;exact bp h he)
  |(rename_i he;exact fl h he)
  |(rename_i he;exact rk (fl h he))
  |(rename_i he;exact me (fl h he))
  |(rename_i he;exact aux (fl h he))
  |(rename_i he;split<;>exact bp h he)
  |(rename_i he;exact xj (me (bp h he)) (bp h he))
theorem a0b{d:Nat}{p:Program}{listen:Bool}{fr:Frame}{cs:List Frame}{dy:Option Dying}{w:World}(h:d≤w.drawn):xm d (stepG.oper p listen fr cs dy w):=by
 unfold stepG.oper
 split
 ·trivial
 ·split
  ·exact j8 h
  ·exact j8 h
theorem ayu{d:Nat}{p:Program}{main listen:Bool}{fr:Frame}{cs:List Frame}{dy:Option Dying}{w:World}(h:d≤w.drawn):xm d (stepG.exec p main listen fr cs dy w):=by
 have hleave: ∀jump:Option Code,xm d (match fr.roundOf with
   |none=>if(match jump with|none|some .ret=>true|_=>false)=true then GStep.go {frame:={fr with mode:= .returning},callers:=cs,status:= .running,dying:=dy} w else .ended (.stuck "exit, goto: no such block or label" (fr.pos p)) w
   |some l=>
    GStep.after (seen p fr.fn ((Instr.endRound l jump).events p w #[])) (match (Instr.endRound l jump).run p w with
    | .ok v w=>doReturn p main fr cs dy v w
    | .halt _ w=> .ended (.stuck "range over a function: no such loop" (fr.pos p)) w)):=fun jump=>by
  split
  ·exact xj h trivial
  ·refine gk ?_
   split
   ·rename_i he;exact l7 (bp h he)
   ·trivial
 unfold stepG.exec
 simp only[Sem.runT_eq]
 split
 ·exact hleave none
 ·exact hleave (some .ret)
 ·exact h
 ·exact h
 ·exact h
 ·exact h
 ·exact h
 ·split
  ·exact h
  ·trivial
 ·exact h
 ·exact h
 ·exact h
 ·exact h
 ·rename_i x id k _
  cases exitTo id k with
  |none=>exact hleave (some (.exit id))
  |some k'=>exact h
 ·rename_i x l k _
  cases gotoIn l k with
  |none=>exact hleave (some (.goto l))
  |some k'=>exact h
 ·refine gk ?_
  split
  ·rename_i he;exact j8 (bp h he)
  ·trivial
 ·trivial
 ·exact j8 h
 ·refine gk ?_
  split
  ·rename_i he;exact bp h he
  ·rename_i he;exact fl h he
  ·trivial
 ·trivial
 ·exact j8 h
 ·rename_i x row a args _
  cases Extern.next row with
  |none=>trivial
  |some e=>exact j8 h
 ·refine xj h ?_
  split
  ·rename_i he;exact bp h he
  ·trivial
 ·exact h
 ·exact xj (a0b h) h
theorem atv{d:Nat}{p:Program}{main listen:Bool}{g:Goroutine}{w:World}(h:d≤w.drawn):xm d (stepG p main g w listen):=by
 unfold stepG
 simp only
 split
 ·exact a5u h
 ·exact ayu h
 ·exact ap7 h
def a2x(d:Nat):Stepped→Prop
 | .next m=>d≤m.world.drawn
 |_=>True
theorem a2l{d:Nat}{c:Prop} [Decidable c]{a b:Stepped}(ha:a2x d a)(hb:a2x d b):a2x d (if c then a else b):=by
 split<;>assumption
theorem uo{d:Nat}{p:Program}{rest:Rest}{gs:Array Goroutine}{i:Nat}{g:Goroutine}{cases:Array CommCase}{bl:Bool}{sh:CommShape}{w:World}
  (h:d≤w.drawn):a2x d (communicate p rest gs i g cases bl sh w).1:=by
 unfold communicate
 simp only
 split
 ·trivial
 ·split
  ·split
   ·split
    ·rename_i w' he
     unfold waitingAt at he
     split at he
     ·split at he
      ·cases he;exact h
      ·cases he
     ·cases he;exact h
    ·trivial
   ·exact h
  ·split
   ·trivial
   ·rename_i k c way w' he
    have h':d≤w'.drawn:=bp h he
    split
    ·split
     ·rename_i hp;exact fl h' hp
     ·trivial
    ·exact h'
    ·exact h'
    ·split
     ·exact h'
     ·split
      ·rename_i hb
       have hx:=bp h' hb
       exact hx
      ·trivial
    ·exact h'
    ·exact h'
    ·trivial
theorem ami{d:Nat}{p:Program}{gs:Array Goroutine}{rest:Rest}{w:World}(h:d≤w.drawn):a2x d (look p gs rest w):=by
 unfold look
 simp only
 split
 ·split
  ·trivial
  ·split
   ·trivial
   ·split
    ·rename_i he;have hx:=bp h he;exact hx
    ·trivial
    ·trivial
 ·trivial
theorem auc{d:Nat}{p:Program}{m:Machine}{k:Nat}(h:d≤m.world.drawn):a2x d (serve p m k):=by
 unfold serve
 split
 ·trivial
 ·exact h
 ·simp only
  split
  ·trivial
  ·exact h
theorem as6{d:Nat}{w:World}{c:Nat}(h:d≤w.drawn):d≤(drain w c).2.drawn:=by
 unfold drain
 split<;>exact h
theorem yk{d:Nat}{m:Machine}{k:Nat}{t:Timer}{a b:Nat}(h:d≤m.world.drawn):d≤(retime m k t a b).2.world.drawn:=by
 unfold retime
 cases hc:t.chan with
 |none=>exact h
 |some c=>exact as6 h
theorem ai1{d:Nat}{m m':Machine}{op:TimerOp}{v:Value}(h:d≤m.world.drawn)(he:timerOp m op= .ok (v,m')):d≤m'.world.drawn:=by
 have nm: ∀(mm:Machine) (var:Addr) (f:Nat→Timer→Value×Machine),(∀k t,d≤(f k t).2.world.drawn)→timerOp.named mm var f= .ok (v,m')→d≤m'.world.drawn:=by
  intro mm var f hf he
  unfold timerOp.named at he
  split at he
  ·have e:=congrArg Prod.snd (Except.ok.inj he)
   have:=hf (by assumption) (mm.rest.timers.getD (by assumption) default)
   rw[e]at this
   exact this
  ·cases he
 unfold timerOp at he
 split at he
 ·split at he
  ·cases he;exact h
  ·split at he
   ·split at he
    ·cases he
    ·cases he;exact h
   ·cases he
 ·exact nm _ _ _ (fun k t=>yk h) he
 ·split at he
  ·rename_i mm ho
   refine nm _ _ _ (fun k t=>yk ?_) he
   unfold timerOp.opened at ho
   split at ho
   ·split at ho
    ·cases ho;exact h
    ·cases ho
   ·cases ho;exact h
  ·cases he
 ·cases he;exact h
theorem a12{d:Nat}{p:Program}{m:Machine}{i:Nat}{l:Bool}(h:d≤m.world.drawn):a2x d (runT p m i l).1:=by
 unfold runT
 simp only
 have hs: ∀g,xm d (stepG p (i==0) g m.world l):=fun g=>atv h
 generalize hg:m.gs.swapAt! i {(default:Goroutine)with status:= .finished}=sw
 obtain⟨g,gs⟩:=sw
 simp only
 have hg:=hs g
 generalize stepG p (i==0) g m.world l=s at hg
 cases s with
 |ended o w es=>trivial
 |comm g cases bl sh w es=>exact uo hg
 |count g w es=>exact a2l trivial hg
 |collect g w es=>exact ami hg
 |coroswitch g c ex w es=>
  simp only
  split
  ·exact hg
  ·split
   ·rename_i hh;cases hh;exact hg
   ·trivial
  ·trivial
 |timer g op w es=>
  simp only
  split
  ·rename_i he;have hx:=ai1 (m:={world:=w,gs,rest:=m.rest}) hg he;exact hx
  ·split
   ·rename_i hh;cases hh;exact hg
   ·trivial
  ·trivial
  ·trivial
 |_=>exact hg
def bb6(d:Nat):Move→Prop
 | .goroutine m _=>d≤m.world.drawn
 | .machine s _=>a2x d s
theorem wx{d:Nat}{p:Program}{m:Machine}(h:d≤m.world.drawn):bb6 d (askOn p m):=by
 unfold askOn
 simp only
 have pk: ∀(m':Machine) (rs:List Nat),d≤m'.world.drawn→bb6 d (match (choose (.sched rs.length)).run p m'.world with
   | .halt _ w=> .machine (.ended (.stuck "sched" "") w)
   | .ok k world=>
    if rs.length≤1 then .goroutine {m' with world} (rs.getD k 0)else
    match (choose (.extern "sched.slice" 65536)).run p world with
    | .halt _ w=> .machine (.ended (.stuck "sched.slice" "") w)
    | .ok n world=> .goroutine {m' with world,rest:={m'.rest with slice:=if n=0 then none else some (rs.getD k 0,n)}} (rs.getD k 0)):=by
  intro m' rs h'
  split
  ·trivial
  ·rename_i he
   split
   ·exact bp h' he
   ·split
    ·trivial
    ·rename_i he2;exact bp (bp h' he) he2
 split
 ·trivial
 ·rename_i k world he
  have h1:d≤world.drawn:=bp h he
  split
  ·exact auc (m:={m with world}) h1
  ·split
   ·split
    ·exact h1
    ·split
     ·exact h1
     ·split
      ·trivial
      ·trivial
   ·split
    ·exact pk {m with world} _ h1
    ·split
     ·trivial
     ·rename_i he2;exact pk {m with world:=_} _ (bp h1 he2)
     ·rename_i he2;have hx:=bp h1 he2;exact hx
     ·rename_i he2;have hx:=bp h1 he2;exact pk (({m with world:=_}:Machine).advanceTo _) _ hx
theorem amo{d:Nat}{p:Program}{m:Machine}(h:d≤m.world.drawn):bb6 d (ask p m):=by
 unfold ask
 split
 ·split
  ·trivial
  ·rename_i he
   have h1:=bp h he
   have hl:=ami (p:=p) (gs:=m.gs) (rest:=m.rest) h1
   split
   ·rename_i hm;rw[hm]at hl;exact wx hl
   ·exact hl
  ·rename_i he;exact wx (m:={m with world:=_}) (bp h he)
 ·exact wx h
theorem a1z{d:Nat}{p:Program}{m:Machine}(h:d≤m.world.drawn):bb6 d (move p m):=by
 unfold move
 split
 ·exact(by split<;>first|exact h|trivial)
 ·split
  ·split
   ·exact h
   ·exact amo (m:={m with rest:=_}) h
  ·exact amo h
theorem aze{d:Nat}{p:Program}{m:Machine}(h:d≤m.world.drawn):a2x d (step p m):=by
 unfold step stepT
 have hm:=a1z (p:=p) h
 generalize move p m=mv at hm
 cases mv with
 |goroutine m' i=>exact a12 hm
 |machine s ops=>exact hm
theorem al8{d:Nat}{p:Program}: ∀(n:Nat) {m m':Machine},d≤m.world.drawn→runN p n m= .next m'→d≤m'.world.drawn
 |0,m,m',h,he=>by cases he;exact h
 |n+1,m,m',h,he=>by
  simp only[runN]at he
  have hs:=aze (p:=p) h
  generalize step p m=s at he hs
  cases s with
  |next m1=>exact al8 n hs he
  |_=>cases he
theorem agn{p:Program}{m m':Machine}(h:Steps p m m'):m.world.drawn≤m'.world.drawn:=by
 obtain⟨n,hn⟩:=h
 exact al8 n (Nat.le_refl _) hn
theorem aw3{P:Program}{k:FuncId}{as:Array Value}{w:World}{R:Ending→World→Prop}(h:Calls P k as w R):
  Calls P k as w fun e w'=>R e w'∧(e= .outgrown∨w.drawn≤w'.drawn):=by
 intro cs
 obtain⟨e,w',fr,hr,hc,hf,hl⟩:=h cs
 refine⟨e,w',fr,⟨hr,?_⟩,hc,hf,hl⟩
 cases e with
 |returned v=>exact .inr (agn hc)
 |panicked c=>exact .inr (agn hc)
 |outgrown=>exact .inl rfl
end Go.Proofs.Am
