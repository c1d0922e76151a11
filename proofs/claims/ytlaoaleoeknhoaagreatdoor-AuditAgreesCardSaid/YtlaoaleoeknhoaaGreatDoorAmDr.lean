/- AmDr. -/
import Derived.StepT
import Derived.Calls
set_option linter.unusedSimpArgs false
set_option linter.unusedVariables false
namespace Go.Proofs.Am
open Go
def btr{α:Type}(d:Nat):Result α->Prop
 | .ok _ w=>d<=w.drawn
 | .halt _ w=>d<=w.drawn
theorem asn{α:Type}{d:Nat}: ∀(a:Ask α) (w:World),d<=w.drawn->d<=(w.ask a).2.drawn
 | .done a,w,h=>h
 | .ask what range k,w,h=>by
  simp only[World.ask];split
  .exact asn _ w h
  .exact asn _ _ (by simp only;omega)
theorem bll{d:Nat}(w:World)(c:Sys)(h:d<=w.drawn):d<=(w.sys c).2.drawn:=by
 unfold World.sys;have:=asn (Kernel.perform c w.os) w h;split
 .exact h
 .rename_i r os w' _ he;rw[he]at this;exact this
theorem ak4{d:Nat}{p:Program}{w:World}{a:Addr}{v:Value}{b:Bool}{r:World×List Addr}(h:d<=w.drawn)(c:w.farStore p a v b= .ok r):d<=r.1.drawn:=by
 unfold World.farStore at c;split at c
 .split at c
  .rename_i hv
   cases c
   unfold World.viewStore at hv;simp only[bind,Except.bind,pure,Except.pure,throw,throwThe,MonadExceptOf.throw]at hv
   repeat' split at hv
   all_goals first
    |(cases hv;done)
    |(cases hv;exact h)
  .cases c
 .cases c
theorem a6p{p:Program}{d:Nat}{α:Type}(s:Sem α): ∀(w:World),d<=w.drawn->btr d (s.run p w):=by
 induction s with
 |pure a=>intro w h;exact h
 |load m a k ih=>
  intro w h;simp only[Sem.run];split
  .exact ih _ w h
  .split
   .exact ih _ w h
   .exact h
 |store m a v k ih=>
  intro w h
  cases v<;>simp only[Sem.run]<;>first
   |exact h
   |(
    split
    .split
     .exact h
     .exact ih _ h
    .split
     .rename_i hs;exact ih _ (ak4 h hs)
     .exact h)
 |new o k ih=>intro w h;exact ih _ _ h
 |shape r k ih=>intro w h;exact ih _ _ h
 |freeze a n k ih=>
  intro w h;refine ih _ ?_;show d<=(w.freeze a n).drawn;unfold World.freeze
  split<;>exact h
 |frozen a k ih=>intro w h;exact ih _ _ h
 |getObj r k ih=>
  intro w h;simp only[Sem.run];split
  .exact h
  .exact ih _ _ h
  .exact h
 |setObj r o k ih=>
  intro w h;simp only[Sem.run];split
  .exact h
  .exact ih _ h
  .exact h
 |choose q k ih=>
  intro w h;simp only[Sem.run];split
  .exact ih _ _ h
  .exact ih _ _ (by simp only;omega)
 |sys c k ih=>intro w h;exact ih _ _ (bll w c h)
 |program k ih=>intro w h;exact ih _ _ h
 |mark m k ih=>intro w h;exact ih _ h
 |halt hh=>intro w h;exact h
def aek(d:Nat):GStep->Prop
 | .go _ w _=>d<=w.drawn
 | .comm _ _ _ _ w _=>d<=w.drawn
 | .spawn _ _ w _=>d<=w.drawn
 | .count _ w _=>d<=w.drawn
 | .timer _ _ w _=>d<=w.drawn
 | .alone _ _ w _=>d<=w.drawn
 | .newcoro _ _ _ w _=>d<=w.drawn
 | .coroswitch _ _ _ w _=>d<=w.drawn
 | .collect _ w _=>d<=w.drawn
 | .watch _ w _=>d<=w.drawn
 | .ended _ _ _=>True
theorem ko{d:Nat}{es:Array Event}{g:GStep}(h:aek d g):aek d (g.after es):=by cases g<;>exact h
theorem qq{d:Nat}{fr:Frame}{m:String}{w:World}(h:d<=w.drawn):aek d (endThrow fr m w):=h
theorem arz{d:Nat}{w:World}{a:Nat}{t:ByteArray}{o:Outcome}:aek d (endWith w a t o):=by
 unfold endWith;simp only;split
 .split<;>trivial
 .trivial
 .trivial
theorem rh{d:Nat}{p:Program}{fr:Frame}{v:Value}{w:World}(h:d<=w.drawn):aek d (endPrinting p fr v w):=by
 unfold endPrinting;simp only;split
 .exact h
 .trivial
theorem d6{d:Nat}{p:Program}{α:Type}{s:Sem α}{w w':World}{a:α}(h:d<=w.drawn)(b:s.run p w= .ok a w'):d<=w'.drawn:=by
 have:=a6p (p:=p) s w h;rw[b]at this;exact this
theorem jm{d:Nat}{p:Program}{α:Type}{s:Sem α}{w w':World}{a:Halt}(h:d<=w.drawn)(b:s.run p w= .halt a w'):d<=w'.drawn:=by
 have:=a6p (p:=p) s w h;rw[b]at this;exact this
theorem zz{d:Nat}{p:Program}{fr:Frame}{cs:List Frame}{a:Option Dying}{m:String}{w:World}(h:d<=w.drawn):aek d (endFatal p fr cs a m w):=by
 unfold endFatal;simp only;split
 .rename_i he;exact d6 h he
 .trivial
 .trivial
theorem aqm{d:Nat}{p:Program}{fr:Frame}{a:Dying}{f:Fatal}{w:World}(h:d<=w.drawn):aek d (writeOn p fr a f w):=by
 unfold writeOn;simp only[Sem.runT_eq];split
 .trivial
 .split
  .rename_i he;exact d6 h (Prod.mk.inj he).1
  .rename_i he;exact jm h (Prod.mk.inj he).1
  .trivial
  .trivial
theorem bk6{d:Nat}{p:Program}{fr:Frame}{a:Dying}{w:World}(h:d<=w.drawn):aek d (die p fr a w):=by
 unfold die;simp only[Sem.runT_eq];split
 .exact aqm h
 .split
  .split
   .exact h
   .exact arz
  .split
   .exact h
   .split
    .rename_i he;exact d6 h he
    .trivial
   .refine ko ?_;split
    .rename_i he;exact d6 h he
    .rename_i he;exact d6 h he
    .trivial
    .rename_i he;exact rh (jm h he)
    .trivial
   .trivial
theorem ry{d:Nat}{p:Program}{a:Bool}{fr:Frame}{cs:List Frame}{b:Option Dying}{v:Value}{w:World}(h:d<=w.drawn):aek d (doReturn p a fr cs b v w):=by
 unfold doReturn;split
 .split<;>exact h
 .split
  .exact h
  .trivial
  .split
   .exact h
   .split
    .exact h
    .trivial
theorem acm{d:Nat}{c:Prop} [Decidable c]{a b:GStep}(f:aek d a)(e:aek d b):aek d (if c then a else b):=by
 split<;>assumption
theorem aaa{d:Nat}{p:Program}{fr:Frame}{cs:List Frame}{b:Option Dying}{c:Deferred}{w:World}(h:d<=w.drawn):aek d (callDeferred p fr cs b c w):=by
 unfold callDeferred;simp only[Sem.runT_eq];refine acm trivial (ko ?_)
 .split
  all_goals first
   |trivial
   |(rename_i a;exact d6 h a)
   |(rename_i a;exact jm h a)
   |(rename_i a;exact zz (jm h a))
   |(rename_i a;exact qq (jm h a))
   |(rename_i a;split<;>exact d6 h a)
   |(rename_i a _;exact d6 h a)
   |(rename_i a _ _;exact d6 h a)
theorem az0{d:Nat}{p:Program}{a:Bool}{fr:Frame}{cs:List Frame}{b:Option Dying}{w:World}(h:d<=w.drawn):aek d (unwind p a fr cs b w):=by
 unfold unwind;simp only[Sem.runT_eq];split
 .refine ko ?_;split
  .rename_i he;exact d6 h he
  .trivial
 .exact aaa h
 .split
  .trivial
  .split
   .trivial
   .split
    .exact h
    .split
     .split
      .exact h
      .split
       .rename_i he;exact d6 h he
       .trivial
       .trivial
     .split
      .exact rh h
      .trivial
  .split
   .exact ry h
   .refine ko ?_;split
    .rename_i he;exact ry (d6 h he)
    .trivial
    .trivial
theorem a56{d:Nat}{p:Program}{fr:Frame}{cs:List Frame}{dy:Option Dying}{g:Nat}{w:World}(h:d<=w.drawn):aek d (early p fr cs dy g w):=by
 have hn: ∀w:World,d<=w.drawn->aek d (match w.heap[g]? with
  |some (.pending c elem)=>GStep.go {frame:=fr,callers:=cs,status:= .running,dying:=dy} {w with heap:=w.heap.setIfInBounds g (.cells c elem)}
  |_=>GStep.ended (.stuck "early: the variable does not wait" (fr.pos p)) w):=fun w h=>by
  split
  .exact h
  .trivial
 unfold early;simp only;split
 .exact hn w h
 .split
  .trivial
  .split
   .exact hn w h
   .split
    .exact hn w h
    .split
     .trivial
     .exact h
     .trivial
     .exact hn w h
     .split
      .exact h
      .split
       .exact hn w h
       .split
        .rename_i he;exact hn _ (d6 h he)
        .rename_i he;exact d6 h he
        .trivial
theorem o7{d:Nat}{p:Program}{a:Bool}{fr:Frame}{cs:List Frame}{c:Option Dying}{s:Sem Next}{w:World}(h:d<=w.drawn):aek d (stepG.apply p a fr cs c s w):=by
 unfold stepG.apply;simp only[Sem.runT_eq];refine ko ?_;have e:(if a=true then(Sem.run p s w,Sem.events p s w #[])else(Sem.run p s w, #[])).1=Sem.run p s w:=by split<;>rfl
 rw[e];split
 all_goals first
  |trivial
  |(rename_i b;exact d6 h b)
  |(rename_i b;exact jm h b)
  |(rename_i b;exact zz (jm h b))
  |(rename_i b;exact qq (jm h b))
  |(rename_i b;exact a56 (jm h b))
  |(rename_i b;split<;>exact d6 h b)
  |(rename_i b;exact acm (qq (d6 h b)) (d6 h b))
theorem bfw{d:Nat}{p:Program}{a:Bool}{fr:Frame}{cs:List Frame}{b:Option Dying}{w:World}(h:d<=w.drawn):aek d (stepG.oper p a fr cs b w):=by
 unfold stepG.oper;split
 .trivial
 .split
  .exact o7 h
  .exact o7 h
theorem bcf{d:Nat}{p:Program}{main listen:Bool}{fr:Frame}{cs:List Frame}{dy:Option Dying}{w:World}(h:d<=w.drawn):aek d (stepG.exec p main listen fr cs dy w):=by
 have hleave: ∀jump:Option Code,aek d (match fr.roundOf with
   |none=>if(match jump with|none|some .ret=>true|_=>false)=true then GStep.go {frame:={fr with mode:= .returning},callers:=cs,status:= .running,dying:=dy} w else .ended (.stuck "exit, goto: no such block or label" (fr.pos p)) w
   |some l=>
    GStep.after (seen p fr.fn ((Instr.endRound l jump).events p w #[])) (match (Instr.endRound l jump).run p w with
    | .ok v w=>doReturn p main fr cs dy v w
    | .halt _ w=> .ended (.stuck "range over a function: no such loop" (fr.pos p)) w)):=fun jump=>by
  split
  .exact acm h trivial
  .refine ko ?_;split
   .rename_i he;exact ry (d6 h he)
   .trivial
 unfold stepG.exec;simp only[Sem.runT_eq];split
 .exact hleave none
 .exact hleave (some .ret)
 .exact h
 .exact h
 .exact h
 .exact h
 .exact h
 .split
  .exact h
  .trivial
 .exact h
 .exact h
 .exact h
 .exact h
 .rename_i x id k _
  cases exitTo id k with
  |none=>exact hleave (some (.exit id))
  |some k'=>exact h
 .rename_i x l k _
  cases gotoIn l k with
  |none=>exact hleave (some (.goto l))
  |some k'=>exact h
 .refine ko ?_;split
  .rename_i he;exact o7 (d6 h he)
  .trivial
 .trivial
 .exact o7 h
 .refine ko ?_;split
  .rename_i he;exact d6 h he
  .rename_i he;exact jm h he
  .trivial
 .trivial
 .exact o7 h
 .rename_i x row a args _
  cases Extern.next row with
  |none=>trivial
  |some e=>exact o7 h
 .refine acm h ?_;split
  .rename_i he;exact d6 h he
  .trivial
 .exact h
 .exact acm (bfw h) h
theorem a1x{d:Nat}{p:Program}{b a:Bool}{g:Goroutine}{w:World}(h:d<=w.drawn):aek d (stepG p b g w a):=by
 unfold stepG;simp only;split
 .exact bk6 h
 .exact bcf h
 .exact az0 h
def bbr(d:Nat):Stepped->Prop
 | .next m=>d<=m.world.drawn
 |_=>True
theorem bc8{d:Nat}{c:Prop} [Decidable c]{a b:Stepped}(f:bbr d a)(e:bbr d b):bbr d (if c then a else b):=by
 split<;>assumption
theorem ad8{d:Nat}{p:Program}{rest:Rest}{gs:Array Goroutine}{i:Nat}{g:Goroutine}{b:Array CommCase}{e:Bool}{sh:CommShape}{w:World}
  (h:d<=w.drawn):bbr d (communicate p rest gs i g b e sh w).1:=by
 unfold communicate;simp only;split
 .trivial
 .split
  .split
   .split
    .rename_i w' he;unfold waitingAt at he;split at he
     .split at he
      .cases he;exact h
      .cases he
     .cases he;exact h
    .trivial
   .exact h
  .split
   .trivial
   .rename_i k c way w' he;have a:d<=w'.drawn:=d6 h he;split
    .split
     .rename_i hp;exact jm a hp
     .trivial
    .exact a
    .exact a
    .split
     .exact a
     .split
      .rename_i hb;have hx:=d6 a hb;exact hx
      .trivial
    .exact a
    .exact a
    .trivial
theorem auz{d:Nat}{p:Program}{gs:Array Goroutine}{rest:Rest}{w:World}(h:d<=w.drawn):bbr d (look p gs rest w):=by
 unfold look;simp only;split
 .split
  .trivial
  .split
   .trivial
   .split
    .rename_i he;have hx:=d6 h he;exact hx
    .trivial
    .trivial
 .trivial
theorem a1i{d:Nat}{p:Program}{m:Machine}{k:Nat}(h:d<=m.world.drawn):bbr d (serve p m k):=by
 unfold serve;split
 .trivial
 .exact h
 .simp only;split
  .trivial
  .exact h
theorem a2d{d:Nat}{w:World}{c:Nat}(h:d<=w.drawn):d<=(drain w c).2.drawn:=by
 unfold drain;split<;>exact h
theorem afg{d:Nat}{m:Machine}{k:Nat}{t:Timer}{a b:Nat}(h:d<=m.world.drawn):d<=(retime m k t a b).2.world.drawn:=by
 unfold retime
 cases hc:t.chan with
 |none=>exact h
 |some c=>exact a2d h
theorem apt{d:Nat}{m g:Machine}{l:TimerOp}{v:Value}(h:d<=m.world.drawn)(a:timerOp m l= .ok (v,g)):d<=g.world.drawn:=by
 have i: ∀(c:Machine) (b:Addr) (f:Nat->Timer->Value×Machine),(∀k t,d<=(f k t).2.world.drawn)->timerOp.named c b f= .ok (v,g)->d<=g.world.drawn:=by
  intro c b f j a;unfold timerOp.named at a;split at a
  .have e:=congrArg Prod.snd (Except.ok.inj a);have:=j (by assumption) (c.rest.timers.getD (by assumption) default);rw[e]at this;exact this
  .cases a
 unfold timerOp at a;split at a
 .split at a
  .cases a;exact h
  .split at a
   .split at a
    .cases a
    .cases a;exact h
   .cases a
 .exact i _ _ _ (λk t=>afg h) a
 .split at a
  .rename_i c ho;refine i _ _ _ (λk t=>afg ?_) a;unfold timerOp.opened at ho;split at ho
   .split at ho
    .cases ho;exact h
    .cases ho
   .cases ho;exact h
  .cases a
 .cases a;exact h
theorem bc3{d:Nat}{p:Program}{m:Machine}{i:Nat}{l:Bool}(h:d<=m.world.drawn):bbr d (runT p m i l).1:=by
 unfold runT;simp only;have hs: ∀g,aek d (stepG p (i==0) g m.world l):=λg=>a1x h;generalize a:m.gs.swapAt! i {(default:Goroutine)with status:= .finished}=sw;obtain⟨g,gs⟩:=sw;simp only;have a:=hs g;generalize stepG p (i==0) g m.world l=s at a
 cases s with
 |ended o w es=>trivial
 |comm g cases bl sh w es=>exact ad8 a
 |count g w es=>exact bc8 trivial a
 |collect g w es=>exact auz a
 |coroswitch g c ex w es=>
  simp only;split
  .exact a
  .split
   .rename_i hh;cases hh;exact a
   .trivial
  .trivial
 |timer g op w es=>
  simp only;split
  .rename_i he;have hx:=apt (m:={world:=w,gs,rest:=m.rest}) a he;exact hx
  .split
   .rename_i hh;cases hh;exact a
   .trivial
  .trivial
  .trivial
 |_=>exact a
def bqn(d:Nat):Move->Prop
 | .goroutine m _=>d<=m.world.drawn
 | .machine s _=>bbr d s
theorem acs{d:Nat}{p:Program}{m:Machine}(h:d<=m.world.drawn):bqn d (askOn p m):=by
 unfold askOn;simp only
 have pk: ∀(m':Machine) (rs:List Nat),d<=m'.world.drawn->bqn d (match (choose (.sched rs.length)).run p m'.world with
   | .halt _ w=> .machine (.ended (.stuck "sched" "") w)
   | .ok k world=>
    if rs.length<=1 then .goroutine {m' with world} (rs.getD k 0)else
    match (choose (.extern "sched.slice" 65536)).run p world with
    | .halt _ w=> .machine (.ended (.stuck "sched.slice" "") w)
    | .ok n world=> .goroutine {m' with world,rest:={m'.rest with slice:=if n=0 then none else some (rs.getD k 0,n)}} (rs.getD k 0)):=by
  intro m' rs h';split
  .trivial
  .rename_i he;split
   .exact d6 h' he
   .split
    .trivial
    .rename_i he2;exact d6 (d6 h' he) he2
 split
 .trivial
 .rename_i k world he;have h1:d<=world.drawn:=d6 h he;split
  .exact a1i (m:={m with world}) h1
  .split
   .split
    .exact h1
    .split
     .exact h1
     .split
      .trivial
      .trivial
   .split
    .exact pk {m with world} _ h1
    .split
     .trivial
     .rename_i he2;exact pk {m with world:=_} _ (d6 h1 he2)
     .rename_i he2;have hx:=d6 h1 he2;exact hx
     .rename_i he2;have hx:=d6 h1 he2;exact pk (({m with world:=_}:Machine).advanceTo _) _ hx
theorem as2{d:Nat}{p:Program}{m:Machine}(h:d<=m.world.drawn):bqn d (ask p m):=by
 unfold ask;split
 .split
  .trivial
  .rename_i he;have b:=d6 h he;have a:=auz (p:=p) (gs:=m.gs) (rest:=m.rest) b;split
   .rename_i hm;rw[hm]at a;exact acs a
   .exact a
  .rename_i he;exact acs (m:={m with world:=_}) (d6 h he)
 .exact acs h
theorem a9j{d:Nat}{p:Program}{m:Machine}(h:d<=m.world.drawn):bqn d (move p m):=by
 unfold move;split
 .exact(by split<;>first|exact h|trivial)
 .split
  .split
   .exact h
   .exact as2 (m:={m with rest:=_}) h
  .exact as2 h
theorem bb7{d:Nat}{p:Program}{m:Machine}(h:d<=m.world.drawn):bbr d (step p m):=by
 unfold step stepT;have a:=a9j (p:=p) h;generalize move p m=mv at a
 cases mv with
 |goroutine m' i=>exact bc3 a
 |machine s ops=>exact a
theorem atb{d:Nat}{p:Program}: ∀(n:Nat) {m m':Machine},d<=m.world.drawn->runN p n m= .next m'->d<=m'.world.drawn
 |0,m,m',h,he=>by cases he;exact h
 |n+1,m,m',h,he=>by
  simp only[runN]at he;have hs:=bb7 (p:=p) h;generalize step p m=s at he hs
  cases s with
  |next m1=>exact atb n hs he
  |_=>cases he
theorem ame{p:Program}{m a:Machine}(h:Steps p m a):m.world.drawn<=a.world.drawn:=by
 obtain⟨n,b⟩:=h;exact atb n (Nat.le_refl _) b
theorem a8z{P:Program}{k:FuncId}{as:Array Value}{w:World}{R:Ending->World->Prop}(h:Calls P k as w R):
  Calls P k as w λe w'=>R e w'/\(e= .outgrown\/w.drawn<=w'.drawn):=by
 intro cs;obtain⟨e,w',f,b,a,g,d⟩:=h cs;refine⟨e,w',f,⟨b,?_⟩,a,g,d⟩
 cases e with
 |returned v=>exact .inr (ame a)
 |panicked c=>exact .inr (ame a)
 |outgrown=>exact .inl rfl
end Go.Proofs.Am
