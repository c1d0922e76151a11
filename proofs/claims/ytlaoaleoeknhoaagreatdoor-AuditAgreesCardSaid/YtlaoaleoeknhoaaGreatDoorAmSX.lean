/- AmSX. -/
import Derived.Test.YtlaoaleoeknhoaaGreatDoorGWSix
set_option linter.unusedSimpArgs false
set_option linter.unusedVariables false
namespace Go.Proofs.Am
open Go Go.RowKit
variable {σ:ASt}{w:World}{N:Nat}{c:Code}{a:Act}{k:FuncId}{ext:List Box}{fn:Func}{Q:Exit->Act->World->Prop}{ι ρ:Type}
def SX(good:ρ->Prop)(p:ρ->Prop):Prop:= ∃r,good r/\p r
theorem bb6{a:ρ->Prop}{p q:ρ->Prop}(h: ∀r,p r=q r):SX a p=SX a q:=by have:p=q:=funext h;rw[this]
attribute [congr] bb6
theorem SX.mono{a:ρ->Prop}{p q:ρ->Prop}(h: ∀r,p r->q r):SX a p->SX a q:=λ⟨r,b,c⟩=>⟨r,b,h r c⟩
theorem SX.put{a:ρ->Prop}{p:ρ->Prop}(r:ρ)(b:a r)(c:p r):SX a p:=⟨r,b,c⟩
theorem SX.sub{b a:ρ->Prop}{p:ρ->Prop}(h: ∀r,a r->b r):SX a p->SX b p:=λ⟨r,c,d⟩=>⟨r,h r c,d⟩
theorem bpi{b:ρ->Prop}{a:Prop}{p:ρ->Prop}:SX b (λr=>a/\p r)=(a/\SX b p):=propext ⟨λ⟨r,c,d,e⟩=>⟨d,r,c,e⟩,λ⟨d,r,c,e⟩=>⟨r,c,d,e⟩⟩
variable {P:Program}  {fr fr':AFr} {σ':ASt}  {good:ρ->Prop}
theorem aq{c a:LP}{g:PV}{f b:List Box}(D:Den P k a ext g f b)(e:LN){us:LP}{d:Option Nat}{K:ρ->KT}
  (h:SX good λr=>bb4 a ext g f b e (us++c) d σ (K r)):SX good λr=>zh P (.fn k c) us d σ (K r):=h.mono λ_ h=>Qq D e h
def LpA(P:Program)(c:Code)(Q:Exit->Act->World->Prop)(a:Act)(w:World):Prop:=
 ∀b k cs,∃e a' w',Q e a' w'/\Arrives P (lone (b.at a (.code c:: .inLoop c::k)) cs w) b k cs e a' w'
theorem LpA.loop(h:LpA P c Q a w):(Code.loop c).wp P Q a w:=λb k cs=>by
 obtain⟨e,g,f,i,d⟩:=h b k cs;exact⟨e,g,f,i,.of_steps (.one step_loop) d⟩
theorem LpA.of(h:c.wp P (Exit.then (λa' w'=>LpA P c Q a' w') Q) a w):LpA P c Q a w:=λb k cs=>by
 obtain⟨e,j,i,g,d⟩:=h b (.inLoop c::k) cs
 cases e with
 |normal=>
  obtain⟨n,o,p,m,f⟩:=g b k cs
  exact⟨n,o,p,m,.of_steps (Steps.trans d (.one step_inLoop)) f⟩
 |exit id=>exact⟨_,j,i,g,.pass (x:= .inLoop c) rfl (λ_ _=> .inl Ad) d⟩
 |goto l=>exact⟨_,j,i,g,.pass (x:= .inLoop c) rfl (λ_ _=> .inl Ad) d⟩
 |ret=>exact⟨_,j,i,g,.pass (x:= .inLoop c) rfl (λ_ _=> .inl Ad) d⟩
 |panic ch=>exact⟨_,j,i,g,.pass (x:= .inLoop c) rfl (λ_ _=> .inl Ad) d⟩
 |outgrown=>exact⟨_,j,i,g,.pass (x:= .inLoop c) rfl (λ_ _=> .inl Ad) d⟩
def LW(P:Program)(N:Nat)(c:Code)(Q:r8)(fr:AFr)(σ:ASt):Prop:=
 ∀(x:Ctx P) (a:Act) (hv:Nat->Value) (w:World),Good x N (look fr) (ai σ) a hv w->LpA P c (lift x N Q) a w
theorem bde{Q:r8}{fr fr':AFr}{σ':ASt}(h:fr=fr')(a:σ=σ'):LW P N c Q fr σ=LW P N c Q fr' σ':=by rw[h,a]
attribute [congr] bde
theorem LW.cv{Q:r8}(e:Cv P N fr σ fr' σ')(h:LW P N c Q fr' σ'):LW P N c Q fr σ:=λx a f w g=>by
 obtain⟨d,b⟩:=e x a f w g;exact h x a d w b
theorem LW.of(i:P.follows .mixedOrders=true){Q:r8}(j:ix N c=true)(h:wv P N c (yk (λfr' σ'=>LW P N c Q fr' σ') Q) fr σ):LW P N c Q fr σ:=λx a l w m=>
 LpA.of (wp_mono (jb i c j _ fr σ h x a l w m) λ_ _ _ f=>rq (λ_ _ d b e k g=>k x d b e g) f)
theorem LW.loop{Q:r8}(h:LW P N c Q fr σ):wv P N (.loop c) Q fr σ:=λx a b w d=>(h x a b w d).loop
theorem im(l:P.follows .mixedOrders=true){Q:ρ->r8}(d:ι)(e:ι->AFr)(b:ι->ASt)(I:ι->Prop)(μ:ι->Nat)(m:ix N c=true)(s:I d)(p:wk fr σ (e d) (b d))
  (a: ∀i,I i->(∀j,I j->μ j<μ i->SX good λr=>LW P N c (Q r) (e j) (b j))->SX good λr=>wv P N c (yk (λfr' σ'=>LW P N c (Q r) fr' σ') (Q r)) (e i) (b i)):SX good λr=>wv P N (.loop c) (Q r) fr σ:=by have f: ∀n i,μ i=n->I i->SX good λr=>LW P N c (Q r) (e i) (b i):=(by intro n;induction n using Nat.strongRecOn with|_ n ih=>intro i o k;exact(a i k λj q g=>ih (μ j) (o ▸ g) j rfl q).mono λr h=>LW.of l m h);exact(f _ d rfl s).mono λr h=>LW.loop (LW.cv (Cv.wk p) h)
theorem im_{Q:ρ->r8}(i0:ι)(fs:ι->AFr)(ss:ι->ASt)(I:ι->Prop)(μ:ι->Nat)(hI:I i0)(hw:wk fr σ (fs i0) (ss i0))(round: ∀i,I i->(∀j,I j->μ j<μ i->SX good λr=>LW P N c (Q r) (fs j) (ss j))->SX good λr=>wv P N c (yk (λfr' σ'=>LW P N c (Q r) fr' σ') (Q r)) (fs i) (ss i))(hm:P.follows .mixedOrders=true:=by kernel_rfl)(hc:ix N c=true:=by kernel_rfl):SX good λr=>wv P N (.loop c) (Q r) fr σ:=im hm i0 fs ss I μ hc hI hw round
theorem bkX{Q:ρ->r8}(h:SX good λr=>LW P N c (Q r) fr' σ')(a:wk fr σ fr' σ'):SX good λr=>LW P N c (Q r) fr σ:=h.mono λ_ h=>h.cv (Cv.wk a)
theorem cvX{Q:ρ->r8}(a:Cv P N fr σ fr' σ')(h:SX good λr=>wv P N (.loop c) (Q r) fr' σ'):SX good λr=>wv P N (.loop c) (Q r) fr σ:=h.mono λ_ h=>ak7 a h
theorem iu{Q:ρ->r8}(slot n e sz:Nat)(sh:Bool)(h:SX good λr=>wv P N (.loop c) (Q r) ((slot,.os n 0)::fr) (s7 σ n (.arr e sz sh [])))(hs:bv (look fr slot) λu=>u= .nils)(a:bv (ai σ n) λB=>B=none)(b:0<sz):SX good λr=>wv P N (.loop c) (Q r) fr σ:=
 h.mono λ_ h=>bm slot n e sz sh h hs a b
theorem bi(m:P.follows .mixedOrders=true){rs:List ResultVar}{args:LP}{enc:ρ->PV}{i a:ρ->List Box}(q:P.funcs[k]? =some fn)(l:fn.body=some c)
  (f: ∀zs9 w,(callFunc k zs9).run P w= .ok (.enter k zs9) w) (p:fn.ntmps=N) (d:fn.results.toList=rs) (g:args.length<=N) (n:ix N c=true) (ns:LN) {exts:LN} (b: ∀r,exts=List.range' 1000000 (a r).length) (e: ∀r,(a r).length=ext.length)
  (h:SX good λr=>wv P N c (bpr P rs ns exts (enc r) (i r) (a r)) (aad 0 args) (yu 0 ext)): ∃r,good r/\Den P k args ext (enc r) (i r) (a r):=by obtain⟨r,j,o⟩:=h;exact⟨r,j,bgz m q l f p d g n ns (b r) (e r) o⟩
theorem bi_(ns exts:LN){rs:Array ResultVar}{args:LP}{enc:ρ->PV}{nb ext':ρ->List Box}(hf:P.funcs[k]? =some fn)(hN:fn.ntmps=N)(hrs:fn.results=rs)(h:SX good fun r=>wv P N c (bpr P rs.toList ns exts (enc r) (nb r) (ext' r)) (aad 0 args) (yu 0 ext))(hm:P.follows .mixedOrders=true:=by kernel_rfl)(hb:fn.body=some c:=by rfl)(hle:args.length<=N:=by simp)(hc:ix N c=true:=by kernel_rfl)(hexts: ∀r,exts=List.range' 1000000 (ext' r).length:=by exact fun _=>rfl)(hel: ∀r,(ext' r).length=ext.length:=by exact fun _=>rfl)(hn:(fn.name== "runtime.NumGoroutine")=false:=by kernel_rfl): ∃r,good r/\Den P k args ext (enc r) (nb r) (ext' r):=bi hm hf hb (cl_ hf hb hn) hN (congrArg Array.toList hrs) hle hc ns hexts hel h
attribute [go_sem] bpi
end Go.Proofs.Am
