/- AmCut. -/
import Derived.Test.YthidogjdclkoeaaGreatDoorAmZ
set_option linter.unusedSimpArgs false
set_option linter.unusedVariables false
namespace Go.Proofs.Am
open Go Go.RowKit
theorem aem{P:Program}(hm:P.follows .mixedOrders=true){N:Nat}{a b:Code}{Q:o8}{fr:AFr}{σ:ASt}(hc:fb N a=true)(h:wv P N a (ru (fun fr' σ'=>W P N b Q fr' σ') Q) fr σ):W P N (.seq a b) Q fr σ:=fun x ac hv w hG=>
 wp_seq (wp_mono (eo hm a hc _ fr σ h x ac hv w hG) fun _ _ _ hq=>kw (fun _ _ a'' hv'' w'' hk hg=>hk x a'' hv'' w'' hg) hq)
theorem a7n{P:Program}(hm:P.follows .mixedOrders=true){N:Nat}{a b:Code}{Q:o8}{fr:AFr}{σ:ASt}{ι:Type}(fs:ι->AFr)(ss:ι->ASt)(I:ι->Prop)(hc:fb N a=true)(h:wv P N a (ru (fun fr1 σ1=> ∃i,I i/\wk fr1 σ1 (fs i) (ss i)) Q) fr σ)(h2: ∀i,I i->W P N b Q (fs i) (ss i)):W P N (.seq a b) Q fr σ:=fun x ac hv w hG=>
 wp_seq (wp_mono (eo hm a hc _ fr σ h x ac hv w hG) fun _ _ _ hq=>kw (fun _ _ a'' hv'' w'' ⟨i,hi,hk⟩ hg=>h2 i hi x a'' hv'' w'' (hg.wk hk)) hq)
theorem a9n{P:Program}(hm:P.follows .mixedOrders=true){N:Nat}{c:Code}{Q:o8}{fr:AFr}{σ:ASt}(hc:fb N c=true)(h:wv P N c Q fr σ):W P N c Q fr σ:=eo hm c hc Q fr σ h
theorem a83{P:Program}(hm:P.follows .mixedOrders=true){k:FuncId}{fn:Func}{c:Code}{N:Nat}{rs:List ResultVar}{args:List PV}{ext:List Box}{r:PV}{nb ext':List Box}(hf:P.funcs[k]? =some fn)(hb:fn.body=some c)
  (hen: ∀av w,(callFunc k av).run P w= .ok (.enter k av) w) (hN:fn.ntmps=N) (hrs:fn.results.toList=rs) (hle:args.length<=N) (ns:List Nat) {exts:List Nat} (hexts:exts=List.range' 1000000 ext'.length) (hel:ext'.length=ext.length)
  (h:W P N c (a6o P rs ns exts r nb ext') (rk 0 args) (qg 0 ext)):Den P k args ext r nb ext':=by
 refine aah hm hf hb hen hN hrs hle hexts hel fun x a hv w hG=>wp_mono (h x a hv w hG) fun e a' w' hq=> ?_;have go: ∀fr σ,avc P rs ns exts r nb ext' fr σ->a30 P rs exts r nb ext' fr σ:=fun fr σ h=>⟨[],ns,trivial,agm h⟩
 cases e with
 |normal=>obtain⟨fr,σ,hv',h1,h2⟩:=hq;exact⟨fr,σ,hv',go _ _ h1,h2⟩
 |ret=>obtain⟨fr,σ,hv',h1,h2⟩:=hq;exact⟨fr,σ,hv',go _ _ h1,h2⟩
 |exit id=>exact hq
 |goto l=>exact hq
 |panic c=>exact hq
 |outgrown=>exact hq
end Go.Proofs.Am
