/- DFive. -/
import Derived.Test.YtloaichcpoboeaaGreatDoorDFour
import Derived.Test.YtloaichcpoboeaaGreatDoorTX1
set_option linter.unusedSimpArgs false
set_option linter.unusedVariables false
namespace Go.Proofs.Am
open Go Go.RowKit
open Go.Proofs
abbrev Gp:=Ct×List Int
def aqp(t:List UInt8)(G:List Gp):Option Nat:=G.findIdx? fun g=>decide (d5 g.1=t)
def tw(j:Nat):List Gp→List (PV×PV)
 |[]=>[]
 |g::r=>(.str (d5 g.1),.int .i64 j)::tw (j+1) r
def sb(j:Nat):List Gp→List (List PV)
 |[]=>[]
 |g::r=>[.vs (g.1.li.map i1),.vs (g.1.pi.map pn),.os (j+500) g.2.length]::sb (j+1) r
def tk(G:List Gp):List Box:=G.map fun g=> .arr 3 1 false (g.2.map i1)
def cG(G:List Gp)(y:Vt):List Gp:=
 match aqp (d5 y.x) G with
 |none=>G++[(y.x,[y.k])]
 |some j=>G.set j ((el G j).1,(el G j).2++[y.k])
def cF(seats:List Int)(v:List Vt)(i:Nat):List Gp:=(v.take i).foldl (fun G y=>if y.k∈seats then cG G y else G) []
theorem u6{seats:List Int}{v:List Vt}{i:Nat}(h:i<v.length):cF seats v (i+1)=if(el v i).k∈seats then cG (cF seats v i) (el v i)else cF seats v i:=by
 simp only[cF,bm h,List.foldl_append,List.foldl_cons,List.foldl_nil]
theorem a2d(G:List Gp)(g:Gp): ∀j,tw j (G++[g])=tw j G++[(.str (d5 g.1),.int .i64 ((j+G.length:Nat):Int))]:=by
 induction G with
 |nil=>intro j;rfl
 |cons a G ih=>
  intro j
  simp only[List.cons_append,tw,ih,List.length_cons]
  rw[show j+1+G.length=j+(G.length+1) by omega]
theorem amc(g:Gp): ∀(G:List Gp) (j k:Nat),d5 g.1=d5 (el G k).1→k<G.length→tw j (G.set k g)=tw j G
 |[],j,k,_,h=>by simp at h
 |a::G,j,0,h,_=>by
  simp only[List.set_cons_zero,tw]
  rw[show d5 g.1=d5 a.1 from h]
 |a::G,j,k+1,h,hk=>by
  simp only[List.set_cons_succ,tw]
  rw[amc g G (j+1) k h (by simpa using hk)]
theorem ab4: ∀(G:List Gp) (j:Nat),(sb j G).length=G.length
 |[],_=>rfl
 |a::G,j=>by simp[sb,ab4 G (j+1)]
theorem ayq(G:List Gp)(g:Gp): ∀j,sb j (G++[g])=sb j G++[[.vs (g.1.li.map i1),.vs (g.1.pi.map pn),.os (j+G.length+500) g.2.length]]:=by
 induction G with
 |nil=>intro j;rfl
 |cons a G ih=>
  intro j
  simp only[List.cons_append,sb,ih,List.length_cons]
  rw[show j+1+G.length=j+(G.length+1) by omega]
theorem ale(g:Gp): ∀(G:List Gp) (j k:Nat),k<G.length→sb j (G.set k g)=(sb j G).set k [.vs (g.1.li.map i1),.vs (g.1.pi.map pn),.os (j+k+500) g.2.length]
 |[],j,k,h=>by simp at h
 |a::G,j,0,_=>rfl
 |a::G,j,k+1,hk=>by
  simp only[List.set_cons_succ,sb]
  rw[ale g G (j+1) k (by simpa using hk),show j+1+k=j+(k+1) by omega]
theorem atc: ∀(G:List Gp) (j k:Nat),k<G.length→c9 (sb j G) k=[.vs ((el G k).1.li.map i1),.vs ((el G k).1.pi.map pn),.os (j+k+500) (el G k).2.length]
 |[],j,k,h=>by simp at h
 |a::G,j,0,_=>rfl
 |a::G,j,k+1,hk=>by
  have:=atc G (j+1) k (by simpa using hk)
  rw[show j+1+k=j+(k+1) by omega]at this
  exact this
theorem zd(t:List UInt8): ∀(G:List Gp) (j i:Nat),lf (.str t) (tw j G) i=some ((aqp t G).map (· +i))
 |[],j,i=>by simp[tw,lf,aqp]
 |g::G,j,i=>by
  have ih:=zd t G (j+1) (i+1)
  simp only[tw,lf,ac6,aqp,List.findIdx?_cons]
  by_cases h:t=d5 g.1
  ·have h':d5 g.1=t:=h.symm
   simp[h']
  ·have h': ¬d5 g.1=t:=fun e=>h e.symm
   simp only[h,h',decide_false,Bool.false_eq_true,if_false]
   rw[ih]
   simp only[aqp,Option.map_map]
   cases List.findIdx? (fun g=>decide (d5 g.1=t)) G with
   |none=>rfl
   |some x=>simp;omega
theorem ais(t:List UInt8)(G:List Gp):lf (.str t) (tw 0 G) 0=some (aqp t G):=by
 rw[zd]
 cases aqp t G<;>simp
theorem o6{t:List UInt8}{G:List Gp}{i:Nat}(h:aqp t G=some i):i<G.length∧d5 (el G i).1=t:=by
 unfold aqp at h
 rw[List.findIdx?_eq_some_iff_getElem]at h
 obtain⟨hi,h1,_⟩:=h
 refine⟨hi,?_⟩
 simpa [el,List.getD_eq_getElem?_getD,List.getElem?_eq_getElem hi] using h1
theorem axl: ∀(G:List Gp) (j k:Nat),k<G.length→((tw j G).getD k (PV.undef,PV.undef)).2= .int .i64 ((j+k:Nat):Int)
 |[],j,k,h=>by simp at h
 |a::G,j,0,_=>rfl
 |a::G,j,k+1,hk=>by
  have:=axl G (j+1) k (by simpa using hk)
  rw[show j+1+k=j+(k+1) by omega]at this
  simpa [tw] using this
def cFr(v:List Vt)(seats:List Int)(n:Nat)(i:Nat):AFr:=[(13,.vs (v.map vt7)),(1,.vs (seats.map i1)),(6,.mh 12),(5,.os 99 n),(14,.int .i64 v.length),(15,.int .i64 i)]
def cSt(G:List Gp):ASt:=(12,.mp (tw 0 G))::(99,.arh 179 3 (sb 0 G))::(900046,.arr 3 1 false [])::grp 500 (tk G)
theorem a5b{v:List Vt}{seats:List Int}{n i:Nat}{L:Nat→PV}(h13:L 13= .vs (v.map vt7))(h1:L 1= .vs (seats.map i1))(h6:L 6= .mh 12)(h5:L 5= .os 99 n)(h14:L 14= .int .i64 v.length)(h15:L 15= .int .i64 i):
  ∀t,look (cFr v seats n i) t= .undef∨look (cFr v seats n i) t=L t:=by
 intro t
 simp only[cFr,look]
 split
 ·rename_i h;subst h;exact .inr h13.symm
 split
 ·rename_i h;subst h;exact .inr h1.symm
 split
 ·rename_i h;subst h;exact .inr h6.symm
 split
 ·rename_i h;subst h;exact .inr h5.symm
 split
 ·rename_i h;subst h;exact .inr h14.symm
 split
 ·rename_i h;subst h;exact .inr h15.symm
 exact .inl rfl
theorem a4m{G:List Gp}{s:St}(h12:s 12=some (.mp (tw 0 G)))(h99:s 99=some (.arh 179 3 (sb 0 G)))(h9:s 900046=some (.arr 3 1 false []))
  (hg: ∀j,j<G.length→s (j+500)=some (.arr 3 1 false ((el G j).2.map i1))): ∀n B,ac (cSt G) n=some B→s n=some B:=by
 intro n B h
 simp only[cSt,ac]at h
 split at h
 ·rename_i e;subst e;rw[h12];exact h
 split at h
 ·rename_i e;subst e;rw[h99];exact h
 split at h
 ·rename_i e;subst e;rw[h9];exact h
 rw[gi]at h
 split at h
 ·rename_i hn
  obtain⟨j,rfl⟩: ∃j,n=j+500:=⟨n - 500,by omega⟩
  rw[Nat.add_sub_cancel]at h
  have hj:=(List.getElem?_eq_some_iff.1 h).1
  rw[show(tk G).length=G.length by simp[tk]]at hj
  rw[hg j hj,←h]
  simp[tk,el,List.getD_eq_getElem?_getD,hj]
 ·cases h
theorem al3: ∀(G:List Gp) (j:Nat) (r:List PV),r∈sb j G→∃k,k<G.length∧r=[.vs ((el G k).1.li.map i1),.vs ((el G k).1.pi.map pn),.os (j+k+500) (el G k).2.length]
 |[],j,r,h=>by simp[sb]at h
 |a::G,j,r,h=>by
  simp only[sb,List.mem_cons]at h
  rcases h with rfl|h
  ·exact⟨0,by simp,rfl⟩
  ·obtain⟨k,hk,rfl⟩:=al3 G (j+1) r h
   exact⟨k+1,by simpa using hk,by rw[show j+1+k=j+(k+1) by omega];rfl⟩
theorem az6(G:List Gp)(j:Nat)(h:j<G.length)(hj:j<900000 - 500):ac (cSt G) (j+500)≠none:=by
 simp only[cSt,ac]
 rw[if_neg (by omega),if_neg (by omega),if_neg (by omega),Nat.add_comm,i9]
 simp[tk,h]
theorem amt: ∀(G:List Gp) (j:Nat) (e:PV×PV),e∈tw j G→∃k:Int,e.2= .int .i64 k
 |[],j,e,h=>by simp[tw]at h
 |a::G,j,e,h=>by
  simp only[tw,List.mem_cons]at h
  rcases h with rfl|h
  ·exact⟨_,rfl⟩
  ·exact amt G (j+1) e h
theorem bcf{P:Program}{N:Nat}{fr:AFr}{σ:ASt}{v:List Vt}{seats:List Int}{G:List Gp}{i:Nat}(hl:G.length≤900)
  (h13:look fr 13= .vs (v.map vt7)) (h1:look fr 1= .vs (seats.map i1)) (h6:look fr 6= .mh 12) (h5:look fr 5= .os 99 G.length) (h14:look fr 14= .int .i64 v.length) (h15:look fr 15= .int .i64 i)
  (s12:ac σ 12=some (.mp (tw 0 G))) (s99:ac σ 99=some (.arh 179 3 (sb 0 G))) (s9:ac σ 900046=some (.arr 3 1 false []))
  (sg: ∀j,j<G.length→ac σ (j+500)=some (.arr 3 1 false ((el G j).2.map i1))) (hx: ∀n,1000000≤n→ac σ n=none):
  Cv P N fr σ (cFr v seats G.length i) (cSt G):=by
 refine Cv.weak (a5b h13 h1 h6 h5 h14 h15) (a4m s12 s99 s9 sg) (fun t=> ?_) (fun n B h=> ?_) fun n hn hf=>absurd (hx n hn) hf
 ·have c12:ac (cSt G) 12≠none:=by simp[cSt,ac]
  have c99:ac (cSt G) 99≠none:=by simp[cSt,ac]
  simp only[cFr,look]
  repeat' split
  all_goals first
   |exact .vs _
   |exact .int _ _
   |exact .mh _ c12
   |exact .os _ _ c99
   |exact .undef
 ·simp only[cSt,ac]at h
  split at h
  ·cases h
   intro e he
   obtain⟨k,hk⟩:=amt _ _ e he
   rw[hk]
   exact .int _ _
  split at h
  ·cases h
   intro r hr u hu
   obtain⟨k,hk,rfl⟩:=al3 _ _ r hr
   simp only[List.mem_cons,List.not_mem_nil,or_false]at hu
   rcases hu with rfl|rfl|rfl
   ·exact .vs _
   ·exact .vs _
   ·rw[Nat.zero_add]
    exact .os _ _ (az6 G k hk (by omega))
  split at h
  ·cases h;trivial
  rw[gi]at h
  split at h
  ·have:=List.mem_of_getElem? h
   obtain⟨g,_,rfl⟩:=List.mem_map.1 this
   trivial
  ·cases h
theorem ase(m:Nat): ∀(G:List Gp) (j:Nat),(sb j G).map (lk 58 m)=sb j G
 |[],_=>rfl
 |a::G,j=>by
  have h:rn 58 m (j+500)=j+500:=by unfold rn;rw[if_neg (by omega)]
  simp only[sb,List.map_cons,lk,renV,h,ase m G (j+1)]
theorem ash(m:Nat): ∀(G:List Gp) (j:Nat),(tw j G).map (fun p=>(p.1,renV 58 m p.2))=tw j G
 |[],_=>rfl
 |a::G,j=>by
  simp only[tw,List.map_cons,renV,ash m G (j+1)]
theorem a7y(G:List Gp)(j:Nat)(h:j<G.length)(hj:j<900000 - 500):ac (cSt G) (j+500)=some (.arr 3 1 false ((el G j).2.map i1)):=by
 simp only[cSt,ac]
 rw[if_neg (by omega),if_neg (by omega),if_neg (by omega),Nat.add_comm,i9]
 simp[tk,el,List.getD_eq_getElem?_getD,h]
theorem ayr(G:List Gp)(n:Nat)(h:G.length+900047≤n):ac (cSt G) n=none:=by
 simp only[cSt,ac]
 rw[if_neg (by omega),if_neg (by omega),if_neg (by omega),gi,if_pos (by omega)]
 exact List.getElem?_eq_none (by simp[tk];omega)
theorem bcs{P:Program}{N:Nat}{fr:AFr}{σ:ASt}{v:List Vt}{seats:List Int}{G:List Gp}{g:Gp}{i:Nat}(hl:G.length<900)
  (h13:look fr 13= .vs (v.map vt7)) (h1:look fr 1= .vs (seats.map i1)) (h6:look fr 6= .mh 12) (h5:look fr 5= .os 99 (G.length+1)) (h14:look fr 14= .int .i64 v.length) (h15:look fr 15= .int .i64 i)
  (s12:ac σ 12=some (.mp (tw 0 G++[(.str (d5 g.1),.int .i64 G.length)]))) (s99:ac σ 99=some (.arh 179 3 (sb 0 G++[[.vs (g.1.li.map i1),.vs (g.1.pi.map pn),.os 58 g.2.length]]))) (s9:ac σ 900046=some (.arr 3 1 false []))
  (s58:ac σ 58=some (.arr 3 1 false (g.2.map i1))) (sm:ac σ (G.length+500)=none)
  (sg: ∀j,j<G.length→ac σ (j+500)=some (.arr 3 1 false ((el G j).2.map i1))) (hx: ∀n,1000000≤n→ac σ n=none):
  Cv P N fr σ (cFr v seats (G++[g]).length i) (cSt (G++[g])):=by
 have hr: ∀k,k≠58→ac (yh 58 (G.length+500) σ) k=if k=G.length+500 then(ac σ 58).map (jm 58 (G.length+500))else(ac σ k).map (jm 58 (G.length+500)):=fun k hk=>(om sm k hk).2
 refine Cv.trans (Cv.rn [(58,G.length+500)] ⟨⟨sm,by omega,by omega,by omega⟩,trivial⟩) ?_
 refine bcf (fr:=ayb 58 (G.length+500) fr) (σ:=yh 58 (G.length+500) σ) (by simp;omega) ?_ ?_ ?_ ?_ ?_ ?_ ?_ ?_ ?_ (fun j hj=> ?_) fun n hn=> ?_
 ·rw[gv,h13];rfl
 ·rw[gv,h1];rfl
 ·rw[gv,h6];rfl
 ·rw[gv,h5,List.length_append];rfl
 ·rw[gv,h14];rfl
 ·rw[gv,h15];rfl
 ·rw[hr 12 (by omega),if_neg (by omega),s12,a2d]
  simp only[Option.map_some,jm,List.map_append,ash,List.map_cons,List.map_nil,renV,Nat.zero_add]
 ·rw[hr 99 (by omega),if_neg (by omega),s99,ayq]
  have h:rn 58 (G.length+500) 58=G.length+500:=by unfold rn;rw[if_pos rfl]
  simp only[Option.map_some,jm,List.map_append,ase,List.map_cons,List.map_nil,lk,renV,h,Nat.zero_add]
 ·rw[hr 900046 (by omega),if_neg (by omega),s9];rfl
 ·rw[hr (j+500) (by omega)]
  by_cases hjl:j=G.length
  ·subst hjl
   rw[if_pos rfl,s58]
   simp[jm,el]
  ·have hj':j<G.length:=by simp at hj;omega
   rw[if_neg (by omega),sg j hj']
   simp[jm,el,List.getElem?_append_left hj']
 ·rw[hr n (by omega),if_neg (by omega),hx n hn];rfl
end Go.Proofs.Am
