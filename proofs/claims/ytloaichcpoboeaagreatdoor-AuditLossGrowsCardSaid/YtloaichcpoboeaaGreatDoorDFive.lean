/- DFive. -/
import Derived.Test.YtloaichcpoboeaaGreatDoorDFour
import Derived.Test.YtloaichcpoboeaaGreatDoorTX1
set_option linter.unusedSimpArgs false
set_option linter.unusedVariables false
namespace Go.Proofs.Am
open Go Go.RowKit
open Go.Proofs
abbrev Gp:=Ct×List Int
def aoh(t:List UInt8)(G:List Gp):Option Nat:=G.findIdx? fun g=>decide (dz g.1=t)
def tg(j:Nat):List Gp→List (PV×PV)
 |[]=>[]
 |g::r=>(.str (dz g.1),.int .i64 j)::tg (j+1) r
def ri(j:Nat):List Gp→List (List PV)
 |[]=>[]
 |g::r=>[.vs (g.1.li.map i1),.vs (g.1.pi.map pn),.os (j+500) g.2.length]::ri (j+1) r
def tk(G:List Gp):List Box:=G.map fun g=> .arr 3 1 false (g.2.map i1)
def cG(G:List Gp)(y:Vt):List Gp:=
 match aoh (dz y.x) G with
 |none=>G++[(y.x,[y.k])]
 |some j=>G.set j ((el G j).1,(el G j).2++[y.k])
def cF(seats:List Int)(v:List Vt)(i:Nat):List Gp:=(v.take i).foldl (fun G y=>if y.k∈seats then cG G y else G) []
theorem xd{seats:List Int}{v:List Vt}{i:Nat}(h:i<v.length):cF seats v (i+1)=if(el v i).k∈seats then cG (cF seats v i) (el v i)else cF seats v i:=by
 simp only[cF,bm h,List.foldl_append,List.foldl_cons,List.foldl_nil]
theorem ay5(G:List Gp)(g:Gp): ∀j,tg j (G++[g])=tg j G++[(.str (dz g.1),.int .i64 ((j+G.length:Nat):Int))]:=by
 induction G with
 |nil=>intro j;rfl
 |cons a G ih=>
  intro j
  simp only[List.cons_append,tg,ih,List.length_cons]
  rw[show j+1+G.length=j+(G.length+1) by omega]
theorem ak6(g:Gp): ∀(G:List Gp) (j k:Nat),dz g.1=dz (el G k).1→k<G.length→tg j (G.set k g)=tg j G
 |[],j,k,_,h=>by simp at h
 |a::G,j,0,h,_=>by
  simp only[List.set_cons_zero,tg]
  rw[show dz g.1=dz a.1 from h]
 |a::G,j,k+1,h,hk=>by
  simp only[List.set_cons_succ,tg]
  rw[ak6 g G (j+1) k h (by simpa using hk)]
theorem acp: ∀(G:List Gp) (j:Nat),(ri j G).length=G.length
 |[],_=>rfl
 |a::G,j=>by simp[ri,acp G (j+1)]
theorem a2x(G:List Gp)(g:Gp): ∀j,ri j (G++[g])=ri j G++[[.vs (g.1.li.map i1),.vs (g.1.pi.map pn),.os (j+G.length+500) g.2.length]]:=by
 induction G with
 |nil=>intro j;rfl
 |cons a G ih=>
  intro j
  simp only[List.cons_append,ri,ih,List.length_cons]
  rw[show j+1+G.length=j+(G.length+1) by omega]
theorem al4(g:Gp): ∀(G:List Gp) (j k:Nat),k<G.length→ri j (G.set k g)=(ri j G).set k [.vs (g.1.li.map i1),.vs (g.1.pi.map pn),.os (j+k+500) g.2.length]
 |[],j,k,h=>by simp at h
 |a::G,j,0,_=>rfl
 |a::G,j,k+1,hk=>by
  simp only[List.set_cons_succ,ri]
  rw[al4 g G (j+1) k (by simpa using hk),show j+1+k=j+(k+1) by omega]
theorem av8: ∀(G:List Gp) (j k:Nat),k<G.length→dd (ri j G) k=[.vs ((el G k).1.li.map i1),.vs ((el G k).1.pi.map pn),.os (j+k+500) (el G k).2.length]
 |[],j,k,h=>by simp at h
 |a::G,j,0,_=>rfl
 |a::G,j,k+1,hk=>by
  have:=av8 G (j+1) k (by simpa using hk)
  rw[show j+1+k=j+(k+1) by omega]at this
  exact this
theorem zy(t:List UInt8): ∀(G:List Gp) (j i:Nat),kb (.str t) (tg j G) i=some ((aoh t G).map (· +i))
 |[],j,i=>by simp[tg,kb,aoh]
 |g::G,j,i=>by
  have ih:=zy t G (j+1) (i+1)
  simp only[tg,kb,acu,aoh,List.findIdx?_cons]
  by_cases h:t=dz g.1
  ·have h':dz g.1=t:=h.symm
   simp[h']
  ·have h': ¬dz g.1=t:=fun e=>h e.symm
   simp only[h,h',decide_false,Bool.false_eq_true,if_false]
   rw[ih]
   simp only[aoh,Option.map_map]
   cases List.findIdx? (fun g=>decide (dz g.1=t)) G with
   |none=>rfl
   |some x=>simp;omega
theorem ajf(t:List UInt8)(G:List Gp):kb (.str t) (tg 0 G) 0=some (aoh t G):=by
 rw[zy]
 cases aoh t G<;>simp
theorem pv{t:List UInt8}{G:List Gp}{i:Nat}(h:aoh t G=some i):i<G.length∧dz (el G i).1=t:=by
 unfold aoh at h
 rw[List.findIdx?_eq_some_iff_getElem]at h
 obtain⟨hi,h1,_⟩:=h
 refine⟨hi,?_⟩
 simpa [el,List.getD_eq_getElem?_getD,List.getElem?_eq_getElem hi] using h1
theorem aug: ∀(G:List Gp) (j k:Nat),k<G.length→((tg j G).getD k (PV.undef,PV.undef)).2= .int .i64 ((j+k:Nat):Int)
 |[],j,k,h=>by simp at h
 |a::G,j,0,_=>rfl
 |a::G,j,k+1,hk=>by
  have:=aug G (j+1) k (by simpa using hk)
  rw[show j+1+k=j+(k+1) by omega]at this
  simpa [tg] using this
def cFr(v:List Vt)(seats:List Int)(n:Nat)(i:Nat):AFr:=[(13,.vs (v.map vt7)),(1,.vs (seats.map i1)),(6,.mh 12),(5,.os 99 n),(14,.int .i64 v.length),(15,.int .i64 i)]
def cSt(G:List Gp):ASt:=(12,.mp (tg 0 G))::(99,.arh 179 3 (ri 0 G))::(900046,.arr 3 1 false [])::grp 500 (tk G)
theorem a4l{v:List Vt}{seats:List Int}{n i:Nat}{L:Nat→PV}(h13:L 13= .vs (v.map vt7))(h1:L 1= .vs (seats.map i1))(h6:L 6= .mh 12)(h5:L 5= .os 99 n)(h14:L 14= .int .i64 v.length)(h15:L 15= .int .i64 i):
  ∀t,look (cFr v seats n i) t= .undef∨look (cFr v seats n i) t=L t:=by
 intro t
 simp only[cFr,look]
 split
 ·rename_i h;subst h;exact .inr h13.symm
 split
 ·rename_i h;subst h;exact .inr h1.symm
 split
 ·rename_i h;subst h;exact .inr h6.symm
 split
 ·rename_i h;subst h;exact .inr h5.symm
 split
 ·rename_i h;subst h;exact .inr h14.symm
 split
 ·rename_i h;subst h;exact .inr h15.symm
 exact .inl rfl
theorem a7y{G:List Gp}{s:St}(h12:s 12=some (.mp (tg 0 G)))(h99:s 99=some (.arh 179 3 (ri 0 G)))(h9:s 900046=some (.arr 3 1 false []))
  (hg: ∀j,j<G.length→s (j+500)=some (.arr 3 1 false ((el G j).2.map i1))): ∀n B,ac (cSt G) n=some B→s n=some B:=by
 intro n B h
 simp only[cSt,ac]at h
 split at h
 ·rename_i e;subst e;rw[h12];exact h
 split at h
 ·rename_i e;subst e;rw[h99];exact h
 split at h
 ·rename_i e;subst e;rw[h9];exact h
 rw[gg]at h
 split at h
 ·rename_i hn
  obtain⟨j,rfl⟩: ∃j,n=j+500:=⟨n - 500,by omega⟩
  rw[Nat.add_sub_cancel]at h
  have hj:=(List.getElem?_eq_some_iff.1 h).1
  rw[show(tk G).length=G.length by simp[tk]]at hj
  rw[hg j hj,←h]
  simp[tk,el,List.getD_eq_getElem?_getD,hj]
 ·cases h
theorem aks: ∀(G:List Gp) (j:Nat) (r:List PV),r∈ri j G→∃k,k<G.length∧r=[.vs ((el G k).1.li.map i1),.vs ((el G k).1.pi.map pn),.os (j+k+500) (el G k).2.length]
 |[],j,r,h=>by simp[ri]at h
 |a::G,j,r,h=>by
  simp only[ri,List.mem_cons]at h
  rcases h with rfl|h
  ·exact⟨0,by simp,rfl⟩
  ·obtain⟨k,hk,rfl⟩:=aks G (j+1) r h
   exact⟨k+1,by simpa using hk,by rw[show j+1+k=j+(k+1) by omega];rfl⟩
theorem azw(G:List Gp)(j:Nat)(h:j<G.length)(hj:j<900000 - 500):ac (cSt G) (j+500)≠none:=by
 simp only[cSt,ac]
 rw[if_neg (by omega),if_neg (by omega),if_neg (by omega),Nat.add_comm,jd]
 simp[tk,h]
theorem amb: ∀(G:List Gp) (j:Nat) (e:PV×PV),e∈tg j G→∃k:Int,e.2= .int .i64 k
 |[],j,e,h=>by simp[tg]at h
 |a::G,j,e,h=>by
  simp only[tg,List.mem_cons]at h
  rcases h with rfl|h
  ·exact⟨_,rfl⟩
  ·exact amb G (j+1) e h
theorem bby{P:Program}{N:Nat}{fr:AFr}{σ:ASt}{v:List Vt}{seats:List Int}{G:List Gp}{i:Nat}(hl:G.length≤900)
  (h13:look fr 13= .vs (v.map vt7)) (h1:look fr 1= .vs (seats.map i1)) (h6:look fr 6= .mh 12) (h5:look fr 5= .os 99 G.length) (h14:look fr 14= .int .i64 v.length) (h15:look fr 15= .int .i64 i)
  (s12:ac σ 12=some (.mp (tg 0 G))) (s99:ac σ 99=some (.arh 179 3 (ri 0 G))) (s9:ac σ 900046=some (.arr 3 1 false []))
  (sg: ∀j,j<G.length→ac σ (j+500)=some (.arr 3 1 false ((el G j).2.map i1))) (hx: ∀n,1000000≤n→ac σ n=none):
  Cv P N fr σ (cFr v seats G.length i) (cSt G):=by
 refine Cv.weak (a4l h13 h1 h6 h5 h14 h15) (a7y s12 s99 s9 sg) (fun t=> ?_) (fun n B h=> ?_) fun n hn hf=>absurd (hx n hn) hf
 ·have c12:ac (cSt G) 12≠none:=by simp[cSt,ac]
  have c99:ac (cSt G) 99≠none:=by simp[cSt,ac]
  simp only[cFr,look]
  repeat' split
  all_goals first
   |exact .vs _
   |exact .int _ _
   |exact .mh _ c12
   |exact .os _ _ c99
   |exact .undef
 ·simp only[cSt,ac]at h
  split at h
  ·cases h
   intro e he
   obtain⟨k,hk⟩:=amb _ _ e he
   rw[hk]
   exact .int _ _
  split at h
  ·cases h
   intro r hr u hu
   obtain⟨k,hk,rfl⟩:=aks _ _ r hr
   simp only[List.mem_cons,List.not_mem_nil,or_false]at hu
   rcases hu with rfl|rfl|rfl
   ·exact .vs _
   ·exact .vs _
   ·rw[Nat.zero_add]
    exact .os _ _ (azw G k hk (by omega))
  split at h
  ·cases h;trivial
  rw[gg]at h
  split at h
  ·have:=List.mem_of_getElem? h
   obtain⟨g,_,rfl⟩:=List.mem_map.1 this
   trivial
  ·cases h
theorem aub(m:Nat): ∀(G:List Gp) (j:Nat),(ri j G).map (ld 58 m)=ri j G
 |[],_=>rfl
 |a::G,j=>by
  have h:rn 58 m (j+500)=j+500:=by unfold rn;rw[if_neg (by omega)]
  simp only[ri,List.map_cons,ld,renV,h,aub m G (j+1)]
theorem awd(m:Nat): ∀(G:List Gp) (j:Nat),(tg j G).map (fun p=>(p.1,renV 58 m p.2))=tg j G
 |[],_=>rfl
 |a::G,j=>by
  simp only[tg,List.map_cons,renV,awd m G (j+1)]
theorem a4s(G:List Gp)(j:Nat)(h:j<G.length)(hj:j<900000 - 500):ac (cSt G) (j+500)=some (.arr 3 1 false ((el G j).2.map i1)):=by
 simp only[cSt,ac]
 rw[if_neg (by omega),if_neg (by omega),if_neg (by omega),Nat.add_comm,jd]
 simp[tk,el,List.getD_eq_getElem?_getD,h]
theorem az5(G:List Gp)(n:Nat)(h:G.length+900047≤n):ac (cSt G) n=none:=by
 simp only[cSt,ac]
 rw[if_neg (by omega),if_neg (by omega),if_neg (by omega),gg,if_pos (by omega)]
 exact List.getElem?_eq_none (by simp[tk];omega)
theorem bdb{P:Program}{N:Nat}{fr:AFr}{σ:ASt}{v:List Vt}{seats:List Int}{G:List Gp}{g:Gp}{i:Nat}(hl:G.length<900)
  (h13:look fr 13= .vs (v.map vt7)) (h1:look fr 1= .vs (seats.map i1)) (h6:look fr 6= .mh 12) (h5:look fr 5= .os 99 (G.length+1)) (h14:look fr 14= .int .i64 v.length) (h15:look fr 15= .int .i64 i)
  (s12:ac σ 12=some (.mp (tg 0 G++[(.str (dz g.1),.int .i64 G.length)]))) (s99:ac σ 99=some (.arh 179 3 (ri 0 G++[[.vs (g.1.li.map i1),.vs (g.1.pi.map pn),.os 58 g.2.length]]))) (s9:ac σ 900046=some (.arr 3 1 false []))
  (s58:ac σ 58=some (.arr 3 1 false (g.2.map i1))) (sm:ac σ (G.length+500)=none)
  (sg: ∀j,j<G.length→ac σ (j+500)=some (.arr 3 1 false ((el G j).2.map i1))) (hx: ∀n,1000000≤n→ac σ n=none):
  Cv P N fr σ (cFr v seats (G++[g]).length i) (cSt (G++[g])):=by
 have hr: ∀k,k≠58→ac (yd 58 (G.length+500) σ) k=if k=G.length+500 then(ac σ 58).map (jk 58 (G.length+500))else(ac σ k).map (jk 58 (G.length+500)):=fun k hk=>(ph sm k hk).2
 refine Cv.trans (Cv.rn [(58,G.length+500)] ⟨⟨sm,by omega,by omega,by omega⟩,trivial⟩) ?_
 refine bby (fr:=axt 58 (G.length+500) fr) (σ:=yd 58 (G.length+500) σ) (by simp;omega) ?_ ?_ ?_ ?_ ?_ ?_ ?_ ?_ ?_ (fun j hj=> ?_) fun n hn=> ?_
 ·rw[gq,h13];rfl
 ·rw[gq,h1];rfl
 ·rw[gq,h6];rfl
 ·rw[gq,h5,List.length_append];rfl
 ·rw[gq,h14];rfl
 ·rw[gq,h15];rfl
 ·rw[hr 12 (by omega),if_neg (by omega),s12,ay5]
  simp only[Option.map_some,jk,List.map_append,awd,List.map_cons,List.map_nil,renV,Nat.zero_add]
 ·rw[hr 99 (by omega),if_neg (by omega),s99,a2x]
  have h:rn 58 (G.length+500) 58=G.length+500:=by unfold rn;rw[if_pos rfl]
  simp only[Option.map_some,jk,List.map_append,aub,List.map_cons,List.map_nil,ld,renV,h,Nat.zero_add]
 ·rw[hr 900046 (by omega),if_neg (by omega),s9];rfl
 ·rw[hr (j+500) (by omega)]
  by_cases hjl:j=G.length
  ·subst hjl
   rw[if_pos rfl,s58]
   simp[jk,el]
  ·have hj':j<G.length:=by simp at hj;omega
   rw[if_neg (by omega),sg j hj']
   simp[jk,el,List.getElem?_append_left hj']
 ·rw[hr n (by omega),if_neg (by omega),hx n hn];rfl
end Go.Proofs.Am
