/- Group CaJ: laws of the proof, joined. No condition of its own. -/
import Derived.Test.YteaflphddciglaaGreatDoorCaG
set_option linter.unusedVariables false
set_option linter.unusedSimpArgs false
namespace Go.Sx
open Go Go.RowKit
def dP(G:Kj)(K:Nat->Prop)(P:Program)(T:World->Prop)(f:FuncId)(F:bZ):Prop:=
 (∃fn,iL P f fn)/\∀(X:Nat->Prop) (w0:World),(∀k,K k->X k)->eB X w0->T w0->∀args lh r,(F args lh).get=some r->dK P X w0 G f args lh r
def vS(G:Kj)(K:Nat->Prop)(P:Program)(T:World->Prop)(l:List (FuncId×bZ)):Prop:=∀e∈l,dP G K P T e.1 e.2
theorem Ez{G:Kj}{K:Nat->Prop}{P:Program}{T:World->Prop}:vS G K P T []:=fun e he=>by cases he
theorem bz{G:Kj}{K:Nat->Prop}{P:Program}{T:World->Prop}{f:FuncId}{F:bZ}{l:List (FuncId×bZ)}(h1:dP G K P T f F)(h:vS G K P T l):vS G K P T ((f,F)::l):=by
 intro e he;rcases List.mem_cons.1 he with rfl|he
 ·exact h1
 ·exact h e he
theorem Yn{G:Kj}{K:Nat->Prop}{P:Program}{T:World->Prop}{l:List (FuncId×bZ)}(h:vS G K P T l){X:Nat->Prop}{w0:World}(h0:∀k,K k->X k)(hB:eB X w0)(hT:T w0):
  ∀f F,DX l f=some F->(∃fn,iL P f fn)/\∀args lh r,(F args lh).get=some r->dK P X w0 G f args lh r:=by
 intro f F hf;unfold DX at hf;split at hf
 ·rename_i e he
  cases hf;have hm:=h e (List.mem_of_find?_eq_some he);rw[beq_true (List.find?_some (p:=fun e:FuncId×bZ=>Nat.beq e.1 f) he)]at hm
  exact⟨hm.1,hm.2 X w0 h0 hB hT⟩
 ·cases hf
def acJ(G:Kj)(K:Nat->Prop)(P:Program)(T:World->Prop)(f:FuncId)(id:Nat)(F:Nat->St->M (Exit×St)):Prop:=
 ∃fn c,P.funcs[f]?=some fn/\fn.body=some c/\(sF id c).isSome=true/\∀(X:Nat->Prop) (w0:World),(∀k,K k->X k)->eB X w0->T w0->∀base s e s',base<=s.lh.length->(F base s).get=some (e,s')->dM P X w0 G base (.block id (xY id c)) s e s'
def MQ(G:Kj)(K:Nat->Prop)(P:Program)(T:World->Prop)(l:List (FuncId×Nat×(Nat->St->M (Exit×St)))):Prop:=∀e∈l,acJ G K P T e.1 e.2.1 e.2.2
theorem Bq{G:Kj}{K:Nat->Prop}{P:Program}{T:World->Prop}:MQ G K P T []:=fun e he=>by cases he
def Po(G:Kj)(P:Program)(fns:List (FuncId×Func))(eqs:List (TypeId×List Bool))(Ag:List (FuncId×bZ))(qQ:List (FuncId×Nat×(Nat->St->M (Exit×St)))):Env:=
 {P:=P,G:=G,fns:=fns,eqs:=eqs,LU:=DX Ag,qQ:=D5 qQ}
theorem LZ{G:Kj}{K:Nat->Prop}{P:Program}{T:World->Prop}{fns:List (FuncId×Func)}{eqs:List (TypeId×List Bool)}{Ag:List (FuncId×bZ)}{qQ:List (FuncId×Nat×(Nat->St->M (Exit×St)))}
  (he:∀e∈eqs,pU P e.1 e.2=true) (hm:P.follows .mixedOrders=true) (hf:∀e∈fns,iL P e.1 e.2) (ho:vS G K P T Ag) (hl:MQ G K P T qQ) {X:Nat->Prop} {w0:World} (h0:∀k,K k->X k) (hB:eB X w0) (hT:T w0):
  iA (Po G P fns eqs Ag qQ) X w0 where
 eqs:=he
 mixed:=hm
 fns:=hf
 LU:=Yn ho h0 hB hT
 qQ:=by
  intro f id F hF fn c hmem hb b' hbm base s e s' hbs hs;change D5 qQ f id=some F at hF;unfold D5 at hF;split at hF
  ·rename_i en hen
   cases hF;have hbb:=List.find?_some (p:=fun e:FuncId×Nat×(Nat->St->M (Exit×St))=>Nat.beq e.1 f&&Nat.beq e.2.1 id) hen
   rw[Bool.and_eq_true]at hbb;obtain⟨fn2,c2,h1,h2,h3,h4⟩:=hl en (List.mem_of_find?_eq_some hen);rw[beq_true hbb.1]at h1;rw[beq_true hbb.2]at h3 h4;have h5:=(hf _ hmem).1;rw[h1]at h5;cases h5;rw[h2]at hb;cases hb;rw[Hy h3 hbm];exact h4 X w0 h0 hB hT base s e s' hbs hs
  ·cases hF
def j5(F:Nat->Prop)(w:World):Nat->Prop:=fun j=>j<w.heap.size/\¬F j
theorem sD(F:Nat->Prop)(w:World):eB (j5 F w) w:=fun _ h=>h.1
def FI(H:List ag):Bool:=H.all H9
theorem Tp{H:List ag}(h:FI H=true){k:Nat}(ha:(H.getD k .dead).alive=true):(H.getD k .dead).owned=true:=by
 unfold FI at h;rw[List.all_eq_true]at h;by_cases hk:k<H.length
 ·have:=h (H.getD k .dead) (by
   rw[List.getD_eq_getElem?_getD,List.getElem?_eq_getElem hk];exact List.getElem_mem hk)
  unfold H9 at this;rw[ha]at this;simpa using this
 ·rw[List.getD_eq_getElem?_getD,List.getElem?_eq_none (by omega)]at ha;cases ha
def JH(G:Kj)(H:List ag)(F:Nat->Prop)(b:Nat)(w:World):Prop:=
 FI H=true/\(∀j,F j->j<w.heap.size)/\∃σ,HR (j5 F w) w G σ H w/\(∃p,σ 0=some p/\p.b=b/\p.o=0)/\∀k p,σ k=some p->(H.getD k .dead).alive=true->F p.b
theorem HR.static{X:Nat->Prop}{w0 w:World}{σ:Nat->Option Pl}{H:List ag}(h:HR X w0 0 σ H w){F:Nat->Prop}(ho:FI H=true)(hF:∀k p,σ k=some p->(H.getD k .dead).alive=true->F p.b):HR (j5 F w) w 0 σ H w:=by
 refine⟨sD F w,Kept.refl _ _,?_,h.dom,h.lt,h.inj,fun k p hk=> ?_⟩
 ·obtain⟨F0,_,_,h3,_⟩:=h.ab
  refine iB.no fun k p hk=> ?_
  have:=h3 k p hk;cases hx:(H.getD k .dead).aM with
  |none=>exact .inl rfl
  |some o=>
   cases o with
   |none=>exact .inr rfl
   |some a=>rw[hx]at this;exact this.elim
 ·exact(h.blk k p hk).sets fun oF hx=>hx.2 (hF k p hk (oU oF))
theorem JH.st{H:List ag}{F:Nat->Prop}{b:Nat}{w w':World}(h:JH 0 H F b w)(hs:w.heap.size<=w'.heap.size)(hw:∀j,F j->w'.heap[j]?=w.heap[j]?):JH 0 H F b w':=by
 obtain⟨ho,hlt,σ,hr,h0,hF⟩:=h;refine⟨ho,fun j hj=>Nat.lt_of_lt_of_le (hlt j hj) hs,σ,?_,h0,hF⟩
 refine⟨sD F w',Kept.refl _ _,?_,hr.dom,fun k p hk=>Nat.lt_of_lt_of_le (hr.lt k p hk) hs,hr.inj,fun k p hk=> ?_⟩
 ·obtain⟨F0,_,_,h3,_⟩:=hr.ab
  refine iB.no fun k p hk=> ?_
  have:=h3 k p hk;cases hx:(H.getD k .dead).aM with
  |none=>exact .inl rfl
  |some o=>
   cases o with
   |none=>exact .inr rfl
   |some a=>rw[hx]at this;exact this.elim
 ·cases ha:(H.getD k .dead).alive with
  |true=>
   have hf:=hF k p hk ha;exact((hr.blk k p hk).mono (Le.refl _) (hw p.b hf)).sets fun _ hx=>hx.2 hf
  |false=>
   cases hd:H.getD k .dead with
   |dead=>exact⟨fun e=>(by cases e),trivial⟩
   |_=>rw[hd]at ha;cases ha
theorem FL{G:Kj}{K:Nat->Prop}{P:Program}{T:World->Prop}(hT:∀(X:Nat->Prop) w w',(∀k,K k->X k)->T w->Kept X w w'->T w'){f:FuncId}{a a':wZ}{rest pE:List Value}{v v2:Value}{Q:Prop}{k:Nat}(hp:rest.all aN=true)(hv:aN v=true)
  (hra:∀(σ:Nat->Option Pl) (args':Array Value),dY σ (.pointer (some ⟨k,0,none⟩)::pE).toArray args'->Q/\∃p,σ k=some p/\args'=(.pointer (some ⟨p.b,p.o+0,none⟩)::rest).toArray)
  (h2:Q->∀(σ:Nat->Option Pl),VR σ v2 v)
  (hraw:Q->∀F b w,G.J a F b w->∃H H',JH 0 H F b w/\FI H'=true/\(∀(X:Nat->Prop) (w0:World),(∀k,K k->X k)->eB X w0->T w0->dK P X w0 0 f (.pointer (some ⟨0,0,none⟩)::rest) H (v,H'))/\∀F' w',JH 0 H' F' b w'->G.J a' F' b w')
  {X:Nat->Prop} {w0:World} (h0:∀k,K k->X k) (hB:eB X w0) (Mt:T w0) {lh:List ag} (hk:lh.getD k .dead=.abs true a):
  dK P X w0 G f (.pointer (some ⟨k,0,none⟩)::pE) lh (v2,lh.set k (.abs true a')):=by
 have hkl:k<lh.length:=by
  rcases Nat.lt_or_ge k lh.length with h|h
  ·exact h
  ·rw[List.getD_eq_getElem?_getD,List.getElem?_eq_none h]at hk;cases hk
 refine⟨bu.set _ _ (by rw[hk];rfl),fun σ w args' hr hargs=> ?_⟩
 obtain⟨hQ,p,hpk,rfl⟩:=hra σ args' hargs;obtain⟨F,a1,a2,a3,a4⟩:=hr.ab;have hJ:=a3 k p hpk;rw[hk]at hJ;have hJ:G.J a (F p.b) p.b w:=hJ;obtain⟨H,H',⟨ho,hlt,σi,uE,⟨q,hq0,TK,hqo⟩,hF⟩,ho',hcall,hback⟩:=hraw hQ _ _ _ hJ;have IB:∀j,X j->j5 (F p.b) w j:=fun j hj=>⟨hr.size j hj,fun hf=>(a1 _ j hf).2 hj⟩
 have P9:T w:=hT X w0 w h0 Mt hr.below
 have hc:=(hcall (j5 (F p.b) w) w (fun j hj=>IB j (h0 j hj)) (sD _ _) P9).2 σi w (.pointer (some ⟨q.b,q.o+0,none⟩)::rest).toArray uE ⟨by simp,fun i x y hx hy=>by
  cases i with
  |zero=>
   simp at hx hy;subst hx hy;exact VR.ptr (off:=0) hq0
  |succ i=>
   simp at hx hy;rw[hx]at hy;cases hy;rw[List.all_eq_true]at hp;exact VR.aN _ (hp x (List.mem_of_getElem? hx))⟩
 have hpo:p.o=0:=by
  have:=(hr.blk k p hpk).2;rw[hk]at this;exact this
 have CY:(Value.pointer (some ⟨q.b,q.o+0,none⟩)::rest)=.pointer (some ⟨p.b,p.o+0,none⟩)::rest:=by rw[TK,hqo,hpo]
 rw[CY]at hc;refine hc.mono fun e w' hh=> ?_
 obtain⟨v',rfl,rV,_,hv',uX⟩:=hh;obtain rfl:=hv'.aD hv;have hsz:=uX.below.size;let F':Nat->Prop:=fun j=>F p.b j\/w.heap.size<=j/\j<w'.heap.size
 have hin:∀i r,rV i=some r->(H'.getD i .dead).alive=true->F' r.b:=fun i r hi ha=>by
  have hown:=Tp ho' ha;have hn:=((uX.blk i r hi).1 hown).1;by_cases hs:w.heap.size<=r.b
  ·exact .inr ⟨hs,uX.lt i r hi⟩
  ·refine .inl (Classical.byContradiction fun hf=>hn ⟨by omega,hf⟩)
 obtain⟨q2,hq2,alk,alj⟩:∃q,rV 0=some q/\q.b=p.b/\q.o=0:=by
  refine⟨q,?_,TK,hqo⟩;have fQ:=‹Ext H.length σi rV›;rw[fQ.2 0 (uE.dom 0 q hq0)];exact hq0
 have hJ':G.J a' F' p.b w':=hback F' w' ⟨ho',fun j hj=>hj.elim (fun h=>Nat.lt_of_lt_of_le (hlt j h) hsz) (fun h=>h.2),rV,uX.static ho' hin,⟨q2,hq2,alk,alj⟩,hin⟩
 have hsame:∀j,j<w.heap.size->¬F p.b j->w'.heap[j]?=w.heap[j]?:=fun j hj hf=>uX.below.block j ⟨hj,hf⟩
 have hlen:∀i,i≠k->(lh.set k (.abs true a')).getD i .dead=lh.getD i .dead:=fun i hi=>aX _ _ hi
 have hself:(lh.set k (.abs true a')).getD k .dead=.abs true a':=dA _ _ _ hkl;obtain⟨Fn,f1,f2⟩:∃Fn:Nat->Nat->Prop,Fn p.b=F'/\∀b,b≠p.b->Fn b=F b:=⟨fun b=>if b=p.b then F' else F b,if_pos rfl,fun b hb=>if_neg hb⟩
 refine⟨v',rfl,σ,Ext.refl _ _,h2 hQ σ,hr.hn,hr.below.trans (uX.below.mono IB),?_,fun i r hi=>by simpa using hr.dom i r hi,fun i r hi=>Nat.lt_of_lt_of_le (hr.lt i r hi) hsz,fun i i' r r' hi hi' oF nQ hbb=> ?_,fun i r hi=> ?_⟩
 ·refine⟨Fn,fun b j hj=> ?_,fun b b' j hj hj'=> ?_,fun i r hi=> ?_,fun i i' r r' x x' hi hi' hx hx' hb=> ?_⟩
  ·by_cases hb:b=p.b
   ·subst hb;rw[f1]at hj
    rcases hj with hj|hj
    ·exact⟨Nat.lt_of_lt_of_le (a1 _ j hj).1 hsz,(a1 _ j hj).2⟩
    ·exact⟨hj.2,fun hx=>by have:=hr.size j hx;omega⟩
   ·rw[f2 _ hb]at hj
    exact⟨Nat.lt_of_lt_of_le (a1 _ j hj).1 hsz,(a1 _ j hj).2⟩
  ·by_cases hb:b=p.b
   ·by_cases hb':b'=p.b
    ·rw[hb,hb']
    ·subst hb;rw[f1]at hj
     rw[f2 _ hb']at hj';rcases hj with hj|hj
     ·exact a2 _ _ j hj hj'
     ·have:=(a1 _ j hj').1;omega
   ·by_cases hb':b'=p.b
    ·rw[f2 _ hb]at hj
     subst hb';rw[f1]at hj';rcases hj' with hj'|hj'
     ·exact a2 _ _ j hj hj'
     ·have:=(a1 _ j hj).1;omega
    ·rw[f2 _ hb]at hj
     rw[f2 _ hb']at hj';exact a2 _ _ j hj hj'
  ·by_cases e:i=k
   ·subst e
    rw[hself];rw[hpk]at hi;cases hi;show G.J a' (Fn p.b) p.b w';rw[f1];exact hJ'
   ·rw[hlen i e]
    have h3:=a3 i r hi;cases hx:(lh.getD i .dead).aM with
    |none=>trivial
    |some o=>
     rw[hx]at h3;cases o with
     |none=>
      intro j hj;by_cases hb:j=p.b
      ·subst hb;rw[f1]at hj
       rcases hj with hj|hj
       ·exact h3 _ hj
       ·have:=hr.lt i r hi;omega
      ·rw[f2 _ hb]at hj
       exact h3 _ hj
     |some x=>
      have hne:r.b≠p.b:=fun hb=>e (a4 i k r p x a hi hpk hx (by rw[hk];rfl) hb)
      show G.J x (Fn r.b) r.b w';rw[f2 _ hne];exact G.st x _ _ w w' h3 hsz fun j hj=>hsame j (a1 _ j hj).1 fun hf=>hne (a2 _ _ j hj hf)
  ·have k1:∀i r x,σ i=some r->((lh.set k (.abs true a')).getD i .dead).aM=some (some x)->∃y,(lh.getD i .dead).aM=some (some y):=fun i r x hi hx=>by
    by_cases e:i=k
    ·subst e;exact⟨a,by rw[hk];rfl⟩
    ·rw[hlen i e]at hx;exact⟨x,hx⟩
   obtain⟨y,hy⟩:=k1 i r x hi hx;obtain⟨y',hy'⟩:=k1 i' r' x' hi' hx';exact a4 i i' r r' y y' hi hi' hy hy' hb
 ·have k1:∀i,((lh.set k (.abs true a')).getD i .dead).owned=(lh.getD i .dead).owned/\((lh.set k (.abs true a')).getD i .dead).alive=(lh.getD i .dead).alive:=fun i=>by
   by_cases e:i=k
   ·subst e;rw[hself,hk];exact⟨rfl,rfl⟩
   ·rw[hlen i e];exact⟨rfl,rfl⟩
  rw[(k1 i).1]at oF;rw[(k1 i').2]at nQ;exact hr.inj i i' r r' hi hi' oF nQ hbb
 ·by_cases e:i=k
  ·subst e
   rw[hself];rw[hpk]at hi;cases hi;exact⟨fun e=>(by cases e),hpo⟩
  ·rw[hlen i e]
   have hb:=hr.blk i r hi;have h3:=a3 i r hi;cases hx:lh.getD i .dead with
   |dead=>exact⟨fun e=>(by cases e),trivial⟩
   |abs wr x=>rw[hx]at hb;exact⟨fun e=>(by cases e),hb.2⟩
   |_=>
    rw[hx]at h3;rw[<-hx];exact hb.mono (Le.refl _) (hsame r.b (hr.lt i r hi) (h3 p.b))
end Go.Sx
namespace Go.Sx
open Go Go.RowKit
theorem HR.init{n:Nat->Prop}{w0 w:World}{G:Kj}{σ:Nat->Option Pl}{H:List ag}{nb:ag}(h:HR n w0 G σ (H++[nb]) w)(hfit:H.all (Da H.length)=true):HR n w0 G (fun i=>if i<H.length then σ i else none) H w:=by
 have hs:∀i p,(if i<H.length then σ i else none)=some p->i<H.length/\σ i=some p:=fun i p hi=>by
  split at hi
  ·exact⟨by assumption,hi⟩
  ·cases hi
 have hg:∀i,i<H.length->(H++[nb]).getD i .dead=H.getD i .dead:=fun i hi=>bY _ _ _ hi
 refine⟨h.hn,h.below,?_,fun i p hi=>(hs i p hi).1,fun i p hi=>h.lt i p (hs i p hi).2,fun i j p q hi hj ho ha hb=> ?_,fun i p hi=> ?_⟩
 ·obtain⟨F,f1,f2,f3,f4⟩:=h.ab
  refine⟨F,f1,f2,fun i p hi=> ?_,fun i j p q a a' hi hj ha ha' hb=> ?_⟩
  ·obtain⟨hl,hi⟩:=hs i p hi
   rw[<-hg i hl];exact f3 i p hi
  ·obtain⟨hl,hi⟩:=hs i p hi
   obtain⟨hl',hj⟩:=hs j q hj;rw[<-hg i hl]at ha;rw[<-hg j hl']at ha';exact f4 i j p q a a' hi hj ha ha' hb
 ·obtain⟨hl,hi⟩:=hs i p hi
  obtain⟨hl',hj⟩:=hs j q hj;rw[<-hg i hl]at ho;rw[<-hg j hl']at ha;exact h.inj i j p q hi hj ho ha hb
 ·obtain⟨hl,hi⟩:=hs i p hi
  have hb:=h.blk i p hi;rw[hg i hl]at hb;refine hb.fit (m:=H.length) ?_ fun k hk=>if_pos hk
  rw[List.all_eq_true]at hfit;rw[List.getD_eq_getElem?_getD,List.getElem?_eq_getElem hl];exact hfit _ (List.getElem_mem hl)
theorem aeP{G:Kj}{K:Nat->Prop}{P:Program}{T:World->Prop}(hT:∀(X:Nat->Prop) w w',(∀k,K k->X k)->T w->Kept X w w'->T w'){f:FuncId}{a a':wZ}{rest pE:List Value}{nb:ag}{len:Nat}{Q:Prop}{k:Nat}(hp:rest.all aN=true)
  (hnb:nb.owned=true) (hnp:Da 0 nb=true)
  (hra:∀(σ:Nat->Option Pl) (args':Array Value),dY σ (.pointer (some ⟨k,0,none⟩)::pE).toArray args'->Q/\∃p,σ k=some p/\args'=(.pointer (some ⟨p.b,p.o+0,none⟩)::rest).toArray)
  (hown:∀a F b w,G.J a F b w->F b)
  (hraw:Q->∀F b w,G.J a F b w->∃H H',JH 0 H F b w/\FI H'=true/\H'.all (Da H'.length)=true/\H'.length=H.length/\(H'.getD 0 .dead).alive=true/\(∀(X:Nat->Prop) (w0:World),(∀k,K k->X k)->eB X w0->T w0->dK P X w0 0 f (.pointer (some ⟨0,0,none⟩)::rest) H (.slice (some ⟨H'.length,0,some 1⟩) len 0,H'++[nb]))/\∀F' w',JH 0 H' F' b w'->G.J a' F' b w')
  {X:Nat->Prop} {w0:World} (h0:∀k,K k->X k) (hB:eB X w0) (Mt:T w0) {lh:List ag} (hk:lh.getD k .dead=.abs true a):
  dK P X w0 G f (.pointer (some ⟨k,0,none⟩)::pE) lh (.slice (some ⟨lh.length,0,some 1⟩) len 0,lh.set k (.abs true a')++[nb]):=by
 have hkl:k<lh.length:=by
  rcases Nat.lt_or_ge k lh.length with h|h
  ·exact h
  ·rw[List.getD_eq_getElem?_getD,List.getElem?_eq_none h]at hk;cases hk
 have hkeep:bu lh (lh.set k (.abs true a')++[nb]):=by
  refine⟨by simp,fun i hi hw=> ?_⟩
  rw[bY _ _ _ (by simpa using hi)]
  by_cases e:i=k
  ·subst e;rw[hk]at hw;cases hw
  ·exact aX _ _ e
 refine⟨hkeep,fun σ w args' hr hargs=> ?_⟩
 obtain⟨hQ,p,hpk,rfl⟩:=hra σ args' hargs;obtain⟨F,a1,a2,a3,a4⟩:=hr.ab;have hJ:=a3 k p hpk;rw[hk]at hJ;have hJ:G.J a (F p.b) p.b w:=hJ;obtain⟨H,H',⟨ho,hlt,σi,uE,⟨q,hq0,TK,hqo⟩,hF⟩,ho',hfit,hlen',hal,hcall,hback⟩:=hraw hQ _ _ _ hJ;have IB:∀j,X j->j5 (F p.b) w j:=fun j hj=>⟨hr.size j hj,fun hf=>(a1 _ j hf).2 hj⟩
 have P9:T w:=hT X w0 w h0 Mt hr.below
 have hc:=(hcall (j5 (F p.b) w) w (fun j hj=>IB j (h0 j hj)) (sD _ _) P9).2 σi w (.pointer (some ⟨q.b,q.o+0,none⟩)::rest).toArray uE ⟨by simp,fun i x y hx hy=>by
  cases i with
  |zero=>
   simp at hx hy;subst hx hy;exact VR.ptr (off:=0) hq0
  |succ i=>
   simp at hx hy;rw[hx]at hy;cases hy;rw[List.all_eq_true]at hp;exact VR.aN _ (hp x (List.mem_of_getElem? hx))⟩
 have hpo:p.o=0:=by
  have:=(hr.blk k p hpk).2;rw[hk]at this;exact this
 have CY:(Value.pointer (some ⟨q.b,q.o+0,none⟩)::rest)=.pointer (some ⟨p.b,p.o+0,none⟩)::rest:=by rw[TK,hqo,hpo]
 rw[CY]at hc;refine hc.mono fun e w' hh=> ?_
 obtain⟨v',rfl,rV,fQ,hv',hrn⟩:=hh
 obtain⟨pn,hpn,hlc,rfl⟩:∃pn,rV H'.length=some pn/\len<=pn.cap/\v'=.slice (some ⟨pn.b,pn.o,none⟩) len pn.cap:=by
  have gen:∀z,VR rV (.slice (some ⟨z,0,some 1⟩) len 0) v'->∃pn,rV z=some pn/\len<=pn.cap/\v'=.slice (some ⟨pn.b,pn.o,none⟩) len pn.cap:=fun z h=>by
   cases h with
   |vec h hl=>exact⟨_,h,hl,rfl⟩
  exact gen _ hv'
 have hsz:=hrn.below.size;have VH:(H'++[nb]).getD H'.length .dead=nb:=iQ _ _
 have hnn:¬j5 (F p.b) w pn.b:=by
  have:=(hrn.blk _ _ hpn).1;rw[VH]at this;exact(this hnb).1
 have uX:=hrn.init hfit;let F':Nat->Prop:=fun j=>(F p.b j\/w.heap.size<=j/\j<w'.heap.size)/\j≠pn.b
 have hs:∀i r,(if i<H'.length then rV i else none)=some r->i<H'.length/\rV i=some r:=fun i r hi=>by
  split at hi
  ·exact⟨by assumption,hi⟩
  ·cases hi
 have hin:∀i r,(if i<H'.length then rV i else none)=some r->(H'.getD i .dead).alive=true->F' r.b:=fun i r hi ha=>by
  have hown:=Tp ho' ha;have hn:=((uX.blk i r hi).1 hown).1;refine⟨?_,fun hb=> ?_⟩
  ·by_cases hs:w.heap.size<=r.b
   ·exact .inr ⟨hs,uX.lt i r hi⟩
   ·refine .inl (Classical.byContradiction fun hf=>hn ⟨by omega,hf⟩)
  ·obtain⟨hl,hi⟩:=hs i r hi
   have:=hrn.inj H'.length i pn r hpn hi (by rw[VH];exact hnb) (by rw[bY _ _ _ hl];exact ha) hb.symm
   omega
 have hl0:0<H'.length:=by
  rcases Nat.eq_zero_or_pos H'.length with h|h
  ·rw[List.eq_nil_of_length_eq_zero h]at hal;cases hal
  ·exact h
 have hq2:rV 0=some q:=by
  rw[fQ.2 0 (uE.dom 0 q hq0)];exact hq0
 have alm:(if 0<H'.length then rV 0 else none)=some q:=by rw[if_pos hl0];exact hq2
 have hpb:p.b≠pn.b:=fun hb=>by
  have:=hrn.inj H'.length 0 pn q hpn hq2 (by rw[VH];exact hnb) (by rw[bY _ _ _ hl0];exact hal) (by rw[TK];exact hb.symm)
  omega
 have hJ':G.J a' F' p.b w':=hback F' w' ⟨ho',fun j hj=>hj.1.elim (fun h=>Nat.lt_of_lt_of_le (hlt j h) hsz) (fun h=>h.2),_,uX.static ho' hin,⟨q,alm,TK,hqo⟩,hin⟩
 have hsame:∀j,j<w.heap.size->¬F p.b j->w'.heap[j]?=w.heap[j]?:=fun j hj hf=>hrn.below.block j ⟨hj,hf⟩
 have aju:∀b,b≠p.b->¬F b pn.b:=fun b hb hf=>by
  have h1:=(a1 b pn.b hf).1;exact hnn ⟨h1,fun hf'=>hb (a2 _ _ _ hf hf')⟩
 have hfn:¬pn.b<w.heap.size\/F p.b pn.b:=by
  by_cases h:pn.b<w.heap.size
  ·exact .inr (Classical.byContradiction fun hf=>hnn ⟨h,hf⟩)
  ·exact .inl h
 have hl1:(lh.set k (.abs true a')++[nb]).length=lh.length+1:=by simp
 have hat:∀i,i<lh.length->(lh.set k (.abs true a')++[nb]).getD i .dead=(lh.set k (.abs true a')).getD i .dead:=fun i hi=>bY _ _ _ (by simpa using hi)
 have hnew:(lh.set k (.abs true a')++[nb]).getD lh.length .dead=nb:=by
  simp
 have hlen:∀i,i<lh.length->i≠k->(lh.set k (.abs true a')++[nb]).getD i .dead=lh.getD i .dead:=fun i hl hi=>by rw[hat i hl];exact aX _ _ hi
 have hself:(lh.set k (.abs true a')++[nb]).getD k .dead=.abs true a':=by rw[hat k hkl];exact dA _ _ _ hkl
 obtain⟨Fn,f1,f2⟩:∃Fn:Nat->Nat->Prop,Fn p.b=F'/\∀b,b≠p.b->Fn b=F b:=⟨fun b=>if b=p.b then F' else F b,if_pos rfl,fun b hb=>if_neg hb⟩
 have hup:∀i r,upd σ lh.length pn i=some r->(i=lh.length/\r=pn)\/(i<lh.length/\σ i=some r):=fun i r hi=>by
  by_cases e:i=lh.length
  ·subst e;rw[upd_same]at hi;cases hi;exact .inl ⟨rfl,rfl⟩
  ·rw[dF _ _ e]at hi;exact .inr ⟨hr.dom i r hi,hi⟩
 have ahs:∀i r,σ i=some r->(lh.getD i .dead).alive=true->r.b≠pn.b:=fun i r hi ha hb=>by
  have hl:=hr.lt i r hi;have hf:F p.b pn.b:=hfn.elim (fun h=>absurd (hb▸hl) h) id
  have h3:=a3 i r hi;cases hx:(lh.getD i .dead).aM with
  |none=>exact absurd hx (Dm.1 ha)
  |some o=>
   rw[hx]at h3;cases o with
   |none=>exact h3 p.b (hb▸hf)
   |some x=>
    have hfr:F r.b r.b:=hown _ _ _ _ h3;have:r.b=p.b:=a2 _ _ _ hfr (hb▸hf);exact hpb (this.symm.trans hb)
 refine⟨_,rfl,upd σ lh.length pn,hr.sK pn,VR.vec (upd_same _ _ _) hlc,hr.hn,hr.below.trans (hrn.below.mono IB),?_,fun i r hi=> ?_,fun i r hi=> ?_,fun i i' r r' hi hi' oF nQ hbb=> ?_,fun i r hi=> ?_⟩
 ·refine⟨Fn,fun b j hj=> ?_,fun b b' j hj hj'=> ?_,fun i r hi=> ?_,fun i i' r r' x x' hi hi' hx hx' hb=> ?_⟩
  ·by_cases hb:b=p.b
   ·subst hb;rw[f1]at hj
    rcases hj.1 with hj|hj
    ·exact⟨Nat.lt_of_lt_of_le (a1 _ j hj).1 hsz,(a1 _ j hj).2⟩
    ·exact⟨hj.2,fun hx=>by have:=hr.size j hx;omega⟩
   ·rw[f2 _ hb]at hj
    exact⟨Nat.lt_of_lt_of_le (a1 _ j hj).1 hsz,(a1 _ j hj).2⟩
  ·by_cases hb:b=p.b
   ·by_cases hb':b'=p.b
    ·rw[hb,hb']
    ·subst hb;rw[f1]at hj
     rw[f2 _ hb']at hj';rcases hj.1 with hj|hj
     ·exact a2 _ _ j hj hj'
     ·have:=(a1 _ j hj').1;omega
   ·by_cases hb':b'=p.b
    ·rw[f2 _ hb]at hj
     subst hb';rw[f1]at hj';rcases hj'.1 with hj'|hj'
     ·exact a2 _ _ j hj hj'
     ·have:=(a1 _ j hj).1;omega
    ·rw[f2 _ hb]at hj
     rw[f2 _ hb']at hj';exact a2 _ _ j hj hj'
  ·rcases hup i r hi with⟨rfl,rfl⟩|⟨hl,hi⟩
   ·rw[hnew,jd hnb]
    intro j hj;by_cases hb:j=p.b
    ·subst hb;rw[f1]at hj;exact hj.2 rfl
    ·rw[f2 _ hb]at hj;exact aju j hb hj
   ·by_cases e:i=k
    ·subst e
     rw[hself];rw[hpk]at hi;cases hi;show G.J a' (Fn p.b) p.b w';rw[f1];exact hJ'
    ·rw[hlen i hl e]
     have h3:=a3 i r hi;cases hx:(lh.getD i .dead).aM with
     |none=>trivial
     |some o=>
      rw[hx]at h3;cases o with
      |none=>
       intro j hj;by_cases hb:j=p.b
       ·subst hb;rw[f1]at hj
        rcases hj.1 with hj|hj
        ·exact h3 _ hj
        ·have:=hr.lt i r hi;omega
       ·rw[f2 _ hb]at hj
        exact h3 _ hj
      |some x=>
       have hne:r.b≠p.b:=fun hb=>e (a4 i k r p x a hi hpk hx (by rw[hk];rfl) hb)
       show G.J x (Fn r.b) r.b w';rw[f2 _ hne];exact G.st x _ _ w w' h3 hsz fun j hj=>hsame j (a1 _ j hj).1 fun hf=>hne (a2 _ _ j hj hf)
  ·have k1:∀i r x,upd σ lh.length pn i=some r->((lh.set k (.abs true a')++[nb]).getD i .dead).aM=some (some x)->σ i=some r/\∃y,(lh.getD i .dead).aM=some (some y):=fun i r x hi hx=>by
    rcases hup i r hi with⟨rfl,rfl⟩|⟨hl,hi⟩
    ·rw[hnew,jd hnb]at hx;cases hx
    ·refine⟨hi,?_⟩
     by_cases e:i=k
     ·subst e;exact⟨a,by rw[hk];rfl⟩
     ·rw[hlen i hl e]at hx;exact⟨x,hx⟩
   obtain⟨z,y,hy⟩:=k1 i r x hi hx;obtain⟨z',y',hy'⟩:=k1 i' r' x' hi' hx';exact a4 i i' r r' y y' z z' hy hy' hb
 ·rcases hup i r hi with⟨rfl,_⟩|⟨hl,_⟩
  ·rw[hl1];exact Nat.lt_succ_self _
  ·rw[hl1];exact Nat.lt_succ_of_lt hl
 ·rcases hup i r hi with⟨_,rfl⟩|⟨_,hi⟩
  ·exact hrn.lt _ _ hpn
  ·exact Nat.lt_of_lt_of_le (hr.lt i r hi) hsz
 ·have k1:∀i,i<lh.length->((lh.set k (.abs true a')++[nb]).getD i .dead).owned=(lh.getD i .dead).owned/\((lh.set k (.abs true a')++[nb]).getD i .dead).alive=(lh.getD i .dead).alive:=fun i hl=>by
   by_cases e:i=k
   ·subst e;rw[hself,hk];exact⟨rfl,rfl⟩
   ·rw[hlen i hl e];exact⟨rfl,rfl⟩
  rcases hup i r hi with⟨e1,e2⟩|⟨hl,hi2⟩
  ·rcases hup i' r' hi' with⟨e3,e4⟩|⟨hl',abN⟩
   ·rw[e1,e3]
   ·rw[(k1 i' hl').2]at nQ
    exact absurd (hbb.symm.trans (by rw[e2])) (ahs i' r' abN nQ)
  ·rw[(k1 i hl).1]at oF
   rcases hup i' r' hi' with⟨e3,e4⟩|⟨hl',abN⟩
   ·exact absurd (hbb.trans (by rw[e4])) (ahs i r hi2 (oU oF))
   ·rw[(k1 i' hl').2]at nQ
    exact hr.inj i i' r r' hi2 abN oF nQ hbb
 ·rcases hup i r hi with⟨rfl,rfl⟩|⟨hl,hi⟩
  ·rw[hnew]
   have hb:=hrn.blk _ _ hpn;rw[VH]at hb;exact(hb.fit (m:=0) hnp (fun j hj=>absurd hj (Nat.not_lt_zero _))).sets fun _ hx=>hnn (IB _ hx)
  ·by_cases e:i=k
   ·subst e
    rw[hself];rw[hpk]at hi;cases hi;exact⟨fun e=>(by cases e),hpo⟩
   ·rw[hlen i hl e]
    have hb:=hr.blk i r hi;have h3:=a3 i r hi;cases hx:lh.getD i .dead with
    |dead=>exact⟨fun e=>(by cases e),trivial⟩
    |abs wr x=>rw[hx]at hb;exact⟨fun e=>(by cases e),hb.2⟩
    |_=>
     rw[hx]at h3;rw[<-hx];exact hb.mono (hr.wK pn) (hsame r.b (hr.lt i r hi) (h3 p.b))
end Go.Sx
namespace Go.Sx
open Go Go.RowKit
theorem aeQ{G:Kj}{K:Nat->Prop}{P:Program}{T:World->Prop}(hT:∀(X:Nat->Prop) w w',(∀k,K k->X k)->T w->Kept X w w'->T w'){f:FuncId}{a a':wZ}{rest pE:List Value}{v v2:Value}{Q:Prop}{k:Nat}
  (hra:∀(σ:Nat->Option Pl) (args':Array Value),dY σ (.pointer (some ⟨k,0,none⟩)::pE).toArray args'->Q/\∃p,σ k=some p/\args'=(.pointer (some ⟨p.b,p.o+0,none⟩)::rest).toArray)
  (h2:Q->∀(σ:Nat->Option Pl),VR σ v2 v)
  (hraw:Q->∀(F:Nat->Prop) (b:Nat) (w:World),G.J a F b w->T w->(∀j,F j->j<w.heap.size)->(∀k,K k->k<w.heap.size/\¬F k)->Calls P f (.pointer (some ⟨b,0,none⟩)::rest).toArray w fun e w'=>e=.returned v/\Kept (j5 F w) w w'/\G.J a' (fun j=>F j\/w.heap.size<=j/\j<w'.heap.size) b w')
  {X:Nat->Prop} {w0:World} (h0:∀k,K k->X k) (hB:eB X w0) (Mt:T w0) {lh:List ag} (hk:lh.getD k .dead=.abs true a):
  dK P X w0 G f (.pointer (some ⟨k,0,none⟩)::pE) lh (v2,lh.set k (.abs true a')):=by
 have hkl:k<lh.length:=by
  rcases Nat.lt_or_ge k lh.length with h|h
  ·exact h
  ·rw[List.getD_eq_getElem?_getD,List.getElem?_eq_none h]at hk;cases hk
 refine⟨bu.set _ _ (by rw[hk];rfl),fun σ w args' hr hargs=> ?_⟩
 obtain⟨hQ,p,hpk,rfl⟩:=hra σ args' hargs;obtain⟨F,a1,a2,a3,a4⟩:=hr.ab;have hJ:=a3 k p hpk;rw[hk]at hJ;have hJ:G.J a (F p.b) p.b w:=hJ;have IB:∀j,X j->j5 (F p.b) w j:=fun j hj=>⟨hr.size j hj,fun hf=>(a1 _ j hf).2 hj⟩
 have P9:T w:=hT X w0 w h0 Mt hr.below
 have hpo:p.o=0:=by
  have:=(hr.blk k p hpk).2;rw[hk]at this;exact this
 have hc:=hraw hQ _ _ _ hJ P9 (fun j hj=>(a1 _ j hj).1) (fun j hj=>IB j (h0 j hj))
 have CY:(Value.pointer (some ⟨p.b,p.o+0,none⟩)::rest)=.pointer (some ⟨p.b,0,none⟩)::rest:=by rw[hpo]
 rw[CY];refine hc.mono fun e w' hh=> ?_
 obtain⟨rfl,hkept,hJ'⟩:=hh;have hsz:=hkept.size;let F':Nat->Prop:=fun j=>F p.b j\/w.heap.size<=j/\j<w'.heap.size
 have hsame:∀j,j<w.heap.size->¬F p.b j->w'.heap[j]?=w.heap[j]?:=fun j hj hf=>hkept.block j ⟨hj,hf⟩
 have hlen:∀i,i≠k->(lh.set k (.abs true a')).getD i .dead=lh.getD i .dead:=fun i hi=>aX _ _ hi
 have hself:(lh.set k (.abs true a')).getD k .dead=.abs true a':=dA _ _ _ hkl;obtain⟨Fn,f1,f2⟩:∃Fn:Nat->Nat->Prop,Fn p.b=F'/\∀b,b≠p.b->Fn b=F b:=⟨fun b=>if b=p.b then F' else F b,if_pos rfl,fun b hb=>if_neg hb⟩
 refine⟨v,rfl,σ,Ext.refl _ _,h2 hQ σ,hr.hn,hr.below.trans (hkept.mono IB),?_,fun i r hi=>by simpa using hr.dom i r hi,fun i r hi=>Nat.lt_of_lt_of_le (hr.lt i r hi) hsz,fun i i' r r' hi hi' oF nQ hbb=> ?_,fun i r hi=> ?_⟩
 ·refine⟨Fn,fun b j hj=> ?_,fun b b' j hj hj'=> ?_,fun i r hi=> ?_,fun i i' r r' x x' hi hi' hx hx' hb=> ?_⟩
  ·by_cases hb:b=p.b
   ·subst hb;rw[f1]at hj
    rcases hj with hj|hj
    ·exact⟨Nat.lt_of_lt_of_le (a1 _ j hj).1 hsz,(a1 _ j hj).2⟩
    ·exact⟨hj.2,fun hx=>by have:=hr.size j hx;omega⟩
   ·rw[f2 _ hb]at hj
    exact⟨Nat.lt_of_lt_of_le (a1 _ j hj).1 hsz,(a1 _ j hj).2⟩
  ·by_cases hb:b=p.b
   ·by_cases hb':b'=p.b
    ·rw[hb,hb']
    ·subst hb;rw[f1]at hj
     rw[f2 _ hb']at hj';rcases hj with hj|hj
     ·exact a2 _ _ j hj hj'
     ·have:=(a1 _ j hj').1;omega
   ·by_cases hb':b'=p.b
    ·rw[f2 _ hb]at hj
     subst hb';rw[f1]at hj';rcases hj' with hj'|hj'
     ·exact a2 _ _ j hj hj'
     ·have:=(a1 _ j hj).1;omega
    ·rw[f2 _ hb]at hj
     rw[f2 _ hb']at hj';exact a2 _ _ j hj hj'
  ·by_cases e:i=k
   ·subst e
    rw[hself];rw[hpk]at hi;cases hi;show G.J a' (Fn p.b) p.b w';rw[f1];exact hJ'
   ·rw[hlen i e]
    have h3:=a3 i r hi;cases hx:(lh.getD i .dead).aM with
    |none=>trivial
    |some o=>
     rw[hx]at h3;cases o with
     |none=>
      intro j hj;by_cases hb:j=p.b
      ·subst hb;rw[f1]at hj
       rcases hj with hj|hj
       ·exact h3 _ hj
       ·have:=hr.lt i r hi;omega
      ·rw[f2 _ hb]at hj
       exact h3 _ hj
     |some x=>
      have hne:r.b≠p.b:=fun hb=>e (a4 i k r p x a hi hpk hx (by rw[hk];rfl) hb)
      show G.J x (Fn r.b) r.b w';rw[f2 _ hne];exact G.st x _ _ w w' h3 hsz fun j hj=>hsame j (a1 _ j hj).1 fun hf=>hne (a2 _ _ j hj hf)
  ·have k1:∀i r x,σ i=some r->((lh.set k (.abs true a')).getD i .dead).aM=some (some x)->∃y,(lh.getD i .dead).aM=some (some y):=fun i r x hi hx=>by
    by_cases e:i=k
    ·subst e;exact⟨a,by rw[hk];rfl⟩
    ·rw[hlen i e]at hx;exact⟨x,hx⟩
   obtain⟨y,hy⟩:=k1 i r x hi hx;obtain⟨y',hy'⟩:=k1 i' r' x' hi' hx';exact a4 i i' r r' y y' hi hi' hy hy' hb
 ·have k1:∀i,((lh.set k (.abs true a')).getD i .dead).owned=(lh.getD i .dead).owned/\((lh.set k (.abs true a')).getD i .dead).alive=(lh.getD i .dead).alive:=fun i=>by
   by_cases e:i=k
   ·subst e;rw[hself,hk];exact⟨rfl,rfl⟩
   ·rw[hlen i e];exact⟨rfl,rfl⟩
  rw[(k1 i).1]at oF;rw[(k1 i').2]at nQ;exact hr.inj i i' r r' hi hi' oF nQ hbb
 ·by_cases e:i=k
  ·subst e
   rw[hself];rw[hpk]at hi;cases hi;exact⟨fun e=>(by cases e),hpo⟩
  ·rw[hlen i e]
   have hb:=hr.blk i r hi;have h3:=a3 i r hi;cases hx:lh.getD i .dead with
   |dead=>exact⟨fun e=>(by cases e),trivial⟩
   |abs wr x=>rw[hx]at hb;exact⟨fun e=>(by cases e),hb.2⟩
   |_=>
    rw[hx]at h3;rw[<-hx];exact hb.mono (Le.refl _) (hsame r.b (hr.lt i r hi) (h3 p.b))
end Go.Sx
