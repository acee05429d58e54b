import Derived.Test.YteaflphddciglaaGreatDoorCaG
set_option linter.all false
def mz:=@Nat.not_lt_zero
def sC:=@Nat.lt_succ_self
namespace Go.Sx
open Go Go.RowKit
def dP(G:Kj)(K:Nat->Prop)(P:Program)(T:World->Prop)(f:FuncId)(F:bZ):Prop:=
 (∃n,iL P f n)/\∀(X:Nat->Prop) (w:World),(∀k,K k->X k)->eB X w->T w->∀a l r,(F a l).get=some r->dK P X w G f a l r
def vS(G:Kj)(K:Nat->Prop)(P:Program)(T:World->Prop)(l:List (FuncId×bZ)):Prop:=∀e∈l,dP G K P T e.1 e.2
def Ez{G:Kj}{K:Nat->Prop}{P:Program}{T:World->Prop}:vS G K P T []:=λe h=>by cases h
def bz{G:Kj}{K:Nat->Prop}{P:Program}{T:World->Prop}{f:FuncId}{F:bZ}{l:List (FuncId×bZ)}(b:dP G K P T f F)(h:vS G K P T l):vS G K P T ((f,F)::l):=by
 intro e a;rcases List.mem_cons.1 a with rfl|a
 .exact b
 .exact h e a
def Yn{G:Kj}{K:Nat->Prop}{P:Program}{T:World->Prop}{l:List (FuncId×bZ)}(h:vS G K P T l){X:Nat->Prop}{w:World}(i:∀k,K k->X k)(B:eB X w)(n:T w):
  ∀f F,DX l f=some F->(∃o,iL P f o)/\∀a c r,(F a c).get=some r->dK P X w G f a c r:=by
 intro f F b;unfold DX at b;split at b
 .rename_i e d
  cases b;have m:=h e (iv d);rw[beq_true (qS (p:=λe:FuncId×bZ=>Nat.beq e.1 f) d)]at m;exact⟨m.1,m.2 X w i B n⟩
 .cases b
def acJ(G:Kj)(K:Nat->Prop)(P:Program)(T:World->Prop)(f:FuncId)(id:Nat)(F:Nat->St->M (Exit×St)):Prop:=
 ∃n c,P.funcs[f]?=some n/\n.body=some c/\(sF id c).isSome=true/\∀(X:Nat->Prop) (w:World),(∀k,K k->X k)->eB X w->T w->∀b s e a,b<=s.lh.length->(F b s).get=some (e,a)->dM P X w G b (.block id (xY id c)) s e a
def MQ(G:Kj)(K:Nat->Prop)(P:Program)(T:World->Prop)(l:List (FuncId×Nat×(Nat->St->M (Exit×St)))):Prop:=∀e∈l,acJ G K P T e.1 e.2.1 e.2.2
def Bq{G:Kj}{K:Nat->Prop}{P:Program}{T:World->Prop}:MQ G K P T []:=λe h=>by cases h
def Po(G:Kj)(P:Program)(f:List (FuncId×Func))(e:List (TypeId×List Bool))(A:List (FuncId×bZ))(q:List (FuncId×Nat×(Nat->St->M (Exit×St)))):Env:=
 {P:=P,G:=G,fns:=f,eqs:=e,LU:=DX A,qQ:=D5 q}
def LZ{G:Kj}{K:Nat->Prop}{P:Program}{T:World->Prop}{n:List (FuncId×Func)}{q:List (TypeId×List Bool)}{A:List (FuncId×bZ)}{Q:List (FuncId×Nat×(Nat->St->M (Exit×St)))}
  (D:∀e∈q,pU P e.1 e.2=true) (E:P.follows .mixedOrders=true) (o:∀e∈n,iL P e.1 e.2) (H:vS G K P T A) (I:MQ G K P T Q) {X:Nat->Prop} {w:World} (r:∀k,K k->X k) (B:eB X w) (u:T w):
  iA (Po G P n q A Q) X w where
 eqs:=D
 mixed:=E
 fns:=o
 LU:=Yn H r B u
 qQ:=by
  intro f id F a S c m v U i b s e J l L;change D5 Q f id=some F at a;unfold D5 at a;split at a
  .rename_i N d
   cases a;have h:=qS (p:=λe:FuncId×Nat×(Nat->St->M (Exit×St))=>Nat.beq e.1 f&&Nat.beq e.2.1 id) d;rw[Bool.and_eq_true]at h;obtain⟨O,V,x,R,y,z⟩:=I N (iv d);rw[beq_true h.1]at x;rw[beq_true h.2]at y z;have C:=(o _ m).1;rw[x]at C;cases C;rw[R]at v;cases v;rw[Hy y i];exact z X w r B u b s e J l L
  .cases a
def j5(F:Nat->Prop)(w:World):Nat->Prop:=λj=>j<w.heap.size/\¬F j
def sD(F:Nat->Prop)(w:World):eB (j5 F w) w:=λ_ h=>h.1
def FI(H:List ag):Bool:=H.all H9
def Tp{H:List ag}(h:FI H=true){k:Nat}(a:(H.getD k .dead).alive=true):(H.getD k .dead).owned=true:=by
 unfold FI at h;rw[List.all_eq_true]at h;by_cases b:k<H.length
 .have:=h (H.getD k .dead) (by
   rw[b8,List.getElem?_eq_getElem b];exact List.getElem_mem b)
  unfold H9 at this;rw[a]at this;simpa using this
 .rw[b8,ez (by omega)]at a;cases a
def JH(G:Kj)(H:List ag)(F:Nat->Prop)(b:Nat)(w:World):Prop:=
 FI H=true/\(∀j,F j->j<w.heap.size)/\∃σ,HR (j5 F w) w G σ H w/\(∃p,σ 0=some p/\p.b=b/\p.o=0)/\∀k p,σ k=some p->(H.getD k .dead).alive=true->F p.b
def HR.static{X:Nat->Prop}{c w:World}{σ:Nat->Option Pl}{H:List ag}(h:HR X c 0 σ H w){F:Nat->Prop}(i:FI H=true)(d:∀k p,σ k=some p->(H.getD k .dead).alive=true->F p.b):HR (j5 F w) w 0 σ H w:=by
 refine⟨sD F w,Kept.refl _ _,?_,h.dom,h.lt,h.inj,λk p b=> ?_⟩
 .obtain⟨l,_,_,e,_⟩:=h.ab
  refine iB.no λk p b=> ?_;have:=e k p b;cases x:(H.getD k .dead).aM with
  |none=>exact .inl rfl
  |some o=>
   cases o with
   |none=>exact .inr rfl
   |some a=>rw[x]at this;exact this.elim
 .exact(h.blk k p b).sets λf x=>x.2 (d k p b (oU f))
def JH.st{H:List ag}{F:Nat->Prop}{b:Nat}{w d:World}(h:JH 0 H F b w)(s:w.heap.size<=d.heap.size)(n:∀j,F j->d.heap[j]?=w.heap[j]?):JH 0 H F b d:=by
 obtain⟨q,l,σ,r,u,i⟩:=h;refine⟨q,λj v=>Nat.lt_of_lt_of_le (l j v) s,σ,?_,u,i⟩;refine⟨sD F d,Kept.refl _ _,?_,r.dom,λk p c=>Nat.lt_of_lt_of_le (r.lt k p c) s,r.inj,λk p c=> ?_⟩
 .obtain⟨A,_,_,y,_⟩:=r.ab
  refine iB.no λk p c=> ?_;have:=y k p c;cases x:(H.getD k .dead).aM with
  |none=>exact .inl rfl
  |some o=>
   cases o with
   |none=>exact .inr rfl
   |some a=>rw[x]at this;exact this.elim
 .cases f:(H.getD k .dead).alive with
  |true=>
   have m:=i k p c f;exact((r.blk k p c).mono (Le.refl _) (n p.b m)).sets λ_ x=>x.2 m
  |false=>
   cases z:H.getD k .dead with
   |dead=>exact⟨λe=>(by cases e),trivial⟩
   |_=>rw[z]at f;cases f
def FL{G:Kj}{K:Nat->Prop}{P:Program}{T:World->Prop}(hT:∀(X:Nat->Prop) w A,(∀k,K k->X k)->T w->Kept X w A->T A){f:FuncId}{a a':wZ}{rest pE:List Value}{v v2:Value}{Q:Prop}{k:Nat}(hp:rest.all aN=true)(hv:aN v=true)
  (bv:∀(σ:Nat->Option Pl) (n:Array Value),dY σ (.pointer (some ⟨k,0,none⟩)::pE).toArray n->Q/\∃p,σ k=some p/\n=(.pointer (some ⟨p.b,p.o+0,none⟩)::rest).toArray)
  (h2:Q->∀(σ:Nat->Option Pl),VR σ v2 v)
  (ac:Q->∀F b w,G.J a F b w->∃H H',JH 0 H F b w/\FI H'=true/\(∀(X:Nat->Prop) (w0:World),(∀k,K k->X k)->eB X w0->T w0->dK P X w0 0 f (.pointer (some ⟨0,0,none⟩)::rest) H (v,H'))/\∀L A,JH 0 H' L b A->G.J a' L b A)
  {X:Nat->Prop} {w0:World} (h0:∀k,K k->X k) (hB:eB X w0) (Mt:T w0) {lh:List ag} (N:lh.getD k .dead=.abs true a):
  dK P X w0 G f (.pointer (some ⟨k,0,none⟩)::pE) lh (v2,lh.set k (.abs true a')):=by
 have ca:k<lh.length:=by
  rcases Nat.lt_or_ge k lh.length with h|h
  .exact h
  .rw[b8,ez h]at N;cases N
 refine⟨bu.set _ _ (by rw[N];rfl),λσ w n B R=> ?_⟩;obtain⟨hQ,p,C,rfl⟩:=bv σ n R;obtain⟨F,O,a2,a3,a4⟩:=B.ab;have hJ:=a3 k p C;rw[N]at hJ;have hJ:G.J a (F p.b) p.b w:=hJ;obtain⟨H,H',⟨ho,cb,σi,uE,⟨q,S,TK,am⟩,hF⟩,U,V,W⟩:=ac hQ _ _ _ hJ;have IB:∀j,X j->j5 (F p.b) w j:=λj c=>⟨B.size j c,λY=>(O _ j Y).2 c⟩;have P9:T w:=hT X w0 w h0 Mt B.below
 have hc:=(V (j5 (F p.b) w) w (λj c=>IB j (h0 j c)) (sD _ _) P9).2 σi w (.pointer (some ⟨q.b,q.o+0,none⟩)::rest).toArray uE ⟨by simp,λi x y s Z=>by
  cases i with
  |zero=>
   simp at s Z;subst s Z;exact VR.ptr (off:=0) S
  |succ i=>
   simp at s Z;rw[s]at Z;cases Z;rw[List.all_eq_true]at hp;exact VR.aN _ (hp x (du s))⟩
 have ao:p.o=0:=by
  have:=(B.blk k p C).2;rw[N]at this;exact this
 have CY:(Value.pointer (some ⟨q.b,q.o+0,none⟩)::rest)=.pointer (some ⟨p.b,p.o+0,none⟩)::rest:=by rw[TK,am,ao]
 rw[CY]at hc;refine hc.mono λe A hh=> ?_;obtain⟨v',rfl,rV,_,ce,uX⟩:=hh;obtain rfl:=ce.aD hv;have D:=uX.below.size;let L:Nat->Prop:=λj=>F p.b j\/w.heap.size<=j/\j<A.heap.size
 have ar:∀i r,rV i=some r->(H'.getD i .dead).alive=true->L r.b:=λi r d ha=>by
  have bi:=Tp U ha;have hn:=((uX.blk i r d).1 bi).1;by_cases hs:w.heap.size<=r.b
  .exact .inr ⟨hs,uX.lt i r d⟩
  .refine .inl (cv λY=>hn ⟨by omega,Y⟩)
 obtain⟨q2,co,d5,d6⟩:∃q,rV 0=some q/\q.b=p.b/\q.o=0:=by
  refine⟨q,?_,TK,am⟩;have fQ:=‹Ext H.length σi rV›;rw[fQ.2 0 (uE.dom 0 q S)];exact S
 have d7:G.J a' L p.b A:=W L A ⟨U,λj c=>c.elim (λh=>Nat.lt_of_lt_of_le (cb j h) D) (λh=>h.2),rV,uX.static U ar,⟨q2,co,d5,d6⟩,ar⟩;have E:∀j,j<w.heap.size->¬F p.b j->A.heap[j]?=w.heap[j]?:=λj c Y=>uX.below.block j ⟨c,Y⟩;have z:∀i,i≠k->(lh.set k (.abs true a')).getD i .dead=lh.getD i .dead:=λi d=>aX _ _ d;have u:(lh.set k (.abs true a')).getD k .dead=.abs true a':=dA _ _ _ ca;obtain⟨Fn,f1,f2⟩:∃Fn:Nat->Nat->Prop,Fn p.b=L/\∀b,b≠p.b->Fn b=F b:=⟨λb=>if b=p.b then L else F b,if_pos rfl,λb m=>if_neg m⟩;refine⟨v',rfl,σ,Ext.refl _ _,h2 hQ σ,B.hn,B.below.trans (uX.below.mono IB),?_,λi r d=>by simpa using B.dom i r d,λi r d=>Nat.lt_of_lt_of_le (B.lt i r d) D,λi i' r r' d J oF nQ d8=> ?_,λi r d=> ?_⟩
 .refine⟨Fn,fun b j c=> ?_,fun b b' j c l=> ?_,fun i r d=> ?_,fun i i' r r' x x' d J s d9 m=> ?_⟩
  .by_cases m:b=p.b
   .subst m;rw[f1]at c
    rcases c with c|c
    .exact⟨Nat.lt_of_lt_of_le (O _ j c).1 D,(O _ j c).2⟩
    .exact⟨c.2,λs=>by have:=B.size j s;omega⟩
   .rw[f2 _ m]at c
    exact⟨Nat.lt_of_lt_of_le (O _ j c).1 D,(O _ j c).2⟩
  .by_cases m:b=p.b
   .by_cases I:b'=p.b
    .rw[m,I]
    .subst m;rw[f1]at c
     rw[f2 _ I]at l;rcases c with c|c
     .exact a2 _ _ j c l
     .have:=(O _ j l).1;omega
   .by_cases I:b'=p.b
    .rw[f2 _ m]at c
     subst I;rw[f1]at l;rcases l with l|l
     .exact a2 _ _ j c l
     .have:=(O _ j c).1;omega
    .rw[f2 _ m]at c
     rw[f2 _ I]at l;exact a2 _ _ j c l
  .by_cases e:i=k
   .subst e
    rw[u];rw[C]at d;cases d;show G.J a' (Fn p.b) p.b A;rw[f1];exact d7
   .rw[z i e]
    have h3:=a3 i r d;cases s:(lh.getD i .dead).aM with
    |none=>trivial
    |some o=>
     rw[s]at h3;cases o with
     |none=>
      intro j c;by_cases m:j=p.b
      .subst m;rw[f1]at c
       rcases c with c|c
       .exact h3 _ c
       .have:=B.lt i r d;omega
      .rw[f2 _ m]at c
       exact h3 _ c
     |some x=>
      have bm:r.b≠p.b:=λm=>e (a4 i k r p x a d C s (by rw[N];rfl) m);show G.J x (Fn r.b) r.b A;rw[f2 _ bm];exact G.st x _ _ w A h3 D λj c=>E j (O _ j c).1 λY=>bm (a2 _ _ j c Y)
  .have k1:∀i r x,σ i=some r->((lh.set k (.abs true a')).getD i .dead).aM=some (some x)->∃y,(lh.getD i .dead).aM=some (some y):=λi r x d s=>by
    by_cases e:i=k
    .subst e;exact⟨a,by rw[N];rfl⟩
    .rw[z i e]at s;exact⟨x,s⟩
   obtain⟨y,Z⟩:=k1 i r x d s;obtain⟨y',dd⟩:=k1 i' r' x' J d9;exact a4 i i' r r' y y' d J Z dd m
 .have k1:∀i,((lh.set k (.abs true a')).getD i .dead).owned=(lh.getD i .dead).owned/\((lh.set k (.abs true a')).getD i .dead).alive=(lh.getD i .dead).alive:=λi=>by
   by_cases e:i=k
   .subst e;rw[u,N];exact⟨rfl,rfl⟩
   .rw[z i e];exact⟨rfl,rfl⟩
  rw[(k1 i).1]at oF;rw[(k1 i').2]at nQ;exact B.inj i i' r r' d J oF nQ d8
 .by_cases e:i=k
  .subst e
   rw[u];rw[C]at d;cases d;exact⟨λe=>(by cases e),ao⟩
  .rw[z i e]
   have m:=B.blk i r d;have h3:=a3 i r d;cases s:lh.getD i .dead with
   |dead=>exact⟨λe=>(by cases e),trivial⟩
   |abs wr x=>rw[s]at m;exact⟨λe=>(by cases e),m.2⟩
   |_=>
    rw[s]at h3;rw[<-s];exact m.mono (Le.refl _) (E r.b (B.lt i r d) (h3 p.b))
def HR.init{n:Nat->Prop}{v w:World}{G:Kj}{σ:Nat->Option Pl}{H:List ag}{x:ag}(h:HR n v G σ (H++[x]) w)(f:H.all (Da H.length)=true):HR n v G (λi=>if i<H.length then σ i else none) H w:=by
 have s:∀i p,(if i<H.length then σ i else none)=some p->i<H.length/\σ i=some p:=λi p b=>by
  split at b
  .exact⟨by assumption,b⟩
  .cases b
 have e:∀i,i<H.length->(H++[x]).getD i .dead=H.getD i .dead:=λi b=>bY _ _ _ b;refine⟨h.hn,h.below,?_,λi p b=>(s i p b).1,λi p b=>h.lt i p (s i p b).2,λi j p q b c y r o=> ?_,λi p b=> ?_⟩
 .obtain⟨F,z,A,B,C⟩:=h.ab
  refine⟨F,z,A,λi p b=> ?_,λi j p q a D b c r u o=> ?_⟩
  .obtain⟨l,b⟩:=s i p b
   rw[<-e i l];exact B i p b
  .obtain⟨l,b⟩:=s i p b
   obtain⟨d,c⟩:=s j q c;rw[<-e i l]at r;rw[<-e j d]at u;exact C i j p q a D b c r u o
 .obtain⟨l,b⟩:=s i p b
  obtain⟨d,c⟩:=s j q c;rw[<-e i l]at y;rw[<-e j d]at r;exact h.inj i j p q b c y r o
 .obtain⟨l,b⟩:=s i p b
  have o:=h.blk i p b;rw[e i l]at o;refine o.fit (m:=H.length) ?_ λk E=>if_pos E;rw[List.all_eq_true]at f;rw[b8,List.getElem?_eq_getElem l];exact f _ (List.getElem_mem l)
def aeP{G:Kj}{K:Nat->Prop}{P:Program}{T:World->Prop}(hT:∀(X:Nat->Prop) w U,(∀k,K k->X k)->T w->Kept X w U->T U){f:FuncId}{a L:wZ}{rest pE:List Value}{I:ag}{N:Nat}{Q:Prop}{k:Nat}(hp:rest.all aN=true)
  (V:I.owned=true) (i4:Da 0 I=true)
  (i5:∀(σ:Nat->Option Pl) (B:Array Value),dY σ (.pointer (some ⟨k,0,none⟩)::pE).toArray B->Q/\∃p,σ k=some p/\B=(.pointer (some ⟨p.b,p.o+0,none⟩)::rest).toArray)
  (W:∀a F b w,G.J a F b w->F b)
  (dd:Q->∀F b w,G.J a F b w->∃H v,JH 0 H F b w/\FI v=true/\v.all (Da v.length)=true/\v.length=H.length/\(v.getD 0 .dead).alive=true/\(∀(X:Nat->Prop) (w0:World),(∀k,K k->X k)->eB X w0->T w0->dK P X w0 0 f (.pointer (some ⟨0,0,none⟩)::rest) H (.slice (some ⟨v.length,0,some 1⟩) N 0,v++[I]))/\∀F' U,JH 0 v F' b U->G.J L F' b U)
  {X:Nat->Prop} {w0:World} (h0:∀k,K k->X k) (hB:eB X w0) (Mt:T w0) {n:List ag} (hk:n.getD k .dead=.abs true a):
  dK P X w0 G f (.pointer (some ⟨k,0,none⟩)::pE) n (.slice (some ⟨n.length,0,some 1⟩) N 0,n.set k (.abs true L)++[I]):=by
 have de:k<n.length:=by
  rcases Nat.lt_or_ge k n.length with h|h
  .exact h
  .rw[b8,ez h]at hk;cases hk
 have bm:bu n (n.set k (.abs true L)++[I]):=by
  refine⟨by simp,λi c hw=> ?_⟩;rw[bY _ _ _ (by simpa using c)];by_cases e:i=k
  .subst e;rw[hk]at hw;cases hw
  .exact aX _ _ e
 refine⟨bm,λσ w B J bv=> ?_⟩;obtain⟨hQ,p,Y,rfl⟩:=i5 σ B bv;obtain⟨F,a1,a2,a3,a4⟩:=J.ab;have hJ:=a3 k p Y;rw[hk]at hJ;have hJ:G.J a (F p.b) p.b w:=hJ;obtain⟨H,v,⟨ho,i6,σi,uE,⟨q,ca,TK,dp⟩,hF⟩,cb,dt,i7,ce,co,d5⟩:=dd hQ _ _ _ hJ;have IB:∀j,X j->j5 (F p.b) w j:=λj d=>⟨J.size j d,λO=>(a1 _ j O).2 d⟩;have P9:T w:=hT X w0 w h0 Mt J.below
 have hc:=(co (j5 (F p.b) w) w (λj d=>IB j (h0 j d)) (sD _ _) P9).2 σi w (.pointer (some ⟨q.b,q.o+0,none⟩)::rest).toArray uE ⟨by simp,λi x y u hy=>by
  cases i with
  |zero=>
   simp at u hy;subst u hy;exact VR.ptr (off:=0) ca
  |succ i=>
   simp at u hy;rw[u]at hy;cases hy;rw[List.all_eq_true]at hp;exact VR.aN _ (hp x (du u))⟩
 have dv:p.o=0:=by
  have:=(J.blk k p Y).2;rw[hk]at this;exact this
 have CY:(Value.pointer (some ⟨q.b,q.o+0,none⟩)::rest)=.pointer (some ⟨p.b,p.o+0,none⟩)::rest:=by rw[TK,dp,dv]
 rw[CY]at hc;refine hc.mono λe U hh=> ?_;obtain⟨v',rfl,rV,fQ,i8,C⟩:=hh;obtain⟨s,Z,i9,rfl⟩:∃s,rV v.length=some s/\N<=s.cap/\v'=.slice (some ⟨s.b,s.o,none⟩) N s.cap:=by
  have ie:∀z,VR rV (.slice (some ⟨z,0,some 1⟩) N 0) v'->∃s,rV z=some s/\N<=s.cap/\v'=.slice (some ⟨s.b,s.o,none⟩) N s.cap:=λz h=>by
   cases h with
   |vec h D=>exact⟨_,h,D,rfl⟩
  exact ie _ i8
 have ac:=C.below.size;have VH:(v++[I]).getD v.length .dead=I:=iQ _ _;have d6:¬j5 (F p.b) w s.b:=by
  have:=(C.blk _ _ Z).1;rw[VH]at this;exact(this V).1
 have uX:=C.init dt;let F':Nat->Prop:=λj=>(F p.b j\/w.heap.size<=j/\j<U.heap.size)/\j≠s.b
 have hs:∀i r,(if i<v.length then rV i else none)=some r->i<v.length/\rV i=some r:=λi r c=>by
  split at c
  .exact⟨by assumption,c⟩
  .cases c
 have dT:∀i r,(if i<v.length then rV i else none)=some r->(v.getD i .dead).alive=true->F' r.b:=λi r c ha=>by
  have W:=Tp cb ha;have hn:=((uX.blk i r c).1 W).1;refine⟨?_,λl=> ?_⟩
  .by_cases hs:w.heap.size<=r.b
   .exact .inr ⟨hs,uX.lt i r c⟩
   .refine .inl (cv λO=>hn ⟨by omega,O⟩)
  .obtain⟨D,c⟩:=hs i r c
   have:=C.inj v.length i s r Z c (by rw[VH];exact V) (by rw[bY _ _ _ D];exact ha) l.symm;omega
 have eh:0<v.length:=by
  rcases lf v.length with h|h
  .rw[List.eq_nil_of_length_eq_zero h]at ce;cases ce
  .exact h
 have fh:rV 0=some q:=by
  rw[fQ.2 0 (uE.dom 0 q ca)];exact ca
 have ii:(if 0<v.length then rV 0 else none)=some q:=by rw[if_pos eh];exact fh
 have im:p.b≠s.b:=λl=>by
  have:=C.inj v.length 0 s q Z fh (by rw[VH];exact V) (by rw[bY _ _ _ eh];exact ce) (by rw[TK];exact l.symm);omega
 have io:G.J L F' p.b U:=d5 F' U ⟨cb,λj d=>d.1.elim (λh=>Nat.lt_of_lt_of_le (i6 j h) ac) (λh=>h.2),_,uX.static cb dT,⟨q,ii,TK,dp⟩,dT⟩;have am:∀j,j<w.heap.size->¬F p.b j->U.heap[j]?=w.heap[j]?:=λj d O=>C.below.block j ⟨d,O⟩;have ip:∀b,b≠p.b->¬F b s.b:=λb l O=>by
  have h1:=(a1 b s.b O).1;exact d6 ⟨h1,λiu=>l (a2 _ _ _ O iu)⟩
 have j2:¬s.b<w.heap.size\/F p.b s.b:=by
  by_cases h:s.b<w.heap.size
  .exact .inr (cv λO=>d6 ⟨h,O⟩)
  .exact .inl h
 have fi:(n.set k (.abs true L)++[I]).length=n.length+1:=by simp
 have fl:∀i,i<n.length->(n.set k (.abs true L)++[I]).getD i .dead=(n.set k (.abs true L)).getD i .dead:=λi c=>bY _ _ _ (by simpa using c);have ao:(n.set k (.abs true L)++[I]).getD n.length .dead=I:=by
  simp
 have S:∀i,i<n.length->i≠k->(n.set k (.abs true L)++[I]).getD i .dead=n.getD i .dead:=λi D c=>by rw[fl i D];exact aX _ _ c
 have R:(n.set k (.abs true L)++[I]).getD k .dead=.abs true L:=by rw[fl k de];exact dA _ _ _ de
 obtain⟨Fn,f1,f2⟩:∃Fn:Nat->Nat->Prop,Fn p.b=F'/\∀b,b≠p.b->Fn b=F b:=⟨λb=>if b=p.b then F' else F b,if_pos rfl,λb l=>if_neg l⟩;have E:∀i r,upd σ n.length s i=some r->(i=n.length/\r=s)\/(i<n.length/\σ i=some r):=λi r c=>by
  by_cases e:i=n.length
  .subst e;rw[upd_same]at c;cases c;exact .inl ⟨rfl,rfl⟩
  .rw[dF _ _ e]at c;exact .inr ⟨J.dom i r c,c⟩
 have fv:∀i r,σ i=some r->(n.getD i .dead).alive=true->r.b≠s.b:=λi r c ha l=>by
  have D:=J.lt i r c;have O:F p.b s.b:=j2.elim (λh=>absurd (l▸D) h) id;have h3:=a3 i r c;cases u:(n.getD i .dead).aM with
  |none=>exact absurd u (Dm.1 ha)
  |some o=>
   rw[u]at h3;cases o with
   |none=>exact h3 p.b (l▸O)
   |some x=>
    have jp:F r.b r.b:=W _ _ _ _ h3;have:r.b=p.b:=a2 _ _ _ jp (l▸O);exact im (this.symm.trans l)
 refine⟨_,rfl,upd σ n.length s,J.sK s,VR.vec (upd_same _ _ _) i9,J.hn,J.below.trans (C.below.mono IB),?_,λi r c=> ?_,λi r c=> ?_,λi i' r r' c bi oF nQ d7=> ?_,λi r c=> ?_⟩
 .refine⟨Fn,fun b j d=> ?_,fun b b' j d A=> ?_,fun i r c=> ?_,fun i i' r r' x x' c bi u kc l=> ?_⟩
  .by_cases l:b=p.b
   .subst l;rw[f1]at d
    rcases d.1 with d|d
    .exact⟨Nat.lt_of_lt_of_le (a1 _ j d).1 ac,(a1 _ j d).2⟩
    .exact⟨d.2,λu=>by have:=J.size j u;omega⟩
   .rw[f2 _ l]at d
    exact⟨Nat.lt_of_lt_of_le (a1 _ j d).1 ac,(a1 _ j d).2⟩
  .by_cases l:b=p.b
   .by_cases ar:b'=p.b
    .rw[l,ar]
    .subst l;rw[f1]at d
     rw[f2 _ ar]at A;rcases d.1 with d|d
     .exact a2 _ _ j d A
     .have:=(a1 _ j A).1;omega
   .by_cases ar:b'=p.b
    .rw[f2 _ l]at d
     subst ar;rw[f1]at A;rcases A.1 with A|A
     .exact a2 _ _ j d A
     .have:=(a1 _ j d).1;omega
    .rw[f2 _ l]at d
     rw[f2 _ ar]at A;exact a2 _ _ j d A
  .rcases E i r c with⟨rfl,rfl⟩|⟨D,c⟩
   .rw[ao,jd V]
    intro j d;by_cases l:j=p.b
    .subst l;rw[f1]at d;exact d.2 rfl
    .rw[f2 _ l]at d;exact ip j l d
   .by_cases e:i=k
    .subst e
     rw[R];rw[Y]at c;cases c;show G.J L (Fn p.b) p.b U;rw[f1];exact io
    .rw[S i D e]
     have h3:=a3 i r c;cases u:(n.getD i .dead).aM with
     |none=>trivial
     |some o=>
      rw[u]at h3;cases o with
      |none=>
       intro j d;by_cases l:j=p.b
       .subst l;rw[f1]at d
        rcases d.1 with d|d
        .exact h3 _ d
        .have:=J.lt i r c;omega
       .rw[f2 _ l]at d
        exact h3 _ d
      |some x=>
       have gt:r.b≠p.b:=λl=>e (a4 i k r p x a c Y u (by rw[hk];rfl) l);show G.J x (Fn r.b) r.b U;rw[f2 _ gt];exact G.st x _ _ w U h3 ac λj d=>am j (a1 _ j d).1 λO=>gt (a2 _ _ j d O)
  .have k1:∀i r x,upd σ n.length s i=some r->((n.set k (.abs true L)++[I]).getD i .dead).aM=some (some x)->σ i=some r/\∃y,(n.getD i .dead).aM=some (some y):=λi r x c u=>by
    rcases E i r c with⟨rfl,rfl⟩|⟨D,c⟩
    .rw[ao,jd V]at u;cases u
    .refine⟨c,?_⟩
     by_cases e:i=k
     .subst e;exact⟨a,by rw[hk];rfl⟩
     .rw[S i D e]at u;exact⟨x,u⟩
   obtain⟨z,y,hy⟩:=k1 i r x c u;obtain⟨z',y',kh⟩:=k1 i' r' x' bi kc;exact a4 i i' r r' y y' z z' hy kh l
 .rcases E i r c with⟨rfl,_⟩|⟨D,_⟩
  .rw[fi];exact sC _
  .rw[fi];exact Nat.lt_succ_of_lt D
 .rcases E i r c with⟨_,rfl⟩|⟨_,c⟩
  .exact C.lt _ _ Z
  .exact Nat.lt_of_lt_of_le (J.lt i r c) ac
 .have k1:∀i,i<n.length->((n.set k (.abs true L)++[I]).getD i .dead).owned=(n.getD i .dead).owned/\((n.set k (.abs true L)++[I]).getD i .dead).alive=(n.getD i .dead).alive:=λi D=>by
   by_cases e:i=k
   .subst e;rw[R,hk];exact⟨rfl,rfl⟩
   .rw[S i D e];exact⟨rfl,rfl⟩
  rcases E i r c with⟨e1,e2⟩|⟨D,gv⟩
  .rcases E i' r' bi with⟨e3,e4⟩|⟨d8,d9⟩
   .rw[e1,e3]
   .rw[(k1 i' d8).2]at nQ
    exact absurd (d7.symm.trans (by rw[e2])) (fv i' r' d9 nQ)
  .rw[(k1 i D).1]at oF
   rcases E i' r' bi with⟨e3,e4⟩|⟨d8,d9⟩
   .exact absurd (d7.trans (by rw[e4])) (fv i r gv (oU oF))
   .rw[(k1 i' d8).2]at nQ
    exact J.inj i i' r r' gv d9 oF nQ d7
 .rcases E i r c with⟨rfl,rfl⟩|⟨D,c⟩
  .rw[ao]
   have l:=C.blk _ _ Z;rw[VH]at l;exact(l.fit (m:=0) i4 (λj d=>absurd d (mz _))).sets λ_ u=>d6 (IB _ u)
  .by_cases e:i=k
   .subst e
    rw[R];rw[Y]at c;cases c;exact⟨λe=>(by cases e),dv⟩
   .rw[S i D e]
    have l:=J.blk i r c;have h3:=a3 i r c;cases u:n.getD i .dead with
    |dead=>exact⟨λe=>(by cases e),trivial⟩
    |abs wr x=>rw[u]at l;exact⟨λe=>(by cases e),l.2⟩
    |_=>
     rw[u]at h3;rw[<-u];exact l.mono (J.wK s) (am r.b (J.lt i r c) (h3 p.b))
def aeQ{G:Kj}{K:Nat->Prop}{P:Program}{T:World->Prop}(hT:∀(X:Nat->Prop) w C,(∀k,K k->X k)->T w->Kept X w C->T C){f:FuncId}{a I:wZ}{rest pE:List Value}{v v2:Value}{Q:Prop}{k:Nat}
  (am:∀(σ:Nat->Option Pl) (n:Array Value),dY σ (.pointer (some ⟨k,0,none⟩)::pE).toArray n->Q/\∃p,σ k=some p/\n=(.pointer (some ⟨p.b,p.o+0,none⟩)::rest).toArray)
  (h2:Q->∀(σ:Nat->Option Pl),VR σ v2 v)
  (W:Q->∀(F:Nat->Prop) (b:Nat) (w:World),G.J a F b w->T w->(∀j,F j->j<w.heap.size)->(∀k,K k->k<w.heap.size/\¬F k)->Calls P f (.pointer (some ⟨b,0,none⟩)::rest).toArray w λe C=>e=.returned v/\Kept (j5 F w) w C/\G.J I (λj=>F j\/w.heap.size<=j/\j<C.heap.size) b C)
  {X:Nat->Prop} {w0:World} (h0:∀k,K k->X k) (hB:eB X w0) (Mt:T w0) {q:List ag} (O:q.getD k .dead=.abs true a):
  dK P X w0 G f (.pointer (some ⟨k,0,none⟩)::pE) q (v2,q.set k (.abs true I)):=by
 have ao:k<q.length:=by
  rcases Nat.lt_or_ge k q.length with h|h
  .exact h
  .rw[b8,ez h]at O;cases O
 refine⟨bu.set _ _ (by rw[O];rfl),λσ w n A R=> ?_⟩;obtain⟨hQ,p,D,rfl⟩:=am σ n R;obtain⟨F,J,a2,a3,a4⟩:=A.ab;have hJ:=a3 k p D;rw[O]at hJ;have hJ:G.J a (F p.b) p.b w:=hJ;have IB:∀j,X j->j5 (F p.b) w j:=λj c=>⟨A.size j c,λY=>(J _ j Y).2 c⟩;have P9:T w:=hT X w0 w h0 Mt A.below;have Z:p.o=0:=by
  have:=(A.blk k p D).2;rw[O]at this;exact this
 have hc:=W hQ _ _ _ hJ P9 (λj c=>(J _ j c).1) (λj c=>IB j (h0 j c));have CY:(Value.pointer (some ⟨p.b,p.o+0,none⟩)::rest)=.pointer (some ⟨p.b,0,none⟩)::rest:=by rw[Z]
 rw[CY];refine hc.mono λe C hh=> ?_;obtain⟨rfl,s,ar⟩:=hh;have L:=s.size;let F':Nat->Prop:=λj=>F p.b j\/w.heap.size<=j/\j<C.heap.size
 have E:∀j,j<w.heap.size->¬F p.b j->C.heap[j]?=w.heap[j]?:=λj c Y=>s.block j ⟨c,Y⟩;have z:∀i,i≠k->(q.set k (.abs true I)).getD i .dead=q.getD i .dead:=λi d=>aX _ _ d;have u:(q.set k (.abs true I)).getD k .dead=.abs true I:=dA _ _ _ ao;obtain⟨V,f1,S⟩:∃V:Nat->Nat->Prop,V p.b=F'/\∀b,b≠p.b->V b=F b:=⟨λb=>if b=p.b then F' else F b,if_pos rfl,λb m=>if_neg m⟩;refine⟨v,rfl,σ,Ext.refl _ _,h2 hQ σ,A.hn,A.below.trans (s.mono IB),?_,λi r d=>by simpa using A.dom i r d,λi r d=>Nat.lt_of_lt_of_le (A.lt i r d) L,λi i' r r' d N oF nQ bi=> ?_,λi r d=> ?_⟩
 .refine⟨V,fun b j c=> ?_,fun b b' j c l=> ?_,fun i r d=> ?_,fun i i' r r' x x' d N B bm m=> ?_⟩
  .by_cases m:b=p.b
   .subst m;rw[f1]at c
    rcases c with c|c
    .exact⟨Nat.lt_of_lt_of_le (J _ j c).1 L,(J _ j c).2⟩
    .exact⟨c.2,λB=>by have:=A.size j B;omega⟩
   .rw[S _ m]at c
    exact⟨Nat.lt_of_lt_of_le (J _ j c).1 L,(J _ j c).2⟩
  .by_cases m:b=p.b
   .by_cases H:b'=p.b
    .rw[m,H]
    .subst m;rw[f1]at c
     rw[S _ H]at l;rcases c with c|c
     .exact a2 _ _ j c l
     .have:=(J _ j l).1;omega
   .by_cases H:b'=p.b
    .rw[S _ m]at c
     subst H;rw[f1]at l;rcases l with l|l
     .exact a2 _ _ j c l
     .have:=(J _ j c).1;omega
    .rw[S _ m]at c
     rw[S _ H]at l;exact a2 _ _ j c l
  .by_cases e:i=k
   .subst e
    rw[u];rw[D]at d;cases d;show G.J I (V p.b) p.b C;rw[f1];exact ar
   .rw[z i e]
    have U:=a3 i r d;cases B:(q.getD i .dead).aM with
    |none=>trivial
    |some o=>
     rw[B]at U;cases o with
     |none=>
      intro j c;by_cases m:j=p.b
      .subst m;rw[f1]at c
       rcases c with c|c
       .exact U _ c
       .have:=A.lt i r d;omega
      .rw[S _ m]at c
       exact U _ c
     |some x=>
      have ac:r.b≠p.b:=λm=>e (a4 i k r p x a d D B (by rw[O];rfl) m);show G.J x (V r.b) r.b C;rw[S _ ac];exact G.st x _ _ w C U L λj c=>E j (J _ j c).1 λY=>ac (a2 _ _ j c Y)
  .have k1:∀i r x,σ i=some r->((q.set k (.abs true I)).getD i .dead).aM=some (some x)->∃y,(q.getD i .dead).aM=some (some y):=λi r x d B=>by
    by_cases e:i=k
    .subst e;exact⟨a,by rw[O];rfl⟩
    .rw[z i e]at B;exact⟨x,B⟩
   obtain⟨y,hy⟩:=k1 i r x d B;obtain⟨y',bv⟩:=k1 i' r' x' N bm;exact a4 i i' r r' y y' d N hy bv m
 .have k1:∀i,((q.set k (.abs true I)).getD i .dead).owned=(q.getD i .dead).owned/\((q.set k (.abs true I)).getD i .dead).alive=(q.getD i .dead).alive:=λi=>by
   by_cases e:i=k
   .subst e;rw[u,O];exact⟨rfl,rfl⟩
   .rw[z i e];exact⟨rfl,rfl⟩
  rw[(k1 i).1]at oF;rw[(k1 i').2]at nQ;exact A.inj i i' r r' d N oF nQ bi
 .by_cases e:i=k
  .subst e
   rw[u];rw[D]at d;cases d;exact⟨λe=>(by cases e),Z⟩
  .rw[z i e]
   have m:=A.blk i r d;have U:=a3 i r d;cases B:q.getD i .dead with
   |dead=>exact⟨λe=>(by cases e),trivial⟩
   |abs wr x=>rw[B]at m;exact⟨λe=>(by cases e),m.2⟩
   |_=>
    rw[B]at U;rw[<-B];exact m.mono (Le.refl _) (E r.b (A.lt i r d) (U p.b))
