import Derived.Test.YteaflphddciglaaGreatDoorCdC
set_option linter.all false
namespace Go.Proofs.YteaflphddciglaaGreatDoor
namespace bq
noncomputable section
open Classical Yq
variable{c:Cn} {w v:Nat} {s l o y:Ms} {m m':Mm} {i:Nat} {g:Bool} {K:Nat}
def n3(c:Cn)(m:Mm):Nat:=j4 (λj=>if(m.sl j).st=3 then 1 else 0) c.S
def apO(h:∀j,(m'.sl j).st=3↔(m.sl j).st=3):n3 c m'=n3 c m:=GR _ λj _=>by simp only[h j]
def ari(h:m'.sl=m.sl):n3 c m'=n3 c m:=apO λj=>by rw[h]
def aoT{n:aa}(a:i<c.S)(h:m'.sl=upd m.sl i n):n3 c m'+(if(m.sl i).st=3 then 1 else 0)=n3 c m+(if n.st=3 then 1 else 0):=by
 have q:=Oq (f:=λj=>if(m'.sl j).st=3 then 1 else 0) (g:=λj=>if(m.sl j).st=3 then 1 else 0) c.S a λj b=>by rw[h,il _ _ b]
 rw[h,ky]at q;unfold n3;rw[h];exact q
def atV{n:aa}{d own more:Int}(h:nz m m' i d own more n)(a:(m.sl i).st≠3)(b:n.st≠3):n3 c m'=n3 c m:=apO λj=>by
 rw[h.2];unfold upd;split
 .rename_i e;rw[e];exact⟨λk=>tA k b,λk=>tA k a⟩
 .exact Iff.rfl
def anK(c:Cn)(m m':Mm):Prop:=n3 c m'=n3 c m/\∀j,(m.sl j).st=3->m'.sl j=m.sl j
def amr(h:m'.sl=m.sl):anK c m m':=⟨ari h,λj _=>by rw[h]⟩
def aic{n:aa}{d own more:Int}(h:nz m m' i d own more n)(a:(m.sl i).st≠3)(b:n.st≠3):anK c m m':=⟨atV h a b,λj f=>by
 rw[h.2];exact il _ _ λe=>a (e▸f)⟩
def arb{r:Rt}(h:r.st=.swap->r.wd.st≠3):anK c m (r.step m).2:=by
 obtain⟨i,f,p,b,k⟩:=r;cases b with
 |swap=>
  unfold Rt.step;dsimp only;split
  .rename_i n a
   split
   .rename_i e
    have:=(eT a).2.2.2.2.2.2.2.2.2.2.2.1 rfl;exact aic (d:=11) (own:=0) (more:=4095) ⟨by rw[e];exact a,rfl⟩ (by rw[e];exact h rfl) (by omega)
   .exact amr rfl
  .exact amr rfl
 |iI=>
  unfold Rt.step;dsimp only;split
  .rename_i n a
   split
   .rename_i e
    have:=(eT a).2.2.2.2.2.2.2.2.2.2.2.2.2.2.2.2 rfl;exact aic (d:=17) (own:=0) (more:=p) ⟨by rw[e];exact a,rfl⟩ (by rw[e];omega) (by omega)
   .exact amr rfl
  .exact amr rfl
 |_=>exact amr rfl
def aq7{t:Td}(W:MN m t)(p:m.cl=0):anK c m (t.step c w m).2:=by
 rcases al9 (c:=c) (w:=w) (m:=m) (t:=t)with k|k
 .exact amr k
 .rcases k with⟨_,n,h⟩|⟨_,d,n,a,h,_⟩|⟨_,d,n,a,h,_⟩|⟨b,k,_⟩
  .have:=(eT h.1).2.2.2.2.2.2.2.2.2.2.2.2.1 rfl
   exact aic h (by omega) (by omega)
  .have:=eT h.1
   rcases a with rfl|rfl
   .have:=this.2.2.2.2.2.1 rfl
    exact aic h (by omega) (by omega)
   .have:=this.2.2.2.2.2.2.2.1 rfl
    exact aic h (by omega) (by omega)
  .have:=eT h.1
   rcases a with rfl|rfl
   .have:=this.2.2.2.2.2.2.1 rfl
    exact aic h (by omega) (by omega)
   .have:=this.2.2.2.2.2.2.2.2.1 rfl
    exact aic h (by omega) (by omega)
  .have e:(t.step c w m).2=(t.rt.step m).2:=by
    unfold Td.step;rw[b];dsimp only;split<;>rfl
   rw[e];exact arb λf q=>by
    have:=(W.2 b).2.2.2 f q;omega
def atU{t:Tk}(h:t.st=.check\/t.st=.bM\/t.st=.grant\/t.st=.eG)(A:m.cl=0):∀j,(m.sl j).st=3->(t.step w c.S m g).2.sl j=m.sl j:=by
 obtain⟨b,look,k,f,p,B,C,e⟩:=t;intro j x;rcases h with h|h|h|h
 .have h:b=.check:=h
  subst h;unfold Tk.step;dsimp only;rw[tz A]
 .have h:b=.bM:=h
  subst h;unfold Tk.step;dsimp only;rcases lQ (w:=w) (m:=m) (t:=⟨.bM,look,k,f,p,B,C,e⟩) (i:=k) (wd:=f) (d:=if g=true then 1 else 2)with q|⟨n,r,u,q⟩
  .rw[q]
  .rw[q]
   have z:=eT r;have:f.st=1:=by cases g;exact(z.2.2.1 rfl).1;exact(z.2.1 rfl).1
   have a:j≠k:=λe=>by rw[e,u]at x;omega
   cases g<;>exact il _ _ a
 .have h:b=.grant:=h
  subst h;rfl
 .have h:b=.eG:=h
  subst h;unfold Tk.step;dsimp only;split
  .rfl
  .rename_i n r
   split
   .rename_i u
    have z:=(eT r).2.2.2.2.2.2.2.2.2.2.2.2.2.2.2.1 rfl;have a:j≠k:=λe=>by rw[e,u]at x;omega
    exact il _ _ a
   .rfl
def atT{t:Tk}(h:t.st=.check\/t.st=.bM\/t.st=.grant\/t.st=.eG)(B:m.cl=0)(G:GsW w (.work (.get t)))(C:w<=15)(A:t.i<c.S):
  n3 c (t.step w c.S m g).2+(if t.st=.check then 1 else 0)=n3 c m+(if(t.step w c.S m g).1.st=.done then(if(t.step w c.S m g).1.e=0 then 1 else 0)else if(t.step w c.S m g).1.st=.check then 1 else 0):=by
 obtain⟨r,look,j,a,b,u,x,e⟩:=t;rcases h with h|h|h|h
 .have h:r=.check:=h
  subst h;unfold Tk.step;dsimp only;rw[tz B];rfl
 .have h:r=.bM:=h
  subst h;unfold Tk.step;dsimp only;rcases lQ (w:=w) (m:=m) (t:=⟨.bM,look,j,a,b,u,x,e⟩) (i:=j) (wd:=a) (d:=if g=true then 1 else 2)with k|⟨n,f,p,k⟩
  .rw[k];rfl
  .rw[k]
   have q:=aoT (c:=c) (m:=m) (m':=m.set j n) (i:=j) (n:=n) A rfl;have z:=eT f;rw[p]at q;cases g
   .have z:=z.2.2.1 rfl
    rw[ck (by omega),ck (by omega)]at q;exact q
   .have z:=z.2.1 rfl
    rw[ck (by omega),tz (by omega)]at q;exact q
 .have h:r=.grant:=h
  subst h;rfl
 .have h:r=.eG:=h
  subst h;obtain⟨D,E,F⟩:=G rfl;obtain⟨n,f⟩:=ahd D E F C;have f:az a 16 w 0=some n:=f;have H:(⟨.eG,look,j,a,b,u,x,e⟩:Tk).step w c.S m g=if m.sl j=a then(⟨if n.st=3 then .check else .bM,look,j,n,n.gen,u,x,e⟩,m.set j n)else(⟨.grant,look,j,a,b,u,x,e⟩,m):=by
   unfold Tk.step;dsimp only;rw[f]
  rw[H];by_cases p:m.sl j=a
  .rw[tz p]
   have q:=aoT (c:=c) (m:=m) (m':=m.set j n) (i:=j) (n:=n) A rfl;have z:=(eT f).2.2.2.2.2.2.2.2.2.2.2.2.2.2.2.1 rfl;rw[p,ck (by omega)]at q;rcases z with z|z
   .rw[tz z.2]at q ⊢
    exact q
   .rw[ck (by omega)]at q ⊢
    exact q
  .rw[ck p];rfl
def aqt{t:Td}:(t.step c w m).2.qu=m.qu\/(t.step c w m).2.qu=m.qu.tail:=by
 have b:=λd own m' h=> @ac3 m m' t d own h;have u:=(@Ps m t.rt).qu;obtain⟨x,p,f,q,look,j,k,a,e,r⟩:=t;cases x with
 |go=>left;unfold Td.step;dsimp only;split<;>exact u
 |clear=>
  left;show((Td.swap m ⟨.clear,p,f,q,look,j,k,a,e,r⟩ 12 w).getD m).qu=m.qu;cases h:Td.swap m ⟨.clear,p,f,q,look,j,k,a,e,r⟩ 12 w with
  |none=>rfl
  |some n=>exact(b _ _ _ h).qu
 |keep=>
  left;unfold Td.step;dsimp only;split
  .rename_i n h;exact(b _ _ _ h).qu
  .rfl
 |dR=>
  left;unfold Td.step;dsimp only;split
  .rename_i n h;exact(b _ _ _ h).qu
  .rfl
 |pop=>unfold Td.step;dsimp only;split<;>first|exact .inr rfl|exact .inl rfl
 |_=>
  left;unfold Td.step;dsimp only;repeat' split
  all_goals rfl
def FqP(x:Wr):Prop:=match x.ph with
 | .rest=>True
 | .parked b=>b=true
 | .wakes _=>True
 | .ax _ p a=>p=none/\(a.e=0\/a.e=6)
 | .pin _=>0<x.grant/\x.ask.op=0
 | .work (.get t)=>t.st=.check\/t.st=.bM\/t.st=.grant\/t.st=.eG
 |_=>False
def okN(x:Wr):Nat:=match x.ph with
 | .work (.get t)=>if t.st=.check then 1 else 0
 | .ax _ _ a=>if a.e=0 then 1 else 0
 |_=>0
structure Fst(c:Cn)(s:Ms)(v:Nat):Prop where
 cl:(ai c s v).m.cl=0
 gr:∀u,0<=(ai c s v).m.gr u
 qu:(ai c s v).m.qu=s.m.qu\/(ai c s v).m.qu=s.m.qu.tail
 p:FqP ((ai c s v).ws v)
 k3:∀j,(s.m.sl j).st=3->(ai c s v).m.sl j=s.m.sl j
 ev:((ai c s v).ev=s.ev/\((ai c s v).ws v).ph≠.rest/\n3 c (ai c s v).m+okN (s.ws v)=n3 c s.m+okN ((ai c s v).ws v))\/
  ∃a,(ai c s v).ev=⟨true,v,(s.ws v).ask,a⟩::s.ev/\(a.e=0\/a.e=6)/\((ai c s v).ws v).ph=.rest/\n3 c (ai c s v).m=n3 c s.m/\okN (s.ws v)=if a.e=0 then 1 else 0
def al3{x':Wr}(e:ai c s v=({s with m:=m'}:Ms).put v x')(h:m'.cl=0)(a:∀u,0<=m'.gr u)(q:m'.qu=s.m.qu\/m'.qu=s.m.qu.tail)(p:FqP x')(r:x'.ph≠.rest)(k:∀j,(s.m.sl j).st=3->m'.sl j=s.m.sl j)(n:n3 c m'+okN (s.ws v)=n3 c s.m+okN x'):Fst c s v:=by
 refine⟨by rw[e];exact h,by rw[e];exact a,by rw[e];exact q,by rw[e,ae];exact p,by rw[e];exact k,.inl ⟨by rw[e];rfl,by rw[e,ae];exact r,by rw[e,ae];exact n⟩⟩
def ar9(P:FqP (s.ws v))(G:GyS c s K)(f:s.m.cl=0)(n:∀u,0<=s.m.gr u)(F:∀b,(s.ws v).ph=.parked b->s.now<(s.ws v).ask.dl)(hW:c.W<=14)(U:v<c.W)(z:aQ s v):Fst c s v:=by
 have A:=G.x.nx.all;have I:=A.inv;have X:=I.w v U;have Wd:=A.wd v U;unfold FqP at P;unfold jO at X;unfold nW at Wd;cases d:(s.ws v).ph with
 |rest=>unfold aQ at z;rw[d]at z;exact z.elim
 |pin h=>
  rw[d]at P;cases h with
  |none=>
   refine al3 (m':=s.m) (x':=(s.ws v).to (.pin (some s.m.ep))) (by unfold ai;dsimp only;rw[d]) f n (.inl rfl) P Ph.noConfusion (λ_ _=>rfl) ?_;unfold okN;rw[d];rfl
  |some e1=>
   have V:bE (s.ws v)=.get (Tk.granted ((s.ws v).grant-1).toNat):=by unfold bE;rw[P.2];exact tI Wk.get (tz P.1)
   refine al3 (m':=s.m.pin v (aR (e1+1))) (x':=(s.ws v).to (.work (bE (s.ws v)))) (by unfold ai;dsimp only;rw[d];rfl) f n (.inl rfl) ?_ Ph.noConfusion (λ_ _=>rfl) ?_
   .rw[V];exact .inr (.inr (.inl rfl))
   .rw[V];unfold okN;rw[d];rfl
 |work k=>
  rw[d]at P;cases k with
  |get t=>
   have N:= @ahI c v s.m (decide (t.st=.bM)&&s.next.1) t;have S:=G.x.cm.gs v;rw[d]at S X;have hi:t.i<c.S:=by
    have X:pW c v t:=X.1;unfold pW at X;rcases P with h|h|h|h<;>(rw[h]at X;exact X)
   obtain⟨W,r2⟩:=al7 (c:=c) (g:=decide (t.st=.bM)&&s.next.1) P f S (by omega);have Y:=atT (c:=c) (g:=decide (t.st=.bM)&&s.next.1) P f S (by omega) hi;have B:=ah7 (c:=c) d;have H:=apy (c:=c) d;have ev:(ai c s v).ev=s.ev:=by
    have e0:ai c s v=ak c v s (s.ws v) (.get t):=by unfold ai;dsimp only;rw[d]
    rw[e0];exact(NZ _ _ _ _).1
   have J:okN (s.ws v)=if t.st=.check then 1 else 0:=by unfold okN;rw[d]
   rw[<-J]at Y;have x:FqP ((ai c s v).ws v)/\((ai c s v).ws v).ph≠.rest/\okN ((ai c s v).ws v)=if(t.step v c.S s.m (decide (t.st=.bM)&&s.next.1)).1.st=.done then(if(t.step v c.S s.m (decide (t.st=.bM)&&s.next.1)).1.e=0 then 1 else 0)else if(t.step v c.S s.m (decide (t.st=.bM)&&s.next.1)).1.st=.check then 1 else 0:=by
    rw[H];generalize t.step v c.S s.m (decide (t.st=.bM)&&s.next.1)=r at*;by_cases q:r.1.st=.done
    .rw[tz q,tz q,ck (by rcases W q with h|h<;>rw[h]<;>decide)]
     by_cases C:r.1.e=0
     .rw[tz C,tz C];exact⟨⟨rfl,.inl rfl⟩,Ph.noConfusion,rfl⟩
     .rw[ck C,ck C];exact⟨⟨rfl,W q⟩,Ph.noConfusion,ck C⟩
    .rw[ck q,ck q];exact⟨r2 q,Ph.noConfusion,rfl⟩
   refine⟨by rw[B,N.cl];exact f,λu=>by rw[B,N.gr];exact n u,.inl (by rw[B];exact N.qu),x.1,by rw[B];exact atU P f,.inl ⟨ev,x.2.1,?_⟩⟩;rw[x.2.2,B];exact Y
  |_=>exact P.elim
 |ax t p a=>
  rw[d]at P Wd;obtain⟨rfl,Z⟩:=P;have O:=aon (c:=c) (w:=v) (m:=s.m) (t:=t);have tq:=aqt (c:=c) (w:=v) (m:=s.m) (t:=t);have Q:=(an6 (c:=c) (w:=v) (t:=t) n).2;have D:=aq7 (c:=c) (w:=v) Wd.1 f;have J:okN (s.ws v)=if a.e=0 then 1 else 0:=by unfold okN;rw[d]
  cases E:t.step c v s.m with
  |mk t' m'=>
   rw[E]at O tq D Q;have e:=ui d E;by_cases F:t'.st=.done
   .rw[tz F]at e
    have e:ai c s v={(s.mem m').put v ((s.ws v).to .rest)with ev:=⟨true,v,(s.ws v).ask,a⟩::s.ev}:=e;have H:(ai c s v).ws v=(s.ws v).to .rest:=by rw[e];exact ae _ _ _
    refine⟨by rw[e];exact O.trans f,by rw[e];exact Q,by rw[e];exact tq,by rw[H];trivial,by rw[e];exact D.2,.inr ⟨a,by rw[e],Z,by rw[H];rfl,by rw[e];exact D.1,J⟩⟩
   .rw[ck F]at e
    refine al3 (m':=m') e (O.trans f) Q tq ⟨rfl,Z⟩ Ph.noConfusion D.2 ?_;show n3 c m'+okN (s.ws v)=n3 c s.m+(if a.e=0 then 1 else 0);rw[J];exact tI (· +_) D.1
 |parked b=>
  rw[d]at P;have hg:s.m.gr v≠0:=by
   unfold aQ at z;rw[d]at z;rcases z with h|⟨_,h⟩
   .exact h
   .have:=F b d;omega
  refine al3 (m':=s.m) (x':=(s.ws v).to (.wakes (some (s.m.gr v)))) (by unfold ai;dsimp only;rw[d];dsimp only;rw[tz hg];rfl) f n (.inl rfl) trivial Ph.noConfusion (λ_ _=>rfl) ?_;unfold okN;rw[d];rfl
 |wakes h=>
  rw[d]at P X Wd;obtain⟨L,T⟩:=G.x.wt.tok;have hk:=T.wk v h d;obtain⟨g,rfl,_⟩:=X;have ac:g=s.m.gr v:=hk.2 g rfl;have am:=n v;have R:0<g:=by have:=hk.1;omega
  refine al3 (m':=s.m.nT v 0) (x':={s.ws v with grant:=g,ph:=.pin none}) (by unfold ai;dsimp only;rw[d];unfold dh;dsimp only;rw[ck (by omega)];rfl) f (λu=>by show 0<=upd s.m.gr v 0 u;unfold upd;split;exact jx _;exact n u) (.inl rfl) ⟨R,Wd⟩ Ph.noConfusion (λ_ _=>rfl) ?_;unfold okN;rw[d];rfl
 |_=>rw[d]at P;exact P.elim
def aoS(g:Gv):Nat:=if g.st=.go/\g.rt.st≠.swap then 1 else 0
def adJ(x:Wr):Nat:=match x.ph with
 | .work (.give g)=>aoS g
 | .ax _ _ _=>1
 | .rest=>1
 |_=>0
def atW{x:aa}{g:Gv}(h:aj' i x m g)(O:i<c.S)(C:x.st=3)(P:x.own=w)(F:Facts x):n3 c (g.step c w m).2+(if(g.step c w m).1.st=.done then 1 else aoS (g.step c w m).1)=n3 c m+aoS g:=by
 have Q:=Yw F (.inr C);obtain⟨u,H,R,D,S,T,U,e⟩:=g;obtain⟨I,E,G,V,a⟩:=h;have I:u=i:=I;have E:H=x.gen:=E;have G:R=true:=G;subst G;have W:(0:Int)<=u/\u<c.S:=by omega
 have X:u.toNat=i:=by omega
 rcases a with⟨a|a,b⟩|⟨a,b⟩
 .have a:D=.closed:=a
  subst a;unfold Gv.step;dsimp only;rw[ck V];rfl
 .have a:D=.look:=a
  subst a;unfold Gv.step;dsimp only;rw[tz W,X,b,ck (λk=>k ⟨C,P,E.symm⟩),ck (λk=>by cases k.2),tz (.inl rfl)];rfl
 .have a:D=.go:=a
  subst a;obtain⟨p,A,rep,B,f⟩:=U;rcases b with⟨b,d⟩|⟨b,d⟩
  .have b:(⟨p,A,rep,B,f⟩:Rt)=Rt.new i x:=b
   unfold Rt.new at b;cases b;obtain⟨n,J⟩:=cP.1 Q;have e:(⟨i,x,0,.swap,false⟩:Rt).step m=(⟨i,n,0,.look,true⟩,m.set i n):=by
    unfold Rt.step;dsimp only;rw[J];dsimp only;rw[tz d]
   have q:=aoT (c:=c) (m:=m) (m':=m.set i n) (i:=i) (n:=n) O rfl;have z:=(eT J).2.2.2.2.2.2.2.2.2.2.2.1 rfl;rw[d,tz C,ck (by omega)]at q;unfold Gv.step;dsimp only;rw[e];exact q
  .have d:B=.look\/B=.iI\/B=.jk:=d
   have Y:aoS ⟨u,H,true,.go,S,T,⟨p,A,rep,B,f⟩,e⟩=1:=tz ⟨rfl,by rcases d with h|h|h<;>(rw[h];exact cK.noConfusion)⟩;have k:=arb (c:=c) (m:=m) (r:=⟨p,A,rep,B,f⟩) λk=>by rcases d with h|h|h<;>(rw[h]at k;cases k)
   have L:((⟨p,A,rep,B,f⟩:Rt).step m).1.sw=true/\((⟨p,A,rep,B,f⟩:Rt).step m).1.st≠.swap:=by
    have b:f=true:=b;rcases d with h|h|h<;>(subst h;unfold Rt.step;grind)
   rw[Y, <-k.1];unfold Gv.step;dsimp only;by_cases N:((⟨p,A,rep,B,f⟩:Rt).step m).1.st=.done
   .rw[tz N,tz L.1];rfl
   .rw[ck N]
    exact tI (n3 c _+ ·) ((ck pg.noConfusion).trans (tz ⟨rfl,L.2⟩))
def aj9.keep{b:aa}{x:Wr}(P:aj9 i b m x)(r:m'.cl=m.cl)(h:m.sl i=b->m'.sl i=b):aj9 i b m' x:=by
 unfold aj9 at*;cases d:x.ph with
 |pin _=>
  rw[d]at P;obtain⟨e,f,n,q,p⟩:=P;exact⟨e,f,n,by rw[r];exact q,h p⟩
 |work k=>
  rw[d]at P;cases k with
  |give g=>
   obtain⟨e,f,n,q,p⟩:=P;refine⟨e,f,n,by rw[r];exact q,?_⟩;rcases p with⟨p,a⟩|⟨p,a⟩
   .exact .inl ⟨p,h a⟩
   .rcases a with⟨a,u⟩|a
    .exact .inr ⟨p,.inl ⟨a,h u⟩⟩
    .exact .inr ⟨p,.inr a⟩
  |_=>exact P.elim
 |_=>rw[d]at P;exact P
structure Dst(c:Cn)(s:Ms)(w i:Nat)(x1:aa):Prop where
 cl:(ai c s w).m.cl=s.m.cl
 gr:∀u,0<=(ai c s w).m.gr u
 qu:(ai c s w).m.qu=s.m.qu\/(ai c s w).m.qu=s.m.qu.tail
 p:aj9 i x1 (ai c s w).m ((ai c s w).ws w)
 n:n3 c (ai c s w).m+adJ ((ai c s w).ws w)=n3 c s.m+adJ (s.ws w)
 ev:((ai c s w).ev=s.ev/\((ai c s w).ws w).ph≠.rest)\/∃a,(ai c s w).ev=⟨true,w,(s.ws w).ask,a⟩::s.ev/\a.e=0/\((ai c s w).ws w).ph=.rest
def aq0{d:aa}(P:aj9 i d s.m (s.ws w))(W:nW c s.m w (s.ws w))(C:s.m.cl=0)(b:∀u,0<=s.m.gr u)(J:i<c.S)(L:d.st=3)(N:d.own=w)(F:Facts d)(f:aQ s w):Dst c s w i d:=by
 have D:=ao8 (c:=c) P J L N F f;have E:((ai c s w).ev=s.ev/\((ai c s w).ws w).ph≠.rest)\/∃a,(ai c s w).ev=⟨true,w,(s.ws w).ask,a⟩::s.ev/\a.e=0/\((ai c s w).ws w).ph=.rest:=by
  rcases amn (c:=c) f with k|⟨t,a,O,G,H⟩
  .exact .inl k
  .refine .inr ⟨a,G,?_,H⟩
   unfold aj9 at P;rw[O]at P;exact P.2
 have Y:=P;unfold aj9 at P;cases h:(s.ws w).ph with
 |pin x=>
  obtain⟨G,H,n⟩:=agk (c:=c) h;have gq:(ai c s w).m.gr=s.m.gr/\(ai c s w).m.qu=s.m.qu:=by
   cases x<;>(unfold ai;dsimp only;rw[h];exact⟨rfl,rfl⟩)
  refine⟨H,λu=>by rw[gq.1];exact b u,.inl gq.2,D,?_,E⟩;rw[ari G];have r:adJ (s.ws w)=0:=by unfold adJ;rw[h]
  rw[h]at P;rw[r];rcases n with n|n
  .rw[n];rfl
  .have Q:bE (s.ws w)=.give (Gv.new (s.ws w).ask.slot (s.ws w).ask.gen true):=by unfold bE;rw[P.1];rfl
   rw[n,Q];rfl
 |work k=>
  rw[h]at P;cases k with
  |give g=>
   obtain⟨z,R⟩:=anH (c:=c) h;have q:=akd (c:=c) (w:=w) (m:=s.m) (g:=g);refine⟨by rw[z];exact q.cl,λu=>by rw[z,q.gr];exact b u,.inl (by rw[z];exact q.qu),D,?_,E⟩;have k:=atW (c:=c) (w:=w) P J L N F;have r:adJ (s.ws w)=aoS g:=by unfold adJ;rw[h]
   rw[r, <-k,z,R];by_cases A:(g.step c w s.m).1.st=.done
   .rw[tz A,tz A];rfl
   .rw[ck A,ck A];rfl
  |_=>exact P.elim
 |ax t p a=>
  unfold nW at W;rw[h]at P W;obtain⟨rfl,Z⟩:=P;have S:=aon (c:=c) (w:=w) (m:=s.m) (t:=t);have tq:=aqt (c:=c) (w:=w) (m:=s.m) (t:=t);have T:=aq7 (c:=c) (w:=w) W.1 C;have U:=(an6 (c:=c) (w:=w) (t:=t) b).2;have r:adJ (s.ws w)=1:=by unfold adJ;rw[h]
  have V:adJ ((ai c s w).ws w)=1:=by
   unfold adJ;rcases akp (c:=c) h with e|⟨X,e⟩<;>rw[e]
  have B:(ai c s w).m=(t.step c w s.m).2:=by
   cases I:t.step c w s.m with
   |mk X m'=>
    rw[ui h I];split<;>rfl
  refine⟨by rw[B];exact S,by rw[B];exact U,by rw[B];exact tq,D,by rw[B,r,V,T.1],E⟩
 |rest=>unfold aQ at f;rw[h]at f;exact f.elim
 |_=>rw[h]at P;exact P.elim
end
noncomputable section
open Classical Yq
variable{c:Cn} {w v:Nat} {s b d p x:Ms} {m A:Mm} {i:Nat} {g:Bool} {K:Nat} {B:List Nat} {C:aa}
def okE(y:Ev):Prop:=y.ask.op=0/\y.ans.e=0
def gdL(l:List Ev):Nat:=(l.filter λy=>decide (okE y)).length
def anw(y:Ev)(l:List Ev):gdL (y::l)=gdL l+if okE y then 1 else 0:=by
 unfold gdL;rw[List.filter_cons];by_cases h:okE y
 .rw[tz (by simpa using h),tz h];rfl
 .rw[ck (by simpa using h),ck h];rfl
structure FqE(c:Cn)(w:Nat)(B:List Nat)(p s:Ms)(new:List Ev):Prop where
 ev:s.ev=new++p.ev
 nd:(new.map Ev.who).Nodup
 mem:∀v,v∈new.map Ev.who↔(v=w\/v∈B)/\(s.ws v).ph=.rest
 y:∀y,y∈new->y.ended=true/\y.ask.op=(if y.who=w then 2 else 0)/\(y.ans.e=0\/y.ans.e=6)
 n:n3 c s.m+adJ (s.ws w)=n3 c p.m+j4 (λv=>if v=w then 0 else okN (s.ws v)) c.W+gdL new
structure aka(c:Cn)(w i:Nat)(C:aa)(B:List Nat)(p s:Ms):Prop where
 cl:s.m.cl=0
 gr:∀u,0<=s.m.gr u
 dl:∀v,v∈B->s.now<(s.ws v).ask.dl
 op:∀v,v∈B->(s.ws v).ask.op=0
 opw:(s.ws w).ask.op=2
 me:aj9 i C s.m (s.ws w)
 ot:∀v,v≠w->FqP (s.ws v)
 out:∀v,v≠w->v∉B->(s.ws v).ph=.rest
 qu:∃k,s.m.qu=B.drop k
 ev:∃new,FqE c w B p s new
def apR{l r:List Nat}(h:r=l\/r=l.tail)(a:∃k,l=B.drop k):∃k,r=B.drop k:=by
 obtain⟨k,a⟩:=a;rcases h with h|h
 .exact⟨k,h.trans a⟩
 .exact⟨k+1,by rw[h,a,List.tail_drop]⟩
def ar'(P:aka c w i C B p s)(G:GyS c s K)(hW:c.W<=14)(hw:w<c.W)(H:w∉B)(hi:i<c.S)(h3:C.st=3)(ho:C.own=w)(F:Facts C)(Y:v<c.W)(I:aQ s v)(o:∀j,j≠v->(ai c s v).ws j=s.ws j):aka c w i C B p (ai c s v):=by
 obtain⟨N,p2,p3,O,Z,p6,p7,p8,p9,n,Q,R,J,S,e5⟩:=P;have ak:∀u,((ai c s v).ws u).ask=(s.ws u).ask:=λu=>by
  by_cases e:u=v
  .rw[e];exact aku.1
  .rw[o u e]
 have hn:(s.ws v).ph≠.rest:=λq=>by
  unfold aQ at I;rw[q]at I;exact I
 have d3:∀u,u∈B->(ai c s v).now<((ai c s v).ws u).ask.dl:=λu h=>by rw[ak,aku.2];exact p3 u h
 have T:v∉n.map Ev.who:=λk=>hn ((J v).1 k).2;by_cases e:v=w
 .subst e
  obtain⟨U,f2,f3,f4,V,f6⟩:=aq0 (c:=c) p6 (G.x.nx.all.wd v Y) N p2 hi h3 ho F I;have W:j4 (λu=>if u=v then 0 else okN ((ai c s v).ws u)) c.W=j4 (λu=>if u=v then 0 else okN (s.ws u)) c.W:=GR _ λu _=>by
   by_cases q:u=v
   .rw[tz q,tz q]
   .rw[ck q,ck q,o u q]
  refine⟨U.trans N,f2,d3,λu h=>by rw[ak];exact O u h,by rw[ak];exact Z,f4,λu h=>by rw[o u h];exact p7 u h,λu h H=>by rw[o u h];exact p8 u h H,apR f3 p9,?_⟩;rcases f6 with⟨r,D⟩|⟨a,r,D,L⟩
  .refine⟨n,r.trans Q,R,fun u=> ?_,S,by rw[V,W];exact e5⟩
   by_cases q:u=v
   .rw[q];exact⟨λk=>tA k T,λk=>tA k.2 D⟩
   .rw[o u q];exact J u
  .refine⟨⟨true,v,(s.ws v).ask,a⟩::n,by rw[r,Q];rfl,tP.2 ⟨T,R⟩,fun u=> ?_,fun y E=> ?_,?_⟩
   .show u∈v::n.map Ev.who↔_
    rw[db];by_cases q:u=v
    .rw[q];exact⟨λ_=>⟨.inl rfl,L⟩,λ_=>.inl rfl⟩
    .rw[o u q, <-J u];exact⟨λk=>k.resolve_left q,.inr⟩
   .rcases db.1 E with rfl|E
    .exact⟨rfl,by show(s.ws v).ask.op=_;rw[tz rfl,Z],.inl D⟩
    .exact S y E
   .rw[V,W,anw,ck (show¬okE ⟨true,v,(s.ws v).ask,a⟩from fun k=>by have:(s.ws v).ask.op=0:=k.1;omega)]
    exact e5
 .have l:v∈B:=cv fun k=>hn (p8 v e k)
  obtain⟨U,f2,f3,f4,V,f6⟩:=ar9 (p7 v e) G N p2 (λ_ _=>p3 v l) hW Y I;have ew:(ai c s v).ws w=s.ws w:=o w (Ne.symm e);have W:=Oq (f:=λu=>if u=w then 0 else okN ((ai c s v).ws u)) (g:=λu=>if u=w then 0 else okN (s.ws u)) (k:=v) c.W Y λu h=>by rw[o u h]
  rw[ck e,ck e]at W;refine⟨U,f2,d3,λu h=>by rw[ak];exact O u h,by rw[ak];exact Z,by rw[ew];exact p6.keep (U.trans N.symm) λk=>by rw[V i (by rw[k];exact h3)];exact k,λu h=> ?_,λu h H=> ?_,apR f3 p9,?_⟩
  .by_cases q:u=v
   .rw[q];exact f4
   .rw[o u q];exact p7 u h
  .by_cases q:u=v
   .rw[q]at H;exact tA l H
   .rw[o u q];exact p8 u h H
  .rcases f6 with⟨r,D,L⟩|⟨a,r,D,L,g4,g5⟩
   .refine⟨n,r.trans Q,R,fun u=> ?_,S,by rw[ew];omega⟩
    by_cases q:u=v
    .rw[q];exact⟨λk=>tA k T,λk=>tA k.2 D⟩
    .rw[o u q];exact J u
   .have z:okN ((ai c s v).ws v)=0:=by unfold okN;rw[L]
    refine⟨⟨true,v,(s.ws v).ask,a⟩::n,by rw[r,Q];rfl,tP.2 ⟨T,R⟩,λu=> ?_,λy E=> ?_,?_⟩
    .show u∈v::n.map Ev.who↔_
     rw[db];by_cases q:u=v
     .rw[q];exact⟨λ_=>⟨.inr l,L⟩,λ_=>.inl rfl⟩
     .rw[o u q, <-J u];exact⟨λk=>k.resolve_left q,.inr⟩
    .rcases db.1 E with rfl|E
     .exact⟨rfl,by show(s.ws v).ask.op=_;rw[ck e,O v l],D⟩
     .exact S y E
    .have kk:(if okE ⟨true,v,(s.ws v).ask,a⟩then 1 else 0)=okN (s.ws v):=by
      rw[g5];by_cases X:a.e=0
      .rw[tz X,tz (show okE _ from⟨O v l,X⟩)]
      .rw[ck X,ck (show¬okE _ from λk=>X k.2)]
     rw[anw,kk,ew];omega
end
noncomputable section
open Classical Yq
variable{c:Cn} {w v:Nat} {s b d p C:Ms} {m D:Mm} {i:Nat} {g:Bool} {K:Nat} {E:List Nat} {H:aa} {n:Int} {k:Nat}
theorem aib{f:Nat->Nat}:∀n,(∀i,i<n->f i=0)->j4 f n=0
 |0,_=>rfl
 |n+1,h=>by unfold j4;rw[aib n λi a=>h i (by omega),h n (by omega)]
theorem anu{f g:Nat->Nat}:∀n,(∀i,i<n->f i+g i=1)->j4 f n+j4 g n=n
 |0,_=>rfl
 |n+1,h=>by
  have:=anu n λi a=>h i (by omega);have:=h n (by omega);unfold j4;omega
def al4(c:Cn)(m:Mm):Nat:=j4 (λj=>if(m.sl j).st=2/\(m.sl j).brk=true then 1 else 0) c.S
def agi(l:List Ev):List Ev:=l.filter λy=>decide (y.ask.op=0)
theorem arL:∀l:List Ev,gdL l<=(agi l).length
 |[]=>aq _
 |y::l=>by
  have q:=arL l;rw[anw];unfold agi at*;rw[List.filter_cons];by_cases h:y.ask.op=0
  .rw[tz (show decide (y.ask.op=0)=true by simpa using h),ct]
   split<;>omega
  .rw[ck (show¬decide (y.ask.op=0)=true by simpa using h),ck (fun k=>h k.1)]
   exact q
structure FrL(c:Cn)(w:Nat)(s p C:Ms)(new:List Ev)(kq:Nat):Prop where
 cl:C.m.cl=0
 ev:C.ev=new++p.ev
 y:∀y,y∈new->y.ended=true/\(y.ans.e=0\/y.ans.e=6)
 le:kq<=s.m.qu.length
 qu:C.m.qu=s.m.qu.drop kq
 len:(agi new).length=kq
 mem:∀v,v∈(agi new).map Ev.who↔v∈s.m.qu.take kq
 good:gdL new<=1+al4 c s.m/\(kq<s.m.qu.length->gdL new=1+al4 c s.m)/\gdL new<=kq
 n:n3 c C.m+1=n3 c s.m+gdL new
 nb:al2 c C
def aqp{h:Hd}{a:Ask}(hW:1<=c.W/\c.W<=4)(hS:1<=c.S/\c.S<=5)(hn:n<=900000000)(hk:k<=1900)(hw:w<c.W)(R:Rst c n k s)(bm:s.m.cl=0)(hr:(s.ws w).ph=.rest)(hi:i<c.S)(hT:eU c s.ev=some h)(S0:∃h,bJ c s h)(hh:h.who i=w+1)(ha:a=⟨2,false,false,0,i,h.gen i,0⟩)(r:Reach c (asked s w a) C)(S:Still c C):
  ∃l L,FrL c w s (asked s w a) C l L/\(C.ws w).ph=.rest:=by
 obtain⟨h0,J⟩:=S0;have e0:=J.tell;rw[hT]at e0;obtain rfl:=b9 e0;obtain⟨_,_,⟨l1,l2,l3⟩,_⟩:=UI J R.st (by omega) hh;obtain⟨_,A,G,f⟩:=acx (a:=a) R hW hS hn hk hw hr (by rw[ha];show 2<8;omega) (by rw[ha];show(0:Int)<=255;omega);obtain⟨K,G,hK⟩:=Rst.run (k:=k) G (by omega) hW hS;have Q:=akJ R;have Y:=akJ (f C r S);have F:=R.all.inv.m.1 i hi;have hq:w∉s.m.qu:=λq=>by rw[Q.qu w q]at hr;cases hr
 have aw:∀u,u∈s.m.qu->(asked s w a).ws u=s.ws u:=λu I=>akw λe=>hq (e▸I);have lt:∀u,u∈s.m.qu->u<c.W:=λu I=>R.all.inv.m.2 u I;have P0:aka c w i (s.m.sl i) s.m.qu (asked s w a) (asked s w a):=by
  refine⟨bm,λu=>by show 0<=s.m.gr u;rw[Q.gr];exact jx _,λu I=> ?_,λu I=> ?_,by rw[cu,ha],by unfold aj9;rw[cu,ha];exact⟨rfl,rfl,l3.symm,by show s.m.cl≠2;omega,rfl⟩,λu I=> ?_,λu I hq=> ?_,⟨0,rfl⟩,[],rfl,List.nodup_nil,λu=>⟨λk=>(by cases k),λk=> ?_⟩,λy T=>(by cases T),?_⟩
  .rw[aw u I]
   have st:=R.st u (lt u I);unfold aQ at st;rw[Q.qu u I]at st;show s.now<_;exact cv λk=>st (.inr ⟨rfl,by omega⟩)
  .rw[aw u I]
   have W:=R.all.wd u (lt u I);unfold nW at W;rw[Q.qu u I]at W;exact W
  .rw[akw I]
   unfold FqP;rcases Q.ph u with k|⟨k,_⟩<;>rw[k];trivial
  .rw[akw I]
   exact(Q.ph u).resolve_right λk=>hq k.2
  .exfalso
   obtain⟨k1|k1,k2⟩:=k
   .rw[k1,cu]at k2;cases k2
   .rw[aw u k1,Q.qu u k1]at k2;cases k2
  .have z:j4 (λv=>if v=w then 0 else okN ((asked s w a).ws v)) c.W=0:=aib _ λu _=>by
    by_cases e:u=w
    .rw[tz e]
    .rw[ck e,akw e]
     unfold okN;rcases Q.ph u with k|⟨k,_⟩<;>rw[k]
   have z2:adJ ((asked s w a).ws w)=0:=by unfold adJ;rw[cu]
   rw[z,z2];rfl
 have P:=amo (P:=aka c w i (s.m.sl i) s.m.qu (asked s w a)) G (by omega) hS.1 hK P0 (λs v K' G' P hv hc o=>ar' P G' (by omega) hw hq hi l1 l2 F hv hc o) r;have B:=amo (P:=SwA c) G (by omega) hS.1 hK (λj U _=>⟨w,by rw[cu];exact apu (.inl trivial)⟩) (λs v K' G' P hv hc o=>ao1 P G'.x.nx.all hv o) r;obtain⟨p1,p2,p3,p4,p5,p6,p7,p8,⟨k0,p9⟩,l,e1,e2,e3,e4,e5⟩:=P;have hwr:(C.ws w).ph=.rest:=(Y.ph w).resolve_right λk=>by
  unfold aj9 at p6;rw[k.1]at p6;exact p6
 have z:j4 (λv=>if v=w then 0 else okN (C.ws v)) c.W=0:=aib _ λu _=>by
  by_cases e:u=w
  .rw[tz e]
  .rw[ck e]
   unfold okN;rcases Y.ph u with k|⟨k,_⟩<;>rw[k]
 have z2:adJ (C.ws w)=1:=by unfold adJ;rw[hwr]
 rw[z,z2]at e5;have e5:n3 c C.m+1=n3 c s.m+gdL l:=e5;have nb:al2 c C:=λj U Z=>by
  obtain⟨u,k⟩:=B j U (.inl ⟨Z.1,.inl Z.2⟩);rcases Y.ph u with q|⟨q,_⟩<;>(rw[q]at k;rcases k with k|⟨t,q,a,k,_⟩;exact k;cases k)
 have nq:s.m.qu.Nodup:=R.all.nd;obtain⟨L,ac,V⟩:∃L,L<=s.m.qu.length/\C.m.qu=s.m.qu.drop L:=by
  by_cases q:k0<=s.m.qu.length
  .exact⟨k0,q,p9⟩
  .exact⟨s.m.qu.length,aq _,by rw[p9,uc (by omega),List.drop_length]⟩
 have memT:∀u,u∈(agi l).map Ev.who↔u∈s.m.qu.take L:=λu=>by
  have dj:u∈s.m.qu.take L->u∉s.m.qu.drop L:=λh1 h2=>by
   rw[<-List.take_append_drop L s.m.qu]at nq;exact(List.nodup_append.1 nq).2.2 u h1 u h2 rfl
  constructor
  .intro q
   obtain⟨y,T,rfl⟩:=kx.1 q;obtain⟨ao,bv⟩:=th.1 T;have d5:y.ask.op=0:=by simpa using bv
   have am:y.who≠w:=λe=>by have:=(e4 y ao).2.1;rw[tz e]at this;omega
   obtain⟨O,q2⟩:=(e3 y.who).1 (List.mem_map_of_mem ao);have O:=O.resolve_left am;rw[<-List.take_append_drop L s.m.qu]at O;rcases eS.1 O with O|O
   .exact O
   .exfalso
    rw[<-V]at O;rw[Y.qu _ O]at q2;cases q2
  .intro q
   have O:u∈s.m.qu:=List.mem_of_mem_take q;have q2:(C.ws u).ph=.rest:=(Y.ph u).resolve_right λk=>dj q (by rw[<-V];exact k.2);obtain⟨y,T,rfl⟩:=kx.1 ((e3 u).2 ⟨.inr O,q2⟩);have am:y.who≠w:=λe=>hq (e▸O);have:=(e4 y T).2.1;rw[ck am]at this;exact List.mem_map_of_mem (th.2 ⟨T,by simpa using this⟩)
 have ca:((agi l).map Ev.who).Nodup:=List.Nodup.sublist (List.Sublist.map _ (List.filter_sublist)) e2;have cb:(agi l).length=L:=by
  have a1:=aj6 _ _ ca λx hx=>(memT x).1 hx;have a2:=aj6 _ _ (List.Nodup.sublist (List.take_sublist L s.m.qu) nq) λx hx=>(memT x).2 hx;rw[iz,List.length_take]at a1 a2;omega
 have ce:∀m,n3 c m<=c.S:=λm=>by
  have:=yO (f:=λj=>if(m.sl j).st=3 then 1 else 0) (k:=1) c.S λj _=>by split<;>omega
  unfold n3;omega
 have X:s.m.qu≠[]->n3 c s.m+al4 c s.m=c.S:=λN=>anu _ λj U=>by
  have fr:=Q.fr N j U;unfold frees at fr;rcases Q.st j U with h|h|h
  .exact tA (.inl h) fr
  .have:(s.m.sl j).brk=true:=by
    cases Z:(s.m.sl j).brk
    .exact tA (.inr ⟨h,Z⟩) fr
    .rfl
   rw[ck (by omega),tz ⟨h,this⟩]
  .rw[tz h,ck (λk=>by omega)]
 have gs:=arL l;refine⟨l,L,⟨p1,e1,λy T=>⟨(e4 y T).1,(e4 y T).2.2⟩,ac,V,cb,memT,⟨?_,λar=> ?_,by omega⟩,e5,nb⟩,hwr⟩
 .by_cases N:s.m.qu=[]
  .rw[N]at ac
   have:L=0:=by simpa using ac
   omega
  .have:=X N
   have:=ce C.m;omega
 .have N:s.m.qu≠[]:=fun e=>by rw[e]at ar;exact tA ar (mz _)
  have bi:C.m.qu≠[]:=λe=>by
   rw[V]at e;have:=List.drop_eq_nil_iff.1 e;omega
  have q:=X N;have co:n3 c C.m+j4 (λ_=>0) c.S=c.S:=anu _ λj U=>by
   have fr:=Y.fr bi j U;unfold frees at fr;have nj:=nb j U;rcases Y.st j U with h|h|h
   .exact tA (.inl h) fr
   .exfalso
    cases Z:(C.m.sl j).brk
    .exact fr (.inr ⟨h,Z⟩)
    .exact nj ⟨h,Z⟩
   .rw[tz h]
  rw[aib (f:=λ_=>0) _ λ_ _=>rfl]at co;omega
def aqI{h:Hd}(R:Rst c n k s)(S:∃h,bJ c s h)(f:s.m.cl≠2)(T:eU c s.ev=some h):j4 (λi=>if h.who i=0 then 0 else 1) c.S=n3 c s.m:=by
 obtain⟨q,J⟩:=S;have e:=J.tell;rw[T]at e;obtain rfl:=b9 e;refine GR _ λi l=> ?_;by_cases a:(s.m.sl i).st=3
 .obtain⟨u,_,r,_⟩:=anz J R.st l a
  rw[tz a,ck (by omega)]
 .rw[ck a]
  by_cases z:h.who i=0
  .rw[tz z]
  .obtain⟨u,o⟩:∃u,h.who i=u+1:=⟨h.who i-1,by omega⟩
   exact tA (UI J R.st f o).2.2.1.1 a
def aqZ{h:Hd}(R:Rst c n k s)(S:∃h,bJ c s h)(T:eU c s.ev=some h)(q:al2 c s)(r:s.m.qu≠[])(e:∀i v,i<c.S->h.who i=v+1->(s.ws v).ph≠.rest):∀i,i<c.S->(s.m.sl i).st=3/\∃v:Nat,(s.m.sl i).own=(v:Int)/\v∈s.m.qu:=by
 intro i a;obtain⟨z,J⟩:=S;have f:=J.tell;rw[T]at f;obtain rfl:=b9 f;have I:=akJ R;have fr:=I.fr r i a;unfold frees at fr;have l:(s.m.sl i).st=3:=by
  rcases I.st i a with h|h|h
  .exact tA (.inl h) fr
  .exfalso
   cases o:(s.m.sl i).brk
   .exact fr (.inr ⟨h,o⟩)
   .exact q i a ⟨h,o⟩
  .exact h
 obtain⟨u,_,x,_,y⟩:=anz J R.st a l;exact⟨l,u,y,((I.ph u).resolve_left (e i u a x)).2⟩
end
noncomputable section
open Go.RowKit Go.bn Go.Sx Yq
attribute [local go_sem ↓] Go.wp_at_zero Go.wp_at_succ
def srE(l:List Ev):List Ev:=l.filter λy=>decide (y.ended=true/\y.ask.op=0)
def gdE(l:List Ev):Nat:=((srE l).filter λy=>decide (y.ans.e=0)).length
def aqu{y:Ev}{l:List Ev}(h:¬(y.ended=true/\y.ask.op=0)):srE (y::l)=srE l:=by
 unfold srE;rw[List.filter_cons,ck (by simpa using h)]
def apN{y:Ev}{l:List Ev}(h:y.ended=true/\y.ask.op=0):srE (y::l)=y::srE l:=by
 unfold srE;rw[List.filter_cons,tz (by simpa using h)]
def atq{y:Ev}{l:List Ev}(h:¬(y.ended=true/\y.ask.op=0)):gdE (y::l)=gdE l:=by
 unfold gdE;rw[aqu h]
def ar8{y:Ev}{l:List Ev}(h:y.ended=true/\y.ask.op=0):gdE (y::l)=gdE l+if y.ans.e=0 then 1 else 0:=by
 unfold gdE;rw[apN h,List.filter_cons];by_cases a:y.ans.e=0
 .rw[tz (by simpa using a),tz a];rfl
 .rw[ck (by simpa using a),ck a];rfl
def adk(l:List Ev):List Nat:=(srE l).reverse.map Ev.who
def aqS{y:Ev}{l:List Ev}(h:y.ended=true/\y.ask.op=0):adk (y::l)=adk l++[y.who]:=by
 unfold adk;rw[apN h,List.reverse_cons,qP];rfl
def ar6{y:Ev}{l:List Ev}(h:¬(y.ended=true/\y.ask.op=0)):adk (y::l)=adk l:=by
 unfold adk;rw[aqu h]
def sgE(l:List Ev)(n q:Nat):List Ev:=(l.drop (l.length-q)).take (q-n)
def aoP{l:List Ev}{n q:Nat}{x:Ev}(d:n<=q)(f:q<l.length)(h:l[l.length-1-q]?=some x):sgE l n (q+1)=x::sgE l n q:=by
 unfold sgE;have e:l.drop (l.length-(q+1))=x::l.drop (l.length-q):=by
  have a:l.length-1-q<l.length:=by omega
  have b:l[l.length-1-q]=x:=by rw[tD a]at h;exact b9 h
  have c:l.length-(q+1)=l.length-1-q:=by omega
  rw[c,lj a,b];congr 2;omega
 rw[e,show q+1-n=(q-n)+1 by omega,List.take_succ_cons]
def anX{l:List Ev}{n q:Nat}:(adk (sgE l n q)).length<=q:=by
 unfold adk srE sgE;rw[iz,List.length_reverse];have:=List.length_filter_le (λy:Ev=>decide (y.ended=true/\y.ask.op=0)) ((l.drop (l.length-q)).take (q-n));rw[List.length_take]at this;omega
def atr{l:List Ev}{n q:Nat}:gdE (sgE l n q)<=q:=by
 have a:=List.length_filter_le (λy:Ev=>decide (y.ans.e=0)) (srE (sgE l n q));have h:=anX (l:=l) (n:=n) (q:=q);unfold adk at h;rw[iz,List.length_reverse]at h;unfold gdE;omega
def own_below{w a:World}{B n k:Nat}{t:TypeId}{v:Value}{l:List Value}(h:w.ownsRow B t k v n l)(d:Below w.heap.size w a):a.ownsRow B t k v n l:=by
 refine⟨h.1,?_⟩;rcases h.2 with q|⟨g,c,u,rfl,e,b,f⟩
 .exact .inl q
 .exact .inr ⟨g,c,u,rfl,e,(d.block _ (gQ b)).trans b,f⟩
set_option maxRecDepth 8000 in
set_option maxHeartbeats 4000000 in
def aql{c:Cn}{s:Ms}{e:Int}{D:Nat->Prop}{b:Nat}(w:World)(hL:Live c s e D b w)(he:e<=1000000000){d:Nat}(hn:d<=s.ev.length)(hE:∀k x,d<=k->k<s.ev.length->s.ev[s.ev.length-1-k]?=some x->x.ended=true->x.ask.op=0->x.ans.e=0\/x.ans.e=6):
  Calls Tryz.prog 20 #[.pointer (some ⟨b,0,none⟩),.int .i64 (d:Int)] w λr w'=>(∃A f,r=.returned (.tuple #[.slice A (adk (sgE s.ev d s.ev.length)).length f,.int .i64 (gdE (sgE s.ev d s.ev.length):Int),.bool true])/\adD w' A (adk (sgE s.ev d s.ev.length)) w.heap.size)/\Below w.heap.size w w':=by
 have ac:=hL.events he;have am:s.ev.length<=1000000000:=by
  obtain⟨kk,fh,_,fi⟩:=hL.good.nx;omega
 obtain⟨i0,hi,d7,d8,d9⟩:=info_parts Tryz.info3;clear hL;go_enter Tryz.func20,Tryz.ntmps20
 go_upto_region 4 with(go_at_call 17;refine ac.mono ?_;rintro r i ⟨v',Aa,rfl,ao,y,_⟩)
 obtain⟨A,f,rfl,hP⟩:∃A f,v'=.slice A s.ev.length f/\∀k,k<s.ev.length->∃g,A=some ⟨g,0,none⟩/\w.heap.size<=g/\g<i.heap.size/\∃(x:Ev) (a:Int),s.ev[s.ev.length-1-k]?=some x/\∀j u,(nA x a)[j]?=some u->i.cell? ⟨g,k*18+j,none⟩=some u:=by
  have hE:=K3 ao;by_cases z:s.ev=[]
  .rcases hE.nil z with rfl|⟨g,f,rfl⟩
   .exact⟨none,0,by rw[z];rfl,λk G=>by rw[z]at G;simp at G⟩
   .exact⟨some ⟨g,0,none⟩,f,by rw[z];rfl,λk G=>by rw[z]at G;simp at G⟩
  .obtain⟨g,f,h1,h2,h3,h4,h5⟩:=hE.row z
   refine⟨_,f,h1,λk G=>⟨g,rfl,h3,h4,?_⟩⟩;exact h5 k G
 obtain⟨N,I⟩:∃N,N=s.ev.length:=⟨_,rfl⟩;rw[<-I]at am hn hP;rw[<-I];have P:=Lib.hid (And.intro hP (And.intro I (And.intro hE y)));clear hP I hE y ao ac;go_wp2
 go_loopw [7,8,10] (fun v7 v8 Q wr=>∃q:Nat,d<=q/\q<=N/\Q=.int .i64 (q:Int)/\v8=.int .i64 (gdE (sgE s.ev d q):Int)/\wr.ownsRow i.heap.size 3 1 v7 (adk (sgE s.ev d q)).length ((adk (sgE s.ev d q)).map fun a:Nat=>Value.int .i64 (a:Int))/\Below i.heap.size i wr)
  (λ_ _ Q _=>N-(intOf Q).toNat)
 case atStart=>
  have e:sgE s.ev d d=[]:=by unfold sgE;rw[ud];rfl
  exact⟨d,aq _,hn,rfl,by rw[e];rfl,by rw[e];exact sq _ _ _ _,Below.refl _ _⟩
 case round=>
  obtain⟨q,R,hq,rfl,rfl,h,Z⟩:=hrel;have ar:=Z.size;by_cases m:q<N
  .obtain⟨g,hA,fl,dd,x,a,hx,bi⟩:=P.out.1 q m
   subst hA;have fv:(q:Int)<(N:Int):=mw.2 m;refine jY λWi bm=> ?_;rw[<-bm]at h Z ar;clear bm;have cc:Wi.rangeAt g (q*18) (nA x a):=λj u hu=>(Z.cell (p:=⟨g,_,none⟩) dd).trans (bi j u hu);have S:(Tryz.prog.info? 68).map (·.size)=some (nA x a).length:=by kernel_rfl
   have T:=agf x a;have B:=ac0 x a;have U:=M4 Wi x a;obtain⟨C,hC⟩:∃C,C=nA x a:=⟨_,rfl⟩;rw[<-hC]at cc S T B U;have O:=Lib.hid (And.intro h (And.intro Z (And.intro hx hC)));clear bi h Z hx hC;go_upto_region 7 with(fail)
   go_upto_region 8 with(first
    |(refine wpList_load_mid rfl _ _ rfl g (q*18) rfl C _ cc Tryz.underlying68 rfl S ?_)
    |(refine wpList_store_mid rfl _ _ _ rfl Wi.heap.size 0 C.toArray rfl rfl U T B ?_;generalize bv:World.setCells _ _ _ _=W7))
   have ca:W7=(Wi.alloc (.cells #[.bool false,.int .i64 0,.int .i64 0,.int .i64 0,.int .i64 0,.bool false,.bool false,.int .i64 0,.int .i64 0,.int .i64 0,.int .i64 0,.int .i64 0,.int .i64 0,.int .i64 0,.int .i64 0,.int .i64 0,.int .i64 0,.int .i64 0] 68)).setCells Wi.heap.size 0 (nA x a):=by rw[<-bv, <-O.out.2.2.2]
   obtain⟨V,gt,E⟩:=ajX ca;have x0:=E 0 _ rfl;have x1:=E 1 _ rfl;have x3:=E 3 _ rfl;have SA:=E 10 _ rfl;rw[cg]at x0 x1 x3 SA;have X:Below i.heap.size i W7:=O.out.2.1.trans (V.mono ar);have H:=Lib.hid (And.intro (own_below O.out.1 V) (And.intro X O.out.2.2.1));have Y:=P.out.2.2.1 q x R (by rw[<-P.out.2.1];exact m) (by rw[<-P.out.2.1];exact O.out.2.2.1);have de:=X.size;clear bv ca E V X cc S T B U;by_cases hY:x.ended=true/\x.ask.op=0
   .obtain⟨J,K⟩:=hY
    have dp:=Y J K;rw[J]at x0;rw[K]at x3;have x3:W7.cell? ⟨Wi.heap.size,3,none⟩=some (.int .i64 0):=x3;have HY:=Lib.hid (And.intro J K);clear Y J K;rcases dp with z|z
    all_goals
     rw[z]at SA;have HE:=Lib.hid z;have gv:(gdE (sgE s.ev d q):Int)<=1000000000:=by have:=atr (l:=s.ev) (n:=d) (q:=q);omega
     clear z;go_wp2_with (at_builtin;refine oT _ rfl _ _ 35 rfl i.heap.size 3 i0 (.int .i64 0) 1 8 Tryz.underlying35 hi d7 d8 d9 rfl (by decide) _ _ _ rfl (H.out.1.alloc _) ⟨W7.heap.size,0,none⟩ 1 1 [.int .i64 (x.who:Int)] rfl rfl ?c1 ?c2 ?c3 ?c4 ?c5 ?_)
     case c1=>exact cell_one_new _ _ _
     case c2=>simp[Value.oneCell']
     case c3=>have:=anX (l:=s.ev) (n:=d) (q:=q);unfold maxLen;omega
     case c4=>have:=anX (l:=s.ev) (n:=d) (q:=q);omega
     case c5=>simp;omega
     intro v' w3 o cb _
     have F:Below i.heap.size i w3:=(H.out.2.1.alloc de _).grown cb (by simp;omega) (λj e=>by
      rcases H.out.1.2 with⟨rfl,_⟩|⟨g,f,i4,rfl,hg,_⟩
      .simp[Value.ownBlock]at e
      .simp[Value.ownBlock]at e;omega)
     clear cb;obtain⟨g',eh,rfl⟩:=ownsRow_succ o;have ce:=Lib.hid (And.intro o F);clear o F;go_wp2;go_roundw
     case rel=>
      have en:=aoP R (by rw[<-P.out.2.1];exact m) (by rw[<-P.out.2.1];exact H.out.2.2);refine⟨q+1,by omega,m,by go_num,?_,?_,ce.out.2⟩
      .rw[en,ar8 HY.out,HE.out]
       first|(rw[tz rfl];go_num)|(rw[ck (by decide)];rfl)
      .rw[en,aqS HY.out,cE,qP]
       exact ce.out.1
     case measure=>simp[intOf];omega
   .have HY:=Lib.hid hY
    clear Y SA;have co:∀(W:World) (v7:Value),Below i.heap.size i W->W.ownsRow i.heap.size 3 1 v7 (adk (sgE s.ev d q)).length ((adk (sgE s.ev d q)).map λa:Nat=>Value.int .i64 (a:Int))->(∃q2:Nat,d<=q2/\q2<=N/\Value.int .i64 ((q:Int)+1)=.int .i64 (q2:Int)/\Value.int .i64 (gdE (sgE s.ev d q):Int)=.int .i64 (gdE (sgE s.ev d q2):Int)/\W.ownsRow i.heap.size 3 1 v7 (adk (sgE s.ev d q2)).length ((adk (sgE s.ev d q2)).map λa:Nat=>Value.int .i64 (a:Int))/\Below i.heap.size i W):=λW v7 h1 h2=>by
     have en:=aoP R (by rw[<-P.out.2.1];exact m) (by rw[<-P.out.2.1];exact H.out.2.2);refine⟨q+1,by omega,m,by go_num,by rw[en,atq HY.out],by rw[en,ar6 HY.out];exact h2,h1⟩
    have RL:=Lib.hid co;clear co;cases L:x.ended with
    |false=>
     rw[L]at x0;clear hY x3;go_wp2;exact⟨RL.out _ _ H.out.2.1 H.out.1,by simp[intOf];omega⟩
    |true=>
     rw[L]at x0;have d5:¬(x.ask.op:Int)=0:=λk=>hY ⟨L,by omega⟩;generalize (x.ask.op:Int)=xo at x3 d5;have i5:(xo==0)=false:=na d5;clear hY L;go_wp2;exact⟨RL.out _ _ H.out.2.1 H.out.1,by simp[intOf];omega⟩
  .have dt:q=N:=by omega
   subst dt;have O:=Lib.hid (And.intro h Z);clear h;go_wp2;obtain⟨A2,d6,dv,dT⟩:=aoa O.out.1;subst dv;refine cC (v:=.tuple #[.slice A2 (adk (sgE s.ev d q)).length d6,.int .i64 (gdE (sgE s.ev d q):Int),.bool true]) (by simp[results,Tryz.f20,go_sem]) rfl ?_;have y:=P.out.2.2.2;rw[<-P.out.2.1];refine⟨⟨A2,d6,rfl,⟨λk a G=> ?_⟩⟩,y.trans (O.out.2.mono y.size)⟩;obtain⟨g',e,h1,h2,h3⟩:=dT.at_ k a G;exact⟨g',e,eM y.size h1,h2,h3⟩
set_option maxHeartbeats 1000000 in
def aoz{A:Option Addr}{l:List Nat}{B cap n:Nat}{x:Int}(w:World)(h:adD w A l B)(u:l.length<=1000000000)(f:l.length=n)(y:∃a,a∈l/\(a:Int)=x):
  Calls Tryz.prog 21 #[.slice A n cap,.int .i64 x] w λr z=>r=.returned (.bool true)/\Below w.heap.size w z:=by
 obtain⟨a,p,rfl⟩:=y;obtain⟨j,q,rfl⟩:=ff.1 p;have c:l[j]?=some l[j]:=tD q;generalize l[j]=a at c;clear p;have H:=Lib.hid h;have J:=Lib.hid c;rw[f]at u q;have N:=Lib.hid f;clear h c f;go_enter Tryz.func21,Tryz.ntmps21
 go_wp2
 go_loopw [5] (λm wr=>∃i:Nat,i<=j/\m=.int .i64 (i:Int)/\wr=w) (λm _=>j-(intOf m).toNat)
 case atStart=>exact⟨0,tE _,rfl,rfl⟩
 case round=>
  obtain⟨i,C,rfl,hwr⟩:=hrel;subst hwr;have D:(i:Int)<(n:Int):=by omega
  obtain⟨b,d⟩:∃b,l[i]?=some b:=⟨_,tD (by rw[N.out];omega)⟩;obtain⟨g,rfl,_,G,s⟩:=H.out.at_ i b d;by_cases e:(b:Int)=(a:Int)
  .rw[e]at s
   clear d e;go_wp2;refine cC (v:=.bool true) (by simp[results,Tryz.f21,go_sem]) rfl ?_;exact⟨rfl,Below.refl _ _⟩
  .have o:i<j:=Nat.lt_of_le_of_ne C λk=>by
    subst k;rw[J.out]at d;cases d;exact e rfl
   generalize (b:Int)=E at s e;generalize (a:Int)=F at e;have I:(E==F)=false:=na e;clear d;go_wp2;go_roundw
   case rel=>exact⟨i+1,o,by go_num,by first|rfl|trivial⟩
   case measure=>simp[intOf];omega
set_option maxHeartbeats 1000000 in
def aqV{A:Option Addr}{l:List Nat}{B d c n o:Nat}{z:Option Addr}(w:World)(h:adD w A l B)(D:l.length<=1000000000)(e:l.length=n)(C:∀(k a:Nat),l[k]?=some a->∃g,z=some ⟨g,o,none⟩/\g<w.heap.size/\w.cell? ⟨g,o+k,none⟩=some (.int .i64 (a:Int))):
  Calls Tryz.prog 22 #[.slice A n d,.slice z n c] w λr E=>r=.returned (.bool true)/\Below w.heap.size w E:=by
 rw[e]at D;have H:=Lib.hid (And.intro h C);have N:=Lib.hid e;clear h C e;go_enter Tryz.func22,Tryz.ntmps22
 go_wp2
 go_loopw [5] (λf wr=>∃i:Nat,i<=n/\f=.int .i64 (i:Int)/\Below w.heap.size w wr) (λf _=>n-(intOf f).toNat)
 case atStart=>exact⟨0,tE _,rfl,Below.refl _ _⟩
 case round=>
  obtain⟨i,I,rfl,b⟩:=hrel;by_cases m:i<n
  .have q:(i:Int)<(n:Int):=by omega
   obtain⟨a,s⟩:∃a,l[i]?=some a:=⟨_,tD (by rw[N.out];omega)⟩;obtain⟨g,rfl,_,F,u⟩:=H.out.1.at_ i a s;obtain⟨G,rfl,x,y⟩:=H.out.2 i a s;generalize (a:Int)=J at u y;have u:=(b.cell (p:=⟨g,_,none⟩) F).trans u;have y:=(b.cell (p:=⟨G,_,none⟩) x).trans y;clear s;go_wp2
   go_quiet (fail)
   go_wp2;go_roundw
   case rel=>exact⟨i+1,m,by go_num,fR b _⟩
   case measure=>simp[intOf];omega
  .have q:¬(i:Int)<(n:Int):=by omega
   go_wp2;refine cC (v:=.bool true) (by simp[results,Tryz.f22,go_sem]) rfl ?_;exact⟨rfl,b⟩
def asa{c:Cn}{m:Mm}:al4 c m<=c.S:=by
 have:=yO (f:=λj=>if(m.sl j).st=2/\(m.sl j).brk=true then 1 else 0) (k:=1) c.S λj _=>by split<;>omega
 unfold al4;omega
def aq1{c:Cn}{m:Mm}(F:c.S<=5){E o G:Nat}(w:World)(s:∀i j u,i<c.S->(aaF (m.sl i))[j]?=some u->w.cell? ⟨E,o+(i*9+j),none⟩=some u):
  Calls Tryz.prog 16 #[.slice (some ⟨E,o,none⟩) c.S G] w λr I=>r=.returned (.int .i64 (al4 c m:Int))/\Below w.heap.size w I:=by
 unfold al4;obtain⟨f,A⟩:∃f:Nat->Nat,f=λj=>if(m.sl j).st=2/\(m.sl j).brk=true then 1 else 0:=⟨_,rfl⟩
 rw[<-A];have a:∀k,j4 f k<=k:=λk=>by
  have:=yO (f:=f) (k:=1) k λj _=>by rw[A];dsimp only;split<;>omega
  omega
 obtain⟨S,p⟩:∃S,S=c.S:=⟨_,rfl⟩;rw[<-p]at F s ⊢;have C:=Lib.hid (And.intro s A);clear s p A;go_enter Tryz.func16,Tryz.ntmps16
 go_wp2
 go_loopw [3,4] (fun J K wr=>∃(k:Nat),k<=S/\K=.int .i64 (k:Int)/\J=.int .i64 (j4 f k:Int)/\wr=w)
  (λ_ i _=>S-(intOf i).toNat)
 case atStart=>exact⟨0,tE _,rfl,rfl,rfl⟩
 case round=>
  obtain⟨k,N,rfl,rfl,hwr⟩:=hrel;subst hwr;have q:=a k;obtain⟨n,v⟩:∃n,n=j4 f k:=⟨_,rfl⟩;rw[<-v]at q ⊢;by_cases l:k<S
  .have B:=C.out.1 k 0 _ l rfl
   have D:=C.out.1 k 3 _ l rfl;rw[<-Nat.add_assoc]at B D;rw[qq]at B;have L:(k:Int)<(S:Int):=by omega
   have x:j4 f (k+1)=n+f k:=by rw[v];rfl
   have y:f k=if(m.sl k).st=2/\(m.sl k).brk=true then 1 else 0:=by rw[C.out.2]
   have H:=Lib.hid (And.intro x y);clear v x y a;by_cases b:(m.sl k).st=2
   .rw[b]at B
    cases d:(m.sl k).brk with
    |true=>
     rw[d]at D;have e:=Lib.hid (And.intro b d);clear b d;go_wp2;go_roundw
     case rel=>exact⟨k+1,l,by go_num,by rw[H.out.1,H.out.2,tz e.out];go_num,by first|rfl|trivial⟩
     case measure=>simp[intOf];omega
    |false=>
     rw[d]at D;have e:=Lib.hid d;clear b d;go_wp2;go_roundw
     case rel=>exact⟨k+1,l,by go_num,by rw[H.out.1,H.out.2,ck (λh=>by rw[e.out]at h;cases h.2)];rfl,by first|rfl|trivial⟩
     case measure=>simp[intOf];omega
   .generalize z:(m.sl k).st=O at B b
    have e:=Lib.hid (And.intro z b);clear z;go_wp2;go_roundw
    case rel=>exact⟨k+1,l,by go_num,by rw[H.out.1,H.out.2,ck (λh=>e.out.2 (by rw[<-e.out.1];exact h.1))];rfl,by first|rfl|trivial⟩
    case measure=>simp[intOf];omega
  .obtain rfl:k=S:=by omega
   rw[v];clear a v q;go_wp2;go_ret;exact⟨rfl,Below.refl _ _⟩
def aqT{w:World}{B:Nat}{v:Value}{l:List Nat}(h:w.ownsRow B 3 1 v l.length (l.map λa:Nat=>Value.int .i64 (a:Int))):∃A c,v=.slice A l.length c/\adD w A l B/\l.length<=c:=by
 obtain⟨A,c,rfl,d⟩:=aoa h;refine⟨A,c,rfl,d,?_⟩;rcases h.2 with⟨_,f⟩|⟨g,b,u,e,i,k,n,_⟩
 .omega
 .injection e with m o p
  omega
def aqU{c:Cn}{s:Ms}{e:Int}{D:Nat->Prop}{b:Nat}{w:World}(L:Live c s e D b w):Calls Tryz.prog 15 #[.pointer (some ⟨b,0,none⟩)] w λr p=>(∃A d,r=.returned (.slice A s.m.qu.length d)/\adD p A s.m.qu w.heap.size/\s.m.qu.length<=d)/\Below w.heap.size w p:=by
 have i:=L.wds;obtain⟨k,_,N,_⟩:=L.good.nx;have l:dZ s.m.qu:=N.ln.line (by have:=L.good.W.2;omega);have m:=λw=>alT l w;have H:¬((nC c:Nat):Int)<2:=by unfold nC;omega
 have I:(1:Int)<((nC c:Nat):Int):=by unfold nC;omega
 clear N L;go_enter Tryz.func15,Tryz.ntmps15
 go_wp2_with (first
  |(go_at_call 11;refine i.mono ?_;rintro r J ⟨g,d,rfl,q,u,h,f,x⟩;have K:=h 1 _ rfl)
  |(go_at_call 32;refine(m _).mono ?_;rintro r O ⟨⟨v,rfl,y⟩,n⟩;obtain⟨A,P,rfl,z,o⟩:=aqT y))
 go_ret;refine⟨⟨_,_,rfl,⟨λk a B=> ?_⟩,o⟩,f.trans (n.mono f.size)⟩;obtain⟨C,e,E,F,G⟩:=z.at_ k a B;exact⟨C,e,eM f.size E,F,G⟩
structure Pa(c:Cn)(s:Ms)(who:Nat)(a:Ask)(n:Int)(k bx b:Nat)(A:Option Addr)(n':Nat)(D:Nat->Prop)(w1 W:World):Prop where
 live:∃e,e<=10*n+1/\Live c (asked s who a) e D b W
 all:All c (asked s who a)
 nx:∀s',Reach c (asked s who a) s'->Still c s'->Rst c (n+400000) (k+13) s'
 lt:D bx
 conf:W.heap[bx]?=some (.cells (dI c).toArray 30 (0,0))
 ord:oP D W A n'
 qZ:Kept D w1 W
section
variable{c:Cn} {s:Ms} {n:Int} {k d b:Nat} {A:Option Addr} {f:Nat} {D:Nat->Prop} {l W w:World}
def PkS.more(h:PkS c s n k d b A f D l W)(a:Below W.heap.size W w):PkS c s n k d b A f (more D W w) w w:=by
 obtain⟨⟨e,o,L⟩,R,p,m,q,u⟩:=h;have r:Kept D W w:=(Kept.of_below a).mono λj i=>L.lt j i;exact⟨⟨e,o,Live.below L a⟩,R,.inl p,(a.block _ (gQ m)).trans m,(q.kept r).mono λj i=>.inl i,Kept.refl _ _⟩
def PkS.less{a:Ms}{i:Int}{m:Nat}{o:Nat->Prop}{p:World}(h:PkS c a i m d b A f o w p)(q:∀j,D j->o j)(g:PkS c s n k d b A f D l w):PkS c a i m d b A f D l p:=by
 obtain⟨⟨e,u,L⟩,R,E,v,F,x⟩:=h;obtain⟨⟨_,_,y⟩,_,z,_,B,C⟩:=g;have r:=x.mono q;exact⟨⟨e,u,L.mono q y.kt⟩,R,z,v,B.kept r,C.trans r⟩
def PkS.evn(h:PkS c s n k d b A f D l W)(p:n<=50000000):Calls Tryz.prog 17 #[.pointer (some ⟨b,0,none⟩)] W λr i=>(∃A a,r=.returned (.slice A s.ev.length a))/\Below W.heap.size W i/\PkS c s n k d b A f D l i:=by
 obtain⟨e,q,L⟩:=h.live;exact(L.evs (by omega)).mono λr i o=>by
  obtain⟨⟨A,a,rfl,_⟩,m,_⟩:=o;exact⟨⟨A,a,rfl⟩,m,h.below m⟩
def PkS.ln(h:PkS c s n k d b A f D l W):Calls Tryz.prog 15 #[.pointer (some ⟨b,0,none⟩)] W λr i=>(∃A a,r=.returned (.slice A s.m.qu.length a)/\adD i A s.m.qu W.heap.size/\s.m.qu.length<=a)/\Below W.heap.size W i/\PkS c s n k d b A f D l i:=by
 obtain⟨e,o,L⟩:=h.live;exact(aqU L).mono λr i m=>⟨m.1,m.2,h.below m.2⟩
def aqr(c:Cn)(m:Mm)(g:Nat)(W:World):Prop:=g<W.heap.size/\∀k x,(aC c m)[k]?=some x->W.cell? ⟨g,k,none⟩=some (.int .i64 x)
def anY(c:Cn)(m:Mm)(a o:Nat)(W:World):Prop:=a<W.heap.size/\∀i j u,i<c.S->(aaF (m.sl i))[j]?=some u->W.cell? ⟨a,o+(i*9+j),none⟩=some u
def anY.below{m:Mm}{a o:Nat}(h:anY c m a o W)(e:Below W.heap.size W w):anY c m a o w:=⟨ba h.1 e.size,λi j u q r=>(e.cell (p:=⟨a,_,none⟩) h.1).trans (h.2 i j u q r)⟩
def PkS.wds(h:PkS c s n k d b A f D l W):Calls Tryz.prog 11 #[.pointer (some ⟨b,0,none⟩)] W λr i=>(∃g a,r=.returned (.slice (some ⟨g,0,none⟩) (nC c) a)/\aqr c s.m g i)/\Below W.heap.size W i:=by
 obtain⟨e,u,L⟩:=h.live;exact L.wds.mono λr i m=>by
  obtain⟨g,a,rfl,_,o,p,q,_⟩:=m;exact⟨⟨g,a,rfl,o,p⟩,q⟩
def PkS.slots(R:fI (iM c))(h:PkS c s n k d b A f D l W){g i:Nat}(q:aqr c s.m g W):Calls Tryz.prog 12 #[.agg (dI c).toArray,.slice (some ⟨g,0,none⟩) (nC c) i] W λr m=>(∃a o p,r=.returned (.slice (some ⟨a,o,none⟩) c.S p)/\anY c s.m a o m)/\Below W.heap.size W m:=by
 obtain⟨e,z,L⟩:=h.live;exact(Ro R h.BZ.all.inv.m.1 W L.tt.1 q.1 q.2).mono λr m u=>by
  obtain⟨⟨a,o,p,rfl,v,_,x⟩,y⟩:=u;exact⟨⟨a,o,p,rfl,v,x⟩,y⟩
def PkS.asb(h:PkS c s n k d b A f D l W)(a:Below W.heap.size W w):Calls Tryz.prog 11 #[.pointer (some ⟨b,0,none⟩)] w λr e=>(∃g i,r=.returned (.slice (some ⟨g,0,none⟩) (nC c) i)/\aqr c s.m g e)/\Below W.heap.size W e:=(h.below a).wds.mono λr e m=>⟨m.1,a.trans (m.2.mono a.size)⟩
def PkS.slB(h:PkS c s n k d b A f D l W)(R:fI (iM c))(a:Below W.heap.size W w){g e:Nat}(q:aqr c s.m g w):Calls Tryz.prog 12 #[.agg (dI c).toArray,.slice (some ⟨g,0,none⟩) (nC c) e] w λr i=>(∃m o u,r=.returned (.slice (some ⟨m,o,none⟩) c.S u)/\anY c s.m m o i)/\Below W.heap.size W i:=((h.below a).slots R q).mono λr i p=>⟨p.1,a.trans (p.2.mono a.size)⟩
def PkS.clB(h:PkS c s n k d b A f D l W)(a:Below W.heap.size W w):w.cell? ⟨d,0,none⟩=some (.int .i64 (c.W:Int))/\w.cell? ⟨d,1,none⟩=some (.int .i64 (c.S:Int))/\w.cell? ⟨d,2,none⟩=some (.int .i64 c.st)/\w.cell? ⟨d,3,none⟩=some (.int .i64 (c.wt:Int))/\w.cell? ⟨d,4,none⟩=some (.int .i64 c.u)/\Below W.heap.size W w:=by
 obtain⟨e,i,m,o,p⟩:=(h.below a).cells;exact⟨e,i,m,o,p,a⟩
def PkS.drop{o:Hd}{i v:Nat}{u:Int}(H:∀v,v<c.W->fZ c.W v)(h:PkS c s n k d b A f D l W)(F:c.W<=4)(S:c.S<=5)(G:n<=50000000)(z:k<=1900)(x:v<c.W)(B:(s.ws v).ph=.rest)(C:u=o.gen i):
  Calls Tryz.prog 18 #[.pointer (some ⟨b,0,none⟩),.agg #[.int .i64 0,.int .i64 (v:Int),.int .i64 2,.int .i64 0,.bool false,.bool false,.int .i64 (i:Int),.int .i64 u,.int .i64 0,.int .i64 0,.bool false]] W λr y=>r=.returned (.bool true)/\Pa c s v (ahi o i) n k d b A f D l y:=by
 obtain⟨e,I,L⟩:=h.live;obtain⟨p,E,_,R⟩:=acx (a:=ahi o i) h.BZ ⟨L.good.W.1,F⟩ ⟨L.good.S.1,S⟩ (by omega) z x B (by show 2<8;decide) (by show(0:Int)<=255;decide);have q:=L.MC H (by omega) (aj3 v (ahi o i)) (aqE x);rw[p]at q;rw[C];exact q.mono λr y m=>⟨m.1,⟨e+1,by omega,m.2.2⟩,E,R,h.lt,(m.2.1.block _ h.lt).trans h.conf,h.ord.kept m.2.1,h.qZ.trans m.2.1⟩
def Pa.settled{v cap:Nat}{a:Ask}(H:∀v,v<c.W->fZ c.W v)(h:Pa c s v a n k d b A f D l W)(u:c.W<=4)(S:c.S<=5)(B:n<=50000000)(m:f<=20):
  Calls Tryz.prog 19 #[.pointer (some ⟨b,0,none⟩),.agg (dI c).toArray,.slice A f cap] W λr o=>r=.returned (.bool true)/\∃i,Reach c (asked s v a) i/\Still c i/\PkS c i (n+400000) (k+13) d b A f D l o:=by
 obtain⟨e,C,q⟩:=h.live;refine(EB H u S (cap:=cap) m W h.all q (by omega) h.ord).mono λr o x=> ?_;obtain⟨rfl,K,i,y,_,p,R,_,L,z⟩:=x;exact⟨rfl,i,R,p,⟨y,by omega,L⟩,h.nx i R p,h.lt,(K.block _ h.lt).trans h.conf,h.ord.kept K,h.qZ.trans K⟩
def Pa.cells{v:Nat}{a:Ask}(h:Pa c s v a n k d b A f D l W):W.cell? ⟨d,0,none⟩=some (.int .i64 (c.W:Int))/\W.cell? ⟨d,1,none⟩=some (.int .i64 (c.S:Int))/\W.cell? ⟨d,2,none⟩=some (.int .i64 c.st)/\W.cell? ⟨d,3,none⟩=some (.int .i64 (c.wt:Int))/\W.cell? ⟨d,4,none⟩=some (.int .i64 c.u):=by
 refine⟨?_,?_,?_,?_,?_⟩<;>(rw[cell_of h.conf];rfl)
def PkS.served{a:Nat}(h:PkS c s n k d b A f D l W)(q:n<=50000000)(p:a<=s.ev.length)(E:∀k x,a<=k->k<s.ev.length->s.ev[s.ev.length-1-k]?=some x->x.ended=true->x.ask.op=0->x.ans.e=0\/x.ans.e=6):
  Calls Tryz.prog 20 #[.pointer (some ⟨b,0,none⟩),.int .i64 (a:Int)] W λr i=>(∃A m,r=.returned (.tuple #[.slice A (adk (sgE s.ev a s.ev.length)).length m,.int .i64 (gdE (sgE s.ev a s.ev.length):Int),.bool true])/\adD i A (adk (sgE s.ev a s.ev.length)) W.heap.size)/\Below W.heap.size W i/\PkS c s n k d b A f D l i:=by
 obtain⟨e,u,L⟩:=h.live;exact(aql W L (by omega) p E).mono λr i o=>⟨o.1,o.2,h.below o.2⟩
end
section
open Go.Region
variable{P:Program} {b:Array Oper} {Q:Exit->Act->World->Prop} {S:World->Prop} {o:Oper} {v:Value} {d:Nat} {e:Array Bool} {a:Act} {w:World}
def aqm{i:Nat}(h:(b.toList.drop i).head?=some o):b[i]?=some o:=by rw[<-h,List.head?_drop,Array.getElem?_toList]
def rgY(i:Nat)(y:∀w,(execOp a.eval o).run P w=.ok (.value v) w)(f:S w)(h:wpAnyH P .any b Q S d (e.setIfInBounds i true) (a.put o.dst v) w)(k:(b.toList.drop i).head?=some o:=by rfl)(s:Region.noSelect b=true:=by kernel_rfl)(l:Region.free .any b e i=true:=by kernel_rfl)(r:(Region.ready .any b e).contains i=true:=by kernel_rfl)(m:∀c a w,Q (.panic c) (a.put o.dst v) w->Q (.panic c) a w:=by exact λ_ _ _ h=>h)(n:Region.wanted o (yielded b a.tmps)=true:=by rfl):wpAnyH P .any b Q S (d+1) e a w:=wpAnyH_take (aqm k) s l r m (.inl ⟨n,λw _=>y w⟩) f h
def rgN(i:Nat)(f:S w)(h:wpAnyH P .any b Q S d (e.setIfInBounds i true) (a.put o.dst undef) w)(k:(b.toList.drop i).head?=some o:=by rfl)(s:Region.noSelect b=true:=by kernel_rfl)(l:Region.free .any b e i=true:=by kernel_rfl)(r:(Region.ready .any b e).contains i=true:=by kernel_rfl)(m:∀c a w,Q (.panic c) (a.put o.dst undef) w->Q (.panic c) a w:=by exact λ_ _ _ h=>h)(n:Region.wanted o (yielded b a.tmps)=false:=by rfl):wpAnyH P .any b Q S (d+1) e a w:=wpAnyH_take (aqm k) s l r m (.inr ⟨n,rfl⟩) f h
def rgC(i:Nat)(h:∀K,Shut (∀a w,S w->(S w->wpAnyH P .any b Q S d (e.setIfInBounds i true) a w)->K a w)->Oper.wp P o a w K Q)(c:(b.toList.drop i).head?=some o:=by rfl)(r:Region.ready .any b e=[i]:=by kernel_rfl)(f:Region.wanted o (yielded b a.tmps)=true:=by rfl):wpAnyH P .any b Q S (d+1) e a w:=
 wpAnyH_ready r (by simp) (AllReadyH.cons (aqm c) (λK k=>by rw[tz f];exact h K k) AllReadyH.nil)
end
def asq{n o:List Ev}{x:Ev}:sgE (n++x::o) o.length (n++x::o).length=n++[x]:=by
 unfold sgE;rw[ud,List.drop_zero,show n++x::o=(n++[x])++o by simp];exact List.take_left' (by simp;omega)
def asi{n:List Ev}{x:Ev}(h:∀y,y∈n->y.ended=true)(a:x.ended=false):srE (n++[x])=agi n:=by
 unfold srE agi;rw[List.filter_append,List.filter_cons,ck (by simp[a]),List.filter_nil,List.append_nil];exact List.filter_congr λy b=>by simp[h y b]
def ar7{c:Cn}{s b:Ms}{w q:Nat}{a:Ask}{n:List Ev}(F:FrL c w s (asked s w a) b n q):
  s.ev.length<=b.ev.length/\(∀k x,s.ev.length<=k->k<b.ev.length->b.ev[b.ev.length-1-k]?=some x->x.ended=true->x.ask.op=0->x.ans.e=0\/x.ans.e=6)/\(adk (sgE b.ev s.ev.length b.ev.length)).length=q/\(∀v,v∈s.m.qu.take q->v∈adk (sgE b.ev s.ev.length b.ev.length))/\gdE (sgE b.ev s.ev.length b.ev.length)=gdL n:=by
 have e:b.ev=n++(⟨false,w,a,bR.zero⟩::s.ev):=F.ev;have d:srE (sgE b.ev s.ev.length b.ev.length)=agi n:=by
  rw[e,asq];exact asi (λy f=>(F.y y f).1) rfl
 refine⟨by rw[e,cE,ct];omega,λk x p i h l _=> ?_,?_,λv m=> ?_,?_⟩
 .by_cases o:s.ev.length+1<=k
  .exact(F.y x (apB e (by rw[ct];exact o) i h)).2
  .obtain rfl:k=s.ev.length:=by omega
   rw[e]at h;have:(n++(⟨false,w,a,bR.zero⟩::s.ev)).length-1-s.ev.length=n.length:=by simp
   rw[this,cx (aq _),ud]at h;cases h;cases l
 .unfold adk
  rw[d,iz,List.length_reverse,F.len]
 .unfold adk
  rw[d,List.map_reverse,List.mem_reverse];exact(F.mem v).2 m
 .unfold gdE gdL
  rw[d];unfold agi;rw[List.filter_filter];congr 1;exact List.filter_congr λy _=>by simp[okE,and_comm]
set_option maxRecDepth 4000 in
set_option maxHeartbeats 8000000 in
def aqG{a1 a2 a3 a4 a5:Int}(h1:U8 a1)(h2:U8 a2)(h3:U8 a3)(h4:U8 a4)(h5:U8 a5)(HW:∀W v,1<=W->W<=4->v<W->fZ W v){A A':Option Addr}{n Q n' am:Nat}(w:World)(hT:TT w)(hA:Dq w A n)(hO:oP (· <w.heap.size) w A' n'):
  Calls Tryz.prog 4 #[.agg #[.int .u8 a1,.int .u8 a2,.int .u8 a3,.int .u8 a4,.int .u8 a5],.slice A n Q,.slice A' n' am] w λr y=>r=.returned (.bool true)/\Below w.heap.size w y:=by
 obtain⟨hR,uF,ao⟩:=Df h1 h2 h3 h4 h5;obtain⟨c,hc⟩:∃c,c=Jy a1 a2 a3 a4 a5:=⟨_,rfl⟩;rw[<-hc]at hR uF ao;have l2:=hT.lt 2 (.inr rfl);have ie:∀o,Below w.heap.size w (w.alloc o):=λo=>(Below.refl _ w).alloc (aq _) o;have nB:∀o,Calls Tryz.prog 7 #[] (w.alloc o) λr y=>r=.returned (.bool true)/\Below (w.heap.size+1) (w.alloc o) y:=λo=>by
  have q:=ZO (λv hv=>HW 2 v (by decide) (by decide) hv) (w.alloc o) (nG hT (ie o) l2);rw[show(w.alloc o).heap.size=w.heap.size+1 by simp]at q;exact q
 have od:∀W,Calls Tryz.prog 8 #[.slice A n Q,.slice A' n' am] W λr y=>aid n n' r/\Below W.heap.size W y:=λW=>afz W;have HA:=Lib.hid (And.intro hA (And.intro hO hT));have HC:=Lib.hid (And.intro hc (And.intro hR ie));have HU:=Lib.hid (And.intro h1 (And.intro h2 (And.intro h3 (And.intro h4 h5))));clear hA hO hc hT ie hR h1 h2 h3 h4 h5;go_enter Tryz.func4,Tryz.ntmps4
 go_upto_region 3 with(first
  |(go_at_call 7;refine(nB _).mono ?_;rintro r w1 ⟨rfl,ii⟩)
  |(go_at_call 8;refine(od _).mono ?_;rintro r X ⟨⟨x,rfl,hx⟩,im⟩))
 have dt:w1.heap[w.heap.size]?=some (.cells #[.int .u8 a1,.int .u8 a2,.int .u8 a3,.int .u8 a4,.int .u8 a5] 23 (0,0)):=by
  rw[ii.block _ (sC _)];simp[qU,cQ]
 have ar:=(im.block _ (gQ dt)).trans dt;have oe:Below w.heap.size w X:=((HC.out.2.2 _).trans (ii.mono (Nat.le_succ _))).trans (im.mono (gl (gQ dt)));have R:=Lib.hid oe;have g0:X.cell? ⟨w.heap.size,0,none⟩=some (.int .u8 a1):=by rw[cell_of ar];rfl
 have g1:X.cell? ⟨w.heap.size,1,none⟩=some (.int .u8 a2):=by rw[cell_of ar];rfl
 have g2:X.cell? ⟨w.heap.size,2,none⟩=some (.int .u8 a3):=by rw[cell_of ar];rfl
 have g3:X.cell? ⟨w.heap.size,3,none⟩=some (.int .u8 a4):=by rw[cell_of ar];rfl
 have g4:X.cell? ⟨w.heap.size,4,none⟩=some (.int .u8 a5):=by rw[cell_of ar];rfl
 clear ii im dt ar nB od oe;cases x with
 |false=>
  go_wp2;refine cC (v:=.bool true) (by simp[results,Tryz.f4,go_sem]) rfl ?_;exact⟨rfl,R.out⟩
 |true=>
  obtain⟨hn,oi⟩:=hx rfl;have rQ:TT X:=nG HA.out.2.2 R.out l2;have io:1<=c.W:=by
   have:=HC.out.2.1.w;unfold iM at this;simp only at this;omega
  have oj:1<=c.S:=by
   have:=HC.out.2.1.s;unfold iM at this;simp only at this;omega
  have ip:oP (· <X.heap.size) X A' n':=(HA.out.2.1.of_below (λj N=>N) R.out).mono λj N=>ba N R.out.size;have iu:=λv hv=>HW c.W v io uF hv;have ce:=aaV HU.out.1 HU.out.2.1 HU.out.2.2.1 HU.out.2.2.2.1 HU.out.2.2.2.2 HC.out.1 iu (cap:=Q) (cap':=am) hn oi X rQ (HA.out.1.below' R.out) ip;have wb:=Lib.hid ip;have ol:=Lib.hid iu;clear hx ip iu;go_upto_region 6 with(go_at_call 9;refine ce.mono ?_;rintro r z ⟨b,rfl,dv,we⟩)
  clear g0 g1 g2 g3 g4 ce;obtain⟨s,e,Qc,j2,jp,hL,he,Z⟩:=we;refine jY λW3 bi=> ?_;have wM:W3.heap[z.heap.size]?=some (.cells (dI c).toArray 30 (0,0)):=by rw[bi];simp[qU,cQ]
  have dT:Below X.heap.size X W3:=by
   rw[bi];exact dv.trans ((Below.refl _ z).alloc dv.size _)
  have kc:Below w.heap.size w W3:=R.out.trans (dT.mono R.out.size);have hP:PkS c s 400000 300 z.heap.size b A' n' (more (· <X.heap.size) z W3) W3 W3:=by
   refine⟨⟨e,by omega,?_⟩,⟨Qc,j2,jp,Z⟩,.inr ⟨aq _,by rw[bi];simp⟩,wM,?_,Kept.refl _ _⟩
   .rw[bi];exact Live.below hL ((Below.refl _ z).alloc (aq _) _)
   .exact(wb.out.of_below (λj N=>N) dT).mono λj N=>.inl N
  obtain⟨D,eh⟩:∃D,D=more (· <X.heap.size) z W3:=⟨_,rfl⟩;have kh:∀j,j<X.heap.size->D j:=λj N=>by rw[eh];exact .inl N
  rw[<-eh]at hP
  have kl:∀W,Kept D W3 W->Below w.heap.size w W:=λW hk=>by
   have h2:=R.out.size;exact kc.trans (hk.mono λj N=>kh j (ba N h2)).below
  have HE:=Lib.hid kl;have co:=hP.closed;have ov:=Lib.hid (And.intro io oj);by_cases hz:s.m.cl=0
  case neg=>
   generalize s.m.cl=wj at co hz;have zd:(wj==0)=false:=na hz;clear bi dv dT hL rQ Qc j2 jp Z wM kc eh kh kl;go_wp2_with (go_at_call 13;refine co.mono ?_;rintro r w4 ⟨rfl,ox,G⟩;have u:=HE.out _ G.qZ)
   refine cC (v:=.bool true) (by simp[results,Tryz.f4,go_sem]) rfl ?_;exact⟨rfl,u⟩
  case pos=>
  rw[hz]at co;have HZ:=Lib.hid hz;clear bi dv dT hL rQ Qc j2 jp Z wM kc eh kh kl hz hP;go_upto_region 12 with(go_at_call 13;refine co.mono ?_;rintro r w4 ⟨rfl,ox,G⟩)
  obtain⟨h0,km⟩:=G.told;have pa:n3 c s.m+s.m.qu.length+0<=c.S+c.W:=by
   have h1:=aqI G.BZ G.BZ.wg.1.2.safe (by rw[HZ.out];decide) km;have h2:=aqB (c:=c) (h:=h0);unfold akP at h2;have h3:=Ib c.W s.m.qu G.BZ.all.nd G.BZ.all.inv.m.2;omega
  have H4:=Lib.hid (And.intro G (And.intro km pa));clear co ox G km pa io oj;go_loopw [11,12] (λwn kw wr=>∃(i:Nat) (f:Ms) (d1:Hd),i<=c.S+c.W/\wn=.int .i64 (i:Int)/\kw=.int .i64 (i:Int)/\f.m.cl=0/\eU c f.ev=some d1/\n3 c f.m+f.m.qu.length+i<=c.S+c.W/\(0<i->al2 c f)/\PkS c f (400000+400000*(i:Int)) (300+13*i) z.heap.size b A' n' D W3 wr) (λ_ kw _=>c.S+c.W+1-(intOf kw).toNat)
  case atStart=>exact⟨0,s,h0,tE _,rfl,rfl,HZ.out,H4.out.2.1,H4.out.2.2,λh=>tA h (m8 0),H4.out.1⟩
  case round=>
   obtain⟨i,f,d1,hi,rfl,rfl,pc,la,hM,pi,hP⟩:=hrel;obtain⟨c0,c1,c2,c3,c4⟩:=hP.cells;have zj:(c.W:Int)<=4:=by omega
   have wq:(c.S:Int)<=5:=by omega
   have wv:(i:Int)<=(c.S:Int)+(c.W:Int):=by omega
   have ww:i<=9:=by omega
   have pm:Calls Tryz.prog 14 #[.pointer (some ⟨b,0,none⟩),.agg (dI c).toArray] wr λr y=>∃(kk:Int) (a:Ask),r=.returned (.tuple #[.int .i64 kk,.agg (vg a).toArray])/\((kk= -1/\∀i v,i<c.S->d1.who i=v+1->(f.ws v).ph≠.rest)\/∃j v:Nat,j<c.S/\v<c.W/\d1.who j=v+1/\(f.ws v).ph=.rest/\kk=v/\a=ahi d1 j)/\Below wr.heap.size wr y/\PkS c f (400000+400000*(i:Int)) (300+13*i) z.heap.size b A' n' D W3 y:=
    (hP.holder uF ao (by omega) la).mono λr y hh=>by
     obtain⟨⟨i,v,hi,hv,hw,hr,rfl⟩|⟨rfl,fh⟩,hb,hp⟩:=hh
     .exact⟨_,_,rfl,.inr ⟨i,v,hi,hv,hw,hr,rfl,rfl⟩,hb,hp⟩
     .exact⟨_,_,rfl,.inl ⟨rfl,fh⟩,hb,hp⟩
   have H1:=Lib.hid (And.intro pc (And.intro la (And.intro hM pi)));clear pc la hM pi hP
   go_upto_region 15 with(first
    |(go_at_call 14;refine pm.mono ?_;rintro r U ⟨kk,ak,rfl,lc,wx,po⟩)
    |(refine wpList_store_mid rfl _ _ _ rfl U.heap.size 0 (vg ak).toArray rfl rfl (anp U ak) (apf ak) (aqC ak) ?_;generalize pt:World.setCells _ _ _ _=W9))
   obtain⟨li,I⟩:=aqD pt.symm;have P:=po.below li;obtain⟨L,hL⟩:∃L,L=f.m.qu.length:=⟨_,rfl⟩;have wA:(L:Int)<=4:=by
    have:=Ib c.W f.m.qu P.BZ.all.nd P.BZ.all.inv.m.2;omega
   have d5:∀W,PkS c f (400000+400000*(i:Int)) (300+13*i) z.heap.size b A' n' D W3 W->Calls Tryz.prog 15 #[.pointer (some ⟨b,0,none⟩)] W λr y=>(∃A Q,r=.returned (.slice A L Q)/\adD y A f.m.qu W.heap.size/\L<=Q)/\Below W.heap.size W y/\PkS c f (400000+400000*(i:Int)) (300+13*i) z.heap.size b A' n' D W3 y:=λW h=>by rw[hL];exact h.ln
   clear pt wx po pm;rcases lc with⟨rfl,fh⟩|⟨j,v,N,hv,lm,pu,rfl,rfl⟩
   .have HN:=Lib.hid fh
    clear fh I li;by_cases xb:i=0
    .subst xb
     have u:=HE.out _ P.qZ;clear c0 c1 c2 c3 c4;go_wp2;refine cC (v:=.bool true) (by simp[results,Tryz.f4,go_sem]) rfl ?_;exact⟨rfl,u⟩
    .have xd:¬(i:Int)=0:=by omega
     have zp:((i:Int)==0)=false:=na xd;by_cases pA:L=0
     .subst pA
      clear hL wA c0 c1 c2 c3 c4;go_upto_region 36 with(go_at_call 15;refine(d5 _ P).mono ?_;rintro r bm ⟨⟨A9,xf,rfl,_⟩,d6,d⟩)
      have u:=HE.out _ d.qZ;go_wp2;refine cC (v:=.bool true) (by simp[results,Tryz.f4,go_sem]) rfl ?_;exact⟨rfl,u⟩
     .have xj:¬(L:Int)=0:=by omega
      have zv:((L:Int)==0)=false:=na xj;have pC:∀i,i<c.S->(f.m.sl i).st=3/\∃v:Nat,(f.m.sl i).own=(v:Int)/\v∈f.m.qu:=aqZ P.BZ P.BZ.wg.1.2.safe H1.out.2.1 (H1.out.2.2.2 (by omega)) (λk=>pA (by rw[hL,k];rfl)) HN.out;have xl:=Lib.hid pC;have HL:=Lib.hid hL;clear pC hL c0 c1 c2 c3 c4;go_upto_region 37 with(go_at_call 15;refine(d5 _ P).mono ?_;rintro r bm ⟨⟨A9,xf,rfl,_⟩,d6,d⟩)
      clear d6 P
      go_region_held3 (fun W=>W.cell? ⟨z.heap.size,0,none⟩=some (.int .i64 (c.W:Int))/\W.cell? ⟨z.heap.size,1,none⟩=some (.int .i64 (c.S:Int))/\W.cell? ⟨z.heap.size,2,none⟩=some (.int .i64 c.st)/\W.cell? ⟨z.heap.size,3,none⟩=some (.int .i64 (c.wt:Int))/\W.cell? ⟨z.heap.size,4,none⟩=some (.int .i64 c.u)/\Below bm.heap.size bm W)
       (first|exact d.clB (Below.refl _ _).drew|exact d.clB (Below.refl _ _)|exact d.clB V|exact d.clB Y)
       (first
        |(go_at_call 11;refine(d.asb (Below.refl _ _).drew).mono ?_;rintro r M0 ⟨⟨xp,xr,rfl,d7⟩,Y⟩)
        |(go_at_call 12;refine(d.slB HC.out.2.1 Y d7).mono ?_;rintro r lw ⟨⟨gs,o,cp,rfl,d8⟩,V⟩))
      have pD:=d.below V;clear Y V d7 d;have pH:=Lib.hid (And.intro d8 pD);clear d8 pD;obtain⟨S,lx⟩:∃S,S=c.S:=⟨_,rfl⟩;rw[<-lx]at wq ⊢;have HS:=Lib.hid lx;clear lx wv ww;go_wp2
      go_loopw [26] (λly wi=>∃j:Nat,j<=S/\ly=.int .i64 (j:Int)/\Below lw.heap.size lw wi) (λly _=>S-(intOf ly).toNat)
      case atStart=>exact⟨0,tE _,rfl,Below.refl _ _⟩
      case round=>
       obtain⟨j,N,rfl,bv⟩:=hrel;refine jY λWj qe=> ?_;rw[<-qe]at bv;clear qe;have lB:=pH.out.2.below bv;by_cases C:j<S
       .have zE:(j:Int)<(S:Int):=mw.2 C
        have fi:=pH.out.1.below bv;obtain⟨h3,v,hv,rb⟩:=xl.out j (by rw[<-HS.out];exact C);have q0:Wj.cell? ⟨gs,o+j*9,none⟩=some (.int .i64 3):=by have:=fi.2 j 0 _ (by rw[<-HS.out];exact C) rfl;rw[h3]at this;exact this
        have q1:Wj.cell? ⟨gs,o+j*9+1,none⟩=some (.int .i64 (v:Int)):=by have:=fi.2 j 1 _ (by rw[<-HS.out];exact C) rfl;rw[hv]at this;exact this
        have rc:=fi.1;have qc:∀W,Below Wj.heap.size Wj W->W.cell? ⟨gs,o+j*9+1,none⟩=some (.int .i64 (v:Int))/\Below Wj.heap.size Wj W:=λW hW=>⟨(hW.cell (p:=⟨gs,_,none⟩) rc).trans q1,hW⟩;have HQ:=Lib.hid (And.intro q0 (And.intro rb bv));clear bv fi h3 hv rb q0;go_wp2_with fail
        go_region_held3 (fun W=>W.cell? ⟨gs,o+j*9+1,none⟩=some (.int .i64 (v:Int))/\Below Wj.heap.size Wj W)
         (first|exact qc _ (Below.refl _ _).drew|exact qc _ (Below.refl _ _)|exact qc _ V|exact qc _ Y)
         (first
          |(go_at_call 15;refine(d5 _ (lB.below (Below.refl _ _).drew)).mono ?_;rintro r rg ⟨⟨A3,A4,rfl,rh,_⟩,s9,_⟩;have Y:Below Wj.heap.size Wj rg:=(Below.refl _ _).drew.trans s9)
          |(go_at_call 21;refine(aoz _ rh (by rw[<-HL.out];omega) HL.out.symm ⟨v,HQ.out.2.1,rfl⟩).mono ?_;rintro r md ⟨rfl,sa⟩;have V:=Y.trans (sa.mono Y.size)))
        have q0:=(V.cell (p:=⟨gs,_,none⟩) rc).trans HQ.out.1;have d9:=HQ.out.2.2.trans (V.mono HQ.out.2.2.size);clear qc q1 Y s9 sa rh;go_wp2;go_roundw
        case rel=>exact⟨j+1,C,by go_num,d9⟩
        case measure=>simp[intOf];omega
       .have xv:j=S:=by omega
        subst xv;obtain⟨c0,c1,c2,c3,c4⟩:=lB.cells;rw[<-HS.out]at c1;have u:=HE.out _ lB.qZ;clear bv;go_wp2;refine cC (v:=.bool true) (by simp[results,Tryz.f4,go_sem]) rfl ?_;exact⟨rfl,u⟩
   .have xF:1<=n3 c f.m:=by
     have h1:=aqI P.BZ P.BZ.wg.1.2.safe (by rw[H1.out.1];decide) H1.out.2.1;have h2:=apd (c:=c) (h:=d1) N (by rw[lm];omega);unfold akP at h2;omega
    have xT:¬(i:Int)=(c.S:Int)+(c.W:Int):=by have:=H1.out.2.2.1;omega
    have A5:((i:Int)==(c.S:Int)+(c.W:Int))=false:=na xT;have A6:¬(v:Int)<0:=by omega
    obtain⟨gn,mp⟩:∃gn,gn=d1.gen j:=⟨_,rfl⟩;have b0:W9.cell? ⟨U.heap.size,0,none⟩=some (.int .i64 2):=by have:=I 0 _ rfl;rw[cg]at this;exact this
    have b1:W9.cell? ⟨U.heap.size,1,none⟩=some (.int .i64 0):=by have:=I 1 _ rfl;rw[cg]at this;exact this
    have b2:W9.cell? ⟨U.heap.size,2,none⟩=some (.bool false):=by have:=I 2 _ rfl;rw[cg]at this;exact this
    have b3:W9.cell? ⟨U.heap.size,3,none⟩=some (.bool false):=by have:=I 3 _ rfl;rw[cg]at this;exact this
    have b4:W9.cell? ⟨U.heap.size,4,none⟩=some (.int .i64 (j:Int)):=by have:=I 4 _ rfl;rw[cg]at this;exact this
    have b5:W9.cell? ⟨U.heap.size,5,none⟩=some (.int .i64 gn):=by have:=I 5 _ rfl;rw[cg]at this;rw[mp];exact this
    have b6:W9.cell? ⟨U.heap.size,6,none⟩=some (.int .i64 0):=by have:=I 6 _ rfl;rw[cg]at this;exact this
    have T:=Ei b0;obtain⟨br,ms⟩:∃br,br=al4 c f.m:=⟨_,rfl⟩;have Ai:(br:Int)<=5:=by have:=asa (c:=c) (m:=f.m);omega
    have sc:∀W gs o cp,anY c f.m gs o W->Calls Tryz.prog 16 #[.slice (some ⟨gs,o,none⟩) c.S cp] W λr y=>r=.returned (.int .i64 (br:Int))/\Below W.heap.size W y:=λW gs o cp h=>by rw[ms];exact aq1 ao W h.2
    have H9:=Lib.hid (And.intro N (And.intro hv (And.intro lm (And.intro pu (And.intro mp (And.intro ms hL))))));clear I li xF N hv lm pu mp ms hL c0 c1 c2 c3 c4;obtain⟨c0,c1,c2,c3,c4⟩:=P.cells;go_upto_region 19 with(go_at_call 15;refine(d5 _ P).mono ?_;rintro r bm ⟨⟨AL,sd,rfl,ca,i6⟩,d6,d⟩)
    have dd:=Lib.hid (And.intro ca (And.intro d6 i6));clear ca d6 i6 c0 c1 c2 c3 c4
    go_region_held3 (fun W=>W.cell? ⟨z.heap.size,0,none⟩=some (.int .i64 (c.W:Int))/\W.cell? ⟨z.heap.size,1,none⟩=some (.int .i64 (c.S:Int))/\W.cell? ⟨z.heap.size,2,none⟩=some (.int .i64 c.st)/\W.cell? ⟨z.heap.size,3,none⟩=some (.int .i64 (c.wt:Int))/\W.cell? ⟨z.heap.size,4,none⟩=some (.int .i64 c.u)/\Below bm.heap.size bm W)
     (first|exact d.clB (Below.refl _ _).drew|exact d.clB (Below.refl _ _)|exact d.clB fl|exact d.clB V|exact d.clB Y)
     (first
      |(go_at_call 11;refine(d.asb (Below.refl _ _).drew).mono ?_;rintro r M0 ⟨⟨xp,xr,rfl,d7⟩,Y⟩)
      |(go_at_call 12;refine(d.slB HC.out.2.1 Y d7).mono ?_;rintro r lw ⟨⟨gs,o,cp,rfl,d8⟩,V⟩)
      |(go_at_call 16;refine(sc _ _ _ _ d8).mono ?_;rintro r rg ⟨rfl,se⟩;have fl:=V.trans (se.mono V.size)))
    generalize fv:IntKind.wrap _ _=fr;have fv:fr=1+(br:Int):=by rw[<-fv,sY];omega
    have sg:=Lib.hid fv;clear fv;obtain⟨nl,mt⟩:∃nl,nl=f.ev.length:=⟨_,rfl⟩;have sr:=d.below fl;have Z:=sr.evn (by omega);have An:(nl:Int)<=500:=by have:=d.BZ.ev;omega
    rw[<-mt]at Z;have de:=Lib.hid (And.intro fl mt);clear Y V se fl d7 d8 d sr sc mt d5;go_upto_region 21 with(go_at_call 17;refine Z.mono ?_;rintro r md ⟨⟨AE,As,rfl⟩,d9,sT⟩)
    have J:Below W9.heap.size W9 md:=(dd.out.2.1.trans (de.out.1.mono dd.out.2.1.size)).trans (d9.mono (eM dd.out.2.1.size de.out.1.size));have t9:adD md AL f.m.qu W9.heap.size:=dd.out.1.below (de.out.1.trans (d9.mono de.out.1.size));have b0:=(J.cell (p:=⟨U.heap.size,0,none⟩) T).trans b0;have b1:=(J.cell (p:=⟨U.heap.size,1,none⟩) T).trans b1;have b2:=(J.cell (p:=⟨U.heap.size,2,none⟩) T).trans b2;have b3:=(J.cell (p:=⟨U.heap.size,3,none⟩) T).trans b3;have b4:=(J.cell (p:=⟨U.heap.size,4,none⟩) T).trans b4;have b5:=(J.cell (p:=⟨U.heap.size,5,none⟩) T).trans b5;have b6:=(J.cell (p:=⟨U.heap.size,6,none⟩) T).trans b6;have tp:=P.more J;have ul:=tp.drop ol.out uF ao (by omega) (by omega) H9.out.2.1 H9.out.2.2.2.1 H9.out.2.2.2.2.1;have gt:=Lib.hid (And.intro t9 (And.intro sT P.BZ));clear Z d9 J t9 sT tp P T;go_upto_region 22 with(go_at_call 18;refine ul.mono ?_;rintro r At ⟨rfl,mv⟩)
    obtain⟨c0,c1,c2,c3,c4⟩:=mv.cells;have i7:=mv.settled (cap:=am) ol.out uF ao (by omega) oi;clear ul mv b0 b1 b2 b3 b4 b5 b6;go_upto_region 23 with(go_at_call 19;refine i7.mono ?_;rintro r yb ⟨rfl,s2,up,ut,mx⟩)
    obtain⟨Ax,E,F,_⟩:=aqp (a:=ahi d1 j) ⟨ov.out.1,uF⟩ ⟨ov.out.2,ao⟩ (by omega) (by omega) H9.out.2.1 gt.out.2.2 H1.out.1 H9.out.2.2.2.1 H9.out.1 H1.out.2.1 gt.out.2.2.wg.1.2.safe H9.out.2.2.1 rfl up ut;have uv:=mx.less (λj N=>.inl N) gt.out.2.1;have vd:adD yb AL f.m.qu W9.heap.size:=gt.out.1.kept mx.qZ λj h1 h2=>.inr ⟨h1,h2⟩;obtain⟨v1,v2,v3,v4,v5⟩:=ar7 F;have gv:=uv.served (by omega) v1 v2;obtain⟨wl,vi⟩:∃wl,wl=adk (sgE s2.ev f.ev.length s2.ev.length):=⟨_,rfl⟩;obtain⟨gi,dp⟩:∃gi:Int,gi=(gdE (sgE s2.ev f.ev.length s2.ev.length):Int):=⟨_,rfl⟩;rw[<-vi]at gv v3 v4;rw[<-dp,v3, <-de.out.2]at gv;rw[v5]at dp;have vj:s2.m.qu.length=L-E:=by rw[F.qu,List.length_drop,H9.out.2.2.2.2.2.2]
    have AC:E<=L:=by rw[H9.out.2.2.2.2.2.2];exact F.le
    have AD:gi<=fr:=by have:=F.good.1;rw[sg.out,H9.out.2.2.2.2.2.1,dp];omega
    have AF:0<=gi:=by omega
    have vl:E<L->gi=fr:=λh=>by have:=F.good.2.1 (by rw[<-H9.out.2.2.2.2.2.2];exact h);rw[sg.out,H9.out.2.2.2.2.2.1,dp];omega
    have vm:n3 c s2.m+s2.m.qu.length+(i+1)<=c.S+c.W:=by
     have h1:=F.n;have h2:=F.good.2.2;have h3:=H1.out.2.2.1;have h4:=H9.out.2.2.2.2.2.2;omega
    have l:=Lib.hid (And.intro vd (And.intro vj (And.intro v4 (And.intro v3 (And.intro vl (And.intro F vm))))));clear up ut mx vd vj v1 v2 v3 v4 v5 vi dp vl F vm uv i7 c0 c1 c2 c3 c4;go_upto_region 24 with(go_at_call 20;refine gv.mono ?_;rintro r vn ⟨⟨AW,yd,rfl,cb⟩,vp,vq⟩)
    have vr:=l.out.1.below vp;have nm:=Lib.hid (And.intro vr (And.intro cb vq));clear gv vr cb vp vq;have yi:¬(L:Int)<(E:Int):=by omega
    have AG:decide ((L:Int)<(E:Int))=false:=cT yi;have yk:¬fr<gi:=by omega
    have AH:decide (fr<gi)=false:=cT yk;go_wp2
    go_loopw [23] (λnp wk=>∃k:Nat,k<=E/\np=.int .i64 (k:Int)/\Below vn.heap.size vn wk) (λnp _=>E-(intOf np).toNat)
    case atStart=>exact⟨0,tE _,rfl,Below.refl _ _⟩
    case round=>
     obtain⟨k,hk,rfl,ac⟩:=hrel;refine jY λO vt=> ?_;rw[<-vt]at ac;clear vt;have ca:=nm.out.1.below ac;have cb:=nm.out.2.1.below ac;by_cases C:k<E
     .have AI:(k:Int)<(E:Int):=mw.2 C
      have AK:(k:Int)<(L:Int):=by omega
      have vu:k<f.m.qu.length:=by rw[<-H9.out.2.2.2.2.2.2];omega
      obtain⟨x,hx⟩:∃x:Nat,f.m.qu[k]?=some x:=⟨_,tD vu⟩;obtain⟨gL,yp,_,_,cL⟩:=ca.at_ k x hx;subst yp;have vx:x∈wl:=l.out.2.2.1 x (du (i:=k) (by rw[fy C];exact hx));have i8:=aoz (cap:=yd) (x:=(x:Int)) O cb (by rw[l.out.2.2.2.1];omega) l.out.2.2.2.1 ⟨x,vx,rfl⟩;have HK:=Lib.hid ac;generalize (x:Int)=xi at cL i8;clear ca cb hx vx ac vu;go_wp2_with (go_at_call 21;refine i8.mono ?_;rintro r AM ⟨rfl,yq⟩)
      go_roundw
      case rel=>exact⟨k+1,C,by go_num,HK.out.trans (yq.mono HK.out.size)⟩
      case measure=>simp[intOf];omega
     .have AN:¬(k:Int)<(E:Int):=by omega
      have i4:=nm.out.2.2.below ac;obtain⟨d2,rQ⟩:=i4.told;have yr:∀W,Below O.heap.size O W->Calls Tryz.prog 15 #[.pointer (some ⟨b,0,none⟩)] W λr y=>(∃A Q,r=.returned (.slice A (L-E) Q)/\adD y A s2.m.qu W.heap.size)/\Below O.heap.size O y:=λW hW=>((i4.below hW).ln).mono λr y hh=>by
       obtain⟨⟨A,cp,rfl,h1,_⟩,hb,_⟩:=hh;exact⟨⟨A,cp,by rw[l.out.2.1],h1⟩,hW.trans (hb.mono hW.size)⟩
      have yv:∀W A2 i9 i5 vy B,Below O.heap.size O W->adD W A2 s2.m.qu B->(∀g,AL=some ⟨g,0,none⟩->E<sd->i5=some ⟨g,E,none⟩)->Calls Tryz.prog 22 #[.slice A2 (L-E) i9,.slice i5 (L-E) vy] W λr y=>r=.returned (.bool true)/\Below O.heap.size O y:=λW A2 i9 i5 vy B hW h2 hA=>(aqV W h2 (by rw[l.out.2.1];omega) l.out.2.1 λq a hq=>by
       rw[l.out.2.2.2.2.2.1.qu,fj]at hq;obtain⟨g,e,_,hg,hc⟩:=(ca.below hW).at_ (E+q) a hq;have C:E+q<f.m.qu.length:=(aE.1 hq).1;exact⟨g,hA g e (by have:=dd.out.2.2;have:=H9.out.2.2.2.2.2.2;omega),hg,hc⟩).mono λr y hh=>⟨hh.1,hW.trans (hh.2.mono hW.size)⟩
      have yy:∀W,Below O.heap.size O W->∃(i':Nat) (s':Ms) (d':Hd),i'<=c.S+c.W/\Value.int .i64 ((i:Int)+1)=.int .i64 (i':Int)/\Value.int .i64 ((i:Int)+1)=.int .i64 (i':Int)/\s'.m.cl=0/\eU c s'.ev=some d'/\n3 c s'.m+s'.m.qu.length+i'<=c.S+c.W/\(0<i'->al2 c s')/\PkS c s' (400000+400000*(i':Int)) (300+13*i') z.heap.size b A' n' D W3 W:=λW hW=>⟨i+1,s2,d2,by have:=l.out.2.2.2.2.2.2;omega,by go_num,by go_num,l.out.2.2.2.2.2.1.cl,rQ,l.out.2.2.2.2.2.2,λ_=>l.out.2.2.2.2.2.1.nb,(i4.below hW).weaken (by omega) (by omega)⟩;have qc:∀W,Below O.heap.size O W->Below O.heap.size O W/\O.heap.size<=W.heap.size:=λW h=>⟨h,h.size⟩;clear cb ac i4 rQ;have lc:(decide (E<L)=true/\gi=fr)\/(decide (E<L)=false/\True):=by
       by_cases nt:E<L
       .exact .inl ⟨cN nt,l.out.2.2.2.2.1 nt⟩
       .exact .inr ⟨cT nt,trivial⟩
      rcases lc with⟨yW,rfl⟩|⟨yW,_⟩
      all_goals
       go_wp2_with fail
       refine wp_region_held_drew (S:=λW=>Below O.heap.size O W) (by kernel_rfl) (Below.refl _ _).drew λH=> ?_;refine rgY (v:= ?_) 0 ?_ H ?_;rotate_left
       .intro w;go_simp;all_goals with_reducible rfl
       simp only[Act.put,List.setIfInBounds_toArray,List.set_cons_zero,List.set_cons_succ];refine rgY (v:= ?_) 1 ?_ H ?_;rotate_left
       .intro w;go_simp;all_goals with_reducible rfl
       simp only[Act.put,List.setIfInBounds_toArray,List.set_cons_zero,List.set_cons_succ];refine rgY (v:= ?_) 2 ?_ H ?_;rotate_left
       .intro w;go_simp;all_goals with_reducible rfl
       simp only[Act.put,List.setIfInBounds_toArray,List.set_cons_zero,List.set_cons_succ];refine rgY (v:= ?_) 3 ?_ H ?_;rotate_left
       .intro w;go_simp;all_goals with_reducible rfl
       simp only[Act.put,List.setIfInBounds_toArray,List.set_cons_zero,List.set_cons_succ];refine rgY (v:= ?_) 4 ?_ H ?_;rotate_left
       .intro w;go_simp;all_goals with_reducible rfl
       simp only[Act.put,List.setIfInBounds_toArray,List.set_cons_zero,List.set_cons_succ];refine rgY (v:= ?_) 5 ?_ H ?_;rotate_left
       .intro w;go_simp;all_goals with_reducible rfl
       simp only[Act.put,List.setIfInBounds_toArray,List.set_cons_zero,List.set_cons_succ]
       first
        |refine rgN 6 H ?_
        |(refine rgY (v:= ?_) 6 ?_ H ?_
          rotate_left
          .intro w;go_simp;all_goals with_reducible rfl)
        |fail
       simp only[Act.put,List.setIfInBounds_toArray,List.set_cons_zero,List.set_cons_succ]
       first
        |refine rgN 7 H ?_
        |(refine rgY (v:= ?_) 7 ?_ H ?_
          rotate_left
          .intro w;go_simp;all_goals with_reducible rfl)
        |fail
       simp only[Act.put,List.setIfInBounds_toArray,List.set_cons_zero,List.set_cons_succ]
       first
        |refine rgN 8 H ?_
        |(refine rgY (v:= ?_) 8 ?_ H ?_
          rotate_left
          .intro w;go_simp;all_goals with_reducible rfl)
        |fail
       simp only[Act.put,List.setIfInBounds_toArray,List.set_cons_zero,List.set_cons_succ];refine rgY (v:= ?_) 9 ?_ H ?_;rotate_left
       .intro w;go_simp;all_goals with_reducible rfl
       simp only[Act.put,List.setIfInBounds_toArray,List.set_cons_zero,List.set_cons_succ];refine rgY (v:= ?_) 10 ?_ H ?_;rotate_left
       .intro w;go_simp;all_goals with_reducible rfl
       simp only[Act.put,List.setIfInBounds_toArray,List.set_cons_zero,List.set_cons_succ];refine rgY (v:= ?_) 11 ?_ H ?_;rotate_left
       .intro w;go_simp;all_goals with_reducible rfl
       simp only[Act.put,List.setIfInBounds_toArray,List.set_cons_zero,List.set_cons_succ];refine rgY (v:= ?_) 13 ?_ H ?_;rotate_left
       .intro w;go_simp;all_goals with_reducible rfl
       simp only[Act.put,List.setIfInBounds_toArray,List.set_cons_zero,List.set_cons_succ];refine rgY (v:= ?_) 14 ?_ H ?_;rotate_left
       .intro w;go_simp;all_goals with_reducible rfl
       simp only[Act.put,List.setIfInBounds_toArray,List.set_cons_zero,List.set_cons_succ];refine rgY (v:= ?_) 15 ?_ H ?_;rotate_left
       .intro w;go_simp;all_goals with_reducible rfl
       simp only[Act.put,List.setIfInBounds_toArray,List.set_cons_zero,List.set_cons_succ];refine rgY (v:= ?_) 16 ?_ H ?_;rotate_left
       .intro w;go_simp;all_goals with_reducible rfl
       simp only[Act.put,List.setIfInBounds_toArray,List.set_cons_zero,List.set_cons_succ];generalize vA:ite (sd=E) AL _=i5;have zc:=Lib.hid vA;clear vA;refine rgC 12 λK hK=> ?_
       go_simp
       go_at_call 15;refine(yr _ (Below.refl _ _).drew).mono ?_;rintro r AS ⟨⟨AT,B1,rfl,wa⟩,Y⟩
       dsimp only;refine hK.out _ _ Y λH=> ?_;clear hK K;refine rgC 17 λK hK=> ?_
       go_simp
       go_at_call 22;refine(yv _ _ _ _ _ _ Y wa (λg e h=>by rw[<-zc.out,ck (by omega),e];simp[Addr.add];exact λh=>h.symm)).mono ?_;rintro r B2 ⟨rfl,V⟩
       dsimp only;refine hK.out _ _ V λH=> ?_;clear hK K;refine rgY (v:= ?_) 18 ?_ H ?_;rotate_left
       .intro w;go_simp;all_goals with_reducible rfl
       simp only[Act.put,List.setIfInBounds_toArray,List.set_cons_zero,List.set_cons_succ];refine rgY (v:= ?_) 19 ?_ H ?_;rotate_left
       .intro w;go_simp;all_goals with_reducible rfl
       simp only[Act.put,List.setIfInBounds_toArray,List.set_cons_zero,List.set_cons_succ];refine wpAnyH_done (by kernel_rfl) ?_ _;have hR:=yy _ V;clear Y V wa;go_wp2;go_roundw
       case rel=>exact hR
       case measure=>simp[intOf];omega
