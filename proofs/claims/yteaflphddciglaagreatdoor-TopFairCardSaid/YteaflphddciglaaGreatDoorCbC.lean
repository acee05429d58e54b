import Derived.Test.YteaflphddciglaaGreatDoorCcB
set_option linter.all false
def qT:=@List.eq_nil_iff_forall_not_mem
namespace Go.Proofs.YteaflphddciglaaGreatDoor
namespace bq
noncomputable section
open Classical
variable{c:Cn} {w:Nat} {s:Ms} {m m':Mm} {g:Bool}
structure Mb(m m':Mm):Prop where
 cl:m'.cl=m.cl
 qu:m'.qu=m.qu
 gr:m'.gr=m.gr
 pn:m'.pn=m.pn
theorem Ha(m):Mb m m:=⟨rfl,rfl,rfl,rfl⟩
theorem adb{i}{n}:Mb m (m.set i n):=⟨rfl,rfl,rfl,rfl⟩
theorem ap6{v}:Mb m {m with ep:=v}:=⟨rfl,rfl,rfl,rfl⟩
theorem Ps{r:Rt}:Mb m (r.step m).2:=by
 grind [Rt.step,adb,Ha,ap6]
theorem ahI{t:Tk}:Mb m (t.step w c.S m g).2:=by
 grind [Tk.step,lQ,adb,Ha,Ps]
theorem akd{g:Gv}:Mb m (g.step c w m).2:=by
 grind [Gv.step,Ha,adb,Ps]
def akb{g:Sm}:Mb m (g.step c w m).2:=by
 grind [Sm.step,Ha,adb]
def ac3{t:Td}{d own}(h:t.swap m d own=some m'):Mb m m':=by
 grind [Td.swap,adb]
def xc:Ph->Bool×Option Nat×Option Nat
 | .enters q=>(match q.st with| .closed=>true| .look=>true| .drop=>true|_=>false,none,none)
 | .ax t p _=>(p.isSome,if t.st=.grant then some t.head else none,none)
 | .parked _=>(true,none,none)
 | .leaves _=>(true,none,none)
 | .wakes _=>(true,none,none)
 | .work (.close (some q))=>(false,none,if q.st=.tell then some q.first else none)
 |_=>(false,none,none)
inductive QP(w:Nat)(m m':Mm)(a a':Bool×Option Nat×Option Nat):Prop
 |same:m'.qu=m.qu->m'.gr=m.gr->a'=a->QP w m m' a a'
 |push:m'.qu=m.qu++[w]->m'.gr=m.gr->a=(false,none,none)->a'=(true,none,none)->QP w m m' a a'
 |drop:w∈m.qu->m'.qu=m.qu.erase w->m'.gr=m.gr->a=(true,none,none)->a'=(false,none,none)->QP w m m' a a'
 |amH (h:Nat) (r:List Nat) (b:Bool):m.qu=h::r->m'.qu=r->m'.gr=m.gr->a=(b,none,none)->a'=(b,some h,none)->QP w m m' a a'
 |grant (h:Nat) (v:Int) (b:Bool):m'.qu=m.qu->m'.gr=upd m.gr h v->v≠0->a=(b,some h,none)->a'=(b,none,none)->QP w m m' a a'
 |amG (h:Nat) (r:List Nat):m.qu=h::r->m'.qu=r->m'.gr=m.gr->a=(false,none,none)->a'=(false,none,some h)->QP w m m' a a'
 |tell (h:Nat):m'.qu=m.qu->m'.gr=upd m.gr h (-1)->a=(false,none,some h)->a'=(false,none,none)->QP w m m' a a'
 |used:m'.qu=m.qu->m.gr w≠0->m'.gr=upd m.gr w 0->a=(true,none,none)->a'=(false,none,none)->QP w m m' a a'
def Mb.tok{a b}(h:Mb m m')(e:b=a):QP w m m' a b:=.same h.qu h.gr e
def LnW:Ph->Prop
 | .enters q=>(q.st=.look\/q.st=.drop)->q.why=5
 | .ax t _ _=>(t.st=.some\/t.st=.keep\/t.st=.pop)->∃r,t.qu=t.head::r
 | .work (.close (some q))=>q.st=.pop->∃r,q.ln=q.first::r
 |_=>True
theorem ae(s:Ms)(w)(x):(s.put w x).ws w=x:=tz rfl
def WkG(s a:Ms)(w:Nat):Prop:=∀g,(a.ws w).ph=.wakes g->g=some (s.m.gr w)/\a.m=s.m/\(s.m.gr w≠0\/∃h,(s.ws w).ph=.wakes h)
def acb(c:Cn)(s:Ms)(w:Nat):Prop:=(QP w s.m (ai c s w).m (xc (s.ws w).ph) (xc ((ai c s w).ws w).ph)/\LnW ((ai c s w).ws w).ph)/\WkG s (ai c s w) w
def ib{x:Wr}{p:Ph}(a:(s.ws w).ph=p)(e:ai c s w=(s.mem m').put w x)(h:QP w s.m m' (xc p) (xc x.ph))(l:LnW x.ph)(k:∀g,x.ph≠.wakes g:=by intro g h;cases h):acb c s w:=by
 unfold acb WkG;rw[e,a,ae];exact⟨⟨h,l⟩,λg b=>tA b (k g)⟩
def ake{p}(a:(s.ws w).ph=p)(e:ai c s w=(s.mem s.m).put w ((s.ws w).to (.wakes (some (s.m.gr w)))))(h:xc p=(true,none,none))(k:s.m.gr w≠0\/∃h,p=.wakes h):acb c s w:=by
 unfold acb WkG;rw[e,a,ae];exact⟨⟨.same rfl rfl h.symm,trivial⟩,λg b=>⟨(Ph.wakes.inj b).symm,rfl,k⟩⟩
def lL{q a}(p:(s.ws w).ph=.enters q)(h:q.step c w s.m=(a,m')):
  ai c s w=if a.st=.done then(if a.e=0\/a.e=8 then(s.mem m').put w ((s.ws w).to (.ax Td.new (some (decide (a.e=0))) (.err 0)))else(s.mem m').put w ((s.ws w).end_ (.err a.e)))else(s.mem m').put w ((s.ws w).to (.enters a)):=by
 grind [ai]
def alO{q:Qu}(d:(s.ws w).ph=.enters q)(T:Dt w q)(N:LnW (.enters q)):acb c s w:=by
 obtain⟨f,l,first,b,e⟩:=q;have no:∀{t:Td} {p:Option Bool} {a:bR},LnW (.ax Td.new p a):=λh=>by rcases h with h|h|h<;>cases h
 cases f with
 |come=>
  by_cases h:c.wt<=s.m.qu.length\/w∈s.m.qu
  .have e:=lL d (show Qu.step c w s.m ⟨.come,l,first,b,e⟩=(⟨.done,s.m.qu,first,b,7⟩,s.m)by unfold Qu.step;dsimp only;rw[tz h];rfl)
   rw[tz rfl,ck (by grind)]at e;exact ib d e (.same rfl rfl rfl) (λh=>by rcases h with h|h|h<;>cases h)
  .have e:=lL d (show Qu.step c w s.m ⟨.come,l,first,b,e⟩=(⟨.push,s.m.qu,first,b,e⟩,s.m)by unfold Qu.step;dsimp only;rw[ck h])
   rw[ck (by intro h;cases h)]at e;exact ib d e (.same rfl rfl rfl) (λh=>by rcases h with h|h<;>cases h)
 |push=>
  by_cases h:s.m.qu=l
  .have e:=lL d (show Qu.step c w s.m ⟨.push,l,first,b,e⟩=(⟨.closed,l,first,b,e⟩,{s.m with qu:=s.m.qu++[w]})by unfold Qu.step;dsimp only;rw[tz h])
   rw[ck (by intro h;cases h)]at e;exact ib d e (.push rfl rfl rfl rfl) (λh=>by rcases h with h|h<;>cases h)
  .have e:=lL d (show Qu.step c w s.m ⟨.push,l,first,b,e⟩=(⟨.come,l,first,b,e⟩,s.m)by unfold Qu.step;rw[ck h])
   exact ib d e (.same rfl rfl rfl) (λh=>by rcases h with h|h<;>cases h)
 |closed=>
  by_cases h:s.m.cl=0
  .have e:=lL d (show Qu.step c w s.m ⟨.closed,l,first,b,e⟩=(⟨.done,l,first,b,0⟩,s.m)by unfold Qu.step;rw[tz h];rfl)
   exact ib d e (.same rfl rfl rfl) (λh=>by rcases h with h|h|h<;>cases h)
  .have e:=lL d (show Qu.step c w s.m ⟨.closed,l,first,b,e⟩=(⟨.look,l,first,5,e⟩,s.m)by unfold Qu.step;rw[ck h])
   exact ib d e (.same rfl rfl rfl) (λ_=>rfl)
 |look=>
  have y:=N (.inl rfl);by_cases h:w∈s.m.qu
  .have e:=lL d (show Qu.step c w s.m ⟨.look,l,first,b,e⟩=(⟨.drop,s.m.qu,first,b,e⟩,s.m)by unfold Qu.step;rw[tz h])
   exact ib d e (.same rfl rfl rfl) (λ_=>y)
  .have e:=lL d (show Qu.step c w s.m ⟨.look,l,first,b,e⟩=(⟨.done,s.m.qu,first,b,8⟩,s.m)by unfold Qu.step;rw[ck h];rfl)
   exact ib d e (.same rfl rfl rfl) (λh=>by rcases h with h|h|h<;>cases h)
 |drop=>
  have y:b=5:=N (.inr rfl);have i:=T;by_cases h:s.m.qu=l
  .have e:=lL d (show Qu.step c w s.m ⟨.drop,l,first,b,e⟩=(⟨.done,l,first,b,b⟩,{s.m with qu:=s.m.qu.erase w})by unfold Qu.step;dsimp only;rw[tz h];rfl)
   rw[tz rfl,ck (by intro h;rcases h with h|h<;>(rw[y]at h;cases h))]at e;exact ib d e (.drop (by rw[h];exact i) rfl rfl rfl rfl) (λh=>by rcases h with h|h|h<;>cases h)
  .have e:=lL d (show Qu.step c w s.m ⟨.drop,l,first,b,e⟩=(⟨.look,l,first,b,e⟩,s.m)by unfold Qu.step;dsimp only;rw[ck h])
   exact ib d e (.same rfl rfl rfl) (λ_=>y)
 |_=>exact tA T (by intro h;exact h)
def LnT(t:Td):Prop:=(t.st=.some\/t.st=.keep\/t.st=.pop)->∃r,t.qu=t.head::r
def tkT(b:Bool)(t:Td):Bool×Option Nat×Option Nat:=(b,if t.st=.grant then some t.head else none,none)
def Hm(c:Cn)(w:Nat)(m:Mm)(t:Td):Prop:=(∀b,QP w m (t.step c w m).2 (tkT b t) (tkT b (t.step c w m).1))/\LnT (t.step c w m).1
def ajY{t a}(e:t.step c w m=(a,m'))(h:m'.qu=m.qu)(d:m'.gr=m.gr)(f:t.st≠.grant)(i:a.st≠.grant)(l:LnT a):Hm c w m t:=by
 unfold Hm;rw[e];refine⟨λb=>.same h d ?_,l⟩;grind [tkT]
def lv{t}(a:t.st≠.some)(b:t.st≠.keep)(d:t.st≠.pop):LnT t:=λh=>by
 grind
theorem eQ{t:Td}{S}:(t.fu S m).st=t.st/\(t.fu S m).qu=t.qu/\(t.fu S m).head=t.head/\(t.fu S m).ep=t.ep/\(t.fu S m).cl=t.cl:=by
 grind [Td.fu]
def aoq{t}(N:LnT t):Hm c w m t:=by
 obtain⟨x,ep,cl,q,look,i,l,o,e,f⟩:=t;have no:∀{v:Td},v.st≠.some->v.st≠.keep->v.st≠.pop->LnT v:=λy z A=>lv y z A;cases x with
 |ep=>exact ajY rfl rfl rfl mO.noConfusion mO.noConfusion (lv mO.noConfusion mO.noConfusion mO.noConfusion)
 |pin=>exact ajY rfl rfl rfl mO.noConfusion mO.noConfusion (lv mO.noConfusion mO.noConfusion mO.noConfusion)
 |cl=>exact ajY rfl rfl rfl mO.noConfusion mO.noConfusion (lv mO.noConfusion mO.noConfusion mO.noConfusion)
 |dL=>
  obtain⟨a,n,p,_⟩:=eQ (m:=m) (t:=⟨.dL,ep,cl,q,look,i,l,o,e,f⟩) (S:=c.S);unfold Hm Td.step;dsimp only;generalize Td.fu c.S m ⟨.dL,ep,cl,q,look,i,l,o,e,f⟩=u at*;split
  .exact⟨λb=>.same rfl rfl rfl,lv mO.noConfusion mO.noConfusion mO.noConfusion⟩
  .split
   .exact⟨λb=>.same rfl rfl rfl,lv mO.noConfusion mO.noConfusion mO.noConfusion⟩
   .have a:u.st=.dL:=a
    exact⟨λb=>.same rfl rfl (by unfold tkT;rw[a];rfl),lv (by rw[a];exact mO.noConfusion) (by rw[a];exact mO.noConfusion) (by rw[a];exact mO.noConfusion)⟩
 |go=>
  have k:=Ps (m:=m) (r:=f);unfold Hm Td.step;dsimp only;split
  .exact⟨λb=>.same k.qu k.gr rfl,lv mO.noConfusion mO.noConfusion mO.noConfusion⟩
  .exact⟨λb=>.same k.qu k.gr rfl,lv mO.noConfusion mO.noConfusion mO.noConfusion⟩
 |old=>
  obtain⟨a,n,p,_⟩:=eQ (m:=m) (t:=⟨.old,ep,cl,q,look,i,l,o,e,f⟩) (S:=c.S);unfold Hm Td.step;dsimp only;generalize Td.fu c.S m ⟨.old,ep,cl,q,look,i,l,o,e,f⟩=u at*;split
  .split<;>exact⟨λb=>.same rfl rfl rfl,lv mO.noConfusion mO.noConfusion mO.noConfusion⟩
  .split
   .split<;>exact⟨λb=>.same rfl rfl rfl,lv mO.noConfusion mO.noConfusion mO.noConfusion⟩
   .have a:u.st=.old:=a
    exact⟨λb=>.same rfl rfl (by unfold tkT;rw[a];rfl),lv (by rw[a];exact mO.noConfusion) (by rw[a];exact mO.noConfusion) (by rw[a];exact mO.noConfusion)⟩
 |pins=>
  unfold Hm Td.step;dsimp only;split
  .exact⟨λb=>.same rfl rfl rfl,lv mO.noConfusion mO.noConfusion mO.noConfusion⟩
  .split<;>exact⟨λb=>.same rfl rfl rfl,lv mO.noConfusion mO.noConfusion mO.noConfusion⟩
 |clear=>
  unfold Hm Td.step;dsimp only;cases h:(⟨.clear,ep,cl,q,look,i,l,o,e,f⟩:Td).swap m 12 w with
  |none=>exact⟨λb=>.same rfl rfl rfl,lv mO.noConfusion mO.noConfusion mO.noConfusion⟩
  |some m'=>
   have k:=ac3 h;exact⟨λb=>.same k.qu k.gr rfl,lv mO.noConfusion mO.noConfusion mO.noConfusion⟩
 |line=>
  unfold Hm Td.step;dsimp only;split
  .exact⟨λb=>.same rfl rfl rfl,lv mO.noConfusion mO.noConfusion mO.noConfusion⟩
  .exact⟨λb=>.same rfl rfl rfl,λ_=>⟨_,rfl⟩⟩
 |some=>
  obtain⟨r,d⟩:=N (.inl rfl);obtain⟨a,n,p,_⟩:=eQ (m:=m) (t:=⟨.some,ep,cl,q,look,i,l,o,e,f⟩) (S:=c.S);unfold Hm Td.step;dsimp only;generalize Td.fu c.S m ⟨.some,ep,cl,q,look,i,l,o,e,f⟩=u at*;have a:u.st=.some:=a;have n:u.qu=q:=n;have p:u.head=e:=p;have d:q=e::r:=d;split
  .exact⟨λb=>.same rfl rfl rfl,λ_=>⟨r,by show u.qu=u.head::r;rw[n,p];exact d⟩⟩
  .split
   .exact⟨λb=>.same rfl rfl rfl,lv mO.noConfusion mO.noConfusion mO.noConfusion⟩
   .exact⟨λb=>.same rfl rfl (by unfold tkT;rw[a];rfl),λ_=>⟨r,by rw[n,p];exact d⟩⟩
 |keep=>
  obtain⟨r,d⟩:=N (.inr (.inl rfl));unfold Hm Td.step;dsimp only;split
  .rename_i B h
   have k:=ac3 h;exact⟨λb=>.same k.qu k.gr rfl,λ_=>⟨r,d⟩⟩
  .exact⟨λb=>.same rfl rfl rfl,λ_=>⟨r,d⟩⟩
 |pop=>
  obtain⟨r,d⟩:=N (.inr (.inr rfl));have d:q=e::r:=d;unfold Hm Td.step;dsimp only;split
  .rename_i h
   exact⟨λb=>.amH e r b (h.trans d) (by rw[h,d];rfl) rfl rfl rfl,lv mO.noConfusion mO.noConfusion mO.noConfusion⟩
  .exact⟨λb=>.same rfl rfl rfl,lv mO.noConfusion mO.noConfusion mO.noConfusion⟩
 |grant=>
  refine⟨λb=>.grant e ((i:Int)+1) b rfl rfl (by omega) rfl rfl,lv mO.noConfusion mO.noConfusion mO.noConfusion⟩
 |back=>
  unfold Hm Td.step;dsimp only;split<;>exact⟨λb=>.same rfl rfl rfl,lv mO.noConfusion mO.noConfusion mO.noConfusion⟩
 |dR=>
  unfold Hm Td.step;dsimp only;split
  .rename_i B h
   have k:=ac3 h;exact⟨λb=>.same k.qu k.gr rfl,lv mO.noConfusion mO.noConfusion mO.noConfusion⟩
  .exact⟨λb=>.same rfl rfl rfl,lv mO.noConfusion mO.noConfusion mO.noConfusion⟩
 |eO=>exact⟨λb=>.same rfl rfl rfl,lv mO.noConfusion mO.noConfusion mO.noConfusion⟩
 |again=>
  unfold Hm Td.step;dsimp only;split<;>exact⟨λb=>.same rfl rfl rfl,lv mO.noConfusion mO.noConfusion mO.noConfusion⟩
 |done=>exact⟨λb=>.same rfl rfl rfl,lv mO.noConfusion mO.noConfusion mO.noConfusion⟩
def anr(s:Ms)(w:Nat)(m':Mm)(a:bR):Option Bool->Ms
 |some b=>(s.mem m').put w ((s.ws w).to (.parked b))
 |none=>{(s.mem m').put w ((s.ws w).to .rest)with ev:=⟨true,w,(s.ws w).ask,a⟩::s.ev}
def ui{t b}{p}{a}(d:(s.ws w).ph=.ax t p a)(h:t.step c w s.m=(b,m')):
  ai c s w=if b.st=.done then anr s w m' a p else(s.mem m').put w ((s.ws w).to (.ax b p a)):=by
 unfold ai;dsimp only;rw[d];dsimp only;rw[h];cases p<;>rfl
def alN{t:Td}{p:Option Bool}{a:bR}(d:(s.ws w).ph=.ax t p a)(N:LnT t):acb c s w:=by
 have k:=aoq (c:=c) (w:=w) (m:=s.m) N;unfold Hm at k;cases h:t.step c w s.m with
 |mk l m'=>
  rw[h]at k;obtain⟨o,q⟩:=k;have e:=ui d h;have f:=o p.isSome;by_cases i:l.st=.done
  .have r:tkT p.isSome l=(p.isSome,none,none):=by unfold tkT;rw[i];rfl
   rw[r]at f;rw[tz i]at e;cases p with
   |some b=>exact ib d (e.trans rfl) f trivial
   |none=>
    unfold acb;rw[e,d];unfold anr;refine⟨⟨?_,?_⟩,?_⟩
    .rw[ae]
     exact f
    .rw[ae]
     trivial
    .intro g n
     rw[ae]at n;cases n
  .rw[ck i]at e
   exact ib d e f q
def QR{q a}(p:(s.ws w).ph=.work (.close (some q)))(h:q.step c w s.m=(a,m')):
  ai c s w=if a.st=.done then(s.mem m').put w ((s.ws w).end_ (.err 0))else(s.mem m').put w ((s.ws w).to (.work (.close (some a)))):=by
 grind [ai,ak]
def Nq{x:Wr}{a}:LnW (x.end_ a).ph:=λh=>by rcases h with h|h|h<;>cases h
def al5{q:Qu}(p:(s.ws w).ph=.work (.close (some q)))(T:Du q)(N:q.st=.pop->∃r,q.ln=q.first::r):acb c s w:=by
 obtain⟨f,l,first,b,e⟩:=q;cases f with
 |head=>
  cases i:s.m.qu with
  |nil=>
   have e:=QR p (show Qu.step c w s.m ⟨.head,l,first,b,e⟩=(⟨.done,[],first,b,0⟩,s.m)by unfold Qu.step;rw[i];rfl);exact ib p e (.same rfl rfl rfl) Nq
  |cons a r=>
   have e:=QR p (show Qu.step c w s.m ⟨.head,l,first,b,e⟩=(⟨.pop,a::r,a,b,e⟩,s.m)by grind [Qu.step]);exact ib p e (.same rfl rfl rfl) (λ_=>⟨r,rfl⟩)
 |pop=>
  obtain⟨r,d⟩:=N rfl;have d:l=first::r:=d
  by_cases h:s.m.qu=l
  .have e:=QR p (show Qu.step c w s.m ⟨.pop,l,first,b,e⟩=(⟨.tell,l,first,b,e⟩,{s.m with qu:=s.m.qu.tail})by grind [Qu.step])
   exact ib p e (.amG first r (h.trans d) (by rw[h,d];rfl) rfl rfl rfl) (λh=>by cases h)
  .have e:=QR p (show Qu.step c w s.m ⟨.pop,l,first,b,e⟩=(⟨.head,l,first,b,e⟩,s.m)by unfold Qu.step;dsimp only;rw[ck h])
   exact ib p e (.same rfl rfl rfl) (λh=>by cases h)
 |tell=>
  have e:=QR p (show Qu.step c w s.m ⟨.tell,l,first,b,e⟩=(⟨.head,l,first,b,e⟩,s.m.nT first (-1))from rfl);exact ib p e (.tell first rfl rfl rfl rfl) (λh=>by cases h)
 |_=>exact tA T (by intro h;exact h)
def QQ{x}{q a}(h:q.step c w s.m=(a,m')):
  aV c w s x q=if a.st=.done then(if a.e=8 then(s.mem m').put w (x.to (.parked false))else(s.mem m').put w (x.end_ (.err a.e)))else(s.mem m').put w (x.to (.leaves a)):=by
 grind [aV]
def aj4{q:Qu}{p:Ph}(d:(s.ws w).ph=p)(v:xc p=(true,none,none))(f:ai c s w=aV c w s (s.ws w) q)(T:Dr w q):acb c s w:=by
 obtain⟨n,l,first,a,e⟩:=q;obtain⟨b,i⟩:=T;have i:a=4:=i;rcases b with b|⟨b,k⟩
 .subst b
  by_cases h:w∈s.m.qu
  .have e:=QQ (x:=s.ws w) (show Qu.step c w s.m ⟨.look,l,first,a,e⟩=(⟨.drop,s.m.qu,first,a,e⟩,s.m)by grind [Qu.step])
   exact ib d (f.trans e) (by rw[v];exact .same rfl rfl rfl) trivial
  .have e:=QQ (x:=s.ws w) (show Qu.step c w s.m ⟨.look,l,first,a,e⟩=(⟨.done,s.m.qu,first,a,8⟩,s.m)by unfold Qu.step;rw[ck h];rfl)
   exact ib d (f.trans e) (by rw[v];exact .same rfl rfl rfl) trivial
 .subst b
  by_cases h:s.m.qu=l
  .have e:=QQ (x:=s.ws w) (show Qu.step c w s.m ⟨.drop,l,first,a,e⟩=(⟨.done,l,first,a,a⟩,{s.m with qu:=s.m.qu.erase w})by unfold Qu.step;dsimp only;rw[tz h];rfl)
   rw[tz rfl,ck (by intro h;have h:a=8:=h;omega)]at e;exact ib d (f.trans e) (by rw[v];exact .drop (by rw[h];exact k) rfl rfl rfl rfl) Nq
  .have e:=QQ (x:=s.ws w) (show Qu.step c w s.m ⟨.drop,l,first,a,e⟩=(⟨.look,l,first,a,e⟩,s.m)by unfold Qu.step;dsimp only;rw[ck h])
   exact ib d (f.trans e) (by rw[v];exact .same rfl rfl rfl) trivial
def kv{p}{x}{wo}(b:(s.ws w).ph=p)(e:ai c s w=({s with wo:=wo}.mem m').put w x)(k:Mb s.m m')(d:xc p=(false,none,none))(h:xc x.ph=(false,none,none))(l:LnW x.ph):acb c s w:=by
 unfold acb;rw[e,b];refine⟨⟨?_,?_⟩,?_⟩
 .rw[ae,d,h]
  exact k.tok rfl
 .grind [ae]
 .intro g a
  rw[ae]at a;rw[a]at h;cases h
def amK{x:Wr}:LnW (x.to (.enters Qu.enter)).ph:=λh=>by rcases h with h|h<;>cases h
def amw{k:Wk}(p:(s.ws w).ph=.work k)(T:Ba c w k)(N:LnW (.work k)):acb c s w:=by
 have e:ai c s w=ak c w s (s.ws w) k:=by grind [ai]
 cases k with
 |get t=>
  have q:=ahI (c:=c) (w:=w) (m:=s.m) (g:=decide (t.st=.bM)&&s.next.1) (t:=t);obtain⟨o,a⟩:∃o,(if t.st=gm.bM then({s with wo:=s.next.2}:Ms)else s)={s with wo:=o}:=by
   split
   .exact⟨_,rfl⟩
   .exact⟨s.wo,rfl⟩
  unfold ak at e;dsimp only at e;rw[a]at e;split at e
  .split at e
   .split at e
    .exact kv p e q rfl rfl amK
    .exact kv p e q rfl rfl trivial
   .split at e
    .exact kv p e q rfl rfl Nq
    .exact kv p e q rfl rfl Nq
  .exact kv p e q rfl rfl trivial
 |give g=>
  have q:=akd (c:=c) (w:=w) (m:=s.m) (g:=g);unfold ak at e;dsimp only at e;split at e
  .exact kv (wo:=s.wo) p e q rfl rfl Nq
  .exact kv (wo:=s.wo) p e q rfl rfl trivial
 |bg g=>
  have q:=akb (c:=c) (w:=w) (m:=s.m) (g:=g);unfold ak at e;dsimp only at e;split at e
  .exact kv (wo:=s.wo) p e q rfl rfl Nq
  .exact kv (wo:=s.wo) p e q rfl rfl trivial
 |close d=>
  cases d with
  |none=>
   unfold ak at e;dsimp only at e;refine ib p e (.same ?_ ?_ rfl) (λh=>by cases h)
   .split
    .rfl
    .split<;>rfl
   .split
    .rfl
    .split<;>rfl
  |some q=>exact al5 p T N
 |stats t=>
  unfold ak at e;dsimp only at e;split at e
  .exact kv p e (Ha _) rfl rfl Nq
  .exact kv p e (Ha _) rfl rfl trivial
 |aS r=>
  unfold ak at e;dsimp only at e;split at e
  .split at e
   .exact kv p e (Ha _) rfl rfl trivial
   .split at e
    .exact kv p e (Ha _) rfl rfl Nq
    .exact kv p e (Ha _) rfl rfl trivial
  .split at e
   .exact kv (wo:=s.next.2) p e (Ha _) rfl rfl trivial
   .exact kv (wo:=s.next.2) p e (Ha _) rfl rfl trivial
  .split at e
   .split at e
    .exact kv p e adb rfl rfl trivial
    .exact kv p e (Ha _) rfl rfl trivial
   .exact kv p e (Ha _) rfl rfl trivial
  .split at e
   .exact kv p e Ps rfl rfl trivial
   .exact kv p e Ps rfl rfl trivial
def akh{x}:xc (.work (bE x))=(false,none,none)/\LnW (.work (bE x)):=by
 unfold bE;split<;>exact⟨rfl,trivial⟩
def akf(X:jO c w (s.ws w))(N:LnW (s.ws w).ph)(K:∀g,(s.ws w).ph=.wakes g->s.m.gr w≠0):acb c s w:=by
 unfold jO at X;cases d:(s.ws w).ph with
 |rest=>
  have e:ai c s w=s:=by grind [ai]
  unfold acb;rw[e,d];exact⟨⟨.same rfl rfl rfl,trivial⟩,λg f=>by grind⟩
 |pin h=>
  cases h with
  |none=>
   have e:ai c s w=(s.mem s.m).put w ((s.ws w).to (.pin (some s.m.ep))):=by unfold ai;dsimp only;rw[d];rfl
   exact ib d e (.same rfl rfl rfl) trivial
  |some i=>
   have e:ai c s w=(s.mem (s.m.pin w (aR (i+1)))).put w ((s.ws w).to (.work (bE (s.ws w)))):=by unfold ai;dsimp only;rw[d]
   exact ib d e (.same rfl rfl akh.1) akh.2
 |work k=>rw[d]at X N;exact amw d X N
 |counts t=>
  have e:ai c s w=if(t.step c.S s.m).dn then(if∃y∈(t.step c.S s.m).last.getD [],fits 3 w y then s.put w ((s.ws w).to (.work (.get Tk.new)))else s.put w ((s.ws w).end_ (.err 3)))else s.put w ((s.ws w).to (.counts (t.step c.S s.m))):=by unfold ai;dsimp only;rw[d]
  split at e
  .split at e
   .exact ib (m':=s.m) d e (.same rfl rfl rfl) trivial
   .exact ib (m':=s.m) d e (.same rfl rfl rfl) Nq
  .exact ib (m':=s.m) d e (.same rfl rfl rfl) trivial
 |enters q=>rw[d]at X N;exact alO d X N
 |ax t p a=>rw[d]at N;exact alN d N
 |parked b=>
  by_cases f:s.m.gr w≠0
  .have e:ai c s w=(s.mem s.m).put w ((s.ws w).to (.wakes (some (s.m.gr w)))):=by unfold ai;dsimp only;rw[d];rw[tz f];rfl
   exact ake d e rfl (.inl f)
  .have e:ai c s w=aV c w s (s.ws w) Qu.leave:=by unfold ai;dsimp only;rw[d];rw[ck f]
   exact aj4 d rfl e ⟨.inl rfl,rfl⟩
 |wakes h=>
  cases h with
  |none=>
   have e:ai c s w=(s.mem s.m).put w ((s.ws w).to (.wakes (some (s.m.gr w)))):=by unfold ai;dsimp only;rw[d];rfl
   exact ake d e rfl (.inr ⟨_,rfl⟩)
  |some g=>
   by_cases f:g<0
   .have e:ai c s w=(s.mem (s.m.nT w 0)).put w ((s.ws w).end_ (.err 5)):=by unfold ai;dsimp only;rw[d];unfold dh;dsimp only;rw[tz f]
    exact ib d e (.used rfl (K _ d) rfl rfl rfl) Nq
   .have e:ai c s w=(s.mem (s.m.nT w 0)).put w {s.ws w with grant:=g,ph:=.pin none}:=by unfold ai;dsimp only;rw[d];unfold dh;dsimp only;rw[ck f]
    exact ib d e (.used rfl (K _ d) rfl rfl rfl) trivial
 |leaves q=>
  rw[d]at X;have e:ai c s w=aV c w s (s.ws w) q:=by unfold ai;dsimp only;rw[d]
  exact aj4 d rfl e X
end
noncomputable section
open Classical
variable{c:Cn} {w:Nat} {s l:Ms} {m u:Mm}
inductive Loc where
 |no|qu|gr|g (v:Nat)|t (v:Nat)
structure ahG(s:Ms)(L:Nat->Loc):Prop where
 qu:∀h,h∈s.m.qu↔L h=.qu
 gr:∀h,s.m.gr h≠0↔L h=.gr
 g:∀v h,(xc (s.ws v).ph).2.1=some h↔L h=.g v
 t:∀v h,(xc (s.ws v).ph).2.2=some h↔L h=.t v
 w:∀h,(xc (s.ws h).ph).1=true↔L h≠.no
 wk:∀h g,(s.ws h).ph=.wakes g->s.m.gr h≠0/\∀v,g=some v->v=s.m.gr h
theorem ky{α}(f:Nat->α)(i)(v):upd f i v i=v:=tz rfl
theorem il{α}(f:Nat->α){i j}(v)(h:j≠i):upd f i v j=f j:=ck h
def agl{L}(I:ahG s L)(q:l.m.qu=s.m.qu)(b:l.m.gr=s.m.gr)(a:∀v,xc (l.ws v).ph=xc (s.ws v).ph)(d:∀h g,(l.ws h).ph=.wakes g->s.m.gr h≠0/\∀v,g=some v->v=s.m.gr h):ahG l L:=
 ⟨λh=>by rw[q];exact I.qu h,λh=>by rw[b];exact I.gr h,λv h=>by rw[a];exact I.g v h,λv h=>by rw[a];exact I.t v h,λh=>by rw[a];exact I.w h,λh g k=>by grind⟩
def al6{L}(I:ahG s L)(E:s.m.qu.Nodup)(o:∀j,j≠w->l.ws j=s.ws j)(S:QP w s.m l.m (xc (s.ws w).ph) (xc (l.ws w).ph))(K:WkG s l w):∃R,ahG l R:=by
 have z:∀v,v≠w->xc (l.ws v).ph=xc (s.ws v).ph:=λv n=>by rw[o v n]
 have a:(∀h,h≠w->s.m.gr h≠0->l.m.gr h=s.m.gr h)->∀h g,(l.ws h).ph=.wakes g->l.m.gr h≠0/\∀v,g=some v->v=l.m.gr h:=by
  intro J h g F;by_cases e:h=w
  .subst e
   obtain⟨H,N,G⟩:=K g F;rw[N];refine⟨?_,λv n=>by rw[H]at n;exact(b9 n).symm⟩;rcases G with G|⟨x,G⟩
   .exact G
   .exact(I.wk h x G).1
  .rw[o h e]at F
   obtain⟨H,N⟩:=I.wk h g F;rw[J h e H];exact⟨H,N⟩
 cases S with
 |same f d T=>
  refine⟨L,agl I f d (λv=> ?_) λh g F=> ?_⟩
  .by_cases e:v=w
   .rw[e];exact T
   .exact z v e
  .have:=a (fun h _ _=>by rw[d]) h g F
   rw[d]at this;exact this
 |push f d A i=>
  have Iq:=I.qu;have Ig:=I.gr;have B:=I.g;have C:=I.t;have D:=I.w;refine⟨upd L w .qu,λx=> ?_,λx=> ?_,λv x=> ?_,λv x=> ?_,λx=> ?_,a λh _ _=>by rw[d]⟩<;>(have n:=z;unfold upd;grind)
 |drop U f d A i=>
  have Iq:=I.qu;have Ig:=I.gr;have B:=I.g;have C:=I.t;have D:=I.w;have Q:∀x,x∈l.m.qu↔x∈s.m.qu/\x≠w:=λx=>by
   rw[f,E.mem_erase_iff];exact And.comm
  refine⟨upd L w .no,λx=> ?_,λx=> ?_,λv x=> ?_,λv x=> ?_,λx=> ?_,a λh _ _=>by rw[d]⟩<;>(clear f;have n:=z;unfold upd;grind)
 |amH h r b y f d A i=>
  have Iq:=I.qu;have Ig:=I.gr;have B:=I.g;have C:=I.t;have D:=I.w;have Q:∀x,x∈l.m.qu↔x∈s.m.qu/\x≠h:=λx=>by
   rw[f,y];rw[y]at E;have:=(tP.1 E).1;constructor
   .intro p;exact⟨da _ p,λe=>this (e▸p)⟩
   .intro p;rcases db.1 p.1 with e|e
    .exact tA e p.2
    .exact e
  have J:h∈s.m.qu:=by rw[y];exact cV
  refine⟨upd L h (.g w),λx=> ?_,λx=> ?_,λv x=> ?_,λv x=> ?_,λx=> ?_,a λh _ _=>by rw[d]⟩<;>(clear f y;have n:=z;unfold upd;grind)
 |grant h v b f d n A i=>
  have Iq:=I.qu;have Ig:=I.gr;have B:=I.g;have C:=I.t;have D:=I.w;have O:L h=.g w:=(B w h).1 (by rw[A]);have P:s.m.gr h=0:=cv λq=>by have:=(Ig h).1 q;rw[O]at this;cases this
  refine⟨upd L h .gr,λx=> ?_,λx=> ?_,λv x=> ?_,λv x=> ?_,λx=> ?_,a λx _ k=> ?_⟩
  rotate_right
  .rw[d];exact il _ _ (λe=>by rw[e]at k;exact k P)
  all_goals (have n:=z;unfold upd at *;grind)
 |amG h r y f d A i=>
  have Iq:=I.qu;have Ig:=I.gr;have B:=I.g;have C:=I.t;have D:=I.w;have Q:∀x,x∈l.m.qu↔x∈s.m.qu/\x≠h:=λx=>by
   rw[f,y];rw[y]at E;have:=(tP.1 E).1;constructor
   .intro p;exact⟨da _ p,λe=>this (e▸p)⟩
   .intro p;rcases db.1 p.1 with e|e
    .exact tA e p.2
    .exact e
  have J:h∈s.m.qu:=by rw[y];exact cV
  refine⟨upd L h (.t w),λx=> ?_,λx=> ?_,λv x=> ?_,λv x=> ?_,λx=> ?_,a λh _ _=>by rw[d]⟩<;>(clear f y;have n:=z;unfold upd;grind)
 |tell h f d A i=>
  have Iq:=I.qu;have Ig:=I.gr;have B:=I.g;have C:=I.t;have D:=I.w;have O:L h=.t w:=(C w h).1 (by rw[A]);have P:s.m.gr h=0:=cv λq=>by have:=(Ig h).1 q;rw[O]at this;cases this
  refine⟨upd L h .gr,λx=> ?_,λx=> ?_,λv x=> ?_,λv x=> ?_,λx=> ?_,a λx _ k=> ?_⟩
  rotate_right
  .rw[d];exact il _ _ (λe=>by rw[e]at k;exact k P)
  all_goals (have n:=z;unfold upd at *;grind)
 |used f V d A i=>
  have Iq:=I.qu;have Ig:=I.gr;have B:=I.g;have C:=I.t;have D:=I.w;refine⟨upd L w .no,λx=> ?_,λx=> ?_,λv x=> ?_,λv x=> ?_,λx=> ?_,a λx e k=> ?_⟩
  rotate_right
  .rw[d];exact il _ _ e
  all_goals (have n:=z;unfold upd at *;grind)
structure WtI(c:Cn)(s:Ms):Prop where
 tok:∃L,ahG s L
 ln:∀v,LnW (s.ws v).ph
def amu(I:WtI c s)(A:All c s)(h:w<c.W)(o:∀j,j≠w->(ai c s w).ws j=s.ws j):WtI c (ai c s w):=by
 obtain⟨L,T⟩:=I.tok;obtain⟨⟨k,a⟩,b⟩:=akf (A.inv.w w h) (I.ln w) (λg d=>(T.wk w g d).1);refine⟨al6 T A.nd o k b,λv=> ?_⟩;by_cases e:v=w
 .rw[e];exact a
 .rw[o v e];exact I.ln v
def amt:WtI c Ms.zero:=by
 refine⟨⟨λ_=>.no,λh=> ?_,λh=> ?_,λv h=> ?_,λv h=> ?_,λh=> ?_,λh g k=> ?_⟩,λv=>trivial⟩
 .exact⟨λh=>(by cases h),λh=>(by cases h)⟩
 .exact⟨λh=>tA rfl h,λh=>(by cases h)⟩
 .exact⟨λh=>(by cases h),λh=>(by cases h)⟩
 .exact⟨λh=>(by cases h),λh=>(by cases h)⟩
 .exact⟨λh=>(by cases h),λh=>tA rfl h⟩
 .cases k
def aom(I:WtI c s)(x)(o:x.kind≠1):WtI c (dX c s x).2:=by
 obtain⟨L,T⟩:=I.tok;have same:∀{l:Ms},l.m.qu=s.m.qu->l.m.gr=s.m.gr->l.ws=s.ws->WtI c l:=λq f a=>⟨⟨L,agl T q f (λv=>by rw[a]) (λh g k=>by rw[a]at k;exact T.wk h g k)⟩,λv=>by rw[a];exact I.ln v⟩;unfold dX;split
 .split
  .rename_i i
   have r:=i.2.1;refine⟨⟨L,agl T rfl rfl (λv=> ?_) (λh g k=> ?_)⟩,λv=> ?_⟩
   .show xc (upd s.ws x.who.toNat _ v).ph=_
    by_cases e:v=x.who.toNat
    .rw[e,ky,r];rfl
    .rw[il _ _ e]
   .have k:(upd s.ws x.who.toNat (⟨.pin none,{x.a with op:=x.op.toNat},0⟩:Wr) h).ph=.wakes g:=k
    by_cases e:h=x.who.toNat
    .rw[e,ky]at k;cases k
    .rw[il _ _ e]at k;exact T.wk h g k
   .show LnW (upd s.ws x.who.toNat _ v).ph
    by_cases e:v=x.who.toNat
    .rw[e,ky];trivial
    .rw[il _ _ e];exact I.ln v
  .exact I
 .split
  .exact same rfl rfl rfl
  .split
   .split
    .exact same rfl rfl rfl
    .exact I
   .split
    .split
     .split
      .rename_i m b
       unfold QN at b;cases d:az (s.m.sl x.a.slot.toNat) 13 0 0 with
       |none=>rw[d]at b;cases b
       |some n=>rw[d]at b;cases b;exact same rfl rfl rfl
      .exact I
     .exact I
    .exact I
def acW:Ph->Prop| .work (.close (some _))=>True|_=>False
def adf:Ph->Prop| .enters q=>q.st=.closed\/q.st=.look\/q.st=.drop|_=>False
structure ClF(w:Nat)(m u:Mm)(p p':Ph):Prop where
 a:u.cl≠0->m.cl≠0\/acW p'
 b:acW p->acW p'\/u.qu=[]
 c:adf p->u.cl≠0->adf p'\/w∉u.qu
 d:∀h,h∈u.qu->h∈m.qu\/(h=w/\adf p')
 e:m.cl≠0->u.cl≠0
theorem amj{p a}(k:Mb m u)(b:¬acW p)(d:¬adf p):ClF w m u p a:=⟨λh=>.inl (by rw[<-k.cl];exact h),λh=>tA h b,λh=>tA h d,λh e=>.inl (by rw[<-k.qu];exact e),λh=>by rw[k.cl];exact h⟩
def M8(c:Cn)(s:Ms)(w:Nat):Prop:=ClF w s.m (ai c s w).m (s.ws w).ph ((ai c s w).ws w).ph
def arq{q}(T:Dt w q)(n:m.qu.Nodup):(q.step c w m).2.cl=m.cl/\(∀h,h∈(q.step c w m).2.qu->h∈m.qu\/(h=w/\(q.step c w m).1.st=.closed))/\
  ((q.st=.closed\/q.st=.look\/q.st=.drop)->m.cl≠0->((q.step c w m).1.st=.closed\/(q.step c w m).1.st=.look\/(q.step c w m).1.st=.drop)\/w∉(q.step c w m).2.qu):=by
 grind [Qu.step,Qu.fin,Dt]
def al0{q}(p:(s.ws w).ph=.enters q)(T:Dt w q)(o:s.m.qu.Nodup):M8 c s w:=by
 obtain⟨k,f,a⟩:=arq T o;cases h:q.step c w s.m with
 |mk r u=>
  rw[h]at k f a;have e:=lL p h;unfold M8;by_cases i:r.st=.done
  .have v:(ai c s w).m=u:=by
    rw[e,tz i];split<;>rfl
   rw[v,p];refine⟨λh=>.inl (by grind),λh=>h.elim,λb d=>.inr ?_,λx n=> ?_,λh=>by rw[k];exact h⟩
   .rcases a b (by rw[<-k];exact d)with q|q
    all_goals grind
   grind
  .rw[ck i]at e
   rw[e,p,ae];refine⟨λh=>.inl (by rw[<-k];exact h),λh=>h.elim,λb d=> ?_,λx n=> ?_,λh=>by have:=k;show u.cl≠0;rw[this];exact h⟩
   .exact a b (by rw[<-k];exact d)
   .rcases f x n with q|⟨y,z⟩
    .exact .inl q
    .exact .inr ⟨y,.inl z⟩
def amk{q}(h:(s.ws w).ph=.work (.close (some q)))(T:Du q):M8 c s w:=by
 refine⟨?_,?_,?_,?_,?_⟩<;>(unfold ai ak Qu.step Ms.put Ms.mem Wr.to Wr.end_ upd Qu.fin Mm.nT at *;grind [adf,acW,Du,List.mem_of_mem_tail])
def aml(h:(s.ws w).ph=.work (.close none)):M8 c s w:=by
 refine⟨?_,?_,?_,?_,?_⟩<;>(unfold ai ak Ms.put Ms.mem Wr.to Wr.end_ upd at *;grind [adf,acW])
def ap5{t:Td}:(t.step c w m).2.cl=m.cl/\∀h,h∈(t.step c w m).2.qu->h∈m.qu:=by
 have k:= @Ps m t.rt;obtain⟨a,b,d,e⟩:=k;grind [Td.step,Td.swap,Mm.set,Mm.pin,Mm.nT,List.mem_of_mem_tail]
def alZ{t}{p}{a}(b:(s.ws w).ph=.ax t p a):M8 c s w:=by
 obtain⟨k,d⟩:=ap5;cases h:t.step c w s.m with
 |mk n u=>
  rw[h]at k d;have e:=ui b h;have f:(ai c s w).m=u:=by
   rw[e];split
   .cases p<;>rfl
   .rfl
  unfold M8;rw[f,b];exact⟨λh=>.inl (by grind),λh=>h.elim,λh=>h.elim,λx i=>.inl (d x i),λh=>by rw[k];exact h⟩
def aj8{q}{p}(a:(s.ws w).ph=p)(b:¬acW p)(d:¬adf p)(e:ai c s w=aV c w s (s.ws w) q)(T:Dr w q):M8 c s w:=by
 unfold M8;rw[e,a];refine⟨?_,λh=>tA h b,λh=>tA h d,?_,?_⟩<;>(unfold aV Qu.step Ms.put Ms.mem Wr.to Wr.end_ upd Qu.fin at *;grind [Dr])
def anh{k}(p:(s.ws w).ph=.work k)(T:Ba c w k):M8 c s w:=by
 have e:ai c s w=ak c w s (s.ws w) k:=by grind [ai]
 have f:∀{u:Mm},(ai c s w).m=u->Mb s.m u->¬acW (.work k)->M8 c s w:=λa b o=>by
  unfold M8;rw[a,p];exact amj b o (λh=>h)
 cases k with
 |get t=>
  refine f rfl ?_ (λh=>h);grind [ak,Ms.put,Ms.mem,ahI]
 |give g=>
  refine f rfl ?_ (λh=>h);grind [ak,Ms.put,Ms.mem,akd]
 |bg g=>
  refine f rfl ?_ (λh=>h);have q:=akb (c:=c) (w:=w) (m:=s.m) (g:=g);rw[e];unfold ak Ms.put Ms.mem;grind
 |close d=>
  cases d with
  |none=>exact aml p
  |some q=>exact amk p T
 |stats t=>
  refine f rfl ?_ (λh=>h);have q:=Ha s.m;rw[e];unfold ak Ms.put Ms.mem;grind
 |aS r=>
  refine f rfl ?_ (λh=>h);have q:=Ha s.m;have v:=Ps (m:=s.m) (r:=r.rt);have x:∀i n,Mb s.m (s.m.set i n):=λi n=>adb;rw[e];unfold ak Ms.put Ms.mem;grind
def adz(X:jO c w (s.ws w))(n:s.m.qu.Nodup):M8 c s w:=by
 unfold jO at X;have same:(ai c s w).m=s.m->¬acW (s.ws w).ph->¬adf (s.ws w).ph->M8 c s w:=λh i o=>by
  grind [M8,amj,Ha]
 cases d:(s.ws w).ph with
 |rest=>exact same (by unfold ai;dsimp only;rw[d]) (by rw[d];exact λh=>h) (by rw[d];exact λh=>h)
 |pin h=>
  unfold M8;refine⟨?_,?_,?_,?_,?_⟩<;>(unfold ai Ms.put Ms.mem Wr.to Mm.pin upd at *;(try unfold adf at *);(try unfold acW at *);grind)
 |work k=>rw[d]at X;exact anh d X
 |counts t=>
  refine same ?_ (by rw[d];exact λh=>h) (by rw[d];exact λh=>h);unfold ai;dsimp only;rw[d];dsimp only;split
  .split<;>rfl
  .rfl
 |enters q=>rw[d]at X;exact al0 d X n
 |ax t p a=>exact alZ d
 |parked b=>
  by_cases f:s.m.gr w≠0
  .exact same (by unfold ai dh Ms.put;grind) (by rw[d];exact λh=>h) (by rw[d];exact λh=>h)
  .have e:ai c s w=aV c w s (s.ws w) Qu.leave:=by unfold ai;dsimp only;rw[d];dsimp only;rw[ck f]
   exact aj8 d (λh=>h) (λh=>h) e ⟨.inl rfl,rfl⟩
 |wakes h=>
  unfold M8;refine⟨?_,?_,?_,?_,?_⟩<;>(unfold ai dh Ms.put Ms.mem Wr.to Wr.end_ Mm.nT upd at *;(try unfold adf at *);(try unfold acW at *);grind)
 |leaves q=>
  rw[d]at X;have e:ai c s w=aV c w s (s.ws w) q:=by unfold ai;dsimp only;rw[d]
  exact aj8 d (λh=>h) (λh=>h) e X
def ClI(s:Ms):Prop:=s.m.cl≠0->∀h,h∈s.m.qu->(∃v,acW (s.ws v).ph)\/adf (s.ws h).ph
def ani(I:ClI s)(A:All c s)(i:w<c.W)(o:∀j,j≠w->(ai c s w).ws j=s.ws j):ClI (ai c s w):=by
 obtain⟨a,b,p,d⟩:=adz (A.inv.w w i) A.nd;intro k h n;rcases d h n with e|⟨e,q⟩
 .rcases a k with f|f
  .rcases I f h e with⟨v,r⟩|x
   all_goals grind
  grind
 grind
end
noncomputable section
open Classical
variable{c:Cn} {w:Nat} {s d:Ms} {m l:Mm} {i:Nat}
def frees(x:aa):Prop:=x.st=0\/(x.st=2/\x.brk=false)
def RsT(i:Nat)(t:Td):Prop:=match t.st with
 | .some=>t.look.at_<=i| .keep=>t.look.at_<=i| .eO=>False| .again=>False| .done=>False|_=>True
def RsP(i:Nat):Ph->Prop
 | .pin _=>True| .work _=>True| .counts _=>True| .enters _=>True| .wakes _=>True
 | .ax t _ _=>RsT i t
 |_=>False
structure RsF(i:Nat)(m l:Mm)(r r':Prop):Prop where
 a:frees (l.sl i)->¬frees (m.sl i)->r'
 b:m.qu=[]->l.qu≠[]->r'
 c:r->l.cl=0->l.qu≠[]->frees (l.sl i)->r'
theorem rf{r a}(h:a):RsF i m l r a:=⟨λ_ _=>h,λ_ _=>h,λ_ _ _ _=>h⟩
def apZ{t}(B:i<c.S)(T:pX c t)(n:t.cl≠0->m.cl≠0):RsF i m (t.step c w m).2 (RsT i t) (RsT i (t.step c w m).1):=by
 obtain⟨x,ep,cl,q,look,j,b,o,e,r⟩:=t;cases x with
 |ep=>exact rf trivial
 |pin=>exact rf trivial
 |cl=>exact rf trivial
 |dL=>
  grind [Td.step,RsT,eQ,rf]
 |go=>
  refine rf ?_;unfold Td.step RsT;grind
 |old=>
  obtain⟨p,_⟩:=eQ (m:=m) (t:=⟨.old,ep,cl,q,look,j,b,o,e,r⟩) (S:=c.S);obtain⟨_,_,_,_,v⟩:=eQ (m:=m) (t:=⟨.old,ep,cl,q,look,j,b,o,e,r⟩) (S:=c.S);have n:cl≠0->m.cl≠0:=n;unfold Td.step RsT;dsimp only;generalize Td.fu c.S m ⟨.old,ep,cl,q,look,j,b,o,e,r⟩=u at*;have p:u.st=.old:=p;have v:u.cl=cl:=v;refine⟨?_,?_,?_⟩<;>grind
 |pins=>
  refine rf ?_;unfold Td.step RsT;grind
 |clear=>exact rf trivial
 |line=>
  unfold Td.step RsT;refine⟨?_,?_,?_⟩<;>grind [Fd.new]
 |some=>
  have T:look.fd=none/\q≠[]/\e<=15/\look.kd=3:=T;obtain⟨y,C,z,A⟩:=look;obtain⟨f,_,_,k⟩:=T;have f:A=none:=f;have k:y=3:=k;subst f k;refine⟨?_,?_,?_⟩<;>(unfold Td.step Td.fu Fd.step Fd.all;(try unfold RsT);(try unfold fits jg j6);(try unfold frees);grind)
 |keep=>
  unfold Td.step RsT Td.swap Mm.set upd Fd.again;refine⟨?_,?_,?_⟩<;>grind
 |pop=>
  refine rf ?_;unfold Td.step RsT;grind
 |grant=>exact rf trivial
 |back=>
  refine rf ?_;unfold Td.step RsT;grind
 |dR=>
  refine rf ?_;unfold Td.step RsT;grind
 |eO=>exact⟨λh a=>tA h a,λh a=>tA h a,λh=>h.elim⟩
 |again=>
  unfold Td.step;dsimp only;split<;>exact⟨λh a=>tA h a,λh a=>tA h a,λh=>h.elim⟩
 |done=>exact⟨λh a=>tA h a,λh a=>tA h a,λh=>h.elim⟩
def busy:Ph->Prop| .pin _=>True| .work _=>True| .counts _=>True| .enters _=>True| .wakes _=>True|_=>False
def acV(p:busy (s.ws w).ph):RsP i ((ai c s w).ws w).ph:=by
 cases b:(s.ws w).ph with
 |rest=>rw[b]at p;exact p.elim
 |ax _ _ _=>rw[b]at p;exact p.elim
 |parked _=>rw[b]at p;exact p.elim
 |leaves _=>rw[b]at p;exact p.elim
 |pin h=>
  unfold ai;dsimp only;rw[b];cases h<;>(dsimp only;rw[ae];trivial)
 |work k=>
  have f:ai c s w=ak c w s (s.ws w) k:=by unfold ai;dsimp only;rw[b]
  rw[f];have e:∀(s:Ms) (x:Wr),RsP i x.ph->RsP i ((s.put w x).ws w).ph:=λs x h=>by rw[ae];exact h
  have n:∀x a,RsP i (Wr.end_ x a).ph:=λx a=>trivial;have o:∀x k,RsP i (Wr.to x (.work k)).ph:=λx a=>trivial;have r:∀x k,RsP i (Wr.to x (.enters k)).ph:=λx a=>trivial;have u:∀x k,RsP i (Wr.to x (.counts k)).ph:=λx a=>trivial;unfold ak;dsimp only;repeat' split
  all_goals first|exact e _ _ (n _ _)|exact e _ _ (o _ _)|exact e _ _ (r _ _)|exact e _ _ (u _ _)
 |counts t=>
  unfold ai;dsimp only;rw[b];dsimp only;split
  .split<;>(rw[ae];trivial)
  .rw[ae];trivial
 |enters q=>
  unfold ai;dsimp only;rw[b];dsimp only;split
  .split<;>(rw[ae];trivial)
  .rw[ae];trivial
 |wakes h=>
  unfold ai;dsimp only;rw[b];cases h with
  |none=>unfold dh;rw[ae];trivial
  |some g=>
   unfold dh;dsimp only;split<;>(rw[ae];trivial)
def ahn{x}{q}(T:Dr w q):(aV c w s x q).m.sl=s.m.sl/\(aV c w s x q).m.cl=s.m.cl/\∀h,h∈(aV c w s x q).m.qu->h∈s.m.qu:=by
 grind [aV,Ms.put,Ms.mem,Dr,Qu.step,Qu.fin]
def TcI(s:Ms):Prop:=∀v t p a,(s.ws v).ph=.ax t p a->t.cl≠0->s.m.cl≠0
def RsG(c:Cn)(s:Ms)(w i:Nat):Prop:=RsF i s.m (ai c s w).m (RsP i (s.ws w).ph) (RsP i ((ai c s w).ws w).ph)
def an8(D:i<c.S)(X:jO c w (s.ws w))(E:TcI s):RsG c s w i:=by
 unfold jO at X;unfold RsG;cases n:(s.ws w).ph with
 |rest=>
  have e:ai c s w=s:=by grind [ai]
  rw[e,n];exact⟨λh v=>tA h v,λh v=>tA h v,λh=>h.elim⟩
 |pin h=>exact rf (acV (by rw[n];trivial))
 |work h=>exact rf (acV (by rw[n];trivial))
 |counts h=>exact rf (acV (by rw[n];trivial))
 |enters h=>exact rf (acV (by rw[n];trivial))
 |wakes h=>exact rf (acV (by rw[n];trivial))
 |ax t p a=>
  rw[n]at X;have k:=apZ (w:=w) D X.1 (E w t p a n);cases h:t.step c w s.m with
  |mk B l=>
   rw[h]at k;have e:=ui n h;by_cases x:B.st=.done
   .have y:¬RsT i B:=by unfold RsT;rw[x];exact fun h=>h
    have F:(ai c s w).m=l:=by
     rw[e,tz x];cases p<;>rfl
    rw[F];exact⟨λf o=>tA (k.a f o) y,λf o=>tA (k.b f o) y,λf o G H=>tA (k.c f o G H) y⟩
   .rw[ck x]at e
    rw[e,ae];exact k
 |parked b=>
  by_cases C:s.m.gr w≠0
  .have e:ai c s w=(s.mem s.m).put w ((s.ws w).to (.wakes (some (s.m.gr w)))):=by unfold ai;dsimp only;rw[n];rw[tz C];rfl
   rw[e,ae];exact rf trivial
  .have e:ai c s w=aV c w s (s.ws w) Qu.leave:=by unfold ai;dsimp only;rw[n];rw[ck C]
   obtain⟨r,z,u⟩:=ahn (q:=Qu.leave) (⟨.inl rfl,rfl⟩);rw[<-e]at r z u;exact⟨λf o=>tA (by rw[r]at f;exact f) o,λf o=>tA (qT.2 λa A=>by have:=u a A;rw[f]at this;cases this) o,λh=>h.elim⟩
 |leaves q=>
  rw[n]at X;have e:ai c s w=aV c w s (s.ws w) q:=by unfold ai;dsimp only;rw[n]
  obtain⟨r,z,u⟩:=ahn X;rw[<-e]at r z u;exact⟨λf o=>tA (by rw[r]at f;exact f) o,λf o=>tA (qT.2 λa A=>by have:=u a A;rw[f]at this;cases this) o,λh=>h.elim⟩
def RsI(c:Cn)(s:Ms):Prop:=s.m.cl=0->s.m.qu≠[]->∀i,i<c.S->frees (s.m.sl i)->∃v,v<c.W/\RsP i (s.ws v).ph
def amE(I:RsI c s)(A:All c s)(e:TcI s)(k:(ai c s w).m.cl=0->s.m.cl=0)(n:w<c.W)(o:∀j,j≠w->(ai c s w).ws j=s.ws j):RsI c (ai c s w):=by
 intro p r i h u;obtain⟨a,b,x⟩:=an8 h (A.inv.w w n) e;by_cases f:frees (s.m.sl i)
 .by_cases q:s.m.qu=[]
  .grind
  .obtain⟨v,y,z⟩:=I (k p) q i h f
   grind
 grind
def aok(X:jO c w (s.ws w))(n:s.m.qu.Nodup)(h:(ai c s w).m.cl=0):s.m.cl=0:=cv λq=>(adz X n).e q h
def TdF(c:Cn)(s:Ms)(w:Nat):Prop:=∀t p a,((ai c s w).ws w).ph=.ax t p a->t=Td.new\/∃b,(s.ws w).ph=.ax b p a/\t=(b.step c w s.m).1/\(ai c s w).m=(b.step c w s.m).2
def ahz:TdF c s w:=by
 intro t p a h;cases f:(s.ws w).ph with
 |rest=>
  grind [ai]
 |ax o p0 z=>
  cases n:o.step c w s.m with
  |mk v l=>
   have e:=ui f n;by_cases r:v.st=.done
   .rw[tz r]at e
    rw[e]at h;exfalso;cases p0 with
    |none=>
     have h:(((s.mem l).put w ((s.ws w).to .rest)).ws w).ph=.ax t p a:=h;rw[ae]at h;cases h
    |some b=>
     have h:(((s.mem l).put w ((s.ws w).to (.parked b))).ws w).ph=.ax t p a:=h;rw[ae]at h;cases h
   .rw[ck r]at e
    rw[e,ae]at h;cases h;exact .inr ⟨o,rfl,by rw[n],by rw[e,n];rfl⟩
 |parked b=>
  left;by_cases u:s.m.gr w≠0
  .have e:ai c s w=(s.mem s.m).put w ((s.ws w).to (.wakes (some (s.m.gr w)))):=by unfold ai;dsimp only;rw[f];dsimp only;rw[tz u];rfl
   rw[e,ae]at h;cases h
  .have e:ai c s w=aV c w s (s.ws w) Qu.leave:=by unfold ai;dsimp only;rw[f];dsimp only;rw[ck u]
   rw[e]at h;unfold aV at h;dsimp only at h;split at h
   .split at h<;>(rw[ae]at h;cases h;try rfl)
   .rw[ae]at h;cases h
 |leaves q=>
  left;have e:ai c s w=aV c w s (s.ws w) q:=by unfold ai;dsimp only;rw[f]
  rw[e]at h;unfold aV at h;dsimp only at h;split at h
  .split at h<;>(rw[ae]at h;cases h;try rfl)
  .rw[ae]at h;cases h
 |pin x=>
  left;unfold ai at h;dsimp only at h;rw[f]at h;cases x<;>(dsimp only at h;rw[ae]at h;cases h)
 |work k=>
  left;have y:ai c s w=ak c w s (s.ws w) k:=by unfold ai;dsimp only;rw[f]
  rw[y]at h;unfold ak at h;dsimp only at h;repeat' split at h
  all_goals (rw[ae]at h;cases h;try rfl)
 |counts x=>
  left;unfold ai at h;dsimp only at h;rw[f]at h;dsimp only at h;repeat' split at h
  all_goals (rw[ae]at h;cases h;try rfl)
 |enters q=>
  left;unfold ai at h;dsimp only at h;rw[f]at h;dsimp only at h;repeat' split at h
  all_goals (rw[ae]at h;cases h;try rfl)
 |wakes x=>
  left;unfold ai at h;dsimp only at h;rw[f]at h;cases x with
  |none=>unfold dh at h;rw[ae]at h;cases h
  |some g=>
   unfold dh at h;dsimp only at h;split at h<;>(rw[ae]at h;cases h;try rfl)
def akg{P b:Td->Prop}(I:∀v t p a,(s.ws v).ph=.ax t p a->P t)(o:∀j,j≠w->(ai c s w).ws j=s.ws j)(f:b Td.new)(k:∀t,P t->(ai c s w).m=(t.step c w s.m).2->b (t.step c w s.m).1)(n:∀t,P t->b t):
  ∀v t p a,((ai c s w).ws v).ph=.ax t p a->b t:=by
 intro v t p a h;by_cases e:v=w
 .rw[e]at h
  rcases ahz t p a h with rfl|⟨q,r,u,x⟩
  all_goals grind
 grind
theorem aot{t:Td}:(t.step c w m).1.cl=t.cl\/(t.step c w m).1.cl=m.cl:=by
 grind [Td.step,eQ]
def amx(I:TcI s)(A:All c s)(a:w<c.W)(o:∀j,j≠w->(ai c s w).ws j=s.ws j):TcI (ai c s w):=by
 have b:=(adz (A.inv.w w a) A.nd).e;refine akg I o (λh=>tA rfl h) (λt h e k=> ?_) (λt h k=>b (h k));grind [aot]
end
noncomputable section
open Classical
variable{c:Cn} {w:Nat} {s f:Ms} {m l:Mm} {i:Nat} {g:Bool}
def nz(m l:Mm)(i:Nat)(d own more:Int)(n:aa):Prop:=az (m.sl i) d own more=some n/\l.sl=upd m.sl i n
def RtC(m l:Mm)(r a:Rt):Prop:=(∃n,nz m l r.i 11 0 4095 n/\r.st=.swap/\a.st=.look/\a.i=r.i/\a.wd=n/\a.sw=true)\/(∃n,nz m l r.i 17 0 r.ep n/\r.st=.iI/\a.st=.jk/\a.i=r.i/\m.sl r.i=r.wd)
def agV{r}:(r.step m).2.sl=m.sl\/RtC m (r.step m).2 r (r.step m).1:=by
 obtain⟨i,d,e,a,b⟩:=r;cases a<;>(unfold Rt.step RtC nz Mm.set;grind)
def TdC(w:Nat)(m l:Mm)(t a:Td):Prop:=
 (t.st=.clear/\∃n,nz m l t.i 12 w 0 n)\/
 (t.st=.keep/\∃d n,(d=5\/d=7)/\nz m l t.i d t.head 0 n/\a.st=.pop/\a.i=t.i/\a.head=t.head)\/
 (t.st=.dR/\∃d n,(d=6\/d=8)/\nz m l t.i d w 0 n/\a.st=.cl)\/
 (t.st=.go/\RtC m l t.rt a.rt/\a.st=.go)
def agt{t:Td}{d own}(h:t.swap m d own=some l):∃n,nz m l t.i d own 0 n:=by
 unfold Td.swap at h;split at h
 .split at h
  .rename_i n a e
   cases h;exact⟨n,by unfold nz;rw[e];exact⟨a,rfl⟩⟩
  .cases h
 .cases h
def al9{t}:(t.step c w m).2.sl=m.sl\/TdC w m (t.step c w m).2 t (t.step c w m).1:=by
 have k:= @agV m t.rt;have a:=λd own l h=> @agt m l t d own h;obtain⟨b,p,q,u,look,j,r,o,e,v⟩:=t;cases b with
 |go=>
  grind [RtC,TdC,Td.step]
 |clear=>
  unfold TdC Td.step;cases h:(⟨.clear,p,q,u,look,j,r,o,e,v⟩:Td).swap m 12 w with
  |none=>exact .inl rfl
  |some l=>
   obtain⟨n,x⟩:=a _ _ _ h;exact .inr (.inl ⟨rfl,n,x⟩)
 |keep=>unfold TdC Td.step;grind
 |dR=>unfold TdC Td.step;grind
 |_=>unfold Td.step Mm.pin Mm.nT;grind
def TkC(w:Nat)(m l:Mm)(t a:Tk):Prop:=
 ((t.st=.gp\/t.st=.anyS)/\∃n,nz m l t.look.at_ 3 w 0 n)\/
 (t.st=.dD/\∃n,nz m l t.look.at_ 9 w 0 n)\/
 (t.st=.dQ/\∃n,nz m l t.look.at_ 0 w 0 n/\a.st=.bM/\a.i=t.look.at_/\a.wd=n)\/
 (t.st=.bM/\∃d n,(d=1\/d=2)/\nz m l t.i d w 0 n)\/
 (t.st=.eG/\∃n,nz m l t.i 16 w 0 n/\a.i=t.i/\a.wd=n/\(n.st≠3->a.st=.bM))\/
 (t.st=.go/\RtC m l t.rt a.rt/\a.st=.go)
theorem agq{t a:Tk}{b}{d}(h:t.swap w m i b d=some (a,l)):∃n,nz m l i d w 0 n/\a={t with i:=i,wd:=n,gen:=n.gen}:=by
 rcases lQ (w:=w) (m:=m) (t:=t) (i:=i) (wd:=b) (d:=d)with e|⟨n,k,o,e⟩
 .grind
 .rw[e]at h;cases h;exact⟨n,⟨by rw[o];exact k,rfl⟩,rfl⟩
def aki{r a}(h:RtC m l r a):a.st≠.done:=by unfold RtC at h;grind
def aoo{t}:(t.step w c.S m g).2.sl=m.sl\/TkC w m (t.step w c.S m g).2 t (t.step w c.S m g).1:=by
 have k:= @agV m t.rt;have p:= @aki m (t.rt.step m).2 t.rt (t.rt.step m).1;have q:=λi a d b l h=> @agq w m l i t b a d h;obtain⟨n,look,j,a,o,r,u,e⟩:=t;cases n with
 |go=>unfold TkC Tk.step Tk.fin;grind
 |gp=>unfold TkC Tk.step;grind
 |anyS=>unfold TkC Tk.step Tk.search;grind
 |dQ=>unfold TkC Tk.step;grind
 |dD=>unfold TkC Tk.step nz Mm.set;grind
 |bM=>unfold TkC Tk.step Tk.fin;grind
 |eG=>unfold TkC Tk.step Tk.fin nz Mm.set;grind
 |_=>unfold Tk.step;grind
def apt{g:Gv}:(g.step c w m).2.sl=m.sl\/(g.st=.rest/\∃n,nz m (g.step c w m).2 g.i.toNat 4 w 0 n)\/(g.st=.go/\RtC m (g.step c w m).2 g.rt (g.step c w m).1.rt/\(g.step c w m).1.st=.go):=by
 have k:= @agV m g.rt;have d:= @aki m (g.rt.step m).2 g.rt (g.rt.step m).1;obtain⟨i,a,h,b,o,p,r,e⟩:=g;cases b with
 |go=>unfold Gv.step Gv.fin;grind
 |rest=>unfold Gv.step Gv.fin nz Mm.set;grind
 |_=>unfold Gv.step;grind
def aow{g}(W:ZU c w g):(g.step c w m).2.sl=m.sl\/∃d more n,(d=14\/d=15)/\nz m (g.step c w m).2 g.i.toNat d w more n:=by
 obtain⟨o,i,a,n,b,k,x,u,e⟩:=g;cases b with
 |swap=>
  obtain⟨_,_,_,h,_⟩:=W rfl;unfold Sm.next at h;unfold Sm.step Sm.fin nz Mm.set;grind
 |_=>unfold Sm.step;grind
def dC:Ph->Option Rt
 | .ax t _ _=>if t.st=.go then some t.rt else none
 | .work (.get t)=>if t.st=.go then some t.rt else none
 | .work (.give g)=>if g.st=.go then some g.rt else none
 | .work (.aS r)=>if r.st=.dB then some r.rt else none
 |_=>none
def wy:Ph->Option Tk
 | .work (.get t)=>if t.st=.bM then some t else none
 |_=>none
def dE(x:Wr):Option Nat:=match x.ph with
 | .pin _=>if 0<x.grant/\x.ask.op=0 then some (x.grant-1).toNat else none
 | .work (.get t)=>if t.st=.grant\/t.st=.eG then some t.i else none
 |_=>none
def lN:Ph->Option Nat
 | .ax t _ _=>if t.st=.pop\/t.st=.grant\/t.st=.back\/t.st=.dR then some t.i else none
 |_=>none
def Chg(c:Cn)(w:Nat)(m l:Mm)(x b:Wr):Prop:=
 l.sl=m.sl\/
 (∃i d own more n,nz m l i d own more n/\(d=3\/d=9\/d=4\/d=10\/d=14\/d=15))\/
 (∃i n t,nz m l i 0 w 0 n/\wy b.ph=some t/\t.i=i/\t.wd=n)\/
 (∃i d n t,nz m l i d w 0 n/\(d=1\/d=2)/\wy x.ph=some t/\t.i=i)\/
 (∃i n,nz m l i 16 w 0 n/\dE x=some i/\(n.st≠3->∃t,wy b.ph=some t/\t.i=i/\t.wd=n))\/
 (∃t p a,x.ph=.ax t p a/\TdC w m l t (t.step c w m).1/\l=(t.step c w m).2/\((t.step c w m).1.st≠.done->b.ph=.ax (t.step c w m).1 p a))\/
 (∃r e,RtC m l r e/\dC x.ph=some r/\dC b.ph=some e)
def ah8{t}(h:t.st=.bM):wy (.work (.get t))=some t:=tz h
def ahJ{t}(h:t.st=.go):dC (.work (.get t))=some t.rt:=tz h
theorem ahm{t}(h:t.st=.go):dC (.work (.give t))=some t.rt:=tz h
def ahl{t}(h:t.st=.dB):dC (.work (.aS t))=some t.rt:=tz h
def adl{t}{p}{a}(h:t.st=.go):dC (.ax t p a)=some t.rt:=tz h
def ql(c:Cn)(s:Ms)(w:Nat):Prop:=Chg c w s.m (ai c s w).m (s.ws w) ((ai c s w).ws w)
theorem ac6{x}(e:ai c s w=(s.mem l).put w x)(h:Chg c w s.m l (s.ws w) x):ql c s w:=by
 unfold ql;rw[e,ae];exact h
def adi{x}{o}(e:ai c s w=({s with wo:=o}.mem l).put w x)(h:Chg c w s.m l (s.ws w) x):ql c s w:=by
 unfold ql;rw[e];rw[ae];exact h
theorem uj(h:(ai c s w).m.sl=s.m.sl):ql c s w:=.inl h
def aol{t}(v:(s.ws w).ph=.work (.get t)):ql c s w:=by
 have e:ai c s w=ak c w s (s.ws w) (.get t):=by grind [ai]
 have q:=aoo (c:=c) (w:=w) (m:=s.m) (g:=decide (t.st=.bM)&&s.next.1) (t:=t);obtain⟨B,y⟩:∃B,(if t.st=gm.bM then({s with wo:=s.next.2}:Ms)else s)={s with wo:=B}:=by
  split
  .exact⟨_,rfl⟩
  .exact⟨s.wo,rfl⟩
 unfold ak at e;dsimp only at e;rw[y]at e;have C:∀p:Wr,(∀b,(t.step w c.S s.m (decide (t.st=.bM)&&s.next.1)).1=b->b.st≠.done->p.ph=.work (.get b))->Chg c w s.m (t.step w c.S s.m (decide (t.st=.bM)&&s.next.1)).2 (s.ws w) p:=by
  intro p x;have x:=x _ rfl;generalize (t.step w c.S s.m (decide (t.st=.bM)&&s.next.1)).1=b at q x;rcases q with q|q|q|q|q|q|q
  .exact .inl q
  .obtain⟨_,n,a⟩:=q
   exact .inr (.inl ⟨_,_,_,_,n,a,.inl rfl⟩)
  .obtain⟨_,n,a⟩:=q
   exact .inr (.inl ⟨_,_,_,_,n,a,.inr (.inl rfl)⟩)
  .obtain⟨_,n,a,k,r,o⟩:=q
   exact .inr (.inr (.inl ⟨_,n,b,a,by rw[x (by rw[k];exact gm.noConfusion)];exact ah8 k,r,o⟩))
  .obtain⟨k,d,n,z,a⟩:=q
   exact .inr (.inr (.inr (.inl ⟨_,d,n,t,a,z,by rw[v];exact ah8 k,rfl⟩)))
  .obtain⟨k,n,a,r,o,D⟩:=q
   refine .inr (.inr (.inr (.inr (.inl ⟨_,n,a,by unfold dE;rw[v];dsimp only;rw[tz (.inr k)],λh=>⟨b,?_,r,o⟩⟩))));rw[x (by rw[D h];exact gm.noConfusion)];exact ah8 (D h)
  .obtain⟨k,r,o⟩:=q
   exact .inr (.inr (.inr (.inr (.inr (.inr ⟨_,_,r,by rw[v];exact ahJ k,by rw[x (by rw[o];exact gm.noConfusion)];exact ahJ o⟩)))))
 split at e
 .rename_i z
  have u:=λp=>C p λb A h=>tA (by rw[<-A];exact z) h;split at e
  .split at e
   .exact adi e (u _)
   .exact adi e (u _)
  .split at e
   .exact adi e (u _)
   .exact adi e (u _)
 .exact adi e (C _ λb A _=>by rw[<-A];rfl)
def anl{g}(p:(s.ws w).ph=.work (.give g)):ql c s w:=by
 have e:ai c s w=ak c w s (s.ws w) (.give g):=by grind [ai]
 have q:=apt (c:=c) (w:=w) (m:=s.m) (g:=g);unfold ak at e;dsimp only at e;generalize u:g.step c w s.m=r at q e;have a:∀x:Wr,(r.1.st≠.done->x.ph=.work (.give r.1))->Chg c w s.m r.2 (s.ws w) x:=by
  intro x v;rcases q with q|q|q
  .exact .inl q
  .obtain⟨_,n,b⟩:=q
   exact .inr (.inl ⟨_,_,_,_,n,b,.inr (.inr (.inl rfl))⟩)
  .obtain⟨k,d,y⟩:=q
   exact .inr (.inr (.inr (.inr (.inr (.inr ⟨_,_,d,by rw[p];exact ahm k,by grind [ahm]⟩)))))
 split at e
 .rename_i o
  exact ac6 e (a _ λh=>tA o h)
 .exact ac6 e (a _ λ_=>rfl)
def anj{g}(p:(s.ws w).ph=.work (.bg g))(W:ZU c w g):ql c s w:=by
 have e:ai c s w=ak c w s (s.ws w) (.bg g):=by grind [ai]
 have q:=aow (m:=s.m) W;unfold ak at e;have a:∀x:Wr,Chg c w s.m (g.step c w s.m).2 (s.ws w) x:=by
  intro x;rcases q with q|⟨d,more,n,b,h⟩
  .exact .inl q
  .exact .inr (.inl ⟨_,d,_,more,n,h,by grind⟩)
 grind [ac6]
def ank{r}(p:(s.ws w).ph=.work (.aS r)):ql c s w:=by
 have e:ai c s w=ak c w s (s.ws w) (.aS r):=by grind [ai]
 have q:=agV (m:=s.m) (r:=r.rt);unfold ak at e;dsimp only at e;split at e
 .refine uj ?_
  rw[e];split
  .rfl
  .split<;>rfl
 .refine uj ?_
  rw[e];split<;>rfl
 .split at e
  .rename_i n a
   split at e
   .rename_i b
    exact ac6 e (.inr (.inl ⟨_,10,_,_,n,⟨by rw[b];exact a,rfl⟩,by simp⟩))
   .exact uj (by rw[e];rfl)
  .exact uj (by rw[e];rfl)
 .rename_i h
  have k:= @aki s.m (r.rt.step s.m).2 r.rt (r.rt.step s.m).1;split at e
  .rename_i d
   refine ac6 e ?_;rcases q with q|q
   .exact .inl q
   .exact tA d (k q)
  .refine ac6 e ?_
   rcases q with q|q
   .exact .inl q
   .exact .inr (.inr (.inr (.inr (.inr (.inr ⟨_,_,q,by rw[p];exact ahl h,ahl h⟩)))))
def ahF(X:jO c w (s.ws w))(W:nW c s.m w (s.ws w)):ql c s w:=by
 unfold jO at X;unfold nW at W;cases n:(s.ws w).ph with
 |rest=>grind [ai,uj]
 |pin h=>exact uj (by unfold ai;dsimp only;rw[n];cases h<;>rfl)
 |counts t=>
  refine uj ?_;unfold ai;dsimp only;rw[n];dsimp only;repeat' split
  all_goals rfl
 |enters q=>
  refine uj ?_;unfold ai;dsimp only;rw[n];dsimp only;have k:(q.step c w s.m).2.sl=s.m.sl:=by unfold Qu.step Mm.nT;grind
  repeat' split
  all_goals exact k
 |wakes h=>
  refine uj ?_;unfold ai dh;dsimp only;rw[n];dsimp only;repeat' split
  all_goals rfl
 |leaves q=>
  rw[n]at X;refine uj ?_;have e:ai c s w=aV c w s (s.ws w) q:=by unfold ai;dsimp only;rw[n]
  rw[e];exact(ahn X).1
 |parked b=>
  refine uj ?_;by_cases o:s.m.gr w≠0
  .unfold ai;dsimp only;rw[n];dsimp only;rw[tz o];rfl
  .have e:ai c s w=aV c w s (s.ws w) Qu.leave:=by unfold ai;dsimp only;rw[n];dsimp only;rw[ck o]
   rw[e];exact(ahn (show Dr w Qu.leave from⟨.inl rfl,rfl⟩)).1
 |ax t p a=>
  cases h:t.step c w s.m with
  |mk x l=>
   have q:=al9 (c:=c) (w:=w) (m:=s.m) (t:=t);have e:=ui n h;have v:(ai c s w).m=l:=by
    rw[e];split
    .cases p<;>rfl
    .rfl
   unfold ql;rw[v];rcases q with q|q
   .left;rw[h]at q;exact q
   .refine .inr (.inr (.inr (.inr (.inr (.inl ⟨t,p,a,n,by rw[h]at q ⊢;exact q,by rw[h],fun u=> ?_⟩)))))
    rw[h]at u ⊢;rw[ck u]at e;rw[e,ae];rfl
 |work k=>
  rw[n]at W;cases k with
  |get t=>exact aol n
  |give g=>exact anl n
  |bg g=>exact anj n W.2.2.2
  |stats t=>
   refine uj ?_;unfold ai ak;dsimp only;rw[n];dsimp only;repeat' split
   all_goals rfl
  |aS r=>exact ank n
  |close d=>
   refine uj ?_;cases d with
   |none=>
    unfold ai ak;dsimp only;rw[n];dsimp only;repeat' split
    all_goals rfl
   |some q=>
    unfold ai ak;dsimp only;rw[n];dsimp only;have k:(q.step c w s.m).2.sl=s.m.sl:=by unfold Qu.step Mm.nT;grind
    repeat' split
    all_goals exact k
def qf{x n}{d own more}(h:az x d own more=some n):
  (d=0->x.st=0/\n.st=1/\n.own=own)/\(d=1->x.st=1/\x.own=own/\n.st=3)/\(d=2->x.st=1/\x.own=own/\n.st=0)/\(d=3->x.st=2/\n.st=3)/\(d=4->x.st=3/\n.st=2)/\
  (d=5->x.st=2/\n.st=4/\n.own=own)/\(d=6->x.st=4/\n.st=2)/\(d=7->x.st=0/\n.st=5/\n.own=own)/\(d=8->x.st=5/\n.st=0)/\(d=9->x.st=2/\n.st=2/\n.brk=x.brk)/\(d=10->x.st=2/\n.st=2/\n.brk=x.brk)/\
  (d=11->(x.st=2\/x.st=3)/\n.st=6/\n.ep=more)/\(d=12->x.st=6/\n.st=0)/\(d=14->x.st=3/\n.st=3)/\(d=15->x.st=3/\n.st=3)/\(d=16->(x.st=4/\n.st=3\/x.st=5/\n.st=1)/\x.own=own/\n.own=own)/\(d=17->x.st=6/\n.st=6/\n.ep=more):=by
 obtain⟨r,a,rfl,_⟩:=wG h;refine⟨?_,?_,?_,?_,?_,?_,?_,?_,?_,?_,?_,?_,?_,?_,?_,?_,?_⟩<;>(rintro rfl;unfold uT at a;unfold row0 yB Ce uU yA yz yx yu oK Cc xu tq xq aZ vH sZ xk fM dU at a;grind)
def aqd{t:Tk}(h:(t.step w c.S m g).1.st=.bM):t.st≠.bM/\∃d n,(d=0\/d=16/\n.st≠3)/\nz m (t.step w c.S m g).2 (t.step w c.S m g).1.i d w 0 n/\(t.step w c.S m g).1.wd=n:=by
 have p:=λi a d b l h=> @agq w m l i t b a d h;obtain⟨k,look,j,a,o,q,r,e⟩:=t;cases k with
 |dQ=>unfold Tk.step at *;grind
 |eG=>unfold Tk.step Tk.fin nz Mm.set at *;grind
 |_=>grind [Tk.step,Tk.fin,Tk.search]
def apG{t}(h:wy ((ai c s w).ws w).ph=some t)(F:(s.ws w).ph≠.rest):
  ∃d n,(d=0\/d=16/\n.st≠3)/\nz s.m (ai c s w).m t.i d w 0 n/\t.wd=n:=by
 cases o:(s.ws w).ph with
 |rest=>exact tA o F
 |ax u p0 L=>
  cases A:u.step c w s.m with
  |mk G l=>
   have e:=ui o A;by_cases C:G.st=.done
   .rw[tz C]at e
    rw[e]at h;exfalso;cases p0 with
    |none=>
     have h:wy (((s.mem l).put w ((s.ws w).to .rest)).ws w).ph=some t:=h;rw[ae]at h;cases h
    |some b=>
     have h:wy (((s.mem l).put w ((s.ws w).to (.parked b))).ws w).ph=some t:=h;rw[ae]at h;cases h
   .rw[ck C]at e
    rw[e,ae]at h;cases h
 |parked b=>
  exfalso;by_cases D:s.m.gr w≠0
  .have e:ai c s w=(s.mem s.m).put w ((s.ws w).to (.wakes (some (s.m.gr w)))):=by unfold ai;dsimp only;rw[o];dsimp only;rw[tz D];rfl
   rw[e,ae]at h;cases h
  .have e:ai c s w=aV c w s (s.ws w) Qu.leave:=by unfold ai;dsimp only;rw[o];dsimp only;rw[ck D]
   rw[e]at h;unfold aV at h;dsimp only at h;repeat' split at h
   all_goals (rw[ae]at h;cases h)
 |leaves q=>
  exfalso;have e:ai c s w=aV c w s (s.ws w) q:=by unfold ai;dsimp only;rw[o]
  rw[e]at h;unfold aV at h;dsimp only at h;repeat' split at h
  all_goals (rw[ae]at h;cases h)
 |pin x=>
  exfalso;unfold ai at h;dsimp only at h;rw[o]at h;cases x with
  |none=>dsimp only at h;rw[ae]at h;cases h
  |some N=>
   dsimp only at h;rw[ae]at h;have h:wy (.work (bE (s.ws w)))=some t:=h;unfold bE at h;repeat' split at h
   all_goals cases h
 |work k=>
  have a:ai c s w=ak c w s (s.ws w) k:=by unfold ai;dsimp only;rw[o]
  cases k with
  |get u=>
   obtain⟨z,B⟩:∃z,(if u.st=gm.bM then({s with wo:=s.next.2}:Ms)else s)={s with wo:=z}:=by
    split
    .exact⟨_,rfl⟩
    .exact⟨s.wo,rfl⟩
   unfold ak at a;dsimp only at a;rw[B]at a;have y:∀{E:Wr} {l:Mm},ai c s w=({s with wo:=z}.mem l).put w E->wy E.ph=some t/\(ai c s w).m=l:=λe=>by
    rw[e]at h;have h:wy (({s with wo:=z}.mem _).put w _ |>.ws w).ph=some t:=h;rw[ae]at h;exact⟨h,by rw[e];rfl⟩
   split at a
   .exfalso
    split at a
    .split at a
     .cases(y a).1
     .cases(y a).1
    .split at a
     .cases(y a).1
     .cases(y a).1
   .obtain⟨p,H⟩:=y a
    rw[H];by_cases v:(u.step w c.S s.m (decide (u.st=.bM)&&s.next.1)).1.st=.bM
    .have p:=(ah8 v).symm.trans p
     obtain⟨_,d,n,I,J,K⟩:=aqd v;rw[<-Option.some.inj p];exact⟨d,n,I,J,K⟩
    .have p:wy (.work (.get (u.step w c.S s.m (decide (u.st=.bM)&&s.next.1)).1))=some t:=p
     unfold wy at p;dsimp only at p;rw[ck v]at p;cases p
  |give g=>
   exfalso;rw[a]at h;unfold ak at h;dsimp only at h;repeat' split at h
   all_goals (rw[ae]at h;cases h)
  |bg g=>
   exfalso;rw[a]at h;unfold ak at h;dsimp only at h;repeat' split at h
   all_goals (rw[ae]at h;cases h)
  |stats g=>
   exfalso;rw[a]at h;unfold ak at h;dsimp only at h;repeat' split at h
   all_goals (rw[ae]at h;cases h)
  |aS r=>
   exfalso;rw[a]at h;unfold ak at h;dsimp only at h;repeat' split at h
   all_goals (rw[ae]at h;cases h)
  |close d=>
   cases d with
   |none=>
    exfalso;rw[a]at h;have h:wy (((s.mem _).put w ((s.ws w).to (.work (.close (some Qu.drain))))).ws w).ph=some t:=h;rw[ae]at h;cases h
   |some q=>
    exfalso;rw[a]at h;unfold ak at h;dsimp only at h;repeat' split at h
    all_goals (rw[ae]at h;cases h)
 |counts x=>
  exfalso;unfold ai at h;dsimp only at h;rw[o]at h;dsimp only at h;repeat' split at h
  all_goals (rw[ae]at h;cases h)
 |enters q=>
  unfold ai at h;dsimp only at h;rw[o]at h;dsimp only at h;repeat' split at h
  all_goals (rw[ae]at h;cases h)
 |wakes x=>
  unfold ai at h;dsimp only at h;rw[o]at h;cases x with
  |none=>unfold dh at h;rw[ae]at h;cases h
  |some g=>
   unfold dh at h;dsimp only at h;split at h<;>(rw[ae]at h;cases h)
def ah7{t}(h:(s.ws w).ph=.work (.get t)):(ai c s w).m=(t.step w c.S s.m (decide (t.st=.bM)&&s.next.1)).2:=by
 have e:ai c s w=ak c w s (s.ws w) (.get t):=by grind [ai]
 unfold ak at e;dsimp only at e;rw[e];repeat' split
 all_goals rfl
def aqe{p}{t}(h:wy p=some t):p=.work (.get t)/\t.st=.bM:=by
 unfold wy at h;grind
structure DlI(c:Cn)(s:Ms):Prop where
 a:∀i,i<c.S->(s.m.sl i).st=1->∃v t,v<c.W/\wy (s.ws v).ph=some t/\t.i=i
 b:∀v t,wy (s.ws v).ph=some t->s.m.sl t.i=t.wd/\t.wd.st=1/\t.wd.own=v
def aoh{t}(h:wy (s.ws w).ph=some t)(b:s.m.sl t.i=t.wd/\t.wd.st=1/\t.wd.own=w)(F:Facts (s.m.sl t.i))(q:w<=15):∃d n,(d=1\/d=2)/\nz s.m (ai c s w).m t.i d w 0 n:=by
 obtain⟨p,o⟩:=aqe h;rw[ah7 p];obtain⟨a,e,k⟩:=b;have r:∃n,az t.wd 1 w 0=some n:=by
  unfold az;rw[tz ⟨kN.2 (by rw[<-a];exact F),by omega,by omega⟩];exact⟨_,by show(yB t.wd w).map _=_;unfold yB;rw[tz ⟨e,k⟩];rfl⟩
 have u:∃n,az t.wd 2 w 0=some n:=by
  unfold az;rw[tz ⟨kN.2 (by rw[<-a];exact F),by omega,by omega⟩];exact⟨_,by show(Ce t.wd w).map _=_;unfold Ce;rw[tz ⟨e,k⟩];rfl⟩
 generalize (decide (t.st=.bM)&&s.next.1)=g;unfold Tk.step Tk.swap Tk.fin nz Mm.set;cases g<;>grind
def anv{x r}{d own more}(h:uT x d own more=some r):d=0\/d=1\/d=2\/d=3\/d=4\/d=5\/d=6\/d=7\/d=8\/d=9\/d=10\/d=11\/d=12\/d=13\/d=14\/d=15\/d=16\/d=17:=by
 grind [uT]
def an'{x n}{d own more}(h:az x d own more=some n)(b:x.st=1)(e:d≠13):(d=1\/d=2)/\x.own=own:=by
 obtain⟨r,a,_⟩:=wG h;have q:=qf h;rcases anv a with rfl|rfl|rfl|rfl|rfl|rfl|rfl|rfl|rfl|rfl|rfl|rfl|rfl|rfl|rfl|rfl|rfl|rfl<;>(grind)
theorem aoF{x n}{d own more}(h:az x d own more=some n)(b:n.st=1)(e:d≠13):d=0\/d=16:=by
 obtain⟨r,a,_⟩:=wG h;have q:=qf h;rcases anv a with rfl|rfl|rfl|rfl|rfl|rfl|rfl|rfl|rfl|rfl|rfl|rfl|rfl|rfl|rfl|rfl|rfl|rfl<;>(grind)
def amm(C:ql c s w)(i):(ai c s w).m.sl i=s.m.sl i\/∃d own more,az (s.m.sl i) d own more=some ((ai c s w).m.sl i)/\d≠13/\(d=1\/d=2->own=w)/\
  (d=0\/d=16->((ai c s w).m.sl i).st=1->∃t,wy ((ai c s w).ws w).ph=some t/\t.i=i):=by
 have b:∀{j:Nat} {d own more:Int} {n:aa},nz s.m (ai c s w).m j d own more n->(ai c s w).m.sl i=s.m.sl i\/(i=j/\az (s.m.sl i) d own more=some ((ai c s w).m.sl i)/\(ai c s w).m.sl i=n):=by
  intro j d own more n h;unfold nz at h;by_cases e:i=j
  .subst e;right;rw[h.2,ky];exact⟨rfl,h.1,rfl⟩
  .left;rw[h.2,il _ _ e]
 have x:∀{r v:Rt},RtC s.m (ai c s w).m r v->(ai c s w).m.sl i=s.m.sl i\/∃d own more,az (s.m.sl i) d own more=some ((ai c s w).m.sl i)/\(d=11\/d=17):=by
  intro r v h;unfold RtC at h;rcases h with⟨n,o,_⟩|⟨n,o,_⟩
  .rcases b o with k|⟨_,k,_⟩
   .exact .inl k
   .exact .inr ⟨_,_,_,k,.inl rfl⟩
  .rcases b o with k|⟨_,k,_⟩
   .exact .inl k
   .exact .inr ⟨_,_,_,k,.inr rfl⟩
 unfold ql Chg at C;rcases C with C|C|C|C|C|C|C
 .left;rw[C]
 .obtain⟨j,d,own,more,n,o,q⟩:=C
  rcases b o with k|⟨_,k,_⟩
  .exact .inl k
  .exact .inr ⟨d,own,more,k,by omega,λh=>by omega,λh=>by omega⟩
 .obtain⟨j,n,t,o,y,u,D⟩:=C
  rcases b o with k|⟨e,k,_⟩
  .exact .inl k
  .exact .inr ⟨_,_,_,k,by omega,λh=>by omega,λ_ _=>⟨t,y,by rw[u,e]⟩⟩
 .obtain⟨j,d,n,t,o,q,_⟩:=C
  rcases b o with k|⟨_,k,_⟩
  .exact .inl k
  .exact .inr ⟨_,_,_,k,by omega,λ_=>rfl,λh=>by omega⟩
 .obtain⟨j,n,o,_,u⟩:=C
  rcases b o with k|⟨e,k,z⟩
  .exact .inl k
  .refine .inr ⟨_,_,_,k,by omega,fun h=>by omega,fun _ h=> ?_⟩
   obtain⟨t,A,B,_⟩:=u (by rw[<-z];omega);exact⟨t,A,by rw[B,e]⟩
 .obtain⟨t,p,a,_,h,_⟩:=C
  rcases h with⟨_,n,o⟩|⟨_,d,n,q,o,_⟩|⟨_,d,n,q,o,_⟩|⟨_,h,_⟩
  .rcases b o with k|⟨_,k,_⟩
   .exact .inl k
   .exact .inr ⟨_,_,_,k,by omega,λh=>by omega,λh=>by omega⟩
  .rcases b o with k|⟨_,k,_⟩
   .exact .inl k
   .exact .inr ⟨_,_,_,k,by omega,λh=>by omega,λh=>by omega⟩
  .rcases b o with k|⟨_,k,_⟩
   .exact .inl k
   .exact .inr ⟨_,_,_,k,by omega,λh=>by omega,λh=>by omega⟩
  .rcases x h with k|⟨d,own,more,k,q⟩
   .exact .inl k
   .exact .inr ⟨_,_,_,k,by omega,λh=>by omega,λh=>by omega⟩
 grind
def ane(I:DlI c s)(A:All c s)(x:w<c.W)(W:c.W<=15)(R:aQ s w)(o:∀j,j≠w->(ai c s w).ws j=s.ws j):DlI c (ai c s w):=by
 have C:=ahF (A.inv.w w x) (A.wd w x);have H:(s.ws w).ph≠.rest:=λh=>by grind [aQ]
 refine⟨λi y u=> ?_,λv t h=> ?_⟩
 .rcases amm C i with k|⟨d,own,more,k,z,B,J⟩
  .rw[k]at u
   obtain⟨v,t,K,b,a⟩:=I.a i y u;by_cases e:v=w
   .exfalso
    rw[e]at b;have F:Facts (s.m.sl t.i):=A.inv.m.1 t.i (by rw[a];exact y);have L:=I.b w t b;obtain⟨d,n,r,p⟩:=aoh b L F (by omega);have q:=qf p.1;have N:(ai c s w).m.sl i=n:=by rw[p.2, <-a,ky]
    rw[<-k,N]at u;rcases r with r|r
    .omega
    .omega
   .exact⟨v,t,K,by rw[o v e];exact b,a⟩
  grind [aoF]
 .by_cases e:v=w
  .rw[e]at h ⊢
   obtain⟨d,n,r,p,b⟩:=apG h H;have q:=qf p.1;rw[p.2,ky];refine⟨b.symm,?_,?_⟩
   .grind
   .grind
  .rw[o v e]at h
   obtain⟨D,E,G⟩:=I.b v t h;rcases amm C t.i with k|⟨d,own,more,k,z,B,J⟩
   .rw[k];exact⟨D,E,G⟩
   .exfalso
    rw[D]at k;obtain⟨O,P⟩:=an' k E z;have Q:(v:Int)=(w:Int):=by rw[<-G,P,B O]
    exact e (Int.ofNat.inj Q)
def tX(x:aa):Prop:=x.st=4\/x.st=5
def adI(m l:Mm):Prop:=∀i,(tX (l.sl i)↔tX (m.sl i))/\(tX (m.sl i)->(l.sl i).own=(m.sl i).own)
theorem ma(h:l.sl=m.sl):adI m l:=λi=>by grind
def an9{x n}{d own more}(h:az x d own more=some n)(a:d=3\/d=9\/d=4\/d=10\/d=14\/d=15\/d=0\/d=1\/d=2\/d=11\/d=12\/d=17):¬tX x/\¬tX n:=by
 obtain⟨r,u,v,y,z,A,B,C,D,E,O,q,b,e,k,o,p⟩:=qf h;unfold tX;rcases a with rfl|rfl|rfl|rfl|rfl|rfl|rfl|rfl|rfl|rfl|rfl|rfl
 all_goals grind
theorem ahR{j}{d own more}{n}(h:nz m l j d own more n)(o:d=3\/d=9\/d=4\/d=10\/d=14\/d=15\/d=0\/d=1\/d=2\/d=11\/d=12\/d=17):adI m l:=by
 intro i;obtain⟨p,k⟩:=h;obtain⟨a,b⟩:=an9 p o;by_cases e:i=j
 .subst e
  rw[k,ky];grind
 .rw[k,il _ _ e]
  grind
theorem akH{r b}(h:RtC m l r b):adI m l:=by
 rcases h with⟨n,a,_⟩|⟨n,a,_⟩
 .exact ahR a (by omega)
 grind [ahR]
def amN(C:ql c s w)(h:∀t p a,(s.ws w).ph≠.ax t p a)(b:dE (s.ws w)=none):adI s.m (ai c s w).m:=by
 grind [ql,Chg,ma,ahR,akH]
def PQ(t:Td):Option Nat:=if t.st=.pop\/t.st=.grant\/t.st=.back\/t.st=.dR then some t.i else none
def mr:Ph->Option (Nat×Nat)
 | .ax t _ _=>if t.st=.pop\/t.st=.grant then some (t.i,t.head)else none
 |_=>none
def PH(t:Td):Option (Nat×Nat):=if t.st=.pop\/t.st=.grant then some (t.i,t.head)else none
inductive KpS(w:Nat)(m l:Mm)(a a' b b':Option Nat)(h h':Option (Nat×Nat)):Prop
 |same:adI m l->l.gr=m.gr->a'=a->b'=b->(∀x,h'=some x->h=some x)->KpS w m l a a' b b' h h'
 |keep (i k:Nat) (n:aa):l.sl=upd m.sl i n->¬tX (m.sl i)->tX n->n.own=k->l.gr=m.gr->a=none->a'=some i->b'=b->h'=some (i,k)->KpS w m l a a' b b' h h'
 |drop (i:Nat) (n:aa):l.sl=upd m.sl i n->¬tX n->l.gr=m.gr->a=some i->a'=none->b'=b->h'=none->KpS w m l a a' b b' h h'
 |grant (i k:Nat):l.sl=m.sl->l.gr=upd m.gr k ((i:Int)+1)->a=some i->h=some (i,k)->a'=none->b'=b->h'=none->KpS w m l a a' b b' h h'
 |tell (k:Nat):l.sl=m.sl->l.gr=upd m.gr k (-1)->a'=a->b'=b->h'=none->KpS w m l a a' b b' h h'
 |used:l.sl=m.sl->l.gr=upd m.gr w 0->a'=a->b=none->b'=(if 0<m.gr w then some (m.gr w-1).toNat else none)->h'=none->KpS w m l a a' b b' h h'
 |take (i:Nat) (n:aa):l.sl=upd m.sl i n->¬tX n->l.gr=m.gr->a'=a->b=some i->b'=none->h'=none->KpS w m l a a' b b' h h'
def ap3{t}(K:t.st=.back->tX (m.sl t.i)):KpS w m (t.step c w m).2 (PQ t) (PQ (t.step c w m).1) none none (PH t) (PH (t.step c w m).1):=by
 have q:=al9 (c:=c) (w:=w) (m:=m) (t:=t);have G:= @Ps m t.rt;have r:=λd own l h=> @ac3 m l t d own h;obtain⟨H,I,v,J⟩:=G;obtain⟨E,z,A,B,look,j,b,o,e,u⟩:=t;have N:∀t:Td,(t.fu c.S m).st=t.st:=λt=>eQ.1;have C:=λd own l h=> @agt m l ⟨E,z,A,B,look,j,b,o,e,u⟩ d own h;cases E with
 |keep=>
  unfold Td.step PQ PH;dsimp only;cases h:(⟨.keep,z,A,B,look,j,b,o,e,u⟩:Td).swap m (if b.st=2 then 5 else 7) e with
  |none=>exact .same (ma rfl) rfl rfl rfl (λx a=>by cases a)
  |some l=>
   obtain⟨n,p,D⟩:=C _ _ _ h;have q:=qf p;have k:(if b.st=2 then(5:Int)else 7)=5\/(if b.st=2 then(5:Int)else 7)=7:=by split<;>simp
   have p:az (m.sl j) (if b.st=2 then 5 else 7) e 0=some n:=p;have q:=qf p;generalize (if b.st=2 then(5:Int)else 7)=d at*
   have y:¬tX (m.sl j)/\tX n/\n.own=(e:Int):=by
    unfold tX;rcases k with k|k
    .have:=q.2.2.2.2.2.1 k;omega
    .have:=q.2.2.2.2.2.2.2.1 k;omega
   refine .keep j e n D y.1 y.2.1 y.2.2 (r _ _ _ h).gr rfl rfl rfl rfl
 |dR=>
  unfold Td.step PQ PH;dsimp only;cases h:(⟨.dR,z,A,B,look,j,b,o,e,u⟩:Td).swap m (if b.st=4 then 6 else 8) w with
  |none=>exact .same (ma rfl) rfl rfl rfl (λx a=>by cases a)
  |some l=>
   obtain⟨n,p,D⟩:=C _ _ _ h;have p:az (m.sl j) (if b.st=4 then 6 else 8) w 0=some n:=p;have q:=qf p;have k:(if b.st=4 then(6:Int)else 8)=6\/(if b.st=4 then(6:Int)else 8)=8:=by split<;>simp
   generalize (if b.st=4 then(6:Int)else 8)=d at*
   have y:¬tX n:=by
    unfold tX;rcases k with k|k
    .have:=q.2.2.2.2.2.2.1 k;omega
    .have:=q.2.2.2.2.2.2.2.2.1 k;omega
   exact .drop j n D y (r _ _ _ h).gr rfl rfl rfl rfl
 |pop=>
  unfold Td.step PQ PH;dsimp only;split
  .exact .same (ma rfl) rfl rfl rfl (λx a=>a)
  .exact .same (ma rfl) rfl rfl rfl (λx a=>by cases a)
 |grant=>exact .grant j e rfl rfl rfl rfl rfl rfl rfl
 |back=>
  have K:(m.sl j).st=4\/(m.sl j).st=5:=K rfl;unfold Td.step PQ PH;dsimp only;simp only[tz K];exact .same (ma rfl) rfl rfl rfl (λx a=>by cases a)
 |go=>
  have F:adI m (u.step m).2:=by
   rcases @agV m u with q|q
   .exact ma q
   .exact akH q
  unfold Td.step PQ PH;dsimp only;split
  .exact .same F v rfl rfl (λx a=>by cases a)
  .exact .same F v rfl rfl (λx a=>by cases a)
 |clear=>
  unfold Td.step PQ PH;dsimp only;cases h:(⟨.clear,z,A,B,look,j,b,o,e,u⟩:Td).swap m 12 w with
  |none=>exact .same (ma rfl) rfl rfl rfl (λx a=>by cases a)
  |some l=>
   obtain⟨n,L⟩:=C _ _ _ h;exact .same (ahR L (by omega)) (r _ _ _ h).gr rfl rfl (λx a=>by cases a)
 |_=>exact .same (ma (by unfold Td.step Mm.pin;grind)) (by unfold Td.step Mm.pin;grind) (by unfold Td.step PQ;grind) rfl (by unfold Td.step PH;grind)
def KpG(c:Cn)(s:Ms)(w:Nat):Prop:=KpS w s.m (ai c s w).m (lN (s.ws w).ph) (lN ((ai c s w).ws w).ph) (dE (s.ws w)) (dE ((ai c s w).ws w)) (mr (s.ws w).ph) (mr ((ai c s w).ws w).ph)
def amg{p}(h:∀t q a,p=.ax t q a->t=Td.new):lN p=none/\mr p=none:=by
 cases p with
 |ax t q a=>rw[h t q a rfl];exact⟨rfl,rfl⟩
 |_=>exact⟨rfl,rfl⟩
def aoj(b:∀t p a,(s.ws w).ph≠.ax t p a):lN ((ai c s w).ws w).ph=none/\mr ((ai c s w).ws w).ph=none:=
 amg λt q a h=>by
  rcases ahz t q a h with k|⟨d,k,_⟩
  all_goals grind
def aoi{p}(b:∀t q a,p≠.ax t q a):lN p=none/\mr p=none:=amg λt q a h=>tA h (b t q a)
def akl(C:ql c s w)(h:∀t p a,(s.ws w).ph≠.ax t p a)(d:dE (s.ws w)=none)(e:dE ((ai c s w).ws w)=none)(k:(ai c s w).m.gr=s.m.gr):KpG c s w:=by
 obtain⟨a,b⟩:=aoj h;obtain⟨n,o⟩:=aoi h;unfold KpG;rw[a,b,n,o,d,e];exact .same (amN C h d) k rfl rfl (λx q=>q)
def akO{x:Wr}{p}(h:∀t,p=.work (.get t)->t.st≠.grant/\t.st≠.eG)(a:∀q,p≠.pin q):dE (x.to p)=none:=by
 grind [dE,Wr.to]
def apY{t:Tk}(h:t.st≠.grant/\t.st≠.eG):(t.step w c.S m g).1.st≠.grant/\(t.step w c.S m g).1.st≠.eG:=by
 grind [Tk.step,Tk.fin,Tk.search]
def aoL{t}(b:(s.ws w).ph=.work (.get t))(C:ql c s w)(d:t.st≠.grant/\t.st≠.eG):KpG c s w:=by
 refine akl C (λt p a=>by grind) ?_ ?_ ?_
 .grind [dE]
 .have e:ai c s w=ak c w s (s.ws w) (.get t):=by unfold ai;dsimp only;rw[b]
  rw[e];unfold ak;dsimp only;have k:=apY (w:=w) (c:=c) (m:=s.m) (g:=decide (t.st=.bM)&&s.next.1) d;repeat' split
  all_goals (rw[ae];first|rfl|exact akO (λt h=>by cases h;first|exact k|exact k2) (λq h=>by cases h))
 .rw[ah7 b];exact ahI.gr
def amc{t}{p}{a}(d:(s.ws w).ph=.ax t p a)(K:t.st=.back->tX (s.m.sl t.i)):KpG c s w:=by
 have k:=ap3 (c:=c) (w:=w) K;have q:dE (s.ws w)=none:=by unfold dE;rw[d]
 have r:lN (s.ws w).ph=PQ t:=by rw[d];rfl
 have u:mr (s.ws w).ph=PH t:=by rw[d];rfl
 unfold KpG;rw[q,r,u];cases h:t.step c w s.m with
 |mk o l=>
  rw[h]at k;have e:=ui d h;by_cases n:o.st=.done
  .have x:PQ o=none:=by unfold PQ;rw[n];rfl
   have v:PH o=none:=by unfold PH;rw[n];rfl
   rw[tz n]at e;have:(ai c s w).m=l/\lN ((ai c s w).ws w).ph=none/\dE ((ai c s w).ws w)=none/\mr ((ai c s w).ws w).ph=none:=by
    rw[e];cases p with
    |some b=>
     show l=l/\lN (((s.mem l).put w ((s.ws w).to (.parked b))).ws w).ph=none/\dE (((s.mem l).put w ((s.ws w).to (.parked b))).ws w)=none/\mr (((s.mem l).put w ((s.ws w).to (.parked b))).ws w).ph=none;rw[ae];exact⟨rfl,rfl,rfl,rfl⟩
    |none=>
     show l=l/\lN (((s.mem l).put w ((s.ws w).to .rest)).ws w).ph=none/\dE (((s.mem l).put w ((s.ws w).to .rest)).ws w)=none/\mr (((s.mem l).put w ((s.ws w).to .rest)).ws w).ph=none;rw[ae];exact⟨rfl,rfl,rfl,rfl⟩
   grind
  .rw[ck n]at e
   rw[e,ae];exact k
def GsW(w:Nat):Ph->Prop
 | .work (.get t)=>t.st=.eG->tX t.wd/\t.wd.own=w/\Facts t.wd
 |_=>True
def xn{x}(e:ai c s w=(s.mem l).put w x)(h:KpS w s.m l (lN (s.ws w).ph) (lN x.ph) (dE (s.ws w)) (dE x) (mr (s.ws w).ph) (mr x.ph)):KpG c s w:=by
 unfold KpG;rw[e,ae];exact h
def aj1{t}(p:(s.ws w).ph=.work (.get t))(d:t.st≠.bM)(h:(t.step w c.S s.m false).1.st≠.done):ai c s w=(s.mem (t.step w c.S s.m false).2).put w ((s.ws w).to (.work (.get (t.step w c.S s.m false).1))):=by
 grind [ai,ak]
def ahd{x}(k:tX x)(h:x.own=w)(F:Facts x)(a:w<=15):∃n,az x 16 w 0=some n:=by
 unfold az;rw[tz ⟨kN.2 F,by omega,by omega⟩];rcases k with k|k
 .exact⟨_,by show(sZ x w).map _=_;unfold sZ;rw[tz ⟨k,h⟩];rfl⟩
 .exact⟨_,by show(sZ x w).map _=_;unfold sZ;rw[ck (by omega),tz ⟨k,h⟩];rfl⟩
def amO{t}(p:(s.ws w).ph=.work (.get t))(b:t.st=.grant\/t.st=.eG)(G:GsW w (.work (.get t)))(C:w<=15):KpG c s w:=by
 obtain⟨H,look,j,k,a,o,r,e⟩:=t;have u:dE (s.ws w)=some j:=by grind [dE]
 have v:lN (s.ws w).ph=none:=by rw[p];rfl
 have y:mr (s.ws w).ph=none:=by rw[p];rfl
 rcases b with b|b
 .subst b
  have e:=aj1 (c:=c) p gm.noConfusion (by intro h;cases h);refine xn e ?_;rw[v,u,y];exact .same (ma rfl) rfl rfl rfl (λx z=>by cases z)
 .subst b
  obtain⟨D,E,F⟩:=G rfl;obtain⟨n,A⟩:=ahd D E F C;by_cases B:s.m.sl j=k
  .have d:Tk.step w c.S s.m false ⟨.eG,look,j,k,a,o,r,e⟩=(⟨if n.st=3 then .check else .bM,look,j,n,n.gen,o,r,e⟩,s.m.set j n):=by
    unfold Tk.step;rw[A];dsimp only;rw[tz B]
   have e:=aj1 p gm.noConfusion (by rw[d];split<;>exact gm.noConfusion);rw[d]at e;refine xn e ?_;rw[v,u,y];have q:=(qf A).2.2.2.2.2.2.2.2.2.2.2.2.2.2.2.1 rfl;refine .take j n rfl (by unfold tX;omega) rfl rfl rfl ?_ rfl;exact akO (λt h=>by cases h;split<;>exact⟨gm.noConfusion,gm.noConfusion⟩) (λq h=>by cases h)
  .have d:Tk.step w c.S s.m false ⟨.eG,look,j,k,a,o,r,e⟩=(⟨.grant,look,j,k,a,o,r,e⟩,s.m):=by
    unfold Tk.step;rw[A];dsimp only;rw[ck B]
   have e:=aj1 p gm.noConfusion (by rw[d];exact gm.noConfusion);rw[d]at e;refine xn e ?_;rw[v,u,y];exact .same (ma rfl) rfl rfl rfl (λx z=>by cases z)
def ama{x}{h}(p:x.ph=.pin h):dE (x.to (.work (bE x)))=dE x:=by
 have e:dE x=if 0<x.grant/\x.ask.op=0 then some (x.grant-1).toNat else none:=by unfold dE;rw[p]
 rw[e];by_cases b:x.ask.op=0
 .have d:bE x=.get (if x.grant>0 then Tk.granted (x.grant-1).toNat else Tk.new):=by unfold bE;rw[b];rfl
  rw[d];by_cases a:x.grant>0
  .rw[tz a,tz ⟨a,b⟩];rfl
  .rw[ck a,ck (λq=>a q.1)];rfl
 .rw[ck (fun q=>b q.2)]
  unfold bE;split
  .grind
  all_goals rfl
def aob(X:jO c w (s.ws w))(W:nW c s.m w (s.ws w))(L:w<=15)(G:GsW w (s.ws w).ph)(K:∀t p a,(s.ws w).ph=.ax t p a->t.st=.back->tX (s.m.sl t.i))(N:∀g,(s.ws w).ph=.wakes (some g)->g=s.m.gr w)(E:∀g,(s.ws w).ph=.wakes g->s.m.gr w≠0):KpG c s w:=by
 have C:=ahF X W;unfold jO at X;unfold nW at W;have plain:(∀t p a,(s.ws w).ph≠.ax t p a)->dE (s.ws w)=none->dE ((ai c s w).ws w)=none->(ai c s w).m.gr=s.m.gr->KpG c s w:=λv z O A=>akl C v z O A;cases n:(s.ws w).ph with
 |rest=>
  have e:ai c s w=s:=by unfold ai;dsimp only;rw[n]
  unfold KpG;rw[e];exact .same (ma rfl) rfl rfl rfl (λx u=>u)
 |pin h=>
  have v:lN (s.ws w).ph=none:=by rw[n];rfl
  have y:mr (s.ws w).ph=none:=by rw[n];rfl
  cases h with
  |none=>
   have e:ai c s w=(s.mem s.m).put w ((s.ws w).to (.pin (some s.m.ep))):=by unfold ai;dsimp only;rw[n];rfl
   refine xn e ?_;rw[v,y];refine .same (ma rfl) rfl rfl ?_ (λx u=>by cases u);unfold dE;rw[n];rfl
  |some P=>
   have e:ai c s w=(s.mem (s.m.pin w (aR (P+1)))).put w ((s.ws w).to (.work (bE (s.ws w)))):=by unfold ai;dsimp only;rw[n]
   refine xn e ?_;rw[v,y];exact .same (ma rfl) rfl rfl (ama n) (λx u=>by cases u)
 |work k=>
  rw[n]at G X;cases k with
  |get t=>
   by_cases F:t.st=.grant\/t.st=.eG
   .exact amO n F G L
   .exact aoL n C ⟨λh=>F (.inl h),λh=>F (.inr h)⟩
  |close d=>
   cases d with
   |none=>
    have o:ai c s w=ak c w s (s.ws w) (.close none):=by unfold ai;dsimp only;rw[n]
    refine plain (λt p a=>by rw[n];exact Ph.noConfusion) (by unfold dE;rw[n]) ?_ ?_
    .rw[o]
     show dE (((s.mem _).put w ((s.ws w).to (.work (.close (some Qu.drain))))).ws w)=none;rw[ae];rfl
    .rw[o]
     show(if(s.ws w).ask.force then{s.m with cl:=2}else if s.m.cl=0 then{s.m with cl:=1}else s.m:Mm).gr=_
     repeat' split
     all_goals rfl
   |some q=>
    cases h:q.step c w s.m with
    |mk Q l=>
     have e:=QR n h;have H:l.sl=s.m.sl/\(l.gr=s.m.gr\/l.gr=upd s.m.gr q.first (-1)):=by
      have:l=(q.step c w s.m).2:=by rw[h]
      rw[this];unfold Qu.step Mm.nT;constructor<;>grind
     have v:lN (s.ws w).ph=none:=by rw[n];rfl
     have z:dE (s.ws w)=none:=by unfold dE;rw[n]
     have y:mr (s.ws w).ph=none:=by rw[n];rfl
     have D:∀{B:Wr},lN B.ph=none->dE B=none->mr B.ph=none->KpS w s.m l (lN (s.ws w).ph) (lN B.ph) (dE (s.ws w)) (dE B) (mr (s.ws w).ph) (mr B.ph):=λR S U=>by
      rw[v,z,y,R,S,U];rcases H.2 with k|k
      .exact .same (ma H.1) k rfl rfl (λx u=>u)
      .exact .tell _ H.1 k rfl rfl rfl
     by_cases J:Q.st=.done
     .rw[tz J]at e
      exact xn e (D rfl rfl rfl)
     .rw[ck J]at e
      exact xn e (D rfl rfl rfl)
  |give g=>
   have o:ai c s w=ak c w s (s.ws w) (.give g):=by unfold ai;dsimp only;rw[n]
   refine plain (λt p a=>by rw[n];exact Ph.noConfusion) (by unfold dE;rw[n]) ?_ ?_
   .rw[o];unfold ak;dsimp only
    repeat' split
    all_goals (rw[ae];rfl)
   .rw[o];unfold ak;dsimp only
    have k:=(akd (c:=c) (w:=w) (m:=s.m) (g:=g)).gr;repeat' split
    all_goals exact k
  |bg g=>
   have o:ai c s w=ak c w s (s.ws w) (.bg g):=by unfold ai;dsimp only;rw[n]
   refine plain (λt p a=>by rw[n];exact Ph.noConfusion) (by unfold dE;rw[n]) ?_ ?_
   .rw[o];unfold ak;dsimp only
    repeat' split
    all_goals (rw[ae];rfl)
   .rw[o];unfold ak;dsimp only
    have k:=(akb (c:=c) (w:=w) (m:=s.m) (g:=g)).gr;repeat' split
    all_goals exact k
  |stats g=>
   have o:ai c s w=ak c w s (s.ws w) (.stats g):=by unfold ai;dsimp only;rw[n]
   refine plain (λt p a=>by rw[n];exact Ph.noConfusion) (by unfold dE;rw[n]) ?_ ?_
   .rw[o];unfold ak;dsimp only
    repeat' split
    all_goals (rw[ae];rfl)
   .rw[o];unfold ak;dsimp only
    repeat' split
    all_goals rfl
  |aS r=>
   have o:ai c s w=ak c w s (s.ws w) (.aS r):=by unfold ai;dsimp only;rw[n]
   refine plain (λt p a=>by rw[n];exact Ph.noConfusion) (by unfold dE;rw[n]) ?_ ?_
   .rw[o];unfold ak;dsimp only
    repeat' split
    all_goals (rw[ae];rfl)
   .rw[o];unfold ak;dsimp only
    have k:=(Ps (m:=s.m) (r:=r.rt)).gr;repeat' split
    all_goals first|rfl|exact k
 |counts t=>
  refine plain (λt p a=>by rw[n];exact Ph.noConfusion) (by unfold dE;rw[n]) ?_ ?_
  .unfold ai;dsimp only;rw[n];dsimp only
   repeat' split
   all_goals (rw[ae];rfl)
  .unfold ai;dsimp only;rw[n];dsimp only
   repeat' split
   all_goals rfl
 |enters q=>
  refine plain (λt p a=>by rw[n];exact Ph.noConfusion) (by unfold dE;rw[n]) ?_ ?_
  .unfold ai;dsimp only;rw[n];dsimp only
   repeat' split
   all_goals (rw[ae];rfl)
  .have T:Dt w q:=by rw[n]at X;exact X
   have k:(q.step c w s.m).2.gr=s.m.gr:=by
    unfold Dt at T;unfold Qu.step;grind
   unfold ai;dsimp only;rw[n];dsimp only;repeat' split
   all_goals exact k
 |ax t p a=>exact amc n (K t p a n)
 |parked b=>
  by_cases A:s.m.gr w≠0
  .have e:ai c s w=(s.mem s.m).put w ((s.ws w).to (.wakes (some (s.m.gr w)))):=by unfold ai;dsimp only;rw[n];dsimp only;rw[tz A];rfl
   refine xn e ?_;rw[n];exact .same (ma rfl) rfl rfl (by unfold dE;rw[n];rfl) (λx u=>by cases u)
  .have e:ai c s w=aV c w s (s.ws w) Qu.leave:=by unfold ai;dsimp only;rw[n];dsimp only;rw[ck A]
   refine plain (λt p a=>by rw[n];exact Ph.noConfusion) (by unfold dE;rw[n]) ?_ ?_
   .rw[e];unfold aV;dsimp only
    repeat' split
    all_goals (rw[ae];rfl)
   .rw[e]
    unfold aV Ms.put Ms.mem Qu.step Qu.leave;grind
 |wakes h=>
  have v:lN (s.ws w).ph=none:=by rw[n];rfl
  have z:dE (s.ws w)=none:=by unfold dE;rw[n]
  have y:mr (s.ws w).ph=none:=by rw[n];rfl
  rw[n]at W;have W:(s.ws w).ask.op=0:=W;cases h with
  |none=>
   have e:ai c s w=(s.mem s.m).put w ((s.ws w).to (.wakes (some (s.m.gr w)))):=by unfold ai;dsimp only;rw[n];rfl
   refine xn e ?_;rw[v,z,y];exact .same (ma rfl) rfl rfl rfl (λx u=>by cases u)
  |some g=>
   have I:=N g n;by_cases A:g<0
   .have e:ai c s w=(s.mem (s.m.nT w 0)).put w ((s.ws w).end_ (.err 5)):=by unfold ai;dsimp only;rw[n];unfold dh;dsimp only;rw[tz A]
    refine xn e ?_;rw[v,z,y];exact .used rfl rfl rfl rfl (by rw[ck (by omega)];rfl) rfl
   .have e:ai c s w=(s.mem (s.m.nT w 0)).put w {s.ws w with grant:=g,ph:=.pin none}:=by unfold ai;dsimp only;rw[n];unfold dh;dsimp only;rw[ck A]
    have V:=E _ n;refine xn e ?_;rw[v,z,y];refine .used rfl rfl rfl rfl ?_ rfl;show(if 0<g/\(s.ws w).ask.op=0 then some (g-1).toNat else none)=_;rw[tz ⟨by omega,W⟩,tz (by omega),I]
 |leaves q=>
  rw[n]at X;have X:Dr w q:=X;have e:ai c s w=aV c w s (s.ws w) q:=by unfold ai;dsimp only;rw[n]
  refine plain (λt p a=>by rw[n];exact Ph.noConfusion) (by unfold dE;rw[n]) ?_ ?_
  .rw[e];unfold aV;dsimp only
   repeat' split
   all_goals (rw[ae];rfl)
  .rw[e]
   unfold Dr at X;unfold aV Ms.put Ms.mem Qu.step;grind
inductive Clo where
 |no|td (v:Nat)|gr (h:Nat)|wk (v:Nat)
def qw(m:Mm)(h i:Nat):Prop:=m.gr h=(i:Int)+1
structure KpI(s:Ms)(C:Nat->Clo):Prop where
 st:∀i,tX (s.m.sl i)↔C i≠.no
 td:∀v i,lN (s.ws v).ph=some i↔C i=.td v
 gr:∀h i:Nat,qw s.m h i↔C i=.gr h
 wk:∀v i,dE (s.ws v)=some i↔C i=.wk v
 o1:∀h i,C i=.gr h->(s.m.sl i).own=h
 o2:∀v i,C i=.wk v->(s.m.sl i).own=v
 o3:∀v i h,mr (s.ws v).ph=some (i,h)->(s.m.sl i).own=h
def amh{p}{i h}(e:mr p=some (i,h)):lN p=some i:=by
 unfold mr at e;grind [lN]
def apw{L}{a z}{k}(I:ahG s L)(A:a=xc (s.ws w).ph)(T:QP w s.m l a z)(h:l.gr k≠s.m.gr k):s.m.gr k=0\/(k=w/\l.gr k=0):=by
 have E:=I.g;have B:=I.t;have C:=I.gr;refine cv λq=> ?_;have D:=λe=>q (.inl e);have y:=(C k).1 D;cases T with
 |same o n d=>grind
 |push o n d p=>grind
 |drop o n d p u=>grind
 |amH x r b o n d p u=>grind
 |amG x r o n d p u=>grind
 |grant x v b o n d p u=>
  by_cases e:k=x
  .grind
  .exact h (by rw[n,il _ _ e])
 |tell x o n d p=>
  by_cases e:k=x
  .have:=(B w x).1 (by rw[<-A,d])
   rw[e,this]at y;cases y
  .exact h (by rw[n,il _ _ e])
 |used o n d p u=>
  by_cases e:k=w
  .exact q (.inr ⟨e,by rw[d,e,ky]⟩)
  .exact h (by rw[d,il _ _ e])
def amP{C}{L}(I:KpI s C)(T:ahG s L)(o:∀j,j≠w->f.ws j=s.ws j)(S:QP w s.m f.m (xc (s.ws w).ph) (xc (f.ws w).ph))(K:KpS w s.m f.m (lN (s.ws w).ph) (lN (f.ws w).ph) (dE (s.ws w)) (dE (f.ws w)) (mr (s.ws w).ph) (mr (f.ws w).ph)):∃J,KpI f J:=by
 have Q:∀v,v≠w->lN (f.ws v).ph=lN (s.ws v).ph:=λv y=>by rw[o v y]
 have R:∀v,v≠w->dE (f.ws v)=dE (s.ws v):=λv y=>by rw[o v y]
 have U:∀v,v≠w->mr (f.ws v).ph=mr (s.ws v).ph:=λv y=>by rw[o v y]
 have gz:∀k,f.m.gr k≠s.m.gr k->s.m.gr k=0\/(k=w/\f.m.gr k=0):=λk h=>apw T rfl S h;have V:∀v i h,mr (s.ws v).ph=some (i,h)->lN (s.ws v).ph=some i:=λv i h e=>amh e;obtain⟨W,N,F,O,X,Y,Z⟩:=I;cases K with
 |same p a d r b=>
  have x:∀h i,qw f.m h i↔qw s.m h i:=λh i=>by unfold qw;rw[a]
  unfold adI at p;refine⟨C,⟨λi=> ?_,λv i=> ?_,λh i=> ?_,λv i=> ?_,λh i=> ?_,λv i=> ?_,λv i h=> ?_⟩⟩<;>grind
 |keep i k n p a d r b z B h8 h9=>
  have x:∀h i,qw f.m h i↔qw s.m h i:=λh i=>by unfold qw;rw[b]
  refine⟨upd C i (.td w),⟨λi=> ?_,λv i=> ?_,λh i=> ?_,λv i=> ?_,λh i=> ?_,λv i=> ?_,λv i h=> ?_⟩⟩<;>(unfold upd at *;grind)
 |drop i n p a d r b z B=>
  have x:∀h i,qw f.m h i↔qw s.m h i:=λh i=>by unfold qw;rw[d]
  refine⟨upd C i .no,⟨λi=> ?_,λv i=> ?_,λh i=> ?_,λv i=> ?_,λh i=> ?_,λv i=> ?_,λv i h=> ?_⟩⟩<;>(unfold upd at *;grind)
 |grant i k p a d r b z B=>
  have D:=(N w i).1 d;have E:s.m.gr k=0:=by
   rcases gz k (by rw[a,ky];intro e;have:=(F k i).1 e.symm;rw[D]at this;cases this)with q|⟨_,q⟩
   .exact q
   .rw[a,ky]at q;omega
  have P:∀j,¬qw s.m k j:=λj e=>by unfold qw at e;omega
  have x:∀h j,qw f.m h j↔(h=k/\j=i)\/(h≠k/\qw s.m h j):=λh j=>by
   unfold qw;rw[a];by_cases e:h=k
   .subst e;rw[ky];constructor
    .intro q;exact .inl ⟨rfl,by omega⟩
    .intro q;rcases q with q|q
     .omega
     .exact tA rfl q.1
   .rw[il _ _ e];constructor
    .intro q;exact .inr ⟨e,q⟩
    .intro q;rcases q with q|q
     .exact tA q.1 e
     .exact q.2
  clear a;refine⟨upd C i (.gr k),⟨λi=> ?_,λv i=> ?_,λh i=> ?_,λv i=> ?_,λh i=> ?_,λv i=> ?_,λv i h=> ?_⟩⟩<;>(unfold upd at *;grind)
 |tell k p a d r b=>
  have E:∀j:Nat,s.m.gr k≠(j:Int)+1:=λj e=>by
   rcases gz k (by rw[a,ky,e];omega)with q|⟨_,q⟩
   .omega
   .rw[a,ky]at q;omega
  have P:∀j,¬qw s.m k j:=λj e=>E j e;have x:∀h j,qw f.m h j↔h≠k/\qw s.m h j:=λh j=>by
   unfold qw;rw[a];by_cases e:h=k
   .subst e;rw[ky];constructor
    .intro q;omega
    .intro q;exact tA rfl q.1
   .rw[il _ _ e];exact⟨λq=>⟨e,q⟩,λq=>q.2⟩
  clear a E;refine⟨C,⟨λi=> ?_,λv i=> ?_,λh i=> ?_,λv i=> ?_,λh i=> ?_,λv i=> ?_,λv i h=> ?_⟩⟩<;>(unfold upd at *;grind)
 |used p a d r b z=>
  have x:∀h j,qw f.m h j↔h≠w/\qw s.m h j:=λh j=>by
   unfold qw;rw[a];by_cases e:h=w
   .subst e;rw[ky];constructor
    .intro q;omega
    .intro q;exact tA rfl q.1
   .rw[il _ _ e];exact⟨λq=>⟨e,q⟩,λq=>q.2⟩
  clear a;by_cases A:0<s.m.gr w
  .obtain⟨j,G⟩:∃j:Nat,s.m.gr w=(j:Int)+1:=⟨(s.m.gr w-1).toNat,by omega⟩
   have H:(s.m.gr w-1).toNat=j:=by omega
   rw[tz A,H]at b;have D:=(F w j).1 G;have u:∀i,qw s.m w i->i=j:=λi e=>by unfold qw at e;omega
   clear G H A;refine⟨upd C j (.wk w),⟨λi=> ?_,λv i=> ?_,λh i=> ?_,λv i=> ?_,λh i=> ?_,λv i=> ?_,λv i h=> ?_⟩⟩<;>(unfold upd at *;grind)
  .rw[ck A]at b
   have hn:∀j,¬qw s.m w j:=λj e=>by unfold qw at e;omega
   clear A;refine⟨C,⟨λi=> ?_,λv i=> ?_,λh i=> ?_,λv i=> ?_,λh i=> ?_,λv i=> ?_,λv i h=> ?_⟩⟩<;>(unfold upd at *;grind)
 |take i n p a d r b z B=>
  have x:∀h i,qw f.m h i↔qw s.m h i:=λh i=>by unfold qw;rw[d]
  have D:=(O w i).1 b;refine⟨upd C i .no,⟨λi=> ?_,λv i=> ?_,λh i=> ?_,λv i=> ?_,λh i=> ?_,λv i=> ?_,λv i h=> ?_⟩⟩<;>(unfold upd at *;grind)
structure CmI(c:Cn)(s:Ms):Prop where
 cl:∃C,KpI s C
 gs:∀v,GsW v (s.ws v).ph
def aqb{t:Tk}(h:(t.step w c.S m g).1.st=.eG):t.st=.grant/\(t.step w c.S m g).1.wd=m.sl t.i/\(t.step w c.S m g).1.i=t.i/\(t.step w c.S m g).2=m:=by
 grind [Tk.step,Tk.fin,Tk.search]
def am'{o}(h:((ai c s w).ws w).ph=.work (.get o))(A:o.st=.eG)(E:(s.ws w).ph≠.rest):∃t,(s.ws w).ph=.work (.get t)/\o=(t.step w c.S s.m (decide (t.st=.bM)&&s.next.1)).1:=by
 cases n:(s.ws w).ph with
 |rest=>exact tA n E
 |ax u p0 H=>
  exfalso;cases y:u.step c w s.m with
  |mk F l=>
   have e:=ui n y;by_cases B:F.st=.done
   .rw[tz B]at e
    rw[e]at h;cases p0 with
    |none=>
     have h:(((s.mem l).put w ((s.ws w).to .rest)).ws w).ph=.work (.get o):=h;rw[ae]at h;cases h
    |some b=>
     have h:(((s.mem l).put w ((s.ws w).to (.parked b))).ws w).ph=.work (.get o):=h;rw[ae]at h;cases h
   .rw[ck B]at e
    rw[e,ae]at h;cases h
 |parked b=>
  exfalso;by_cases C:s.m.gr w≠0
  .have e:ai c s w=(s.mem s.m).put w ((s.ws w).to (.wakes (some (s.m.gr w)))):=by unfold ai;dsimp only;rw[n];dsimp only;rw[tz C];rfl
   rw[e,ae]at h;cases h
  .have e:ai c s w=aV c w s (s.ws w) Qu.leave:=by unfold ai;dsimp only;rw[n];dsimp only;rw[ck C]
   rw[e]at h;unfold aV at h;dsimp only at h;repeat' split at h
   all_goals (rw[ae]at h;cases h)
 |leaves q=>
  exfalso;have e:ai c s w=aV c w s (s.ws w) q:=by unfold ai;dsimp only;rw[n]
  rw[e]at h;unfold aV at h;dsimp only at h;repeat' split at h
  all_goals (rw[ae]at h;cases h)
 |pin x=>
  exfalso;unfold ai at h;dsimp only at h;rw[n]at h;cases x with
  |none=>dsimp only at h;rw[ae]at h;cases h
  |some I=>
   dsimp only at h;rw[ae]at h;have h:Ph.work (bE (s.ws w))=.work (.get o):=h;unfold bE at h;repeat' split at h
   all_goals (cases h;try cases A)
 |work k=>
  have a:ai c s w=ak c w s (s.ws w) k:=by unfold ai;dsimp only;rw[n]
  cases k with
  |get u=>
   obtain⟨v,z⟩:∃v,(if u.st=gm.bM then({s with wo:=s.next.2}:Ms)else s)={s with wo:=v}:=by
    split
    .exact⟨_,rfl⟩
    .exact⟨s.wo,rfl⟩
   unfold ak at a;dsimp only at a;rw[z]at a;have p:∀{D:Wr} {l:Mm},ai c s w=({s with wo:=v}.mem l).put w D->D.ph=.work (.get o):=λe=>by
    rw[e]at h;have h:(({s with wo:=v}.mem _).put w _ |>.ws w).ph=.work (.get o):=h;rw[ae]at h;exact h
   split at a
   .exfalso
    split at a
    .split at a
     .cases(p a)
     .cases(p a)
    .split at a
     .cases(p a)
     .cases(p a)
   .have G:=p a
    cases G;exact⟨u,rfl,rfl⟩
  |give g=>
   exfalso;rw[a]at h;unfold ak at h;dsimp only at h;repeat' split at h
   all_goals (rw[ae]at h;cases h)
  |bg g=>
   exfalso;rw[a]at h;unfold ak at h;dsimp only at h;repeat' split at h
   all_goals (rw[ae]at h;cases h)
  |stats g=>
   exfalso;rw[a]at h;unfold ak at h;dsimp only at h;repeat' split at h
   all_goals (rw[ae]at h;cases h)
  |aS r=>
   exfalso;rw[a]at h;unfold ak at h;dsimp only at h;repeat' split at h
   all_goals (rw[ae]at h;cases h)
  |close d=>
   exfalso;cases d with
   |none=>
    rw[a]at h;have h:(((s.mem _).put w ((s.ws w).to (.work (.close (some Qu.drain))))).ws w).ph=.work (.get o):=h;rw[ae]at h;cases h
   |some q=>
    rw[a]at h;unfold ak at h;dsimp only at h;repeat' split at h
    all_goals (rw[ae]at h;cases h)
 |counts x=>
  exfalso;unfold ai at h;dsimp only at h;rw[n]at h;dsimp only at h;repeat' split at h
  all_goals (rw[ae]at h;cases h;try cases A)
 |enters q=>
  unfold ai at h;dsimp only at h;rw[n]at h;dsimp only at h;repeat' split at h
  all_goals (rw[ae]at h;cases h)
 |wakes x=>
  unfold ai at h;dsimp only at h;rw[n]at h;cases x with
  |none=>unfold dh at h;rw[ae]at h;cases h
  |some g=>
   unfold dh at h;dsimp only at h;split at h<;>(rw[ae]at h;cases h)
def ang(I:CmI c s)(Q:WtI c s)(A:All c s)(b:w<c.W)(W:c.W<=15)(H:aQ s w)(o:∀j,j≠w->(ai c s w).ws j=s.ws j):CmI c (ai c s w):=by
 obtain⟨C,KI⟩:=I.cl;obtain⟨L,T⟩:=Q.tok;have B:(s.ws w).ph≠.rest:=λh=>by grind [aQ]
 have back:∀t p a,(s.ws w).ph=.ax t p a->t.st=.back->tX (s.m.sl t.i):=λt p a h d=>by
  have q:lN (s.ws w).ph=some t.i:=by grind [lN]
  exact(KI.st _).2 (by rw[(KI.td w _).1 q];grind)
 have k:=aob (A.inv.w w b) (A.wd w b) (by omega) (I.gs w) back (λg h=>(T.wk w _ h).2 g rfl) (λg h=>(T.wk w g h).1);obtain⟨⟨D,_⟩,_⟩:=akf (A.inv.w w b) (Q.ln w) (λg E=>(T.wk w g E).1);refine⟨amP KI T o D k,λv=> ?_⟩;by_cases e:v=w
 .rw[e]
  unfold GsW;split
  .rename_i J n
   intro u;obtain⟨t,x,d⟩:=am' n u B;have r:(t.step w c.S s.m (decide (t.st=.bM)&&s.next.1)).1.st=.eG:=by rw[<-d];exact u
   obtain⟨y,F,K,N⟩:=aqb r;have q:dE (s.ws w)=some t.i:=by unfold dE;rw[x];exact tz (.inl y)
   have z:=(KI.wk w _).1 q;have X:=A.inv.w w b;unfold jO at X;rw[x]at X;have G:t.i<c.S:=by
    have:=X.1;unfold pW at this;rw[y]at this;exact this
   rw[d,F];exact⟨(KI.st _).2 (by rw[z];exact λh=>by cases h),KI.o2 _ _ z,A.inv.m.1 _ G⟩
  .trivial
 .rw[o v e];exact I.gs v
def anf:CmI c Ms.zero:=by
 have n:∀i,¬tX (Ms.zero.m.sl i):=λi h=>by rcases h with h|h<;>cases h
 refine⟨⟨λ_=>.no,λi=> ?_,λv i=> ?_,λh i=> ?_,λv i=> ?_,λh i k=> ?_,λv i k=> ?_,λv i h k=> ?_⟩,λv=>trivial⟩
 .grind
 .exact⟨λh=>(by cases h),λh=>(by cases h)⟩
 .refine⟨fun k=> ?_,fun h=>(by cases h)⟩
  have k:(0:Int)=(i:Int)+1:=k;omega
 .exact⟨λh=>(by cases h),λh=>(by cases h)⟩
 .cases k
 .cases k
 .cases k
def akt{f}(I:CmI c s)(k:adI s.m f.m)(b:f.m.gr=s.m.gr)(A:∀v,lN (f.ws v).ph=lN (s.ws v).ph)(d:∀v,dE (f.ws v)=dE (s.ws v))(e:∀v,mr (f.ws v).ph=mr (s.ws v).ph)(n:∀v,GsW v (f.ws v).ph):CmI c f:=by
 obtain⟨C,a,o,r,u,x,y,z⟩:=I.cl;have p:=λi h=>(k i).2 ((a i).2 h);refine⟨⟨C,λi=> ?_,λv i=> ?_,λh i=> ?_,λv i=> ?_,λh i q=> ?_,λv i q=> ?_,λv i h q=> ?_⟩,n⟩
 .rw[(k i).1];exact a i
 .grind
 .unfold qw;rw[b];exact r h i
 .rw[d];exact u v i
 .rw[p i (by rw[q];exact λh=>by cases h)];exact x h i q
 .rw[p i (by rw[q];exact λh=>by cases h)];exact y v i q
 .rw[e]at q
  have:=(o v i).1 (amh q);rw[p i (by rw[this];exact λh=>by cases h)];exact z v i h q
def apI(I:CmI c s)(x)(u:x.kind≠1):CmI c (dX c s x).2:=by
 have same:∀{f:Ms},adI s.m f.m->f.m.gr=s.m.gr->f.ws=s.ws->CmI c f:=λq d a=>akt I q d (λv=>by rw[a]) (λv=>by rw[a]) (λv=>by rw[a]) (λv=>by rw[a];exact I.gs v);unfold dX;split
 .split
  .rename_i k
   have r:(s.ws x.who.toNat).ph=.rest:=k.2.1;refine akt I (ma rfl) rfl (λv=> ?_) (λv=> ?_) (λv=> ?_) (λv=> ?_)
   .show lN (upd s.ws x.who.toNat _ v).ph=_
    by_cases e:v=x.who.toNat
    .rw[e,ky,r];rfl
    .rw[il _ _ e]
   .show dE (upd s.ws x.who.toNat _ v)=_
    by_cases e:v=x.who.toNat
    .rw[e,ky];unfold dE;rw[r];rfl
    .rw[il _ _ e]
   .show mr (upd s.ws x.who.toNat _ v).ph=_
    by_cases e:v=x.who.toNat
    .rw[e,ky,r];rfl
    .rw[il _ _ e]
   .show GsW v (upd s.ws x.who.toNat _ v).ph
    by_cases e:v=x.who.toNat
    .rw[e,ky];trivial
    .rw[il _ _ e];exact I.gs v
  .exact I
 .split
  .exact same (ma rfl) rfl rfl
  .split
   .split
    .exact same (ma rfl) rfl rfl
    .exact I
   .split
    .split
     .split
      .rename_i m h
       unfold QN at h;cases b:az (s.m.sl x.a.slot.toNat) 13 0 0 with
       |none=>rw[b]at h;cases h
       |some n=>
        rw[b]at h;cases h;obtain⟨o,p,_⟩:=agS b;refine same (λi=> ?_) rfl rfl;by_cases e:i=x.a.slot.toNat
        .subst e
         show(tX (upd s.m.sl _ n _)↔_)/\(_->(upd s.m.sl _ n _).own=_);rw[ky];unfold tX;rw[o];exact⟨Iff.rfl,λ_=>p⟩
        .show(tX (upd s.m.sl _ n _)↔_)/\(_->(upd s.m.sl _ n _).own=_)
         rw[il _ _ e];exact⟨Iff.rfl,λ_=>rfl⟩
      .exact I
     .exact I
    .exact I
inductive DoC(c:Cn)(s f:Ms):Prop
 |same:f.m=s.m->f.ws=s.ws->DoC c s f
 |ask (u:Nat) (a:Ask):u<c.W->(s.ws u).ph=.rest->f.m=s.m->f.ws=upd s.ws u ⟨.pin none,a,0⟩->DoC c s f
 |brk (i:Nat) (n:aa):az (s.m.sl i) 13 0 0=some n->f.m=s.m.set i n->f.ws=s.ws->DoC c s f
def aks(x)(k:x.kind≠1):DoC c s (dX c s x).2:=by
 unfold dX;split
 .split
  .rename_i b
   exact .ask x.who.toNat _ (by have:=b.1;unfold inW at this;omega) b.2.1 rfl rfl
  .exact .same rfl rfl
 .split
  .exact .same rfl rfl
  .split
   .split<;>exact .same rfl rfl
   .split
    .split
     .split
      .rename_i m h
       unfold QN at h;cases a:az (s.m.sl x.a.slot.toNat) 13 0 0 with
       |none=>rw[a]at h;cases h
       |some n=>rw[a]at h;cases h;exact .brk _ n a rfl rfl
      .exact .same rfl rfl
     .exact .same rfl rfl
    .exact .same rfl rfl
theorem alS{x n}(h:az x 13 0 0=some n):(x.st=2\/x.st=3\/x.st=4)/\n.st=x.st/\n.brk=true:=by
 obtain⟨r,a,rfl,_⟩:=wG h;have a:xm x=some r:=a;unfold xm at a;split at a
 .rename_i q
  cases a;exact⟨q.1,rfl,rfl⟩
 .cases a
def apJ(I:ClI s)(D:DoC c s f):ClI f:=by
 cases D with
 |same d o=>intro a b h;rw[d]at a h;rw[o];exact I a b h
 |brk i n x d o=>intro a b h;rw[d]at a h;rw[o];exact I a b h
 |ask u a y r d o=>
  intro q b h;rw[d]at q h;rw[o];rcases I q b h with⟨v,p⟩|k
  .left
   refine⟨v,?_⟩;by_cases e:v=u
   .rw[e,r]at p;exact p.elim
   .rw[il _ _ e];exact p
  .right
   by_cases e:b=u
   .rw[e,r]at k;exact k.elim
   .rw[il _ _ e];exact k
def aou(I:TcI s)(D:DoC c s f):TcI f:=by
 cases D with
 |same b d=>intro v t p a h;rw[d]at h;rw[b];exact I v t p a h
 |brk i n k b d=>intro v t p a h;rw[d]at h;rw[b];exact I v t p a h
 |ask u x o r b d=>
  intro v t p a h;rw[d]at h;rw[b];by_cases e:v=u
  .rw[e,ky]at h;cases h
  .rw[il _ _ e]at h;exact I v t p a h
def aoB(I:RsI c s)(D:DoC c s f):RsI c f:=by
 cases D with
 |same d o=>intro a b i p h;rw[d]at a b h;rw[o];exact I a b i p h
 |brk j n q d o=>
  intro a b i p h;rw[o];have a:s.m.cl=0:=by rw[d]at a;exact a
  have b:s.m.qu≠[]:=by rw[d]at b;exact b
  refine I a b i p ?_;rw[d]at h;have h:frees (upd s.m.sl j n i):=h;by_cases e:i=j
  .subst e
   rw[ky]at h;obtain⟨z,A,r⟩:=alS q;exfalso;rcases h with h|⟨_,h⟩
   .omega
   .rw[r]at h;cases h
  .rw[il _ _ e]at h;exact h
 |ask u x B C d o=>
  intro a b i p h;rw[d]at a b h;rw[o];obtain⟨v,y,k⟩:=I a b i p h;refine⟨v,y,?_⟩;by_cases e:v=u
  .rw[e,ky];trivial
  .rw[il _ _ e];exact k
def apH(I:DlI c s)(D:DoC c s f):DlI c f:=by
 cases D with
 |same a b=>exact⟨λi d h=>by rw[a]at h;rw[b];exact I.a i d h,λv t h=>by rw[b]at h;rw[a];exact I.b v t h⟩
 |brk j n r a b=>
  obtain⟨C,E,F⟩:=alS r;have y:∀i,(s.m.sl i).st=1->i≠j:=λi h e=>by rw[e]at h;omega
  refine⟨λi d h=> ?_,λv t h=> ?_⟩
  .rw[b]
   rw[a]at h;have h:(upd s.m.sl j n i).st=1:=h;by_cases e:i=j
   .rw[e,ky]at h;omega
   .rw[il _ _ e]at h;exact I.a i d h
  .rw[b]at h
   obtain⟨p,q,z⟩:=I.b v t h;refine⟨?_,q,z⟩;rw[a];show upd s.m.sl j n t.i=_;rw[il _ _ (y _ (by rw[p];exact q))];exact p
 |ask u x G A a b=>
  refine⟨λi d h=> ?_,λv t h=> ?_⟩
  .rw[a]at h
   rw[b];obtain⟨v,t,B,k,o⟩:=I.a i d h;refine⟨v,t,B,?_,o⟩;by_cases e:v=u
   .rw[e,A]at k;cases k
   .rw[il _ _ e];exact k
  .rw[b]at h
   rw[a];by_cases e:v=u
   .rw[e,ky]at h;cases h
   .rw[il _ _ e]at h;exact I.b v t h
inductive RtX(m l:Mm)(a a':Option Rt):Prop
 |idle:l.ep=m.ep->(∀i,(l.sl i).st=6->l.sl i=m.sl i)->a=none->(∀r,a'=some r->r.st=.swap)->RtX m l a a'
 |go (r:Rt):a=some r->l.ep=(r.step m).2.ep->l.sl=(r.step m).2.sl->((r.step m).1.st≠.done->a'=some (r.step m).1)->((r.step m).1.st=.done->∀x,a'=some x->x.st=.swap)->RtX m l a a'
def RtG(c:Cn)(s:Ms)(w:Nat):Prop:=RtX s.m (ai c s w).m (dC (s.ws w).ph) (dC ((ai c s w).ws w).ph)
def aoJ(C:ql c s w)(h:dC (s.ws w).ph=none):∀i,((ai c s w).m.sl i).st=6->(ai c s w).m.sl i=s.m.sl i:=by
 intro i u;have o:∀{j:Nat} {d own more:Int} {n:aa},nz s.m (ai c s w).m j d own more n->n.st≠6->(ai c s w).m.sl i=s.m.sl i:=by
  intro j d own more n h b;unfold nz at h;by_cases e:i=j
  .subst e;rw[h.2,ky]at u;exact tA u b
  .rw[h.2,il _ _ e]
 unfold ql Chg at C;rcases C with C|C|C|C|C|C|C
 .rw[C]
 .obtain⟨j,d,own,more,n,b,k⟩:=C
  refine o b ?_;have q:=qf b.1;rcases k with k|k|k|k|k|k<;>grind
 .obtain⟨j,n,t,b,_⟩:=C
  refine o b ?_;have q:=qf b.1;grind
 .obtain⟨j,d,n,t,b,k,_⟩:=C
  refine o b ?_;have q:=qf b.1;rcases k with k|k<;>grind
 .obtain⟨j,n,b,_⟩:=C
  refine o b ?_;have q:=qf b.1;grind
 .obtain⟨t,p,a,x,y,_⟩:=C
  rcases y with⟨_,n,b⟩|⟨_,d,n,k,b,_⟩|⟨_,d,n,k,b,_⟩|⟨z,_⟩
  .have q:=qf b.1
   grind
  .have q:=qf b.1
   rcases k with k|k<;>grind
  .have q:=qf b.1
   rcases k with k|k<;>grind
  .rw[x,adl z]at h;cases h
 .obtain⟨r,A,_,v,_⟩:=C
  rw[h]at v;cases v
def qb(C:ql c s w)(h:dC (s.ws w).ph=none)(e:(ai c s w).m.ep=s.m.ep)(a:∀r,dC ((ai c s w).ws w).ph=some r->r.st=.swap):RtG c s w:=.idle e (aoJ C h) h a
def ac'{x}{r}(h:dC (s.ws w).ph=some r)(e:ai c s w=(s.mem l).put w x)(a:l.ep=(r.step s.m).2.ep)(b:l.sl=(r.step s.m).2.sl)(d:(r.step s.m).1.st≠.done->dC x.ph=some (r.step s.m).1)(k:(r.step s.m).1.st=.done->∀y,dC x.ph=some y->y.st=.swap):RtG c s w:=by
 unfold RtG;rw[e,ae];exact .go r h a b d k
def alR{t}{p}{a}(x:(s.ws w).ph=.ax t p a)(C:ql c s w):RtG c s w:=by
 cases h:t.step c w s.m with
 |mk z l=>
  have e:=ui x h;have E:(ai c s w).m=l:=by
   rw[e];split
   .cases p<;>rfl
   .rfl
  by_cases q:t.st=.go
  .have o:t.step c w s.m=(if(t.rt.step s.m).1.st=.done then({t with rt:=(t.rt.step s.m).1,look:=t.look.again,st:=.dL},(t.rt.step s.m).2)else({t with rt:=(t.rt.step s.m).1},(t.rt.step s.m).2)):=by
    obtain⟨F,K,L,N,look,j,O,A,D,P⟩:=t;have q:F=.go:=q;subst q;rfl
   by_cases u:(t.rt.step s.m).1.st=.done
   .rw[tz u,h]at o
    cases o;rw[ck mO.noConfusion]at e;exact ac' (by rw[x];exact adl q) e rfl rfl (λk=>tA u k) (λ_ y G=>by cases G)
   .rw[ck u,h]at o
    cases o;rw[ck (by show t.st≠.done;rw[q];exact mO.noConfusion)]at e;exact ac' (by rw[x];exact adl q) e rfl rfl (λ_=>adl (t:={t with rt:=(t.rt.step s.m).1}) q) (λk=>tA k u)
  .have H:dC (s.ws w).ph=none:=by rw[x];exact ck q
   have Q:∀t:Td,(t.fu c.S s.m).st=t.st:=λt=>eQ.1;have I:=λd own l h=> @ac3 s.m l t d own h;have B:l.ep=s.m.ep:=by
    have:l=(t.step c w s.m).2:=by rw[h]
    rw[this];unfold Td.step Td.swap Mm.set Mm.pin Mm.nT;grind
   have J:∀r,dC (.ax z p a)=some r->r.st=.swap:=by
    intro r n;have:z=(t.step c w s.m).1:=by rw[h]
    unfold dC at n;dsimp only at n;split at n
    .rename_i v
     cases n;rw[this]at v ⊢;unfold Td.step at v ⊢;unfold Rt.new at*;grind
    .cases n
   refine qb C H (by rw[E];exact B) ?_;intro r n;by_cases u:z.st=.done
   .rw[tz u]at e
    rw[e]at n;cases p with
    |none=>
     have n:dC (((s.mem l).put w ((s.ws w).to .rest)).ws w).ph=some r:=n;rw[ae]at n;cases n
    |some b=>
     have n:dC (((s.mem l).put w ((s.ws w).to (.parked b))).ws w).ph=some r:=n;rw[ae]at n;cases n
   .rw[ck u]at e
    rw[e,ae]at n;exact J r n
def aj0{x}{r}{o}(h:dC (s.ws w).ph=some r)(e:ai c s w=({s with wo:=o}.mem l).put w x)(a:l.ep=(r.step s.m).2.ep)(b:l.sl=(r.step s.m).2.sl)(d:(r.step s.m).1.st≠.done->dC x.ph=some (r.step s.m).1)(k:(r.step s.m).1.st=.done->∀y,dC x.ph=some y->y.st=.swap):RtG c s w:=by
 unfold RtG;rw[e];rw[ae];exact .go r h a b d k
def an4{t:Tk}(h:t.st≠.go):(t.step w c.S m g).2.ep=m.ep/\((t.step w c.S m g).1.st=.go->(t.step w c.S m g).1.rt.st=.swap):=by
 grind [Tk.step,Tk.fin,Tk.search,Mm.set,Rt.new,lQ,agq]
def aod{t:Gv}(h:t.st≠.go):(t.step c w m).2.ep=m.ep/\((t.step c w m).1.st=.go->(t.step c w m).1.rt.st=.swap):=by
 grind [Gv.step,Gv.fin,Mm.set,Rt.new]
def an7{t}(q:(s.ws w).ph=.work (.get t))(C:ql c s w):RtG c s w:=by
 have a:ai c s w=ak c w s (s.ws w) (.get t):=by grind [ai]
 have z:=ah7 (c:=c) q;obtain⟨u,v⟩:∃u,(if t.st=gm.bM then({s with wo:=s.next.2}:Ms)else s)={s with wo:=u}:=by
  split
  .exact⟨_,rfl⟩
  .exact⟨s.wo,rfl⟩
 unfold ak at a;dsimp only at a;rw[v]at a;generalize H:(decide (t.st=.bM)&&s.next.1)=g at a z;by_cases b:t.st=.go
 .have n:dC (s.ws w).ph=some t.rt:=by rw[q];exact ahJ b
  have d:t.step w c.S s.m g=(if(t.rt.step s.m).1.st=.done then(if(t.rt.step s.m).1.sw then({t with rt:=(t.rt.step s.m).1,e:=5,st:=.done},(t.rt.step s.m).2)else({t with rt:=(t.rt.step s.m).1,st:=.back},(t.rt.step s.m).2))else({t with rt:=(t.rt.step s.m).1},(t.rt.step s.m).2)):=by
   obtain⟨D,look,j,I,E,J,K,e⟩:=t;have b:D=.go:=b;subst b;rfl
  by_cases o:(t.rt.step s.m).1.st=.done
  .rw[tz o]at d
   by_cases A:(t.rt.step s.m).1.sw=true
   .rw[tz A]at d
    rw[d]at a;rw[tz rfl,ck (by show(5:Int)≠3;decide),ck (by show(5:Int)≠0;decide)]at a;exact aj0 n a rfl rfl (λk=>tA o k) (λ_ y x=>by cases x)
   .rw[ck A]at d
    rw[d]at a;exact aj0 n a rfl rfl (λk=>tA o k) (λ_ y x=>by cases x)
  .rw[ck o]at d
   rw[d]at a;rw[ck (by rw[b];exact gm.noConfusion)]at a;exact aj0 n a rfl rfl (λ_=>ahJ b) (λk=>tA k o)
 .obtain⟨F,G⟩:=an4 b
  refine qb C (by rw[q];exact ck b) (by rw[z];exact F) ?_;have p:∀{B:Wr} {l:Mm} {r:Rt},ai c s w=({s with wo:=u}.mem l).put w B->dC ((ai c s w).ws w).ph=some r->dC B.ph=some r:=λe h=>by
   rw[e]at h;rw[ae]at h;exact h
  intro r n;repeat' split at a
  .cases p a n
  .cases p a n
  .cases p a n
  .cases p a n
  .have h:=p a n
   have h:dC (.work (.get (t.step w c.S s.m g).1))=some r:=h;unfold dC at h;dsimp only at h;split at h
   .cases h;exact G ‹_›
   .cases h
def amC{t}(q:(s.ws w).ph=.work (.give t))(C:ql c s w):RtG c s w:=by
 have b:ai c s w=ak c w s (s.ws w) (.give t):=by grind [ai]
 unfold ak at b;dsimp only at b;by_cases d:t.st=.go
 .have n:dC (s.ws w).ph=some t.rt:=by rw[q];exact ahm d
  have a:t.step c w s.m=(if(t.rt.step s.m).1.st=.done then(if(t.rt.step s.m).1.sw then({t with rt:=(t.rt.step s.m).1,e:=0,st:=.done},(t.rt.step s.m).2)else({t with rt:=(t.rt.step s.m).1,st:=.look},(t.rt.step s.m).2))else({t with rt:=(t.rt.step s.m).1},(t.rt.step s.m).2)):=by
   obtain⟨i,v,A,B,D,E,F,e⟩:=t;subst d;rfl
  by_cases o:(t.rt.step s.m).1.st=.done
  .rw[tz o]at a
   by_cases u:(t.rt.step s.m).1.sw=true
   .rw[tz u]at a
    rw[a]at b;exact ac' n b rfl rfl (λk=>tA o k) (λ_ y p=>by cases p)
   .rw[ck u]at a
    rw[a]at b;exact ac' n b rfl rfl (λk=>tA o k) (λ_ y p=>by cases p)
  .rw[ck o]at a
   rw[a]at b;rw[ck (by rw[d];exact pg.noConfusion)]at b;exact ac' n b rfl rfl (λ_=>ahm d) (λk=>tA k o)
 .obtain⟨x,z⟩:=aod d
  refine qb C (by rw[q];exact ck d) ?_ ?_
  .rw[b]
   split<;>exact x
  .intro r n
   split at b
   .rw[b,ae]at n;cases n
   .rw[b,ae]at n
    have h:dC (.work (.give (t.step c w s.m).1))=some r:=n;unfold dC at h;dsimp only at h;split at h
    .cases h;exact z ‹_›
    .cases h
def amB{r}(p:(s.ws w).ph=.work (.aS r))(C:ql c s w):RtG c s w:=by
 have e:ai c s w=ak c w s (s.ws w) (.aS r):=by grind [ai]
 by_cases a:r.st=.dB
 .have b:dC (s.ws w).ph=some r.rt:=by rw[p];exact ahl a
  unfold ak at e;dsimp only at e;rw[a]at e;by_cases d:(r.rt.step s.m).1.st=.done
  .rw[tz d]at e
   exact ac' b e rfl rfl (λk=>tA d k) (λ_ y n=>by cases n)
  .rw[ck d]at e
   exact ac' b e rfl rfl (λ_=>ahl rfl) (λk=>tA k d)
 .refine qb C (by rw[p];exact ck a) ?_ ?_
  .rw[e];unfold ak;dsimp only
   repeat' split
   all_goals first|rfl|(exfalso;apply a;assumption)
  .intro x h
   rw[e]at h;unfold ak at h;dsimp only at h;repeat' split at h
   all_goals (rw[ae]at h;first|(assumption)|(cases h;rfl)|(cases h)|skip)
   all_goals (first|(have h:dC (.work (.aS _))=some x:=h;unfold dC at h;dsimp only at h;split at h<;>cases h<;>simp_all)|skip)
def amA(X:jO c w (s.ws w))(W:nW c s.m w (s.ws w)):RtG c s w:=by
 have C:=ahF X W;unfold jO at X;cases o:(s.ws w).ph with
 |rest=>
  have e:ai c s w=s:=by unfold ai;dsimp only;rw[o]
  exact qb C (by rw[o];rfl) (by rw[e]) (λr n=>by rw[e,o]at n;cases n)
 |pin h=>
  refine qb C (by rw[o];rfl) ?_ ?_
  .unfold ai;dsimp only;rw[o];cases h<;>rfl
  .intro r n
   unfold ai at n;dsimp only at n;rw[o]at n;cases h with
   |none=>dsimp only at n;rw[ae]at n;cases n
   |some v=>
    dsimp only at n;rw[ae]at n;have n:dC (.work (bE (s.ws w)))=some r:=n;unfold bE at n;split at n
    .split at n<;>cases n
    all_goals cases n
 |ax t p a=>exact alR o C
 |work k=>
  cases k with
  |get t=>exact an7 o C
  |give t=>exact amC o C
  |aS r=>exact amB o C
  |bg q=>
   have u:ai c s w=ak c w s (s.ws w) (.bg q):=by unfold ai;dsimp only;rw[o]
   have k:(q.step c w s.m).2.ep=s.m.ep:=by unfold Sm.step Mm.set;grind
   refine qb C (by rw[o];rfl) ?_ ?_
   .rw[u];unfold ak;dsimp only
    split<;>exact k
   .intro r n
    rw[u]at n;unfold ak at n;dsimp only at n;repeat' split at n
    all_goals (rw[ae]at n;cases n)
  |stats t=>
   have u:ai c s w=ak c w s (s.ws w) (.stats t):=by unfold ai;dsimp only;rw[o]
   refine qb C (by rw[o];rfl) ?_ ?_
   .rw[u];unfold ak;dsimp only
    split<;>rfl
   .intro r n
    rw[u]at n;unfold ak at n;dsimp only at n;repeat' split at n
    all_goals (rw[ae]at n;cases n)
  |close d=>
   have u:ai c s w=ak c w s (s.ws w) (.close d):=by unfold ai;dsimp only;rw[o]
   refine qb C (by rw[o];cases d<;>rfl) ?_ ?_
   .rw[u]
    cases d with
    |none=>
     show(if(s.ws w).ask.force then{s.m with cl:=2}else if s.m.cl=0 then{s.m with cl:=1}else s.m:Mm).ep=_
     repeat' split
     all_goals rfl
    |some q=>
     unfold ak;dsimp only;have k:(q.step c w s.m).2.ep=s.m.ep:=by unfold Qu.step Mm.nT;grind
     split<;>exact k
   .intro r n
    rw[u]at n;cases d with
    |none=>
     have n:dC (((s.mem _).put w ((s.ws w).to (.work (.close (some Qu.drain))))).ws w).ph=some r:=n;rw[ae]at n;cases n
    |some q=>
     unfold ak at n;dsimp only at n;repeat' split at n
     all_goals (rw[ae]at n;cases n)
 |counts t=>
  refine qb C (by rw[o];rfl) ?_ ?_
  .unfold ai;dsimp only;rw[o];dsimp only
   repeat' split
   all_goals rfl
  .intro r n
   unfold ai at n;dsimp only at n;rw[o]at n;dsimp only at n;repeat' split at n
   all_goals (rw[ae]at n;cases n)
 |enters q=>
  have k:(q.step c w s.m).2.ep=s.m.ep:=by unfold Qu.step Mm.nT;grind
  refine qb C (by rw[o];rfl) ?_ ?_
  .unfold ai;dsimp only;rw[o];dsimp only
   repeat' split
   all_goals exact k
  .intro r n
   unfold ai at n;dsimp only at n;rw[o]at n;dsimp only at n;repeat' split at n
   all_goals (rw[ae]at n;cases n)
 |parked b=>
  refine qb C (by rw[o];rfl) ?_ ?_
  .have k:(Qu.leave.step c w s.m).2.ep=s.m.ep:=by unfold Qu.step Mm.nT;grind
   unfold ai dh aV;dsimp only;rw[o];dsimp only;repeat' split
   all_goals first|rfl|exact k
  .intro r n
   unfold ai dh aV at n;dsimp only at n;rw[o]at n;dsimp only at n;repeat' split at n
   all_goals (rw[ae]at n;cases n)
 |leaves q=>
  have k:(q.step c w s.m).2.ep=s.m.ep:=by unfold Qu.step Mm.nT;grind
  refine qb C (by rw[o];rfl) ?_ ?_
  .unfold ai aV;dsimp only;rw[o];dsimp only
   repeat' split
   all_goals exact k
  .intro r n
   unfold ai aV at n;dsimp only at n;rw[o]at n;dsimp only at n;repeat' split at n
   all_goals (rw[ae]at n;cases n)
 |wakes h=>
  refine qb C (by rw[o];rfl) ?_ ?_
  .unfold ai dh;dsimp only;rw[o];dsimp only
   cases h with
   |none=>rfl
   |some g=>dsimp only;split<;>rfl
  .intro r n
   unfold ai dh at n;dsimp only at n;rw[o]at n;dsimp only at n;cases h with
   |none=>rw[ae]at n;cases n
   |some g=>
    dsimp only at n;split at n<;>(rw[ae]at n;cases n)
def PnT(v:Int)(t:Td):Prop:=match t.st with| .ep=>True| .pin=>True| .again=>v=0| .done=>v=0|_=>v=t.ep+1
def PnP(v:Int):Ph->Prop
 | .rest=>v=0| .parked _=>v=0| .leaves _=>v=0
 | .ax t _ _=>PnT v t
 |_=>True
def BzP(p:Ph):Prop:=busy p\/∃q a,p=.ax Td.new q a
def aj2(p:busy (s.ws w).ph):BzP ((ai c s w).ws w).ph:=by
 have b:∀(s:Ms) (x:Wr),BzP x.ph->BzP ((s.put w x).ws w).ph:=λs x h=>by rw[ae];exact h
 have e:∀x a,BzP (Wr.end_ x a).ph:=λx a=>.inr ⟨_,_,rfl⟩;have n:∀x k,BzP (Wr.to x (.work k)).ph:=λx a=>.inl trivial;have o:∀x k,BzP (Wr.to x (.enters k)).ph:=λx a=>.inl trivial;have r:∀x k,BzP (Wr.to x (.counts k)).ph:=λx a=>.inl trivial;have u:∀x q a,BzP (Wr.to x (.ax Td.new q a)).ph:=λx q a=>.inr ⟨_,_,rfl⟩;cases d:(s.ws w).ph with
 |rest=>rw[d]at p;exact p.elim
 |ax _ _ _=>rw[d]at p;exact p.elim
 |parked _=>rw[d]at p;exact p.elim
 |leaves _=>rw[d]at p;exact p.elim
 |pin h=>
  unfold ai;dsimp only;rw[d];cases h<;>(dsimp only;rw[ae];exact .inl trivial)
 |work k=>
  have v:ai c s w=ak c w s (s.ws w) k:=by unfold ai;dsimp only;rw[d]
  rw[v];unfold ak;dsimp only;repeat' split
  all_goals first|exact b _ _ (e _ _)|exact b _ _ (n _ _)|exact b _ _ (o _ _)|exact b _ _ (r _ _)
 |counts t=>
  unfold ai;dsimp only;rw[d];dsimp only;repeat' split
  all_goals first|exact b _ _ (e _ _)|exact b _ _ (n _ _)|exact b _ _ (r _ _)
 |enters q=>
  unfold ai;dsimp only;rw[d];dsimp only;repeat' split
  all_goals first|exact b _ _ (e _ _)|exact b _ _ (o _ _)|exact b _ _ (u _ _ _)
 |wakes h=>
  unfold ai;dsimp only;rw[d];cases h with
  |none=>unfold dh;rw[ae];exact .inl trivial
  |some g=>
   unfold dh;dsimp only;split
   .exact b _ _ (e _ _)
   .rw[ae];exact .inl trivial
def aqf{p}{v}(h:BzP p):PnP v p:=by
 rcases h with h|⟨q,a,rfl⟩
 .cases p<;>first|trivial|exact h.elim
 .trivial
def aor{t}(h:PnT (m.pn w) t)(k:0<=t.ep/\t.ep<=4000000000000000000):PnT ((t.step c w m).2.pn w) (t.step c w m).1/\∀j,j≠w->(t.step c w m).2.pn j=m.pn j:=by
 have n:∀t:Td,(t.fu c.S m).st=t.st/\(t.fu c.S m).ep=t.ep:=λt=>⟨eQ.1,eQ.2.2.2.1⟩;have q:=(@Ps m t.rt).pn;have e:aR (t.ep+1)=t.ep+1:=fA ⟨by omega,by omega⟩;obtain⟨d,ep,p,u,look,j,r,o,b,v⟩:=t;have e:aR (ep+1)=ep+1:=e;cases d with
 |pin=>exact⟨by show upd m.pn w (aR (ep+1)) w=ep+1;rw[ky,e],λj a=>il _ _ a⟩
 |eO=>exact⟨by show upd m.pn w 0 w=0;rw[ky],λj a=>il _ _ a⟩
 |ep=>exact⟨trivial,λj a=>rfl⟩
 |_=>unfold PnT at *;unfold Td.step Td.swap Mm.set Mm.nT;constructor<;>grind
def PnG(c:Cn)(s:Ms)(w:Nat):Prop:=PnP ((ai c s w).m.pn w) ((ai c s w).ws w).ph/\∀j,j≠w->(ai c s w).m.pn j=s.m.pn j
def ahC{x}{q}:(aV c w s x q).m.pn=s.m.pn:=by
 grind [aV,Ms.put,Ms.mem,Qu.step,Mm.nT]
def aj7{x}{q}(h:s.m.pn w=0):PnP ((aV c w s x q).m.pn w) ((aV c w s x q).ws w).ph:=by
 rw[ahC,h];unfold aV;dsimp only;repeat' split
 all_goals (rw[ae];first|trivial|rfl)
def amb(b:busy (s.ws w).ph):∀j,j≠w->(ai c s w).m.pn j=s.m.pn j:=by
 intro j o;cases a:(s.ws w).ph with
 |rest=>rw[a]at b;exact b.elim
 |ax _ _ _=>rw[a]at b;exact b.elim
 |parked _=>rw[a]at b;exact b.elim
 |leaves _=>rw[a]at b;exact b.elim
 |pin h=>
  unfold ai;dsimp only;rw[a];cases h with
  |none=>rfl
  |some e=>exact il _ _ o
 |work k=>
  have n:ai c s w=ak c w s (s.ws w) k:=by unfold ai;dsimp only;rw[a]
  rw[n];cases k with
  |get t=>
   rw[<-n,ah7 a,ahI.pn]
  |give t=>unfold ak;dsimp only;have k:=(akd (c:=c) (w:=w) (m:=s.m) (g:=t)).pn;repeat' split
           all_goals (show(Gv.step c w s.m t).2.pn j=_;rw[k])
  |bg t=>unfold ak;dsimp only;have k:=(akb (c:=c) (w:=w) (m:=s.m) (g:=t)).pn;repeat' split
         all_goals (show(Sm.step c w s.m t).2.pn j=_;rw[k])
  |stats t=>unfold ak;dsimp only;repeat' split
            all_goals rfl
  |close d=>
   cases d with
   |none=>
    show(if(s.ws w).ask.force then{s.m with cl:=2}else if s.m.cl=0 then{s.m with cl:=1}else s.m:Mm).pn j=_
    repeat' split
    all_goals rfl
   |some q=>
    have k:(q.step c w s.m).2.pn=s.m.pn:=by unfold Qu.step Mm.nT;grind
    unfold ak;dsimp only;repeat' split
    all_goals (show(Qu.step c w s.m q).2.pn j=_;rw[k])
  |aS r=>
   have k:=(Ps (m:=s.m) (r:=r.rt)).pn;unfold ak;dsimp only;repeat' split
   all_goals first|rfl|(show(Rt.step s.m r.rt).2.pn j=_;rw[k])
 |counts t=>
  unfold ai;dsimp only;rw[a];dsimp only;repeat' split
  all_goals rfl
 |enters q=>
  have k:(q.step c w s.m).2.pn=s.m.pn:=by unfold Qu.step Mm.nT;grind
  unfold ai;dsimp only;rw[a];dsimp only;repeat' split
  all_goals (show(Qu.step c w s.m q).2.pn j=_;rw[k])
 |wakes h=>
  unfold ai;dsimp only;rw[a];cases h with
  |none=>rfl
  |some g=>unfold dh;dsimp only;split<;>rfl
def amI(h:PnP (s.m.pn w) (s.ws w).ph)(v:∀t p a,(s.ws w).ph=.ax t p a->0<=t.ep/\t.ep<=4000000000000000000):PnG c s w:=by
 have bz:busy (s.ws w).ph->PnG c s w:=λd=>⟨aqf (aj2 d),amb d⟩;cases d:(s.ws w).ph with
 |rest=>
  grind [ai,PnG]
 |pin x=>exact bz (by rw[d];trivial)
 |work x=>exact bz (by rw[d];trivial)
 |counts x=>exact bz (by rw[d];trivial)
 |enters x=>exact bz (by rw[d];trivial)
 |wakes x=>exact bz (by rw[d];trivial)
 |ax t p a=>
  rw[d]at h;obtain⟨k,r⟩:=aor h (v t p a d);cases n:t.step c w s.m with
  |mk y l=>
   rw[n]at k r;have e:=ui d n;have A:(ai c s w).m=l:=by
    rw[e];split
    .cases p<;>rfl
    .rfl
   unfold PnG;rw[A];refine⟨?_,r⟩;by_cases o:y.st=.done
   .have z:l.pn w=0:=by
     unfold PnT at k;rw[o]at k;exact k
    rw[tz o]at e;rw[e];cases p with
    |some b=>
     show PnP (l.pn w) (((s.mem l).put w ((s.ws w).to (.parked b))).ws w).ph;rw[ae];exact z
    |none=>
     show PnP (l.pn w) (((s.mem l).put w ((s.ws w).to .rest)).ws w).ph;rw[ae];exact z
   .rw[ck o]at e
    rw[e,ae];exact k
 |parked b=>
  rw[d]at h;by_cases u:s.m.gr w≠0
  .have e:ai c s w=(s.mem s.m).put w ((s.ws w).to (.wakes (some (s.m.gr w)))):=by unfold ai;dsimp only;rw[d];rw[tz u];rfl
   unfold PnG;rw[e,ae];exact⟨trivial,λj _=>rfl⟩
  .have e:ai c s w=aV c w s (s.ws w) Qu.leave:=by unfold ai;dsimp only;rw[d];rw[ck u]
   unfold PnG;rw[e];exact⟨aj7 h,λj _=>by rw[ahC]⟩
 |leaves q=>
  rw[d]at h;have e:ai c s w=aV c w s (s.ws w) q:=by unfold ai;dsimp only;rw[d]
  unfold PnG;rw[e];exact⟨aj7 h,λj _=>by rw[ahC]⟩
end
noncomputable section
open Classical
variable{c:Cn} {w:Nat} {s d:Ms} {m l:Mm} {i:Nat} {g:Bool} {K:Int}
def agU{r:Rt}:
  (r.st=.swap/\((∃n,nz m (r.step m).2 r.i 11 0 4095 n/\(r.step m).2.ep=m.ep/\(r.step m).1.i=r.i/\(r.step m).1.wd=n/\(r.step m).1.st=.look)\/((r.step m).2=m/\(r.step m).1.st=.done)))\/
  (r.st=.look/\(r.step m).2=m/\(r.step m).1.i=r.i/\(r.step m).1.wd=r.wd/\(r.step m).1.st=.iI/\(r.step m).1.ep=m.ep)\/
  (r.st=.iI/\(r.step m).1.st=.jk/\(r.step m).1.i=r.i/\((∃n,nz m (r.step m).2 r.i 17 0 r.ep n/\(r.step m).2.ep=m.ep)\/((r.step m).2=m/\(m.sl r.i=r.wd->az r.wd 17 0 r.ep=none))))\/
  (r.st=.jk/\(r.step m).1.st=.done/\(r.step m).2.sl=m.sl/\(r.step m).2.ep=aR (m.ep+1))\/
  (r.st=.done/\(r.step m).1.st=.done/\(r.step m).2=m):=by
 obtain⟨i,b,e,a,f⟩:=r;cases a<;>(unfold Rt.step nz Mm.set;grind)
def RpC(m:Mm)(r:Rt):Prop:=(r.st=.look\/r.st=.iI->r.wd.st=6/\r.wd.ep=4095)/\(r.st=.iI->0<=r.ep/\r.ep<=m.ep)
def EeC(s:Ms)(i:Nat):Prop:=(s.m.sl i).ep<s.m.ep\/(∃v r,dC (s.ws v).ph=some r/\(r.st=.look\/r.st=.iI)/\r.i=i/\r.wd=s.m.sl i)\/(∃v r,dC (s.ws v).ph=some r/\r.st=.jk/\r.i=i/\(s.m.sl i).ep<=s.m.ep)
structure RtI(c:Cn)(s:Ms)(K:Int):Prop where
 eb:0<=s.m.ep/\s.m.ep<=K
 rp:∀v r,dC (s.ws v).ph=some r->RpC s.m r
 ee:∀i,i<c.S->(s.m.sl i).st=6->EeC s i
def ahp(h:RtX s.m d.m (dC (s.ws w).ph) (dC (d.ws w).ph))(o:0<=s.m.ep/\s.m.ep<=4000000000000000000):s.m.ep<=d.m.ep/\d.m.ep<=s.m.ep+1:=by
 have e:aR (s.m.ep+1)=s.m.ep+1:=fA ⟨by omega,by omega⟩;cases h with
 |idle a b f n=>omega
 |go r a b f n p=>
  rcases agU (m:=s.m) (r:=r)with k|k|k|k|k<;>grind
def amD(I:RtI c s K)(A:All c s)(h:RtX s.m d.m (dC (s.ws w).ph) (dC (d.ws w).ph))(hK:K<=4000000000000000000)(o:∀j,j≠w->d.ws j=s.ws j):RtI c d (K+1):=by
 obtain⟨eb,rp,Q⟩:=I;obtain⟨m1,m2⟩:=ahp h ⟨eb.1,by omega⟩;have U:aR (s.m.ep+1)=s.m.ep+1:=fA ⟨by omega,by omega⟩;have or:∀v,v≠w->dC (d.ws v).ph=dC (s.ws v).ph:=λv hv=>by rw[o v hv]
 have F:=A.inv.m.1;refine⟨⟨by omega,by omega⟩,λv r V=> ?_,λi P x=> ?_⟩
 .by_cases e:v=w
  .subst e
   cases h with
   |idle B G D R=>have:=R r V;unfold RpC;grind
   |go r0 B G D R h5=>
    have k:=rp v r0 B;unfold RpC at k ⊢;rcases agU (m:=s.m) (r:=r0)with q|q|q|q|q
    .obtain⟨H,J⟩:=q
     rcases J with⟨n,L,C,N,O,S⟩|⟨C,N⟩
     .have q:=qf L.1
      grind
     .grind
    .grind
    .grind
    .grind
    .grind
  .rw[or v e]at V
   have k:=rp v r V;unfold RpC at*;grind
 .unfold EeC at*
  cases h with
  |idle B G D R=>
   have e:=G i x;rw[e]at x ⊢;rw[B];have k:=Q i P x;grind
  |go r B G D R h5=>
   have kr:=rp w r B;unfold RpC at kr;rcases agU (m:=s.m) (r:=r)with q|q|q|q|q
   .obtain⟨H,J⟩:=q
    rcases J with⟨n,L,C,N,O,S⟩|⟨C,N⟩
    .by_cases e:i=r.i
     .right;left
      refine⟨w,_,R (by rw[S];exact cK.noConfusion),.inl S,by rw[N,e],?_⟩;rw[O,D,L.2,e,ky]
     .have E:d.m.sl i=s.m.sl i:=by rw[D,L.2,il _ _ e]
      rw[E]at x ⊢;have k:=Q i P x;have f:d.m.ep=s.m.ep:=by rw[G,C]
      rw[f];grind
    .have E:d.m.sl=s.m.sl:=by rw[D,C]
     have f:d.m.ep=s.m.ep:=by rw[G,C]
     rw[E]at x ⊢;rw[f];have k:=Q i P x;grind
   .obtain⟨H,J,C,N,O,S⟩:=q
    have E:d.m.sl=s.m.sl:=by rw[D,J]
    have f:d.m.ep=s.m.ep:=by rw[G,J]
    have W:=R (by rw[O];exact cK.noConfusion);rw[E]at x ⊢;rw[f];rcases Q i P x with k|⟨v,y,a,b,p,u⟩|⟨v,y,a,b,p,u⟩
    .exact .inl k
    .by_cases e:v=w
     .subst e
      rw[B]at a;cases a;exact .inr (.inl ⟨v,_,W,.inr O,by rw[C];exact p,by rw[N];exact u⟩)
     .exact .inr (.inl ⟨v,y,by rw[or v e];exact a,b,p,u⟩)
    .by_cases e:v=w
     .subst e
      rw[B]at a;cases a;rw[H]at b;cases b
     .exact .inr (.inr ⟨v,y,by rw[or v e];exact a,b,p,u⟩)
   .obtain⟨H,J,C,N⟩:=q
    have W:=R (by rw[J];exact cK.noConfusion);obtain⟨X,Y⟩:=kr;obtain⟨w6,Z⟩:=X (.inr H);obtain⟨ac,am⟩:=Y H;rcases N with⟨n,L,O⟩|⟨O,S⟩
    .have f:d.m.ep=s.m.ep:=by rw[G,O]
     rw[f];by_cases e:i=r.i
     .right;right
      refine⟨w,_,W,J,by rw[C,e],?_⟩;have:d.m.sl i=n:=by rw[D,L.2,e,ky]
      rw[this,((qf L.1).2.2.2.2.2.2.2.2.2.2.2.2.2.2.2.2 rfl).2.2];exact am
     .have E:d.m.sl i=s.m.sl i:=by rw[D,L.2,il _ _ e]
      rw[E]at x ⊢;rcases Q i P x with k|⟨v,y,a,b,p,u⟩|⟨v,y,a,b,p,u⟩
      .exact .inl k
      .by_cases z:v=w
       .subst z
        rw[B]at a;cases a;exact tA p.symm e
       .exact .inr (.inl ⟨v,y,by rw[or v z];exact a,b,p,u⟩)
      .by_cases z:v=w
       .subst z
        rw[B]at a;cases a;rw[H]at b;cases b
       .exact .inr (.inr ⟨v,y,by rw[or v z];exact a,b,p,u⟩)
    .have E:d.m.sl=s.m.sl:=by rw[D,O]
     have f:d.m.ep=s.m.ep:=by rw[G,O]
     rw[E]at x ⊢;rw[f];rcases Q i P x with k|⟨v,y,a,b,p,u⟩|⟨v,y,a,b,p,u⟩
     .exact .inl k
     .by_cases z:v=w
      .subst z
       rw[B]at a;cases a;left;have T:s.m.sl r.i=r.wd:=by rw[p];exact u.symm
       have L:=S T;refine cv λao=> ?_;have:az r.wd 17 0 r.ep≠none:=by
        have F1:Facts r.wd:=by rw[<-T,p];exact F i P
        unfold az;rw[tz ⟨kN.2 F1,by decide,by decide⟩];show(xk r.wd r.ep).map _≠none;unfold xk;rw[tz ⟨w6,ac,by rw[<-u,Z]at ao;omega⟩];exact λh=>by cases h
       exact this L
      .exact .inr (.inl ⟨v,y,by rw[or v z];exact a,b,p,u⟩)
     .by_cases z:v=w
      .subst z
       rw[B]at a;cases a;rw[H]at b;cases b
      .exact .inr (.inr ⟨v,y,by rw[or v z];exact a,b,p,u⟩)
   .obtain⟨H,J,C,N⟩:=q
    have E:d.m.sl=s.m.sl:=by rw[D,C]
    have f:d.m.ep=s.m.ep+1:=by rw[G,N,U]
    rw[E]at x ⊢;rw[f];rcases Q i P x with k|⟨v,y,a,b,p,u⟩|⟨v,y,a,b,p,u⟩
    .left;omega
    .by_cases z:v=w
     .subst z
      rw[B]at a;cases a;rw[H]at b;rcases b with b|b<;>cases b
     .exact .inr (.inl ⟨v,y,by rw[or v z];exact a,b,p,u⟩)
    .omega
   .grind
def EpI(s:Ms):Prop:=∀v t p a,(s.ws v).ph=.ax t p a->0<=t.ep/\t.ep<=s.m.ep
theorem aos{t:Td}:(t.step c w m).1.ep=t.ep\/(t.step c w m).1.ep=m.ep:=by
 grind [Td.step,eQ]
def anb(I:EpI s)(a:0<=s.m.ep)(b:s.m.ep<=(ai c s w).m.ep)(o:∀j,j≠w->(ai c s w).ws j=s.ws j):EpI (ai c s w):=by
 refine akg I o ⟨jx 0,by show(0:Int)<=_;omega⟩ (λt h e=> ?_) (λt h=>⟨h.1,by omega⟩);grind [aos]
def prog(i:Nat)(p:Ph):Prop:=∃r,dC p=some r/\r.i=i/\(r.st=.look\/r.st=.iI\/r.st=.jk)
def PpT(s:Ms)(t:Td):Prop:=t.ep<s.m.ep\/s.m.sl t.i=t.wd\/(s.m.sl t.i).st≠6\/∃x,prog t.i (s.ws x).ph
def PpI(s:Ms):Prop:=∀v t p a,(s.ws v).ph=.ax t p a->(t.st=.pins\/t.st=.clear)->PpT s t
def akF{t}(h:PpT s t)(L:RtX s.m d.m (dC (s.ws w).ph) (dC (d.ws w).ph))(O:0<=s.m.ep/\s.m.ep<=4000000000000000000)(P:t.ep<=s.m.ep)(o:∀j,j≠w->d.ws j=s.ws j):PpT d t:=by
 obtain⟨S,T⟩:=ahp L O;have Q:aR (s.m.ep+1)=s.m.ep+1:=fA ⟨by omega,by omega⟩;unfold PpT at*;by_cases H:t.ep<d.m.ep
 .exact .inl H
 have k:∀{x:Nat},x≠w->prog t.i (s.ws x).ph->∃x,prog t.i (d.ws x).ph:=λ{x} e h=>⟨x,by grind⟩;cases L with
 |idle A N u E=>
  rcases h with h|h|h|⟨x,h⟩
  .omega
  .grind
  .by_cases F:(d.m.sl t.i).st=6
   .rw[N _ F]at F;exact tA F h
   .exact .inr (.inr (.inl F))
  .by_cases e:x=w
   .obtain⟨r,a,_⟩:=h
    rw[e,u]at a;cases a
   .exact .inr (.inr (.inr (k e h)))
 |go r A N u E U=>
  rcases agU (m:=s.m) (r:=r)with q|q|q|q|q
  .obtain⟨B,y⟩:=q
   rcases y with⟨n,I,v,C,D,J⟩|⟨v,C⟩
   .by_cases e:t.i=r.i
    .exact .inr (.inr (.inr ⟨w,_,E (by rw[J];exact cK.noConfusion),by rw[C,e],.inl J⟩))
    .have p:d.m.sl t.i=s.m.sl t.i:=by rw[u,I.2,il _ _ e]
     rw[p];rcases h with h|h|h|⟨x,h⟩
     .omega
     .exact .inr (.inl h)
     .exact .inr (.inr (.inl h))
     .by_cases f:x=w
      .obtain⟨G,a,z,_⟩:=h
       rw[f,A]at a;cases a;exact tA z.symm e
      .exact .inr (.inr (.inr (k f h)))
   .have p:d.m.sl=s.m.sl:=by rw[u,v]
    rw[p];rcases h with h|h|h|⟨x,h⟩
    .omega
    .exact .inr (.inl h)
    .exact .inr (.inr (.inl h))
    .by_cases f:x=w
     .obtain⟨G,a,z,b⟩:=h
      rw[f,A]at a;cases a;rw[B]at b;rcases b with b|b|b<;>cases b
     .exact .inr (.inr (.inr (k f h)))
  .obtain⟨B,y,v,C,D,J⟩:=q
   have p:d.m.sl=s.m.sl:=by rw[u,y]
   rw[p];rcases h with h|h|h|⟨x,h⟩
   .omega
   .exact .inr (.inl h)
   .exact .inr (.inr (.inl h))
   .by_cases f:x=w
    .obtain⟨G,a,z,b⟩:=h
     rw[f,A]at a;cases a;exact .inr (.inr (.inr ⟨w,_,E (by rw[D];exact cK.noConfusion),by rw[v];exact z,.inr (.inl D)⟩))
    .exact .inr (.inr (.inr (k f h)))
  .obtain⟨B,y,v,C⟩:=q
   have R:=E (by rw[y];exact cK.noConfusion);by_cases e:t.i=r.i
   .exact .inr (.inr (.inr ⟨w,_,R,by rw[v,e],.inr (.inr y)⟩))
   .have p:d.m.sl t.i=s.m.sl t.i:=by
     rcases C with⟨n,I,_⟩|⟨D,_⟩
     .rw[u,I.2,il _ _ e]
     .rw[u,D]
    rw[p];rcases h with h|h|h|⟨x,h⟩
    .omega
    .exact .inr (.inl h)
    .exact .inr (.inr (.inl h))
    .by_cases f:x=w
     .obtain⟨G,a,z,b⟩:=h
      rw[f,A]at a;cases a;exact tA z.symm e
     .exact .inr (.inr (.inr (k f h)))
  .omega
  .obtain⟨B,y,v⟩:=q
   have p:d.m.sl=s.m.sl:=by rw[u,v]
   rw[p];rcases h with h|h|h|⟨x,h⟩
   .omega
   .exact .inr (.inl h)
   .exact .inr (.inr (.inl h))
   .by_cases f:x=w
    .obtain⟨G,a,z,b⟩:=h
     rw[f,A]at a;cases a;rw[B]at b;rcases b with b|b|b<;>cases b
    .exact .inr (.inr (.inr (k f h)))
def alQ{t:Td}{S}(h:t.look.fd=none)(f:(t.fu S m).look.fd.isSome=true):m.sl (t.fu S m).i=(t.fu S m).wd:=by
 grind [Td.fu,Fd.step]
def ap1{t}(T:pX c t)(h:(t.step c w m).1.st=.pins\/(t.step c w m).1.st=.clear):(m.sl (t.step c w m).1.i=(t.step c w m).1.wd/\(t.step c w m).2=m)\/((t.st=.pins\/t.st=.clear)/\(t.step c w m).1.i=t.i/\(t.step c w m).1.wd=t.wd/\(t.step c w m).1.ep=t.ep/\(t.step c w m).2=m):=by
 have n:∀t:Td,(t.fu c.S m).st=t.st:=λt=>eQ.1;obtain⟨f,p,a,q,look,j,b,o,e,r⟩:=t;cases f with
 |old=>
  have T:look.fd=none:=T;have v:=alQ (S:=c.S) (m:=m) (t:=⟨.old,p,a,q,look,j,b,o,e,r⟩) T;grind [Td.step]
 |pins=>right;unfold Td.step at *;grind
 |dL=>
  exfalso;obtain⟨k,_⟩:=eQ (m:=m) (t:=⟨.dL,p,a,q,look,j,b,o,e,r⟩) (S:=c.S);unfold Td.step at h;dsimp only at h;generalize Td.fu c.S m ⟨.dL,p,a,q,look,j,b,o,e,r⟩=u at*;have k:u.st=.dL:=k;split at h
  .rcases h with h|h<;>cases h
  .split at h
   .rcases h with h|h<;>cases h
   .rw[k]at h;rcases h with h|h<;>cases h
 |some=>
  obtain⟨k,_⟩:=eQ;unfold Td.step at h;dsimp only at h;split at h
  .rcases h with h|h<;>cases h
  .split at h
   .rcases h with h|h<;>cases h
   .rw[k]at h;rcases h with h|h<;>cases h
 |_=>
  unfold Td.step at h;dsimp only at h;repeat' split at h
  all_goals (rcases h with h|h<;>cases h)
def amF(I:PpI s)(E:EpI s)(x:RtG c s w)(n:0<=s.m.ep/\s.m.ep<=4000000000000000000)(X:jO c w (s.ws w))(o:∀j,j≠w->(ai c s w).ws j=s.ws j):PpI (ai c s w):=by
 intro v t p a h b;by_cases e:v=w
 .subst e
  rcases ahz t p a h with rfl|⟨q,f,r,B⟩
  .rcases b with b|b<;>cases b
  .unfold jO at X
   rw[f]at X;rw[r]at b;rcases ap1 X.1 b with⟨u,y⟩|⟨u,y,z,A,C⟩
   .right;grind
   .have k:=akF (I v q p a f u) x n (E v q p a f).2 o
    unfold PpT at k ⊢;rw[r,y,z,A];exact k
 .rw[o v e]at h
  exact akF (I v t p a h b) x n (E v t p a h).2 o
def Kd5(t:Td):Prop:=(t.st=.old\/t.st=.pins\/t.st=.clear)->t.look.kd=5
def KdI(s:Ms):Prop:=∀v t p a,(s.ws v).ph=.ax t p a->Kd5 t
theorem apA{f:Fd}{S}:(f.step S m).kd=f.kd:=by unfold Fd.step;grind
def amz{t:Td}{S}:(t.fu S m).look.kd=t.look.kd:=by
 grind [Td.fu,apA]
def ap4{t}(h:Kd5 t):Kd5 (t.step c w m).1:=by
 obtain⟨x,p,a,q,look,j,b,o,e,r⟩:=t;cases x with
 |dL=>
  obtain⟨k,_⟩:=eQ (m:=m) (t:=⟨.dL,p,a,q,look,j,b,o,e,r⟩) (S:=c.S);unfold Td.step;dsimp only;generalize Td.fu c.S m ⟨.dL,p,a,q,look,j,b,o,e,r⟩=u at*;have k:u.st=.dL:=k;unfold Kd5 at*;split
  .intro h;rcases h with h|h|h<;>cases h
  .split
   .intro _;rfl
   .rw[k];intro h;rcases h with h|h|h<;>cases h
 |some=>
  obtain⟨k,_⟩:=eQ (m:=m) (t:=⟨.some,p,a,q,look,j,b,o,e,r⟩) (S:=c.S);unfold Td.step;dsimp only;generalize Td.fu c.S m ⟨.some,p,a,q,look,j,b,o,e,r⟩=u at*;have k:u.st=.some:=k;unfold Kd5 at*;split
  .intro h;rcases h with h|h|h<;>cases h
  .split
   .intro h;rcases h with h|h|h<;>cases h
   .rw[k];intro h;rcases h with h|h|h<;>cases h
 |old=>
  have n:=amz (m:=m) (t:=⟨.old,p,a,q,look,j,b,o,e,r⟩) (S:=c.S);have f:look.kd=5:=h (.inl rfl);unfold Td.step;dsimp only;generalize Td.fu c.S m ⟨.old,p,a,q,look,j,b,o,e,r⟩=u at*;have n:u.look.kd=look.kd:=n;rw[f]at n;unfold Kd5 at*;split
  .intro _;exact n
  .split
   .split<;>(intro h;rcases h with h|h|h<;>cases h)
   .intro _;exact n
 |pins=>
  have f:look.kd=5:=h (.inr (.inl rfl));have v:look.go.kd=look.kd:=by unfold Fd.go;split<;>rfl
  unfold Td.step;dsimp only;split
  .intro _;exact v.trans f
  .intro _;exact f
 |clear=>
  have f:=h (.inr (.inr rfl));have v:look.go.kd=look.kd:=by unfold Fd.go;split<;>rfl
  intro _;exact v.trans f
 |_=>
  unfold Td.step;dsimp only;repeat' split
  all_goals (intro h;rcases h with h|h|h<;>cases h)
def amQ(I:KdI s)(o:∀j,j≠w->(ai c s w).ws j=s.ws j):KdI (ai c s w):=
 akg I o (λh=>by rcases h with h|h|h<;>cases h) (λt h e=>ap4 h) (λt h=>h)
def LbT(m:Mm)(i:Nat)(t:Td):Prop:=match t.st with
 | .ep=>True| .pin=>True| .cl=>True| .dL=>True| .go=>True
 | .old=>t.look.at_<=i\/t.ep<m.ep
 | .pins=>t.look.at_<=i\/t.ep<m.ep
 | .clear=>t.look.at_<=i\/t.ep<m.ep
 | .done=>False
 |_=>t.ep<m.ep
def LbP(m:Mm)(i:Nat)(p:Ph):Prop:=busy p\/∃t q a,p=.ax t q a/\LbT m i t
def LbI(c:Cn)(s:Ms):Prop:=∀i,i<c.S->(s.m.sl i).st=6->∃v,LbP s.m i (s.ws v).ph
def amL{t}(h:LbT m i t)(e:m.ep<=l.ep):LbT l i t:=by
 grind [LbT]
theorem akG{p}(h:LbP m i p)(e:m.ep<=l.ep):LbP l i p:=by
 rcases h with h|⟨t,q,a,h,k⟩
 .exact .inl h
 .exact .inr ⟨t,q,a,h,amL k e⟩
theorem alU{p}{r}(h:dC p=some r):LbP m i p:=by
 cases p with
 |ax t q a=>
  unfold dC at h;dsimp only at h;split at h
  .exact .inr ⟨t,q,a,rfl,by grind [LbT]⟩
  .cases h
 |work k=>exact .inl trivial
 |_=>cases h
def ap8{p}(h:BzP p):LbP m i p:=by
 rcases h with h|⟨q,a,h⟩
 .exact .inl h
 .exact .inr ⟨_,q,a,h,trivial⟩
def amy{t:Td}{S}(h:t.look.fd=none)(k:t.look.kd=5):
  (S<=t.look.at_/\(t.fu S m).look.fd=none/\(t.fu S m).look.at_=t.look.at_)\/(t.look.at_<S/\(m.sl t.look.at_).st=6/\(t.fu S m).look.fd.isSome=true/\(t.fu S m).look.at_=t.look.at_)\/(t.look.at_<S/\(m.sl t.look.at_).st≠6/\(t.fu S m).look.fd=none/\(t.fu S m).look.at_=t.look.at_+1):=by
 have e:(t.fu S m).look=t.look.step S m:=by
  grind [Td.fu]
 have a:fits t.look.kd t.look.ow (m.sl t.look.at_)↔(m.sl t.look.at_).st=6:=by rw[k];exact Iff.rfl
 grind [Fd.step]
def ap2{t}(T:pX c t)(F:Kd5 t)(L:LbT m i t)(N:i<c.S)(f:((t.step c w m).2.sl i).st=6)(v:m.ep<=(t.step c w m).2.ep):
  LbT (t.step c w m).2 i (t.step c w m).1\/(t.st=.pins/\t.i=i/\oC (m.pn t.other) t.wd.ep/\¬t.ep<m.ep/\(t.step c w m).2=m)\/(t.st=.clear/\t.i=i/\t.swap m 12 w=none/\¬t.ep<m.ep/\(t.step c w m).2=m):=by
 obtain⟨G,ep,cl,k,look,j,b,o,a,r⟩:=t;cases G with
 |ep=>exact .inl trivial
 |pin=>exact .inl trivial
 |cl=>exact .inl trivial
 |dL=>
  left;obtain⟨p,_⟩:=eQ (m:=m) (t:=⟨.dL,ep,cl,k,look,j,b,o,a,r⟩) (S:=c.S);unfold Td.step;dsimp only;generalize Td.fu c.S m ⟨.dL,ep,cl,k,look,j,b,o,a,r⟩=u at*;have p:u.st=.dL:=p;split
  .exact True.intro
  .split
   .exact .inl (tE _)
   .unfold LbT;rw[p];exact True.intro
 |go=>
  left;unfold Td.step;dsimp only;split<;>exact True.intro
 |old=>
  left;have T:look.fd=none:=T;have H:look.kd=5:=F (.inl rfl);have L:look.at_<=i\/ep<m.ep:=L;have f:(m.sl i).st=6:=by
   have e:((Td.step c w m ⟨.old,ep,cl,k,look,j,b,o,a,r⟩).2)=m:=by
    unfold Td.step;dsimp only;repeat' split
    all_goals rfl
   rw[e]at f;exact f
  have A:=amy (m:=m) (t:=⟨.old,ep,cl,k,look,j,b,o,a,r⟩) (S:=c.S) T H;obtain⟨p,_,_,x,_⟩:=eQ (m:=m) (t:=⟨.old,ep,cl,k,look,j,b,o,a,r⟩) (S:=c.S);unfold Td.step;dsimp only;generalize Td.fu c.S m ⟨.old,ep,cl,k,look,j,b,o,a,r⟩=u at*;have p:u.st=.old:=p;have x:u.ep=ep:=x;have A:(c.S<=look.at_/\u.look.fd=none/\u.look.at_=look.at_)\/(look.at_<c.S/\(m.sl look.at_).st=6/\u.look.fd.isSome=true/\u.look.at_=look.at_)\/(look.at_<c.S/\(m.sl look.at_).st≠6/\u.look.fd=none/\u.look.at_=look.at_+1):=A
  have y:u.look.at_<=i\/u.ep<m.ep:=by
   rw[x];rcases L with L|L
   .left
    rcases A with⟨_,_,q⟩|⟨_,_,_,q⟩|⟨_,h,_,q⟩
    .omega
    .omega
    .have:look.at_≠i:=fun e=>h (e▸f)
     omega
   .exact .inr L
  split
  .dsimp only
   split<;>exact y
  .split
   .rename_i C
    have C:u.look.fd=none/\c.S<=u.look.at_:=C;have I:u.ep<m.ep:=by omega
    split<;>exact I
   .unfold LbT;rw[p];exact y
 |pins=>
  have T:look.fd.isSome=true/\look.at_<c.S/\j=look.at_/\o<c.W:=T;have L:look.at_<=i\/ep<m.ep:=L;by_cases z:oC (m.pn o) b.ep
  .by_cases e:j=i/\¬ep<m.ep
   .exact .inr (.inl ⟨rfl,e.1,z,e.2,by unfold Td.step;dsimp only;rw[tz z]⟩)
   .left
    unfold Td.step;dsimp only;rw[tz z];have kg:look.go.at_=look.at_+1:=by unfold Fd.go;rw[tz T.1]
    show look.go.at_<=i\/ep<m.ep;rw[kg];omega
  .left
   unfold Td.step;dsimp only;rw[ck z];dsimp only;split<;>exact L
 |clear=>
  have T:look.fd.isSome=true/\look.at_<c.S/\j=look.at_:=T;have L:look.at_<=i\/ep<m.ep:=L;have v:m.ep<=((Td.swap m ⟨.clear,ep,cl,k,look,j,b,o,a,r⟩ 12 w).getD m).ep:=v;have kg:look.go.at_=look.at_+1:=by unfold Fd.go;rw[tz T.1]
  by_cases e:j=i/\¬ep<m.ep
  .obtain⟨e,J⟩:=e
   cases B:Td.swap m ⟨.clear,ep,cl,k,look,j,b,o,a,r⟩ 12 w with
   |none=>
    refine .inr (.inr ⟨rfl,e,rfl,J,?_⟩);show(Td.swap m ⟨.clear,ep,cl,k,look,j,b,o,a,r⟩ 12 w).getD m=m;rw[B];rfl
   |some l=>
    exfalso;have f:(((Td.swap m ⟨.clear,ep,cl,k,look,j,b,o,a,r⟩ 12 w).getD m).sl i).st=6:=f;rw[B]at f;obtain⟨n,D⟩:=agt B;have q:=(qf D.1);have f:(l.sl i).st=6:=f;rw[D.2]at f;have f:(upd m.sl j n i).st=6:=f;rw[e,ky]at f;have:=(q.2.2.2.2.2.2.2.2.2.2.2.2.1 rfl).2;omega
  .left
   show look.go.at_<=i\/ep<((Td.swap m ⟨.clear,ep,cl,k,look,j,b,o,a,r⟩ 12 w).getD m).ep;rw[kg];omega
 |line=>
  left;have L:ep<m.ep:=L;unfold Td.step;dsimp only;split<;>exact L
 |some=>
  left;have L:ep<m.ep:=L;obtain⟨p,_,_,x,_⟩:=eQ (m:=m) (t:=⟨.some,ep,cl,k,look,j,b,o,a,r⟩) (S:=c.S);unfold Td.step;dsimp only;generalize Td.fu c.S m ⟨.some,ep,cl,k,look,j,b,o,a,r⟩=u at*;have p:u.st=.some:=p;have x:u.ep=ep:=x;have y:u.ep<m.ep:=by rw[x];exact L
  split
  .exact y
  .split
   .exact y
   .unfold LbT;rw[p];exact y
 |keep=>
  left;have L:ep<m.ep:=L;unfold Td.step at v ⊢;dsimp only at v ⊢;split at v
  .rename_i E h;show ep<E.ep;have v:m.ep<=E.ep:=v;omega
  .rename_i h;exact L
 |pop=>
  left;have L:ep<m.ep:=L;unfold Td.step;dsimp only;split<;>exact L
 |grant=>
  left;have L:ep<m.ep:=L;exact L
 |back=>
  left;have L:ep<m.ep:=L;unfold Td.step;dsimp only;split<;>exact L
 |dR=>
  left;unfold Td.step;dsimp only;split
  .exact True.intro
  .exact L
 |eO=>
  left;exact L
 |again=>
  left;have L:ep<m.ep:=L;unfold Td.step;dsimp only;rw[ck (by omega)];exact True.intro
 |done=>exact L.elim
def ap7{p}{v}(h:PnP v p)(e:1<=v)(f:v-1<m.ep):LbP m i p:=by
 cases p with
 |rest=>have h:v=0:=h;omega
 |parked b=>have h:v=0:=h;omega
 |leaves q=>have h:v=0:=h;omega
 |ax t q a=>
  refine .inr ⟨t,q,a,rfl,?_⟩;have h:PnT v t:=h;grind [PnT,LbT]
 |_=>exact .inl trivial
def amM(I:LbI c s)(hx:RtG c s w)(A:All c s)(hw:w<c.W)(ac:w<=15)(P:PpI s)(E:EpI s)(Kd:KdI s)(R:RtI c s K)(hK:K<=4000000000000000000)(N:∀v,PnP (s.m.pn v) (s.ws v).ph)(o:∀j,j≠w->(ai c s w).ws j=s.ws j):LbI c (ai c s w):=by
 intro i J b;have hm:s.m.ep<=(ai c s w).m.ep:=(ahp hx ⟨R.eb.1,by have:=R.eb.2;omega⟩).1;have u:∀{x:Nat} {r:Rt},dC (s.ws w).ph=none->dC (s.ws x).ph=some r->∃v,LbP (ai c s w).m i ((ai c s w).ws v).ph:=by
  grind [alU]
 by_cases p:(s.m.sl i).st=6
 .obtain⟨v,L⟩:=I i J p
  by_cases e:v=w
  .subst e
   rcases L with L|⟨t,q,a,B,L⟩
   .exact⟨v,ap8 (aj2 L)⟩
   .have T:pX c t:=by
     have X:=A.inv.w v hw;unfold jO at X;rw[B]at X;exact X.1
    cases z:t.step c v s.m with
    |mk S l=>
     have U:=ui B z;have O:(ai c s v).m=l:=by
      rw[U];split
      .cases q<;>rfl
      .rfl
     have k:=ap2 (w:=v) (m:=s.m) T (Kd v t q a B) L J (by rw[z, <-O];exact b) (by rw[z, <-O];exact hm);rw[z]at k;have pp:=P v t q a B;rcases k with k|⟨D,F,G,V,Q⟩|⟨D,F,G,V,Q⟩
     .have nd:S.st≠.done:=λh=>by
       have k:LbT l i S:=k;unfold LbT at k;rw[h]at k;exact k
      rw[ck nd]at U;refine⟨v,?_⟩;rw[O,U,ae];exact .inr ⟨S,q,a,rfl,k⟩
     .have f:dC (s.ws v).ph=none:=by rw[B];unfold dC;dsimp only;rw[ck (by rw[D];exact mO.noConfusion)]
      have Q:l=s.m:=Q;rcases pp (.inl D)with h|h|h|⟨x,r,C,_⟩
      .exact tA h V
      .rw[F]at h
       rcases R.ee i J p with y|⟨x,r,C,_⟩|⟨x,r,C,_⟩
       .obtain⟨b1,b2⟩:=G
        rw[<-h]at b2;have nu:=N t.other;by_cases W:t.other=v
        .exfalso
         rw[W,B]at nu;have nu:PnT (s.m.pn v) t:=nu;unfold PnT at nu;rw[D]at nu;have nu:s.m.pn v=t.ep+1:=nu;rw[W]at b2;omega
        .exact⟨t.other,by rw[o _ W,O,Q];exact ap7 nu b1 (by omega)⟩
       .exact u f C
       .exact u f C
      .rw[F]at h;exact tA p h
      .exact u f C
     .have f:dC (s.ws v).ph=none:=by rw[B];unfold dC;dsimp only;rw[ck (by rw[D];exact mO.noConfusion)]
      rcases pp (.inr D)with h|h|h|⟨x,r,C,_⟩
      .exact tA h V
      .exfalso
       rw[F]at h;have F1:Facts t.wd:=by rw[<-h];exact A.inv.m.1 i J
       have hn:az t.wd 12 v 0≠none:=by
        unfold az;rw[tz ⟨kN.2 F1,by omega,by omega⟩];show(xq t.wd).map _≠none;unfold xq;rw[tz (by rw[<-h];exact p)];exact λh=>by cases h
       unfold Td.swap at G;split at G
       .rw[tz (by rw[F];exact h)]at G;cases G
       .rename_i e;exact hn e
      .rw[F]at h;exact tA p h
      .exact u f C
  grind [akG]
 .cases hx with
  |idle h1 h2 H Y=>rw[h2 i b]at b;exact tA b p
  |go r h1 h2 H Y h5=>
   rcases agU with q|q|q|q|q
   .obtain⟨q1,Z⟩:=q
    rcases Z with⟨n,hn,q3,q4,q5,q6⟩|⟨q3,q4⟩
    .exact⟨w,alU (Y (by rw[q6];exact cK.noConfusion))⟩
    .rw[H,q3]at b;exact tA b p
   .rw[H,q.2.1]at b;exact tA b p
   .obtain⟨q1,Z,q3,q4⟩:=q
    exact⟨w,alU (Y (by rw[Z];exact cK.noConfusion))⟩
   .rw[H,q.2.2.1]at b;exact tA b p
   .rw[H,q.2.2]at b;exact tA b p
end
noncomputable section
open Classical Yq
variable{c:Cn} {w:Nat} {s s':Ms} {m m':Mm} {i:Nat} {g:Bool} {K:Nat}
structure akA(s s':Ms):Prop where
 ep:s'.m.ep=s.m.ep
 pn:s'.m.pn=s.m.pn
 lim:∀i,(s'.m.sl i).st=6->s'.m.sl i=s.m.sl i
 lim':∀i,(s.m.sl i).st=6->s'.m.sl i=s.m.sl i
 ph:∀v,(s'.ws v).ph=(s.ws v).ph\/((s.ws v).ph=.rest/\(s'.ws v).ph=.pin none)
def apF(D:DoC c s s'):akA s s':=by
 cases D with
 |same b d=>exact⟨by rw[b],by rw[b],λi _=>by rw[b],λi _=>by rw[b],λv=>.inl (by rw[d])⟩
 |ask u a f r b d=>
  refine⟨by rw[b],by rw[b],λi _=>by rw[b],λi _=>by rw[b],λv=> ?_⟩;rw[d];grind [ky,il]
 |brk j n e b d=>
  obtain⟨q,k,l⟩:=alS e;refine⟨by rw[b];rfl,by rw[b];rfl,λi h=> ?_,λi h=> ?_,λv=>.inl (by rw[d])⟩
  .rw[b]at h ⊢
   have h:(upd s.m.sl j n i).st=6:=h;show upd s.m.sl j n i=_;grind [ky,il]
  .rw[b]
   show upd s.m.sl j n i=_;grind [il]
def akA.td(D:akA s s'){v}{t}{p}{a}(h:(s'.ws v).ph=.ax t p a):(s.ws v).ph=.ax t p a:=by
 rcases D.ph v with k|⟨_,k⟩
 all_goals grind
def akA.rt(D:akA s s')(v):dC (s'.ws v).ph=dC (s.ws v).ph:=by
 rcases D.ph v with k|⟨a,k⟩
 .rw[k]
 .rw[k,a];rfl
structure GxS(c:Cn)(s:Ms)(K:Nat):Prop where
 nx:Nx c s K
 out:∀v,c.W<=v->(s.ws v).ph=.rest
 wt:WtI c s
 cl:ClI s
 tc:TcI s
 rs:RsI c s
 dl:DlI c s
 cm:CmI c s
 rt:RtI c s K
 ep:EpI s
 pp:PpI s
 kd:KdI s
 lb:LbI c s
 pn:∀v,PnP (s.m.pn v) (s.ws v).ph
theorem aqc(G:GxS c s K)(W:c.W<=14)(S:1<=c.S)(x)(q:x.kind≠1):GxS c (dX c s x).2 (K+1):=by
 have D:=aks (c:=c) (s:=s) x q;have F:=apF D;obtain⟨H,o,wt,I,J,L,N,O,y,P,Q,R,T,U⟩:=G;refine⟨ai9 W S H x,λv B=> ?_,aom wt x q,apJ I D,aou J D,aoB L D,apH N D,apI O x q,⟨?_,λv r z=> ?_,λi A b=> ?_⟩,λv t p a h=> ?_,λv t p a h V=> ?_,λv t p a h=>R v t p a (F.td h),λi A b=> ?_,λv=> ?_⟩
 .cases D with
  |same C l=>grind
  |brk j n E C l=>rw[l];exact o v B
  |ask u a X z C l=>rw[l,il _ _ (by omega)];exact o v B
 .rw[F.ep]
  have:=y.eb;omega
 .rw[F.rt]at z
  have k:=y.rp v r z;unfold RpC at*;rw[F.ep];exact k
 .have e:=F.lim i b
  rw[e]at b;have k:=y.ee i A b;unfold EeC at*;rw[e,F.ep];rcases k with k|⟨v,r,d,f⟩|⟨v,r,d,f⟩
  .exact .inl k
  .exact .inr (.inl ⟨v,r,by rw[F.rt];exact d,f⟩)
  .exact .inr (.inr ⟨v,r,by rw[F.rt];exact d,f⟩)
 .rw[F.ep];exact P v t p a (F.td h)
 .have k:=Q v t p a (F.td h) V
  unfold PpT at*;rw[F.ep];rcases k with k|k|k|⟨x,r,d,f⟩
  .exact .inl k
  .by_cases b:((dX c s x).2.m.sl t.i).st=6
   .exact .inr (.inl (by rw[F.lim _ b];exact k))
   .exact .inr (.inr (.inl b))
  .exact .inr (.inr (.inl λb=>k (by rw[<-F.lim _ b];exact b)))
  .exact .inr (.inr (.inr ⟨x,r,by rw[F.rt];exact d,f⟩))
 .have e:=F.lim i b
  rw[e]at b;obtain⟨v,k⟩:=T i A b;refine⟨v,?_⟩;rcases F.ph v with h|⟨E,h⟩
  .rw[h];exact akG k (by rw[F.ep];exact jx _)
  .rw[h];exact .inl trivial
 .rw[F.pn]
  rcases F.ph v with h|⟨E,h⟩
  .rw[h];exact U v
  .rw[h];trivial
theorem akN(G:GxS c s K)(W:c.W<=14)(S:1<=c.S)(b:w<c.W)(f:aQ s w)(l:(K:Int)<=4000000000000000000):GxS c (ai c s w) (K+1):=by
 obtain⟨q,C,wt,D,u,E,F,H,r,d,y,z,J,n⟩:=G;have A:=q.all;have I:=A.inv;have o:=(BD b (by omega) S I.m I.g (I.w w b) f).2.2.2.1;have x:=amA (I.w w b) (A.wd w b);have k:0<=s.m.ep/\s.m.ep<=4000000000000000000:=⟨r.eb.1,by have:=r.eb.2;omega⟩;have L:=(ahp x k).1;have B:=amI (c:=c) (n w) (λt p a h=>⟨(d w t p a h).1,by have:=(d w t p a h).2;omega⟩);refine⟨aeS W S b q f,λv N=> ?_,amu wt A b o,ani D A b o,amx u A b o,amE E A u (aok (I.w w b) A.nd) b o,ane F A b (by omega) f o,ang H wt A b (by omega) f o,?_,anb d k.1 L o,amF y d x k (I.w w b) o,amQ z o,amM J x A b (by omega) y d z r l n o,λv=> ?_⟩
 .grind
 .have:=amD r A x l o
  grind
 .by_cases e:v=w
  .rw[e];exact B.1
  .rw[B.2 v e,o v e];exact n v
def aof:GxS c Ms.zero 0:=by
 refine⟨aeR,λv _=>rfl,amt,λh=>tA rfl h,λv t p a h=>(by cases h),λ_ h=>tA rfl h,⟨λi b h=>(by cases h),λv t h=>(by cases h)⟩,anf,⟨⟨jx 0,jx 0⟩,λv r h=>(by cases h),λi b h=>(by cases h)⟩,λv t p a h=>(by cases h),λv t p a h=>(by cases h),λv t p a h=>(by cases h),λi b h=>(by cases h),λv=>rfl⟩
def apz(G:GxS c s K)(h:c.W<=14)(S:1<=c.S)(A:(K:Int)<=4000000000000000000)(x):GxS c (dX c s x).2 (K+1):=by
 by_cases k:x.kind=1
 .by_cases p:inW c x.who/\aQ s x.who.toNat
  .have e:(dX c s x).2=ai c s x.who.toNat:=by
    grind [dX]
   grind [inW,akN]
  .have e:(dX c s x).2=s:=by
    unfold dX;rw[ck (by omega),tz k,ck p]
   rw[e];obtain⟨n,o,wt,l,a,b,d,f,r,q,u,v,y,z⟩:=G;refine⟨by have:=ai9 h S n x;rw[e]at this;exact this,o,wt,l,a,b,d,f,⟨⟨r.eb.1,by have:=r.eb.2;omega⟩,r.rp,r.ee⟩,q,u,v,y,z⟩
 grind [aqc]
def PfP:Ph->Prop
 | .parked b=>b=false
 | .ax _ p _=>p=some false
 |_=>False
def PfI(s:Ms):Prop:=∀v,PfP (s.ws v).ph->v∉s.m.qu
def akj{q}(T:Dr w q)(h:PfP ((aV c w s (s.ws w) q).ws w).ph):w∉s.m.qu:=by
 cases a:q.step c w s.m with
 |mk e m'=>
  rw[QQ a]at h;have k:=Kt (c:=c) (m:=s.m) T;rw[a]at k;by_cases d:e.st=.done
  .rw[tz d]at h
   rcases k.1 d with⟨b,f,l⟩|⟨b,f⟩
   .grind [Qu.step]
   .rw[ck (by rw[b];decide)]at h
    rw[ae]at h;cases h
  .rw[ck d,ae]at h
   cases h
def aoD(X:jO c w (s.ws w))(N:LnW (s.ws w).ph)(h:PfP ((ai c s w).ws w).ph):PfP (s.ws w).ph\/w∉s.m.qu:=by
 cases f:(s.ws w).ph with
 |rest=>
  grind [ai]
 |pin x=>
  exfalso;have k:=aj2 (c:=c) (s:=s) (w:=w) (by rw[f];trivial);rcases k with k|⟨q,a,k⟩
  .revert h k;cases((ai c s w).ws w).ph<;>intro h k<;>first|exact k.elim|exact h.elim
  .unfold ai at h k;dsimp only at h k;rw[f]at h k
   cases x<;>(dsimp only at k;rw[ae]at k;cases k)
 |work x=>
  exfalso;have z:ai c s w=ak c w s (s.ws w) x:=by unfold ai;dsimp only;rw[f]
  rw[z]at h;revert h;have o:∀(s:Ms) (x:Wr),¬PfP x.ph->¬PfP ((s.put w x).ws w).ph:=λs x h=>by rw[ae];exact h
  have A:∀x a,¬PfP (Wr.end_ x a).ph:=λx a h=>by cases h
  have B:∀x k,¬PfP (Wr.to x (.work k)).ph:=λx a h=>h;have C:∀x k,¬PfP (Wr.to x (.enters k)).ph:=λx a h=>h;have D:∀x k,¬PfP (Wr.to x (.counts k)).ph:=λx a h=>h;show¬_;unfold ak;dsimp only;repeat' split
  all_goals first|exact o _ _ (A _ _)|exact o _ _ (B _ _)|exact o _ _ (C _ _)|exact o _ _ (D _ _)
 |counts t=>
  exfalso;unfold ai at h;dsimp only at h;rw[f]at h;dsimp only at h;split at h
  .split at h<;>(rw[ae]at h;cases h)
  .rw[ae]at h;cases h
 |enters q=>
  right;have X:Dt w q:=by unfold jO at X;rw[f]at X;exact X
  cases d:q.step c w s.m with
  |mk r m'=>
   rw[lL f d]at h;by_cases l:r.st=.done
   .rw[tz l]at h
    split at h
    .rename_i k
     rw[ae]at h;have h:(some (decide (r.e=0)))=some false:=h;have E:r.e≠0:=by simpa using h
     have u:r.e=8:=k.resolve_left E;intro F;obtain⟨v,G,first,n,e⟩:=q;have X:Dt w ⟨v,G,first,n,e⟩:=X;cases v with
     |come=>
      unfold Qu.step at d;dsimp only at d;split at d
      .cases d;cases u
      .cases d;cases l
     |push=>
      unfold Qu.step at d;dsimp only at d;split at d<;>(cases d;cases l)
     |closed=>
      unfold Qu.step at d;dsimp only at d;split at d
      .cases d;cases u
      .cases d;cases l
     |look=>
      unfold Qu.step at d;dsimp only at d;rw[tz F]at d;cases d;cases l
     |drop=>
      unfold Qu.step at d;dsimp only at d;split at d
      .cases d
       rw[f]at N;have N:n=5:=N (.inr rfl);have u:n=8:=u;omega
      .cases d;cases l
     |_=>exact X.elim
    .rw[ae]at h;cases h
   .rw[ck l,ae]at h
    cases h
 |ax t p a=>
  left;cases d:t.step c w s.m with
  |mk H m'=>
   have e:=ui f d;by_cases l:H.st=.done
   .rw[tz l]at e
    rw[e]at h;cases p with
    |some b=>
     have h:PfP (((s.mem m').put w ((s.ws w).to (.parked b))).ws w).ph:=h;rw[ae]at h;have h:b=false:=h;rw[h];rfl
    |none=>
     have h:PfP (((s.mem m').put w ((s.ws w).to .rest)).ws w).ph:=h;rw[ae]at h;cases h
   .rw[ck l]at e
    rw[e,ae]at h;exact h
 |parked b=>
  right;by_cases y:s.m.gr w≠0
  .have e:ai c s w=(s.mem s.m).put w ((s.ws w).to (.wakes (some (s.m.gr w)))):=by unfold ai;dsimp only;rw[f];dsimp only;rw[tz y];rfl
   rw[e,ae]at h;cases h
  .have e:ai c s w=aV c w s (s.ws w) Qu.leave:=by unfold ai;dsimp only;rw[f];dsimp only;rw[ck y]
   rw[e]at h;exact akj ⟨.inl rfl,rfl⟩ h
 |wakes x=>
  exfalso;unfold ai at h;dsimp only at h;rw[f]at h;dsimp only at h;cases x with
  |none=>unfold dh at h;dsimp only at h;rw[ae]at h;cases h
  |some g=>
   unfold dh at h;dsimp only at h;split at h<;>(rw[ae]at h;cases h)
 |leaves q=>
  right;have e:ai c s w=aV c w s (s.ws w) q:=by unfold ai;dsimp only;rw[f]
  rw[e]at h;have X:Dr w q:=by unfold jO at X;rw[f]at X;exact X
  exact akj X h
def amJ(I:PfI s)(N:∀v,LnW (s.ws v).ph)(A:All c s)(b:w<c.W)(o:∀j,j≠w->(ai c s w).ws j=s.ws j):PfI (ai c s w):=by
 have C:=adz (A.inv.w w b) A.nd;intro v a d;by_cases e:v=w
 .subst e
  rcases C.d v d with k|⟨_,k⟩
  .rcases aoD (A.inv.w v b) (N v) a with q|q
   .exact I v q k
   .exact q k
  .revert a k
   cases((ai c s v).ws v).ph<;>intro h k<;>first|exact k.elim|exact h.elim
 .rcases C.d v d with k|⟨k,_⟩
  .rw[o v e]at a
   exact I v a k
  .exact e k
def aoE(I:PfI s)(D:DoC c s s'):PfI s':=by
 have F:=apF D;have q:s'.m.qu=s.m.qu:=by
  cases D with
  |same h d=>rw[h]
  |ask u a e r h d=>rw[h]
  |brk j n f h d=>rw[h];rfl
 intro v b;rw[q];rcases F.ph v with k|⟨_,k⟩
 .rw[k]at b;exact I v b
 .rw[k]at b;exact b.elim
structure GyS(c:Cn)(s:Ms)(K:Nat):Prop where
 x:GxS c s K
 pf:PfI s
 dl:∀v,(s.ws v).ask.dl<=255
 now:0<=s.now
def aku:((ai c s w).ws w).ask=(s.ws w).ask/\(ai c s w).now=s.now:=by
 have d:∀(s':Ms) (x:Wr),x.ask=(s.ws w).ask/\s'.now=s.now->((s'.put w x).ws w).ask=(s.ws w).ask/\(s'.put w x).now=s.now:=λs' x h=>by rw[ae];exact h
 cases f:(s.ws w).ph with
 |rest=>
  have e:ai c s w=s:=by unfold ai;dsimp only;rw[f]
  rw[e];exact⟨rfl,rfl⟩
 |pin x=>
  unfold ai;dsimp only;rw[f];cases x<;>exact d _ _ ⟨rfl,rfl⟩
 |work x=>
  have k:ai c s w=ak c w s (s.ws w) x:=by unfold ai;dsimp only;rw[f]
  rw[k];unfold ak;dsimp only;repeat' split
  all_goals exact d _ _ ⟨rfl,rfl⟩
 |counts t=>
  unfold ai;dsimp only;rw[f];dsimp only;repeat' split
  all_goals exact d _ _ ⟨rfl,rfl⟩
 |enters q=>
  unfold ai;dsimp only;rw[f];dsimp only;repeat' split
  all_goals exact d _ _ ⟨rfl,rfl⟩
 |ax t p a=>
  unfold ai;dsimp only;rw[f];dsimp only;split
  .cases p with
   |some b=>exact d _ _ ⟨rfl,rfl⟩
   |none=>exact d (s.mem _) _ ⟨rfl,rfl⟩
  .exact d _ _ ⟨rfl,rfl⟩
 |parked b=>
  unfold ai;dsimp only;rw[f];dsimp only;split
  .unfold dh;dsimp only;exact d _ _ ⟨rfl,rfl⟩
  .unfold aV;dsimp only
   repeat' split
   all_goals exact d _ _ ⟨rfl,rfl⟩
 |wakes x=>
  unfold ai;dsimp only;rw[f];cases x with
  |none=>exact d _ _ ⟨rfl,rfl⟩
  |some g=>
   unfold dh;dsimp only;split<;>exact d _ _ ⟨rfl,rfl⟩
 |leaves q=>
  unfold ai;dsimp only;rw[f];unfold aV;dsimp only;repeat' split
  all_goals exact d _ _ ⟨rfl,rfl⟩
def akM(G:GyS c s K)(W:c.W<=14)(S:1<=c.S)(h:w<c.W)(a:aQ s w)(b:(K:Int)<=4000000000000000000):GyS c (ai c s w) (K+1):=by
 obtain⟨x,p,d,n⟩:=G;have A:=x.nx.all;have I:=A.inv;have o:=(BD h (by omega) S I.m I.g (I.w w h) a).2.2.2.1;have k:=aku (c:=c) (s:=s) (w:=w);refine⟨akN x W S h a b,amJ p x.wt.ln A h o,λv=> ?_,by grind⟩;grind
def amf(G:GyS c s K)(W:c.W<=14)(S:1<=c.S)(b:(K:Int)<=4000000000000000000)(x)(f:x.a.dl<=255):GyS c (dX c s x).2 (K+1):=by
 have a:=apz G.x W S b x;by_cases k:x.kind=1
 .by_cases h:inW c x.who/\aQ s x.who.toNat
  .have e:(dX c s x).2=ai c s x.who.toNat:=by
    unfold dX;rw[ck (by omega),tz k,tz h]
   rw[e];have:=h.1;unfold inW at this;exact akM G W S (by omega) h.2 b
  .have e:(dX c s x).2=s:=by
    unfold dX;rw[ck (by omega),tz k,ck h]
   rw[e]at a ⊢;exact⟨a,G.pf,G.dl,G.now⟩
 .refine⟨a,aoE G.pf (aks x k),fun v=> ?_,?_⟩
  .have d:=G.dl v
   unfold dX;repeat' split
   all_goals first|exact d|skip
   .show(upd s.ws x.who.toNat (⟨.pin none,{x.a with op:=x.op.toNat},0⟩:Wr) v).ask.dl<=255
    unfold upd;split
    .exact f
    .exact d
  .have n:=G.now
   unfold dX;repeat' split
   all_goals first|exact n|skip
   .show 0<=xg s.now x.n
    unfold xg;omega
def aoc:GyS c Ms.zero 0:=⟨aof,λv h=>h.elim,λv=>by show(0:Int)<=255;decide,by decide⟩
structure StI(c:Cn)(s:Ms):Prop where
 ph:∀v,(s.ws v).ph=.rest\/((s.ws v).ph=.parked true/\v∈s.m.qu)
 qu:∀v,v∈s.m.qu->(s.ws v).ph=.parked true
 gr:∀v,s.m.gr v=0
 pn:∀v,s.m.pn v=0
 cl:s.m.cl≠0->s.m.qu=[]
 st:∀i,i<c.S->(s.m.sl i).st=0\/(s.m.sl i).st=2\/(s.m.sl i).st=3
 fr:s.m.qu≠[]->∀i,i<c.S->¬frees (s.m.sl i)
def akE(G:GyS c s K)(S:Still c s):StI c s:=by
 obtain⟨⟨B,o,wt,D,X,E,H,I,Y,Z,pp,kd,J,N⟩,O,_,_⟩:=G;have F:=B.all.inv.m.1;have p0:∀v,(s.ws v).ph=.rest\/∃b,(s.ws v).ph=.parked b:=by
  intro v;by_cases d:v<c.W
  .have h:=S v d
   unfold aQ at h;cases p:(s.ws v).ph with
   |rest=>exact .inl rfl
   |parked b=>exact .inr ⟨b,rfl⟩
   |_=>rw[p]at h;exact tA trivial h
  .exact .inl (o v (by omega))
 have P:∀v b,(s.ws v).ph=.parked b->s.m.gr v=0:=by
  intro v b p;have d:v<c.W:=cv λh=>by rw[o v (by omega)]at p;cases p
  have h:=S v d;unfold aQ at h;rw[p]at h;exact cv λk=>h (.inl k)
 obtain⟨L,T⟩:=wt.tok;have A:∀v,(xc (s.ws v).ph).2=(none,none):=λv=>by
  rcases p0 v with h|⟨b,h⟩<;>rw[h]<;>rfl
 have gr:∀v,s.m.gr v=0:=by
  intro v;refine cv λk=> ?_;have:=(T.gr v).1 k;have e:=(T.w v).2 (by rw[this];exact λh=>by cases h);rcases p0 v with h|⟨b,h⟩
  .rw[h]at e;cases e
  .exact k (P v b h)
 have qp:∀v,v∈s.m.qu->(s.ws v).ph=.parked true:=by
  intro v d;have:=(T.qu v).1 d;have e:=(T.w v).2 (by rw[this];exact λh=>by cases h);rcases p0 v with h|⟨b,h⟩
  .rw[h]at e;cases e
  .cases b with
   |true=>exact h
   |false=>exact tA d (O v (by rw[h];rfl))
 have pq:∀v b,(s.ws v).ph=.parked b->v∈s.m.qu:=by
  intro v b p;have Q:=(T.w v).1 (by rw[p];rfl);cases l:L v with
  |no=>exact tA l Q
  |qu=>exact(T.qu v).2 l
  |gr=>exact tA (gr v) ((T.gr v).2 l)
  |g u=>have:=(T.g u v).2 l;rw[A u]at this;cases this
  |t u=>have:=(T.t u v).2 l;rw[A u]at this;cases this
 have n:s.m.cl≠0->s.m.qu=[]:=by
  intro h;cases y:s.m.qu with
  |nil=>rfl
  |cons a r=>
   exfalso;rcases D h a (by rw[y];exact cV ..)with⟨v,k⟩|k
   .rcases p0 v with h|⟨b,h⟩<;>(rw[h]at k;exact k)
   .rcases p0 a with h|⟨b,h⟩<;>(rw[h]at k;exact k)
 refine⟨λv=> ?_,qp,gr,λv=> ?_,n,λi x=> ?_,λy i x R=> ?_⟩
 .rcases p0 v with h|⟨b,h⟩
  .exact .inl h
  .have:=pq v b h
   exact .inr ⟨qp v this,this⟩
 .have k:=N v
  rcases p0 v with h|⟨b,h⟩<;>(rw[h]at k;exact k)
 .have f:=(F i x).st
  have n1:(s.m.sl i).st≠1:=λh=>by
   obtain⟨v,t,_,k,_⟩:=H.a i x h;rcases p0 v with h|⟨b,h⟩<;>(rw[h]at k;cases k)
  have U:¬tX (s.m.sl i):=λh=>by
   obtain⟨C,k⟩:=I.cl;have V:=(k.st i).1 h;cases z:C i with
   |no=>exact V z
   |td v=>
    have:=(k.td v i).2 z;rcases p0 v with h|⟨b,h⟩<;>(rw[h]at this;cases this)
   |gr v=>
    have:=(k.gr v i).2 z;unfold qw at this;rw[gr v]at this;omega
   |wk v=>
    have:=(k.wk v i).2 z;unfold dE at this;rcases p0 v with h|⟨b,h⟩<;>(rw[h]at this;cases this)
  have n6:(s.m.sl i).st≠6:=λh=>by
   obtain⟨v,k⟩:=J i x h;rcases p0 v with h|⟨b,h⟩<;>(rw[h]at k;rcases k with k|⟨t,q,a,k,_⟩;exact k;cases k)
  unfold tX at U;omega
 .have W:=cv fun h=>y (n h)
  obtain⟨v,d,k⟩:=E W y i x R;rcases p0 v with h|⟨b,h⟩<;>(rw[h]at k;exact k)
