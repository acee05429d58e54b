/- Group CbC: laws of the proof, joined. No condition of its own. -/
import Derived.Test.YteaflphddciglaaGreatDoorCbB
import Derived.Test.YteaflphddciglaaGreatDoorCcB
set_option linter.unusedVariables false
set_option linter.unusedSimpArgs false
namespace Go.Proofs.YteaflphddciglaaGreatDoor
namespace bq
noncomputable section
open Classical
variable{c:Cn} {w:Nat} {s:Ms} {m m':Mm} {g:Bool}
structure Mb(m m':Mm):Prop where
 cl:m'.cl=m.cl
 qu:m'.qu=m.qu
 gr:m'.gr=m.gr
 pn:m'.pn=m.pn
theorem Ha(m):Mb m m:=⟨rfl,rfl,rfl,rfl⟩
theorem adb{i}{n}:Mb m (m.set i n):=⟨rfl,rfl,rfl,rfl⟩
theorem ap6{v}:Mb m {m with ep:=v}:=⟨rfl,rfl,rfl,rfl⟩
theorem Ps{r:Rt}:Mb m (r.step m).2:=by
 grind [Rt.step,adb,Ha,ap6]
theorem ahI{t:Tk}:Mb m (t.step w c.S m g).2:=by
 grind [Tk.step,lQ,adb,Ha,Ps]
theorem akd{g:Gv}:Mb m (g.step c w m).2:=by
 grind [Gv.step,Ha,adb,Ps]
theorem akb{g:Sm}:Mb m (g.step c w m).2:=by
 grind [Sm.step,Ha,adb]
theorem ac3{t:Td}{d own}(h:t.swap m d own=some m'):Mb m m':=by
 grind [Td.swap,adb]
def xc:Ph->Bool×Option Nat×Option Nat
 | .enters q=>(match q.st with| .closed=>true| .look=>true| .drop=>true|_=>false,none,none)
 | .ax t p _=>(p.isSome,if t.st=.grant then some t.head else none,none)
 | .parked _=>(true,none,none)
 | .leaves _=>(true,none,none)
 | .wakes _=>(true,none,none)
 | .work (.close (some q))=>(false,none,if q.st=.tell then some q.first else none)
 |_=>(false,none,none)
inductive QP(w:Nat)(m m':Mm)(a a':Bool×Option Nat×Option Nat):Prop
 |same:m'.qu=m.qu->m'.gr=m.gr->a'=a->QP w m m' a a'
 |push:m'.qu=m.qu++[w]->m'.gr=m.gr->a=(false,none,none)->a'=(true,none,none)->QP w m m' a a'
 |drop:w∈m.qu->m'.qu=m.qu.erase w->m'.gr=m.gr->a=(true,none,none)->a'=(false,none,none)->QP w m m' a a'
 |amH (h:Nat) (r:List Nat) (b:Bool):m.qu=h::r->m'.qu=r->m'.gr=m.gr->a=(b,none,none)->a'=(b,some h,none)->QP w m m' a a'
 |grant (h:Nat) (v:Int) (b:Bool):m'.qu=m.qu->m'.gr=upd m.gr h v->v≠0->a=(b,some h,none)->a'=(b,none,none)->QP w m m' a a'
 |amG (h:Nat) (r:List Nat):m.qu=h::r->m'.qu=r->m'.gr=m.gr->a=(false,none,none)->a'=(false,none,some h)->QP w m m' a a'
 |tell (h:Nat):m'.qu=m.qu->m'.gr=upd m.gr h (-1)->a=(false,none,some h)->a'=(false,none,none)->QP w m m' a a'
 |used:m'.qu=m.qu->m.gr w≠0->m'.gr=upd m.gr w 0->a=(true,none,none)->a'=(false,none,none)->QP w m m' a a'
theorem Mb.tok{a a'}(h:Mb m m')(e:a'=a):QP w m m' a a':=.same h.qu h.gr e
def LnW:Ph->Prop
 | .enters q=>(q.st=.look\/q.st=.drop)->q.why=5
 | .ax t _ _=>(t.st=.some\/t.st=.keep\/t.st=.pop)->∃r,t.qu=t.head::r
 | .work (.close (some q))=>q.st=.pop->∃r,q.ln=q.first::r
 |_=>True
theorem ae(s:Ms)(w)(x):(s.put w x).ws w=x:=if_pos rfl
def WkG(s s':Ms)(w:Nat):Prop:=∀g,(s'.ws w).ph=.wakes g->g=some (s.m.gr w)/\s'.m=s.m/\(s.m.gr w≠0\/∃h,(s.ws w).ph=.wakes h)
def acb(c:Cn)(s:Ms)(w:Nat):Prop:=(QP w s.m (ai c s w).m (xc (s.ws w).ph) (xc ((ai c s w).ws w).ph)/\LnW ((ai c s w).ws w).ph)/\WkG s (ai c s w) w
theorem ib{x':Wr}{p:Ph}(hp:(s.ws w).ph=p)(e:ai c s w=(s.mem m').put w x')(h:QP w s.m m' (xc p) (xc x'.ph))(l:LnW x'.ph)(k:∀g,x'.ph≠.wakes g:=by intro g h;cases h):acb c s w:=by
 unfold acb WkG;rw[e,hp,ae];exact⟨⟨h,l⟩,λg hg=>absurd hg (k g)⟩
theorem ake{p}(hp:(s.ws w).ph=p)(e:ai c s w=(s.mem s.m).put w ((s.ws w).to (.wakes (some (s.m.gr w)))))(h:xc p=(true,none,none))(k:s.m.gr w≠0\/∃h,p=.wakes h):acb c s w:=by
 unfold acb WkG;rw[e,hp,ae];exact⟨⟨.same rfl rfl h.symm,trivial⟩,λg hg=>⟨(Ph.wakes.inj hg).symm,rfl,k⟩⟩
theorem lL{q q'}(hp:(s.ws w).ph=.enters q)(h:q.step c w s.m=(q',m')):
  ai c s w=if q'.st=.done then(if q'.e=0\/q'.e=8 then(s.mem m').put w ((s.ws w).to (.ax Td.new (some (decide (q'.e=0))) (.err 0)))else(s.mem m').put w ((s.ws w).end_ (.err q'.e)))else(s.mem m').put w ((s.ws w).to (.enters q')):=by
 grind [ai]
theorem alO{q:Qu}(hp:(s.ws w).ph=.enters q)(T:Dt w q)(N:LnW (.enters q)):acb c s w:=by
 obtain⟨st,ln,first,why,e⟩:=q
 have no:∀{t:Td} {p:Option Bool} {a:bR},LnW (.ax Td.new p a):=λh=>by rcases h with h|h|h<;>cases h
 cases st with
 |come=>
  by_cases h:c.wt<=s.m.qu.length\/w∈s.m.qu
  ·have e:=lL hp (show Qu.step c w s.m ⟨.come,ln,first,why,e⟩=(⟨.done,s.m.qu,first,why,7⟩,s.m)by unfold Qu.step;dsimp only;rw[if_pos h];rfl)
   rw[if_pos rfl,if_neg (by grind)]at e
   exact ib hp e (.same rfl rfl rfl) (λh=>by rcases h with h|h|h<;>cases h)
  ·have e:=lL hp (show Qu.step c w s.m ⟨.come,ln,first,why,e⟩=(⟨.push,s.m.qu,first,why,e⟩,s.m)by unfold Qu.step;dsimp only;rw[if_neg h])
   rw[if_neg (by intro h;cases h)]at e
   exact ib hp e (.same rfl rfl rfl) (λh=>by rcases h with h|h<;>cases h)
 |push=>
  by_cases h:s.m.qu=ln
  ·have e:=lL hp (show Qu.step c w s.m ⟨.push,ln,first,why,e⟩=(⟨.closed,ln,first,why,e⟩,{s.m with qu:=s.m.qu++[w]})by unfold Qu.step;dsimp only;rw[if_pos h])
   rw[if_neg (by intro h;cases h)]at e
   exact ib hp e (.push rfl rfl rfl rfl) (λh=>by rcases h with h|h<;>cases h)
  ·have e:=lL hp (show Qu.step c w s.m ⟨.push,ln,first,why,e⟩=(⟨.come,ln,first,why,e⟩,s.m)by unfold Qu.step;rw[if_neg h])
   exact ib hp e (.same rfl rfl rfl) (λh=>by rcases h with h|h<;>cases h)
 |closed=>
  by_cases h:s.m.cl=0
  ·have e:=lL hp (show Qu.step c w s.m ⟨.closed,ln,first,why,e⟩=(⟨.done,ln,first,why,0⟩,s.m)by unfold Qu.step;rw[if_pos h];rfl)
   exact ib hp e (.same rfl rfl rfl) (λh=>by rcases h with h|h|h<;>cases h)
  ·have e:=lL hp (show Qu.step c w s.m ⟨.closed,ln,first,why,e⟩=(⟨.look,ln,first,5,e⟩,s.m)by unfold Qu.step;rw[if_neg h])
   exact ib hp e (.same rfl rfl rfl) (λ_=>rfl)
 |look=>
  have hy:=N (.inl rfl);by_cases h:w∈s.m.qu
  ·have e:=lL hp (show Qu.step c w s.m ⟨.look,ln,first,why,e⟩=(⟨.drop,s.m.qu,first,why,e⟩,s.m)by unfold Qu.step;rw[if_pos h])
   exact ib hp e (.same rfl rfl rfl) (λ_=>hy)
  ·have e:=lL hp (show Qu.step c w s.m ⟨.look,ln,first,why,e⟩=(⟨.done,s.m.qu,first,why,8⟩,s.m)by unfold Qu.step;rw[if_neg h];rfl)
   exact ib hp e (.same rfl rfl rfl) (λh=>by rcases h with h|h|h<;>cases h)
 |drop=>
  have hy:why=5:=N (.inr rfl);have hin:=T;by_cases h:s.m.qu=ln
  ·have e:=lL hp (show Qu.step c w s.m ⟨.drop,ln,first,why,e⟩=(⟨.done,ln,first,why,why⟩,{s.m with qu:=s.m.qu.erase w})by unfold Qu.step;dsimp only;rw[if_pos h];rfl)
   rw[if_pos rfl,if_neg (by intro h;rcases h with h|h<;>(rw[hy]at h;cases h))]at e
   exact ib hp e (.drop (by rw[h];exact hin) rfl rfl rfl rfl) (λh=>by rcases h with h|h|h<;>cases h)
  ·have e:=lL hp (show Qu.step c w s.m ⟨.drop,ln,first,why,e⟩=(⟨.look,ln,first,why,e⟩,s.m)by unfold Qu.step;dsimp only;rw[if_neg h])
   exact ib hp e (.same rfl rfl rfl) (λ_=>hy)
 |_=>exact absurd T (by intro h;exact h)
def LnT(t:Td):Prop:=(t.st=.some\/t.st=.keep\/t.st=.pop)->∃r,t.qu=t.head::r
def tkT(b:Bool)(t:Td):Bool×Option Nat×Option Nat:=(b,if t.st=.grant then some t.head else none,none)
def Hm(c:Cn)(w:Nat)(m:Mm)(t:Td):Prop:=(∀b,QP w m (t.step c w m).2 (tkT b t) (tkT b (t.step c w m).1))/\LnT (t.step c w m).1
theorem ajY{t t'}(e:t.step c w m=(t',m'))(hq:m'.qu=m.qu)(hg:m'.gr=m.gr)(h1:t.st≠.grant)(h2:t'.st≠.grant)(l:LnT t'):Hm c w m t:=by
 unfold Hm;rw[e];refine⟨λb=>.same hq hg ?_,l⟩
 grind [tkT]
theorem lv{t}(h1:t.st≠.some)(h2:t.st≠.keep)(h3:t.st≠.pop):LnT t:=λh=>by
 grind
theorem eQ{t:Td}{S}:(t.fu S m).st=t.st/\(t.fu S m).qu=t.qu/\(t.fu S m).head=t.head/\(t.fu S m).ep=t.ep/\(t.fu S m).cl=t.cl:=by
 grind [Td.fu]
theorem aoq{t}(N:LnT t):Hm c w m t:=by
 obtain⟨st,ep,cl,qu,look,i,wd,other,head,rt⟩:=t;have no:∀{t':Td},t'.st≠.some->t'.st≠.keep->t'.st≠.pop->LnT t':=λh1 h2 h3=>lv h1 h2 h3
 cases st with
 |ep=>exact ajY rfl rfl rfl mO.noConfusion mO.noConfusion (lv mO.noConfusion mO.noConfusion mO.noConfusion)
 |pin=>exact ajY rfl rfl rfl mO.noConfusion mO.noConfusion (lv mO.noConfusion mO.noConfusion mO.noConfusion)
 |cl=>exact ajY rfl rfl rfl mO.noConfusion mO.noConfusion (lv mO.noConfusion mO.noConfusion mO.noConfusion)
 |dL=>
  obtain⟨k1,k2,k3,_⟩:=eQ (m:=m) (t:=⟨.dL,ep,cl,qu,look,i,wd,other,head,rt⟩) (S:=c.S);unfold Hm Td.step;dsimp only;generalize Td.fu c.S m ⟨.dL,ep,cl,qu,look,i,wd,other,head,rt⟩=u at*;split
  ·exact⟨λb=>.same rfl rfl rfl,lv mO.noConfusion mO.noConfusion mO.noConfusion⟩
  ·split
   ·exact⟨λb=>.same rfl rfl rfl,lv mO.noConfusion mO.noConfusion mO.noConfusion⟩
   ·have k1:u.st=.dL:=k1
    exact⟨λb=>.same rfl rfl (by unfold tkT;rw[k1];rfl),lv (by rw[k1];exact mO.noConfusion) (by rw[k1];exact mO.noConfusion) (by rw[k1];exact mO.noConfusion)⟩
 |go=>
  have k:=Ps (m:=m) (r:=rt);unfold Hm Td.step;dsimp only;split
  ·exact⟨λb=>.same k.qu k.gr rfl,lv mO.noConfusion mO.noConfusion mO.noConfusion⟩
  ·exact⟨λb=>.same k.qu k.gr rfl,lv mO.noConfusion mO.noConfusion mO.noConfusion⟩
 |old=>
  obtain⟨k1,k2,k3,_⟩:=eQ (m:=m) (t:=⟨.old,ep,cl,qu,look,i,wd,other,head,rt⟩) (S:=c.S);unfold Hm Td.step;dsimp only;generalize Td.fu c.S m ⟨.old,ep,cl,qu,look,i,wd,other,head,rt⟩=u at*;split
  ·split<;>exact⟨λb=>.same rfl rfl rfl,lv mO.noConfusion mO.noConfusion mO.noConfusion⟩
  ·split
   ·split<;>exact⟨λb=>.same rfl rfl rfl,lv mO.noConfusion mO.noConfusion mO.noConfusion⟩
   ·have k1:u.st=.old:=k1
    exact⟨λb=>.same rfl rfl (by unfold tkT;rw[k1];rfl),lv (by rw[k1];exact mO.noConfusion) (by rw[k1];exact mO.noConfusion) (by rw[k1];exact mO.noConfusion)⟩
 |pins=>
  unfold Hm Td.step;dsimp only;split
  ·exact⟨λb=>.same rfl rfl rfl,lv mO.noConfusion mO.noConfusion mO.noConfusion⟩
  ·split<;>exact⟨λb=>.same rfl rfl rfl,lv mO.noConfusion mO.noConfusion mO.noConfusion⟩
 |clear=>
  unfold Hm Td.step;dsimp only;cases h:(⟨.clear,ep,cl,qu,look,i,wd,other,head,rt⟩:Td).swap m 12 w with
  |none=>exact⟨λb=>.same rfl rfl rfl,lv mO.noConfusion mO.noConfusion mO.noConfusion⟩
  |some m'=>
   have k:=ac3 h;exact⟨λb=>.same k.qu k.gr rfl,lv mO.noConfusion mO.noConfusion mO.noConfusion⟩
 |line=>
  unfold Hm Td.step;dsimp only;split
  ·exact⟨λb=>.same rfl rfl rfl,lv mO.noConfusion mO.noConfusion mO.noConfusion⟩
  ·exact⟨λb=>.same rfl rfl rfl,λ_=>⟨_,rfl⟩⟩
 |some=>
  obtain⟨r,hr⟩:=N (.inl rfl);obtain⟨k1,k2,k3,_⟩:=eQ (m:=m) (t:=⟨.some,ep,cl,qu,look,i,wd,other,head,rt⟩) (S:=c.S);unfold Hm Td.step;dsimp only;generalize Td.fu c.S m ⟨.some,ep,cl,qu,look,i,wd,other,head,rt⟩=u at*;have k1:u.st=.some:=k1;have k2:u.qu=qu:=k2;have k3:u.head=head:=k3;have hr:qu=head::r:=hr;split
  ·exact⟨λb=>.same rfl rfl rfl,λ_=>⟨r,by show u.qu=u.head::r;rw[k2,k3];exact hr⟩⟩
  ·split
   ·exact⟨λb=>.same rfl rfl rfl,lv mO.noConfusion mO.noConfusion mO.noConfusion⟩
   ·exact⟨λb=>.same rfl rfl (by unfold tkT;rw[k1];rfl),λ_=>⟨r,by rw[k2,k3];exact hr⟩⟩
 |keep=>
  obtain⟨r,hr⟩:=N (.inr (.inl rfl));unfold Hm Td.step;dsimp only;split
  ·rename_i m1 h
   have k:=ac3 h;exact⟨λb=>.same k.qu k.gr rfl,λ_=>⟨r,hr⟩⟩
  ·exact⟨λb=>.same rfl rfl rfl,λ_=>⟨r,hr⟩⟩
 |pop=>
  obtain⟨r,hr⟩:=N (.inr (.inr rfl));have hr:qu=head::r:=hr;unfold Hm Td.step;dsimp only;split
  ·rename_i h
   exact⟨λb=>.amH head r b (h.trans hr) (by rw[h,hr];rfl) rfl rfl rfl,lv mO.noConfusion mO.noConfusion mO.noConfusion⟩
  ·exact⟨λb=>.same rfl rfl rfl,lv mO.noConfusion mO.noConfusion mO.noConfusion⟩
 |grant=>
  refine⟨λb=>.grant head ((i:Int)+1) b rfl rfl (by omega) rfl rfl,lv mO.noConfusion mO.noConfusion mO.noConfusion⟩
 |back=>
  unfold Hm Td.step;dsimp only;split<;>exact⟨λb=>.same rfl rfl rfl,lv mO.noConfusion mO.noConfusion mO.noConfusion⟩
 |dR=>
  unfold Hm Td.step;dsimp only;split
  ·rename_i m1 h
   have k:=ac3 h;exact⟨λb=>.same k.qu k.gr rfl,lv mO.noConfusion mO.noConfusion mO.noConfusion⟩
  ·exact⟨λb=>.same rfl rfl rfl,lv mO.noConfusion mO.noConfusion mO.noConfusion⟩
 |eO=>exact⟨λb=>.same rfl rfl rfl,lv mO.noConfusion mO.noConfusion mO.noConfusion⟩
 |again=>
  unfold Hm Td.step;dsimp only;split<;>exact⟨λb=>.same rfl rfl rfl,lv mO.noConfusion mO.noConfusion mO.noConfusion⟩
 |done=>exact⟨λb=>.same rfl rfl rfl,lv mO.noConfusion mO.noConfusion mO.noConfusion⟩
def anr(s:Ms)(w:Nat)(m':Mm)(a:bR):Option Bool->Ms
 |some b=>(s.mem m').put w ((s.ws w).to (.parked b))
 |none=>{(s.mem m').put w ((s.ws w).to .rest)with ev:=⟨true,w,(s.ws w).ask,a⟩::s.ev}
theorem ui{t t'}{p}{a}(hp:(s.ws w).ph=.ax t p a)(h:t.step c w s.m=(t',m')):
  ai c s w=if t'.st=.done then anr s w m' a p else(s.mem m').put w ((s.ws w).to (.ax t' p a)):=by
 unfold ai;dsimp only;rw[hp];dsimp only;rw[h];cases p<;>rfl
theorem alN{t:Td}{p:Option Bool}{a:bR}(hp:(s.ws w).ph=.ax t p a)(N:LnT t):acb c s w:=by
 have k:=aoq (c:=c) (w:=w) (m:=s.m) N;unfold Hm at k;cases h:t.step c w s.m with
 |mk t' m'=>
  rw[h]at k;obtain⟨k1,k2⟩:=k;have e:=ui hp h;have k3:=k1 p.isSome;by_cases hd:t'.st=.done
  ·have e0:tkT p.isSome t'=(p.isSome,none,none):=by unfold tkT;rw[hd];rfl
   rw[e0]at k3;rw[if_pos hd]at e;cases p with
   |some b=>exact ib hp (e.trans rfl) k3 trivial
   |none=>
    unfold acb;rw[e,hp];unfold anr;refine⟨⟨?_,?_⟩,?_⟩
    ·rw[ae]
     exact k3
    ·rw[ae]
     trivial
    ·intro g hg
     rw[ae]at hg;cases hg
  ·rw[if_neg hd]at e
   exact ib hp e k3 k2
theorem QR{q q'}(hp:(s.ws w).ph=.work (.close (some q)))(h:q.step c w s.m=(q',m')):
  ai c s w=if q'.st=.done then(s.mem m').put w ((s.ws w).end_ (.err 0))else(s.mem m').put w ((s.ws w).to (.work (.close (some q')))):=by
 grind [ai,ak]
theorem Nq{x:Wr}{a}:LnW (x.end_ a).ph:=λh=>by rcases h with h|h|h<;>cases h
theorem al5{q:Qu}(hp:(s.ws w).ph=.work (.close (some q)))(T:Du q)(N:q.st=.pop->∃r,q.ln=q.first::r):acb c s w:=by
 obtain⟨st,ln,first,why,e⟩:=q
 cases st with
 |head=>
  cases hq:s.m.qu with
  |nil=>
   have e:=QR hp (show Qu.step c w s.m ⟨.head,ln,first,why,e⟩=(⟨.done,[],first,why,0⟩,s.m)by unfold Qu.step;rw[hq];rfl)
   exact ib hp e (.same rfl rfl rfl) Nq
  |cons a r=>
   have e:=QR hp (show Qu.step c w s.m ⟨.head,ln,first,why,e⟩=(⟨.pop,a::r,a,why,e⟩,s.m)by grind [Qu.step])
   exact ib hp e (.same rfl rfl rfl) (λ_=>⟨r,rfl⟩)
 |pop=>
  obtain⟨r,hr⟩:=N rfl;have hr:ln=first::r:=hr
  by_cases h:s.m.qu=ln
  ·have e:=QR hp (show Qu.step c w s.m ⟨.pop,ln,first,why,e⟩=(⟨.tell,ln,first,why,e⟩,{s.m with qu:=s.m.qu.tail})by grind [Qu.step])
   exact ib hp e (.amG first r (h.trans hr) (by rw[h,hr];rfl) rfl rfl rfl) (λh=>by cases h)
  ·have e:=QR hp (show Qu.step c w s.m ⟨.pop,ln,first,why,e⟩=(⟨.head,ln,first,why,e⟩,s.m)by unfold Qu.step;dsimp only;rw[if_neg h])
   exact ib hp e (.same rfl rfl rfl) (λh=>by cases h)
 |tell=>
  have e:=QR hp (show Qu.step c w s.m ⟨.tell,ln,first,why,e⟩=(⟨.head,ln,first,why,e⟩,s.m.nT first (-1))from rfl)
  exact ib hp e (.tell first rfl rfl rfl rfl) (λh=>by cases h)
 |_=>exact absurd T (by intro h;exact h)
theorem QQ{x}{q q'}(h:q.step c w s.m=(q',m')):
  aV c w s x q=if q'.st=.done then(if q'.e=8 then(s.mem m').put w (x.to (.parked false))else(s.mem m').put w (x.end_ (.err q'.e)))else(s.mem m').put w (x.to (.leaves q')):=by
 grind [aV]
theorem aj4{q:Qu}{p:Ph}(hp:(s.ws w).ph=p)(hv:xc p=(true,none,none))(e0:ai c s w=aV c w s (s.ws w) q)(T:Dr w q):acb c s w:=by
 obtain⟨st,ln,first,why,e⟩:=q
 obtain⟨T1,T2⟩:=T;have T2:why=4:=T2;rcases T1 with T1|⟨T1,T3⟩
 ·subst T1
  by_cases h:w∈s.m.qu
  ·have e:=QQ (x:=s.ws w) (show Qu.step c w s.m ⟨.look,ln,first,why,e⟩=(⟨.drop,s.m.qu,first,why,e⟩,s.m)by grind [Qu.step])
   exact ib hp (e0.trans e) (by rw[hv];exact .same rfl rfl rfl) trivial
  ·have e:=QQ (x:=s.ws w) (show Qu.step c w s.m ⟨.look,ln,first,why,e⟩=(⟨.done,s.m.qu,first,why,8⟩,s.m)by unfold Qu.step;rw[if_neg h];rfl)
   exact ib hp (e0.trans e) (by rw[hv];exact .same rfl rfl rfl) trivial
 ·subst T1
  by_cases h:s.m.qu=ln
  ·have e:=QQ (x:=s.ws w) (show Qu.step c w s.m ⟨.drop,ln,first,why,e⟩=(⟨.done,ln,first,why,why⟩,{s.m with qu:=s.m.qu.erase w})by unfold Qu.step;dsimp only;rw[if_pos h];rfl)
   rw[if_pos rfl,if_neg (by intro h;have h:why=8:=h;omega)]at e
   exact ib hp (e0.trans e) (by rw[hv];exact .drop (by rw[h];exact T3) rfl rfl rfl rfl) Nq
  ·have e:=QQ (x:=s.ws w) (show Qu.step c w s.m ⟨.drop,ln,first,why,e⟩=(⟨.look,ln,first,why,e⟩,s.m)by unfold Qu.step;dsimp only;rw[if_neg h])
   exact ib hp (e0.trans e) (by rw[hv];exact .same rfl rfl rfl) trivial
theorem kv{p}{x'}{wo}(hp:(s.ws w).ph=p)(e:ai c s w=({s with wo:=wo}.mem m').put w x')(k:Mb s.m m')(h1:xc p=(false,none,none))(h2:xc x'.ph=(false,none,none))(l:LnW x'.ph):acb c s w:=by
 unfold acb;rw[e,hp];refine⟨⟨?_,?_⟩,?_⟩
 ·rw[ae,h1,h2]
  exact k.tok rfl
 ·grind [ae]
 ·intro g hg
  rw[ae]at hg;rw[hg]at h2;cases h2
theorem amK{x:Wr}:LnW (x.to (.enters Qu.enter)).ph:=λh=>by rcases h with h|h<;>cases h
theorem amw{k:Wk}(hp:(s.ws w).ph=.work k)(T:Ba c w k)(N:LnW (.work k)):acb c s w:=by
 have e0:ai c s w=ak c w s (s.ws w) k:=by grind [ai]
 cases k with
 |get t=>
  have q:=ahI (c:=c) (w:=w) (m:=s.m) (g:=decide (t.st=.bM)&&s.next.1) (t:=t)
  obtain⟨wo,hwo⟩:∃wo,(if t.st=gm.bM then({s with wo:=s.next.2}:Ms)else s)={s with wo:=wo}:=by
   split
   ·exact⟨_,rfl⟩
   ·exact⟨s.wo,rfl⟩
  unfold ak at e0;dsimp only at e0;rw[hwo]at e0;split at e0
  ·split at e0
   ·split at e0
    ·exact kv hp e0 q rfl rfl amK
    ·exact kv hp e0 q rfl rfl trivial
   ·split at e0
    ·exact kv hp e0 q rfl rfl Nq
    ·exact kv hp e0 q rfl rfl Nq
  ·exact kv hp e0 q rfl rfl trivial
 |give g=>
  have q:=akd (c:=c) (w:=w) (m:=s.m) (g:=g);unfold ak at e0;dsimp only at e0;split at e0
  ·exact kv (wo:=s.wo) hp e0 q rfl rfl Nq
  ·exact kv (wo:=s.wo) hp e0 q rfl rfl trivial
 |bg g=>
  have q:=akb (c:=c) (w:=w) (m:=s.m) (g:=g);unfold ak at e0;dsimp only at e0;split at e0
  ·exact kv (wo:=s.wo) hp e0 q rfl rfl Nq
  ·exact kv (wo:=s.wo) hp e0 q rfl rfl trivial
 |close d=>
  cases d with
  |none=>
   unfold ak at e0;dsimp only at e0;refine ib hp e0 (.same ?_ ?_ rfl) (λh=>by cases h)
   ·split
    ·rfl
    ·split<;>rfl
   ·split
    ·rfl
    ·split<;>rfl
  |some q=>exact al5 hp T N
 |stats t=>
  unfold ak at e0;dsimp only at e0;split at e0
  ·exact kv hp e0 (Ha _) rfl rfl Nq
  ·exact kv hp e0 (Ha _) rfl rfl trivial
 |aS r=>
  unfold ak at e0;dsimp only at e0;split at e0
  ·split at e0
   ·exact kv hp e0 (Ha _) rfl rfl trivial
   ·split at e0
    ·exact kv hp e0 (Ha _) rfl rfl Nq
    ·exact kv hp e0 (Ha _) rfl rfl trivial
  ·split at e0
   ·exact kv (wo:=s.next.2) hp e0 (Ha _) rfl rfl trivial
   ·exact kv (wo:=s.next.2) hp e0 (Ha _) rfl rfl trivial
  ·split at e0
   ·split at e0
    ·exact kv hp e0 adb rfl rfl trivial
    ·exact kv hp e0 (Ha _) rfl rfl trivial
   ·exact kv hp e0 (Ha _) rfl rfl trivial
  ·split at e0
   ·exact kv hp e0 Ps rfl rfl trivial
   ·exact kv hp e0 Ps rfl rfl trivial
theorem akh{x}:xc (.work (bE x))=(false,none,none)/\LnW (.work (bE x)):=by
 unfold bE;split<;>exact⟨rfl,trivial⟩
theorem akf(X:jO c w (s.ws w))(N:LnW (s.ws w).ph)(K:∀g,(s.ws w).ph=.wakes g->s.m.gr w≠0):acb c s w:=by
 unfold jO at X;cases hp:(s.ws w).ph with
 |rest=>
  have e:ai c s w=s:=by grind [ai]
  unfold acb;rw[e,hp];exact⟨⟨.same rfl rfl rfl,trivial⟩,λg hg=>by grind⟩
 |pin h=>
  cases h with
  |none=>
   have e:ai c s w=(s.mem s.m).put w ((s.ws w).to (.pin (some s.m.ep))):=by unfold ai;dsimp only;rw[hp];rfl
   exact ib hp e (.same rfl rfl rfl) trivial
  |some e1=>
   have e:ai c s w=(s.mem (s.m.pin w (aR (e1+1)))).put w ((s.ws w).to (.work (bE (s.ws w)))):=by unfold ai;dsimp only;rw[hp]
   exact ib hp e (.same rfl rfl akh.1) akh.2
 |work k=>rw[hp]at X N;exact amw hp X N
 |counts t=>
  have e:ai c s w=if(t.step c.S s.m).dn then(if∃y∈(t.step c.S s.m).last.getD [],fits 3 w y then s.put w ((s.ws w).to (.work (.get Tk.new)))else s.put w ((s.ws w).end_ (.err 3)))else s.put w ((s.ws w).to (.counts (t.step c.S s.m))):=by unfold ai;dsimp only;rw[hp]
  split at e
  ·split at e
   ·exact ib (m':=s.m) hp e (.same rfl rfl rfl) trivial
   ·exact ib (m':=s.m) hp e (.same rfl rfl rfl) Nq
  ·exact ib (m':=s.m) hp e (.same rfl rfl rfl) trivial
 |enters q=>rw[hp]at X N;exact alO hp X N
 |ax t p a=>rw[hp]at N;exact alN hp N
 |parked b=>
  by_cases hg:s.m.gr w≠0
  ·have e:ai c s w=(s.mem s.m).put w ((s.ws w).to (.wakes (some (s.m.gr w)))):=by unfold ai;dsimp only;rw[hp];rw[if_pos hg];rfl
   exact ake hp e rfl (.inl hg)
  ·have e:ai c s w=aV c w s (s.ws w) Qu.leave:=by unfold ai;dsimp only;rw[hp];rw[if_neg hg]
   exact aj4 hp rfl e ⟨.inl rfl,rfl⟩
 |wakes h=>
  cases h with
  |none=>
   have e:ai c s w=(s.mem s.m).put w ((s.ws w).to (.wakes (some (s.m.gr w)))):=by unfold ai;dsimp only;rw[hp];rfl
   exact ake hp e rfl (.inr ⟨_,rfl⟩)
  |some g=>
   by_cases hg:g<0
   ·have e:ai c s w=(s.mem (s.m.nT w 0)).put w ((s.ws w).end_ (.err 5)):=by unfold ai;dsimp only;rw[hp];unfold dh;dsimp only;rw[if_pos hg]
    exact ib hp e (.used rfl (K _ hp) rfl rfl rfl) Nq
   ·have e:ai c s w=(s.mem (s.m.nT w 0)).put w {s.ws w with grant:=g,ph:=.pin none}:=by unfold ai;dsimp only;rw[hp];unfold dh;dsimp only;rw[if_neg hg]
    exact ib hp e (.used rfl (K _ hp) rfl rfl rfl) trivial
 |leaves q=>
  rw[hp]at X;have e:ai c s w=aV c w s (s.ws w) q:=by unfold ai;dsimp only;rw[hp]
  exact aj4 hp rfl e X
end
noncomputable section
open Classical
variable{c:Cn} {w:Nat} {s s':Ms} {m m':Mm}
inductive Loc where
 |no|qu|gr|g (v:Nat)|t (v:Nat)
structure ahG(s:Ms)(L:Nat->Loc):Prop where
 qu:∀h,h∈s.m.qu↔L h=.qu
 gr:∀h,s.m.gr h≠0↔L h=.gr
 g:∀v h,(xc (s.ws v).ph).2.1=some h↔L h=.g v
 t:∀v h,(xc (s.ws v).ph).2.2=some h↔L h=.t v
 w:∀h,(xc (s.ws h).ph).1=true↔L h≠.no
 wk:∀h g,(s.ws h).ph=.wakes g->s.m.gr h≠0/\∀v,g=some v->v=s.m.gr h
theorem ky{α}(f:Nat->α)(i)(v):upd f i v i=v:=if_pos rfl
theorem il{α}(f:Nat->α){i j}(v)(h:j≠i):upd f i v j=f j:=if_neg h
theorem agl{L}(I:ahG s L)(hq:s'.m.qu=s.m.qu)(hg:s'.m.gr=s.m.gr)(ht:∀v,xc (s'.ws v).ph=xc (s.ws v).ph)(hw:∀h g,(s'.ws h).ph=.wakes g->s.m.gr h≠0/\∀v,g=some v->v=s.m.gr h):ahG s' L:=
 ⟨λh=>by rw[hq];exact I.qu h,λh=>by rw[hg];exact I.gr h,λv h=>by rw[ht];exact I.g v h,λv h=>by rw[ht];exact I.t v h,λh=>by rw[ht];exact I.w h,λh g k=>by grind⟩
theorem al6{L}(I:ahG s L)(nd:s.m.qu.Nodup)(o:∀j,j≠w->s'.ws j=s.ws j)(S:QP w s.m s'.m (xc (s.ws w).ph) (xc (s'.ws w).ph))(K:WkG s s' w):∃L',ahG s' L':=by
 have ho:∀v,v≠w->xc (s'.ws v).ph=xc (s.ws v).ph:=λv hv=>by rw[o v hv]
 have wk0:(∀h,h≠w->s.m.gr h≠0->s'.m.gr h=s.m.gr h)->∀h g,(s'.ws h).ph=.wakes g->s'.m.gr h≠0/\∀v,g=some v->v=s'.m.gr h:=by
  intro hh h g hp;by_cases e:h=w
  ·subst e
   obtain⟨k1,k2,k3⟩:=K g hp;rw[k2];refine⟨?_,λv hv=>by rw[k1]at hv;exact(Option.some.inj hv).symm⟩
   rcases k3 with k3|⟨x,k3⟩
   ·exact k3
   ·exact(I.wk h x k3).1
  ·rw[o h e]at hp
   obtain⟨k1,k2⟩:=I.wk h g hp;rw[hh h e k1];exact⟨k1,k2⟩
 cases S with
 |same hq hg ht=>
  refine⟨L,agl I hq hg (λv=> ?_) λh g hp=> ?_⟩
  ·by_cases e:v=w
   ·rw[e];exact ht
   ·exact ho v e
  ·have:=wk0 (fun h _ _=>by rw[hg]) h g hp
   rw[hg]at this;exact this
 |push hq hg ha ha'=>
  have Iq:=I.qu;have Ig:=I.gr;have I1:=I.g;have I2:=I.t;have I3:=I.w;refine⟨upd L w .qu,λx=> ?_,λx=> ?_,λv x=> ?_,λv x=> ?_,λx=> ?_,wk0 λh _ _=>by rw[hg]⟩<;>(have hv:=ho;unfold upd;grind)
 |drop hin hq hg ha ha'=>
  have Iq:=I.qu;have Ig:=I.gr;have I1:=I.g;have I2:=I.t;have I3:=I.w
  have hm:∀x,x∈s'.m.qu↔x∈s.m.qu/\x≠w:=λx=>by
   rw[hq,nd.mem_erase_iff];exact And.comm
  refine⟨upd L w .no,λx=> ?_,λx=> ?_,λv x=> ?_,λv x=> ?_,λx=> ?_,wk0 λh _ _=>by rw[hg]⟩<;>(clear hq;have hv:=ho;unfold upd;grind)
 |amH h r b h1 hq hg ha ha'=>
  have Iq:=I.qu;have Ig:=I.gr;have I1:=I.g;have I2:=I.t;have I3:=I.w
  have hm:∀x,x∈s'.m.qu↔x∈s.m.qu/\x≠h:=λx=>by
   rw[hq,h1];rw[h1]at nd;have:=(List.nodup_cons.1 nd).1;constructor
   ·intro hx;exact⟨List.mem_cons_of_mem _ hx,λe=>this (e▸hx)⟩
   ·intro hx;rcases List.mem_cons.1 hx.1 with e|e
    ·exact absurd e hx.2
    ·exact e
  have hh:h∈s.m.qu:=by rw[h1];exact List.mem_cons_self
  refine⟨upd L h (.g w),λx=> ?_,λx=> ?_,λv x=> ?_,λv x=> ?_,λx=> ?_,wk0 λh _ _=>by rw[hg]⟩<;>(clear hq h1;have hv:=ho;unfold upd;grind)
 |grant h v b hq hg hv ha ha'=>
  have Iq:=I.qu;have Ig:=I.gr;have I1:=I.g;have I2:=I.t;have I3:=I.w;have hL:L h=.g w:=(I1 w h).1 (by rw[ha])
  have g0:s.m.gr h=0:=Classical.byContradiction λq=>by have:=(Ig h).1 q;rw[hL]at this;cases this
  refine⟨upd L h .gr,λx=> ?_,λx=> ?_,λv x=> ?_,λv x=> ?_,λx=> ?_,wk0 λx _ k=> ?_⟩
  rotate_right
  ·rw[hg];exact il _ _ (λe=>by rw[e]at k;exact k g0)
  all_goals (have hv:=ho;unfold upd at *;grind)
 |amG h r h1 hq hg ha ha'=>
  have Iq:=I.qu;have Ig:=I.gr;have I1:=I.g;have I2:=I.t;have I3:=I.w
  have hm:∀x,x∈s'.m.qu↔x∈s.m.qu/\x≠h:=λx=>by
   rw[hq,h1];rw[h1]at nd;have:=(List.nodup_cons.1 nd).1;constructor
   ·intro hx;exact⟨List.mem_cons_of_mem _ hx,λe=>this (e▸hx)⟩
   ·intro hx;rcases List.mem_cons.1 hx.1 with e|e
    ·exact absurd e hx.2
    ·exact e
  have hh:h∈s.m.qu:=by rw[h1];exact List.mem_cons_self
  refine⟨upd L h (.t w),λx=> ?_,λx=> ?_,λv x=> ?_,λv x=> ?_,λx=> ?_,wk0 λh _ _=>by rw[hg]⟩<;>(clear hq h1;have hv:=ho;unfold upd;grind)
 |tell h hq hg ha ha'=>
  have Iq:=I.qu;have Ig:=I.gr;have I1:=I.g;have I2:=I.t;have I3:=I.w;have hL:L h=.t w:=(I2 w h).1 (by rw[ha])
  have g0:s.m.gr h=0:=Classical.byContradiction λq=>by have:=(Ig h).1 q;rw[hL]at this;cases this
  refine⟨upd L h .gr,λx=> ?_,λx=> ?_,λv x=> ?_,λv x=> ?_,λx=> ?_,wk0 λx _ k=> ?_⟩
  rotate_right
  ·rw[hg];exact il _ _ (λe=>by rw[e]at k;exact k g0)
  all_goals (have hv:=ho;unfold upd at *;grind)
 |used hq hw0 hg ha ha'=>
  have Iq:=I.qu;have Ig:=I.gr;have I1:=I.g;have I2:=I.t;have I3:=I.w;refine⟨upd L w .no,λx=> ?_,λx=> ?_,λv x=> ?_,λv x=> ?_,λx=> ?_,wk0 λx e k=> ?_⟩
  rotate_right
  ·rw[hg];exact il _ _ e
  all_goals (have hv:=ho;unfold upd at *;grind)
structure WtI(c:Cn)(s:Ms):Prop where
 tok:∃L,ahG s L
 ln:∀v,LnW (s.ws v).ph
theorem amu(I:WtI c s)(A:All c s)(hw:w<c.W)(o:∀j,j≠w->(ai c s w).ws j=s.ws j):WtI c (ai c s w):=by
 obtain⟨L,T⟩:=I.tok;obtain⟨⟨k1,k2⟩,k3⟩:=akf (A.inv.w w hw) (I.ln w) (λg hg=>(T.wk w g hg).1)
 refine⟨al6 T A.nd o k1 k3,λv=> ?_⟩
 by_cases e:v=w
 ·rw[e];exact k2
 ·rw[o v e];exact I.ln v
theorem amt:WtI c Ms.zero:=by
 refine⟨⟨λ_=>.no,λh=> ?_,λh=> ?_,λv h=> ?_,λv h=> ?_,λh=> ?_,λh g k=> ?_⟩,λv=>trivial⟩
 ·exact⟨λh=>(by cases h),λh=>(by cases h)⟩
 ·exact⟨λh=>absurd rfl h,λh=>(by cases h)⟩
 ·exact⟨λh=>(by cases h),λh=>(by cases h)⟩
 ·exact⟨λh=>(by cases h),λh=>(by cases h)⟩
 ·exact⟨λh=>(by cases h),λh=>absurd rfl h⟩
 ·cases k
theorem aom(I:WtI c s)(x)(hk:x.kind≠1):WtI c (dX c s x).2:=by
 obtain⟨L,T⟩:=I.tok;have same:∀{s':Ms},s'.m.qu=s.m.qu->s'.m.gr=s.m.gr->s'.ws=s.ws->WtI c s':=λhq hg hw=>⟨⟨L,agl T hq hg (λv=>by rw[hw]) (λh g k=>by rw[hw]at k;exact T.wk h g k)⟩,λv=>by rw[hw];exact I.ln v⟩
 unfold dX;split
 ·split
  ·rename_i hm
   have hr:=hm.2.1;refine⟨⟨L,agl T rfl rfl (λv=> ?_) (λh g k=> ?_)⟩,λv=> ?_⟩
   ·show xc (upd s.ws x.who.toNat _ v).ph=_
    by_cases e:v=x.who.toNat
    ·rw[e,ky,hr];rfl
    ·rw[il _ _ e]
   ·have k:(upd s.ws x.who.toNat (⟨.pin none,{x.a with op:=x.op.toNat},0⟩:Wr) h).ph=.wakes g:=k
    by_cases e:h=x.who.toNat
    ·rw[e,ky]at k;cases k
    ·rw[il _ _ e]at k;exact T.wk h g k
   ·show LnW (upd s.ws x.who.toNat _ v).ph
    by_cases e:v=x.who.toNat
    ·rw[e,ky];trivial
    ·rw[il _ _ e];exact I.ln v
  ·exact I
 ·split
  ·exact same rfl rfl rfl
  ·split
   ·split
    ·exact same rfl rfl rfl
    ·exact I
   ·split
    ·split
     ·split
      ·rename_i m hb
       unfold QN at hb;cases hn:az (s.m.sl x.a.slot.toNat) 13 0 0 with
       |none=>rw[hn]at hb;cases hb
       |some n=>rw[hn]at hb;cases hb;exact same rfl rfl rfl
      ·exact I
     ·exact I
    ·exact I
end
noncomputable section
open Classical
variable{c:Cn} {w:Nat} {s s':Ms} {m m':Mm}
def acW:Ph->Prop| .work (.close (some _))=>True|_=>False
def adf:Ph->Prop| .enters q=>q.st=.closed\/q.st=.look\/q.st=.drop|_=>False
structure ClF(w:Nat)(m m':Mm)(p p':Ph):Prop where
 a:m'.cl≠0->m.cl≠0\/acW p'
 b:acW p->acW p'\/m'.qu=[]
 c:adf p->m'.cl≠0->adf p'\/w∉m'.qu
 d:∀h,h∈m'.qu->h∈m.qu\/(h=w/\adf p')
 e:m.cl≠0->m'.cl≠0
theorem amj{p p'}(k:Mb m m')(h1:¬acW p)(h2:¬adf p):ClF w m m' p p':=⟨λh=>.inl (by rw[<-k.cl];exact h),λh=>absurd h h1,λh=>absurd h h2,λh hh=>.inl (by rw[<-k.qu];exact hh),λh=>by rw[k.cl];exact h⟩
def ClG(c:Cn)(s:Ms)(w:Nat):Prop:=ClF w s.m (ai c s w).m (s.ws w).ph ((ai c s w).ws w).ph
theorem arq{q}(T:Dt w q)(nd:m.qu.Nodup):(q.step c w m).2.cl=m.cl/\(∀h,h∈(q.step c w m).2.qu->h∈m.qu\/(h=w/\(q.step c w m).1.st=.closed))/\
  ((q.st=.closed\/q.st=.look\/q.st=.drop)->m.cl≠0->((q.step c w m).1.st=.closed\/(q.step c w m).1.st=.look\/(q.step c w m).1.st=.drop)\/w∉(q.step c w m).2.qu):=by
 grind [Qu.step,Qu.fin,Dt]
theorem al0{q}(hp:(s.ws w).ph=.enters q)(T:Dt w q)(nd:s.m.qu.Nodup):ClG c s w:=by
 obtain⟨k1,k2,k3⟩:=arq T nd;cases h:q.step c w s.m with
 |mk q' m'=>
  rw[h]at k1 k2 k3;have e:=lL hp h;unfold ClG;by_cases hd:q'.st=.done
  ·have ec:(ai c s w).m=m':=by
    rw[e,if_pos hd];split<;>rfl
   rw[ec,hp];refine⟨λh=>.inl (by grind),λh=>h.elim,λh1 h2=>.inr ?_,λx hx=> ?_,λh=>by rw[k1];exact h⟩
   ·rcases k3 h1 (by rw[<-k1];exact h2)with q|q
    all_goals grind
   grind
  ·rw[if_neg hd]at e
   rw[e,hp,ae];refine⟨λh=>.inl (by rw[<-k1];exact h),λh=>h.elim,λh1 h2=> ?_,λx hx=> ?_,λh=>by have:=k1;show m'.cl≠0;rw[this];exact h⟩
   ·exact k3 h1 (by rw[<-k1];exact h2)
   ·rcases k2 x hx with q|⟨q1,q2⟩
    ·exact .inl q
    ·exact .inr ⟨q1,.inl q2⟩
theorem amk{q}(hp:(s.ws w).ph=.work (.close (some q)))(T:Du q):ClG c s w:=by
 refine⟨?_,?_,?_,?_,?_⟩<;>(unfold ai ak Qu.step Ms.put Ms.mem Wr.to Wr.end_ upd Qu.fin Mm.nT at *;grind [adf,acW,Du,List.mem_of_mem_tail])
theorem aml(hp:(s.ws w).ph=.work (.close none)):ClG c s w:=by
 refine⟨?_,?_,?_,?_,?_⟩<;>(unfold ai ak Ms.put Ms.mem Wr.to Wr.end_ upd at *;grind [adf,acW])
theorem ap5{t:Td}:(t.step c w m).2.cl=m.cl/\∀h,h∈(t.step c w m).2.qu->h∈m.qu:=by
 have k:= @Ps m t.rt;obtain⟨k1,k2,k3,k4⟩:=k;grind [Td.step,Td.swap,Mm.set,Mm.pin,Mm.nT,List.mem_of_mem_tail]
theorem alZ{t}{p}{a}(hp:(s.ws w).ph=.ax t p a):ClG c s w:=by
 obtain⟨k1,k2⟩:=ap5;cases h:t.step c w s.m with
 |mk t' m'=>
  rw[h]at k1 k2;have e:=ui hp h
  have ec:(ai c s w).m=m':=by
   rw[e];split
   ·cases p<;>rfl
   ·rfl
  unfold ClG;rw[ec,hp];exact⟨λh=>.inl (by grind),λh=>h.elim,λh=>h.elim,λx hx=>.inl (k2 x hx),λh=>by rw[k1];exact h⟩
theorem aj8{q}{p}(hp:(s.ws w).ph=p)(h1:¬acW p)(h2:¬adf p)(e0:ai c s w=aV c w s (s.ws w) q)(T:Dr w q):ClG c s w:=by
 unfold ClG;rw[e0,hp];refine⟨?_,λh=>absurd h h1,λh=>absurd h h2,?_,?_⟩<;>(unfold aV Qu.step Ms.put Ms.mem Wr.to Wr.end_ upd Qu.fin at *;grind [Dr])
theorem anh{k}(hp:(s.ws w).ph=.work k)(T:Ba c w k):ClG c s w:=by
 have e0:ai c s w=ak c w s (s.ws w) k:=by grind [ai]
 have fin:∀{m':Mm},(ai c s w).m=m'->Mb s.m m'->¬acW (.work k)->ClG c s w:=λhm k1 k2=>by
  unfold ClG;rw[hm,hp];exact amj k1 k2 (λh=>h)
 cases k with
 |get t=>
  refine fin rfl ?_ (λh=>h)
  grind [ak,Ms.put,Ms.mem,ahI]
 |give g=>
  refine fin rfl ?_ (λh=>h)
  grind [ak,Ms.put,Ms.mem,akd]
 |bg g=>
  refine fin rfl ?_ (λh=>h)
  have q:=akb (c:=c) (w:=w) (m:=s.m) (g:=g);rw[e0];unfold ak Ms.put Ms.mem;grind
 |close d=>
  cases d with
  |none=>exact aml hp
  |some q=>exact amk hp T
 |stats t=>
  refine fin rfl ?_ (λh=>h)
  have q:=Ha s.m;rw[e0];unfold ak Ms.put Ms.mem;grind
 |aS r=>
  refine fin rfl ?_ (λh=>h)
  have q:=Ha s.m;have q2:=Ps (m:=s.m) (r:=r.rt);have q3:∀i n,Mb s.m (s.m.set i n):=λi n=>adb
  rw[e0];unfold ak Ms.put Ms.mem;grind
theorem adz(X:jO c w (s.ws w))(nd:s.m.qu.Nodup):ClG c s w:=by
 unfold jO at X
 have same:(ai c s w).m=s.m->¬acW (s.ws w).ph->¬adf (s.ws w).ph->ClG c s w:=λh h1 h2=>by
  grind [ClG,amj,Ha]
 cases hp:(s.ws w).ph with
 |rest=>exact same (by unfold ai;dsimp only;rw[hp]) (by rw[hp];exact λh=>h) (by rw[hp];exact λh=>h)
 |pin h=>
  unfold ClG;refine⟨?_,?_,?_,?_,?_⟩<;>(unfold ai Ms.put Ms.mem Wr.to Mm.pin upd at *;(try unfold adf at *);(try unfold acW at *);grind)
 |work k=>rw[hp]at X;exact anh hp X
 |counts t=>
  refine same ?_ (by rw[hp];exact λh=>h) (by rw[hp];exact λh=>h)
  unfold ai;dsimp only;rw[hp];dsimp only;split
  ·split<;>rfl
  ·rfl
 |enters q=>rw[hp]at X;exact al0 hp X nd
 |ax t p a=>exact alZ hp
 |parked b=>
  by_cases hg:s.m.gr w≠0
  ·exact same (by unfold ai dh Ms.put;grind) (by rw[hp];exact λh=>h) (by rw[hp];exact λh=>h)
  ·have e:ai c s w=aV c w s (s.ws w) Qu.leave:=by unfold ai;dsimp only;rw[hp];dsimp only;rw[if_neg hg]
   exact aj8 hp (λh=>h) (λh=>h) e ⟨.inl rfl,rfl⟩
 |wakes h=>
  unfold ClG;refine⟨?_,?_,?_,?_,?_⟩<;>(unfold ai dh Ms.put Ms.mem Wr.to Wr.end_ Mm.nT upd at *;(try unfold adf at *);(try unfold acW at *);grind)
 |leaves q=>
  rw[hp]at X;have e:ai c s w=aV c w s (s.ws w) q:=by unfold ai;dsimp only;rw[hp]
  exact aj8 hp (λh=>h) (λh=>h) e X
def ClI(s:Ms):Prop:=s.m.cl≠0->∀h,h∈s.m.qu->(∃v,acW (s.ws v).ph)\/adf (s.ws h).ph
theorem ani(I:ClI s)(A:All c s)(hw:w<c.W)(o:∀j,j≠w->(ai c s w).ws j=s.ws j):ClI (ai c s w):=by
 obtain⟨a,b,cc,d⟩:=adz (A.inv.w w hw) A.nd;intro h1 h hh;rcases d h hh with d1|⟨d1,d2⟩
 ·rcases a h1 with a1|a1
  ·rcases I a1 h d1 with⟨v,hv⟩|hs
   all_goals grind
  grind
 grind
end
noncomputable section
open Classical
variable{c:Cn} {w:Nat} {s s':Ms} {m m':Mm} {i:Nat}
def frees(x:aa):Prop:=x.st=0\/(x.st=2/\x.brk=false)
def RsT(i:Nat)(t:Td):Prop:=match t.st with
 | .some=>t.look.at_<=i| .keep=>t.look.at_<=i| .eO=>False| .again=>False| .done=>False|_=>True
def RsP(i:Nat):Ph->Prop
 | .pin _=>True| .work _=>True| .counts _=>True| .enters _=>True| .wakes _=>True
 | .ax t _ _=>RsT i t
 |_=>False
structure RsF(i:Nat)(m m':Mm)(r r':Prop):Prop where
 a:frees (m'.sl i)->¬frees (m.sl i)->r'
 b:m.qu=[]->m'.qu≠[]->r'
 c:r->m'.cl=0->m'.qu≠[]->frees (m'.sl i)->r'
theorem rf{r r'}(h:r'):RsF i m m' r r':=⟨λ_ _=>h,λ_ _=>h,λ_ _ _ _=>h⟩
theorem apZ{t}(hi:i<c.S)(T:pX c t)(hc:t.cl≠0->m.cl≠0):RsF i m (t.step c w m).2 (RsT i t) (RsT i (t.step c w m).1):=by
 obtain⟨st,ep,cl,qu,look,j,wd,other,head,rt⟩:=t;cases st with
 |ep=>exact rf trivial
 |pin=>exact rf trivial
 |cl=>exact rf trivial
 |dL=>
  grind [Td.step,RsT,eQ,rf]
 |go=>
  refine rf ?_;unfold Td.step RsT;grind
 |old=>
  obtain⟨k1,_⟩:=eQ (m:=m) (t:=⟨.old,ep,cl,qu,look,j,wd,other,head,rt⟩) (S:=c.S);obtain⟨_,_,_,_,k5⟩:=eQ (m:=m) (t:=⟨.old,ep,cl,qu,look,j,wd,other,head,rt⟩) (S:=c.S);have hc:cl≠0->m.cl≠0:=hc;unfold Td.step RsT;dsimp only;generalize Td.fu c.S m ⟨.old,ep,cl,qu,look,j,wd,other,head,rt⟩=u at*;have k1:u.st=.old:=k1;have k5:u.cl=cl:=k5;refine⟨?_,?_,?_⟩<;>grind
 |pins=>
  refine rf ?_;unfold Td.step RsT;grind
 |clear=>exact rf trivial
 |line=>
  unfold Td.step RsT;refine⟨?_,?_,?_⟩<;>grind [Fd.new]
 |some=>
  have T:look.fd=none/\qu≠[]/\head<=15/\look.kd=3:=T;obtain⟨kd,ow,at_,fd⟩:=look;obtain⟨T1,_,_,T4⟩:=T;have T1:fd=none:=T1;have T4:kd=3:=T4;subst T1 T4;refine⟨?_,?_,?_⟩<;>(unfold Td.step Td.fu Fd.step Fd.all;(try unfold RsT);(try unfold fits jg j6);(try unfold frees);grind)
 |keep=>
  unfold Td.step RsT Td.swap Mm.set upd Fd.again;refine⟨?_,?_,?_⟩<;>grind
 |pop=>
  refine rf ?_;unfold Td.step RsT;grind
 |grant=>exact rf trivial
 |back=>
  refine rf ?_;unfold Td.step RsT;grind
 |dR=>
  refine rf ?_;unfold Td.step RsT;grind
 |eO=>exact⟨λh h'=>absurd h h',λh h'=>absurd h h',λh=>h.elim⟩
 |again=>
  unfold Td.step;dsimp only;split<;>exact⟨λh h'=>absurd h h',λh h'=>absurd h h',λh=>h.elim⟩
 |done=>exact⟨λh h'=>absurd h h',λh h'=>absurd h h',λh=>h.elim⟩
def busy:Ph->Prop| .pin _=>True| .work _=>True| .counts _=>True| .enters _=>True| .wakes _=>True|_=>False
theorem acV(hp:busy (s.ws w).ph):RsP i ((ai c s w).ws w).ph:=by
 cases hq:(s.ws w).ph with
 |rest=>rw[hq]at hp;exact hp.elim
 |ax _ _ _=>rw[hq]at hp;exact hp.elim
 |parked _=>rw[hq]at hp;exact hp.elim
 |leaves _=>rw[hq]at hp;exact hp.elim
 |pin h=>
  unfold ai;dsimp only;rw[hq];cases h<;>(dsimp only;rw[ae];trivial)
 |work k=>
  have e0:ai c s w=ak c w s (s.ws w) k:=by unfold ai;dsimp only;rw[hq]
  rw[e0];have h1:∀(s:Ms) (x:Wr),RsP i x.ph->RsP i ((s.put w x).ws w).ph:=λs x h=>by rw[ae];exact h
  have e1:∀x a,RsP i (Wr.end_ x a).ph:=λx a=>trivial
  have e2:∀x k,RsP i (Wr.to x (.work k)).ph:=λx a=>trivial
  have e3:∀x k,RsP i (Wr.to x (.enters k)).ph:=λx a=>trivial
  have e4:∀x k,RsP i (Wr.to x (.counts k)).ph:=λx a=>trivial
  unfold ak;dsimp only;repeat' split
  all_goals first|exact h1 _ _ (e1 _ _)|exact h1 _ _ (e2 _ _)|exact h1 _ _ (e3 _ _)|exact h1 _ _ (e4 _ _)
 |counts t=>
  unfold ai;dsimp only;rw[hq];dsimp only;split
  ·split<;>(rw[ae];trivial)
  ·rw[ae];trivial
 |enters q=>
  unfold ai;dsimp only;rw[hq];dsimp only;split
  ·split<;>(rw[ae];trivial)
  ·rw[ae];trivial
 |wakes h=>
  unfold ai;dsimp only;rw[hq];cases h with
  |none=>unfold dh;rw[ae];trivial
  |some g=>
   unfold dh;dsimp only;split<;>(rw[ae];trivial)
theorem ahn{x}{q}(T:Dr w q):(aV c w s x q).m.sl=s.m.sl/\(aV c w s x q).m.cl=s.m.cl/\∀h,h∈(aV c w s x q).m.qu->h∈s.m.qu:=by
 grind [aV,Ms.put,Ms.mem,Dr,Qu.step,Qu.fin]
def TcI(s:Ms):Prop:=∀v t p a,(s.ws v).ph=.ax t p a->t.cl≠0->s.m.cl≠0
def RsG(c:Cn)(s:Ms)(w i:Nat):Prop:=RsF i s.m (ai c s w).m (RsP i (s.ws w).ph) (RsP i ((ai c s w).ws w).ph)
theorem an8(hi:i<c.S)(X:jO c w (s.ws w))(hc:TcI s):RsG c s w i:=by
 unfold jO at X;unfold RsG;cases hp:(s.ws w).ph with
 |rest=>
  have e:ai c s w=s:=by grind [ai]
  rw[e,hp];exact⟨λh h'=>absurd h h',λh h'=>absurd h h',λh=>h.elim⟩
 |pin h=>exact rf (acV (by rw[hp];trivial))
 |work h=>exact rf (acV (by rw[hp];trivial))
 |counts h=>exact rf (acV (by rw[hp];trivial))
 |enters h=>exact rf (acV (by rw[hp];trivial))
 |wakes h=>exact rf (acV (by rw[hp];trivial))
 |ax t p a=>
  rw[hp]at X;have k:=apZ (w:=w) hi X.1 (hc w t p a hp);cases h:t.step c w s.m with
  |mk t' m'=>
   rw[h]at k;have e:=ui hp h;by_cases hd:t'.st=.done
   ·have k0:¬RsT i t':=by unfold RsT;rw[hd];exact fun h=>h
    have ec:(ai c s w).m=m':=by
     rw[e,if_pos hd];cases p<;>rfl
    rw[ec];exact⟨λh1 h2=>absurd (k.a h1 h2) k0,λh1 h2=>absurd (k.b h1 h2) k0,λh1 h2 h3 h4=>absurd (k.c h1 h2 h3 h4) k0⟩
   ·rw[if_neg hd]at e
    rw[e,ae];exact k
 |parked b=>
  by_cases hg:s.m.gr w≠0
  ·have e:ai c s w=(s.mem s.m).put w ((s.ws w).to (.wakes (some (s.m.gr w)))):=by unfold ai;dsimp only;rw[hp];rw[if_pos hg];rfl
   rw[e,ae];exact rf trivial
  ·have e:ai c s w=aV c w s (s.ws w) Qu.leave:=by unfold ai;dsimp only;rw[hp];rw[if_neg hg]
   obtain⟨k1,k2,k3⟩:=ahn (q:=Qu.leave) (⟨.inl rfl,rfl⟩);rw[<-e]at k1 k2 k3;exact⟨λh1 h2=>absurd (by rw[k1]at h1;exact h1) h2,λh1 h2=>absurd (List.eq_nil_iff_forall_not_mem.2 λa ha=>by have:=k3 a ha;rw[h1]at this;cases this) h2,λh=>h.elim⟩
 |leaves q=>
  rw[hp]at X;have e:ai c s w=aV c w s (s.ws w) q:=by unfold ai;dsimp only;rw[hp]
  obtain⟨k1,k2,k3⟩:=ahn X;rw[<-e]at k1 k2 k3;exact⟨λh1 h2=>absurd (by rw[k1]at h1;exact h1) h2,λh1 h2=>absurd (List.eq_nil_iff_forall_not_mem.2 λa ha=>by have:=k3 a ha;rw[h1]at this;cases this) h2,λh=>h.elim⟩
def RsI(c:Cn)(s:Ms):Prop:=s.m.cl=0->s.m.qu≠[]->∀i,i<c.S->frees (s.m.sl i)->∃v,v<c.W/\RsP i (s.ws v).ph
theorem amE(I:RsI c s)(A:All c s)(hc:TcI s)(hm:(ai c s w).m.cl=0->s.m.cl=0)(hw:w<c.W)(o:∀j,j≠w->(ai c s w).ws j=s.ws j):RsI c (ai c s w):=by
 intro h1 h2 i hi hf;obtain⟨a,b,cc⟩:=an8 hi (A.inv.w w hw) hc;by_cases f:frees (s.m.sl i)
 ·by_cases q:s.m.qu=[]
  ·grind
  ·obtain⟨v,hv,hr⟩:=I (hm h1) q i hi f
   grind
 grind
end
noncomputable section
open Classical
variable{c:Cn} {w:Nat} {s s':Ms} {m m':Mm} {i:Nat}
theorem aok(X:jO c w (s.ws w))(nd:s.m.qu.Nodup)(h:(ai c s w).m.cl=0):s.m.cl=0:=Classical.byContradiction λq=>(adz X nd).e q h
def TdF(c:Cn)(s:Ms)(w:Nat):Prop:=∀t p a,((ai c s w).ws w).ph=.ax t p a->t=Td.new\/∃t0,(s.ws w).ph=.ax t0 p a/\t=(t0.step c w s.m).1/\(ai c s w).m=(t0.step c w s.m).2
theorem ahz:TdF c s w:=by
 intro t p a h;cases hq:(s.ws w).ph with
 |rest=>
  grind [ai]
 |ax t0 p0 a0=>
  cases hs:t0.step c w s.m with
  |mk t' m'=>
   have e:=ui hq hs;by_cases hd:t'.st=.done
   ·rw[if_pos hd]at e
    rw[e]at h;exfalso;cases p0 with
    |none=>
     have h:(((s.mem m').put w ((s.ws w).to .rest)).ws w).ph=.ax t p a:=h;rw[ae]at h;cases h
    |some b=>
     have h:(((s.mem m').put w ((s.ws w).to (.parked b))).ws w).ph=.ax t p a:=h;rw[ae]at h;cases h
   ·rw[if_neg hd]at e
    rw[e,ae]at h;cases h;exact .inr ⟨t0,rfl,by rw[hs],by rw[e,hs];rfl⟩
 |parked b=>
  left;by_cases hg:s.m.gr w≠0
  ·have e:ai c s w=(s.mem s.m).put w ((s.ws w).to (.wakes (some (s.m.gr w)))):=by unfold ai;dsimp only;rw[hq];dsimp only;rw[if_pos hg];rfl
   rw[e,ae]at h;cases h
  ·have e:ai c s w=aV c w s (s.ws w) Qu.leave:=by unfold ai;dsimp only;rw[hq];dsimp only;rw[if_neg hg]
   rw[e]at h;unfold aV at h;dsimp only at h;split at h
   ·split at h<;>(rw[ae]at h;cases h;try rfl)
   ·rw[ae]at h;cases h
 |leaves q=>
  left;have e:ai c s w=aV c w s (s.ws w) q:=by unfold ai;dsimp only;rw[hq]
  rw[e]at h;unfold aV at h;dsimp only at h;split at h
  ·split at h<;>(rw[ae]at h;cases h;try rfl)
  ·rw[ae]at h;cases h
 |pin x=>
  left;unfold ai at h;dsimp only at h;rw[hq]at h;cases x<;>(dsimp only at h;rw[ae]at h;cases h)
 |work k=>
  left;have e0:ai c s w=ak c w s (s.ws w) k:=by unfold ai;dsimp only;rw[hq]
  rw[e0]at h;unfold ak at h;dsimp only at h;repeat' split at h
  all_goals (rw[ae]at h;cases h;try rfl)
 |counts x=>
  left;unfold ai at h;dsimp only at h;rw[hq]at h;dsimp only at h;repeat' split at h
  all_goals (rw[ae]at h;cases h;try rfl)
 |enters q=>
  left;unfold ai at h;dsimp only at h;rw[hq]at h;dsimp only at h;repeat' split at h
  all_goals (rw[ae]at h;cases h;try rfl)
 |wakes x=>
  left;unfold ai at h;dsimp only at h;rw[hq]at h;cases x with
  |none=>unfold dh at h;rw[ae]at h;cases h
  |some g=>
   unfold dh at h;dsimp only at h;split at h<;>(rw[ae]at h;cases h;try rfl)
theorem akg{P P':Td->Prop}(I:∀v t p a,(s.ws v).ph=.ax t p a->P t)(o:∀j,j≠w->(ai c s w).ws j=s.ws j)(h0:P' Td.new)(h1:∀t,P t->(ai c s w).m=(t.step c w s.m).2->P' (t.step c w s.m).1)(h2:∀t,P t->P' t):
  ∀v t p a,((ai c s w).ws v).ph=.ax t p a->P' t:=by
 intro v t p a h;by_cases e:v=w
 ·rw[e]at h
  rcases ahz t p a h with rfl|⟨t0,k1,k2,k3⟩
  all_goals grind
 grind
theorem aot{t:Td}:(t.step c w m).1.cl=t.cl\/(t.step c w m).1.cl=m.cl:=by
 grind [Td.step,eQ]
theorem amx(I:TcI s)(A:All c s)(hw:w<c.W)(o:∀j,j≠w->(ai c s w).ws j=s.ws j):TcI (ai c s w):=by
 have cm:=(adz (A.inv.w w hw) A.nd).e;refine akg I o (λh=>absurd rfl h) (λt h e k=> ?_) (λt h k=>cm (h k))
 grind [aot]
end
noncomputable section
open Classical
variable{c:Cn} {w:Nat} {s s':Ms} {m m':Mm} {i:Nat} {g:Bool}
def nz(m m':Mm)(i:Nat)(d own more:Int)(n:aa):Prop:=az (m.sl i) d own more=some n/\m'.sl=upd m.sl i n
def RtC(m m':Mm)(r r':Rt):Prop:=(∃n,nz m m' r.i 11 0 4095 n/\r.st=.swap/\r'.st=.look/\r'.i=r.i/\r'.wd=n/\r'.sw=true)\/(∃n,nz m m' r.i 17 0 r.ep n/\r.st=.iI/\r'.st=.jk/\r'.i=r.i/\m.sl r.i=r.wd)
theorem agV{r}:(r.step m).2.sl=m.sl\/RtC m (r.step m).2 r (r.step m).1:=by
 obtain⟨i,wd,ep,st,sw⟩:=r;cases st<;>(unfold Rt.step RtC nz Mm.set;grind)
def TdC(w:Nat)(m m':Mm)(t t':Td):Prop:=
 (t.st=.clear/\∃n,nz m m' t.i 12 w 0 n)\/
 (t.st=.keep/\∃d n,(d=5\/d=7)/\nz m m' t.i d t.head 0 n/\t'.st=.pop/\t'.i=t.i/\t'.head=t.head)\/
 (t.st=.dR/\∃d n,(d=6\/d=8)/\nz m m' t.i d w 0 n/\t'.st=.cl)\/
 (t.st=.go/\RtC m m' t.rt t'.rt/\t'.st=.go)
theorem agt{t:Td}{d own}(h:t.swap m d own=some m'):∃n,nz m m' t.i d own 0 n:=by
 unfold Td.swap at h;split at h
 ·split at h
  ·rename_i n hn he
   cases h;exact⟨n,by unfold nz;rw[he];exact⟨hn,rfl⟩⟩
  ·cases h
 ·cases h
theorem al9{t}:(t.step c w m).2.sl=m.sl\/TdC w m (t.step c w m).2 t (t.step c w m).1:=by
 have k:= @agV m t.rt;have k2:=λd own m' h=> @agt m m' t d own h
 obtain⟨st,ep,cl,qu,look,j,wd,other,head,rt⟩:=t;cases st with
 |go=>
  grind [RtC,TdC,Td.step]
 |clear=>
  unfold TdC Td.step;cases h:(⟨.clear,ep,cl,qu,look,j,wd,other,head,rt⟩:Td).swap m 12 w with
  |none=>exact .inl rfl
  |some m'=>
   obtain⟨n,hn⟩:=k2 _ _ _ h;exact .inr (.inl ⟨rfl,n,hn⟩)
 |keep=>unfold TdC Td.step;grind
 |dR=>unfold TdC Td.step;grind
 |_=>unfold Td.step Mm.pin Mm.nT;grind
def TkC(w:Nat)(m m':Mm)(t t':Tk):Prop:=
 ((t.st=.gp\/t.st=.anyS)/\∃n,nz m m' t.look.at_ 3 w 0 n)\/
 (t.st=.dD/\∃n,nz m m' t.look.at_ 9 w 0 n)\/
 (t.st=.dQ/\∃n,nz m m' t.look.at_ 0 w 0 n/\t'.st=.bM/\t'.i=t.look.at_/\t'.wd=n)\/
 (t.st=.bM/\∃d n,(d=1\/d=2)/\nz m m' t.i d w 0 n)\/
 (t.st=.eG/\∃n,nz m m' t.i 16 w 0 n/\t'.i=t.i/\t'.wd=n/\(n.st≠3->t'.st=.bM))\/
 (t.st=.go/\RtC m m' t.rt t'.rt/\t'.st=.go)
theorem agq{t t':Tk}{wd}{d}(h:t.swap w m i wd d=some (t',m')):∃n,nz m m' i d w 0 n/\t'={t with i:=i,wd:=n,gen:=n.gen}:=by
 rcases lQ (w:=w) (m:=m) (t:=t) (i:=i) (wd:=wd) (d:=d)with h0|⟨n,hn,hm,h0⟩
 ·grind
 ·rw[h0]at h;cases h;exact⟨n,⟨by rw[hm];exact hn,rfl⟩,rfl⟩
theorem aki{r r'}(h:RtC m m' r r'):r'.st≠.done:=by unfold RtC at h;grind
theorem aoo{t}:(t.step w c.S m g).2.sl=m.sl\/TkC w m (t.step w c.S m g).2 t (t.step w c.S m g).1:=by
 have k:= @agV m t.rt;have k1:= @aki m (t.rt.step m).2 t.rt (t.rt.step m).1;have k2:=λi wd d t' m' h=> @agq w m m' i t t' wd d h
 obtain⟨st,look,j,wd,gen,ps,rt,e⟩:=t;cases st with
 |go=>unfold TkC Tk.step Tk.fin;grind
 |gp=>unfold TkC Tk.step;grind
 |anyS=>unfold TkC Tk.step Tk.search;grind
 |dQ=>unfold TkC Tk.step;grind
 |dD=>unfold TkC Tk.step nz Mm.set;grind
 |bM=>unfold TkC Tk.step Tk.fin;grind
 |eG=>unfold TkC Tk.step Tk.fin nz Mm.set;grind
 |_=>unfold Tk.step;grind
theorem apt{g:Gv}:(g.step c w m).2.sl=m.sl\/(g.st=.rest/\∃n,nz m (g.step c w m).2 g.i.toNat 4 w 0 n)\/(g.st=.go/\RtC m (g.step c w m).2 g.rt (g.step c w m).1.rt/\(g.step c w m).1.st=.go):=by
 have k:= @agV m g.rt;have k1:= @aki m (g.rt.step m).2 g.rt (g.rt.step m).1;obtain⟨i,gen,dc,st,cl,wd,rt,e⟩:=g;cases st with
 |go=>unfold Gv.step Gv.fin;grind
 |rest=>unfold Gv.step Gv.fin nz Mm.set;grind
 |_=>unfold Gv.step;grind
theorem aow{g}(W:ZU c w g):(g.step c w m).2.sl=m.sl\/∃d more n,(d=14\/d=15)/\nz m (g.step c w m).2 g.i.toNat d w more n:=by
 obtain⟨op,i,gen,n,st,wd,nx,num,e⟩:=g;cases st with
 |swap=>
  obtain⟨_,_,_,h,_⟩:=W rfl;unfold Sm.next at h;unfold Sm.step Sm.fin nz Mm.set;grind
 |_=>unfold Sm.step;grind
end
noncomputable section
open Classical
variable{c:Cn} {w:Nat} {s s':Ms} {m m':Mm} {i:Nat} {g:Bool}
def dC:Ph->Option Rt
 | .ax t _ _=>if t.st=.go then some t.rt else none
 | .work (.get t)=>if t.st=.go then some t.rt else none
 | .work (.give g)=>if g.st=.go then some g.rt else none
 | .work (.aS r)=>if r.st=.dB then some r.rt else none
 |_=>none
def wy:Ph->Option Tk
 | .work (.get t)=>if t.st=.bM then some t else none
 |_=>none
def dE(x:Wr):Option Nat:=match x.ph with
 | .pin _=>if 0<x.grant/\x.ask.op=0 then some (x.grant-1).toNat else none
 | .work (.get t)=>if t.st=.grant\/t.st=.eG then some t.i else none
 |_=>none
def lN:Ph->Option Nat
 | .ax t _ _=>if t.st=.pop\/t.st=.grant\/t.st=.back\/t.st=.dR then some t.i else none
 |_=>none
def Chg(c:Cn)(w:Nat)(m m':Mm)(x x':Wr):Prop:=
 m'.sl=m.sl\/
 (∃i d own more n,nz m m' i d own more n/\(d=3\/d=9\/d=4\/d=10\/d=14\/d=15))\/
 (∃i n t,nz m m' i 0 w 0 n/\wy x'.ph=some t/\t.i=i/\t.wd=n)\/
 (∃i d n t,nz m m' i d w 0 n/\(d=1\/d=2)/\wy x.ph=some t/\t.i=i)\/
 (∃i n,nz m m' i 16 w 0 n/\dE x=some i/\(n.st≠3->∃t,wy x'.ph=some t/\t.i=i/\t.wd=n))\/
 (∃t p a,x.ph=.ax t p a/\TdC w m m' t (t.step c w m).1/\m'=(t.step c w m).2/\((t.step c w m).1.st≠.done->x'.ph=.ax (t.step c w m).1 p a))\/
 (∃r r',RtC m m' r r'/\dC x.ph=some r/\dC x'.ph=some r')
theorem ah8{t}(h:t.st=.bM):wy (.work (.get t))=some t:=if_pos h
theorem ahJ{t}(h:t.st=.go):dC (.work (.get t))=some t.rt:=if_pos h
theorem ahm{t}(h:t.st=.go):dC (.work (.give t))=some t.rt:=if_pos h
theorem ahl{t}(h:t.st=.dB):dC (.work (.aS t))=some t.rt:=if_pos h
theorem adl{t}{p}{a}(h:t.st=.go):dC (.ax t p a)=some t.rt:=if_pos h
def ql(c:Cn)(s:Ms)(w:Nat):Prop:=Chg c w s.m (ai c s w).m (s.ws w) ((ai c s w).ws w)
theorem ac6{x'}(e:ai c s w=(s.mem m').put w x')(h:Chg c w s.m m' (s.ws w) x'):ql c s w:=by
 unfold ql;rw[e,ae];exact h
theorem adi{x'}{wo}(e:ai c s w=({s with wo:=wo}.mem m').put w x')(h:Chg c w s.m m' (s.ws w) x'):ql c s w:=by
 unfold ql;rw[e];rw[ae];exact h
theorem uj(h:(ai c s w).m.sl=s.m.sl):ql c s w:=.inl h
theorem aol{t}(hp:(s.ws w).ph=.work (.get t)):ql c s w:=by
 have e0:ai c s w=ak c w s (s.ws w) (.get t):=by grind [ai]
 have q:=aoo (c:=c) (w:=w) (m:=s.m) (g:=decide (t.st=.bM)&&s.next.1) (t:=t)
 obtain⟨wo,hwo⟩:∃wo,(if t.st=gm.bM then({s with wo:=s.next.2}:Ms)else s)={s with wo:=wo}:=by
  split
  ·exact⟨_,rfl⟩
  ·exact⟨s.wo,rfl⟩
 unfold ak at e0;dsimp only at e0;rw[hwo]at e0
 have h1:∀x':Wr,(∀t',(t.step w c.S s.m (decide (t.st=.bM)&&s.next.1)).1=t'->t'.st≠.done->x'.ph=.work (.get t'))->Chg c w s.m (t.step w c.S s.m (decide (t.st=.bM)&&s.next.1)).2 (s.ws w) x':=by
  intro x' hx;have hx:=hx _ rfl;generalize (t.step w c.S s.m (decide (t.st=.bM)&&s.next.1)).1=t' at q hx;rcases q with q|q|q|q|q|q|q
  ·exact .inl q
  ·obtain⟨_,n,hn⟩:=q
   exact .inr (.inl ⟨_,_,_,_,n,hn,.inl rfl⟩)
  ·obtain⟨_,n,hn⟩:=q
   exact .inr (.inl ⟨_,_,_,_,n,hn,.inr (.inl rfl)⟩)
  ·obtain⟨_,n,hn,k1,k2,k3⟩:=q
   exact .inr (.inr (.inl ⟨_,n,t',hn,by rw[hx (by rw[k1];exact gm.noConfusion)];exact ah8 k1,k2,k3⟩))
  ·obtain⟨k1,d,n,hd,hn⟩:=q
   exact .inr (.inr (.inr (.inl ⟨_,d,n,t,hn,hd,by rw[hp];exact ah8 k1,rfl⟩)))
  ·obtain⟨k1,n,hn,k2,k3,k4⟩:=q
   refine .inr (.inr (.inr (.inr (.inl ⟨_,n,hn,by unfold dE;rw[hp];dsimp only;rw[if_pos (.inr k1)],λh=>⟨t',?_,k2,k3⟩⟩))))
   rw[hx (by rw[k4 h];exact gm.noConfusion)]
   exact ah8 (k4 h)
  ·obtain⟨k1,k2,k3⟩:=q
   exact .inr (.inr (.inr (.inr (.inr (.inr ⟨_,_,k2,by rw[hp];exact ahJ k1,by rw[hx (by rw[k3];exact gm.noConfusion)];exact ahJ k3⟩)))))
 split at e0
 ·rename_i hd
  have h2:=λx'=>h1 x' λt' he h=>absurd (by rw[<-he];exact hd) h
  split at e0
  ·split at e0
   ·exact adi e0 (h2 _)
   ·exact adi e0 (h2 _)
  ·split at e0
   ·exact adi e0 (h2 _)
   ·exact adi e0 (h2 _)
 ·exact adi e0 (h1 _ λt' he _=>by rw[<-he];rfl)
theorem anl{g}(hp:(s.ws w).ph=.work (.give g)):ql c s w:=by
 have e0:ai c s w=ak c w s (s.ws w) (.give g):=by grind [ai]
 have q:=apt (c:=c) (w:=w) (m:=s.m) (g:=g);unfold ak at e0;dsimp only at e0;generalize hg:g.step c w s.m=r at q e0
 have h1:∀x':Wr,(r.1.st≠.done->x'.ph=.work (.give r.1))->Chg c w s.m r.2 (s.ws w) x':=by
  intro x' hx;rcases q with q|q|q
  ·exact .inl q
  ·obtain⟨_,n,hn⟩:=q
   exact .inr (.inl ⟨_,_,_,_,n,hn,.inr (.inr (.inl rfl))⟩)
  ·obtain⟨k1,k2,k3⟩:=q
   exact .inr (.inr (.inr (.inr (.inr (.inr ⟨_,_,k2,by rw[hp];exact ahm k1,by grind [ahm]⟩)))))
 split at e0
 ·rename_i hd
  exact ac6 e0 (h1 _ λh=>absurd hd h)
 ·exact ac6 e0 (h1 _ λ_=>rfl)
theorem anj{g}(hp:(s.ws w).ph=.work (.bg g))(W:ZU c w g):ql c s w:=by
 have e0:ai c s w=ak c w s (s.ws w) (.bg g):=by grind [ai]
 have q:=aow (m:=s.m) W;unfold ak at e0
 have h1:∀x':Wr,Chg c w s.m (g.step c w s.m).2 (s.ws w) x':=by
  intro x';rcases q with q|⟨d,more,n,hd,hn⟩
  ·exact .inl q
  ·exact .inr (.inl ⟨_,d,_,more,n,hn,by grind⟩)
 grind [ac6]
theorem ank{r}(hp:(s.ws w).ph=.work (.aS r)):ql c s w:=by
 have e0:ai c s w=ak c w s (s.ws w) (.aS r):=by grind [ai]
 have q:=agV (m:=s.m) (r:=r.rt);unfold ak at e0;dsimp only at e0;split at e0
 ·refine uj ?_
  rw[e0];split
  ·rfl
  ·split<;>rfl
 ·refine uj ?_
  rw[e0];split<;>rfl
 ·split at e0
  ·rename_i n hn
   split at e0
   ·rename_i he
    exact ac6 e0 (.inr (.inl ⟨_,10,_,_,n,⟨by rw[he];exact hn,rfl⟩,by simp⟩))
   ·exact uj (by rw[e0];rfl)
  ·exact uj (by rw[e0];rfl)
 ·rename_i hst
  have k1:= @aki s.m (r.rt.step s.m).2 r.rt (r.rt.step s.m).1;split at e0
  ·rename_i hd
   refine ac6 e0 ?_;rcases q with q|q
   ·exact .inl q
   ·exact absurd hd (k1 q)
  ·refine ac6 e0 ?_
   rcases q with q|q
   ·exact .inl q
   ·exact .inr (.inr (.inr (.inr (.inr (.inr ⟨_,_,q,by rw[hp];exact ahl hst,ahl hst⟩)))))
theorem ahF(X:jO c w (s.ws w))(W:nW c s.m w (s.ws w)):ql c s w:=by
 unfold jO at X;unfold nW at W;cases hp:(s.ws w).ph with
 |rest=>grind [ai,uj]
 |pin h=>exact uj (by unfold ai;dsimp only;rw[hp];cases h<;>rfl)
 |counts t=>
  refine uj ?_;unfold ai;dsimp only;rw[hp];dsimp only;repeat' split
  all_goals rfl
 |enters q=>
  refine uj ?_;unfold ai;dsimp only;rw[hp];dsimp only;have k:(q.step c w s.m).2.sl=s.m.sl:=by unfold Qu.step Mm.nT;grind
  repeat' split
  all_goals exact k
 |wakes h=>
  refine uj ?_;unfold ai dh;dsimp only;rw[hp];dsimp only;repeat' split
  all_goals rfl
 |leaves q=>
  rw[hp]at X;refine uj ?_;have e:ai c s w=aV c w s (s.ws w) q:=by unfold ai;dsimp only;rw[hp]
  rw[e];exact(ahn X).1
 |parked b=>
  refine uj ?_;by_cases hg:s.m.gr w≠0
  ·unfold ai;dsimp only;rw[hp];dsimp only;rw[if_pos hg];rfl
  ·have e:ai c s w=aV c w s (s.ws w) Qu.leave:=by unfold ai;dsimp only;rw[hp];dsimp only;rw[if_neg hg]
   rw[e];exact(ahn (show Dr w Qu.leave from⟨.inl rfl,rfl⟩)).1
 |ax t p a=>
  cases h:t.step c w s.m with
  |mk t' m'=>
   have q:=al9 (c:=c) (w:=w) (m:=s.m) (t:=t);have e:=ui hp h
   have ec:(ai c s w).m=m':=by
    rw[e];split
    ·cases p<;>rfl
    ·rfl
   unfold ql;rw[ec];rcases q with q|q
   ·left;rw[h]at q;exact q
   ·refine .inr (.inr (.inr (.inr (.inr (.inl ⟨t,p,a,hp,by rw[h]at q ⊢;exact q,by rw[h],fun hd=> ?_⟩)))))
    rw[h]at hd ⊢;rw[if_neg hd]at e;rw[e,ae];rfl
 |work k=>
  rw[hp]at W;cases k with
  |get t=>exact aol hp
  |give g=>exact anl hp
  |bg g=>exact anj hp W.2.2.2
  |stats t=>
   refine uj ?_;unfold ai ak;dsimp only;rw[hp];dsimp only;repeat' split
   all_goals rfl
  |aS r=>exact ank hp
  |close d=>
   refine uj ?_;cases d with
   |none=>
    unfold ai ak;dsimp only;rw[hp];dsimp only;repeat' split
    all_goals rfl
   |some q=>
    unfold ai ak;dsimp only;rw[hp];dsimp only;have k:(q.step c w s.m).2.sl=s.m.sl:=by unfold Qu.step Mm.nT;grind
    repeat' split
    all_goals exact k
end
noncomputable section
open Classical
variable{c:Cn} {w:Nat} {s s':Ms} {m m':Mm} {i:Nat} {g:Bool}
theorem qf{x n}{d own more}(h:az x d own more=some n):
  (d=0->x.st=0/\n.st=1/\n.own=own)/\(d=1->x.st=1/\x.own=own/\n.st=3)/\(d=2->x.st=1/\x.own=own/\n.st=0)/\(d=3->x.st=2/\n.st=3)/\(d=4->x.st=3/\n.st=2)/\
  (d=5->x.st=2/\n.st=4/\n.own=own)/\(d=6->x.st=4/\n.st=2)/\(d=7->x.st=0/\n.st=5/\n.own=own)/\(d=8->x.st=5/\n.st=0)/\(d=9->x.st=2/\n.st=2/\n.brk=x.brk)/\(d=10->x.st=2/\n.st=2/\n.brk=x.brk)/\
  (d=11->(x.st=2\/x.st=3)/\n.st=6/\n.ep=more)/\(d=12->x.st=6/\n.st=0)/\(d=14->x.st=3/\n.st=3)/\(d=15->x.st=3/\n.st=3)/\(d=16->(x.st=4/\n.st=3\/x.st=5/\n.st=1)/\x.own=own/\n.own=own)/\(d=17->x.st=6/\n.st=6/\n.ep=more):=by
 obtain⟨r,hr,rfl,_⟩:=wG h;refine⟨?_,?_,?_,?_,?_,?_,?_,?_,?_,?_,?_,?_,?_,?_,?_,?_,?_⟩<;>(rintro rfl;unfold uT at hr;unfold row0 yB Ce uU yA yz yx yu oK Cc xu tq xq aZ vH sZ xk fM dU at hr;grind)
theorem aqd{t:Tk}(h:(t.step w c.S m g).1.st=.bM):t.st≠.bM/\∃d n,(d=0\/d=16/\n.st≠3)/\nz m (t.step w c.S m g).2 (t.step w c.S m g).1.i d w 0 n/\(t.step w c.S m g).1.wd=n:=by
 have k2:=λi wd d t' m' h=> @agq w m m' i t t' wd d h
 obtain⟨st,look,j,wd,gen,ps,rt,e⟩:=t;cases st with
 |dQ=>unfold Tk.step at *;grind
 |eG=>unfold Tk.step Tk.fin nz Mm.set at *;grind
 |_=>grind [Tk.step,Tk.fin,Tk.search]
theorem apG{t}(h:wy ((ai c s w).ws w).ph=some t)(hs:(s.ws w).ph≠.rest):
  ∃d n,(d=0\/d=16/\n.st≠3)/\nz s.m (ai c s w).m t.i d w 0 n/\t.wd=n:=by
 cases hq:(s.ws w).ph with
 |rest=>exact absurd hq hs
 |ax t0 p0 a0=>
  cases hst:t0.step c w s.m with
  |mk t' m'=>
   have e:=ui hq hst;by_cases hd:t'.st=.done
   ·rw[if_pos hd]at e
    rw[e]at h;exfalso;cases p0 with
    |none=>
     have h:wy (((s.mem m').put w ((s.ws w).to .rest)).ws w).ph=some t:=h;rw[ae]at h;cases h
    |some b=>
     have h:wy (((s.mem m').put w ((s.ws w).to (.parked b))).ws w).ph=some t:=h;rw[ae]at h;cases h
   ·rw[if_neg hd]at e
    rw[e,ae]at h;cases h
 |parked b=>
  exfalso;by_cases hg:s.m.gr w≠0
  ·have e:ai c s w=(s.mem s.m).put w ((s.ws w).to (.wakes (some (s.m.gr w)))):=by unfold ai;dsimp only;rw[hq];dsimp only;rw[if_pos hg];rfl
   rw[e,ae]at h;cases h
  ·have e:ai c s w=aV c w s (s.ws w) Qu.leave:=by unfold ai;dsimp only;rw[hq];dsimp only;rw[if_neg hg]
   rw[e]at h;unfold aV at h;dsimp only at h;repeat' split at h
   all_goals (rw[ae]at h;cases h)
 |leaves q=>
  exfalso;have e:ai c s w=aV c w s (s.ws w) q:=by unfold ai;dsimp only;rw[hq]
  rw[e]at h;unfold aV at h;dsimp only at h;repeat' split at h
  all_goals (rw[ae]at h;cases h)
 |pin x=>
  exfalso;unfold ai at h;dsimp only at h;rw[hq]at h;cases x with
  |none=>dsimp only at h;rw[ae]at h;cases h
  |some e1=>
   dsimp only at h;rw[ae]at h;have h:wy (.work (bE (s.ws w)))=some t:=h;unfold bE at h;repeat' split at h
   all_goals cases h
 |work k=>
  have e0:ai c s w=ak c w s (s.ws w) k:=by unfold ai;dsimp only;rw[hq]
  cases k with
  |get t0=>
   obtain⟨wo,hwo⟩:∃wo,(if t0.st=gm.bM then({s with wo:=s.next.2}:Ms)else s)={s with wo:=wo}:=by
    split
    ·exact⟨_,rfl⟩
    ·exact⟨s.wo,rfl⟩
   unfold ak at e0;dsimp only at e0;rw[hwo]at e0
   have nop:∀{x':Wr} {m':Mm},ai c s w=({s with wo:=wo}.mem m').put w x'->wy x'.ph=some t/\(ai c s w).m=m':=λe=>by
    rw[e]at h;have h:wy (({s with wo:=wo}.mem _).put w _ |>.ws w).ph=some t:=h
    rw[ae]at h;exact⟨h,by rw[e];rfl⟩
   split at e0
   ·exfalso
    split at e0
    ·split at e0
     ·cases(nop e0).1
     ·cases(nop e0).1
    ·split at e0
     ·cases(nop e0).1
     ·cases(nop e0).1
   ·obtain⟨h1,h2⟩:=nop e0
    rw[h2];by_cases hdl:(t0.step w c.S s.m (decide (t0.st=.bM)&&s.next.1)).1.st=.bM
    ·have h1:=(ah8 hdl).symm.trans h1
     obtain⟨_,d,n,k1,k2,k3⟩:=aqd hdl;rw[<-Option.some.inj h1];exact⟨d,n,k1,k2,k3⟩
    ·have h1:wy (.work (.get (t0.step w c.S s.m (decide (t0.st=.bM)&&s.next.1)).1))=some t:=h1
     unfold wy at h1;dsimp only at h1;rw[if_neg hdl]at h1;cases h1
  |give g=>
   exfalso;rw[e0]at h;unfold ak at h;dsimp only at h;repeat' split at h
   all_goals (rw[ae]at h;cases h)
  |bg g=>
   exfalso;rw[e0]at h;unfold ak at h;dsimp only at h;repeat' split at h
   all_goals (rw[ae]at h;cases h)
  |stats g=>
   exfalso;rw[e0]at h;unfold ak at h;dsimp only at h;repeat' split at h
   all_goals (rw[ae]at h;cases h)
  |aS r=>
   exfalso;rw[e0]at h;unfold ak at h;dsimp only at h;repeat' split at h
   all_goals (rw[ae]at h;cases h)
  |close d=>
   cases d with
   |none=>
    exfalso;rw[e0]at h;have h:wy (((s.mem _).put w ((s.ws w).to (.work (.close (some Qu.drain))))).ws w).ph=some t:=h;rw[ae]at h;cases h
   |some q=>
    exfalso;rw[e0]at h;unfold ak at h;dsimp only at h;repeat' split at h
    all_goals (rw[ae]at h;cases h)
 |counts x=>
  exfalso;unfold ai at h;dsimp only at h;rw[hq]at h;dsimp only at h;repeat' split at h
  all_goals (rw[ae]at h;cases h)
 |enters q=>
  unfold ai at h;dsimp only at h;rw[hq]at h;dsimp only at h;repeat' split at h
  all_goals (rw[ae]at h;cases h)
 |wakes x=>
  unfold ai at h;dsimp only at h;rw[hq]at h;cases x with
  |none=>unfold dh at h;rw[ae]at h;cases h
  |some g=>
   unfold dh at h;dsimp only at h;split at h<;>(rw[ae]at h;cases h)
theorem ah7{t}(hp:(s.ws w).ph=.work (.get t)):(ai c s w).m=(t.step w c.S s.m (decide (t.st=.bM)&&s.next.1)).2:=by
 have e0:ai c s w=ak c w s (s.ws w) (.get t):=by grind [ai]
 unfold ak at e0;dsimp only at e0;rw[e0];repeat' split
 all_goals rfl
theorem aqe{p}{t}(h:wy p=some t):p=.work (.get t)/\t.st=.bM:=by
 unfold wy at h;grind
structure DlI(c:Cn)(s:Ms):Prop where
 a:∀i,i<c.S->(s.m.sl i).st=1->∃v t,v<c.W/\wy (s.ws v).ph=some t/\t.i=i
 b:∀v t,wy (s.ws v).ph=some t->s.m.sl t.i=t.wd/\t.wd.st=1/\t.wd.own=v
theorem aoh{t}(h:wy (s.ws w).ph=some t)(b:s.m.sl t.i=t.wd/\t.wd.st=1/\t.wd.own=w)(F:Facts (s.m.sl t.i))(hw:w<=15):∃d n,(d=1\/d=2)/\nz s.m (ai c s w).m t.i d w 0 n:=by
 obtain⟨hp,hst⟩:=aqe h;rw[ah7 hp];obtain⟨b1,b2,b3⟩:=b
 have n1:∃n,az t.wd 1 w 0=some n:=by
  unfold az;rw[if_pos ⟨kN.2 (by rw[<-b1];exact F),by omega,by omega⟩]
  exact⟨_,by show(yB t.wd w).map _=_;unfold yB;rw[if_pos ⟨b2,b3⟩];rfl⟩
 have n2:∃n,az t.wd 2 w 0=some n:=by
  unfold az;rw[if_pos ⟨kN.2 (by rw[<-b1];exact F),by omega,by omega⟩]
  exact⟨_,by show(Ce t.wd w).map _=_;unfold Ce;rw[if_pos ⟨b2,b3⟩];rfl⟩
 generalize (decide (t.st=.bM)&&s.next.1)=g;unfold Tk.step Tk.swap Tk.fin nz Mm.set;cases g<;>grind
theorem anv{x r}{d own more}(h:uT x d own more=some r):d=0\/d=1\/d=2\/d=3\/d=4\/d=5\/d=6\/d=7\/d=8\/d=9\/d=10\/d=11\/d=12\/d=13\/d=14\/d=15\/d=16\/d=17:=by
 grind [uT]
theorem an'{x n}{d own more}(h:az x d own more=some n)(h1:x.st=1)(hd:d≠13):(d=1\/d=2)/\x.own=own:=by
 obtain⟨r,hr,_⟩:=wG h;have q:=qf h;rcases anv hr with rfl|rfl|rfl|rfl|rfl|rfl|rfl|rfl|rfl|rfl|rfl|rfl|rfl|rfl|rfl|rfl|rfl|rfl<;>(grind)
theorem aoF{x n}{d own more}(h:az x d own more=some n)(h1:n.st=1)(hd:d≠13):d=0\/d=16:=by
 obtain⟨r,hr,_⟩:=wG h;have q:=qf h;rcases anv hr with rfl|rfl|rfl|rfl|rfl|rfl|rfl|rfl|rfl|rfl|rfl|rfl|rfl|rfl|rfl|rfl|rfl|rfl<;>(grind)
theorem amm(C:ql c s w)(i):(ai c s w).m.sl i=s.m.sl i\/∃d own more,az (s.m.sl i) d own more=some ((ai c s w).m.sl i)/\d≠13/\(d=1\/d=2->own=w)/\
  (d=0\/d=16->((ai c s w).m.sl i).st=1->∃t,wy ((ai c s w).ws w).ph=some t/\t.i=i):=by
 have key:∀{j:Nat} {d own more:Int} {n:aa},nz s.m (ai c s w).m j d own more n->(ai c s w).m.sl i=s.m.sl i\/(i=j/\az (s.m.sl i) d own more=some ((ai c s w).m.sl i)/\(ai c s w).m.sl i=n):=by
  intro j d own more n h;unfold nz at h;by_cases e:i=j
  ·subst e;right;rw[h.2,ky];exact⟨rfl,h.1,rfl⟩
  ·left;rw[h.2,il _ _ e]
 have rt:∀{r r':Rt},RtC s.m (ai c s w).m r r'->(ai c s w).m.sl i=s.m.sl i\/∃d own more,az (s.m.sl i) d own more=some ((ai c s w).m.sl i)/\(d=11\/d=17):=by
  intro r r' h;unfold RtC at h;rcases h with⟨n,hn,_⟩|⟨n,hn,_⟩
  ·rcases key hn with k|⟨_,k,_⟩
   ·exact .inl k
   ·exact .inr ⟨_,_,_,k,.inl rfl⟩
  ·rcases key hn with k|⟨_,k,_⟩
   ·exact .inl k
   ·exact .inr ⟨_,_,_,k,.inr rfl⟩
 unfold ql Chg at C;rcases C with C|C|C|C|C|C|C
 ·left;rw[C]
 ·obtain⟨j,d,own,more,n,hn,hd⟩:=C
  rcases key hn with k|⟨_,k,_⟩
  ·exact .inl k
  ·exact .inr ⟨d,own,more,k,by omega,λh=>by omega,λh=>by omega⟩
 ·obtain⟨j,n,t,hn,h1,h2,h3⟩:=C
  rcases key hn with k|⟨e,k,_⟩
  ·exact .inl k
  ·exact .inr ⟨_,_,_,k,by omega,λh=>by omega,λ_ _=>⟨t,h1,by rw[h2,e]⟩⟩
 ·obtain⟨j,d,n,t,hn,hd,_⟩:=C
  rcases key hn with k|⟨_,k,_⟩
  ·exact .inl k
  ·exact .inr ⟨_,_,_,k,by omega,λ_=>rfl,λh=>by omega⟩
 ·obtain⟨j,n,hn,_,h2⟩:=C
  rcases key hn with k|⟨e,k,k2⟩
  ·exact .inl k
  ·refine .inr ⟨_,_,_,k,by omega,fun h=>by omega,fun _ h=> ?_⟩
   obtain⟨t,t1,t2,_⟩:=h2 (by rw[<-k2];omega)
   exact⟨t,t1,by rw[t2,e]⟩
 ·obtain⟨t,p,a,_,h,_⟩:=C
  rcases h with⟨_,n,hn⟩|⟨_,d,n,hd,hn,_⟩|⟨_,d,n,hd,hn,_⟩|⟨_,h,_⟩
  ·rcases key hn with k|⟨_,k,_⟩
   ·exact .inl k
   ·exact .inr ⟨_,_,_,k,by omega,λh=>by omega,λh=>by omega⟩
  ·rcases key hn with k|⟨_,k,_⟩
   ·exact .inl k
   ·exact .inr ⟨_,_,_,k,by omega,λh=>by omega,λh=>by omega⟩
  ·rcases key hn with k|⟨_,k,_⟩
   ·exact .inl k
   ·exact .inr ⟨_,_,_,k,by omega,λh=>by omega,λh=>by omega⟩
  ·rcases rt h with k|⟨d,own,more,k,hd⟩
   ·exact .inl k
   ·exact .inr ⟨_,_,_,k,by omega,λh=>by omega,λh=>by omega⟩
 grind
theorem ane(I:DlI c s)(A:All c s)(hw:w<c.W)(hW:c.W<=15)(hc:aQ s w)(o:∀j,j≠w->(ai c s w).ws j=s.ws j):DlI c (ai c s w):=by
 have C:=ahF (A.inv.w w hw) (A.wd w hw);have nr:(s.ws w).ph≠.rest:=λh=>by grind [aQ]
 refine⟨λi hi h1=> ?_,λv t h=> ?_⟩
 ·rcases amm C i with k|⟨d,own,more,k,k1,k2,k3⟩
  ·rw[k]at h1
   obtain⟨v,t,hv,ht,hti⟩:=I.a i hi h1;by_cases e:v=w
   ·exfalso
    rw[e]at ht;have F:Facts (s.m.sl t.i):=A.inv.m.1 t.i (by rw[hti];exact hi)
    have hb:=I.b w t ht;obtain⟨d,n,hd,hn⟩:=aoh ht hb F (by omega)
    have q:=qf hn.1;have e2:(ai c s w).m.sl i=n:=by rw[hn.2, <-hti,ky]
    rw[<-k,e2]at h1;rcases hd with hd|hd
    ·omega
    ·omega
   ·exact⟨v,t,hv,by rw[o v e];exact ht,hti⟩
  grind [aoF]
 ·by_cases e:v=w
  ·rw[e]at h ⊢
   obtain⟨d,n,hd,hn,ht⟩:=apG h nr;have q:=qf hn.1;rw[hn.2,ky];refine⟨ht.symm,?_,?_⟩
   ·grind
   ·grind
  ·rw[o v e]at h
   obtain⟨b1,b2,b3⟩:=I.b v t h;rcases amm C t.i with k|⟨d,own,more,k,k1,k2,k3⟩
   ·rw[k];exact⟨b1,b2,b3⟩
   ·exfalso
    rw[b1]at k;obtain⟨q1,q2⟩:=an' k b2 k1;have q3:(v:Int)=(w:Int):=by rw[<-b3,q2,k2 q1]
    exact e (Int.ofNat.inj q3)
end
noncomputable section
open Classical
variable{c:Cn} {w:Nat} {s s':Ms} {m m':Mm} {i:Nat} {g:Bool}
def tX(x:aa):Prop:=x.st=4\/x.st=5
def adI(m m':Mm):Prop:=∀i,(tX (m'.sl i)↔tX (m.sl i))/\(tX (m.sl i)->(m'.sl i).own=(m.sl i).own)
theorem ma(h:m'.sl=m.sl):adI m m':=λi=>by grind
theorem an9{x n}{d own more}(h:az x d own more=some n)(h1:d=3\/d=9\/d=4\/d=10\/d=14\/d=15\/d=0\/d=1\/d=2\/d=11\/d=12\/d=17):¬tX x/\¬tX n:=by
 obtain⟨q0,q1,q2,q3,q4,q5,q6,q7,q8,q9,OZ,q11,q12,q14,q15,q16,q17⟩:=qf h;unfold tX;rcases h1 with rfl|rfl|rfl|rfl|rfl|rfl|rfl|rfl|rfl|rfl|rfl|rfl
 all_goals grind
theorem ahR{j}{d own more}{n}(h:nz m m' j d own more n)(h1:d=3\/d=9\/d=4\/d=10\/d=14\/d=15\/d=0\/d=1\/d=2\/d=11\/d=12\/d=17):adI m m':=by
 intro i;obtain⟨k1,k2⟩:=h;obtain⟨a,b⟩:=an9 k1 h1;by_cases e:i=j
 ·subst e
  rw[k2,ky];grind
 ·rw[k2,il _ _ e]
  grind
theorem akH{r r'}(h:RtC m m' r r'):adI m m':=by
 rcases h with⟨n,hn,_⟩|⟨n,hn,_⟩
 ·exact ahR hn (by omega)
 grind [ahR]
theorem amN(C:ql c s w)(h1:∀t p a,(s.ws w).ph≠.ax t p a)(h3:dE (s.ws w)=none):adI s.m (ai c s w).m:=by
 grind [ql,Chg,ma,ahR,akH]
def PQ(t:Td):Option Nat:=if t.st=.pop\/t.st=.grant\/t.st=.back\/t.st=.dR then some t.i else none
def mr:Ph->Option (Nat×Nat)
 | .ax t _ _=>if t.st=.pop\/t.st=.grant then some (t.i,t.head)else none
 |_=>none
def PH(t:Td):Option (Nat×Nat):=if t.st=.pop\/t.st=.grant then some (t.i,t.head)else none
inductive KpS(w:Nat)(m m':Mm)(a a' b b':Option Nat)(h h':Option (Nat×Nat)):Prop
 |same:adI m m'->m'.gr=m.gr->a'=a->b'=b->(∀x,h'=some x->h=some x)->KpS w m m' a a' b b' h h'
 |keep (i k:Nat) (n:aa):m'.sl=upd m.sl i n->¬tX (m.sl i)->tX n->n.own=k->m'.gr=m.gr->a=none->a'=some i->b'=b->h'=some (i,k)->KpS w m m' a a' b b' h h'
 |drop (i:Nat) (n:aa):m'.sl=upd m.sl i n->¬tX n->m'.gr=m.gr->a=some i->a'=none->b'=b->h'=none->KpS w m m' a a' b b' h h'
 |grant (i k:Nat):m'.sl=m.sl->m'.gr=upd m.gr k ((i:Int)+1)->a=some i->h=some (i,k)->a'=none->b'=b->h'=none->KpS w m m' a a' b b' h h'
 |tell (k:Nat):m'.sl=m.sl->m'.gr=upd m.gr k (-1)->a'=a->b'=b->h'=none->KpS w m m' a a' b b' h h'
 |used:m'.sl=m.sl->m'.gr=upd m.gr w 0->a'=a->b=none->b'=(if 0<m.gr w then some (m.gr w-1).toNat else none)->h'=none->KpS w m m' a a' b b' h h'
 |take (i:Nat) (n:aa):m'.sl=upd m.sl i n->¬tX n->m'.gr=m.gr->a'=a->b=some i->b'=none->h'=none->KpS w m m' a a' b b' h h'
theorem ap3{t}(K:t.st=.back->tX (m.sl t.i)):KpS w m (t.step c w m).2 (PQ t) (PQ (t.step c w m).1) none none (PH t) (PH (t.step c w m).1):=by
 have q:=al9 (c:=c) (w:=w) (m:=m) (t:=t);have qr:= @Ps m t.rt;have ag8:=λd own m' h=> @ac3 m m' t d own h
 obtain⟨qr1,qr2,qr3,qr4⟩:=qr;obtain⟨st,ep,cl,qu,look,j,wd,other,head,rt⟩:=t;have sk:∀t:Td,(t.fu c.S m).st=t.st:=λt=>eQ.1
 have sw:=λd own m' h=> @agt m m' ⟨st,ep,cl,qu,look,j,wd,other,head,rt⟩ d own h
 cases st with
 |keep=>
  unfold Td.step PQ PH;dsimp only;cases h:(⟨.keep,ep,cl,qu,look,j,wd,other,head,rt⟩:Td).swap m (if wd.st=2 then 5 else 7) head with
  |none=>exact .same (ma rfl) rfl rfl rfl (λx hx=>by cases hx)
  |some m'=>
   obtain⟨n,h1,h2⟩:=sw _ _ _ h;have q:=qf h1;have hd:(if wd.st=2 then(5:Int)else 7)=5\/(if wd.st=2 then(5:Int)else 7)=7:=by split<;>simp
   have h1:az (m.sl j) (if wd.st=2 then 5 else 7) head 0=some n:=h1
   have q:=qf h1;generalize (if wd.st=2 then(5:Int)else 7)=d at*
   have kk:¬tX (m.sl j)/\tX n/\n.own=(head:Int):=by
    unfold tX;rcases hd with hd|hd
    ·have:=q.2.2.2.2.2.1 hd;omega
    ·have:=q.2.2.2.2.2.2.2.1 hd;omega
   refine .keep j head n h2 kk.1 kk.2.1 kk.2.2 (ag8 _ _ _ h).gr rfl rfl rfl rfl
 |dR=>
  unfold Td.step PQ PH;dsimp only;cases h:(⟨.dR,ep,cl,qu,look,j,wd,other,head,rt⟩:Td).swap m (if wd.st=4 then 6 else 8) w with
  |none=>exact .same (ma rfl) rfl rfl rfl (λx hx=>by cases hx)
  |some m'=>
   obtain⟨n,h1,h2⟩:=sw _ _ _ h;have h1:az (m.sl j) (if wd.st=4 then 6 else 8) w 0=some n:=h1
   have q:=qf h1;have hd:(if wd.st=4 then(6:Int)else 8)=6\/(if wd.st=4 then(6:Int)else 8)=8:=by split<;>simp
   generalize (if wd.st=4 then(6:Int)else 8)=d at*
   have kk:¬tX n:=by
    unfold tX;rcases hd with hd|hd
    ·have:=q.2.2.2.2.2.2.1 hd;omega
    ·have:=q.2.2.2.2.2.2.2.2.1 hd;omega
   exact .drop j n h2 kk (ag8 _ _ _ h).gr rfl rfl rfl rfl
 |pop=>
  unfold Td.step PQ PH;dsimp only;split
  ·exact .same (ma rfl) rfl rfl rfl (λx hx=>hx)
  ·exact .same (ma rfl) rfl rfl rfl (λx hx=>by cases hx)
 |grant=>exact .grant j head rfl rfl rfl rfl rfl rfl rfl
 |back=>
  have K:(m.sl j).st=4\/(m.sl j).st=5:=K rfl;unfold Td.step PQ PH;dsimp only;simp only[if_pos K];exact .same (ma rfl) rfl rfl rfl (λx hx=>by cases hx)
 |go=>
  have qk:adI m (rt.step m).2:=by
   rcases @agV m rt with q|q
   ·exact ma q
   ·exact akH q
  unfold Td.step PQ PH;dsimp only;split
  ·exact .same qk qr3 rfl rfl (λx hx=>by cases hx)
  ·exact .same qk qr3 rfl rfl (λx hx=>by cases hx)
 |clear=>
  unfold Td.step PQ PH;dsimp only;cases h:(⟨.clear,ep,cl,qu,look,j,wd,other,head,rt⟩:Td).swap m 12 w with
  |none=>exact .same (ma rfl) rfl rfl rfl (λx hx=>by cases hx)
  |some m'=>
   obtain⟨n,hn⟩:=sw _ _ _ h;exact .same (ahR hn (by omega)) (ag8 _ _ _ h).gr rfl rfl (λx hx=>by cases hx)
 |_=>exact .same (ma (by unfold Td.step Mm.pin;grind)) (by unfold Td.step Mm.pin;grind) (by unfold Td.step PQ;grind) rfl (by unfold Td.step PH;grind)
def KpG(c:Cn)(s:Ms)(w:Nat):Prop:=KpS w s.m (ai c s w).m (lN (s.ws w).ph) (lN ((ai c s w).ws w).ph) (dE (s.ws w)) (dE ((ai c s w).ws w)) (mr (s.ws w).ph) (mr ((ai c s w).ws w).ph)
theorem amg{p}(h:∀t q a,p=.ax t q a->t=Td.new):lN p=none/\mr p=none:=by
 cases p with
 |ax t q a=>rw[h t q a rfl];exact⟨rfl,rfl⟩
 |_=>exact⟨rfl,rfl⟩
theorem aoj(h1:∀t p a,(s.ws w).ph≠.ax t p a):lN ((ai c s w).ws w).ph=none/\mr ((ai c s w).ws w).ph=none:=
 amg λt q a h=>by
  rcases ahz t q a h with k|⟨t0,k,_⟩
  all_goals grind
theorem aoi{p}(h1:∀t q a,p≠.ax t q a):lN p=none/\mr p=none:=amg λt q a h=>absurd h (h1 t q a)
theorem akl(C:ql c s w)(h1:∀t p a,(s.ws w).ph≠.ax t p a)(h3:dE (s.ws w)=none)(h4:dE ((ai c s w).ws w)=none)(hg:(ai c s w).m.gr=s.m.gr):KpG c s w:=by
 obtain⟨a,b⟩:=aoj h1;obtain⟨a',b'⟩:=aoi h1;unfold KpG;rw[a,b,a',b',h3,h4];exact .same (amN C h1 h3) hg rfl rfl (λx hx=>hx)
theorem akO{x:Wr}{p}(h:∀t,p=.work (.get t)->t.st≠.grant/\t.st≠.eG)(h2:∀q,p≠.pin q):dE (x.to p)=none:=by
 grind [dE,Wr.to]
theorem apY{t:Tk}(h:t.st≠.grant/\t.st≠.eG):(t.step w c.S m g).1.st≠.grant/\(t.step w c.S m g).1.st≠.eG:=by
 grind [Tk.step,Tk.fin,Tk.search]
theorem aoL{t}(hp:(s.ws w).ph=.work (.get t))(C:ql c s w)(ht:t.st≠.grant/\t.st≠.eG):KpG c s w:=by
 refine akl C (λt p a=>by grind) ?_ ?_ ?_
 ·grind [dE]
 ·have e0:ai c s w=ak c w s (s.ws w) (.get t):=by unfold ai;dsimp only;rw[hp]
  rw[e0];unfold ak;dsimp only;have k:=apY (w:=w) (c:=c) (m:=s.m) (g:=decide (t.st=.bM)&&s.next.1) ht;repeat' split
  all_goals (rw[ae];first|rfl|exact akO (λt h=>by cases h;first|exact k|exact k2) (λq h=>by cases h))
 ·rw[ah7 hp];exact ahI.gr
theorem amc{t}{p}{a}(hp:(s.ws w).ph=.ax t p a)(K:t.st=.back->tX (s.m.sl t.i)):KpG c s w:=by
 have k:=ap3 (c:=c) (w:=w) K;have h3:dE (s.ws w)=none:=by unfold dE;rw[hp]
 have e1:lN (s.ws w).ph=PQ t:=by rw[hp];rfl
 have e2:mr (s.ws w).ph=PH t:=by rw[hp];rfl
 unfold KpG;rw[h3,e1,e2];cases h:t.step c w s.m with
 |mk t' m'=>
  rw[h]at k;have e:=ui hp h;by_cases hd:t'.st=.done
  ·have x1:PQ t'=none:=by unfold PQ;rw[hd];rfl
   have x2:PH t'=none:=by unfold PH;rw[hd];rfl
   rw[if_pos hd]at e
   have:(ai c s w).m=m'/\lN ((ai c s w).ws w).ph=none/\dE ((ai c s w).ws w)=none/\mr ((ai c s w).ws w).ph=none:=by
    rw[e];cases p with
    |some b=>
     show m'=m'/\lN (((s.mem m').put w ((s.ws w).to (.parked b))).ws w).ph=none/\dE (((s.mem m').put w ((s.ws w).to (.parked b))).ws w)=none/\mr (((s.mem m').put w ((s.ws w).to (.parked b))).ws w).ph=none;rw[ae];exact⟨rfl,rfl,rfl,rfl⟩
    |none=>
     show m'=m'/\lN (((s.mem m').put w ((s.ws w).to .rest)).ws w).ph=none/\dE (((s.mem m').put w ((s.ws w).to .rest)).ws w)=none/\mr (((s.mem m').put w ((s.ws w).to .rest)).ws w).ph=none;rw[ae];exact⟨rfl,rfl,rfl,rfl⟩
   grind
  ·rw[if_neg hd]at e
   rw[e,ae];exact k
end
noncomputable section
open Classical
variable{c:Cn} {w:Nat} {s s':Ms} {m m':Mm} {i:Nat} {g:Bool}
def GsW(w:Nat):Ph->Prop
 | .work (.get t)=>t.st=.eG->tX t.wd/\t.wd.own=w/\Facts t.wd
 |_=>True
theorem xn{x'}(e:ai c s w=(s.mem m').put w x')(h:KpS w s.m m' (lN (s.ws w).ph) (lN x'.ph) (dE (s.ws w)) (dE x') (mr (s.ws w).ph) (mr x'.ph)):KpG c s w:=by
 unfold KpG;rw[e,ae];exact h
theorem aj1{t}(hp:(s.ws w).ph=.work (.get t))(hd:t.st≠.bM)(h:(t.step w c.S s.m false).1.st≠.done):ai c s w=(s.mem (t.step w c.S s.m false).2).put w ((s.ws w).to (.work (.get (t.step w c.S s.m false).1))):=by
 grind [ai,ak]
theorem ahd{x}(k:tX x)(ho:x.own=w)(F:Facts x)(hw:w<=15):∃n,az x 16 w 0=some n:=by
 unfold az;rw[if_pos ⟨kN.2 F,by omega,by omega⟩]
 rcases k with k|k
 ·exact⟨_,by show(sZ x w).map _=_;unfold sZ;rw[if_pos ⟨k,ho⟩];rfl⟩
 ·exact⟨_,by show(sZ x w).map _=_;unfold sZ;rw[if_neg (by omega),if_pos ⟨k,ho⟩];rfl⟩
theorem amO{t}(hp:(s.ws w).ph=.work (.get t))(ht:t.st=.grant\/t.st=.eG)(G:GsW w (.work (.get t)))(hw:w<=15):KpG c s w:=by
 obtain⟨st,look,j,wd,gen,ps,rt,e⟩:=t;have h3:dE (s.ws w)=some j:=by grind [dE]
 have h1:lN (s.ws w).ph=none:=by rw[hp];rfl
 have hh:mr (s.ws w).ph=none:=by rw[hp];rfl
 rcases ht with ht|ht
 ·subst ht
  have e:=aj1 (c:=c) hp gm.noConfusion (by intro h;cases h)
  refine xn e ?_;rw[h1,h3,hh];exact .same (ma rfl) rfl rfl rfl (λx hx=>by cases hx)
 ·subst ht
  obtain⟨g1,g2,g3⟩:=G rfl;obtain⟨n,hn⟩:=ahd g1 g2 g3 hw;by_cases he:s.m.sl j=wd
  ·have es:Tk.step w c.S s.m false ⟨.eG,look,j,wd,gen,ps,rt,e⟩=(⟨if n.st=3 then .check else .bM,look,j,n,n.gen,ps,rt,e⟩,s.m.set j n):=by
    unfold Tk.step;rw[hn];dsimp only;rw[if_pos he]
   have e:=aj1 hp gm.noConfusion (by rw[es];split<;>exact gm.noConfusion)
   rw[es]at e;refine xn e ?_;rw[h1,h3,hh];have q:=(qf hn).2.2.2.2.2.2.2.2.2.2.2.2.2.2.2.1 rfl;refine .take j n rfl (by unfold tX;omega) rfl rfl rfl ?_ rfl
   exact akO (λt h=>by cases h;split<;>exact⟨gm.noConfusion,gm.noConfusion⟩) (λq h=>by cases h)
  ·have es:Tk.step w c.S s.m false ⟨.eG,look,j,wd,gen,ps,rt,e⟩=(⟨.grant,look,j,wd,gen,ps,rt,e⟩,s.m):=by
    unfold Tk.step;rw[hn];dsimp only;rw[if_neg he]
   have e:=aj1 hp gm.noConfusion (by rw[es];exact gm.noConfusion)
   rw[es]at e;refine xn e ?_;rw[h1,h3,hh];exact .same (ma rfl) rfl rfl rfl (λx hx=>by cases hx)
theorem ama{x}{h}(hp:x.ph=.pin h):dE (x.to (.work (bE x)))=dE x:=by
 have e:dE x=if 0<x.grant/\x.ask.op=0 then some (x.grant-1).toNat else none:=by unfold dE;rw[hp]
 rw[e];by_cases h0:x.ask.op=0
 ·have es:bE x=.get (if x.grant>0 then Tk.granted (x.grant-1).toNat else Tk.new):=by unfold bE;rw[h0];rfl
  rw[es];by_cases hg:x.grant>0
  ·rw[if_pos hg,if_pos ⟨hg,h0⟩];rfl
  ·rw[if_neg hg,if_neg (λq=>hg q.1)];rfl
 ·rw[if_neg (fun q=>h0 q.2)]
  unfold bE;split
  ·grind
  all_goals rfl
theorem aob(X:jO c w (s.ws w))(W:nW c s.m w (s.ws w))(hw:w<=15)(G:GsW w (s.ws w).ph)(K:∀t p a,(s.ws w).ph=.ax t p a->t.st=.back->tX (s.m.sl t.i))(hk:∀g,(s.ws w).ph=.wakes (some g)->g=s.m.gr w)(hk0:∀g,(s.ws w).ph=.wakes g->s.m.gr w≠0):KpG c s w:=by
 have C:=ahF X W;unfold jO at X;unfold nW at W;have plain:(∀t p a,(s.ws w).ph≠.ax t p a)->dE (s.ws w)=none->dE ((ai c s w).ws w)=none->(ai c s w).m.gr=s.m.gr->KpG c s w:=λh1 h3 h4 hg=>akl C h1 h3 h4 hg
 cases hp:(s.ws w).ph with
 |rest=>
  have e:ai c s w=s:=by unfold ai;dsimp only;rw[hp]
  unfold KpG;rw[e];exact .same (ma rfl) rfl rfl rfl (λx hx=>hx)
 |pin h=>
  have h1:lN (s.ws w).ph=none:=by rw[hp];rfl
  have hh:mr (s.ws w).ph=none:=by rw[hp];rfl
  cases h with
  |none=>
   have e:ai c s w=(s.mem s.m).put w ((s.ws w).to (.pin (some s.m.ep))):=by unfold ai;dsimp only;rw[hp];rfl
   refine xn e ?_;rw[h1,hh];refine .same (ma rfl) rfl rfl ?_ (λx hx=>by cases hx)
   unfold dE;rw[hp];rfl
  |some e1=>
   have e:ai c s w=(s.mem (s.m.pin w (aR (e1+1)))).put w ((s.ws w).to (.work (bE (s.ws w)))):=by unfold ai;dsimp only;rw[hp]
   refine xn e ?_;rw[h1,hh];exact .same (ma rfl) rfl rfl (ama hp) (λx hx=>by cases hx)
 |work k=>
  rw[hp]at G X;cases k with
  |get t=>
   by_cases ht:t.st=.grant\/t.st=.eG
   ·exact amO hp ht G hw
   ·exact aoL hp C ⟨λh=>ht (.inl h),λh=>ht (.inr h)⟩
  |close d=>
   cases d with
   |none=>
    have e0:ai c s w=ak c w s (s.ws w) (.close none):=by unfold ai;dsimp only;rw[hp]
    refine plain (λt p a=>by rw[hp];exact Ph.noConfusion) (by unfold dE;rw[hp]) ?_ ?_
    ·rw[e0]
     show dE (((s.mem _).put w ((s.ws w).to (.work (.close (some Qu.drain))))).ws w)=none;rw[ae];rfl
    ·rw[e0]
     show(if(s.ws w).ask.force then{s.m with cl:=2}else if s.m.cl=0 then{s.m with cl:=1}else s.m:Mm).gr=_
     repeat' split
     all_goals rfl
   |some q=>
    cases h:q.step c w s.m with
    |mk q' m'=>
     have e:=QR hp h
     have kq:m'.sl=s.m.sl/\(m'.gr=s.m.gr\/m'.gr=upd s.m.gr q.first (-1)):=by
      have:m'=(q.step c w s.m).2:=by rw[h]
      rw[this];unfold Qu.step Mm.nT;constructor<;>grind
     have h1:lN (s.ws w).ph=none:=by rw[hp];rfl
     have h3:dE (s.ws w)=none:=by unfold dE;rw[hp]
     have hh:mr (s.ws w).ph=none:=by rw[hp];rfl
     have fin:∀{x':Wr},lN x'.ph=none->dE x'=none->mr x'.ph=none->KpS w s.m m' (lN (s.ws w).ph) (lN x'.ph) (dE (s.ws w)) (dE x') (mr (s.ws w).ph) (mr x'.ph):=λa1 a2 a3=>by
      rw[h1,h3,hh,a1,a2,a3];rcases kq.2 with k|k
      ·exact .same (ma kq.1) k rfl rfl (λx hx=>hx)
      ·exact .tell _ kq.1 k rfl rfl rfl
     by_cases hd:q'.st=.done
     ·rw[if_pos hd]at e
      exact xn e (fin rfl rfl rfl)
     ·rw[if_neg hd]at e
      exact xn e (fin rfl rfl rfl)
  |give g=>
   have e0:ai c s w=ak c w s (s.ws w) (.give g):=by unfold ai;dsimp only;rw[hp]
   refine plain (λt p a=>by rw[hp];exact Ph.noConfusion) (by unfold dE;rw[hp]) ?_ ?_
   ·rw[e0];unfold ak;dsimp only
    repeat' split
    all_goals (rw[ae];rfl)
   ·rw[e0];unfold ak;dsimp only
    have k:=(akd (c:=c) (w:=w) (m:=s.m) (g:=g)).gr;repeat' split
    all_goals exact k
  |bg g=>
   have e0:ai c s w=ak c w s (s.ws w) (.bg g):=by unfold ai;dsimp only;rw[hp]
   refine plain (λt p a=>by rw[hp];exact Ph.noConfusion) (by unfold dE;rw[hp]) ?_ ?_
   ·rw[e0];unfold ak;dsimp only
    repeat' split
    all_goals (rw[ae];rfl)
   ·rw[e0];unfold ak;dsimp only
    have k:=(akb (c:=c) (w:=w) (m:=s.m) (g:=g)).gr;repeat' split
    all_goals exact k
  |stats g=>
   have e0:ai c s w=ak c w s (s.ws w) (.stats g):=by unfold ai;dsimp only;rw[hp]
   refine plain (λt p a=>by rw[hp];exact Ph.noConfusion) (by unfold dE;rw[hp]) ?_ ?_
   ·rw[e0];unfold ak;dsimp only
    repeat' split
    all_goals (rw[ae];rfl)
   ·rw[e0];unfold ak;dsimp only
    repeat' split
    all_goals rfl
  |aS r=>
   have e0:ai c s w=ak c w s (s.ws w) (.aS r):=by unfold ai;dsimp only;rw[hp]
   refine plain (λt p a=>by rw[hp];exact Ph.noConfusion) (by unfold dE;rw[hp]) ?_ ?_
   ·rw[e0];unfold ak;dsimp only
    repeat' split
    all_goals (rw[ae];rfl)
   ·rw[e0];unfold ak;dsimp only
    have k:=(Ps (m:=s.m) (r:=r.rt)).gr;repeat' split
    all_goals first|rfl|exact k
 |counts t=>
  refine plain (λt p a=>by rw[hp];exact Ph.noConfusion) (by unfold dE;rw[hp]) ?_ ?_
  ·unfold ai;dsimp only;rw[hp];dsimp only
   repeat' split
   all_goals (rw[ae];rfl)
  ·unfold ai;dsimp only;rw[hp];dsimp only
   repeat' split
   all_goals rfl
 |enters q=>
  refine plain (λt p a=>by rw[hp];exact Ph.noConfusion) (by unfold dE;rw[hp]) ?_ ?_
  ·unfold ai;dsimp only;rw[hp];dsimp only
   repeat' split
   all_goals (rw[ae];rfl)
  ·have T:Dt w q:=by rw[hp]at X;exact X
   have k:(q.step c w s.m).2.gr=s.m.gr:=by
    unfold Dt at T;unfold Qu.step;grind
   unfold ai;dsimp only;rw[hp];dsimp only;repeat' split
   all_goals exact k
 |ax t p a=>exact amc hp (K t p a hp)
 |parked b=>
  by_cases hg:s.m.gr w≠0
  ·have e:ai c s w=(s.mem s.m).put w ((s.ws w).to (.wakes (some (s.m.gr w)))):=by unfold ai;dsimp only;rw[hp];dsimp only;rw[if_pos hg];rfl
   refine xn e ?_;rw[hp];exact .same (ma rfl) rfl rfl (by unfold dE;rw[hp];rfl) (λx hx=>by cases hx)
  ·have e:ai c s w=aV c w s (s.ws w) Qu.leave:=by unfold ai;dsimp only;rw[hp];dsimp only;rw[if_neg hg]
   refine plain (λt p a=>by rw[hp];exact Ph.noConfusion) (by unfold dE;rw[hp]) ?_ ?_
   ·rw[e];unfold aV;dsimp only
    repeat' split
    all_goals (rw[ae];rfl)
   ·rw[e]
    unfold aV Ms.put Ms.mem Qu.step Qu.leave;grind
 |wakes h=>
  have h1:lN (s.ws w).ph=none:=by rw[hp];rfl
  have h3:dE (s.ws w)=none:=by unfold dE;rw[hp]
  have hh:mr (s.ws w).ph=none:=by rw[hp];rfl
  rw[hp]at W;have W:(s.ws w).ask.op=0:=W;cases h with
  |none=>
   have e:ai c s w=(s.mem s.m).put w ((s.ws w).to (.wakes (some (s.m.gr w)))):=by unfold ai;dsimp only;rw[hp];rfl
   refine xn e ?_;rw[h1,h3,hh];exact .same (ma rfl) rfl rfl rfl (λx hx=>by cases hx)
  |some g=>
   have hge:=hk g hp;by_cases hg:g<0
   ·have e:ai c s w=(s.mem (s.m.nT w 0)).put w ((s.ws w).end_ (.err 5)):=by unfold ai;dsimp only;rw[hp];unfold dh;dsimp only;rw[if_pos hg]
    refine xn e ?_;rw[h1,h3,hh];exact .used rfl rfl rfl rfl (by rw[if_neg (by omega)];rfl) rfl
   ·have e:ai c s w=(s.mem (s.m.nT w 0)).put w {s.ws w with grant:=g,ph:=.pin none}:=by unfold ai;dsimp only;rw[hp];unfold dh;dsimp only;rw[if_neg hg]
    have hg0:=hk0 _ hp;refine xn e ?_;rw[h1,h3,hh];refine .used rfl rfl rfl rfl ?_ rfl;show(if 0<g/\(s.ws w).ask.op=0 then some (g-1).toNat else none)=_
    rw[if_pos ⟨by omega,W⟩,if_pos (by omega),hge]
 |leaves q=>
  rw[hp]at X;have X:Dr w q:=X;have e:ai c s w=aV c w s (s.ws w) q:=by unfold ai;dsimp only;rw[hp]
  refine plain (λt p a=>by rw[hp];exact Ph.noConfusion) (by unfold dE;rw[hp]) ?_ ?_
  ·rw[e];unfold aV;dsimp only
   repeat' split
   all_goals (rw[ae];rfl)
  ·rw[e]
   unfold Dr at X;unfold aV Ms.put Ms.mem Qu.step;grind
end
noncomputable section
open Classical
variable{c:Cn} {w:Nat} {s s':Ms} {m m':Mm} {i:Nat} {g:Bool}
inductive Clo where
 |no|td (v:Nat)|gr (h:Nat)|wk (v:Nat)
def qw(m:Mm)(h i:Nat):Prop:=m.gr h=(i:Int)+1
structure KpI(s:Ms)(C:Nat->Clo):Prop where
 st:∀i,tX (s.m.sl i)↔C i≠.no
 td:∀v i,lN (s.ws v).ph=some i↔C i=.td v
 gr:∀h i:Nat,qw s.m h i↔C i=.gr h
 wk:∀v i,dE (s.ws v)=some i↔C i=.wk v
 o1:∀h i,C i=.gr h->(s.m.sl i).own=h
 o2:∀v i,C i=.wk v->(s.m.sl i).own=v
 o3:∀v i h,mr (s.ws v).ph=some (i,h)->(s.m.sl i).own=h
theorem amh{p}{i h}(e:mr p=some (i,h)):lN p=some i:=by
 unfold mr at e;grind [lN]
theorem apw{L}{a a'}{k}(I:ahG s L)(ha:a=xc (s.ws w).ph)(T:QP w s.m m' a a')(h:m'.gr k≠s.m.gr k):s.m.gr k=0\/(k=w/\m'.gr k=0):=by
 have I1:=I.g;have I2:=I.t;have I3:=I.gr;refine Classical.byContradiction λq=> ?_
 have q1:=λe=>q (.inl e)
 have q2:=(I3 k).1 q1;cases T with
 |same h1 h2 h3=>grind
 |push h1 h2 h3 h4=>grind
 |drop h1 h2 h3 h4 h5=>grind
 |amH x r b h1 h2 h3 h4 h5=>grind
 |amG x r h1 h2 h3 h4 h5=>grind
 |grant x v b h1 h2 h3 h4 h5=>
  by_cases e:k=x
  ·grind
  ·exact h (by rw[h2,il _ _ e])
 |tell x h1 h2 h3 h4=>
  by_cases e:k=x
  ·have:=(I2 w x).1 (by rw[<-ha,h3])
   rw[e,this]at q2;cases q2
  ·exact h (by rw[h2,il _ _ e])
 |used h1 h2 h3 h4 h5=>
  by_cases e:k=w
  ·exact q (.inr ⟨e,by rw[h3,e,ky]⟩)
  ·exact h (by rw[h3,il _ _ e])
theorem amP{C}{L}(I:KpI s C)(T:ahG s L)(o:∀j,j≠w->s'.ws j=s.ws j)(S:QP w s.m s'.m (xc (s.ws w).ph) (xc (s'.ws w).ph))(K:KpS w s.m s'.m (lN (s.ws w).ph) (lN (s'.ws w).ph) (dE (s.ws w)) (dE (s'.ws w)) (mr (s.ws w).ph) (mr (s'.ws w).ph)):∃C',KpI s' C':=by
 have o1:∀v,v≠w->lN (s'.ws v).ph=lN (s.ws v).ph:=λv hv=>by rw[o v hv]
 have o2:∀v,v≠w->dE (s'.ws v)=dE (s.ws v):=λv hv=>by rw[o v hv]
 have o3:∀v,v≠w->mr (s'.ws v).ph=mr (s.ws v).ph:=λv hv=>by rw[o v hv]
 have gz:∀k,s'.m.gr k≠s.m.gr k->s.m.gr k=0\/(k=w/\s'.m.gr k=0):=λk h=>apw T rfl S h
 have hc:∀v i h,mr (s.ws v).ph=some (i,h)->lN (s.ws v).ph=some i:=λv i h e=>amh e
 obtain⟨I1,I2,I3,I4,I5,I6,I7⟩:=I;cases K with
 |same h1 h2 h3 h4 h5=>
  have eg:∀h i,qw s'.m h i↔qw s.m h i:=λh i=>by unfold qw;rw[h2]
  unfold adI at h1;refine⟨C,⟨λi=> ?_,λv i=> ?_,λh i=> ?_,λv i=> ?_,λh i=> ?_,λv i=> ?_,λv i h=> ?_⟩⟩<;>grind
 |keep i k n h1 h2 h3 h4 h5 h6 h7 h8 h9=>
  have eg:∀h i,qw s'.m h i↔qw s.m h i:=λh i=>by unfold qw;rw[h5]
  refine⟨upd C i (.td w),⟨λi=> ?_,λv i=> ?_,λh i=> ?_,λv i=> ?_,λh i=> ?_,λv i=> ?_,λv i h=> ?_⟩⟩<;>(unfold upd at *;grind)
 |drop i n h1 h2 h3 h4 h5 h6 h7=>
  have eg:∀h i,qw s'.m h i↔qw s.m h i:=λh i=>by unfold qw;rw[h3]
  refine⟨upd C i .no,⟨λi=> ?_,λv i=> ?_,λh i=> ?_,λv i=> ?_,λh i=> ?_,λv i=> ?_,λv i h=> ?_⟩⟩<;>(unfold upd at *;grind)
 |grant i k h1 h2 h3 h4 h5 h6 h7=>
  have hC:=(I2 w i).1 h3
  have g0:s.m.gr k=0:=by
   rcases gz k (by rw[h2,ky];intro e;have:=(I3 k i).1 e.symm;rw[hC]at this;cases this)with q|⟨_,q⟩
   ·exact q
   ·rw[h2,ky]at q;omega
  have g1:∀j,¬qw s.m k j:=λj e=>by unfold qw at e;omega
  have eg:∀h j,qw s'.m h j↔(h=k/\j=i)\/(h≠k/\qw s.m h j):=λh j=>by
   unfold qw;rw[h2];by_cases e:h=k
   ·subst e;rw[ky];constructor
    ·intro q;exact .inl ⟨rfl,by omega⟩
    ·intro q;rcases q with q|q
     ·omega
     ·exact absurd rfl q.1
   ·rw[il _ _ e];constructor
    ·intro q;exact .inr ⟨e,q⟩
    ·intro q;rcases q with q|q
     ·exact absurd q.1 e
     ·exact q.2
  clear h2;refine⟨upd C i (.gr k),⟨λi=> ?_,λv i=> ?_,λh i=> ?_,λv i=> ?_,λh i=> ?_,λv i=> ?_,λv i h=> ?_⟩⟩<;>(unfold upd at *;grind)
 |tell k h1 h2 h3 h4 h5=>
  have g0:∀j:Nat,s.m.gr k≠(j:Int)+1:=λj e=>by
   rcases gz k (by rw[h2,ky,e];omega)with q|⟨_,q⟩
   ·omega
   ·rw[h2,ky]at q;omega
  have g1:∀j,¬qw s.m k j:=λj e=>g0 j e
  have eg:∀h j,qw s'.m h j↔h≠k/\qw s.m h j:=λh j=>by
   unfold qw;rw[h2];by_cases e:h=k
   ·subst e;rw[ky];constructor
    ·intro q;omega
    ·intro q;exact absurd rfl q.1
   ·rw[il _ _ e];exact⟨λq=>⟨e,q⟩,λq=>q.2⟩
  clear h2 g0;refine⟨C,⟨λi=> ?_,λv i=> ?_,λh i=> ?_,λv i=> ?_,λh i=> ?_,λv i=> ?_,λv i h=> ?_⟩⟩<;>(unfold upd at *;grind)
 |used h1 h2 h3 h4 h5 h6=>
  have eg:∀h j,qw s'.m h j↔h≠w/\qw s.m h j:=λh j=>by
   unfold qw;rw[h2];by_cases e:h=w
   ·subst e;rw[ky];constructor
    ·intro q;omega
    ·intro q;exact absurd rfl q.1
   ·rw[il _ _ e];exact⟨λq=>⟨e,q⟩,λq=>q.2⟩
  clear h2;by_cases hg:0<s.m.gr w
  ·obtain⟨j,hj⟩:∃j:Nat,s.m.gr w=(j:Int)+1:=⟨(s.m.gr w-1).toNat,by omega⟩
   have e5:(s.m.gr w-1).toNat=j:=by omega
   rw[if_pos hg,e5]at h5;have hC:=(I3 w j).1 hj;have u:∀i,qw s.m w i->i=j:=λi e=>by unfold qw at e;omega
   clear hj e5 hg;refine⟨upd C j (.wk w),⟨λi=> ?_,λv i=> ?_,λh i=> ?_,λv i=> ?_,λh i=> ?_,λv i=> ?_,λv i h=> ?_⟩⟩<;>(unfold upd at *;grind)
  ·rw[if_neg hg]at h5
   have hn:∀j,¬qw s.m w j:=λj e=>by unfold qw at e;omega
   clear hg;refine⟨C,⟨λi=> ?_,λv i=> ?_,λh i=> ?_,λv i=> ?_,λh i=> ?_,λv i=> ?_,λv i h=> ?_⟩⟩<;>(unfold upd at *;grind)
 |take i n h1 h2 h3 h4 h5 h6 h7=>
  have eg:∀h i,qw s'.m h i↔qw s.m h i:=λh i=>by unfold qw;rw[h3]
  have hC:=(I4 w i).1 h5;refine⟨upd C i .no,⟨λi=> ?_,λv i=> ?_,λh i=> ?_,λv i=> ?_,λh i=> ?_,λv i=> ?_,λv i h=> ?_⟩⟩<;>(unfold upd at *;grind)
structure CmI(c:Cn)(s:Ms):Prop where
 cl:∃C,KpI s C
 gs:∀v,GsW v (s.ws v).ph
theorem aqb{t:Tk}(h:(t.step w c.S m g).1.st=.eG):t.st=.grant/\(t.step w c.S m g).1.wd=m.sl t.i/\(t.step w c.S m g).1.i=t.i/\(t.step w c.S m g).2=m:=by
 grind [Tk.step,Tk.fin,Tk.search]
end
noncomputable section
open Classical
variable{c:Cn} {w:Nat} {s s':Ms} {m m':Mm} {i:Nat} {g:Bool}
theorem am'{t'}(h:((ai c s w).ws w).ph=.work (.get t'))(hs:t'.st=.eG)(nr:(s.ws w).ph≠.rest):∃t,(s.ws w).ph=.work (.get t)/\t'=(t.step w c.S s.m (decide (t.st=.bM)&&s.next.1)).1:=by
 cases hq:(s.ws w).ph with
 |rest=>exact absurd hq nr
 |ax t0 p0 a0=>
  exfalso;cases hst:t0.step c w s.m with
  |mk t1 m'=>
   have e:=ui hq hst;by_cases hd:t1.st=.done
   ·rw[if_pos hd]at e
    rw[e]at h;cases p0 with
    |none=>
     have h:(((s.mem m').put w ((s.ws w).to .rest)).ws w).ph=.work (.get t'):=h;rw[ae]at h;cases h
    |some b=>
     have h:(((s.mem m').put w ((s.ws w).to (.parked b))).ws w).ph=.work (.get t'):=h;rw[ae]at h;cases h
   ·rw[if_neg hd]at e
    rw[e,ae]at h;cases h
 |parked b=>
  exfalso;by_cases hg:s.m.gr w≠0
  ·have e:ai c s w=(s.mem s.m).put w ((s.ws w).to (.wakes (some (s.m.gr w)))):=by unfold ai;dsimp only;rw[hq];dsimp only;rw[if_pos hg];rfl
   rw[e,ae]at h;cases h
  ·have e:ai c s w=aV c w s (s.ws w) Qu.leave:=by unfold ai;dsimp only;rw[hq];dsimp only;rw[if_neg hg]
   rw[e]at h;unfold aV at h;dsimp only at h;repeat' split at h
   all_goals (rw[ae]at h;cases h)
 |leaves q=>
  exfalso;have e:ai c s w=aV c w s (s.ws w) q:=by unfold ai;dsimp only;rw[hq]
  rw[e]at h;unfold aV at h;dsimp only at h;repeat' split at h
  all_goals (rw[ae]at h;cases h)
 |pin x=>
  exfalso;unfold ai at h;dsimp only at h;rw[hq]at h;cases x with
  |none=>dsimp only at h;rw[ae]at h;cases h
  |some e1=>
   dsimp only at h;rw[ae]at h;have h:Ph.work (bE (s.ws w))=.work (.get t'):=h;unfold bE at h;repeat' split at h
   all_goals (cases h;try cases hs)
 |work k=>
  have e0:ai c s w=ak c w s (s.ws w) k:=by unfold ai;dsimp only;rw[hq]
  cases k with
  |get t0=>
   obtain⟨wo,hwo⟩:∃wo,(if t0.st=gm.bM then({s with wo:=s.next.2}:Ms)else s)={s with wo:=wo}:=by
    split
    ·exact⟨_,rfl⟩
    ·exact⟨s.wo,rfl⟩
   unfold ak at e0;dsimp only at e0;rw[hwo]at e0
   have nop:∀{x':Wr} {m':Mm},ai c s w=({s with wo:=wo}.mem m').put w x'->x'.ph=.work (.get t'):=λe=>by
    rw[e]at h;have h:(({s with wo:=wo}.mem _).put w _ |>.ws w).ph=.work (.get t'):=h
    rw[ae]at h;exact h
   split at e0
   ·exfalso
    split at e0
    ·split at e0
     ·cases(nop e0)
     ·cases(nop e0)
    ·split at e0
     ·cases(nop e0)
     ·cases(nop e0)
   ·have h1:=nop e0
    cases h1;exact⟨t0,rfl,rfl⟩
  |give g=>
   exfalso;rw[e0]at h;unfold ak at h;dsimp only at h;repeat' split at h
   all_goals (rw[ae]at h;cases h)
  |bg g=>
   exfalso;rw[e0]at h;unfold ak at h;dsimp only at h;repeat' split at h
   all_goals (rw[ae]at h;cases h)
  |stats g=>
   exfalso;rw[e0]at h;unfold ak at h;dsimp only at h;repeat' split at h
   all_goals (rw[ae]at h;cases h)
  |aS r=>
   exfalso;rw[e0]at h;unfold ak at h;dsimp only at h;repeat' split at h
   all_goals (rw[ae]at h;cases h)
  |close d=>
   exfalso;cases d with
   |none=>
    rw[e0]at h;have h:(((s.mem _).put w ((s.ws w).to (.work (.close (some Qu.drain))))).ws w).ph=.work (.get t'):=h;rw[ae]at h;cases h
   |some q=>
    rw[e0]at h;unfold ak at h;dsimp only at h;repeat' split at h
    all_goals (rw[ae]at h;cases h)
 |counts x=>
  exfalso;unfold ai at h;dsimp only at h;rw[hq]at h;dsimp only at h;repeat' split at h
  all_goals (rw[ae]at h;cases h;try cases hs)
 |enters q=>
  unfold ai at h;dsimp only at h;rw[hq]at h;dsimp only at h;repeat' split at h
  all_goals (rw[ae]at h;cases h)
 |wakes x=>
  unfold ai at h;dsimp only at h;rw[hq]at h;cases x with
  |none=>unfold dh at h;rw[ae]at h;cases h
  |some g=>
   unfold dh at h;dsimp only at h;split at h<;>(rw[ae]at h;cases h)
theorem ang(I:CmI c s)(Q:WtI c s)(A:All c s)(hw:w<c.W)(hW:c.W<=15)(hc:aQ s w)(o:∀j,j≠w->(ai c s w).ws j=s.ws j):CmI c (ai c s w):=by
 obtain⟨C,KI⟩:=I.cl;obtain⟨L,T⟩:=Q.tok;have nr:(s.ws w).ph≠.rest:=λh=>by grind [aQ]
 have back:∀t p a,(s.ws w).ph=.ax t p a->t.st=.back->tX (s.m.sl t.i):=λt p a h h2=>by
  have q:lN (s.ws w).ph=some t.i:=by grind [lN]
  exact(KI.st _).2 (by rw[(KI.td w _).1 q];grind)
 have k:=aob (A.inv.w w hw) (A.wd w hw) (by omega) (I.gs w) back (λg h=>(T.wk w _ h).2 g rfl) (λg h=>(T.wk w g h).1)
 obtain⟨⟨t1,_⟩,_⟩:=akf (A.inv.w w hw) (Q.ln w) (λg hg=>(T.wk w g hg).1)
 refine⟨amP KI T o t1 k,λv=> ?_⟩
 by_cases e:v=w
 ·rw[e]
  unfold GsW;split
  ·rename_i t' hp'
   intro hs;obtain⟨t,h1,h2⟩:=am' hp' hs nr;have hs2:(t.step w c.S s.m (decide (t.st=.bM)&&s.next.1)).1.st=.eG:=by rw[<-h2];exact hs
   obtain⟨g1,g2,g3,g4⟩:=aqb hs2;have q:dE (s.ws w)=some t.i:=by unfold dE;rw[h1];exact if_pos (.inl g1)
   have cw:=(KI.wk w _).1 q;have X:=A.inv.w w hw;unfold jO at X;rw[h1]at X
   have hi:t.i<c.S:=by
    have:=X.1;unfold pW at this;rw[g1]at this;exact this
   rw[h2,g2];exact⟨(KI.st _).2 (by rw[cw];exact λh=>by cases h),KI.o2 _ _ cw,A.inv.m.1 _ hi⟩
  ·trivial
 ·rw[o v e];exact I.gs v
theorem anf:CmI c Ms.zero:=by
 have nk:∀i,¬tX (Ms.zero.m.sl i):=λi h=>by rcases h with h|h<;>cases h
 refine⟨⟨λ_=>.no,λi=> ?_,λv i=> ?_,λh i=> ?_,λv i=> ?_,λh i k=> ?_,λv i k=> ?_,λv i h k=> ?_⟩,λv=>trivial⟩
 ·grind
 ·exact⟨λh=>(by cases h),λh=>(by cases h)⟩
 ·refine⟨fun k=> ?_,fun h=>(by cases h)⟩
  have k:(0:Int)=(i:Int)+1:=k;omega
 ·exact⟨λh=>(by cases h),λh=>(by cases h)⟩
 ·cases k
 ·cases k
 ·cases k
theorem akt{s'}(I:CmI c s)(k:adI s.m s'.m)(hg:s'.m.gr=s.m.gr)(h1:∀v,lN (s'.ws v).ph=lN (s.ws v).ph)(h3:∀v,dE (s'.ws v)=dE (s.ws v))(hh:∀v,mr (s'.ws v).ph=mr (s.ws v).ph)(gs:∀v,GsW v (s'.ws v).ph):CmI c s':=by
 obtain⟨C,I1,I2,I3,I4,I5,I6,I7⟩:=I.cl;have kp:=λi h=>(k i).2 ((I1 i).2 h)
 refine⟨⟨C,λi=> ?_,λv i=> ?_,λh i=> ?_,λv i=> ?_,λh i q=> ?_,λv i q=> ?_,λv i h q=> ?_⟩,gs⟩
 ·rw[(k i).1];exact I1 i
 ·grind
 ·unfold qw;rw[hg];exact I3 h i
 ·rw[h3];exact I4 v i
 ·rw[kp i (by rw[q];exact λh=>by cases h)];exact I5 h i q
 ·rw[kp i (by rw[q];exact λh=>by cases h)];exact I6 v i q
 ·rw[hh]at q
  have:=(I2 v i).1 (amh q);rw[kp i (by rw[this];exact λh=>by cases h)];exact I7 v i h q
theorem apI(I:CmI c s)(x)(hk:x.kind≠1):CmI c (dX c s x).2:=by
 have same:∀{s':Ms},adI s.m s'.m->s'.m.gr=s.m.gr->s'.ws=s.ws->CmI c s':=λhq hg hw=>akt I hq hg (λv=>by rw[hw]) (λv=>by rw[hw]) (λv=>by rw[hw]) (λv=>by rw[hw];exact I.gs v)
 unfold dX;split
 ·split
  ·rename_i hm
   have hr:(s.ws x.who.toNat).ph=.rest:=hm.2.1;refine akt I (ma rfl) rfl (λv=> ?_) (λv=> ?_) (λv=> ?_) (λv=> ?_)
   ·show lN (upd s.ws x.who.toNat _ v).ph=_
    by_cases e:v=x.who.toNat
    ·rw[e,ky,hr];rfl
    ·rw[il _ _ e]
   ·show dE (upd s.ws x.who.toNat _ v)=_
    by_cases e:v=x.who.toNat
    ·rw[e,ky];unfold dE;rw[hr];rfl
    ·rw[il _ _ e]
   ·show mr (upd s.ws x.who.toNat _ v).ph=_
    by_cases e:v=x.who.toNat
    ·rw[e,ky,hr];rfl
    ·rw[il _ _ e]
   ·show GsW v (upd s.ws x.who.toNat _ v).ph
    by_cases e:v=x.who.toNat
    ·rw[e,ky];trivial
    ·rw[il _ _ e];exact I.gs v
  ·exact I
 ·split
  ·exact same (ma rfl) rfl rfl
  ·split
   ·split
    ·exact same (ma rfl) rfl rfl
    ·exact I
   ·split
    ·split
     ·split
      ·rename_i m hb
       unfold QN at hb;cases hn:az (s.m.sl x.a.slot.toNat) 13 0 0 with
       |none=>rw[hn]at hb;cases hb
       |some n=>
        rw[hn]at hb;cases hb;obtain⟨b1,b2,_⟩:=agS hn;refine same (λi=> ?_) rfl rfl
        by_cases e:i=x.a.slot.toNat
        ·subst e
         show(tX (upd s.m.sl _ n _)↔_)/\(_->(upd s.m.sl _ n _).own=_);rw[ky];unfold tX;rw[b1];exact⟨Iff.rfl,λ_=>b2⟩
        ·show(tX (upd s.m.sl _ n _)↔_)/\(_->(upd s.m.sl _ n _).own=_)
         rw[il _ _ e];exact⟨Iff.rfl,λ_=>rfl⟩
      ·exact I
     ·exact I
    ·exact I
end
noncomputable section
open Classical
variable{c:Cn} {w:Nat} {s s':Ms} {m m':Mm} {i:Nat} {g:Bool}
inductive DoC(c:Cn)(s s':Ms):Prop
 |same:s'.m=s.m->s'.ws=s.ws->DoC c s s'
 |ask (u:Nat) (a:Ask):u<c.W->(s.ws u).ph=.rest->s'.m=s.m->s'.ws=upd s.ws u ⟨.pin none,a,0⟩->DoC c s s'
 |brk (i:Nat) (n:aa):az (s.m.sl i) 13 0 0=some n->s'.m=s.m.set i n->s'.ws=s.ws->DoC c s s'
theorem aks(x)(hk:x.kind≠1):DoC c s (dX c s x).2:=by
 unfold dX;split
 ·split
  ·rename_i hm
   exact .ask x.who.toNat _ (by have:=hm.1;unfold inW at this;omega) hm.2.1 rfl rfl
  ·exact .same rfl rfl
 ·split
  ·exact .same rfl rfl
  ·split
   ·split<;>exact .same rfl rfl
   ·split
    ·split
     ·split
      ·rename_i m hb
       unfold QN at hb;cases hn:az (s.m.sl x.a.slot.toNat) 13 0 0 with
       |none=>rw[hn]at hb;cases hb
       |some n=>rw[hn]at hb;cases hb;exact .brk _ n hn rfl rfl
      ·exact .same rfl rfl
     ·exact .same rfl rfl
    ·exact .same rfl rfl
theorem alS{x n}(h:az x 13 0 0=some n):(x.st=2\/x.st=3\/x.st=4)/\n.st=x.st/\n.brk=true:=by
 obtain⟨r,hr,rfl,_⟩:=wG h;have hr:xm x=some r:=hr;unfold xm at hr;split at hr
 ·rename_i q
  cases hr;exact⟨q.1,rfl,rfl⟩
 ·cases hr
theorem apJ(I:ClI s)(D:DoC c s s'):ClI s':=by
 cases D with
 |same h1 h2=>intro a b hb;rw[h1]at a hb;rw[h2];exact I a b hb
 |brk i n h0 h1 h2=>intro a b hb;rw[h1]at a hb;rw[h2];exact I a b hb
 |ask u a hu hr h1 h2=>
  intro q b hb;rw[h1]at q hb;rw[h2];rcases I q b hb with⟨v,hv⟩|k
  ·left
   refine⟨v,?_⟩;by_cases e:v=u
   ·rw[e,hr]at hv;exact hv.elim
   ·rw[il _ _ e];exact hv
  ·right
   by_cases e:b=u
   ·rw[e,hr]at k;exact k.elim
   ·rw[il _ _ e];exact k
theorem aou(I:TcI s)(D:DoC c s s'):TcI s':=by
 cases D with
 |same h1 h2=>intro v t p a h;rw[h2]at h;rw[h1];exact I v t p a h
 |brk i n h0 h1 h2=>intro v t p a h;rw[h2]at h;rw[h1];exact I v t p a h
 |ask u x hu hr h1 h2=>
  intro v t p a h;rw[h2]at h;rw[h1];by_cases e:v=u
  ·rw[e,ky]at h;cases h
  ·rw[il _ _ e]at h;exact I v t p a h
theorem aoB(I:RsI c s)(D:DoC c s s'):RsI c s':=by
 cases D with
 |same h1 h2=>intro a b i hi hf;rw[h1]at a b hf;rw[h2];exact I a b i hi hf
 |brk j n h0 h1 h2=>
  intro a b i hi hf;rw[h2];have a:s.m.cl=0:=by rw[h1]at a;exact a
  have b:s.m.qu≠[]:=by rw[h1]at b;exact b
  refine I a b i hi ?_;rw[h1]at hf;have hf:frees (upd s.m.sl j n i):=hf;by_cases e:i=j
  ·subst e
   rw[ky]at hf;obtain⟨q1,q2,q3⟩:=alS h0;exfalso;rcases hf with hf|⟨_,hf⟩
   ·omega
   ·rw[q3]at hf;cases hf
  ·rw[il _ _ e]at hf;exact hf
 |ask u x hu hr h1 h2=>
  intro a b i hi hf;rw[h1]at a b hf;rw[h2];obtain⟨v,hv,k⟩:=I a b i hi hf;refine⟨v,hv,?_⟩;by_cases e:v=u
  ·rw[e,ky];trivial
  ·rw[il _ _ e];exact k
theorem apH(I:DlI c s)(D:DoC c s s'):DlI c s':=by
 cases D with
 |same h1 h2=>exact⟨λi hi h=>by rw[h1]at h;rw[h2];exact I.a i hi h,λv t h=>by rw[h2]at h;rw[h1];exact I.b v t h⟩
 |brk j n h0 h1 h2=>
  obtain⟨q1,q2,q3⟩:=alS h0;have ne:∀i,(s.m.sl i).st=1->i≠j:=λi h e=>by rw[e]at h;omega
  refine⟨λi hi h=> ?_,λv t h=> ?_⟩
  ·rw[h2]
   rw[h1]at h;have h:(upd s.m.sl j n i).st=1:=h;by_cases e:i=j
   ·rw[e,ky]at h;omega
   ·rw[il _ _ e]at h;exact I.a i hi h
  ·rw[h2]at h
   obtain⟨b1,b2,b3⟩:=I.b v t h;refine⟨?_,b2,b3⟩;rw[h1];show upd s.m.sl j n t.i=_;rw[il _ _ (ne _ (by rw[b1];exact b2))]
   exact b1
 |ask u x hu hr h1 h2=>
  refine⟨λi hi h=> ?_,λv t h=> ?_⟩
  ·rw[h1]at h
   rw[h2];obtain⟨v,t,hv,ht,hi2⟩:=I.a i hi h;refine⟨v,t,hv,?_,hi2⟩;by_cases e:v=u
   ·rw[e,hr]at ht;cases ht
   ·rw[il _ _ e];exact ht
  ·rw[h2]at h
   rw[h1];by_cases e:v=u
   ·rw[e,ky]at h;cases h
   ·rw[il _ _ e]at h;exact I.b v t h
end
noncomputable section
open Classical
variable{c:Cn} {w:Nat} {s s':Ms} {m m':Mm} {i:Nat} {g:Bool}
inductive RtX(m m':Mm)(a a':Option Rt):Prop
 |idle:m'.ep=m.ep->(∀i,(m'.sl i).st=6->m'.sl i=m.sl i)->a=none->(∀r,a'=some r->r.st=.swap)->RtX m m' a a'
 |go (r:Rt):a=some r->m'.ep=(r.step m).2.ep->m'.sl=(r.step m).2.sl->((r.step m).1.st≠.done->a'=some (r.step m).1)->((r.step m).1.st=.done->∀x,a'=some x->x.st=.swap)->RtX m m' a a'
def RtG(c:Cn)(s:Ms)(w:Nat):Prop:=RtX s.m (ai c s w).m (dC (s.ws w).ph) (dC ((ai c s w).ws w).ph)
theorem aoJ(C:ql c s w)(h:dC (s.ws w).ph=none):∀i,((ai c s w).m.sl i).st=6->(ai c s w).m.sl i=s.m.sl i:=by
 intro i h6
 have key:∀{j:Nat} {d own more:Int} {n:aa},nz s.m (ai c s w).m j d own more n->n.st≠6->(ai c s w).m.sl i=s.m.sl i:=by
  intro j d own more n h hn;unfold nz at h;by_cases e:i=j
  ·subst e;rw[h.2,ky]at h6;exact absurd h6 hn
  ·rw[h.2,il _ _ e]
 unfold ql Chg at C;rcases C with C|C|C|C|C|C|C
 ·rw[C]
 ·obtain⟨j,d,own,more,n,hn,hd⟩:=C
  refine key hn ?_;have q:=qf hn.1;rcases hd with hd|hd|hd|hd|hd|hd<;>grind
 ·obtain⟨j,n,t,hn,_⟩:=C
  refine key hn ?_;have q:=qf hn.1;grind
 ·obtain⟨j,d,n,t,hn,hd,_⟩:=C
  refine key hn ?_;have q:=qf hn.1;rcases hd with hd|hd<;>grind
 ·obtain⟨j,n,hn,_⟩:=C
  refine key hn ?_;have q:=qf hn.1;grind
 ·obtain⟨t,p,a,hp,hc,_⟩:=C
  rcases hc with⟨_,n,hn⟩|⟨_,d,n,hd,hn,_⟩|⟨_,d,n,hd,hn,_⟩|⟨hg,_⟩
  ·have q:=qf hn.1
   grind
  ·have q:=qf hn.1
   rcases hd with hd|hd<;>grind
  ·have q:=qf hn.1
   rcases hd with hd|hd<;>grind
  ·rw[hp,adl hg]at h;cases h
 ·obtain⟨r,r',_,h2,_⟩:=C
  rw[h]at h2;cases h2
theorem qb(C:ql c s w)(h:dC (s.ws w).ph=none)(he:(ai c s w).m.ep=s.m.ep)(h':∀r,dC ((ai c s w).ws w).ph=some r->r.st=.swap):RtG c s w:=.idle he (aoJ C h) h h'
theorem ac'{x'}{r}(hp:dC (s.ws w).ph=some r)(e:ai c s w=(s.mem m').put w x')(h1:m'.ep=(r.step s.m).2.ep)(h2:m'.sl=(r.step s.m).2.sl)(h3:(r.step s.m).1.st≠.done->dC x'.ph=some (r.step s.m).1)(h4:(r.step s.m).1.st=.done->∀y,dC x'.ph=some y->y.st=.swap):RtG c s w:=by
 unfold RtG;rw[e,ae];exact .go r hp h1 h2 h3 h4
theorem alR{t}{p}{a}(hp:(s.ws w).ph=.ax t p a)(C:ql c s w):RtG c s w:=by
 cases h:t.step c w s.m with
 |mk t' m'=>
  have e:=ui hp h
  have ec:(ai c s w).m=m':=by
   rw[e];split
   ·cases p<;>rfl
   ·rfl
  by_cases hg:t.st=.go
  ·have hst:t.step c w s.m=(if(t.rt.step s.m).1.st=.done then({t with rt:=(t.rt.step s.m).1,look:=t.look.again,st:=.dL},(t.rt.step s.m).2)else({t with rt:=(t.rt.step s.m).1},(t.rt.step s.m).2)):=by
    obtain⟨st,ep,cl,qu,look,j,wd,other,head,rt⟩:=t;have hg:st=.go:=hg;subst hg;rfl
   by_cases hd:(t.rt.step s.m).1.st=.done
   ·rw[if_pos hd,h]at hst
    cases hst;rw[if_neg mO.noConfusion]at e;exact ac' (by rw[hp];exact adl hg) e rfl rfl (λk=>absurd hd k) (λ_ y hy=>by cases hy)
   ·rw[if_neg hd,h]at hst
    cases hst;rw[if_neg (by show t.st≠.done;rw[hg];exact mO.noConfusion)]at e
    exact ac' (by rw[hp];exact adl hg) e rfl rfl (λ_=>adl (t:={t with rt:=(t.rt.step s.m).1}) hg) (λk=>absurd k hd)
  ·have h0:dC (s.ws w).ph=none:=by rw[hp];exact if_neg hg
   have sk:∀t:Td,(t.fu c.S s.m).st=t.st:=λt=>eQ.1
   have ag8:=λd own m' h=> @ac3 s.m m' t d own h
   have eep:m'.ep=s.m.ep:=by
    have:m'=(t.step c w s.m).2:=by rw[h]
    rw[this];unfold Td.step Td.swap Mm.set Mm.pin Mm.nT;grind
   have hn:∀r,dC (.ax t' p a)=some r->r.st=.swap:=by
    intro r hr;have:t'=(t.step c w s.m).1:=by rw[h]
    unfold dC at hr;dsimp only at hr;split at hr
    ·rename_i hgo
     cases hr;rw[this]at hgo ⊢;unfold Td.step at hgo ⊢;unfold Rt.new at*;grind
    ·cases hr
   refine qb C h0 (by rw[ec];exact eep) ?_
   intro r hr;by_cases hd:t'.st=.done
   ·rw[if_pos hd]at e
    rw[e]at hr;cases p with
    |none=>
     have hr:dC (((s.mem m').put w ((s.ws w).to .rest)).ws w).ph=some r:=hr;rw[ae]at hr;cases hr
    |some b=>
     have hr:dC (((s.mem m').put w ((s.ws w).to (.parked b))).ws w).ph=some r:=hr;rw[ae]at hr;cases hr
   ·rw[if_neg hd]at e
    rw[e,ae]at hr;exact hn r hr
theorem aj0{x'}{r}{wo}(hp:dC (s.ws w).ph=some r)(e:ai c s w=({s with wo:=wo}.mem m').put w x')(h1:m'.ep=(r.step s.m).2.ep)(h2:m'.sl=(r.step s.m).2.sl)(h3:(r.step s.m).1.st≠.done->dC x'.ph=some (r.step s.m).1)(h4:(r.step s.m).1.st=.done->∀y,dC x'.ph=some y->y.st=.swap):RtG c s w:=by
 unfold RtG;rw[e];rw[ae];exact .go r hp h1 h2 h3 h4
theorem an4{t:Tk}(h:t.st≠.go):(t.step w c.S m g).2.ep=m.ep/\((t.step w c.S m g).1.st=.go->(t.step w c.S m g).1.rt.st=.swap):=by
 grind [Tk.step,Tk.fin,Tk.search,Mm.set,Rt.new,lQ,agq]
theorem aod{t:Gv}(h:t.st≠.go):(t.step c w m).2.ep=m.ep/\((t.step c w m).1.st=.go->(t.step c w m).1.rt.st=.swap):=by
 grind [Gv.step,Gv.fin,Mm.set,Rt.new]
theorem an7{t}(hp:(s.ws w).ph=.work (.get t))(C:ql c s w):RtG c s w:=by
 have e0:ai c s w=ak c w s (s.ws w) (.get t):=by grind [ai]
 have em:=ah7 (c:=c) hp
 obtain⟨wo,hwo⟩:∃wo,(if t.st=gm.bM then({s with wo:=s.next.2}:Ms)else s)={s with wo:=wo}:=by
  split
  ·exact⟨_,rfl⟩
  ·exact⟨s.wo,rfl⟩
 unfold ak at e0;dsimp only at e0;rw[hwo]at e0;generalize hg:(decide (t.st=.bM)&&s.next.1)=g at e0 em;by_cases hgo:t.st=.go
 ·have hr:dC (s.ws w).ph=some t.rt:=by rw[hp];exact ahJ hgo
  have hst:t.step w c.S s.m g=(if(t.rt.step s.m).1.st=.done then(if(t.rt.step s.m).1.sw then({t with rt:=(t.rt.step s.m).1,e:=5,st:=.done},(t.rt.step s.m).2)else({t with rt:=(t.rt.step s.m).1,st:=.back},(t.rt.step s.m).2))else({t with rt:=(t.rt.step s.m).1},(t.rt.step s.m).2)):=by
   obtain⟨st,look,j,wd,gen,ps,rt,e⟩:=t;have hgo:st=.go:=hgo;subst hgo;rfl
  by_cases hd:(t.rt.step s.m).1.st=.done
  ·rw[if_pos hd]at hst
   by_cases hs:(t.rt.step s.m).1.sw=true
   ·rw[if_pos hs]at hst
    rw[hst]at e0;rw[if_pos rfl,if_neg (by show(5:Int)≠3;decide),if_neg (by show(5:Int)≠0;decide)]at e0
    exact aj0 hr e0 rfl rfl (λk=>absurd hd k) (λ_ y hy=>by cases hy)
   ·rw[if_neg hs]at hst
    rw[hst]at e0;exact aj0 hr e0 rfl rfl (λk=>absurd hd k) (λ_ y hy=>by cases hy)
  ·rw[if_neg hd]at hst
   rw[hst]at e0;rw[if_neg (by rw[hgo];exact gm.noConfusion)]at e0
   exact aj0 hr e0 rfl rfl (λ_=>ahJ hgo) (λk=>absurd k hd)
 ·obtain⟨k1,k2⟩:=an4 hgo
  refine qb C (by rw[hp];exact if_neg hgo) (by rw[em];exact k1) ?_
  have nop:∀{x':Wr} {m':Mm} {r:Rt},ai c s w=({s with wo:=wo}.mem m').put w x'->dC ((ai c s w).ws w).ph=some r->dC x'.ph=some r:=λe h=>by
   rw[e]at h;rw[ae]at h;exact h
  intro r hr;repeat' split at e0
  ·cases nop e0 hr
  ·cases nop e0 hr
  ·cases nop e0 hr
  ·cases nop e0 hr
  ·have h:=nop e0 hr
   have h:dC (.work (.get (t.step w c.S s.m g).1))=some r:=h;unfold dC at h;dsimp only at h;split at h
   ·cases h;exact k2 ‹_›
   ·cases h
theorem amC{t}(hp:(s.ws w).ph=.work (.give t))(C:ql c s w):RtG c s w:=by
 have e0:ai c s w=ak c w s (s.ws w) (.give t):=by grind [ai]
 unfold ak at e0;dsimp only at e0;by_cases hgo:t.st=.go
 ·have hr:dC (s.ws w).ph=some t.rt:=by rw[hp];exact ahm hgo
  have hst:t.step c w s.m=(if(t.rt.step s.m).1.st=.done then(if(t.rt.step s.m).1.sw then({t with rt:=(t.rt.step s.m).1,e:=0,st:=.done},(t.rt.step s.m).2)else({t with rt:=(t.rt.step s.m).1,st:=.look},(t.rt.step s.m).2))else({t with rt:=(t.rt.step s.m).1},(t.rt.step s.m).2)):=by
   obtain⟨i,gen,dc,st,cl,wd,rt,e⟩:=t;subst hgo;rfl
  by_cases hd:(t.rt.step s.m).1.st=.done
  ·rw[if_pos hd]at hst
   by_cases hs:(t.rt.step s.m).1.sw=true
   ·rw[if_pos hs]at hst
    rw[hst]at e0;exact ac' hr e0 rfl rfl (λk=>absurd hd k) (λ_ y hy=>by cases hy)
   ·rw[if_neg hs]at hst
    rw[hst]at e0;exact ac' hr e0 rfl rfl (λk=>absurd hd k) (λ_ y hy=>by cases hy)
  ·rw[if_neg hd]at hst
   rw[hst]at e0;rw[if_neg (by rw[hgo];exact pg.noConfusion)]at e0
   exact ac' hr e0 rfl rfl (λ_=>ahm hgo) (λk=>absurd k hd)
 ·obtain⟨k1,k2⟩:=aod hgo
  refine qb C (by rw[hp];exact if_neg hgo) ?_ ?_
  ·rw[e0]
   split<;>exact k1
  ·intro r hr
   split at e0
   ·rw[e0,ae]at hr;cases hr
   ·rw[e0,ae]at hr
    have h:dC (.work (.give (t.step c w s.m).1))=some r:=hr;unfold dC at h;dsimp only at h;split at h
    ·cases h;exact k2 ‹_›
    ·cases h
theorem amB{r}(hp:(s.ws w).ph=.work (.aS r))(C:ql c s w):RtG c s w:=by
 have e0:ai c s w=ak c w s (s.ws w) (.aS r):=by grind [ai]
 by_cases hgo:r.st=.dB
 ·have hr:dC (s.ws w).ph=some r.rt:=by rw[hp];exact ahl hgo
  unfold ak at e0;dsimp only at e0;rw[hgo]at e0;by_cases hd:(r.rt.step s.m).1.st=.done
  ·rw[if_pos hd]at e0
   exact ac' hr e0 rfl rfl (λk=>absurd hd k) (λ_ y hy=>by cases hy)
  ·rw[if_neg hd]at e0
   exact ac' hr e0 rfl rfl (λ_=>ahl rfl) (λk=>absurd k hd)
 ·refine qb C (by rw[hp];exact if_neg hgo) ?_ ?_
  ·rw[e0];unfold ak;dsimp only
   repeat' split
   all_goals first|rfl|(exfalso;apply hgo;assumption)
  ·intro x hx
   rw[e0]at hx;unfold ak at hx;dsimp only at hx;repeat' split at hx
   all_goals (rw[ae]at hx;first|(assumption)|(cases hx;rfl)|(cases hx)|skip)
   all_goals (first|(have hx:dC (.work (.aS _))=some x:=hx;unfold dC at hx;dsimp only at hx;split at hx<;>cases hx<;>simp_all)|skip)
theorem amA(X:jO c w (s.ws w))(W:nW c s.m w (s.ws w)):RtG c s w:=by
 have C:=ahF X W;unfold jO at X;cases hp:(s.ws w).ph with
 |rest=>
  have e:ai c s w=s:=by unfold ai;dsimp only;rw[hp]
  exact qb C (by rw[hp];rfl) (by rw[e]) (λr hr=>by rw[e,hp]at hr;cases hr)
 |pin h=>
  refine qb C (by rw[hp];rfl) ?_ ?_
  ·unfold ai;dsimp only;rw[hp];cases h<;>rfl
  ·intro r hr
   unfold ai at hr;dsimp only at hr;rw[hp]at hr;cases h with
   |none=>dsimp only at hr;rw[ae]at hr;cases hr
   |some e1=>
    dsimp only at hr;rw[ae]at hr;have hr:dC (.work (bE (s.ws w)))=some r:=hr;unfold bE at hr;split at hr
    ·split at hr<;>cases hr
    all_goals cases hr
 |ax t p a=>exact alR hp C
 |work k=>
  cases k with
  |get t=>exact an7 hp C
  |give t=>exact amC hp C
  |aS r=>exact amB hp C
  |bg q=>
   have e0:ai c s w=ak c w s (s.ws w) (.bg q):=by unfold ai;dsimp only;rw[hp]
   have k:(q.step c w s.m).2.ep=s.m.ep:=by unfold Sm.step Mm.set;grind
   refine qb C (by rw[hp];rfl) ?_ ?_
   ·rw[e0];unfold ak;dsimp only
    split<;>exact k
   ·intro r hr
    rw[e0]at hr;unfold ak at hr;dsimp only at hr;repeat' split at hr
    all_goals (rw[ae]at hr;cases hr)
  |stats t=>
   have e0:ai c s w=ak c w s (s.ws w) (.stats t):=by unfold ai;dsimp only;rw[hp]
   refine qb C (by rw[hp];rfl) ?_ ?_
   ·rw[e0];unfold ak;dsimp only
    split<;>rfl
   ·intro r hr
    rw[e0]at hr;unfold ak at hr;dsimp only at hr;repeat' split at hr
    all_goals (rw[ae]at hr;cases hr)
  |close d=>
   have e0:ai c s w=ak c w s (s.ws w) (.close d):=by unfold ai;dsimp only;rw[hp]
   refine qb C (by rw[hp];cases d<;>rfl) ?_ ?_
   ·rw[e0]
    cases d with
    |none=>
     show(if(s.ws w).ask.force then{s.m with cl:=2}else if s.m.cl=0 then{s.m with cl:=1}else s.m:Mm).ep=_
     repeat' split
     all_goals rfl
    |some q=>
     unfold ak;dsimp only;have k:(q.step c w s.m).2.ep=s.m.ep:=by unfold Qu.step Mm.nT;grind
     split<;>exact k
   ·intro r hr
    rw[e0]at hr;cases d with
    |none=>
     have hr:dC (((s.mem _).put w ((s.ws w).to (.work (.close (some Qu.drain))))).ws w).ph=some r:=hr;rw[ae]at hr;cases hr
    |some q=>
     unfold ak at hr;dsimp only at hr;repeat' split at hr
     all_goals (rw[ae]at hr;cases hr)
 |counts t=>
  refine qb C (by rw[hp];rfl) ?_ ?_
  ·unfold ai;dsimp only;rw[hp];dsimp only
   repeat' split
   all_goals rfl
  ·intro r hr
   unfold ai at hr;dsimp only at hr;rw[hp]at hr;dsimp only at hr;repeat' split at hr
   all_goals (rw[ae]at hr;cases hr)
 |enters q=>
  have k:(q.step c w s.m).2.ep=s.m.ep:=by unfold Qu.step Mm.nT;grind
  refine qb C (by rw[hp];rfl) ?_ ?_
  ·unfold ai;dsimp only;rw[hp];dsimp only
   repeat' split
   all_goals exact k
  ·intro r hr
   unfold ai at hr;dsimp only at hr;rw[hp]at hr;dsimp only at hr;repeat' split at hr
   all_goals (rw[ae]at hr;cases hr)
 |parked b=>
  refine qb C (by rw[hp];rfl) ?_ ?_
  ·have k:(Qu.leave.step c w s.m).2.ep=s.m.ep:=by unfold Qu.step Mm.nT;grind
   unfold ai dh aV;dsimp only;rw[hp];dsimp only;repeat' split
   all_goals first|rfl|exact k
  ·intro r hr
   unfold ai dh aV at hr;dsimp only at hr;rw[hp]at hr;dsimp only at hr;repeat' split at hr
   all_goals (rw[ae]at hr;cases hr)
 |leaves q=>
  have k:(q.step c w s.m).2.ep=s.m.ep:=by unfold Qu.step Mm.nT;grind
  refine qb C (by rw[hp];rfl) ?_ ?_
  ·unfold ai aV;dsimp only;rw[hp];dsimp only
   repeat' split
   all_goals exact k
  ·intro r hr
   unfold ai aV at hr;dsimp only at hr;rw[hp]at hr;dsimp only at hr;repeat' split at hr
   all_goals (rw[ae]at hr;cases hr)
 |wakes h=>
  refine qb C (by rw[hp];rfl) ?_ ?_
  ·unfold ai dh;dsimp only;rw[hp];dsimp only
   cases h with
   |none=>rfl
   |some g=>dsimp only;split<;>rfl
  ·intro r hr
   unfold ai dh at hr;dsimp only at hr;rw[hp]at hr;dsimp only at hr;cases h with
   |none=>rw[ae]at hr;cases hr
   |some g=>
    dsimp only at hr;split at hr<;>(rw[ae]at hr;cases hr)
end
noncomputable section
open Classical
variable{c:Cn} {w:Nat} {s s':Ms} {m m':Mm} {i:Nat} {g:Bool}
def PnT(v:Int)(t:Td):Prop:=match t.st with| .ep=>True| .pin=>True| .again=>v=0| .done=>v=0|_=>v=t.ep+1
def PnP(v:Int):Ph->Prop
 | .rest=>v=0| .parked _=>v=0| .leaves _=>v=0
 | .ax t _ _=>PnT v t
 |_=>True
def BzP(p:Ph):Prop:=busy p\/∃q a,p=.ax Td.new q a
theorem aj2(hp:busy (s.ws w).ph):BzP ((ai c s w).ws w).ph:=by
 have h1:∀(s:Ms) (x:Wr),BzP x.ph->BzP ((s.put w x).ws w).ph:=λs x h=>by rw[ae];exact h
 have e1:∀x a,BzP (Wr.end_ x a).ph:=λx a=>.inr ⟨_,_,rfl⟩
 have e2:∀x k,BzP (Wr.to x (.work k)).ph:=λx a=>.inl trivial
 have e3:∀x k,BzP (Wr.to x (.enters k)).ph:=λx a=>.inl trivial
 have e4:∀x k,BzP (Wr.to x (.counts k)).ph:=λx a=>.inl trivial
 have e5:∀x q a,BzP (Wr.to x (.ax Td.new q a)).ph:=λx q a=>.inr ⟨_,_,rfl⟩
 cases hq:(s.ws w).ph with
 |rest=>rw[hq]at hp;exact hp.elim
 |ax _ _ _=>rw[hq]at hp;exact hp.elim
 |parked _=>rw[hq]at hp;exact hp.elim
 |leaves _=>rw[hq]at hp;exact hp.elim
 |pin h=>
  unfold ai;dsimp only;rw[hq];cases h<;>(dsimp only;rw[ae];exact .inl trivial)
 |work k=>
  have e0:ai c s w=ak c w s (s.ws w) k:=by unfold ai;dsimp only;rw[hq]
  rw[e0];unfold ak;dsimp only;repeat' split
  all_goals first|exact h1 _ _ (e1 _ _)|exact h1 _ _ (e2 _ _)|exact h1 _ _ (e3 _ _)|exact h1 _ _ (e4 _ _)
 |counts t=>
  unfold ai;dsimp only;rw[hq];dsimp only;repeat' split
  all_goals first|exact h1 _ _ (e1 _ _)|exact h1 _ _ (e2 _ _)|exact h1 _ _ (e4 _ _)
 |enters q=>
  unfold ai;dsimp only;rw[hq];dsimp only;repeat' split
  all_goals first|exact h1 _ _ (e1 _ _)|exact h1 _ _ (e3 _ _)|exact h1 _ _ (e5 _ _ _)
 |wakes h=>
  unfold ai;dsimp only;rw[hq];cases h with
  |none=>unfold dh;rw[ae];exact .inl trivial
  |some g=>
   unfold dh;dsimp only;split
   ·exact h1 _ _ (e1 _ _)
   ·rw[ae];exact .inl trivial
theorem aqf{p}{v}(h:BzP p):PnP v p:=by
 rcases h with h|⟨q,a,rfl⟩
 ·cases p<;>first|trivial|exact h.elim
 ·trivial
theorem aor{t}(h:PnT (m.pn w) t)(hb:0<=t.ep/\t.ep<=4000000000000000000):PnT ((t.step c w m).2.pn w) (t.step c w m).1/\∀j,j≠w->(t.step c w m).2.pn j=m.pn j:=by
 have sk:∀t:Td,(t.fu c.S m).st=t.st/\(t.fu c.S m).ep=t.ep:=λt=>⟨eQ.1,eQ.2.2.2.1⟩
 have qr:=(@Ps m t.rt).pn;have e64:aR (t.ep+1)=t.ep+1:=fA ⟨by omega,by omega⟩
 obtain⟨st,ep,cl,qu,look,j,wd,other,head,rt⟩:=t;have e64:aR (ep+1)=ep+1:=e64;cases st with
 |pin=>exact⟨by show upd m.pn w (aR (ep+1)) w=ep+1;rw[ky,e64],λj hj=>il _ _ hj⟩
 |eO=>exact⟨by show upd m.pn w 0 w=0;rw[ky],λj hj=>il _ _ hj⟩
 |ep=>exact⟨trivial,λj hj=>rfl⟩
 |_=>unfold PnT at *;unfold Td.step Td.swap Mm.set Mm.nT;constructor<;>grind
def PnG(c:Cn)(s:Ms)(w:Nat):Prop:=PnP ((ai c s w).m.pn w) ((ai c s w).ws w).ph/\∀j,j≠w->(ai c s w).m.pn j=s.m.pn j
theorem ahC{x}{q}:(aV c w s x q).m.pn=s.m.pn:=by
 grind [aV,Ms.put,Ms.mem,Qu.step,Mm.nT]
theorem aj7{x}{q}(h:s.m.pn w=0):PnP ((aV c w s x q).m.pn w) ((aV c w s x q).ws w).ph:=by
 rw[ahC,h];unfold aV;dsimp only;repeat' split
 all_goals (rw[ae];first|trivial|rfl)
theorem amb(hb:busy (s.ws w).ph):∀j,j≠w->(ai c s w).m.pn j=s.m.pn j:=by
 intro j hj;cases hq:(s.ws w).ph with
 |rest=>rw[hq]at hb;exact hb.elim
 |ax _ _ _=>rw[hq]at hb;exact hb.elim
 |parked _=>rw[hq]at hb;exact hb.elim
 |leaves _=>rw[hq]at hb;exact hb.elim
 |pin h=>
  unfold ai;dsimp only;rw[hq];cases h with
  |none=>rfl
  |some e=>exact il _ _ hj
 |work k=>
  have e0:ai c s w=ak c w s (s.ws w) k:=by unfold ai;dsimp only;rw[hq]
  rw[e0];cases k with
  |get t=>
   rw[<-e0,ah7 hq,ahI.pn]
  |give t=>unfold ak;dsimp only;have k:=(akd (c:=c) (w:=w) (m:=s.m) (g:=t)).pn;repeat' split
           all_goals (show(Gv.step c w s.m t).2.pn j=_;rw[k])
  |bg t=>unfold ak;dsimp only;have k:=(akb (c:=c) (w:=w) (m:=s.m) (g:=t)).pn;repeat' split
         all_goals (show(Sm.step c w s.m t).2.pn j=_;rw[k])
  |stats t=>unfold ak;dsimp only;repeat' split
            all_goals rfl
  |close d=>
   cases d with
   |none=>
    show(if(s.ws w).ask.force then{s.m with cl:=2}else if s.m.cl=0 then{s.m with cl:=1}else s.m:Mm).pn j=_
    repeat' split
    all_goals rfl
   |some q=>
    have k:(q.step c w s.m).2.pn=s.m.pn:=by unfold Qu.step Mm.nT;grind
    unfold ak;dsimp only;repeat' split
    all_goals (show(Qu.step c w s.m q).2.pn j=_;rw[k])
  |aS r=>
   have k:=(Ps (m:=s.m) (r:=r.rt)).pn;unfold ak;dsimp only;repeat' split
   all_goals first|rfl|(show(Rt.step s.m r.rt).2.pn j=_;rw[k])
 |counts t=>
  unfold ai;dsimp only;rw[hq];dsimp only;repeat' split
  all_goals rfl
 |enters q=>
  have k:(q.step c w s.m).2.pn=s.m.pn:=by unfold Qu.step Mm.nT;grind
  unfold ai;dsimp only;rw[hq];dsimp only;repeat' split
  all_goals (show(Qu.step c w s.m q).2.pn j=_;rw[k])
 |wakes h=>
  unfold ai;dsimp only;rw[hq];cases h with
  |none=>rfl
  |some g=>unfold dh;dsimp only;split<;>rfl
theorem amI(h:PnP (s.m.pn w) (s.ws w).ph)(hb:∀t p a,(s.ws w).ph=.ax t p a->0<=t.ep/\t.ep<=4000000000000000000):PnG c s w:=by
 have bz:busy (s.ws w).ph->PnG c s w:=λhp=>⟨aqf (aj2 hp),amb hp⟩
 cases hp:(s.ws w).ph with
 |rest=>
  grind [ai,PnG]
 |pin x=>exact bz (by rw[hp];trivial)
 |work x=>exact bz (by rw[hp];trivial)
 |counts x=>exact bz (by rw[hp];trivial)
 |enters x=>exact bz (by rw[hp];trivial)
 |wakes x=>exact bz (by rw[hp];trivial)
 |ax t p a=>
  rw[hp]at h;obtain⟨k1,k2⟩:=aor h (hb t p a hp);cases hst:t.step c w s.m with
  |mk t' m'=>
   rw[hst]at k1 k2;have e:=ui hp hst
   have ec:(ai c s w).m=m':=by
    rw[e];split
    ·cases p<;>rfl
    ·rfl
   unfold PnG;rw[ec];refine⟨?_,k2⟩;by_cases hd:t'.st=.done
   ·have z:m'.pn w=0:=by
     unfold PnT at k1;rw[hd]at k1;exact k1
    rw[if_pos hd]at e;rw[e];cases p with
    |some b=>
     show PnP (m'.pn w) (((s.mem m').put w ((s.ws w).to (.parked b))).ws w).ph;rw[ae];exact z
    |none=>
     show PnP (m'.pn w) (((s.mem m').put w ((s.ws w).to .rest)).ws w).ph;rw[ae];exact z
   ·rw[if_neg hd]at e
    rw[e,ae];exact k1
 |parked b=>
  rw[hp]at h;by_cases hg:s.m.gr w≠0
  ·have e:ai c s w=(s.mem s.m).put w ((s.ws w).to (.wakes (some (s.m.gr w)))):=by unfold ai;dsimp only;rw[hp];rw[if_pos hg];rfl
   unfold PnG;rw[e,ae];exact⟨trivial,λj _=>rfl⟩
  ·have e:ai c s w=aV c w s (s.ws w) Qu.leave:=by unfold ai;dsimp only;rw[hp];rw[if_neg hg]
   unfold PnG;rw[e];exact⟨aj7 h,λj _=>by rw[ahC]⟩
 |leaves q=>
  rw[hp]at h;have e:ai c s w=aV c w s (s.ws w) q:=by unfold ai;dsimp only;rw[hp]
  unfold PnG;rw[e];exact⟨aj7 h,λj _=>by rw[ahC]⟩
end
noncomputable section
open Classical
variable{c:Cn} {w:Nat} {s s':Ms} {m m':Mm} {i:Nat} {g:Bool} {K:Int}
theorem agU{r:Rt}:
  (r.st=.swap/\((∃n,nz m (r.step m).2 r.i 11 0 4095 n/\(r.step m).2.ep=m.ep/\(r.step m).1.i=r.i/\(r.step m).1.wd=n/\(r.step m).1.st=.look)\/((r.step m).2=m/\(r.step m).1.st=.done)))\/
  (r.st=.look/\(r.step m).2=m/\(r.step m).1.i=r.i/\(r.step m).1.wd=r.wd/\(r.step m).1.st=.iI/\(r.step m).1.ep=m.ep)\/
  (r.st=.iI/\(r.step m).1.st=.jk/\(r.step m).1.i=r.i/\((∃n,nz m (r.step m).2 r.i 17 0 r.ep n/\(r.step m).2.ep=m.ep)\/((r.step m).2=m/\(m.sl r.i=r.wd->az r.wd 17 0 r.ep=none))))\/
  (r.st=.jk/\(r.step m).1.st=.done/\(r.step m).2.sl=m.sl/\(r.step m).2.ep=aR (m.ep+1))\/
  (r.st=.done/\(r.step m).1.st=.done/\(r.step m).2=m):=by
 obtain⟨i,wd,ep,st,sw⟩:=r;cases st<;>(unfold Rt.step nz Mm.set;grind)
def RpC(m:Mm)(r:Rt):Prop:=(r.st=.look\/r.st=.iI->r.wd.st=6/\r.wd.ep=4095)/\(r.st=.iI->0<=r.ep/\r.ep<=m.ep)
def EeC(s:Ms)(i:Nat):Prop:=(s.m.sl i).ep<s.m.ep\/(∃v r,dC (s.ws v).ph=some r/\(r.st=.look\/r.st=.iI)/\r.i=i/\r.wd=s.m.sl i)\/(∃v r,dC (s.ws v).ph=some r/\r.st=.jk/\r.i=i/\(s.m.sl i).ep<=s.m.ep)
structure RtI(c:Cn)(s:Ms)(K:Int):Prop where
 eb:0<=s.m.ep/\s.m.ep<=K
 rp:∀v r,dC (s.ws v).ph=some r->RpC s.m r
 ee:∀i,i<c.S->(s.m.sl i).st=6->EeC s i
theorem ahp(h:RtX s.m s'.m (dC (s.ws w).ph) (dC (s'.ws w).ph))(eb:0<=s.m.ep/\s.m.ep<=4000000000000000000):s.m.ep<=s'.m.ep/\s'.m.ep<=s.m.ep+1:=by
 have e64:aR (s.m.ep+1)=s.m.ep+1:=fA ⟨by omega,by omega⟩
 cases h with
 |idle h1 h2 h3 h4=>omega
 |go r h1 h2 h3 h4 h5=>
  rcases agU (m:=s.m) (r:=r)with k|k|k|k|k<;>grind
theorem amD(I:RtI c s K)(A:All c s)(h:RtX s.m s'.m (dC (s.ws w).ph) (dC (s'.ws w).ph))(hK:K<=4000000000000000000)(o:∀j,j≠w->s'.ws j=s.ws j):RtI c s' (K+1):=by
 obtain⟨eb,rp,ee⟩:=I;obtain⟨m1,m2⟩:=ahp h ⟨eb.1,by omega⟩
 have e64:aR (s.m.ep+1)=s.m.ep+1:=fA ⟨by omega,by omega⟩
 have or:∀v,v≠w->dC (s'.ws v).ph=dC (s.ws v).ph:=λv hv=>by rw[o v hv]
 have F:=A.inv.m.1;refine⟨⟨by omega,by omega⟩,λv r hr=> ?_,λi hi h6=> ?_⟩
 ·by_cases e:v=w
  ·subst e
   cases h with
   |idle h1 h2 h3 h4=>have:=h4 r hr;unfold RpC;grind
   |go r0 h1 h2 h3 h4 h5=>
    have k:=rp v r0 h1;unfold RpC at k ⊢;rcases agU (m:=s.m) (r:=r0)with q|q|q|q|q
    ·obtain⟨q1,q2⟩:=q
     rcases q2 with⟨n,hn,q3,q4,q5,q6⟩|⟨q3,q4⟩
     ·have q:=qf hn.1
      grind
     ·grind
    ·grind
    ·grind
    ·grind
    ·grind
  ·rw[or v e]at hr
   have k:=rp v r hr;unfold RpC at*;grind
 ·unfold EeC at*
  cases h with
  |idle h1 h2 h3 h4=>
   have e:=h2 i h6;rw[e]at h6 ⊢;rw[h1];have k:=ee i hi h6;grind
  |go r h1 h2 h3 h4 h5=>
   have kr:=rp w r h1;unfold RpC at kr;rcases agU (m:=s.m) (r:=r)with q|q|q|q|q
   ·obtain⟨q1,q2⟩:=q
    rcases q2 with⟨n,hn,q3,q4,q5,q6⟩|⟨q3,q4⟩
    ·by_cases e:i=r.i
     ·right;left
      refine⟨w,_,h4 (by rw[q6];exact cK.noConfusion),.inl q6,by rw[q4,e],?_⟩
      rw[q5,h3,hn.2,e,ky]
     ·have es:s'.m.sl i=s.m.sl i:=by rw[h3,hn.2,il _ _ e]
      rw[es]at h6 ⊢;have k:=ee i hi h6;have hep:s'.m.ep=s.m.ep:=by rw[h2,q3]
      rw[hep];grind
    ·have es:s'.m.sl=s.m.sl:=by rw[h3,q3]
     have hep:s'.m.ep=s.m.ep:=by rw[h2,q3]
     rw[es]at h6 ⊢;rw[hep];have k:=ee i hi h6;grind
   ·obtain⟨q1,q2,q3,q4,q5,q6⟩:=q
    have es:s'.m.sl=s.m.sl:=by rw[h3,q2]
    have hep:s'.m.ep=s.m.ep:=by rw[h2,q2]
    have ha:=h4 (by rw[q5];exact cK.noConfusion)
    rw[es]at h6 ⊢;rw[hep];rcases ee i hi h6 with k|⟨v,r2,k1,k2,k3,k4⟩|⟨v,r2,k1,k2,k3,k4⟩
    ·exact .inl k
    ·by_cases e:v=w
     ·subst e
      rw[h1]at k1;cases k1;exact .inr (.inl ⟨v,_,ha,.inr q5,by rw[q3];exact k3,by rw[q4];exact k4⟩)
     ·exact .inr (.inl ⟨v,r2,by rw[or v e];exact k1,k2,k3,k4⟩)
    ·by_cases e:v=w
     ·subst e
      rw[h1]at k1;cases k1;rw[q1]at k2;cases k2
     ·exact .inr (.inr ⟨v,r2,by rw[or v e];exact k1,k2,k3,k4⟩)
   ·obtain⟨q1,q2,q3,q4⟩:=q
    have ha:=h4 (by rw[q2];exact cK.noConfusion)
    obtain⟨kr1,kr2⟩:=kr;obtain⟨w6,apX⟩:=kr1 (.inr q1);obtain⟨rlo,rhi⟩:=kr2 q1;rcases q4 with⟨n,hn,q5⟩|⟨q5,q6⟩
    ·have hep:s'.m.ep=s.m.ep:=by rw[h2,q5]
     rw[hep];by_cases e:i=r.i
     ·right;right
      refine⟨w,_,ha,q2,by rw[q3,e],?_⟩
      have:s'.m.sl i=n:=by rw[h3,hn.2,e,ky]
      rw[this,((qf hn.1).2.2.2.2.2.2.2.2.2.2.2.2.2.2.2.2 rfl).2.2];exact rhi
     ·have es:s'.m.sl i=s.m.sl i:=by rw[h3,hn.2,il _ _ e]
      rw[es]at h6 ⊢;rcases ee i hi h6 with k|⟨v,r2,k1,k2,k3,k4⟩|⟨v,r2,k1,k2,k3,k4⟩
      ·exact .inl k
      ·by_cases ev:v=w
       ·subst ev
        rw[h1]at k1;cases k1;exact absurd k3.symm e
       ·exact .inr (.inl ⟨v,r2,by rw[or v ev];exact k1,k2,k3,k4⟩)
      ·by_cases ev:v=w
       ·subst ev
        rw[h1]at k1;cases k1;rw[q1]at k2;cases k2
       ·exact .inr (.inr ⟨v,r2,by rw[or v ev];exact k1,k2,k3,k4⟩)
    ·have es:s'.m.sl=s.m.sl:=by rw[h3,q5]
     have hep:s'.m.ep=s.m.ep:=by rw[h2,q5]
     rw[es]at h6 ⊢;rw[hep];rcases ee i hi h6 with k|⟨v,r2,k1,k2,k3,k4⟩|⟨v,r2,k1,k2,k3,k4⟩
     ·exact .inl k
     ·by_cases ev:v=w
      ·subst ev
       rw[h1]at k1;cases k1;left;have hwd:s.m.sl r.i=r.wd:=by rw[k3];exact k4.symm
       have hn:=q6 hwd;refine Classical.byContradiction λhlt=> ?_
       have:az r.wd 17 0 r.ep≠none:=by
        have F1:Facts r.wd:=by rw[<-hwd,k3];exact F i hi
        unfold az;rw[if_pos ⟨kN.2 F1,by decide,by decide⟩]
        show(xk r.wd r.ep).map _≠none;unfold xk;rw[if_pos ⟨w6,rlo,by rw[<-k4,apX]at hlt;omega⟩]
        exact λh=>by cases h
       exact this hn
      ·exact .inr (.inl ⟨v,r2,by rw[or v ev];exact k1,k2,k3,k4⟩)
     ·by_cases ev:v=w
      ·subst ev
       rw[h1]at k1;cases k1;rw[q1]at k2;cases k2
      ·exact .inr (.inr ⟨v,r2,by rw[or v ev];exact k1,k2,k3,k4⟩)
   ·obtain⟨q1,q2,q3,q4⟩:=q
    have es:s'.m.sl=s.m.sl:=by rw[h3,q3]
    have hep:s'.m.ep=s.m.ep+1:=by rw[h2,q4,e64]
    rw[es]at h6 ⊢;rw[hep];rcases ee i hi h6 with k|⟨v,r2,k1,k2,k3,k4⟩|⟨v,r2,k1,k2,k3,k4⟩
    ·left;omega
    ·by_cases ev:v=w
     ·subst ev
      rw[h1]at k1;cases k1;rw[q1]at k2;rcases k2 with k2|k2<;>cases k2
     ·exact .inr (.inl ⟨v,r2,by rw[or v ev];exact k1,k2,k3,k4⟩)
    ·omega
   ·grind
end
noncomputable section
open Classical
variable{c:Cn} {w:Nat} {s s':Ms} {m m':Mm} {i:Nat} {g:Bool} {K:Int}
def EpI(s:Ms):Prop:=∀v t p a,(s.ws v).ph=.ax t p a->0<=t.ep/\t.ep<=s.m.ep
theorem aos{t:Td}:(t.step c w m).1.ep=t.ep\/(t.step c w m).1.ep=m.ep:=by
 grind [Td.step,eQ]
theorem anb(I:EpI s)(e0:0<=s.m.ep)(em:s.m.ep<=(ai c s w).m.ep)(o:∀j,j≠w->(ai c s w).ws j=s.ws j):EpI (ai c s w):=by
 refine akg I o ⟨Int.le_refl 0,by show(0:Int)<=_;omega⟩ (λt h e=> ?_) (λt h=>⟨h.1,by omega⟩)
 grind [aos]
def prog(i:Nat)(p:Ph):Prop:=∃r,dC p=some r/\r.i=i/\(r.st=.look\/r.st=.iI\/r.st=.jk)
def PpT(s:Ms)(t:Td):Prop:=t.ep<s.m.ep\/s.m.sl t.i=t.wd\/(s.m.sl t.i).st≠6\/∃x,prog t.i (s.ws x).ph
def PpI(s:Ms):Prop:=∀v t p a,(s.ws v).ph=.ax t p a->(t.st=.pins\/t.st=.clear)->PpT s t
theorem akF{t}(h:PpT s t)(hx:RtX s.m s'.m (dC (s.ws w).ph) (dC (s'.ws w).ph))(eb:0<=s.m.ep/\s.m.ep<=4000000000000000000)(hep:t.ep<=s.m.ep)(o:∀j,j≠w->s'.ws j=s.ws j):PpT s' t:=by
 obtain⟨m1,m2⟩:=ahp hx eb;have e64:aR (s.m.ep+1)=s.m.ep+1:=fA ⟨by omega,by omega⟩
 unfold PpT at*;by_cases hlt:t.ep<s'.m.ep
 ·exact .inl hlt
 have old:∀{x:Nat},x≠w->prog t.i (s.ws x).ph->∃x,prog t.i (s'.ws x).ph:=λ{x} e h=>⟨x,by grind⟩
 cases hx with
 |idle h1 h2 h3 h4=>
  rcases h with h|h|h|⟨x,h⟩
  ·omega
  ·grind
  ·by_cases h6:(s'.m.sl t.i).st=6
   ·rw[h2 _ h6]at h6;exact absurd h6 h
   ·exact .inr (.inr (.inl h6))
  ·by_cases e:x=w
   ·obtain⟨r,hr,_⟩:=h
    rw[e,h3]at hr;cases hr
   ·exact .inr (.inr (.inr (old e h)))
 |go r h1 h2 h3 h4 h5=>
  rcases agU (m:=s.m) (r:=r)with q|q|q|q|q
  ·obtain⟨q1,q2⟩:=q
   rcases q2 with⟨n,hn,q3,q4,q5,q6⟩|⟨q3,q4⟩
   ·by_cases e:t.i=r.i
    ·exact .inr (.inr (.inr ⟨w,_,h4 (by rw[q6];exact cK.noConfusion),by rw[q4,e],.inl q6⟩))
    ·have es:s'.m.sl t.i=s.m.sl t.i:=by rw[h3,hn.2,il _ _ e]
     rw[es];rcases h with h|h|h|⟨x,h⟩
     ·omega
     ·exact .inr (.inl h)
     ·exact .inr (.inr (.inl h))
     ·by_cases ex:x=w
      ·obtain⟨r2,hr,hi,_⟩:=h
       rw[ex,h1]at hr;cases hr;exact absurd hi.symm e
      ·exact .inr (.inr (.inr (old ex h)))
   ·have es:s'.m.sl=s.m.sl:=by rw[h3,q3]
    rw[es];rcases h with h|h|h|⟨x,h⟩
    ·omega
    ·exact .inr (.inl h)
    ·exact .inr (.inr (.inl h))
    ·by_cases ex:x=w
     ·obtain⟨r2,hr,hi,hs⟩:=h
      rw[ex,h1]at hr;cases hr;rw[q1]at hs;rcases hs with hs|hs|hs<;>cases hs
     ·exact .inr (.inr (.inr (old ex h)))
  ·obtain⟨q1,q2,q3,q4,q5,q6⟩:=q
   have es:s'.m.sl=s.m.sl:=by rw[h3,q2]
   rw[es];rcases h with h|h|h|⟨x,h⟩
   ·omega
   ·exact .inr (.inl h)
   ·exact .inr (.inr (.inl h))
   ·by_cases ex:x=w
    ·obtain⟨r2,hr,hi,hs⟩:=h
     rw[ex,h1]at hr;cases hr;exact .inr (.inr (.inr ⟨w,_,h4 (by rw[q5];exact cK.noConfusion),by rw[q3];exact hi,.inr (.inl q5)⟩))
    ·exact .inr (.inr (.inr (old ex h)))
  ·obtain⟨q1,q2,q3,q4⟩:=q
   have ha:=h4 (by rw[q2];exact cK.noConfusion)
   by_cases e:t.i=r.i
   ·exact .inr (.inr (.inr ⟨w,_,ha,by rw[q3,e],.inr (.inr q2)⟩))
   ·have es:s'.m.sl t.i=s.m.sl t.i:=by
     rcases q4 with⟨n,hn,_⟩|⟨q5,_⟩
     ·rw[h3,hn.2,il _ _ e]
     ·rw[h3,q5]
    rw[es];rcases h with h|h|h|⟨x,h⟩
    ·omega
    ·exact .inr (.inl h)
    ·exact .inr (.inr (.inl h))
    ·by_cases ex:x=w
     ·obtain⟨r2,hr,hi,hs⟩:=h
      rw[ex,h1]at hr;cases hr;exact absurd hi.symm e
     ·exact .inr (.inr (.inr (old ex h)))
  ·omega
  ·obtain⟨q1,q2,q3⟩:=q
   have es:s'.m.sl=s.m.sl:=by rw[h3,q3]
   rw[es];rcases h with h|h|h|⟨x,h⟩
   ·omega
   ·exact .inr (.inl h)
   ·exact .inr (.inr (.inl h))
   ·by_cases ex:x=w
    ·obtain⟨r2,hr,hi,hs⟩:=h
     rw[ex,h1]at hr;cases hr;rw[q1]at hs;rcases hs with hs|hs|hs<;>cases hs
    ·exact .inr (.inr (.inr (old ex h)))
theorem alQ{t:Td}{S}(h:t.look.fd=none)(hf:(t.fu S m).look.fd.isSome=true):m.sl (t.fu S m).i=(t.fu S m).wd:=by
 grind [Td.fu,Fd.step]
theorem ap1{t}(T:pX c t)(h:(t.step c w m).1.st=.pins\/(t.step c w m).1.st=.clear):(m.sl (t.step c w m).1.i=(t.step c w m).1.wd/\(t.step c w m).2=m)\/((t.st=.pins\/t.st=.clear)/\(t.step c w m).1.i=t.i/\(t.step c w m).1.wd=t.wd/\(t.step c w m).1.ep=t.ep/\(t.step c w m).2=m):=by
 have sk:∀t:Td,(t.fu c.S m).st=t.st:=λt=>eQ.1
 obtain⟨st,ep,cl,qu,look,j,wd,other,head,rt⟩:=t;cases st with
 |old=>
  have T:look.fd=none:=T;have sf:=alQ (S:=c.S) (m:=m) (t:=⟨.old,ep,cl,qu,look,j,wd,other,head,rt⟩) T;grind [Td.step]
 |pins=>right;unfold Td.step at *;grind
 |dL=>
  exfalso;obtain⟨k1,_⟩:=eQ (m:=m) (t:=⟨.dL,ep,cl,qu,look,j,wd,other,head,rt⟩) (S:=c.S);unfold Td.step at h;dsimp only at h;generalize Td.fu c.S m ⟨.dL,ep,cl,qu,look,j,wd,other,head,rt⟩=u at*;have k1:u.st=.dL:=k1;split at h
  ·rcases h with h|h<;>cases h
  ·split at h
   ·rcases h with h|h<;>cases h
   ·rw[k1]at h;rcases h with h|h<;>cases h
 |some=>
  obtain⟨k1,_⟩:=eQ;unfold Td.step at h;dsimp only at h;split at h
  ·rcases h with h|h<;>cases h
  ·split at h
   ·rcases h with h|h<;>cases h
   ·rw[k1]at h;rcases h with h|h<;>cases h
 |_=>
  unfold Td.step at h;dsimp only at h;repeat' split at h
  all_goals (rcases h with h|h<;>cases h)
theorem amF(I:PpI s)(E:EpI s)(hx:RtG c s w)(eb:0<=s.m.ep/\s.m.ep<=4000000000000000000)(X:jO c w (s.ws w))(o:∀j,j≠w->(ai c s w).ws j=s.ws j):PpI (ai c s w):=by
 intro v t p a h hs;by_cases e:v=w
 ·subst e
  rcases ahz t p a h with rfl|⟨t0,k1,k2,k3⟩
  ·rcases hs with hs|hs<;>cases hs
  ·unfold jO at X
   rw[k1]at X;rw[k2]at hs;rcases ap1 X.1 hs with⟨q1,q2⟩|⟨q1,q2,q3,q4,q5⟩
   ·right;grind
   ·have k:=akF (I v t0 p a k1 q1) hx eb (E v t0 p a k1).2 o
    unfold PpT at k ⊢;rw[k2,q2,q3,q4];exact k
 ·rw[o v e]at h
  exact akF (I v t p a h hs) hx eb (E v t p a h).2 o
end
noncomputable section
open Classical
variable{c:Cn} {w:Nat} {s s':Ms} {m m':Mm} {i:Nat} {g:Bool} {K:Int}
def Kd5(t:Td):Prop:=(t.st=.old\/t.st=.pins\/t.st=.clear)->t.look.kd=5
def KdI(s:Ms):Prop:=∀v t p a,(s.ws v).ph=.ax t p a->Kd5 t
theorem apA{f:Fd}{S}:(f.step S m).kd=f.kd:=by unfold Fd.step;grind
theorem amz{t:Td}{S}:(t.fu S m).look.kd=t.look.kd:=by
 grind [Td.fu,apA]
theorem ap4{t}(h:Kd5 t):Kd5 (t.step c w m).1:=by
 obtain⟨st,ep,cl,qu,look,j,wd,other,head,rt⟩:=t;cases st with
 |dL=>
  obtain⟨k1,_⟩:=eQ (m:=m) (t:=⟨.dL,ep,cl,qu,look,j,wd,other,head,rt⟩) (S:=c.S);unfold Td.step;dsimp only;generalize Td.fu c.S m ⟨.dL,ep,cl,qu,look,j,wd,other,head,rt⟩=u at*;have k1:u.st=.dL:=k1;unfold Kd5 at*;split
  ·intro h;rcases h with h|h|h<;>cases h
  ·split
   ·intro _;rfl
   ·rw[k1];intro h;rcases h with h|h|h<;>cases h
 |some=>
  obtain⟨k1,_⟩:=eQ (m:=m) (t:=⟨.some,ep,cl,qu,look,j,wd,other,head,rt⟩) (S:=c.S);unfold Td.step;dsimp only;generalize Td.fu c.S m ⟨.some,ep,cl,qu,look,j,wd,other,head,rt⟩=u at*;have k1:u.st=.some:=k1;unfold Kd5 at*;split
  ·intro h;rcases h with h|h|h<;>cases h
  ·split
   ·intro h;rcases h with h|h|h<;>cases h
   ·rw[k1];intro h;rcases h with h|h|h<;>cases h
 |old=>
  have k2:=amz (m:=m) (t:=⟨.old,ep,cl,qu,look,j,wd,other,head,rt⟩) (S:=c.S);have h0:look.kd=5:=h (.inl rfl);unfold Td.step;dsimp only;generalize Td.fu c.S m ⟨.old,ep,cl,qu,look,j,wd,other,head,rt⟩=u at*;have k2:u.look.kd=look.kd:=k2;rw[h0]at k2;unfold Kd5 at*;split
  ·intro _;exact k2
  ·split
   ·split<;>(intro h;rcases h with h|h|h<;>cases h)
   ·intro _;exact k2
 |pins=>
  have h0:look.kd=5:=h (.inr (.inl rfl));have k3:look.go.kd=look.kd:=by unfold Fd.go;split<;>rfl
  unfold Td.step;dsimp only;split
  ·intro _;exact k3.trans h0
  ·intro _;exact h0
 |clear=>
  have h0:=h (.inr (.inr rfl));have k3:look.go.kd=look.kd:=by unfold Fd.go;split<;>rfl
  intro _;exact k3.trans h0
 |_=>
  unfold Td.step;dsimp only;repeat' split
  all_goals (intro h;rcases h with h|h|h<;>cases h)
theorem amQ(I:KdI s)(o:∀j,j≠w->(ai c s w).ws j=s.ws j):KdI (ai c s w):=
 akg I o (λh=>by rcases h with h|h|h<;>cases h) (λt h e=>ap4 h) (λt h=>h)
def LbT(m:Mm)(i:Nat)(t:Td):Prop:=match t.st with
 | .ep=>True| .pin=>True| .cl=>True| .dL=>True| .go=>True
 | .old=>t.look.at_<=i\/t.ep<m.ep
 | .pins=>t.look.at_<=i\/t.ep<m.ep
 | .clear=>t.look.at_<=i\/t.ep<m.ep
 | .done=>False
 |_=>t.ep<m.ep
def LbP(m:Mm)(i:Nat)(p:Ph):Prop:=busy p\/∃t q a,p=.ax t q a/\LbT m i t
def LbI(c:Cn)(s:Ms):Prop:=∀i,i<c.S->(s.m.sl i).st=6->∃v,LbP s.m i (s.ws v).ph
theorem amL{t}(h:LbT m i t)(e:m.ep<=m'.ep):LbT m' i t:=by
 grind [LbT]
theorem akG{p}(h:LbP m i p)(e:m.ep<=m'.ep):LbP m' i p:=by
 rcases h with h|⟨t,q,a,h,k⟩
 ·exact .inl h
 ·exact .inr ⟨t,q,a,h,amL k e⟩
theorem alU{p}{r}(h:dC p=some r):LbP m i p:=by
 cases p with
 |ax t q a=>
  unfold dC at h;dsimp only at h;split at h
  ·exact .inr ⟨t,q,a,rfl,by grind [LbT]⟩
  ·cases h
 |work k=>exact .inl trivial
 |_=>cases h
theorem ap8{p}(h:BzP p):LbP m i p:=by
 rcases h with h|⟨q,a,h⟩
 ·exact .inl h
 ·exact .inr ⟨_,q,a,h,trivial⟩
theorem amy{t:Td}{S}(h:t.look.fd=none)(hk:t.look.kd=5):
  (S<=t.look.at_/\(t.fu S m).look.fd=none/\(t.fu S m).look.at_=t.look.at_)\/(t.look.at_<S/\(m.sl t.look.at_).st=6/\(t.fu S m).look.fd.isSome=true/\(t.fu S m).look.at_=t.look.at_)\/(t.look.at_<S/\(m.sl t.look.at_).st≠6/\(t.fu S m).look.fd=none/\(t.fu S m).look.at_=t.look.at_+1):=by
 have e1:(t.fu S m).look=t.look.step S m:=by
  grind [Td.fu]
 have e2:fits t.look.kd t.look.ow (m.sl t.look.at_)↔(m.sl t.look.at_).st=6:=by rw[hk];exact Iff.rfl
 grind [Fd.step]
theorem ap2{t}(T:pX c t)(Kd:Kd5 t)(L:LbT m i t)(hi:i<c.S)(h6:((t.step c w m).2.sl i).st=6)(hm:m.ep<=(t.step c w m).2.ep):
  LbT (t.step c w m).2 i (t.step c w m).1\/(t.st=.pins/\t.i=i/\oC (m.pn t.other) t.wd.ep/\¬t.ep<m.ep/\(t.step c w m).2=m)\/(t.st=.clear/\t.i=i/\t.swap m 12 w=none/\¬t.ep<m.ep/\(t.step c w m).2=m):=by
 obtain⟨st,ep,cl,qu,look,j,wd,other,head,rt⟩:=t;cases st with
 |ep=>exact .inl trivial
 |pin=>exact .inl trivial
 |cl=>exact .inl trivial
 |dL=>
  left;obtain⟨k1,_⟩:=eQ (m:=m) (t:=⟨.dL,ep,cl,qu,look,j,wd,other,head,rt⟩) (S:=c.S);unfold Td.step;dsimp only;generalize Td.fu c.S m ⟨.dL,ep,cl,qu,look,j,wd,other,head,rt⟩=u at*;have k1:u.st=.dL:=k1;split
  ·exact True.intro
  ·split
   ·exact .inl (Nat.zero_le _)
   ·unfold LbT;rw[k1];exact True.intro
 |go=>
  left;unfold Td.step;dsimp only;split<;>exact True.intro
 |old=>
  left;have T:look.fd=none:=T;have kd:look.kd=5:=Kd (.inl rfl);have L:look.at_<=i\/ep<m.ep:=L
  have h6:(m.sl i).st=6:=by
   have e:((Td.step c w m ⟨.old,ep,cl,qu,look,j,wd,other,head,rt⟩).2)=m:=by
    unfold Td.step;dsimp only;repeat' split
    all_goals rfl
   rw[e]at h6;exact h6
  have so:=amy (m:=m) (t:=⟨.old,ep,cl,qu,look,j,wd,other,head,rt⟩) (S:=c.S) T kd;obtain⟨k1,_,_,k4,_⟩:=eQ (m:=m) (t:=⟨.old,ep,cl,qu,look,j,wd,other,head,rt⟩) (S:=c.S);unfold Td.step;dsimp only;generalize Td.fu c.S m ⟨.old,ep,cl,qu,look,j,wd,other,head,rt⟩=u at*;have k1:u.st=.old:=k1;have k4:u.ep=ep:=k4;have so:(c.S<=look.at_/\u.look.fd=none/\u.look.at_=look.at_)\/(look.at_<c.S/\(m.sl look.at_).st=6/\u.look.fd.isSome=true/\u.look.at_=look.at_)\/(look.at_<c.S/\(m.sl look.at_).st≠6/\u.look.fd=none/\u.look.at_=look.at_+1):=so
  have L':u.look.at_<=i\/u.ep<m.ep:=by
   rw[k4];rcases L with L|L
   ·left
    rcases so with⟨_,_,q⟩|⟨_,_,_,q⟩|⟨_,h,_,q⟩
    ·omega
    ·omega
    ·have:look.at_≠i:=fun e=>h (e▸h6)
     omega
   ·exact .inr L
  split
  ·dsimp only
   split<;>exact L'
  ·split
   ·rename_i ha
    have ha:u.look.fd=none/\c.S<=u.look.at_:=ha;have L2:u.ep<m.ep:=by omega
    split<;>exact L2
   ·unfold LbT;rw[k1];exact L'
 |pins=>
  have T:look.fd.isSome=true/\look.at_<c.S/\j=look.at_/\other<c.W:=T;have L:look.at_<=i\/ep<m.ep:=L;by_cases hb:oC (m.pn other) wd.ep
  ·by_cases e:j=i/\¬ep<m.ep
   ·exact .inr (.inl ⟨rfl,e.1,hb,e.2,by unfold Td.step;dsimp only;rw[if_pos hb]⟩)
   ·left
    unfold Td.step;dsimp only;rw[if_pos hb];have kg:look.go.at_=look.at_+1:=by unfold Fd.go;rw[if_pos T.1]
    show look.go.at_<=i\/ep<m.ep;rw[kg];omega
  ·left
   unfold Td.step;dsimp only;rw[if_neg hb];dsimp only;split<;>exact L
 |clear=>
  have T:look.fd.isSome=true/\look.at_<c.S/\j=look.at_:=T;have L:look.at_<=i\/ep<m.ep:=L;have hm:m.ep<=((Td.swap m ⟨.clear,ep,cl,qu,look,j,wd,other,head,rt⟩ 12 w).getD m).ep:=hm;have kg:look.go.at_=look.at_+1:=by unfold Fd.go;rw[if_pos T.1]
  by_cases e:j=i/\¬ep<m.ep
  ·obtain⟨e,e'⟩:=e
   cases hs:Td.swap m ⟨.clear,ep,cl,qu,look,j,wd,other,head,rt⟩ 12 w with
   |none=>
    refine .inr (.inr ⟨rfl,e,rfl,e',?_⟩);show(Td.swap m ⟨.clear,ep,cl,qu,look,j,wd,other,head,rt⟩ 12 w).getD m=m;rw[hs];rfl
   |some m'=>
    exfalso;have h6:(((Td.swap m ⟨.clear,ep,cl,qu,look,j,wd,other,head,rt⟩ 12 w).getD m).sl i).st=6:=h6;rw[hs]at h6;obtain⟨n,hn⟩:=agt hs;have q:=(qf hn.1);have h6:(m'.sl i).st=6:=h6;rw[hn.2]at h6;have h6:(upd m.sl j n i).st=6:=h6;rw[e,ky]at h6;have:=(q.2.2.2.2.2.2.2.2.2.2.2.2.1 rfl).2;omega
  ·left
   show look.go.at_<=i\/ep<((Td.swap m ⟨.clear,ep,cl,qu,look,j,wd,other,head,rt⟩ 12 w).getD m).ep;rw[kg];omega
 |line=>
  left;have L:ep<m.ep:=L;unfold Td.step;dsimp only;split<;>exact L
 |some=>
  left;have L:ep<m.ep:=L;obtain⟨k1,_,_,k4,_⟩:=eQ (m:=m) (t:=⟨.some,ep,cl,qu,look,j,wd,other,head,rt⟩) (S:=c.S);unfold Td.step;dsimp only;generalize Td.fu c.S m ⟨.some,ep,cl,qu,look,j,wd,other,head,rt⟩=u at*;have k1:u.st=.some:=k1;have k4:u.ep=ep:=k4;have L':u.ep<m.ep:=by rw[k4];exact L
  split
  ·exact L'
  ·split
   ·exact L'
   ·unfold LbT;rw[k1];exact L'
 |keep=>
  left;have L:ep<m.ep:=L;unfold Td.step at hm ⊢;dsimp only at hm ⊢;split at hm
  ·rename_i m2 h;show ep<m2.ep;have hm:m.ep<=m2.ep:=hm;omega
  ·rename_i h;exact L
 |pop=>
  left;have L:ep<m.ep:=L;unfold Td.step;dsimp only;split<;>exact L
 |grant=>
  left;have L:ep<m.ep:=L;exact L
 |back=>
  left;have L:ep<m.ep:=L;unfold Td.step;dsimp only;split<;>exact L
 |dR=>
  left;unfold Td.step;dsimp only;split
  ·exact True.intro
  ·exact L
 |eO=>
  left;exact L
 |again=>
  left;have L:ep<m.ep:=L;unfold Td.step;dsimp only;rw[if_neg (by omega)]
  exact True.intro
 |done=>exact L.elim
theorem ap7{p}{v}(h:PnP v p)(h1:1<=v)(h2:v-1<m.ep):LbP m i p:=by
 cases p with
 |rest=>have h:v=0:=h;omega
 |parked b=>have h:v=0:=h;omega
 |leaves q=>have h:v=0:=h;omega
 |ax t q a=>
  refine .inr ⟨t,q,a,rfl,?_⟩;have h:PnT v t:=h;grind [PnT,LbT]
 |_=>exact .inl trivial
theorem amM(I:LbI c s)(hx:RtG c s w)(A:All c s)(hw:w<c.W)(as1:w<=15)(P:PpI s)(E:EpI s)(Kd:KdI s)(R:RtI c s K)(hK:K<=4000000000000000000)(N:∀v,PnP (s.m.pn v) (s.ws v).ph)(o:∀j,j≠w->(ai c s w).ws j=s.ws j):LbI c (ai c s w):=by
 intro i hi h6';have hm:s.m.ep<=(ai c s w).m.ep:=(ahp hx ⟨R.eb.1,by have:=R.eb.2;omega⟩).1
 have rtl:∀{x:Nat} {r:Rt},dC (s.ws w).ph=none->dC (s.ws x).ph=some r->∃v,LbP (ai c s w).m i ((ai c s w).ws v).ph:=by
  grind [alU]
 by_cases h6:(s.m.sl i).st=6
 ·obtain⟨v,L⟩:=I i hi h6
  by_cases e:v=w
  ·subst e
   rcases L with L|⟨t,q,a,hp,L⟩
   ·exact⟨v,ap8 (aj2 L)⟩
   ·have T:pX c t:=by
     have X:=A.inv.w v hw;unfold jO at X;rw[hp]at X;exact X.1
    cases hst:t.step c v s.m with
    |mk t' m'=>
     have ef:=ui hp hst
     have em:(ai c s v).m=m':=by
      rw[ef];split
      ·cases q<;>rfl
      ·rfl
     have k:=ap2 (w:=v) (m:=s.m) T (Kd v t q a hp) L hi (by rw[hst, <-em];exact h6') (by rw[hst, <-em];exact hm)
     rw[hst]at k;have pp:=P v t q a hp;rcases k with k|⟨k1,k2,k3,k4,k5⟩|⟨k1,k2,k3,k4,k5⟩
     ·have nd:t'.st≠.done:=λh=>by
       have k:LbT m' i t':=k;unfold LbT at k;rw[h]at k;exact k
      rw[if_neg nd]at ef;refine⟨v,?_⟩;rw[em,ef,ae];exact .inr ⟨t',q,a,rfl,k⟩
     ·have hrt:dC (s.ws v).ph=none:=by rw[hp];unfold dC;dsimp only;rw[if_neg (by rw[k1];exact mO.noConfusion)]
      have k5:m'=s.m:=k5;rcases pp (.inl k1)with h|h|h|⟨x,r,hr,_⟩
      ·exact absurd h k4
      ·rw[k2]at h
       rcases R.ee i hi h6 with y|⟨x,r,hr,_⟩|⟨x,r,hr,_⟩
       ·obtain⟨b1,b2⟩:=k3
        rw[<-h]at b2;have nu:=N t.other;by_cases eu:t.other=v
        ·exfalso
         rw[eu,hp]at nu;have nu:PnT (s.m.pn v) t:=nu;unfold PnT at nu;rw[k1]at nu;have nu:s.m.pn v=t.ep+1:=nu;rw[eu]at b2;omega
        ·exact⟨t.other,by rw[o _ eu,em,k5];exact ap7 nu b1 (by omega)⟩
       ·exact rtl hrt hr
       ·exact rtl hrt hr
      ·rw[k2]at h;exact absurd h6 h
      ·exact rtl hrt hr
     ·have hrt:dC (s.ws v).ph=none:=by rw[hp];unfold dC;dsimp only;rw[if_neg (by rw[k1];exact mO.noConfusion)]
      rcases pp (.inr k1)with h|h|h|⟨x,r,hr,_⟩
      ·exact absurd h k4
      ·exfalso
       rw[k2]at h;have F1:Facts t.wd:=by rw[<-h];exact A.inv.m.1 i hi
       have hn:az t.wd 12 v 0≠none:=by
        unfold az;rw[if_pos ⟨kN.2 F1,by omega,by omega⟩]
        show(xq t.wd).map _≠none;unfold xq;rw[if_pos (by rw[<-h];exact h6)]
        exact λh=>by cases h
       unfold Td.swap at k3;split at k3
       ·rw[if_pos (by rw[k2];exact h)]at k3;cases k3
       ·rename_i e;exact hn e
      ·rw[k2]at h;exact absurd h6 h
      ·exact rtl hrt hr
  grind [akG]
 ·cases hx with
  |idle h1 h2 h3 h4=>rw[h2 i h6']at h6';exact absurd h6' h6
  |go r h1 h2 h3 h4 h5=>
   rcases agU with q|q|q|q|q
   ·obtain⟨q1,q2⟩:=q
    rcases q2 with⟨n,hn,q3,q4,q5,q6⟩|⟨q3,q4⟩
    ·exact⟨w,alU (h4 (by rw[q6];exact cK.noConfusion))⟩
    ·rw[h3,q3]at h6';exact absurd h6' h6
   ·rw[h3,q.2.1]at h6';exact absurd h6' h6
   ·obtain⟨q1,q2,q3,q4⟩:=q
    exact⟨w,alU (h4 (by rw[q2];exact cK.noConfusion))⟩
   ·rw[h3,q.2.2.1]at h6';exact absurd h6' h6
   ·rw[h3,q.2.2]at h6';exact absurd h6' h6
end
noncomputable section
open Classical Yq
variable{c:Cn} {w:Nat} {s s':Ms} {m m':Mm} {i:Nat} {g:Bool} {K:Nat}
structure akA(s s':Ms):Prop where
 ep:s'.m.ep=s.m.ep
 pn:s'.m.pn=s.m.pn
 lim:∀i,(s'.m.sl i).st=6->s'.m.sl i=s.m.sl i
 lim':∀i,(s.m.sl i).st=6->s'.m.sl i=s.m.sl i
 ph:∀v,(s'.ws v).ph=(s.ws v).ph\/((s.ws v).ph=.rest/\(s'.ws v).ph=.pin none)
theorem apF(D:DoC c s s'):akA s s':=by
 cases D with
 |same h1 h2=>exact⟨by rw[h1],by rw[h1],λi _=>by rw[h1],λi _=>by rw[h1],λv=>.inl (by rw[h2])⟩
 |ask u a hu hr h1 h2=>
  refine⟨by rw[h1],by rw[h1],λi _=>by rw[h1],λi _=>by rw[h1],λv=> ?_⟩
  rw[h2];grind [ky,il]
 |brk j n h0 h1 h2=>
  obtain⟨q1,q2,q3⟩:=alS h0;refine⟨by rw[h1];rfl,by rw[h1];rfl,λi h=> ?_,λi h=> ?_,λv=>.inl (by rw[h2])⟩
  ·rw[h1]at h ⊢
   have h:(upd s.m.sl j n i).st=6:=h;show upd s.m.sl j n i=_;grind [ky,il]
  ·rw[h1]
   show upd s.m.sl j n i=_;grind [il]
theorem akA.td(D:akA s s'){v}{t}{p}{a}(h:(s'.ws v).ph=.ax t p a):(s.ws v).ph=.ax t p a:=by
 rcases D.ph v with k|⟨_,k⟩
 all_goals grind
theorem akA.rt(D:akA s s')(v):dC (s'.ws v).ph=dC (s.ws v).ph:=by
 rcases D.ph v with k|⟨k0,k⟩
 ·rw[k]
 ·rw[k,k0];rfl
structure GxS(c:Cn)(s:Ms)(K:Nat):Prop where
 nx:Nx c s K
 out:∀v,c.W<=v->(s.ws v).ph=.rest
 wt:WtI c s
 cl:ClI s
 tc:TcI s
 rs:RsI c s
 dl:DlI c s
 cm:CmI c s
 rt:RtI c s K
 ep:EpI s
 pp:PpI s
 kd:KdI s
 lb:LbI c s
 pn:∀v,PnP (s.m.pn v) (s.ws v).ph
theorem aqc(G:GxS c s K)(hW:c.W<=14)(hS:1<=c.S)(x)(hk:x.kind≠1):GxS c (dX c s x).2 (K+1):=by
 have D:=aks (c:=c) (s:=s) x hk;have F:=apF D;obtain⟨nx,out,wt,cl,tc,rs,dl,cm,rt,ep,pp,kd,lb,pn⟩:=G;refine⟨ai9 hW hS nx x,λv hv=> ?_,aom wt x hk,apJ cl D,aou tc D,aoB rs D,apH dl D,apI cm x hk,⟨?_,λv r hr=> ?_,λi hi h6=> ?_⟩,λv t p a h=> ?_,λv t p a h hs=> ?_,λv t p a h=>kd v t p a (F.td h),λi hi h6=> ?_,λv=> ?_⟩
 ·cases D with
  |same h1 h2=>grind
  |brk j n h0 h1 h2=>rw[h2];exact out v hv
  |ask u a hu hr h1 h2=>rw[h2,il _ _ (by omega)];exact out v hv
 ·rw[F.ep]
  have:=rt.eb;omega
 ·rw[F.rt]at hr
  have k:=rt.rp v r hr;unfold RpC at*;rw[F.ep];exact k
 ·have e:=F.lim i h6
  rw[e]at h6;have k:=rt.ee i hi h6;unfold EeC at*;rw[e,F.ep];rcases k with k|⟨v,r,k1,k2⟩|⟨v,r,k1,k2⟩
  ·exact .inl k
  ·exact .inr (.inl ⟨v,r,by rw[F.rt];exact k1,k2⟩)
  ·exact .inr (.inr ⟨v,r,by rw[F.rt];exact k1,k2⟩)
 ·rw[F.ep];exact ep v t p a (F.td h)
 ·have k:=pp v t p a (F.td h) hs
  unfold PpT at*;rw[F.ep];rcases k with k|k|k|⟨x,r,k1,k2⟩
  ·exact .inl k
  ·by_cases h6:((dX c s x).2.m.sl t.i).st=6
   ·exact .inr (.inl (by rw[F.lim _ h6];exact k))
   ·exact .inr (.inr (.inl h6))
  ·exact .inr (.inr (.inl λh6=>k (by rw[<-F.lim _ h6];exact h6)))
  ·exact .inr (.inr (.inr ⟨x,r,by rw[F.rt];exact k1,k2⟩))
 ·have e:=F.lim i h6
  rw[e]at h6;obtain⟨v,k⟩:=lb i hi h6;refine⟨v,?_⟩;rcases F.ph v with h|⟨h0,h⟩
  ·rw[h];exact akG k (by rw[F.ep];exact Int.le_refl _)
  ·rw[h];exact .inl trivial
 ·rw[F.pn]
  rcases F.ph v with h|⟨h0,h⟩
  ·rw[h];exact pn v
  ·rw[h];trivial
theorem akN(G:GxS c s K)(hW:c.W<=14)(hS:1<=c.S)(hw:w<c.W)(hc:aQ s w)(hK:(K:Int)<=4000000000000000000):GxS c (ai c s w) (K+1):=by
 obtain⟨nx,out,wt,cl,tc,rs,dl,cm,rt,ep,pp,kd,lb,pn⟩:=G;have A:=nx.all;have I:=A.inv;have o:=(BD hw (by omega) hS I.m I.g (I.w w hw) hc).2.2.2.1
 have hx:=amA (I.w w hw) (A.wd w hw);have eb:0<=s.m.ep/\s.m.ep<=4000000000000000000:=⟨rt.eb.1,by have:=rt.eb.2;omega⟩
 have em:=(ahp hx eb).1;have pg:=amI (c:=c) (pn w) (λt p a h=>⟨(ep w t p a h).1,by have:=(ep w t p a h).2;omega⟩)
 refine⟨aeS hW hS hw nx hc,λv hv=> ?_,amu wt A hw o,ani cl A hw o,amx tc A hw o,amE rs A tc (aok (I.w w hw) A.nd) hw o,ane dl A hw (by omega) hc o,ang cm wt A hw (by omega) hc o,?_,anb ep eb.1 em o,amF pp ep hx eb (I.w w hw) o,amQ kd o,amM lb hx A hw (by omega) pp ep kd rt hK pn o,λv=> ?_⟩
 ·grind
 ·have:=amD rt A hx hK o
  grind
 ·by_cases e:v=w
  ·rw[e];exact pg.1
  ·rw[pg.2 v e,o v e];exact pn v
theorem aof:GxS c Ms.zero 0:=by
 refine⟨aeR,λv _=>rfl,amt,λh=>absurd rfl h,λv t p a h=>(by cases h),λ_ h=>absurd rfl h,⟨λi hi h=>(by cases h),λv t h=>(by cases h)⟩,anf,⟨⟨Int.le_refl 0,Int.le_refl 0⟩,λv r h=>(by cases h),λi hi h=>(by cases h)⟩,λv t p a h=>(by cases h),λv t p a h=>(by cases h),λv t p a h=>(by cases h),λi hi h=>(by cases h),λv=>rfl⟩
theorem apz(G:GxS c s K)(hW:c.W<=14)(hS:1<=c.S)(hK:(K:Int)<=4000000000000000000)(x):GxS c (dX c s x).2 (K+1):=by
 by_cases hk:x.kind=1
 ·by_cases hp:inW c x.who/\aQ s x.who.toNat
  ·have e:(dX c s x).2=ai c s x.who.toNat:=by
    grind [dX]
   grind [inW,akN]
  ·have e:(dX c s x).2=s:=by
    unfold dX;rw[if_neg (by omega),if_pos hk,if_neg hp]
   rw[e];obtain⟨nx,out,wt,cl,tc,rs,dl,cm,rt,ep,pp,kd,lb,pn⟩:=G;refine⟨by have:=ai9 hW hS nx x;rw[e]at this;exact this,out,wt,cl,tc,rs,dl,cm,⟨⟨rt.eb.1,by have:=rt.eb.2;omega⟩,rt.rp,rt.ee⟩,ep,pp,kd,lb,pn⟩
 grind [aqc]
end
noncomputable section
open Classical Yq
variable{c:Cn} {w:Nat} {s s':Ms} {m m':Mm} {i:Nat} {g:Bool} {K:Nat}
def PfP:Ph->Prop
 | .parked b=>b=false
 | .ax _ p _=>p=some false
 |_=>False
def PfI(s:Ms):Prop:=∀v,PfP (s.ws v).ph->v∉s.m.qu
theorem akj{q}(T:Dr w q)(h:PfP ((aV c w s (s.ws w) q).ws w).ph):w∉s.m.qu:=by
 cases hst:q.step c w s.m with
 |mk q' m'=>
  rw[QQ hst]at h;have k:=Kt (c:=c) (m:=s.m) T;rw[hst]at k;by_cases hd:q'.st=.done
  ·rw[if_pos hd]at h
   rcases k.1 hd with⟨k1,k2,k3⟩|⟨k1,k2⟩
   ·grind [Qu.step]
   ·rw[if_neg (by rw[k1];decide)]at h
    rw[ae]at h;cases h
  ·rw[if_neg hd,ae]at h
   cases h
theorem aoD(X:jO c w (s.ws w))(N:LnW (s.ws w).ph)(h:PfP ((ai c s w).ws w).ph):PfP (s.ws w).ph\/w∉s.m.qu:=by
 cases hq:(s.ws w).ph with
 |rest=>
  grind [ai]
 |pin x=>
  exfalso;have k:=aj2 (c:=c) (s:=s) (w:=w) (by rw[hq];trivial)
  rcases k with k|⟨q,a,k⟩
  ·revert h k;cases((ai c s w).ws w).ph<;>intro h k<;>first|exact k.elim|exact h.elim
  ·unfold ai at h k;dsimp only at h k;rw[hq]at h k
   cases x<;>(dsimp only at k;rw[ae]at k;cases k)
 |work x=>
  exfalso;have e0:ai c s w=ak c w s (s.ws w) x:=by unfold ai;dsimp only;rw[hq]
  rw[e0]at h;revert h
  have h1:∀(s:Ms) (x:Wr),¬PfP x.ph->¬PfP ((s.put w x).ws w).ph:=λs x h=>by rw[ae];exact h
  have e1:∀x a,¬PfP (Wr.end_ x a).ph:=λx a h=>by cases h
  have e2:∀x k,¬PfP (Wr.to x (.work k)).ph:=λx a h=>h
  have e3:∀x k,¬PfP (Wr.to x (.enters k)).ph:=λx a h=>h
  have e4:∀x k,¬PfP (Wr.to x (.counts k)).ph:=λx a h=>h
  show¬_;unfold ak;dsimp only;repeat' split
  all_goals first|exact h1 _ _ (e1 _ _)|exact h1 _ _ (e2 _ _)|exact h1 _ _ (e3 _ _)|exact h1 _ _ (e4 _ _)
 |counts t=>
  exfalso;unfold ai at h;dsimp only at h;rw[hq]at h;dsimp only at h;split at h
  ·split at h<;>(rw[ae]at h;cases h)
  ·rw[ae]at h;cases h
 |enters q=>
  right;have X:Dt w q:=by unfold jO at X;rw[hq]at X;exact X
  cases hst:q.step c w s.m with
  |mk q' m'=>
   rw[lL hq hst]at h;by_cases hd:q'.st=.done
   ·rw[if_pos hd]at h
    split at h
    ·rename_i k
     rw[ae]at h;have h:(some (decide (q'.e=0)))=some false:=h;have h0:q'.e≠0:=by simpa using h
     have h8:q'.e=8:=k.resolve_left h0;intro hw;obtain⟨st,ln,first,why,e⟩:=q
     have X:Dt w ⟨st,ln,first,why,e⟩:=X
     cases st with
     |come=>
      unfold Qu.step at hst;dsimp only at hst;split at hst
      ·cases hst;cases h8
      ·cases hst;cases hd
     |push=>
      unfold Qu.step at hst;dsimp only at hst;split at hst<;>(cases hst;cases hd)
     |closed=>
      unfold Qu.step at hst;dsimp only at hst;split at hst
      ·cases hst;cases h8
      ·cases hst;cases hd
     |look=>
      unfold Qu.step at hst;dsimp only at hst;rw[if_pos hw]at hst;cases hst;cases hd
     |drop=>
      unfold Qu.step at hst;dsimp only at hst;split at hst
      ·cases hst
       rw[hq]at N;have N:why=5:=N (.inr rfl);have h8:why=8:=h8;omega
      ·cases hst;cases hd
     |_=>exact X.elim
    ·rw[ae]at h;cases h
   ·rw[if_neg hd,ae]at h
    cases h
 |ax t p a=>
  left;cases hst:t.step c w s.m with
  |mk t' m'=>
   have e:=ui hq hst;by_cases hd:t'.st=.done
   ·rw[if_pos hd]at e
    rw[e]at h;cases p with
    |some b=>
     have h:PfP (((s.mem m').put w ((s.ws w).to (.parked b))).ws w).ph:=h;rw[ae]at h;have h:b=false:=h;rw[h];rfl
    |none=>
     have h:PfP (((s.mem m').put w ((s.ws w).to .rest)).ws w).ph:=h;rw[ae]at h;cases h
   ·rw[if_neg hd]at e
    rw[e,ae]at h;exact h
 |parked b=>
  right;by_cases hg:s.m.gr w≠0
  ·have e:ai c s w=(s.mem s.m).put w ((s.ws w).to (.wakes (some (s.m.gr w)))):=by unfold ai;dsimp only;rw[hq];dsimp only;rw[if_pos hg];rfl
   rw[e,ae]at h;cases h
  ·have e:ai c s w=aV c w s (s.ws w) Qu.leave:=by unfold ai;dsimp only;rw[hq];dsimp only;rw[if_neg hg]
   rw[e]at h;exact akj ⟨.inl rfl,rfl⟩ h
 |wakes x=>
  exfalso;unfold ai at h;dsimp only at h;rw[hq]at h;dsimp only at h;cases x with
  |none=>unfold dh at h;dsimp only at h;rw[ae]at h;cases h
  |some g=>
   unfold dh at h;dsimp only at h;split at h<;>(rw[ae]at h;cases h)
 |leaves q=>
  right;have e:ai c s w=aV c w s (s.ws w) q:=by unfold ai;dsimp only;rw[hq]
  rw[e]at h;have X:Dr w q:=by unfold jO at X;rw[hq]at X;exact X
  exact akj X h
theorem amJ(I:PfI s)(N:∀v,LnW (s.ws v).ph)(A:All c s)(hw:w<c.W)(o:∀j,j≠w->(ai c s w).ws j=s.ws j):PfI (ai c s w):=by
 have C:=adz (A.inv.w w hw) A.nd;intro v hv hq;by_cases e:v=w
 ·subst e
  rcases C.d v hq with k|⟨_,k⟩
  ·rcases aoD (A.inv.w v hw) (N v) hv with q|q
   ·exact I v q k
   ·exact q k
  ·revert hv k
   cases((ai c s v).ws v).ph<;>intro h k<;>first|exact k.elim|exact h.elim
 ·rcases C.d v hq with k|⟨k,_⟩
  ·rw[o v e]at hv
   exact I v hv k
  ·exact e k
theorem aoE(I:PfI s)(D:DoC c s s'):PfI s':=by
 have F:=apF D
 have hq:s'.m.qu=s.m.qu:=by
  cases D with
  |same h1 h2=>rw[h1]
  |ask u a hu hr h1 h2=>rw[h1]
  |brk j n h0 h1 h2=>rw[h1];rfl
 intro v hv;rw[hq];rcases F.ph v with k|⟨_,k⟩
 ·rw[k]at hv;exact I v hv
 ·rw[k]at hv;exact hv.elim
structure GyS(c:Cn)(s:Ms)(K:Nat):Prop where
 x:GxS c s K
 pf:PfI s
 dl:∀v,(s.ws v).ask.dl<=255
 now:0<=s.now
theorem aku:((ai c s w).ws w).ask=(s.ws w).ask/\(ai c s w).now=s.now:=by
 have h1:∀(s':Ms) (x:Wr),x.ask=(s.ws w).ask/\s'.now=s.now->((s'.put w x).ws w).ask=(s.ws w).ask/\(s'.put w x).now=s.now:=λs' x h=>by rw[ae];exact h
 cases hq:(s.ws w).ph with
 |rest=>
  have e:ai c s w=s:=by unfold ai;dsimp only;rw[hq]
  rw[e];exact⟨rfl,rfl⟩
 |pin x=>
  unfold ai;dsimp only;rw[hq];cases x<;>exact h1 _ _ ⟨rfl,rfl⟩
 |work x=>
  have e0:ai c s w=ak c w s (s.ws w) x:=by unfold ai;dsimp only;rw[hq]
  rw[e0];unfold ak;dsimp only;repeat' split
  all_goals exact h1 _ _ ⟨rfl,rfl⟩
 |counts t=>
  unfold ai;dsimp only;rw[hq];dsimp only;repeat' split
  all_goals exact h1 _ _ ⟨rfl,rfl⟩
 |enters q=>
  unfold ai;dsimp only;rw[hq];dsimp only;repeat' split
  all_goals exact h1 _ _ ⟨rfl,rfl⟩
 |ax t p a=>
  unfold ai;dsimp only;rw[hq];dsimp only;split
  ·cases p with
   |some b=>exact h1 _ _ ⟨rfl,rfl⟩
   |none=>exact h1 (s.mem _) _ ⟨rfl,rfl⟩
  ·exact h1 _ _ ⟨rfl,rfl⟩
 |parked b=>
  unfold ai;dsimp only;rw[hq];dsimp only;split
  ·unfold dh;dsimp only;exact h1 _ _ ⟨rfl,rfl⟩
  ·unfold aV;dsimp only
   repeat' split
   all_goals exact h1 _ _ ⟨rfl,rfl⟩
 |wakes x=>
  unfold ai;dsimp only;rw[hq];cases x with
  |none=>exact h1 _ _ ⟨rfl,rfl⟩
  |some g=>
   unfold dh;dsimp only;split<;>exact h1 _ _ ⟨rfl,rfl⟩
 |leaves q=>
  unfold ai;dsimp only;rw[hq];unfold aV;dsimp only;repeat' split
  all_goals exact h1 _ _ ⟨rfl,rfl⟩
theorem akM(G:GyS c s K)(hW:c.W<=14)(hS:1<=c.S)(hw:w<c.W)(hc:aQ s w)(hK:(K:Int)<=4000000000000000000):GyS c (ai c s w) (K+1):=by
 obtain⟨x,pf,dl,now⟩:=G;have A:=x.nx.all;have I:=A.inv;have o:=(BD hw (by omega) hS I.m I.g (I.w w hw) hc).2.2.2.1
 have k:=aku (c:=c) (s:=s) (w:=w);refine⟨akN x hW hS hw hc hK,amJ pf x.wt.ln A hw o,λv=> ?_,by grind⟩
 grind
theorem amf(G:GyS c s K)(hW:c.W<=14)(hS:1<=c.S)(hK:(K:Int)<=4000000000000000000)(x)(hd:x.a.dl<=255):GyS c (dX c s x).2 (K+1):=by
 have gx:=apz G.x hW hS hK x;by_cases hk:x.kind=1
 ·by_cases hp:inW c x.who/\aQ s x.who.toNat
  ·have e:(dX c s x).2=ai c s x.who.toNat:=by
    unfold dX;rw[if_neg (by omega),if_pos hk,if_pos hp]
   rw[e];have:=hp.1;unfold inW at this;exact akM G hW hS (by omega) hp.2 hK
  ·have e:(dX c s x).2=s:=by
    unfold dX;rw[if_neg (by omega),if_pos hk,if_neg hp]
   rw[e]at gx ⊢;exact⟨gx,G.pf,G.dl,G.now⟩
 ·refine⟨gx,aoE G.pf (aks x hk),fun v=> ?_,?_⟩
  ·have dl:=G.dl v
   unfold dX;repeat' split
   all_goals first|exact dl|skip
   ·show(upd s.ws x.who.toNat (⟨.pin none,{x.a with op:=x.op.toNat},0⟩:Wr) v).ask.dl<=255
    unfold upd;split
    ·exact hd
    ·exact dl
  ·have now:=G.now
   unfold dX;repeat' split
   all_goals first|exact now|skip
   ·show 0<=xg s.now x.n
    unfold xg;omega
theorem aoc:GyS c Ms.zero 0:=⟨aof,λv h=>h.elim,λv=>by show(0:Int)<=255;decide,by decide⟩
structure StI(c:Cn)(s:Ms):Prop where
 ph:∀v,(s.ws v).ph=.rest\/((s.ws v).ph=.parked true/\v∈s.m.qu)
 qu:∀v,v∈s.m.qu->(s.ws v).ph=.parked true
 gr:∀v,s.m.gr v=0
 pn:∀v,s.m.pn v=0
 cl:s.m.cl≠0->s.m.qu=[]
 st:∀i,i<c.S->(s.m.sl i).st=0\/(s.m.sl i).st=2\/(s.m.sl i).st=3
 fr:s.m.qu≠[]->∀i,i<c.S->¬frees (s.m.sl i)
theorem akE(G:GyS c s K)(S:Still c s):StI c s:=by
 obtain⟨⟨nx,out,wt,cl,tc,rs,dl,cm,rt,ep,pp,kd,lb,pn⟩,pf,_,_⟩:=G;have F:=nx.all.inv.m.1
 have p0:∀v,(s.ws v).ph=.rest\/∃b,(s.ws v).ph=.parked b:=by
  intro v;by_cases hv:v<c.W
  ·have h:=S v hv
   unfold aQ at h;cases hp:(s.ws v).ph with
   |rest=>exact .inl rfl
   |parked b=>exact .inr ⟨b,rfl⟩
   |_=>rw[hp]at h;exact absurd trivial h
  ·exact .inl (out v (by omega))
 have pg:∀v b,(s.ws v).ph=.parked b->s.m.gr v=0:=by
  intro v b hp;have hv:v<c.W:=Classical.byContradiction λh=>by rw[out v (by omega)]at hp;cases hp
  have h:=S v hv;unfold aQ at h;rw[hp]at h;exact Classical.byContradiction λk=>h (.inl k)
 obtain⟨L,T⟩:=wt.tok
 have tk:∀v,(xc (s.ws v).ph).2=(none,none):=λv=>by
  rcases p0 v with h|⟨b,h⟩<;>rw[h]<;>rfl
 have gr:∀v,s.m.gr v=0:=by
  intro v;refine Classical.byContradiction λk=> ?_
  have:=(T.gr v).1 k;have hw:=(T.w v).2 (by rw[this];exact λh=>by cases h)
  rcases p0 v with h|⟨b,h⟩
  ·rw[h]at hw;cases hw
  ·exact k (pg v b h)
 have qp:∀v,v∈s.m.qu->(s.ws v).ph=.parked true:=by
  intro v hv;have:=(T.qu v).1 hv;have hw:=(T.w v).2 (by rw[this];exact λh=>by cases h)
  rcases p0 v with h|⟨b,h⟩
  ·rw[h]at hw;cases hw
  ·cases b with
   |true=>exact h
   |false=>exact absurd hv (pf v (by rw[h];rfl))
 have pq:∀v b,(s.ws v).ph=.parked b->v∈s.m.qu:=by
  intro v b hp;have hl:=(T.w v).1 (by rw[hp];rfl)
  cases hL:L v with
  |no=>exact absurd hL hl
  |qu=>exact(T.qu v).2 hL
  |gr=>exact absurd (gr v) ((T.gr v).2 hL)
  |g u=>have:=(T.g u v).2 hL;rw[tk u]at this;cases this
  |t u=>have:=(T.t u v).2 hL;rw[tk u]at this;cases this
 have clq:s.m.cl≠0->s.m.qu=[]:=by
  intro h;cases hq:s.m.qu with
  |nil=>rfl
  |cons a r=>
   exfalso;rcases cl h a (by rw[hq];exact List.mem_cons_self ..)with⟨v,k⟩|k
   ·rcases p0 v with h|⟨b,h⟩<;>(rw[h]at k;exact k)
   ·rcases p0 a with h|⟨b,h⟩<;>(rw[h]at k;exact k)
 refine⟨λv=> ?_,qp,gr,λv=> ?_,clq,λi hi=> ?_,λhq i hi hf=> ?_⟩
 ·rcases p0 v with h|⟨b,h⟩
  ·exact .inl h
  ·have:=pq v b h
   exact .inr ⟨qp v this,this⟩
 ·have k:=pn v
  rcases p0 v with h|⟨b,h⟩<;>(rw[h]at k;exact k)
 ·have f:=(F i hi).st
  have n1:(s.m.sl i).st≠1:=λh=>by
   obtain⟨v,t,_,k,_⟩:=dl.a i hi h;rcases p0 v with h|⟨b,h⟩<;>(rw[h]at k;cases k)
  have n4:¬tX (s.m.sl i):=λh=>by
   obtain⟨C,k⟩:=cm.cl;have hC:=(k.st i).1 h;cases hc:C i with
   |no=>exact hC hc
   |td v=>
    have:=(k.td v i).2 hc;rcases p0 v with h|⟨b,h⟩<;>(rw[h]at this;cases this)
   |gr v=>
    have:=(k.gr v i).2 hc;unfold qw at this;rw[gr v]at this;omega
   |wk v=>
    have:=(k.wk v i).2 hc;unfold dE at this;rcases p0 v with h|⟨b,h⟩<;>(rw[h]at this;cases this)
  have n6:(s.m.sl i).st≠6:=λh=>by
   obtain⟨v,k⟩:=lb i hi h;rcases p0 v with h|⟨b,h⟩<;>(rw[h]at k;rcases k with k|⟨t,q,a,k,_⟩;exact k;cases k)
  unfold tX at n4;omega
 ·have h0:=Classical.byContradiction fun h=>hq (clq h)
  obtain⟨v,hv,k⟩:=rs h0 hq i hi hf;rcases p0 v with h|⟨b,h⟩<;>(rw[h]at k;exact k)
end
end bq
end Go.Proofs.YteaflphddciglaaGreatDoor
