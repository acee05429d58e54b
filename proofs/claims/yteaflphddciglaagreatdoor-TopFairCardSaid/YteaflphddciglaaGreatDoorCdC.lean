import Derived.Test.YteaflphddciglaaGreatDoorCdB
set_option linter.all false
namespace Go.Proofs.YteaflphddciglaaGreatDoor
namespace bq
noncomputable section
open Classical Yq
variable{c:Cn} {w v:Nat} {s b d f:Ms} {m l:Mm} {i:Nat} {g:Bool} {K:Nat}
def amo{P:Ms->Prop}(G:GyS c f K)(W:c.W<=14)(S:1<=c.S)(n:((K+yj c f:Nat):Int)<=4000000000000000000)(o:P f)
  (p:∀s v a,GyS c s a->P s->v<c.W->aQ s v->(∀j,j≠v->(ai c s v).ws j=s.ws j)->P (ai c s v)) (r:Reach c f b):P b:=by
 induction r with
 |refl=>exact o
 |step r h e q=>
  obtain⟨a,k,_⟩:=ahE G W S n r;have I:=k.x.nx.all.inv;exact p _ _ a k q h e (BD h (by omega) S I.m I.g (I.w _ h) e).2.2.2.1
def akp{t:Td}{a:bR}(p:(s.ws w).ph=.ax t none a):((ai c s w).ws w).ph=.rest\/∃e,((ai c s w).ws w).ph=.ax e none a:=by
 cases h:t.step c w s.m with
 |mk e l=>
  rw[ui p h];split
  .exact .inl (tI Wr.ph (ae _ _ _))
  .exact .inr ⟨e,by rw[ae];rfl⟩
def agk{x:Option Int}(h:(s.ws w).ph=.pin x):(ai c s w).m.sl=s.m.sl/\(ai c s w).m.cl=s.m.cl/\((ai c s w).ws w=(s.ws w).to (.pin (some s.m.ep))\/(ai c s w).ws w=(s.ws w).to (.work (bE (s.ws w)))):=by
 cases x with
 |none=>
  have e:ai c s w=s.put w ((s.ws w).to (.pin (some s.m.ep))):=by grind [ai]
  rw[e,ae];exact⟨rfl,rfl,.inl rfl⟩
 |some a=>
  have e:ai c s w=(s.mem (s.m.pin w (aR (a+1)))).put w ((s.ws w).to (.work (bE (s.ws w)))):=by grind [ai]
  rw[e,ae];exact⟨rfl,rfl,.inr rfl⟩
def aj'(i:Nat)(x:aa)(m:Mm)(g:Gv):Prop:=
 g.i=i/\g.gen=x.gen/\g.dc=true/\m.cl≠2/\((g.st=.closed\/g.st=.look)/\m.sl i=x\/g.st=.go/\(g.rt=Rt.new i x/\m.sl i=x\/g.rt.sw=true/\(g.rt.st=.look\/g.rt.st=.iI\/g.rt.st=.jk)))
def arp{x:aa}{g:Gv}(h:aj' i x m g)(R:i<c.S)(A:x.st=3)(D:x.own=w)(F:Facts x):((g.step c w m).1.st=.done->(g.step c w m).1.e=0)/\((g.step c w m).1.st≠.done->aj' i x (g.step c w m).2 (g.step c w m).1):=by
 have E:=Yw F (.inr A);obtain⟨r,G,H,y,S,T,I,e⟩:=g;obtain⟨u,p,z,B,a⟩:=h;have u:r=i:=u;have p:G=x.gen:=p;have z:H=true:=z;subst z;have J:(0:Int)<=r/\r<c.S:=by omega
 have L:r.toNat=i:=by omega
 rcases a with⟨a|a,o⟩|⟨a,o⟩
 .have a:y=.closed:=a
  subst a;unfold Gv.step aj';grind
 .have a:y=.look:=a
  subst a;unfold Gv.step aj';dsimp only;rw[tz J,L,o,ck (λk=>k ⟨A,D,p.symm⟩),ck (λk=>by cases k.2),tz (.inl rfl)];exact⟨λk=>(by cases k),λ_=>⟨u,p,rfl,B,.inr ⟨rfl,.inl ⟨rfl,o⟩⟩⟩⟩
 .have a:y=.go:=a
  subst a;obtain⟨N,O,rep,Z,P⟩:=I;rcases o with⟨o,C⟩|⟨o,C⟩
  .cases o
   obtain⟨n,Q⟩:=cP.1 E;have e:(⟨i,x,0,.swap,false⟩:Rt).step m=(⟨i,n,0,.look,true⟩,m.set i n):=by
    unfold Rt.step;rw[Q];dsimp only;rw[tz C]
   unfold Gv.step aj';rw[e];exact⟨λk=>(by cases k),λ_=>⟨u,p,rfl,B,.inr ⟨rfl,.inr ⟨rfl,.inl rfl⟩⟩⟩⟩
  .have q:=(@Ps m ⟨N,O,rep,Z,P⟩).cl
   unfold Gv.step aj';unfold Rt.step at q ⊢;grind [Gv.fin]
def anH{g:Gv}(h:(s.ws w).ph=.work (.give g)):(ai c s w).m=(g.step c w s.m).2/\((ai c s w).ws w)=if(g.step c w s.m).1.st=.done then(s.ws w).end_ (.err (g.step c w s.m).1.e)else(s.ws w).to (.work (.give (g.step c w s.m).1)):=by
 have e:ai c s w=ak c w s (s.ws w) (.give g):=by grind [ai]
 rw[e];unfold ak;dsimp only;split<;>exact⟨rfl,ae _ _ _⟩
def aj9(i:Nat)(e:aa)(m:Mm)(x:Wr):Prop:=match x.ph with
 | .pin _=>x.ask.op=2/\x.ask.slot=i/\x.ask.gen=e.gen/\m.cl≠2/\m.sl i=e
 | .work (.give g)=>aj' i e m g
 | .ax _ p a=>p=none/\a.e=0
 | .rest=>True
 |_=>False
def ao8{n:aa}(P:aj9 i n s.m (s.ws w))(E:i<c.S)(G:n.st=3)(H:n.own=w)(F:Facts n)(z:aQ s w):aj9 i n (ai c s w).m ((ai c s w).ws w):=by
 unfold aj9 at P;cases h:(s.ws w).ph with
 |pin x=>
  rw[h]at P;obtain⟨A,q,B,C,D⟩:=P;obtain⟨r,u,o⟩:=agk h;rcases o with o|o
  .unfold aj9
   rw[o,r,u];exact⟨A,q,B,C,D⟩
  .have I:bE (s.ws w)=.give (Gv.new (s.ws w).ask.slot (s.ws w).ask.gen true):=by unfold bE;rw[A];rfl
   unfold aj9;rw[o,I];unfold aj';rw[r,u,q,B];exact⟨rfl,rfl,rfl,C,.inl ⟨.inl rfl,D⟩⟩
 |work k=>
  rw[h]at P;cases k with
  |give g=>
   obtain⟨J,L⟩:=anH h;obtain⟨r,u⟩:=arp P E G H F;rw[L,J];by_cases y:(g.step c w s.m).1.st=.done
   .rw[tz y];exact⟨rfl,r y⟩
   .rw[ck y];exact u y
  |_=>exact P.elim
 |ax t p a=>
  rw[h]at P;obtain⟨rfl,q⟩:=P;unfold aj9;rcases akp h with e|⟨N,e⟩
  .rw[e];trivial
  .rw[e];exact⟨rfl,q⟩
 |rest=>unfold aQ at z;rw[h]at z;exact z.elim
 |_=>rw[h]at P;exact P.elim
end
noncomputable section
open Classical Yq
variable{c:Cn} {w v:Nat} {s b d f:Ms} {m o:Mm} {i:Nat} {g:Bool} {K:Nat} {n k:Int}
structure Rst(c:Cn)(n:Int)(k:Nat)(s:Ms):Prop where
 all:All c s
 wg:Wg c n s
 st:Still c s
 ev:s.ev.length<=k
def asked(s:Ms)(w:Nat)(a:Ask):Ms:={s.put w ⟨.pin none,a,0⟩with ev:=⟨false,w,a,bR.zero⟩::s.ev}
def aj3(w:Nat)(a:Ask):En:=⟨0,w,a.op,a,0,false⟩
def arI{a:Ask}(e:w<c.W)(r:(s.ws w).ph=.rest)(l:s.ev.length<1999)(p:a.op<8):dX c s (aj3 w a)=(true,asked s w a):=by
 unfold dX;have h:Ih c s (aj3 w a):=⟨⟨fp w,mw.2 e⟩,r,l,fp _,by show((a.op:Nat):Int)<8;omega⟩;rw[tz (show(aj3 w a).kind=0 from rfl),tz h];rfl
def cu{a:Ask}:(asked s w a).ws w=⟨.pin none,a,0⟩:=ky _ _ _
def akw{a:Ask}(h:v≠w):(asked s w a).ws v=s.ws v:=il _ _ h
def acx{k:Nat}{a:Ask}(R:Rst c n k s)(W:1<=c.W/\c.W<=4)(h:1<=c.S/\c.S<=5)(B:n<=900000000)(C:k<=1900)(p:w<c.W)(q:(s.ws w).ph=.rest)(u:a.op<8)(x:a.dl<=255):
  dX c s (aj3 w a)=(true,asked s w a)/\All c (asked s w a)/\Wg c (n+1) (asked s w a)/\∀b,Reach c (asked s w a) b->Still c b->Rst c (n+400000) (k+13) b:=by
 have e:=arI p q (by have:=R.ev;omega) u;have A:=QX R.all (by omega) h.1 (aj3 w a);have G:=apW R.wg (by omega) h.1 (by omega) (aj3 w a) x;rw[e]at A G;have A:All c (asked s w a):=A;refine⟨e,A,G,λb r y=> ?_⟩;obtain⟨z,D⟩:=ann A (by omega) h.1 r;refine⟨z,an3 (amv G W h (by omega) r) (by omega),y,?_⟩;have:=ags c (asked s w a);have l:(asked s w a).ev.length=s.ev.length+1:=rfl;have:=R.ev;omega
def Rst.run{k:Nat}{a:Ask}(G:Wg c n (asked s w a))(e:n<=1000000000)(h:1<=c.W/\c.W<=4)(S:1<=c.S/\c.S<=5):∃K,GyS c (asked s w a) K/\((K+yj c (asked s w a):Nat):Int)<=4000000000000000000:=by
 obtain⟨_,K,p,G⟩:=G;have l:=Yj G.x.nx.all.inv G.x.nx.all.nd h.1 h.2 S.1 S.2;have q:10000*c.W*(c.S+c.W)<=360000:=by
  have:=rK (j7 10000 h.2) (tr S.2 h.2);omega
 grind
def akJ{k:Nat}(R:Rst c n k s):StI c s:=by
 obtain⟨_,K,_,G⟩:=R.wg;exact akE G R.st
section laws
variable{k:Nat} {a:Ask} (e:1<=c.W/\c.W<=4) (h:1<=c.S/\c.S<=5) (l:n<=900000000) (p:k<=1900) (q:w<c.W) (R:Rst c n k s)
include e h l p q R
variable(r:∀v,(s.ws v).ph=.rest)
include r
end laws
end
noncomputable section
open Go.RowKit Go.bn Go.Sx Yq
attribute [local go_sem ↓] Go.wp_at_zero Go.wp_at_succ
structure gK(w:World)(b n:Nat)(f:Nat->Value):Prop where
 is:∃cs t,w.heap[b]?=some (.cells cs t (0,0))/\cs.size=n/\∀i,i<n->cs[i]?=some (f i)
def gK.lt{w:World}{b n:Nat}{f:Nat->Value}(h:gK w b n f):b<w.heap.size:=by
 obtain⟨c,t,a,_⟩:=h.is;exact gQ a
def gK.cell{w:World}{b n:Nat}{f:Nat->Value}(h:gK w b n f){i:Nat}(a:i<n):w.cell? ⟨b,i,none⟩=some (f i):=by
 obtain⟨s,t,c,_,d⟩:=h.is;rw[cell_of c];exact d i a
def gK.fz{w:World}{b n:Nat}{f:Nat->Value}(h:gK w b n f)(i:Nat):w.frozen? ⟨b,i,none⟩=false:=by
 obtain⟨c,t,a,_⟩:=h.is;exact aW a i
def gK.same{w w':World}{b n:Nat}{f:Nat->Value}(h:gK w b n f)(e:w'.heap[b]?=w.heap[b]?):gK w' b n f:=by
 obtain⟨c,t,a,d⟩:=h.is;exact⟨c,t,e.trans a,d⟩
theorem gK.set{w:World}{b n:Nat}{f:Nat->Value}(h:gK w b n f){i:Nat}(l:i<n)(v:Value):gK (w.setCell ⟨b,i,none⟩ v) b n (upd f i v):=by
 obtain⟨s,t,a,c,d⟩:=h.is;refine⟨_,t,heap_put a i v,by simpa using c,λj k=> ?_⟩;rw[mc];unfold upd;by_cases e:i=j
 .subst e;rw[tz rfl,tz (by omega),tz rfl]
 .rw[ck e,ck λq=>e q.symm];exact d j k
structure ic(c:Cn)(P:Nat->Prop)(h:Hd)(bh bw bg bs:Nat)(sv:Nat->Option Nat)(w:World):Prop where
 hb:w.heap[bh]?=some (.cells #[.slice (some ⟨bw,0,none⟩) c.S c.S,.slice (some ⟨bg,0,none⟩) c.S c.S,.slice (some ⟨bs,0,none⟩) c.S c.S] 41 (0,0))
 who:gK w bw c.S λi=>.int .i64 (h.who i:Int)
 gen:gK w bg c.S λi=>.int .i64 (h.gen i)
 str:gK w bs c.S λi=>match sv i with|none=>.slice none 0 0|some b=>.slice (some ⟨b,0,none⟩) 8 8
 nil:∀i,i<c.S->sv i=none->h.who i=0
 row:∀i b,i<c.S->sv i=some b->gK w b 8 λk=>.bool (h.st i k)
 ne:bh≠bw/\bh≠bg/\bh≠bs/\bw≠bg/\bw≠bs/\bg≠bs
 nr:∀i b,i<c.S->sv i=some b->b≠bh/\b≠bw/\b≠bg/\b≠bs/\∀j,j<c.S->j≠i->sv j≠some b
 low:¬P bh/\¬P bw/\¬P bg/\¬P bs/\∀i b,i<c.S->sv i=some b->¬P b
def ic.below{c:Cn}{P:Nat->Prop}{h:Hd}{d e f s:Nat}{v:Nat->Option Nat}{w k:World}(H:ic c P h d e f s v w)(a:Below w.heap.size w k):ic c P h d e f s v k:=
 ⟨by rw[a.block _ (gQ H.hb)];exact H.hb,H.who.same (a.block _ H.who.lt),H.gen.same (a.block _ H.gen.lt),H.str.same (a.block _ H.str.lt),H.nil,λi b l m=>(H.row i b l m).same (a.block _ (H.row i b l m).lt),H.ne,H.nr,H.low⟩
set_option maxHeartbeats 2000000 in
def AJ{c:Cn}{P:Nat->Prop}{h:Hd}{d l m B:Nat}{C:Nat->Option Nat}(S:1<=c.S/\c.S<=5){b:Nat}(N:b<=100)(a:Ask)(w:World)(H:ic c P h d l m B C w):
  Calls Tryz.prog 46 #[.pointer (some ⟨d,0,none⟩),.int .i64 (b:Int),.agg (vg a).toArray] w λr D=>∃x:Bool,(r=.returned (.bool x)/\(x=true↔h.has c b a))/\Below w.heap.size w D:=by
 obtain⟨O,wt,R,T,s,E,U⟩:=a;obtain⟨V,W⟩:=S;have y:=gQ H.hb;have p0:∀o,(w.alloc o).cell? ⟨d,0,none⟩=some (.slice (some ⟨l,0,none⟩) c.S c.S):=λo=>by rw[fN (h:=mu y),cell_of H.hb];rfl
 have X:∀o,(w.alloc o).cell? ⟨d,1,none⟩=some (.slice (some ⟨m,0,none⟩) c.S c.S):=λo=>by rw[fN (h:=mu y),cell_of H.hb];rfl
 by_cases Y:s<0
 .have f:=Lib.hid H
  clear H;go_enter Tryz.func46,Tryz.ntmps46
  go_wp2
  go_quiet (fail)
  go_wp2;refine cC (v:=.bool false) (by simp[results,Tryz.f46,go_sem]) rfl ?_;refine⟨false,⟨rfl,λq=>tA q (by decide),λq=> ?_⟩,fR ((Below.refl _ _).alloc (aq _) _) _⟩;have:=q.1;simp only at this;omega
 .by_cases z:s<c.S
  .obtain⟨i,rfl⟩:∃i:Nat,s=(i:Int):=⟨s.toNat,by omega⟩
   have A:i<c.S:=by omega
   have F:∀o,(w.alloc o).cell? ⟨l,i,none⟩=some (.int .i64 (h.who i:Int)):=λo=>by rw[fN (h:=mu H.who.lt)];exact H.who.cell A
   have I:∀o,(w.alloc o).cell? ⟨m,i,none⟩=some (.int .i64 (h.gen i)):=λo=>by rw[fN (h:=mu H.gen.lt)];exact H.gen.cell A
   obtain⟨Q,n⟩:∃Q:Int,Q=(h.who i:Int):=⟨_,rfl⟩;obtain⟨G,p⟩:∃G:Int,G=h.gen i:=⟨_,rfl⟩;rw[<-n]at F;rw[<-p]at I;have k:=Lib.hid (And.intro n p);clear n p;have J:(i:Int).toNat=i:=rfl;by_cases e:Q=(b:Int)+1
   .by_cases u:G=E
    .subst e u
     have f:=Lib.hid H;clear H;go_enter Tryz.func46,Tryz.ntmps46
     go_wp2
     go_quiet (fail)
     go_wp2
     go_quiet (fail)
     go_wp2;refine cC (v:=.bool true) (by simp[results,Tryz.f46,go_sem]) rfl ?_;refine⟨true,⟨rfl,λ_=>⟨(by show(0:Int)<=(i:Int);omega),z,?_,k.out.2.symm⟩,λ_=>rfl⟩,fR (fR ((Below.refl _ _).alloc (aq _) _) _) _⟩;show h.who i=b+1;have:=k.out.1;omega
    .subst e
     have f:=Lib.hid H;clear H;go_enter Tryz.func46,Tryz.ntmps46
     go_wp2
     go_quiet (fail)
     go_wp2
     go_quiet (fail)
     go_wp2;refine cC (v:=.bool false) (by simp[results,Tryz.f46,go_sem,u]) rfl ?_;refine⟨false,⟨rfl,λq=>tA q (by decide),λq=>tA (k.out.2.trans q.2.2.2) u⟩,fR (fR ((Below.refl _ _).alloc (aq _) _) _) _⟩
   .have K:(Q==(b:Int)+1)=false:=na e
    have L:decide (Q=(b:Int)+1)=false:=cT e;have f:=Lib.hid H;clear H;go_enter Tryz.func46,Tryz.ntmps46
    go_wp2
    go_quiet (fail)
    go_wp2
    go_quiet (fail)
    go_wp2;refine cC (v:=.bool false) (by simp[results,Tryz.f46,go_sem]) rfl ?_;refine⟨false,⟨rfl,λq=>tA q (by decide),λq=>tA (k.out.1.trans (by have:=q.2.2.1;simp only[cH]at this;omega)) e⟩,fR (fR ((Below.refl _ _).alloc (aq _) _) _) _⟩
  .have f:=Lib.hid H
   clear H;go_enter Tryz.func46,Tryz.ntmps46
   go_wp2
   go_quiet (fail)
   go_wp2;refine cC (v:=.bool false) (by simp[results,Tryz.f46,go_sem]) rfl ?_;refine⟨false,⟨rfl,λq=>tA q (by decide),λq=>tA q.2.1 (Int.not_lt.2 z)⟩,fR ((Below.refl _ _).alloc (aq _) _) _⟩
section
open Classical
variable{c:Cn} {h d:Hd} {f:Nat} {a:Ask} {i k l:Int} {q:Nat×Nat×Nat×Nat}
def GI(e:a.op=0)(T:h.told c ⟨true,f,a,⟨0,i,k,l,q.1,q.2.1,q.2.2.1,q.2.2.2⟩⟩=some d):0<=i/\i<c.S/\d=⟨upd h.who i.toNat (f+1),upd h.gen i.toNat k,upd h.st i.toNat (λ_=>false)⟩:=by
 unfold Hd.told at T;rw[ck (by simp)]at T;simp only[e]at T;by_cases b:i<0\/c.S<=i
 .rw[tz b]at T;cases T
 .rw[ck b]at T;exact⟨by omega,by omega,(b9 T).symm⟩
def af4(b:a.op=1\/a.op=2)(T:h.told c ⟨true,f,a,⟨0,i,k,l,q.1,q.2.1,q.2.2.1,q.2.2.2⟩⟩=some d):(h.has c f a/\d={h with who:=upd h.who a.slot.toNat 0})\/(¬h.has c f a/\d=h):=by
 unfold Hd.told at T;rw[ck (by simp)]at T;rcases b with b|b<;>
 .simp only[b]at T
  by_cases e:h.has c f a
  .rw[tz e]at T;exact .inl ⟨e,(b9 T).symm⟩
  .rw[ck e]at T;exact .inr ⟨e,(b9 T).symm⟩
def Xa(b:Bool)(n:a.op=if b then 3 else 4)(T:h.told c ⟨true,f,a,⟨0,i,k,l,q.1,q.2.1,q.2.2.1,q.2.2.2⟩⟩=some d):h.has c f a/\0<=l/\l<=7/\h.st a.slot.toNat l.toNat= !b/\d={h with st:=upd h.st a.slot.toNat (upd (h.st a.slot.toNat) l.toNat b)}:=by
 unfold Hd.told at T;rw[ck (by simp)]at T;cases b<;>
 .simp only[if_true,jj,eN]at n
  simp only[n]at T;by_cases e:¬h.has c f a\/l<0\/7<l
  .rw[tz e]at T;cases T
  .rw[ck e]at T
   split at T
   .cases T
   .rename_i o
    have m:=not_or.1 e;exact⟨Classical.not_not.1 m.1,by omega,by omega,by simpa using o,(b9 T).symm⟩
def aiC(b:5<=a.op)(T:h.told c ⟨true,f,a,⟨0,i,k,l,q.1,q.2.1,q.2.2.1,q.2.2.2⟩⟩=some d):d=h:=by
 unfold Hd.told at T;rw[ck (by simp)]at T;obtain⟨o,wt,m,n,s,p,r⟩:=a;match o,b,T with
 |_+5,_,e=>exact(b9 e).symm
end
def oK:Array Value:= #[.bool false,.bool false,.bool false,.bool false,.bool false,.bool false,.bool false,.bool false]
def aje(w:World):(Instr.makeSlice 42 (.int .i64 8) (.int .i64 8)).run Tryz.prog w=.ok (.slice (some ⟨w.heap.size,0,none⟩) 8 8) (w.alloc (.cells oK 4)):=by kernel_rfl
def gK.congr{w:World}{b n:Nat}{f g:Nat->Value}(h:gK w b n f)(e:∀i,i<n->f i=g i):gK w b n g:=by
 obtain⟨c,t,d,k,l⟩:=h.is;exact⟨c,t,d,k,λi a=>by rw[l i a,e i a]⟩
def gK.drew{w:World}{b n:Nat}{f:Nat->Value}(h:gK w b n f):gK w.drew b n f:=h.same rfl
def aeB{w:World}{b:Nat}{t:TypeId}(h:w.heap[b]?=some (.cells oK t (0,0))):gK w b 8 λ_=>.bool false:=
 ⟨oK,t,h,rfl,λi a=>by
  match i,a with
  |0,_=>rfl
  |1,_=>rfl
  |2,_=>rfl
  |3,_=>rfl
  |4,_=>rfl
  |5,_=>rfl
  |6,_=>rfl
  |7,_=>rfl⟩
def jD{α:Type}(f:Nat->α)(i:Nat)(v:α):upd f i v i=v:=tz rfl
def upd_ne{α:Type}(f:Nat->α){i j:Nat}(v:α)(h:j≠i):upd f i v j=f j:=ck h
def abP{c:Cn}{P:Nat->Prop}{h:Hd}{x f l d:Nat}{z:Nat->Option Nat}{m W p:World}{i w:Nat}{A:Int}{t:TypeId}(H:ic c P h x f l d z m)(O:i<c.S)
  (C:gK W f c.S (upd (λi=>Value.int .i64 (h.who i:Int)) i (.int .i64 ((w:Int)+1)))) (D:gK W l c.S (upd (λi=>Value.int .i64 (h.gen i)) i (.int .i64 A)))
  (B:∀j,j≠f->j≠l->W.heap[j]?=m.heap[j]?) (E:W.heap.size=m.heap.size) (F:∀j,P j->j<m.heap.size) (G:p.heap=((W.alloc (.cells oK t)).setCell ⟨d,i,none⟩ (.slice (some ⟨W.heap.size,0,none⟩) 8 8)).heap):
  ic c P ⟨upd h.who i (w+1),upd h.gen i A,upd h.st i (λ_=>false)⟩ x f l d (upd z i (some W.heap.size)) p:=by
 obtain⟨Q,R,n3,X,K,L⟩:=H.ne;have o:∀j,j≠d->j<m.heap.size->p.heap[j]?=W.heap[j]?:=λj S Y=>by
  rw[G];exact(cy _ _ _ _ S).trans (b7 _ _ _ (by omega))
 have lN:∀j b,j<c.S->z j=some b->b<W.heap.size:=λj b a s=>by rw[E];exact(H.row j b a s).lt
 have T:=gQ H.hb;have U:=H.who.lt;have V:=H.gen.lt;have Z:=H.str.lt;refine⟨?_,?_,?_,?_,λj a s=> ?_,λj b a s=> ?_,H.ne,λj b a s=> ?_,?_⟩
 .rw[o x n3 T,B x Q R];exact H.hb
 .refine(C.same (o f K U)).congr fun j a=> ?_
  show upd _ i _ j=Value.int .i64 ((upd h.who i (w+1) j:Nat):Int);by_cases e:j=i
  .subst e;rw[jD,jD];rfl
  .rw[upd_ne _ _ e,upd_ne _ _ e]
 .refine(D.same (o l L V)).congr fun j a=> ?_
  show upd _ i _ j=Value.int .i64 (upd h.gen i A j);by_cases e:j=i
  .subst e;rw[jD,jD]
  .rw[upd_ne _ _ e,upd_ne _ _ e]
 .have q:=((H.str.same (B d (Ne.symm K) (Ne.symm L))).same (w':=W.alloc (.cells oK t)) (b7 _ _ _ (by omega))).set O (.slice (some ⟨W.heap.size,0,none⟩) 8 8)
  refine(q.same (by rw[G])).congr λj a=> ?_;unfold upd;by_cases e:j=i
  .rw[tz e,tz e]
  .rw[ck e,ck e]
 .by_cases e:j=i
  .subst e;rw[jD]at s;cases s
  .rw[upd_ne _ _ e]at s
   show upd h.who i (w+1) j=0;rw[upd_ne _ _ e];exact H.nil j a s
 .by_cases e:j=i
  .subst e
   rw[jD]at s;cases s;show gK p W.heap.size 8 λk=>.bool (upd h.st j (λ_=>false) j k);rw[jD];refine aeB (t:=t) ?_;rw[G,cy _ _ _ _ (by show W.heap.size≠d;omega)];simp[qU]
  .rw[upd_ne _ _ e]at s
   show gK p b 8 λk=>.bool (upd h.st i (λ_=>false) j k);rw[upd_ne _ _ e];obtain⟨y,r,u,v,_⟩:=H.nr j b a s;exact(H.row j b a s).same ((o b v (H.row j b a s).lt).trans (B b r u))
 .by_cases e:j=i
  .subst e
   rw[jD]at s;cases s;refine⟨by omega,by omega,by omega,by omega,λk I n q=> ?_⟩;rw[upd_ne _ _ n]at q;exact m8 _ (lN k _ I q)
  .rw[upd_ne _ _ e]at s
   obtain⟨y,r,u,v,J⟩:=H.nr j b a s;refine⟨y,r,u,v,λk I n q=> ?_⟩;by_cases N:k=i
   .subst N
    rw[jD]at q;cases q;exact m8 _ (lN j _ a s)
   .rw[upd_ne _ _ N]at q
    exact J k I n q
 .obtain⟨y,r,u,v,J⟩:=H.low
  refine⟨y,r,u,v,λj b a s=> ?_⟩;by_cases e:j=i
  .subst e;rw[jD]at s;cases s;exact λq=>by have:=F _ q;omega
  .rw[upd_ne _ _ e]at s;exact J j b a s
def YZ{c:Cn}{P:Nat->Prop}{h:Hd}{f d k l:Nat}{v:Nat->Option Nat}{w:World}{i:Nat}(H:ic c P h f d k l v w)(m:i<c.S):ic c P {h with who:=upd h.who i 0} f d k l v (w.setCell ⟨d,i,none⟩ (.int .i64 0)):=by
 obtain⟨n,r,n3,p,q,u⟩:=H.ne;have o:∀j,j≠d->(w.setCell ⟨d,i,none⟩ (.int .i64 0)).heap[j]?=w.heap[j]?:=λj a=>cy _ _ _ _ a;refine⟨by rw[o f n];exact H.hb,?_,H.gen.same (o k (Ne.symm p)),H.str.same (o l (Ne.symm q)),λj a s=> ?_,λj b a s=>(H.row j b a s).same (o b (H.nr j b a s).2.1),H.ne,H.nr,H.low⟩
 .refine(H.who.set m (.int .i64 0)).congr fun j a=> ?_
  show upd _ i _ j=Value.int .i64 ((upd h.who i 0 j:Nat):Int);by_cases e:j=i
  .subst e;rw[jD,jD];rfl
  .rw[upd_ne _ _ e,upd_ne _ _ e]
 .show upd h.who i 0 j=0
  by_cases e:j=i
  .subst e;exact jD _ _ _
  .rw[upd_ne _ _ e];exact H.nil j a s
def P5{c:Cn}{P:Nat->Prop}{h:Hd}{f l m n:Nat}{v:Nat->Option Nat}{w:World}{i a k:Nat}{x:Bool}(H:ic c P h f l m n v w)(y:i<c.S)(u:v i=some a)(z:k<8):ic c P {h with st:=upd h.st i (upd (h.st i) k x)} f l m n v (w.setCell ⟨a,k,none⟩ (.bool x)):=by
 obtain⟨A,B,C,D,E⟩:=H.nr i a y u;have o:∀j,j≠a->(w.setCell ⟨a,k,none⟩ (.bool x)).heap[j]?=w.heap[j]?:=λj d=>cy _ _ _ _ d;refine⟨by rw[o f (Ne.symm A)];exact H.hb,H.who.same (o l (Ne.symm B)),H.gen.same (o m (Ne.symm C)),H.str.same (o n (Ne.symm D)),H.nil,λj b d s=> ?_,H.ne,H.nr,H.low⟩;show gK _ b 8 λq=>.bool (upd h.st i (upd (h.st i) k x) j q);by_cases e:j=i
 .subst e
  have p:b=a:=by rw[u]at s;exact(b9 s).symm
  subst p;refine((H.row j b d s).set z (.bool x)).congr λq F=> ?_;rw[jD];by_cases r:q=k
  .subst r;rw[jD,jD]
  .rw[upd_ne _ _ r,upd_ne _ _ r]
 .rw[upd_ne _ _ e]
  exact(H.row j b d s).same (o b λq=>E j d e (by rw[s,q]))
def ac9{X:Nat->Prop}{a w:World}(h:Kept X a w)(n:Nat):Kept X a (w.drewN n):=⟨h.os,h.tape,h.output,h.size,h.block⟩
def adH(c:Cn)(P:Nat->Prop)(h:Hd)(b d e f:Nat)(w:World)(r:Ending)(a:World):Prop:=r=.returned (.bool true)/\Kept P w a/\∃s,ic c P h b d e f s a
set_option maxHeartbeats 4000000 in
def aak{c:Cn}{P:Nat->Prop}{h h':Hd}{n bw bg s:Nat}{L:Nat->Option Nat}(hS:1<=c.S/\c.S<=5){x:Ev}{a:Int}(hw:x.who<=100)(w:World)(hP:∀j,P j->j<w.heap.size)(hH:ic c P h n bw bg s L w)(hT:h.told c x=some h'):
  Calls Tryz.prog 29 #[.pointer (some ⟨n,0,none⟩),.agg (nA x a).toArray] w λr F=>adH c P h' n bw bg s w r F:=by
 obtain⟨A,B,⟨z,wt,N,O,C,R,S⟩,⟨ae,wS,zH,rU,q0,q1,q2,q3⟩⟩:=x;obtain⟨S1,S5⟩:=hS;have HH:=Lib.hid (And.intro hH hT);clear hH hT;go_enter Tryz.func29,Tryz.ntmps29
 go_upto_region 1 with(fail)
 refine jY λW ac=> ?_;have hb:Below w.heap.size w W:=by rw[ac];exact(Below.refl _ _).alloc (aq _) _
 have X:∃t,W.heap[w.heap.size]?=some (.cells (nA ⟨A,B,⟨z,wt,N,O,C,R,S⟩,⟨ae,wS,zH,rU,q0,q1,q2,q3⟩⟩ a).toArray t (0,0)):=⟨_,by rw[ac];simp[qU,cQ];rfl⟩;obtain⟨tX,X⟩:=X;have H:=HH.out.1.below hb;have HW:=Lib.hid ac;clear ac;have e0:W.cell? ⟨w.heap.size,0,none⟩=some (.bool A):=by rw[cell_of X];rfl
 have dd:W.cell? ⟨w.heap.size,10,none⟩=some (.int .i64 ae):=by rw[cell_of X];rfl
 have TN:Kept P w W:=(Kept.of_below hb).mono hP;have G:∀j,P j->j<W.heap.size:=λj hj=>ba (hP j hj) hb.size;have vL:h'=h->adH c P h' n bw bg s w (.returned (.bool true)) W:=λe=>⟨rfl,TN,L,by rw[e];exact H⟩;cases A with
 |false=>
  go_wp2;refine cC (v:=.bool true) (by simp[results,Tryz.f29,go_sem]) rfl (vL ?_);have:=HH.out.2;unfold Hd.told at this;rw[tz (.inl rfl)]at this;exact(b9 this).symm
 |true=>
  by_cases u:ae=0
  .subst u
   have x3:W.cell? ⟨w.heap.size,3,none⟩=some (.int .i64 (z:Int)):=by rw[cell_of X];rfl
   have x7:W.cell? ⟨w.heap.size,7,none⟩=some (.int .i64 C):=by rw[cell_of X];rfl
   have x1:W.cell? ⟨w.heap.size,1,none⟩=some (.int .i64 (B:Int)):=by rw[cell_of X];rfl
   have p0:W.cell? ⟨n,0,none⟩=some (.slice (some ⟨bw,0,none⟩) c.S c.S):=by rw[cell_of H.hb];rfl
   have p1:W.cell? ⟨n,1,none⟩=some (.slice (some ⟨bg,0,none⟩) c.S c.S):=by rw[cell_of H.hb];rfl
   have p2:W.cell? ⟨n,2,none⟩=some (.slice (some ⟨s,0,none⟩) c.S c.S):=by rw[cell_of H.hb];rfl
   have T:=Lib.hid (And.intro X H);have h5:z=0\/(z=1\/z=2)\/z=3\/z=4\/5<=z:=by omega
   rcases h5 with rfl|am|rfl|rfl|h5
   .obtain⟨i0,i1,I⟩:=GI (q:=(q0,q1,q2,q3)) rfl HH.out.2
    .obtain⟨i,rfl⟩:∃i:Nat,wS=(i:Int):=⟨wS.toNat,by omega⟩
     have d:i<c.S:=by omega
     have ao:W.cell? ⟨w.heap.size,11,none⟩=some (.int .i64 (i:Int)):=by rw[cell_of X];rfl
     have de:W.cell? ⟨w.heap.size,12,none⟩=some (.int .i64 zH):=by rw[cell_of X];rfl
     have c0:=H.who.cell d;have c1:=H.gen.cell d;obtain⟨dp,dt⟩:∃v,W.cell? ⟨s,i,none⟩=some v:=⟨_,H.str.cell d⟩;have f0:=H.who.fz i;have f1:=H.gen.fz i;have f2:=H.str.fz i;obtain⟨n1,n2,n3,n4,n5,n6⟩:=H.ne;have lh:=HH.out.1;have m1:¬w.heap.size=bw:=Nat.ne_of_gt lh.who.lt;have m2:¬w.heap.size=bg:=Nat.ne_of_gt lh.gen.lt;have m3:¬w.heap.size=s:=Nat.ne_of_gt lh.str.lt;have m4:=Ne.symm n4;have m5:=Ne.symm n5;have m6:=Ne.symm n6;have K:=Lib.hid (And.intro X H);have Q:=Lib.hid I;clear I X H vL lh;go_wp2
     go_quiet (fail)
     go_upto_region 8 with(fail)
     go_region;go_wp2;go_region
     go_upto_region 10 with(fail)
     refine jY λD J=> ?_;have U:∀j,j≠bw->j≠bg->D.heap[j]?=W.heap[j]?:=λj h1 h2=>by
      rw[J];exact(cy _ _ _ _ h2).trans (cy _ _ _ _ h1)
     have ar:gK D bw c.S (upd (λi=>Value.int .i64 (h.who i:Int)) i (.int .i64 ((B:Int)+1))):=by
      refine((K.out.2.who.set d _).same ?_:gK D _ _ _);rw[J];exact cy _ _ _ _ n4
     have bi:gK D bg c.S (upd (λi=>Value.int .i64 (h.gen i)) i (.int .i64 zH)):=by
      rw[J];refine gK.drew (gK.set (gK.same K.out.2.gen ?_) d _);exact cy _ _ _ _ m4
     have bm:D.heap.size=W.heap.size:=by rw[J];simp
     have lX:=gQ K.out.1;have dv:=gQ K.out.2.hb;have dT:=K.out.2.str.lt;have bv:=(U w.heap.size m1 m2).trans K.out.1;have ca:=(U n n1 n2).trans K.out.2.hb;have mK:=K.out.2.str.same (U s m5 m6);have ao:D.cell? ⟨w.heap.size,11,none⟩=some (.int .i64 (i:Int)):=by rw[cell_of bv];rfl
     have eh:∀o,(D.alloc o).cell? ⟨w.heap.size,11,none⟩=some (.int .i64 (i:Int)):=λo=>by rw[fN (h:=by show w.heap.size≠_;omega)];exact ao
     have p2:D.cell? ⟨n,2,none⟩=some (.slice (some ⟨s,0,none⟩) c.S c.S):=by rw[cell_of ca];rfl
     have fh:∀o,(D.alloc o).cell? ⟨n,2,none⟩=some (.slice (some ⟨s,0,none⟩) c.S c.S):=λo=>by rw[fN (h:=by show n≠_;omega)];exact p2
     obtain⟨co,c2⟩:∃v,D.cell? ⟨s,i,none⟩=some v:=⟨_,mK.cell d⟩;have fi:∀o,(D.alloc o).cell? ⟨s,i,none⟩=some co:=λo=>by rw[fN (h:=by show s≠_;omega)];exact c2
     have f2:=mK.fz i;have fl:∀o,(D.alloc o).frozen? ⟨s,i,none⟩=false:=λo=>by rw[World.frozen?_alloc_old (h:=by show s≠_;omega)];exact f2
     have fv:=aje;have Z:=Lib.hid (And.intro ar (And.intro bi (And.intro U (And.intro bm (And.intro J mK)))));clear ar bi U bv ca mK J bm;go_region
     all_goals go_wp2
     refine cC (v:=.bool true) (by simp[results,Tryz.f29,go_sem]) rfl ⟨rfl,?_,upd L i (some D.heap.size),?_⟩
     .have k3:Kept P W D:=⟨by rw[Z.out.2.2.2.2.1];rfl,by rw[Z.out.2.2.2.2.1];rfl,by rw[Z.out.2.2.2.2.1];rfl,Nat.le_of_eq Z.out.2.2.2.1.symm,fun j hj=>Z.out.2.2.1 j (fun q=>K.out.2.low.2.1 (q▸hj)) (fun q=>K.out.2.low.2.2.1 (q▸hj))⟩
      have q3:=Z.out.2.2.2.1;exact((TN.trans k3).alloc (λj hj=>by have:=G j hj;omega) _).setCell (p:=⟨s,i,none⟩) K.out.2.low.2.2.2.1 _ |>.drew
     .rw[Q.out]
      exact abP K.out.2 d Z.out.1 Z.out.2.1 Z.out.2.2.1 Z.out.2.2.2.1 G rfl
   .have x4:W.cell? ⟨w.heap.size,4,none⟩=some (.int .i64 O):=by rw[cell_of X];rfl
    have x5:W.cell? ⟨w.heap.size,5,none⟩=some (.bool wt):=by rw[cell_of X];rfl
    have x6:W.cell? ⟨w.heap.size,6,none⟩=some (.bool N):=by rw[cell_of X];rfl
    have x8:W.cell? ⟨w.heap.size,8,none⟩=some (.int .i64 R):=by rw[cell_of X];rfl
    have x9:W.cell? ⟨w.heap.size,9,none⟩=some (.int .i64 S):=by rw[cell_of X];rfl
    have I:=AJ ⟨S1,S5⟩ hw ⟨z,wt,N,O,C,R,S⟩ W H;rcases af4 (q:=(q0,q1,q2,q3)) am HH.out.2 with⟨l,u⟩|⟨l,u⟩
    .have PZ:Calls Tryz.prog 46 #[.pointer (some ⟨n,0,none⟩),.int .i64 (B:Int),.agg (vg ⟨z,wt,N,O,C,R,S⟩).toArray] W λr F=>r=.returned (.bool true)/\Below W.heap.size W F:=I.mono λr F hr=>by
      obtain⟨x,⟨rfl,hx⟩,b⟩:=hr;rw[hx.2 l];exact⟨rfl,b⟩
     obtain⟨i,rfl⟩:∃i:Nat,C=(i:Int):=⟨C.toNat,by have:=l.1;simp only at this;omega⟩;have d:i<c.S:=by have:=l.2.1;simp only at this;omega
     have cb:(i:Int)<(c.S:Int):=by omega
     have Q:=Lib.hid u;have gt:=Lib.hid l;clear u l I vL X H;rcases am with rfl|rfl
     all_goals
      go_upto_region 14 with(go_at_call 46;refine PZ.mono ?_;rintro r E ⟨rfl,b⟩)
      have m:=T.out.2.below b;have c0:=m.who.cell d;have f0:=m.who.fz i;have ce:E.cell? ⟨n,0,none⟩=some (.slice (some ⟨bw,0,none⟩) c.S c.S):=by rw[cell_of m.hb];rfl
      have HZ:=Lib.hid m;clear m;go_wp2;refine cC (v:=.bool true) (by simp[results,Tryz.f29,go_sem]) rfl ⟨rfl,?_,L,?_⟩
      .exact(TN.trans ((Kept.of_below b).mono G)).setCell (p:=⟨bw,i,none⟩) T.out.2.low.2.1 _
      .rw[Q.out]
       exact YZ HZ.out d
    .have PZ:Calls Tryz.prog 46 #[.pointer (some ⟨n,0,none⟩),.int .i64 (B:Int),.agg (vg ⟨z,wt,N,O,C,R,S⟩).toArray] W λr F=>r=.returned (.bool false)/\Below W.heap.size W F:=I.mono λr F hr=>by
      obtain⟨x,⟨rfl,hx⟩,b⟩:=hr;refine⟨?_,b⟩;cases x with
      |false=>rfl
      |true=>exact tA (hx.1 rfl) l
     have Q:=Lib.hid u;clear u l I vL X H;rcases am with rfl|rfl
     all_goals
      go_wp2_with (go_at_call 46;refine PZ.mono ?_;rintro r E ⟨rfl,b⟩)
      refine cC (v:=.bool true) (by simp[results,Tryz.f29,go_sem]) rfl ⟨rfl,?_,L,?_⟩
      .exact TN.trans ((Kept.of_below b).mono G)
      .rw[Q.out]
       exact T.out.2.below b
   .have x4:W.cell? ⟨w.heap.size,4,none⟩=some (.int .i64 O):=by rw[cell_of X];rfl
    have x5:W.cell? ⟨w.heap.size,5,none⟩=some (.bool wt):=by rw[cell_of X];rfl
    have x6:W.cell? ⟨w.heap.size,6,none⟩=some (.bool N):=by rw[cell_of X];rfl
    have x8:W.cell? ⟨w.heap.size,8,none⟩=some (.int .i64 R):=by rw[cell_of X];rfl
    have x9:W.cell? ⟨w.heap.size,9,none⟩=some (.int .i64 S):=by rw[cell_of X];rfl
    have d5:W.cell? ⟨w.heap.size,13,none⟩=some (.int .i64 rU):=by rw[cell_of X];rfl
    have I:=AJ ⟨S1,S5⟩ hw ⟨3,wt,N,O,C,R,S⟩ W H;obtain⟨l,t0,t7,y,u⟩:=Xa (q:=(q0,q1,q2,q3)) true rfl HH.out.2;have PZ:Calls Tryz.prog 46 #[.pointer (some ⟨n,0,none⟩),.int .i64 (B:Int),.agg (vg ⟨3,wt,N,O,C,R,S⟩).toArray] W λr F=>r=.returned (.bool true)/\Below W.heap.size W F:=I.mono λr F hr=>by
     obtain⟨x,⟨rfl,hx⟩,b⟩:=hr;rw[hx.2 l];exact⟨rfl,b⟩
    obtain⟨i,rfl⟩:∃i:Nat,C=(i:Int):=⟨C.toNat,by have:=l.1;simp only at this;omega⟩;obtain⟨k,rfl⟩:∃k:Nat,rU=(k:Int):=⟨rU.toNat,by omega⟩;have d:i<c.S:=by have:=l.2.1;simp only at this;omega
    have hk:k<8:=by omega
    have cb:(i:Int)<(c.S:Int):=by omega
    have V:h.who i≠0:=by have:=l.2.2.1;simp only[cH]at this;omega
    obtain⟨f,Y⟩:∃f,L i=some f:=by
     cases hs:L i with
     |none=>exact tA (H.nil i d hs) V
     |some f=>exact⟨f,rfl⟩
    have Iz:h.st i k= !true:=y;have Q:=Lib.hid (And.intro u (And.intro Y Iz));clear u l I vL X H V Y y Iz;go_upto_region 18 with(go_at_call 46;refine PZ.mono ?_;rintro r E ⟨rfl,b⟩)
    have m:=T.out.2.below b;have ce:E.cell? ⟨n,2,none⟩=some (.slice (some ⟨s,0,none⟩) c.S c.S):=by rw[cell_of m.hb];rfl
    have d6:E.cell? ⟨s,i,none⟩=some (.slice (some ⟨f,0,none⟩) 8 8):=by rw[m.str.cell d,Q.out.2.1]
    have d7:E.cell? ⟨f,k,none⟩=some (.bool (!true)):=by rw[(m.row i f d Q.out.2.1).cell hk,Q.out.2.2]
    have d8:=(m.row i f d Q.out.2.1).fz k;have P8:=(b.block _ (gQ T.out.1)).trans T.out.1;have d9:E.cell? ⟨w.heap.size,13,none⟩=some (.int .i64 (k:Int)):=by rw[cell_of P8];rfl
    have y3:E.cell? ⟨w.heap.size,3,none⟩=some (.int .i64 3):=by rw[cell_of P8];rfl
    have HZ:=Lib.hid m;clear m P8;go_wp2
    go_quiet (fail)
    go_wp2;go_region;go_wp2;refine cC (v:=.bool true) (by simp[results,Tryz.f29,go_sem]) rfl ⟨rfl,?_,L,?_⟩
    .exact(ac9 (TN.trans ((Kept.of_below b).mono G)) _).setCell (p:=⟨f,k,none⟩) (T.out.2.low.2.2.2.2 i f d Q.out.2.1) _
    .rw[Q.out.1]
     exact P5 (HZ.out.below (fR (Below.refl _ _) _)) d Q.out.2.1 hk
   .have x4:W.cell? ⟨w.heap.size,4,none⟩=some (.int .i64 O):=by rw[cell_of X];rfl
    have x5:W.cell? ⟨w.heap.size,5,none⟩=some (.bool wt):=by rw[cell_of X];rfl
    have x6:W.cell? ⟨w.heap.size,6,none⟩=some (.bool N):=by rw[cell_of X];rfl
    have x8:W.cell? ⟨w.heap.size,8,none⟩=some (.int .i64 R):=by rw[cell_of X];rfl
    have x9:W.cell? ⟨w.heap.size,9,none⟩=some (.int .i64 S):=by rw[cell_of X];rfl
    have d5:W.cell? ⟨w.heap.size,13,none⟩=some (.int .i64 rU):=by rw[cell_of X];rfl
    have I:=AJ ⟨S1,S5⟩ hw ⟨4,wt,N,O,C,R,S⟩ W H;obtain⟨l,t0,t7,y,u⟩:=Xa (q:=(q0,q1,q2,q3)) false rfl HH.out.2;have PZ:Calls Tryz.prog 46 #[.pointer (some ⟨n,0,none⟩),.int .i64 (B:Int),.agg (vg ⟨4,wt,N,O,C,R,S⟩).toArray] W λr F=>r=.returned (.bool true)/\Below W.heap.size W F:=I.mono λr F hr=>by
     obtain⟨x,⟨rfl,hx⟩,b⟩:=hr;rw[hx.2 l];exact⟨rfl,b⟩
    obtain⟨i,rfl⟩:∃i:Nat,C=(i:Int):=⟨C.toNat,by have:=l.1;simp only at this;omega⟩;obtain⟨k,rfl⟩:∃k:Nat,rU=(k:Int):=⟨rU.toNat,by omega⟩;have d:i<c.S:=by have:=l.2.1;simp only at this;omega
    have hk:k<8:=by omega
    have cb:(i:Int)<(c.S:Int):=by omega
    have V:h.who i≠0:=by have:=l.2.2.1;simp only[cH]at this;omega
    obtain⟨f,Y⟩:∃f,L i=some f:=by
     cases hs:L i with
     |none=>exact tA (H.nil i d hs) V
     |some f=>exact⟨f,rfl⟩
    have Iz:h.st i k= !false:=y;have Q:=Lib.hid (And.intro u (And.intro Y Iz));clear u l I vL X H V Y y Iz;go_upto_region 18 with(go_at_call 46;refine PZ.mono ?_;rintro r E ⟨rfl,b⟩)
    have m:=T.out.2.below b;have ce:E.cell? ⟨n,2,none⟩=some (.slice (some ⟨s,0,none⟩) c.S c.S):=by rw[cell_of m.hb];rfl
    have d6:E.cell? ⟨s,i,none⟩=some (.slice (some ⟨f,0,none⟩) 8 8):=by rw[m.str.cell d,Q.out.2.1]
    have d7:E.cell? ⟨f,k,none⟩=some (.bool (!false)):=by rw[(m.row i f d Q.out.2.1).cell hk,Q.out.2.2]
    have d8:=(m.row i f d Q.out.2.1).fz k;have P8:=(b.block _ (gQ T.out.1)).trans T.out.1;have d9:E.cell? ⟨w.heap.size,13,none⟩=some (.int .i64 (k:Int)):=by rw[cell_of P8];rfl
    have y3:E.cell? ⟨w.heap.size,3,none⟩=some (.int .i64 4):=by rw[cell_of P8];rfl
    have HZ:=Lib.hid m;clear m P8;go_wp2
    go_quiet (fail)
    go_wp2;go_region;go_wp2;refine cC (v:=.bool true) (by simp[results,Tryz.f29,go_sem]) rfl ⟨rfl,?_,L,?_⟩
    .exact(ac9 (TN.trans ((Kept.of_below b).mono G)) _).setCell (p:=⟨f,k,none⟩) (T.out.2.low.2.2.2.2 i f d Q.out.2.1) _
    .rw[Q.out.1]
     exact P5 (HZ.out.below (fR (Below.refl _ _) _)) d Q.out.2.1 hk
   .have k0:¬(z:Int)=0:=by omega
    have k1:¬(z:Int)=1:=by omega
    have k2:¬(z:Int)=2:=by omega
    have k3:¬(z:Int)=3:=by omega
    have k4:¬(z:Int)=4:=by omega
    have u:=aiC (q:=(q0,q1,q2,q3)) h5 HH.out.2;have hd:=vL u;have HD:=Lib.hid hd;clear hd u vL X H;go_wp2;exact cC (v:=.bool true) (by simp[results,Tryz.f29,go_sem]) rfl HD.out
  .go_wp2
   refine cC (v:=.bool true) (by simp[results,Tryz.f29,go_sem]) rfl (vL ?_);have:=HH.out.2;unfold Hd.told at this;rw[tz (.inr u)]at this;exact(b9 this).symm
def YH{n:Nat}(h:1<=n)(a:n<=5)(w:World):(Instr.makeSlice 39 (.int .i64 (n:Int)) (.int .i64 (n:Int))).run Tryz.prog w=.ok (.slice (some ⟨w.heap.size,0,none⟩) n n) (w.alloc (.cells (Array.replicate n (.slice none 0 0)) 42)):=by
 rcases(by omega:n=1\/n=2\/n=3\/n=4\/n=5)with rfl|rfl|rfl|rfl|rfl<;>kernel_rfl
def Kn{w:World}{b n:Nat}{v:Value}{t:TypeId}(h:w.heap[b]?=some (.cells (Array.replicate n v) t (0,0))):gK w b n λ_=>v:=⟨_,t,h,by simp,λi a=>by simp[a]⟩
def qp{c:Cn}{P:Nat->Prop}{d b a s:Nat}{w:World}{e f i:TypeId}(k:w.heap[d]?=some (.cells #[.slice (some ⟨b,0,none⟩) c.S c.S,.slice (some ⟨a,0,none⟩) c.S c.S,.slice (some ⟨s,0,none⟩) c.S c.S] 41 (0,0)))
  (m:w.heap[b]?=some (.cells (Array.replicate c.S (.int .i64 0)) e (0,0))) (n:w.heap[a]?=some (.cells (Array.replicate c.S (.int .i64 0)) f (0,0))) (o:w.heap[s]?=some (.cells (Array.replicate c.S (.slice none 0 0)) i (0,0)))
  (p:d≠b/\d≠a/\d≠s/\b≠a/\b≠s/\a≠s) (l:¬P d/\¬P b/\¬P a/\¬P s):ic c P Hd.zero d b a s (λ_=>none) w:=
 ⟨k,Kn m,Kn n,Kn o,λ_ _ _=>rfl,λ_ _ _ h=>(by cases h),p,λ_ _ _ h=>(by cases h),l.1,l.2.1,l.2.2.1,l.2.2.2,λ_ _ _ h=>(by cases h)⟩
def bX(w:World)(a b c d:Obj):(((((w.alloc a).alloc b).alloc c).alloc d).drew).heap[w.heap.size]?=some a/\(((((w.alloc a).alloc b).alloc c).alloc d).drew).heap[w.heap.size+1]?=some b/\(((((w.alloc a).alloc b).alloc c).alloc d).drew).heap[w.heap.size+1+1]?=some c/\(((((w.alloc a).alloc b).alloc c).alloc d).drew).heap[w.heap.size+1+1+1]?=some d:=by
 have e:(((((w.alloc a).alloc b).alloc c).alloc d).drew).heap=((((w.heap.push a).push b).push c).push d):=rfl;rw[e];simp only[cQ,vh];refine⟨?_,?_,?_,?_⟩;all_goals repeat first|rw[tz trivial]|rw[ck (by omega)]
def ic.mono{c:Cn}{P a:Nat->Prop}{h:Hd}{d e f s:Nat}{v:Nat->Option Nat}{w:World}(H:ic c P h d e f s v w)(l:¬a d/\¬a e/\¬a f/\¬a s/\∀i b,i<c.S->v i=some b->¬a b):ic c a h d e f s v w:=⟨H.hb,H.who,H.gen,H.str,H.nil,H.row,H.ne,H.nr,l⟩
def Xm{c:Cn}{l r:List Ev}{h:Hd}(T:eU c (l++r)=some h):∃b,eU c r=some b:=by
 induction l generalizing h with
 |nil=>exact⟨h,T⟩
 |cons x l i=>
  simp only[eE,eU]at T;cases a:eU c (l++r)with
  |none=>rw[a]at T;cases T
  |some d=>exact i a
def Xn{c:Cn}{l:List Ev}{n k:Nat}{h f:Hd}{x:Ev}(r:n=l.length)(T:eU c l=some h)(o:k<n)(i:l[n-1-k]?=some x)(d:eU c (l.drop (n-k))=some f):∃b,f.told c x=some b/\eU c (l.drop (n-(k+1)))=some b:=by
 have e:l.drop (n-(k+1))=x::l.drop (n-k):=by
  have m:n-1-k<l.length:=by omega
  have p:l[n-1-k]=x:=by rw[tD m]at i;exact b9 i
  have q:n-(k+1)=n-1-k:=by omega
  rw[q,lj m,p];congr 2;omega
 have s:eU c (l.take (n-(k+1))++l.drop (n-(k+1)))=some h:=by rw[List.take_append_drop];exact T
 obtain⟨b,a⟩:=Xm s;refine⟨b,?_,a⟩;rw[e]at a;unfold eU at a;rw[d]at a;exact a
set_option maxHeartbeats 4000000 in
def VD{c:Cn}{s:Ms}{e:Int}{D:Nat->Prop}{b:Nat}{h:Hd}(uF:c.W<=4)(ca:c.S<=5)(hT:eU c s.ev=some h)(ac:Wh c s)(w:World)(hL:Live c s e D b w)(he:e<=1000000000):
  Calls Tryz.prog 10 #[.pointer (some ⟨b,0,none⟩),.agg (dI c).toArray] w λr U=>∃F I J K sv,r=.returned (.pointer (some ⟨F,0,none⟩))/\Below w.heap.size w U/\ic c (· <w.heap.size) h F I J K sv U:=by
 have hS:1<=c.S/\c.S<=5:=⟨hL.good.S.1,ca⟩;have dp:=λW=>Mc (n:=c.S) (by omega) W;have dt:=λW=>YH (n:=c.S) hS.1 hS.2 W
 go_enter Tryz.func10,Tryz.ntmps10
 go_upto_region 1 with(fail)
 refine jY λf B=> ?_;have L:f.heap[w.heap.size]?=some (.cells (dI c).toArray 30 (0,0)):=by rw[B];simp[qU,cQ]
 have cb:Below w.heap.size w f:=by rw[B];exact(Below.refl _ _).alloc (aq _) _
 have E:f.heap.size=w.heap.size+1:=by rw[B];simp
 have qc:∀W,Below f.heap.size f W->W.cell? ⟨w.heap.size,1,none⟩=some (.int .i64 (c.S:Int))/\Below f.heap.size f W:=λW hW=>⟨by rw[hW.cell (p:=⟨w.heap.size,1,none⟩) (by show w.heap.size<_;omega),cell_of L];rfl,hW⟩;have HC:=Lib.hid (And.intro L (And.intro E B));clear L E B;go_cut [5]from 9 to 19 (λv W=>∃F I J K,v=.pointer (some ⟨F,0,none⟩)/\ic c (· <w.heap.size+1) Hd.zero F I J K (λ_=>none) W/\Below f.heap.size f W)
 case first=>
  have l:∀j,f.heap.size<=j->¬(λx=>x<w.heap.size+1) j:=λj V r=>by
   have r2:j<w.heap.size+1:=r;have q:=HC.out.2.1;omega
  have Z:∀a b d e,Below f.heap.size f ((((f.alloc a).alloc b).alloc d).alloc e).drew:=λa b d e=>((((Below.refl _ f).alloc (aq _) _).alloc (by simp) _).alloc (by simp;omega) _).alloc (by simp;omega) _ |>.drew;have LO:=Lib.hid (And.intro l Z);clear l Z
  go_region_held3 (fun W=>W.cell? ⟨w.heap.size,1,none⟩=some (.int .i64 (c.S:Int))/\Below f.heap.size f W)
   (first|exact qc _ (Below.refl _ _).drew|exact qc _ (Below.refl _ _)|(have gS:=(‹World.cell? _ _=_/\Below _ _ _›).2;exact qc _ (gS.alloc gS.size _)))
   (first|fail)
  all_goals
   go_wp2
   go_meet
   have l:=LO.out.1;have Z:=LO.out.2
   first
    |exact⟨_,f.heap.size,f.heap.size+1,f.heap.size+1+1,rfl,qp (bX ..).2.2.2 (bX ..).1 (bX ..).2.1 (bX ..).2.2.1 (by omega) ⟨l _ (by omega),l _ (by omega),l _ (by omega),l _ (by omega)⟩,Z _ _ _ _⟩
    |exact⟨_,f.heap.size,f.heap.size+1+1,f.heap.size+1,rfl,qp (bX ..).2.2.2 (bX ..).1 (bX ..).2.2.1 (bX ..).2.1 (by omega) ⟨l _ (by omega),l _ (by omega),l _ (by omega),l _ (by omega)⟩,Z _ _ _ _⟩
    |exact⟨_,f.heap.size+1,f.heap.size,f.heap.size+1+1,rfl,qp (bX ..).2.2.2 (bX ..).2.1 (bX ..).1 (bX ..).2.2.1 (by omega) ⟨l _ (by omega),l _ (by omega),l _ (by omega),l _ (by omega)⟩,Z _ _ _ _⟩
    |exact⟨_,f.heap.size+1,f.heap.size+1+1,f.heap.size,rfl,qp (bX ..).2.2.2 (bX ..).2.1 (bX ..).2.2.1 (bX ..).1 (by omega) ⟨l _ (by omega),l _ (by omega),l _ (by omega),l _ (by omega)⟩,Z _ _ _ _⟩
    |exact⟨_,f.heap.size+1+1,f.heap.size,f.heap.size+1,rfl,qp (bX ..).2.2.2 (bX ..).2.2.1 (bX ..).1 (bX ..).2.1 (by omega) ⟨l _ (by omega),l _ (by omega),l _ (by omega),l _ (by omega)⟩,Z _ _ _ _⟩
    |exact⟨_,f.heap.size+1+1,f.heap.size+1,f.heap.size,rfl,qp (bX ..).2.2.2 (bX ..).2.2.1 (bX ..).2.1 (bX ..).1 (by omega) ⟨l _ (by omega),l _ (by omega),l _ (by omega),l _ (by omega)⟩,Z _ _ _ _⟩
 case rest=>
  obtain⟨F,I,J,K,hv,m,O⟩:=hcut;subst hv;have E:=HC.out.2.1;have Q:Below w.heap.size w wc:=cb.trans (O.mono (by omega));have am:Live c s e D b wc:=(Live.below hL Q).mono (λj V=>.inl V) hL.kt;have ce:Calls Tryz.prog 17 #[.pointer (some ⟨b,0,none⟩)] wc λr U=>∃X,r=.returned X/\Dx U X s.ev wc.heap.size/\Below wc.heap.size wc U:=by
   refine(Live.events am he).mono λr U hh=> ?_;obtain⟨X,A,rfl,ho,hb,_⟩:=hh;exact⟨X,rfl,K3 ho,hb⟩
  have ao:s.ev.length<=1000000000:=by
   obtain⟨k,o,_,hl⟩:=hL.good.nx;omega
  have R:=Lib.hid (And.intro m (And.intro O (And.intro E (And.intro Q (And.intro hT ac)))));clear m O E Q am hT ac;go_upto_region 3 with(go_at_call 17;refine ce.mono ?_;rintro r Y ⟨X,rfl,hE,S⟩)
  obtain⟨A,y,rfl,hP⟩:∃A y,X=.slice A s.ev.length y/\∀k,k<s.ev.length->∃g,A=some ⟨g,0,none⟩/\wc.heap.size<=g/\g<Y.heap.size/\∃(x:Ev) (a:Int),s.ev[s.ev.length-1-k]?=some x/\∀j u,(nA x a)[j]?=some u->Y.cell? ⟨g,k*18+j,none⟩=some u:=by
   by_cases h0:s.ev=[]
   .rcases hE.nil h0 with rfl|⟨g,y,rfl⟩
    .exact⟨none,0,by rw[h0];rfl,λk o=>by rw[h0]at o;simp at o⟩
    .exact⟨some ⟨g,0,none⟩,y,by rw[h0];rfl,λk o=>by rw[h0]at o;simp at o⟩
   .obtain⟨g,y,h1,h2,h3,h4,h5⟩:=hE.row h0
    refine⟨_,y,h1,λk o=>⟨g,rfl,h3,h4,?_⟩⟩;exact h5 k o
  obtain⟨n,hn⟩:∃n,n=s.ev.length:=⟨_,rfl⟩;rw[<-hn]at ao hP;have HN:=Lib.hid (And.intro hn hP);obtain⟨P,G⟩:∃P:Nat->Prop,P=λj=>j<w.heap.size\/(wc.heap.size<=j/\j<Y.heap.size):=⟨_,rfl⟩;rw[<-hn];have m:=R.out.1;have Pz:∀j,j<wc.heap.size->¬(j<w.heap.size+1)->¬P j:=λj h1 h2 q=>by rw[G]at q;rcases q with q|q<;>omega
  have H1:ic c P Hd.zero F I J K (λ_=>none) Y:=(m.below S).mono ⟨Pz _ (gQ m.hb) m.low.1,Pz _ m.who.lt m.low.2.1,Pz _ m.gen.lt m.low.2.2.1,Pz _ m.str.lt m.low.2.2.2.1,λ_ _ _ q=>(by cases q)⟩;have ar:∀j,P j->j<Y.heap.size:=λj q=>by
   rw[G]at q;have:=S.size;have:=R.out.2.2.2.1.size;rcases q with q|q<;>omega
  have co:=Lib.hid H1;have HP:=Lib.hid G;have d5:=Lib.hid ar;clear hn hP hE G m Pz H1 ar;go_wp2
  go_loopw [7] (fun i wr=>∃(k:Nat) (o:Hd) (sv:Nat->Option Nat),k<=n/\i=.int .i64 (k:Int)/\eU c (s.ev.drop (n-k))=some o/\ic c P o F I J K sv wr/\Kept P Y wr)
   (λi _=>n-(intOf i).toNat)
  case atStart=>exact⟨0,Hd.zero,_,tE _,rfl,by rw[HN.out.1,Nat.sub_zero,List.drop_length];rfl,co.out,Kept.refl _ _⟩
  case round=>
   obtain⟨k,o,sv,d6,rfl,Y1,H,N⟩:=hrel;by_cases z:k<n
   .obtain⟨g,rfl,d7,d8,x,a,hx,bi⟩:=HN.out.2 k z
    have d9:P g:=by rw[HP.out];exact .inr ⟨d7,d8⟩
    have cc:wr.rangeAt g (k*18) (nA x a):=λj u hu=>(Kept.cell N d9 _).trans (bi j u hu);obtain⟨h2,ht,rQ⟩:=Xn HN.out.1 R.out.2.2.2.2.1 z hx Y1;have bm:x.who<=100:=by
     have:=R.out.2.2.2.2.2 x (du hx);omega
    have bv:=aak hS (a:=a) bm wr (λj V=>ba (d5.out j V) N.size) H ht;have hi:(Tryz.prog.info? 68).map (·.size)=some (nA x a).length:=by kernel_rfl
    generalize nA x a=C at cc bv hi;have dd:(k:Int)<(n:Int):=mw.2 z;have HZ:=Lib.hid (And.intro N rQ);clear bi hx Y1 H N rQ ht;go_upto_region 6 with(fail)
    go_wp2_with (first
     |(refine wpList_load_mid rfl _ _ rfl g (k*18) rfl C _ cc Tryz.underlying68 rfl hi ?_;clear cc hi)
     |(go_at_call 29;refine bv.mono ?_;rintro r w6 ⟨rfl,k6,de,H6⟩))
    go_roundw
    case rel=>exact⟨k+1,h2,de,z,by go_num,HZ.out.2,H6,HZ.out.1.trans k6⟩
    case measure=>simp[intOf];omega
   .have T:k=n:=Nat.le_antisymm d6 (pL z)
    have dd:¬(k:Int)<(n:Int):=by rw[T];exact Int.lt_irrefl _
    rw[T,ud,List.drop_zero]at Y1;have e:o=h:=by
     have:=R.out.2.2.2.2.1;rw[Y1]at this;exact b9 this
    have HZ:=Lib.hid (And.intro e (And.intro H N));clear T Y1 e H N z;go_wp2;refine cC (v:=.pointer (some ⟨F,0,none⟩)) (by simp[results,Tryz.f10,go_sem]) rfl ?_;obtain⟨e,H,N⟩:=HZ.out;subst e;have TR:∀j,j<w.heap.size->P j:=λj V=>by rw[HP.out];exact .inl V
    refine⟨F,rfl,(R.out.2.2.2.1.trans (S.mono R.out.2.2.2.1.size)).trans (N.mono TR).below,I,J,K,sv,H.mono ⟨λq=>H.low.1 (TR _ q),λq=>H.low.2.1 (TR _ q),λq=>H.low.2.2.1 (TR _ q),λq=>H.low.2.2.2.1 (TR _ q),λi b hi hs q=>H.low.2.2.2.2 i b hi hs (TR _ q)⟩⟩
def aqE{c:Cn}{w:Nat}{a:Ask}(h:w<c.W):wY c (aj3 w a):=⟨⟨by show(0:Int)<=0;omega,by show(0:Int)<=5;omega⟩,⟨by show(-1:Int)<=(w:Int);omega,by show(w:Int)<=c.W;omega⟩,fp _⟩
theorem A7{X:Nat->Prop}{Z:Nat}(h:¬X Z):∀(s:List Value) (o:Nat) (w:World),Kept X w (w.setCells Z o s)
 |[],_,w=>Kept.refl X w
 |v::r,o,w=>by
  rw[World.setCells];exact((Kept.refl X w).setCell (p:=⟨Z,o,none⟩) h v).trans (A7 h r (o+1) _)
def akI{w:World}{Z:Nat}{cs:Array Value}{t:TypeId}(h:w.heap[Z]?=some (.cells cs t (0,0))){n:Nat}(a:n<=cs.size):w.there Z 0 n:=λj b=>⟨by rw[cg,cell_of h,cj (by omega)];rfl,aW h _⟩
def ac0(x:Ev)(a:Int):(nA x a).toArray.all (·.oneCell')=true:=by simp[nA,vg,Value.oneCell']
def an2{c:Cn}{s:Ms}{e:Int}{D:Nat->Prop}{b:Nat}(w:World)(L:Live c s e D b w):Calls Tryz.prog 13 #[.pointer (some ⟨b,0,none⟩)] w λr f=>r=.returned (.int .i64 s.m.cl)/\Below w.heap.size w f:=by
 have a:=L.wds;have n:¬((nC c:Nat):Int)<1:=by unfold nC;omega
 have o:(0:Int)<((nC c:Nat):Int):=by unfold nC;omega
 clear L;go_enter Tryz.func13,Tryz.ntmps13
 go_wp2_with (go_at_call 11;refine a.mono ?_;rintro r p ⟨g,i,rfl,k,l,h,d,m⟩;have q:=h 0 _ rfl)
 go_ret;exact⟨rfl,d⟩
def anq{w:World}{Z:Nat}{t:TypeId}{u l m n o r s:Value}(h:w.heap[Z]?=some (.cells #[u,l,m,n,o,r,s] t (0,0))){v b c d f i k:Value}{W:World}(e:W=(((((((w.setCell ⟨Z,0,none⟩ v).setCell ⟨Z,1,none⟩ b).setCell ⟨Z,2,none⟩ c).setCell ⟨Z,3,none⟩ d).setCell ⟨Z,4,none⟩ f).setCell ⟨Z,5,none⟩ i).setCell ⟨Z,6,none⟩ k)):W.heap[Z]?=some (.cells #[v,b,c,d,f,i,k] t (0,0))/\∀X:Nat->Prop,¬X Z->Kept X w W:=by
 subst e;have q:=(heap_put (heap_put (heap_put (heap_put (heap_put (heap_put (heap_put h 0 v) 1 b) 2 c) 3 d) 4 f) 5 i) 6 k);simp only[List.setIfInBounds_toArray,List.set_cons_zero,List.set_cons_succ]at q;exact⟨q,λX a=>((((((((Kept.refl X w).setCell (p:=⟨_,0,none⟩) a _).setCell (p:=⟨_,1,none⟩) a _).setCell (p:=⟨_,2,none⟩) a _).setCell (p:=⟨_,3,none⟩) a _).setCell (p:=⟨_,4,none⟩) a _).setCell (p:=⟨_,5,none⟩) a _).setCell (p:=⟨_,6,none⟩) a _)⟩
def ahi(h:Hd)(i:Nat):Ask:=⟨2,false,false,0,i,h.gen i,0⟩
set_option maxHeartbeats 4000000 in
def an1{c:Cn}{s:Ms}{e:Int}{D:Nat->Prop}{b:Nat}{h:Hd}(uF:c.W<=4)(y:c.S<=5)(hT:eU c s.ev=some h)(z:Wh c s)(Q:∀i,h.who i≠0->i<c.S/\h.who i<=c.W)(w:World)(hL:Live c s e D b w)(he:e<=1000000000):
  Calls Tryz.prog 14 #[.pointer (some ⟨b,0,none⟩),.agg (dI c).toArray] w λr w'=>((∃i v,i<c.S/\v<c.W/\h.who i=v+1/\(s.ws v).ph=.rest/\r=.returned (.tuple #[.int .i64 (v:Int),.agg (vg (ahi h i)).toArray]))\/
   (r=.returned (.tuple #[.int .i64 (-1),.agg (vg Ask.zero).toArray])/\∀i v,i<c.S->h.who i=v+1->(s.ws v).ph≠.rest))/\Below w.heap.size w w':=by
 have hS:1<=c.S/\c.S<=5:=⟨hL.good.S.1,y⟩;go_enter Tryz.func14,Tryz.ntmps14
 go_upto_region 1 with(fail)
 refine jY λW0 q=> ?_;have B:Below w.heap.size w W0:=by rw[q];exact((Below.refl _ w).alloc (aq _) _).alloc (by simp) _
 have C:W0.heap[w.heap.size]?=some (.cells (dI c).toArray 30 (0,0)):=by rw[q,b7 _ _ _ (by simp)];simp[qU,cQ]
 have R:W0.heap[w.heap.size+1]?=some (.cells (vg Ask.zero).toArray 48 (0,0)):=by rw[q];exact adm w _ _
 have L:=Live.below hL B;have T:=VD uF y hT z W0 L he;obtain⟨c0,c1,c2,c3,c4⟩:=five C;have E:=Lib.hid (And.intro C (And.intro R (And.intro L B)));have HT:=Lib.hid (And.intro hT (And.intro z Q));have HK:=Lib.hid hL.kt;clear q C R B L hL hT z Q;go_upto_region 2 with(go_at_call 10;refine T.mono ?_;rintro r w1 ⟨bh,bw,bg,bs,sv,rfl,n,hH⟩)
 have U:Below w.heap.size w w1:=E.out.2.2.2.trans (n.mono E.out.2.2.2.size);have V:Live c s e D b w1:=(Live.below E.out.2.2.1 n).mono (λj u=>.inl (.inl u)) HK.out;have vD:=(n.block _ (gQ E.out.1)).trans E.out.1;have X:=(n.block _ (gQ E.out.2.1)).trans E.out.2.1;obtain⟨S,Y⟩:∃S,S=c.S:=⟨_,rfl⟩;have a:=Lib.hid (And.intro U (And.intro V (And.intro vD (And.intro X (And.intro hH Y)))));have y:S<=5:=by omega
 clear U V vD X hH n T c0 c1 c2 c3 c4 Y;go_wp2
 go_loopw [7] (λv7 wr=>∃i:Nat,i<=S/\v7=.int .i64 (i:Int)/\Below w1.heap.size w1 wr/\∀j v,j<i->h.who j=v+1->(s.ws v).ph≠.rest) (λv7 _=>S-(intOf v7).toNat)
 case atStart=>exact⟨0,tE _,rfl,Below.refl _ _,λj v u=>tA u (mz j)⟩
 case round=>
  obtain⟨i,hi,rfl,f,Z⟩:=hrel;refine jY λWi ac=> ?_;rw[<-ac]at f;clear ac;have am:=(f.block _ (gQ a.out.2.2.1)).trans a.out.2.2.1;have c1:Wi.cell? ⟨w.heap.size,1,none⟩=some (.int .i64 (S:Int)):=by rw[cell_of am,a.out.2.2.2.2.2];rfl
  have H:=a.out.2.2.2.2.1.below f;have ao:Live c s e D b Wi:=(Live.below a.out.2.1 f).mono (λj u=>.inl u) HK.out;have N:=Lib.hid (And.intro Z f);clear Z am f;by_cases o:i<S
  .have ar:(i:Int)<(S:Int):=mw.2 o
   have F:i<c.S:=by rw[<-a.out.2.2.2.2.2];exact o
   have q0:Wi.cell? ⟨bh,0,none⟩=some (.slice (some ⟨bw,0,none⟩) S S):=by rw[cell_of H.hb,a.out.2.2.2.2.2];rfl
   have q1:Wi.cell? ⟨bh,1,none⟩=some (.slice (some ⟨bg,0,none⟩) S S):=by rw[cell_of H.hb,a.out.2.2.2.2.2];rfl
   have qw:=H.who.cell F;have qg:=H.gen.cell F;have HL:=Lib.hid (And.intro (gQ H.hb) (And.intro H.who.lt H.gen.lt));clear H;by_cases x:h.who i=0
   .rw[x]at qw
    have qw:Wi.cell? ⟨bw,i,none⟩=some (.int .i64 0):=qw;clear qg ao;go_wp2;go_roundw
    case rel=>
     refine⟨i+1,o,by go_num,N.out.2,λj v u m=> ?_⟩;by_cases e:j=i
     .rw[e,x]at m;cases m
     .exact N.out.1 j v (by omega) m
    case measure=>simp[intOf];omega
   .obtain⟨v,m⟩:∃v,h.who i=v+1:=⟨h.who i-1,by omega⟩
    have G:v<c.W:=by have:=(HT.out.2.2 i x).2;omega
    have l:=ao.state G;obtain⟨p,hp⟩:∃p:Int,p=(h.who i:Int):=⟨_,rfl⟩;rw[<-hp]at qw;have I:(v:Int)=p-1:=by omega
    have bm:0<p:=by omega
    have bv:p<=4:=by omega
    rw[I]at l;have HV:=Lib.hid (And.intro m (And.intro G I));clear m G I x hp;by_cases P:(s.ws v).ph=.rest
    .rw[P]at l
     have bi:rJ Ph.rest=0:=rfl;rw[bi]at l;have HR:=Lib.hid P;clear P;go_wp2_with (go_at_call 23;refine l.mono ?_;rintro r w2 ⟨rfl,d,_⟩)
     have q0:=(d.cell (p:=⟨bh,0,none⟩) HL.out.1).trans q0;have q1:=(d.cell (p:=⟨bh,1,none⟩) HL.out.1).trans q1;have qw:=(d.cell (p:=⟨bw,i,none⟩) HL.out.2.1).trans qw;have qg:=(d.cell (p:=⟨bg,i,none⟩) HL.out.2.2).trans qg;have A:w2.heap[w.heap.size+1]?=some (.cells (vg Ask.zero).toArray 48 (0,0)):=by
      rw[d.block _ (ba (gQ a.out.2.2.2.1) N.out.2.size),N.out.2.block _ (gQ a.out.2.2.2.1)];exact a.out.2.2.2.1
     obtain⟨f0,f1,f2,f3,f4,f5,f6⟩:=arD A;obtain⟨z0,z1,z2,z3,z4,z5,z6⟩:=seven A;have HA:=Lib.hid A;clear A;go_region
     all_goals go_wp2
     generalize W:World.setCell _ ⟨w.heap.size+1,6,none⟩ _=W9;obtain⟨J,K⟩:=anq HA.out W.symm;clear W;obtain⟨r0,r1,r2,r3,r4,r5,r6⟩:=seven J;refine cC (v:=.tuple #[.int .i64 (p-1),.agg (vg (ahi h i)).toArray]) ?_ rfl ?_
     .simp[results,Tryz.f14,go_sem,r0,r1,r2,r3,r4,r5,r6,ahi]
     .have k1:Below w.heap.size w W9:=(a.out.1.trans ((N.out.2.trans (d.mono N.out.2.size)).mono a.out.1.size)).trans (K (· <w.heap.size) (by omega)).below
      exact⟨.inl ⟨i,v,F,HV.out.2.1,HV.out.1,HR.out,by rw[HV.out.2.2]⟩,k1.drew⟩
    .have O:¬rJ (s.ws v).ph=0:=fun k=>P (by cases hq:(s.ws v).ph<;>simp[hq,rJ]at k ⊢)
     generalize rJ (s.ws v).ph=ph at l O;have ca:(ph==0)=false:=na O;have cb:decide (ph=0)=false:=cT O;have HR:=Lib.hid P;clear P;go_wp2_with (go_at_call 23;refine l.mono ?_;rintro r w2 ⟨rfl,d,_⟩)
     go_roundw
     case rel=>
      refine⟨i+1,o,by go_num,N.out.2.trans (d.mono N.out.2.size),λj v' u m=> ?_⟩;by_cases e:j=i
      .have:=HV.out.1
       rw[e,this]at m;obtain rfl:v=v':=Nat.succ.inj m;exact HR.out
      .exact N.out.1 j v' (by omega) m
     case measure=>simp[intOf];omega
  .have ar:¬(i:Int)<(S:Int):=fun k=>o (mw.1 k)
   have A:Wi.heap[w.heap.size+1]?=some (.cells (vg Ask.zero).toArray 48 (0,0)):=by
    rw[N.out.2.block _ (gQ a.out.2.2.2.1)];exact a.out.2.2.2.1
   obtain⟨f0,f1,f2,f3,f4,f5,f6⟩:=arD A;obtain⟨z0,z1,z2,z3,z4,z5,z6⟩:=seven A;have HA:=Lib.hid A;clear A H;go_wp2;generalize W:World.setCell _ ⟨w.heap.size+1,6,none⟩ _=W9;obtain⟨J,K⟩:=anq HA.out W.symm;clear W;obtain⟨r0,r1,r2,r3,r4,r5,r6⟩:=seven J;refine cC (v:=.tuple #[.int .i64 (-1),.agg (vg Ask.zero).toArray]) ?_ rfl ?_
   .simp[results,Tryz.f14,go_sem,r0,r1,r2,r3,r4,r5,r6,Ask.zero]
   .have k1:Below w.heap.size w W9:=(a.out.1.trans (N.out.2.mono a.out.1.size)).trans (K (· <w.heap.size) (by omega)).below
    exact⟨.inr ⟨rfl,λj v u m=>N.out.1 j v (by rw[<-a.out.2.2.2.2.2]at u;omega) m⟩,k1⟩
end
noncomputable section
open Go.RowKit Go.bn Go.Sx Yq
structure PkS(c:Cn)(s:Ms)(n:Int)(k bx b:Nat)(A:Option Addr)(n':Nat)(D:Nat->Prop)(w1 W:World):Prop where
 live:∃e,e<=10*n/\Live c s e D b W
 BZ:Rst c n k s
 lt:D bx
 conf:W.heap[bx]?=some (.cells (dI c).toArray 30 (0,0))
 ord:oP D W A n'
 qZ:Kept D w1 W
variable{c:Cn} {s:Ms} {n:Int} {k a b:Nat} {A:Option Addr} {d:Nat} {D:Nat->Prop} {l W:World}
def PkS.cells(h:PkS c s n k a b A d D l W):W.cell? ⟨a,0,none⟩=some (.int .i64 (c.W:Int))/\W.cell? ⟨a,1,none⟩=some (.int .i64 (c.S:Int))/\W.cell? ⟨a,2,none⟩=some (.int .i64 c.st)/\W.cell? ⟨a,3,none⟩=some (.int .i64 (c.wt:Int))/\W.cell? ⟨a,4,none⟩=some (.int .i64 c.u):=by
 refine⟨?_,?_,?_,?_,?_⟩<;>(rw[cell_of h.conf];rfl)
def PkS.below{f:World}(h:PkS c s n k a b A d D l W)(i:Below W.heap.size W f):PkS c s n k a b A d D l f:=by
 obtain⟨⟨e,q,L⟩,R,r,o,u,v⟩:=h;have p:Kept D W f:=(Kept.of_below i).mono λj m=>L.lt j m;exact⟨⟨e,q,(Live.below L i).mono (λj m=>.inl m) L.kt⟩,R,r,(i.block _ (gQ o)).trans o,u.kept p,v.trans p⟩
def PkS.weaken{f:Int}{i:Nat}(h:PkS c s n k a b A d D l W)(m:n<=f)(x:k<=i):PkS c s f i a b A d D l W:=by
 obtain⟨⟨e,y,L⟩,⟨r,o,p,z⟩,q,u,v,w⟩:=h;exact⟨⟨e,by omega,L⟩,⟨r,an3 o m,p,by omega⟩,q,u,v,w⟩
def PkS.told(h:PkS c s n k a b A d D l W):∃e,eU c s.ev=some e:=by
 obtain⟨f,S⟩:=h.BZ.wg.1.2.safe;exact⟨f,S.tell⟩
def PkS.closed(h:PkS c s n k a b A d D l W):Calls Tryz.prog 13 #[.pointer (some ⟨b,0,none⟩)] W λr w=>r=.returned (.int .i64 s.m.cl)/\Below W.heap.size W w/\PkS c s n k a b A d D l w:=by
 obtain⟨e,i,L⟩:=h.live;exact(an2 W L).mono λr w f=>⟨f.1,f.2,h.below f.2⟩
def PkS.holder{f:Hd}(h:PkS c s n k a b A d D l W)(u:c.W<=4)(m:c.S<=5)(x:n<=50000000)(T:eU c s.ev=some f):Calls Tryz.prog 14 #[.pointer (some ⟨b,0,none⟩),.agg (dI c).toArray] W λr w=>((∃i v,i<c.S/\v<c.W/\f.who i=v+1/\(s.ws v).ph=.rest/\r=.returned (.tuple #[.int .i64 (v:Int),.agg (vg (ahi f i)).toArray]))\/
   (r=.returned (.tuple #[.int .i64 (-1),.agg (vg Ask.zero).toArray])/\∀i v,i<c.S->f.who i=v+1->(s.ws v).ph≠.rest))/\Below W.heap.size W w/\PkS c s n k a b A d D l w:=by
 obtain⟨e,y,L⟩:=h.live;obtain⟨⟨o,X⟩,_⟩:=h.BZ.wg;obtain⟨z,S⟩:=X.safe;have q:=S.tell;rw[T]at q;obtain rfl:=b9 q;exact(an1 u m T o S.hs W L (by omega)).mono λr w p=>⟨p.1,p.2,h.below p.2⟩
def akP(c:Cn)(h:Hd):Nat:=j4 (λi=>if h.who i=0 then 0 else 1) c.S
def apd{h:Hd}{i:Nat}(e:i<c.S)(w:h.who i≠0):akP c {h with who:=upd h.who i 0}+1=akP c h:=by
 have q:=Oq (f:=λj=>if upd h.who i 0 j=0 then 0 else 1) (g:=λj=>if h.who j=0 then 0 else 1) c.S e λj m=>by
  show(if upd h.who i 0 j=0 then 0 else 1)=_;rw[il _ _ m]
 unfold akP;dsimp only at q ⊢;rw[ck w,ky,tz rfl]at q;omega
def aqB{h:Hd}:akP c h<=c.S:=by
 have:=yO (f:=λi=>if h.who i=0 then 0 else 1) (k:=1) c.S λi _=>by split<;>omega
 unfold akP;omega
end
noncomputable section
open Go.RowKit Go.bn Go.Sx Yq
attribute [local go_sem ↓] Go.wp_at_zero Go.wp_at_succ
def M4(w:World)(y:Ev)(aa:Int):(w.alloc (.cells #[.bool false,.int .i64 0,.int .i64 0,.int .i64 0,.int .i64 0,.bool false,.bool false,.int .i64 0,.int .i64 0,.int .i64 0,.int .i64 0,.int .i64 0,.int .i64 0,.int .i64 0,.int .i64 0,.int .i64 0,.int .i64 0,.int .i64 0] 68)).there w.heap.size 0 (nA y aa).toArray.size:=akI (cs:= #[.bool false,.int .i64 0,.int .i64 0,.int .i64 0,.int .i64 0,.bool false,.bool false,.int .i64 0,.int .i64 0,.int .i64 0,.int .i64 0,.int .i64 0,.int .i64 0,.int .i64 0,.int .i64 0,.int .i64 0,.int .i64 0,.int .i64 0]) (t:=68) (by simp[qU,cQ]) (by rw[cU,zx];exact aq 18)
def ajX{w W:World}{y:Ev}{aa:Int}(e:W=(w.alloc (.cells #[.bool false,.int .i64 0,.int .i64 0,.int .i64 0,.int .i64 0,.bool false,.bool false,.int .i64 0,.int .i64 0,.int .i64 0,.int .i64 0,.int .i64 0,.int .i64 0,.int .i64 0,.int .i64 0,.int .i64 0,.int .i64 0,.int .i64 0] 68)).setCells w.heap.size 0 (nA y aa)):Below w.heap.size w W/\w.heap.size<W.heap.size/\W.rangeAt w.heap.size 0 (nA y aa):=by
 have h:=M4 w y aa;rw[cU]at h;revert h e;generalize a:Obj.cells _ _=X;intro e h;have B:=((Below.refl _ w).alloc (aq _) X).trans ((A7 (X:=(· <w.heap.size)) (m8 _) (nA y aa) 0 _).below);have s:=(A7 (X:=(· <w.heap.size)) (Z:=w.heap.size) (m8 _) (nA y aa) 0 (w.alloc X)).size;rw[<-e]at B s;have z:(w.alloc X).heap.size=w.heap.size+1:=by simp
 refine⟨B,by omega,?_⟩;rw[e];exact World.rangeAt_setCells_same _ _ _ _ h
def agf(y:Ev)(aa:Int):(Tryz.prog.info? 68).map (·.size)=some (nA y aa).toArray.size:=by kernel_rfl
def anp(w:World)(a:Ask):(w.alloc (.cells #[.int .i64 0,.int .i64 0,.bool false,.bool false,.int .i64 0,.int .i64 0,.int .i64 0] 48)).there w.heap.size 0 (vg a).toArray.size:=akI (cs:= #[.int .i64 0,.int .i64 0,.bool false,.bool false,.int .i64 0,.int .i64 0,.int .i64 0]) (t:=48) (by simp[qU,cQ]) (aq 7)
def aqD{w W:World}{a:Ask}(e:W=(w.alloc (.cells #[.int .i64 0,.int .i64 0,.bool false,.bool false,.int .i64 0,.int .i64 0,.int .i64 0] 48)).setCells w.heap.size 0 (vg a)):Below w.heap.size w W/\W.rangeAt w.heap.size 0 (vg a):=by
 have h:=anp w a;rw[cU]at h;revert h e;generalize b:Obj.cells _ _=X;intro e h;have B:=((Below.refl _ w).alloc (aq _) X).trans ((A7 (X:=(· <w.heap.size)) (m8 _) (vg a) 0 _).below);rw[<-e]at B;refine⟨B,?_⟩;rw[e];exact World.rangeAt_setCells_same _ _ _ _ h
def apf(a:Ask):(Tryz.prog.info? 48).map (·.size)=some (vg a).toArray.size:=by kernel_rfl
def aqC(a:Ask):(vg a).toArray.all (·.oneCell')=true:=by simp[vg,Value.oneCell']
