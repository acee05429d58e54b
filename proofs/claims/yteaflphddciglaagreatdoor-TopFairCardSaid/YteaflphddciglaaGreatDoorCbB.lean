import Derived.Test.YteaflphddciglaaGreatDoorCbA
set_option linter.all false
def jx:=@Int.le_refl
def mw:=@Int.ofNat_lt
namespace Go.Proofs.YteaflphddciglaaGreatDoor
namespace bq
noncomputable section
open Classical
def Pg{x n:aa}{own:Int}(h:az x 3 own 0=some n):n.own=own/\n.str=0/\n.gen=(x.gen+1)%4096:=by
 obtain⟨r,a,rfl,_⟩:=wG h;have a:uU x own=some r:=a;unfold uU at a;split at a<;>cases a;exact⟨rfl,rfl,rfl⟩
def RL{x n:aa}{own:Int}(h:az x 1 own 0=some n):n.own=own/\n.str=0:=by
 obtain⟨r,a,rfl,_⟩:=wG h;have a:yB x own=some r:=a;unfold yB at a;split at a<;>cases a;exact⟨rfl,rfl⟩
theorem Pk{x n:aa}{own:Int}(h:az x 16 own 0=some n):n.own=own/\n.str=0:=by
 obtain⟨r,a,rfl,_⟩:=wG h;have a:sZ x own=some r:=a;unfold sZ at a;split at a
 .cases a;exact⟨rfl,rfl⟩
 .split at a<;>cases a
  exact⟨rfl,rfl⟩
def Tu{x n:aa}{own more:Int}(h:az x 14 own more=some n):x.own=own/\n.own=own/\n.gen=x.gen/\bA x.str<more/\bA x.str<8/\n.str=x.str+2^(bA x.str).toNat/\n.brk=x.brk:=by
 obtain⟨r,a,rfl,_⟩:=wG h;have a:aZ x own more=some r:=a;unfold aZ at a;split at a<;>cases a;rename_i b;exact⟨b.2.1,b.2.1,rfl,b.2.2.2.1,b.2.2.2.2,rfl,rfl⟩
def Tt{x n:aa}{own more:Int}(h:az x 15 own more=some n):x.own=own/\n.own=own/\n.gen=x.gen/\0<=more/\more<=7/\x.str/2^more.toNat%2=1/\n.str=x.str-2^more.toNat/\n.brk=x.brk:=by
 obtain⟨r,a,rfl,_⟩:=wG h;have a:vH x own more=some r:=a;unfold vH at a;split at a<;>cases a;rename_i b;exact⟨b.2.1,b.2.1,rfl,b.2.2.1,b.2.2.2.1,b.2.2.2.2,rfl,rfl⟩
structure Hd where
 who:Nat->Nat
 gen:Nat->Int
 st:Nat->Nat->Bool
def Hd.zero:Hd:=⟨λ_=>0,λ_=>0,λ_ _=>false⟩
def Hd.has(c:Cn)(h:Hd)(w:Nat)(a:Ask):Prop:=0<=a.slot/\a.slot<c.S/\h.who a.slot.toNat=w+1/\h.gen a.slot.toNat=a.gen
def Hd.told(c:Cn)(h:Hd)(x:Ev):Option Hd:=
 if x.ended=false\/x.ans.e≠0 then some h else
 match x.ask.op with
 |0=>if x.ans.slot<0\/c.S<=x.ans.slot then none else some ⟨upd h.who x.ans.slot.toNat (x.who+1),upd h.gen x.ans.slot.toNat x.ans.gen,upd h.st x.ans.slot.toNat (λ_=>false)⟩
 |1=>some (if h.has c x.who x.ask then{h with who:=upd h.who x.ask.slot.toNat 0}else h)
 |2=>some (if h.has c x.who x.ask then{h with who:=upd h.who x.ask.slot.toNat 0}else h)
 |3=>if¬h.has c x.who x.ask\/x.ans.bg<0\/7<x.ans.bg then none else
  if h.st x.ask.slot.toNat x.ans.bg.toNat=true then none else some {h with st:=upd h.st x.ask.slot.toNat (upd (h.st x.ask.slot.toNat) x.ans.bg.toNat true)}
 |4=>if¬h.has c x.who x.ask\/x.ans.bg<0\/7<x.ans.bg then none else
  if h.st x.ask.slot.toNat x.ans.bg.toNat=false then none else some {h with st:=upd h.st x.ask.slot.toNat (upd (h.st x.ask.slot.toNat) x.ans.bg.toNat false)}
 |_=>some h
def eU(c:Cn):List Ev->Option Hd
 |[]=>some Hd.zero
 |x::r=>(eU c r).bind λh=>h.told c x
def takeC(x:Wr)(i:Nat)(y:Int):Prop:=∃t,x.ph=.work (.get t)/\(t.st=.check\/t.st=.move\/t.st=.dD\/t.st=.back\/t.st=.go/\t.rt.st=.swap)/\t.i=i/\t.gen=y
def iw(x:Wr)(i:Nat)(y:Int):Prop:=∃t a,x.ph=.ax t none a/\x.ask.op=0/\a.e=0/\a.slot=i/\a.gen=y
def jw(x:Wr)(i:Nat)(y:Int):Prop:=
 (∃g,x.ph=.work (.give g)/\g.i=i/\g.gen=y/\g.st=.go/\g.rt.sw=true)\/
 ∃t a,x.ph=.ax t none a/\(x.ask.op=1\/x.ask.op=2)/\a.e=0/\x.ask.slot=i/\x.ask.gen=y
def ig(x:Wr)(i:Nat)(y:Int)(n:Nat)(o:Bool):Prop:=
 ∃t a,x.ph=.ax t none a/\x.ask.op=(if o then 3 else 4)/\a.e=0/\x.ask.slot=i/\x.ask.gen=y/\a.bg=n
def gU(m:Mm)(i w:Nat)(y:Int):Prop:=(m.sl i).st=3/\(m.sl i).own=w/\(m.sl i).gen=y
def mine(w:Nat)(y:Int)(x:aa):Prop:=x.st=3/\x.own=w/\x.gen=y
def Uo(w:Nat)(y:Int)(r:Rt):Prop:=(r.st=.swap->mine w y r.wd)/\(r.st≠.swap->r.sw=true)
def Q3(w:Nat)(t:Tk):Prop:=t.st=.go->t.rt.i=t.i/\Uo w t.gen t.rt
def GvW(c:Cn)(w:Nat)(g:Gv):Prop:=
 (g.st=.rest->0<=g.i/\g.i<c.S/\mine w g.gen g.wd)/\(g.st=.go->0<=g.i/\g.i<c.S/\g.rt.i=g.i.toNat/\Uo w g.gen g.rt)
def ZU(c:Cn)(w:Nat)(g:Sm):Prop:=
 g.st=.swap->0<=g.i/\g.i<c.S/\mine w g.gen g.wd/\g.next c w g.wd=some g.nx/\g.num=(if g.op then bA g.wd.str else g.n)
def RpW(r:Rp):Prop:=r.st=.dB->r.rt.st=.swap->r.rt.wd.st=2
def MN(m:Mm)(t:Td):Prop:=(t.st=.dL->t.look.ow=t.cl/\t.cl<=2/\(t.cl=2->m.cl=2))/\(t.st=.go->t.cl<=2/\t.look.ow=t.cl/\(t.cl=2->m.cl=2)/\(t.rt.st=.swap->t.rt.wd.st=3->m.cl=2))
def Ll(c:Cn)(x:Ask)(a:bR):Prop:=
 a.e=0->(x.op=0->0<=a.slot/\a.slot<c.S)/\(x.op=1\/x.op=2->0<=x.slot/\x.slot<c.S)/\(x.op=3\/x.op=4->0<=x.slot/\x.slot<c.S/\0<=a.bg/\a.bg<=7)
def QZ(c:Cn)(w:Nat)(x:Ask)(k:Wk):Prop:=
 match k with
 | .get t=>x.op=0/\Q3 w t
 | .give g=>(x.op=1\/x.op=2)/\g.i=x.slot/\g.gen=x.gen/\GvW c w g
 | .bg g=>x.op=(if g.op then 3 else 4)/\g.i=x.slot/\g.gen=x.gen/\ZU c w g
 | .close _=>5<=x.op
 | .stats _=>5<=x.op
 | .aS r=>5<=x.op/\RpW r
def nW(c:Cn)(m:Mm)(w:Nat)(x:Wr):Prop:=
 match x.ph with
 | .rest=>True
 | .pin _=>True
 | .work k=>QZ c w x.ask k
 | .counts _=>x.ask.op=0
 | .enters _=>x.ask.op=0
 | .ax t p a=>MN m t/\(match p with|some _=>x.ask.op=0|none=>Ll c x.ask a)
 | .parked _=>x.ask.op=0
 | .wakes _=>x.ask.op=0
 | .leaves _=>x.ask.op=0
def aej(c)(w)(x):QZ c w x.ask (bE x):=by
 unfold bE;split
 .split
  .exact⟨‹_›,λh=>(by cases h)⟩
  .exact⟨‹_›,λh=>(by cases h)⟩
 .exact⟨.inl ‹_›,rfl,rfl,⟨λh=>(by cases h),λh=>(by cases h)⟩⟩
 .exact⟨.inr ‹_›,rfl,rfl,⟨λh=>(by cases h),λh=>(by cases h)⟩⟩
 .exact⟨‹_›,rfl,rfl,λh=>(by cases h)⟩
 .exact⟨‹_›,rfl,rfl,λh=>(by cases h)⟩
 .exact⟨by grind,λh=>(by cases h)⟩
 .show 5<=x.ask.op
  omega
 .show 5<=x.ask.op
  grind
def UY{w}{y}{m}{r}(h:Uo w y r)(d:(r.step m).1.st≠.done):Uo w y (r.step m).1/\(r.step m).1.st≠.swap/\(r.step m).1.i=r.i:=by
 obtain⟨i,a,p,c,s⟩:=r;obtain⟨k,b⟩:=h;cases c with
 |swap=>
  unfold Rt.step at d ⊢;dsimp only at d ⊢;split at d
  .split at d
   .rename_i n f
    rw[tz f];exact⟨⟨λh=>(by cases h),λ_=>rfl⟩,by simp,rfl⟩
   grind
  grind
 |look=>exact⟨⟨λh=>(by cases h),λ_=>b (by simp)⟩,by simp[Rt.step],rfl⟩
 |iI=>
  have e:(⟨i,a,p,.iI,s⟩:Rt).step m=(⟨i,a,p,.jk,s⟩,((⟨i,a,p,.iI,s⟩:Rt).step m).2):=by
   grind [Rt.step]
  rw[e];exact⟨⟨λh=>(by cases h),λ_=>b (by simp)⟩,by simp,rfl⟩
 |jk=>exact tA rfl d
 |done=>exact tA rfl d
def NN(h:Hd)(x:Wr)(w i:Nat)(y:Int):Prop:=h.who i=w+1/\h.gen i=y/\¬jw x i y
def est(h:Hd)(x:Wr)(i k:Nat):Prop:=(h.st i k=true/\¬ ∃y,ig x i y k false)\/∃y,ig x i y k true
def Bits(h:Hd)(x:Wr)(i:Nat)(s:Int):Prop:=∀k,k<8->(s/2^k%2=1↔est h x i k)
structure bJ(c:Cn)(s:Ms)(h:Hd):Prop where
 tell:eU c s.ev=some h
 one:s.m.cl≠2->∀w i y,w<c.W->(takeC (s.ws w) i y\/iw (s.ws w) i y\/NN h (s.ws w) w i y)->gU s.m i w y
 pO:s.m.cl≠2->∀w i y,w<c.W->(takeC (s.ws w) i y\/iw (s.ws w) i y)->h.who i≠w+1
 back:∀i,i<c.S->(s.m.sl i).st=3->∃w,w<c.W/\(s.m.sl i).own=w/\
  (((takeC (s.ws w) i (s.m.sl i).gen\/iw (s.ws w) i (s.m.sl i).gen)/\(s.m.sl i).str=0)\/(h.who i=w+1/\h.gen i=(s.m.sl i).gen/\Bits h (s.ws w) i (s.m.sl i).str))
 pd:∀v w i y,v<c.W->w<c.W->iw (s.ws v) i y->h.who i=w+1->jw (s.ws w) i (h.gen i)
 xB:∀v w i y z,v<c.W->w<c.W->iw (s.ws v) i y->iw (s.ws w) i z->v=w
 st:∀w i y n op,w<c.W->ig (s.ws w) i y n op->i<c.S/\n<8/\h.who i=w+1/\h.gen i=y/\h.st i n= !op
 rel:∀w i y,w<c.W->jw (s.ws w) i y->¬gU s.m i w y
 hs:∀i,h.who i≠0->i<c.S/\h.who i<=c.W
 cap:∀i,i<c.S->(s.m.sl i).st=3->0<=(s.m.sl i).str/\∀k:Nat,k<8->c.st<=k->(s.m.sl i).str/2^k%2≠1
structure vM(x x':Wr):Prop where
 take:∀i y,takeC x' i y↔takeC x i y
 pend:∀i y,iw x' i y↔iw x i y
 rel:∀i y,jw x' i y↔jw x i y
 bg:∀i y n op,ig x' i y n op↔ig x i y n op
structure iC(x:Wr):Prop where
 take:∀i y,¬takeC x i y
 pend:∀i y,¬iw x i y
 rel:∀i y,¬jw x i y
 bg:∀i y n op,¬ig x i y n op
def iC.same{x b:Wr}(h:iC x)(a:iC b):vM x b:=
 ⟨λi y=>⟨λk=>tA k (a.take i y),λk=>tA k (h.take i y)⟩,λi y=>⟨λk=>tA k (a.pend i y),λk=>tA k (h.pend i y)⟩,
  λi y=>⟨λk=>tA k (a.rel i y),λk=>tA k (h.rel i y)⟩,λi y n o=>⟨λk=>tA k (a.bg i y n o),λk=>tA k (h.bg i y n o)⟩⟩
variable{c:Cn} {s d:Ms} {w:Nat} {h:Hd}
def zJ(s d:Ms)(w:Nat):Prop:=∀j,j≠w->d.ws j=s.ws j
def ab9{x a:Wr}(k:vM x a)(i n:Nat):est h a i n↔est h x i n:=by
 unfold est;simp only[k.bg]
def ZG{x a:Wr}(k:vM x a)(i:Nat)(v:Int):Bits h a i v↔Bits h x i v:=by
 unfold Bits;simp only[ab9 k]
def YY{x a:Wr}(k:vM x a)(w i:Nat)(y:Int):NN h a w i y↔NN h x w i y:=by
 unfold NN;rw[k.rel]
def aaN(o:zJ s d w)(k:vM (s.ws w) (d.ws w))(v:Nat):vM (s.ws v) (d.ws v):=by
 by_cases e:v=w
 .subst e;exact k
 .rw[o v e];exact⟨λ_ _=>Iff.rfl,λ_ _=>Iff.rfl,λ_ _=>Iff.rfl,λ_ _ _ _=>Iff.rfl⟩
def qj{m:Mm}{i v w:Nat}{y z:Int}(e:gU m i v y)(f:gU m i w z):v=w:=by
 have a:=e.2.1;have b:=f.2.1;rw[a]at b;omega
def TE{m:Mm}{i v w:Nat}{y z:Int}(a:gU m i v y)(b:gU m i w z):y=z:=a.2.2.symm.trans b.2.2
def mJ{s d:Ms}{i w:Nat}{y:Int}(e:d.m.sl i=s.m.sl i):gU d.m i w y↔gU s.m i w y:=by unfold gU;rw[e]
def lT(I:bJ c s h)(o:zJ s d w)(k:vM (s.ws w) (d.ws w))(D:eU c d.ev=some h)(A:d.m.cl≠2->s.m.cl≠2)
  (p:∀i,d.m.sl i=s.m.sl i\/(d.m.sl i).st≠3/\(d.m.cl≠2->(s.m.sl i).st≠3)):bJ c d h:=by
 have b:=aaN o k;have E:∀i w y,d.m.cl≠2->gU s.m i w y->gU d.m i w y:=by
  intro i w y F l;rcases p i with e|e
  .unfold gU;rw[e];exact l
  .exact tA l.1 (e.2 F)
 refine⟨D,λl v i y f a=>E _ _ _ l (I.one (A l) v i y f ?_),λl v i y f a=>I.pO (A l) v i y f ?_,λi q m=> ?_,λv u i y f r x G=> ?_,λv u i y z f r x H=> ?_,λv i y n B f a=> ?_,λv i y f J C=> ?_,I.hs,λi q m=> ?_⟩
 .rcases a with a|a|a
  .exact .inl (((b v).take i y).1 a)
  .exact .inr (.inl (((b v).pend i y).1 a))
  .exact .inr (.inr ((YY (b v) v i y).1 a))
 .rcases a with a|a
  .exact .inl (((b v).take i y).1 a)
  .exact .inr (((b v).pend i y).1 a)
 .rcases p i with e|e
  .rw[e]at m ⊢
   obtain⟨v,f,K,a⟩:=I.back i q m;refine⟨v,f,K,?_⟩;rw[(b v).take,(b v).pend,ZG (b v)];exact a
  .exact tA m e.1
 .exact((b u).rel _ _).2 (I.pd v u i y f r (((b v).pend i y).1 x) G)
 .exact I.xB v u i y z f r (((b v).pend i y).1 x) (((b u).pend i z).1 H)
 .exact I.st v i y n B f (((b v).bg i y n B).1 a)
 .rcases p i with e|e
  .exact I.rel v i y f (((b v).rel i y).1 J) ((mJ e).1 C)
  .exact e.1 C.1
 .rcases p i with e|e
  .rw[e]at m ⊢;exact I.cap i q m
  .exact tA m e.1
def IV{x:Wr}(n:∀i y k o,¬ig x i y k o)(i k:Nat):est h x i k↔h.st i k=true:=by
 unfold est;constructor
 .rintro(a|⟨y,a⟩)
  .exact a.1
  .exact tA a (n _ _ _ _)
 .exact λa=>.inl ⟨a,λ⟨y,b⟩=>n _ _ _ _ b⟩
def jb{x:Wr}(n:∀i y k o,¬ig x i y k o)(i:Nat)(v:Int):Bits h x i v↔∀k,k<8->(v/2^k%2=1↔h.st i k=true):=by
 unfold Bits;simp only[IV n]
def UU{j:Nat}{y:Int}(I:bJ c s h)(o:zJ s d w)(N:w<c.W)(n:iC (s.ws w))(S:d.ev=s.ev)(O:d.m.cl=s.m.cl)
  (P:(s.m.sl j).st≠3) (D:gU d.m j w y) (Q:(d.m.sl j).str=0) (E:∀i,i≠j->d.m.sl i=s.m.sl i)
  (t:∀i z,takeC (d.ws w) i z↔i=j/\z=y) (p:∀i z,¬iw (d.ws w) i z) (r:∀i z,¬jw (d.ws w) i z) (q:∀i z k G,¬ig (d.ws w) i z k G):bJ c d h:=by
 have T:∀{i v z},gU s.m i v z->i≠j:=λk e=>P (e▸k.1);have x:∀{i v z},gU s.m i v z->gU d.m i v z:=λk=>(mJ (E _ (T k))).2 k;have H:s.m.cl≠2->h.who j≠w+1:=λk e=>P (I.one k w j (h.gen j) N (.inr (.inr ⟨e,rfl,n.rel _ _⟩))).1;refine⟨by rw[S];exact I.tell,λk v i z l f=> ?_,λk v i z l f=> ?_,λi J B=> ?_,λv u i z l K A C=> ?_,λv u i z U l K A C=> ?_,λv i z k G l f=> ?_,λv i z l L R=> ?_,I.hs,λi J B=> ?_⟩
 .rw[O]at k
  by_cases e:v=w
  .subst e
   rcases f with f|f|f
   .obtain⟨rfl,rfl⟩:=(t i z).1 f;exact D
   .exact tA f (p _ _)
   .exact x (I.one k v i z l (.inr (.inr ⟨f.1,f.2.1,n.rel _ _⟩)))
  .rw[o v e]at f;exact x (I.one k v i z l f)
 .rw[O]at k
  by_cases e:v=w
  .subst e
   rcases f with f|f
   .obtain⟨rfl,rfl⟩:=(t i z).1 f;exact H k
   .exact tA f (p _ _)
  .rw[o v e]at f;exact I.pO k v i z l f
 .by_cases e:i=j
  .subst e
   exact⟨w,N,D.2.1,.inl ⟨.inl ((t _ _).2 ⟨rfl,D.2.2⟩),Q⟩⟩
  .rw[E i e]at B ⊢
   obtain⟨v,l,V,f⟩:=I.back i J B;refine⟨v,l,V,?_⟩;by_cases m:v=w
   .subst m
    rcases f with⟨f|f,_⟩|⟨a,b,f⟩
    .exact tA f (n.take _ _)
    .exact tA f (n.pend _ _)
    .exact .inr ⟨a,b,(jb q _ _).2 ((jb n.bg _ _).1 f)⟩
   .rw[o v m];exact f
 .by_cases m:v=w
  .subst m;exact tA A (p _ _)
  .rw[o v m]at A
   have k:=I.pd v u i z l K A C;by_cases F:u=w
   .subst F;exact tA k (n.rel _ _)
   .rw[o u F];exact k
 .have m:v≠w:=fun e=>by subst e;exact p _ _ A
  have F:u≠w:=λe=>by subst e;exact p _ _ C
  rw[o v m]at A;rw[o u F]at C;exact I.xB v u i z U l K A C
 .have m:v≠w:=fun e=>by subst e;exact q _ _ _ _ f
  rw[o v m]at f;exact I.st v i z k G l f
 .have m:v≠w:=fun e=>by subst e;exact r _ _ L
  rw[o v m]at L;have W:i≠j:=λe=>by subst e;exact m (qj R D)
  exact I.rel v i z l L ((mJ (E i W)).1 R)
 .by_cases e:i=j
  .subst e
   rw[Q];refine⟨jx _,λk _ _=> ?_⟩;rw[Int.zero_ediv];decide
  .rw[E i e]at B ⊢;exact I.cap i J B
def XN{j:Nat}{y:Int}(I:bJ c s h)(o:zJ s d w)(K:w<c.W)(P:d.ev=s.ev)(F:d.m=s.m)(B:s.m.cl≠2)
  (G:∀i z,takeC (s.ws w) i z↔i=j/\z=y) (p0:∀i z,¬iw (s.ws w) i z) (L:∀i z,¬jw (s.ws w) i z) (Q:∀i z k E,¬ig (s.ws w) i z k E)
  (t:∀i z,¬takeC (d.ws w) i z) (p:∀i z,iw (d.ws w) i z↔i=j/\z=y) (r:∀i z,¬jw (d.ws w) i z) (q:∀i z k E,¬ig (d.ws w) i z k E):bJ c d h:=by
 have C:gU s.m j w y:=I.one B w j y K (.inl ((G _ _).2 ⟨rfl,rfl⟩));have N:h.who j≠w+1:=I.pO B w j y K (.inl ((G _ _).2 ⟨rfl,rfl⟩));refine⟨by rw[P];exact I.tell,λk v i z m f=> ?_,λk v i z m f=> ?_,λi R O=> ?_,λv u i z m D n x=> ?_,λv u i z H m D n x=> ?_,λv i z k E m f=> ?_,λv i z m J C=> ?_,I.hs,?_⟩
 .rw[F]
  by_cases e:v=w
  .subst e
   rcases f with f|f|f
   .exact tA f (t _ _)
   .obtain⟨rfl,rfl⟩:=(p i z).1 f;exact C
   .exact I.one B v i z m (.inr (.inr ⟨f.1,f.2.1,L _ _⟩))
  .rw[o v e]at f;exact I.one B v i z m f
 .by_cases e:v=w
  .subst e
   rcases f with f|f
   .exact tA f (t _ _)
   .obtain⟨rfl,rfl⟩:=(p i z).1 f;exact N
  .rw[o v e]at f;exact I.pO B v i z m f
 .rw[F]at O ⊢
  obtain⟨v,m,S,f⟩:=I.back i R O;refine⟨v,m,S,?_⟩;by_cases l:v=w
  .subst l
   rcases f with⟨f|f,k⟩|⟨a,b,f⟩
   .exact .inl ⟨.inr ((p _ _).2 ((G _ _).1 f)),k⟩
   .exact tA f (p0 _ _)
   .exact .inr ⟨a,b,(jb q _ _).2 ((jb Q _ _).1 f)⟩
  .rw[o v l];exact f
 .by_cases A:u=w
  .subst A
   by_cases l:v=u
   .subst l
    obtain⟨rfl,rfl⟩:=(p i z).1 n;exact tA x N
   .rw[o v l]at n
    exact tA (I.pd v u i z m D n x) (L _ _)
  .rw[o u A]
   by_cases l:v=w
   .subst l
    obtain⟨rfl,rfl⟩:=(p i z).1 n;refine cv λk=> ?_;have:=I.one B u i (h.gen i) D (.inr (.inr ⟨x,rfl,k⟩));exact A (qj this C)
   .rw[o v l]at n
    exact I.pd v u i z m D n x
 .by_cases l:v=w
  .by_cases A:u=w
   .exact l.trans A.symm
   .subst l
    obtain⟨rfl,rfl⟩:=(p i z).1 n;rw[o u A]at x;exact qj C (I.one B u i H D (.inr (.inl x)))
  .by_cases A:u=w
   .subst A
    obtain⟨rfl,rfl⟩:=(p i H).1 x;rw[o v l]at n;exact qj (I.one B v i z m (.inr (.inl n))) C
   .rw[o v l]at n
    rw[o u A]at x;exact I.xB v u i z H m D n x
 .have l:v≠w:=fun e=>by subst e;exact q _ _ _ _ f
  rw[o v l]at f;exact I.st v i z k E m f
 .have l:v≠w:=fun e=>by subst e;exact r _ _ J
  rw[o v l]at J;rw[F]at C;exact I.rel v i z m J C
 .rw[F];exact I.cap
end
noncomputable section
open Classical
variable{c:Cn} {s A:Ms} {w:Nat} {h:Hd}
def XR{j:Nat}{y:Int}(I:bJ c s h)(o:zJ s A w)(W:w<c.W)(Q:A.ev=s.ev)(N:A.m.cl=s.m.cl)
  (R:∀i z,takeC (s.ws w) i z->i=j/\z=y) (p0:∀i z,¬iw (s.ws w) i z) (O:∀i z,¬jw (s.ws w) i z) (S:∀i z k H,¬ig (s.ws w) i z k H)
  (n:iC (A.ws w)) (D:∀i,i≠j->A.m.sl i=s.m.sl i)
  (f:A.m.sl j=s.m.sl j/\¬gU s.m j w y\/takeC (s.ws w) j y/\gU s.m j w y/\(A.m.sl j).st≠3):bJ c A h:=by
 refine⟨by rw[Q];exact I.tell,λk v i z m d=> ?_,λk v i z m d=> ?_,λi J r=> ?_,λv u i z m K x C=> ?_,λv u i z T m K x C=> ?_,λv i z k H m d=> ?_,λv i z m E L=> ?_,I.hs,λi J r=> ?_⟩
 .rw[N]at k
  have B:gU s.m i v z:=by
   by_cases e:v=w
   .subst e
    rcases d with d|d|d
    .exact tA d (n.take _ _)
    .exact tA d (n.pend _ _)
    .exact I.one k v i z m (.inr (.inr ⟨d.1,d.2.1,O _ _⟩))
   .rw[o v e]at d;exact I.one k v i z m d
  by_cases p:i=j
  .subst p
   rcases f with f|f
   .exact(mJ f.1).2 B
   .have U:=qj B f.2.1
    subst U;rcases d with d|d|d
    .exact tA d (n.take _ _)
    .exact tA d (n.pend _ _)
    .exact tA d.1 (I.pO k v i y m (.inl f.1))
  .exact(mJ (D i p)).2 B
 .rw[N]at k
  by_cases e:v=w
  .subst e
   rcases d with d|d
   .exact tA d (n.take _ _)
   .exact tA d (n.pend _ _)
  .rw[o v e]at d;exact I.pO k v i z m d
 .have F:A.m.sl i=s.m.sl i:=by
   by_cases p:i=j
   .subst p
    rcases f with f|f
    .exact f.1
    .exact tA r f.2.2
   .exact D i p
  rw[F]at r ⊢;obtain⟨v,m,P,d⟩:=I.back i J r;refine⟨v,m,P,?_⟩;by_cases q:v=w
  .subst q
   rcases d with⟨d|d,k⟩|⟨a,b,d⟩
   .exfalso
    obtain⟨rfl,V⟩:=R _ _ d;have l:gU s.m i v y:=⟨r,P,V⟩;rcases f with f|f
    .exact f.2 l
    .exact f.2.2 (F▸r)
   .exact tA d (p0 _ _)
   .exact .inr ⟨a,b,(jb n.bg _ _).2 ((jb S _ _).1 d)⟩
  .rw[o v q];exact d
 .by_cases q:v=w
  .subst q;exact tA x (n.pend _ _)
  .rw[o v q]at x
   have k:=I.pd v u i z m K x C;by_cases G:u=w
   .subst G;exact tA k (O _ _)
   .rw[o u G];exact k
 .have q:v≠w:=fun e=>by subst e;exact n.pend _ _ x
  have G:u≠w:=λe=>by subst e;exact n.pend _ _ C
  rw[o v q]at x;rw[o u G]at C;exact I.xB v u i z T m K x C
 .have q:v≠w:=fun e=>by subst e;exact n.bg _ _ _ _ d
  rw[o v q]at d;exact I.st v i z k H m d
 .have q:v≠w:=fun e=>by subst e;exact n.rel _ _ E
  rw[o v q]at E;by_cases p:i=j
  .subst p
   rcases f with f|f
   .exact I.rel v i z m E ((mJ f.1).1 L)
   .exact f.2.2 L.1
  .exact I.rel v i z m E ((mJ (D i p)).1 L)
 .have F:A.m.sl i=s.m.sl i:=by
   by_cases p:i=j
   .subst p
    rcases f with f|f
    .exact f.1
    .exact tA r f.2.2
   .exact D i p
  rw[F]at r ⊢;exact I.cap i J r
def XT{j:Nat}{y:Int}(I:bJ c s h)(o:zJ s A w)(T:w<c.W)(n:iC (s.ws w))(Q:A.ev=s.ev)(O:A.m.cl=s.m.cl)
  (P:gU s.m j w y) (H:(A.m.sl j).st≠3) (D:∀i,i≠j->A.m.sl i=s.m.sl i)
  (t:∀i z,¬takeC (A.ws w) i z) (p:∀i z,¬iw (A.ws w) i z) (r:∀i z,jw (A.ws w) i z↔i=j/\z=y) (q:∀i z k J,¬ig (A.ws w) i z k J):bJ c A h:=by
 refine⟨by rw[Q];exact I.tell,λk v i z f d=> ?_,λk v i z f d=> ?_,λi K B=> ?_,λv u i z f L C E=> ?_,λv u i z R f L C E=> ?_,λv i z k J f d=> ?_,λv i z f N F=> ?_,I.hs,λi K B=> ?_⟩
 .rw[O]at k
  by_cases e:v=w
  .subst e
   rcases d with d|d|d
   .exact tA d (t _ _)
   .exact tA d (p _ _)
   .have l:=I.one k v i z f (.inr (.inr ⟨d.1,d.2.1,n.rel _ _⟩))
    by_cases m:i=j
    .subst m
     have:=TE l P;subst this;exact tA ((r _ _).2 ⟨rfl,rfl⟩) d.2.2
    .exact(mJ (D i m)).2 l
  .rw[o v e]at d
   have l:=I.one k v i z f d;by_cases m:i=j
   .subst m;exact tA (qj l P) e
   .exact(mJ (D i m)).2 l
 .rw[O]at k
  by_cases e:v=w
  .subst e
   rcases d with d|d
   .exact tA d (t _ _)
   .exact tA d (p _ _)
  .rw[o v e]at d;exact I.pO k v i z f d
 .have m:i≠j:=fun e=>H (e▸B)
  rw[D i m]at B ⊢;obtain⟨v,f,S,d⟩:=I.back i K B;refine⟨v,f,S,?_⟩;by_cases x:v=w
  .subst x
   rcases d with⟨d|d,k⟩|⟨a,b,d⟩
   .exact tA d (n.take _ _)
   .exact tA d (n.pend _ _)
   .exact .inr ⟨a,b,(jb q _ _).2 ((jb n.bg _ _).1 d)⟩
  .rw[o v x];exact d
 .by_cases x:v=w
  .subst x;exact tA C (p _ _)
  .rw[o v x]at C
   have k:=I.pd v u i z f L C E;by_cases G:u=w
   .subst G;exact tA k (n.rel _ _)
   .rw[o u G];exact k
 .have x:v≠w:=fun e=>by subst e;exact p _ _ C
  have G:u≠w:=λe=>by subst e;exact p _ _ E
  rw[o v x]at C;rw[o u G]at E;exact I.xB v u i z R f L C E
 .have x:v≠w:=fun e=>by subst e;exact q _ _ _ _ d
  rw[o v x]at d;exact I.st v i z k J f d
 .by_cases m:i=j
  .subst m;exact H F.1
  .have F:=(mJ (D i m)).1 F
   by_cases x:v=w
   .subst x;exact m ((r _ _).1 N).1
   .rw[o v x]at N
    exact I.rel v i z f N F
 .have m:i≠j:=fun e=>H (e▸B)
  rw[D i m]at B ⊢;exact I.cap i K B
def QO{v:Int}{n:Nat}:(v+2^n)/2^n=v/2^n+1:=by
 have:=mn v 1 (show(2:Int)^n≠0 from Int.ne_of_gt (rN (by decide)));rwa[Int.one_mul]at this
def Ul{v:Int}{n k:Nat}(a:n<8)(b:k<8)(e:k≠n)(h:v/2^n%2=0):(v+2^n)/2^k%2=v/2^k%2:=by
 rcases(by omega:n=0\/n=1\/n=2\/n=3\/n=4\/n=5\/n=6\/n=7)with rfl|rfl|rfl|rfl|rfl|rfl|rfl|rfl<;>
 rcases(by omega:k=0\/k=1\/k=2\/k=3\/k=4\/k=5\/k=6\/k=7)with rfl|rfl|rfl|rfl|rfl|rfl|rfl|rfl<;>
 first|exact tA rfl e|(simp only[Int.reducePow]at h ⊢;omega)
def afQ{v:Int}{n:Nat}(a:n<8)(d:0<=v)(h:v/2^n%2≠1):∀k:Nat,k<8->((v+2^n)/2^k%2=1↔k=n\/v/2^k%2=1):=by
 intro k b;by_cases e:k=n
 .subst e
  rw[QO];exact⟨λ_=>.inl rfl,λ_=>by omega⟩
 .rw[Ul a b e (by omega)]
  exact⟨.inr,λk=>k.resolve_left e⟩
def afO{v:Int}{n:Nat}(a:n<8)(f:0<=v)(h:v/2^n%2=1):∀k:Nat,k<8->((v-2^n)/2^k%2=1↔k≠n/\v/2^k%2=1):=by
 intro k d;have b:=QO (v:=v-2^n) (n:=n);rw[Int.sub_add_cancel]at b;by_cases e:k=n
 .subst e
  exact⟨λh=>by omega,λh=>tA rfl h.1⟩
 .have c:=Ul (v:=v-2^n) a d e (by omega)
  rw[Int.sub_add_cancel]at c;rw[<-c];exact⟨λh=>⟨e,h⟩,λh=>h.2⟩
def ah2{v:Int}{n:Nat}(a:0<=v)(h:v/2^n%2=1):2^n<=v:=by
 have p:(0:Int)<2^n:=rN (by decide);refine cv λk=> ?_;rw[mj a (by omega)]at h;cases h
def afa{v:Int}(h:bA v<8)(a:0<=v):0<=bA v/\v/2^(bA v).toNat%2≠1:=by
 grind [bA]
def XO{j n:Nat}{y:Int}{op:Bool}(I:bJ c s h)(o:zJ s A w)(hw:w<c.W)(V:j<c.S)(R:n<8)(F:iC (s.ws w))(he:A.ev=s.ev)(hc:A.m.cl=s.m.cl)
  (K:gU s.m j w y) (S:gU A.m j w y) (T:∀i,i≠j->A.m.sl i=s.m.sl i)
  (f:if op then(s.m.sl j).str/2^n%2≠1/\(A.m.sl j).str=(s.m.sl j).str+2^n/\(n:Int)<c.st else(s.m.sl j).str/2^n%2=1/\(A.m.sl j).str=(s.m.sl j).str-2^n)
  (t:∀i z,¬takeC (A.ws w) i z) (p:∀i z,¬iw (A.ws w) i z) (r:∀i z,¬jw (A.ws w) i z) (q:∀i z k o,ig (A.ws w) i z k o↔i=j/\z=y/\k=n/\o=op):bJ c A h:=by
 obtain⟨u,ac,W,m⟩:=I.back j V K.1;have L:u=w:=by have:=K.2.1;rw[W]at this;omega
 subst L;obtain⟨a,b,U⟩:h.who j=u+1/\h.gen j=(s.m.sl j).gen/\Bits h (s.ws u) j (s.m.sl j).str:=by
  rcases m with⟨m|m,_⟩|m
  .exact tA m (F.take _ _)
  .exact tA m (F.pend _ _)
  .exact m
 clear m;have U:=(jb F.bg _ _).1 U;obtain⟨X,gc⟩:=I.cap j V K.1;have gy:h.gen j=y:=b.trans K.2.2;have N:h.st j n= !op:=by
  have k:=U n R;cases op with
  |true=>
   have:¬h.st j n=true:=λe=>f.1 (k.2 e);simpa using this
  |false=>exact k.1 f.1
 have O:∀k,k<8->((A.m.sl j).str/2^k%2=1↔if k=n then op=true else(s.m.sl j).str/2^k%2=1):=by
  intro k E;cases op with
  |true=>
   have f:(s.m.sl j).str/2^n%2≠1/\(A.m.sl j).str=(s.m.sl j).str+2^n/\(n:Int)<c.st:=f;rw[f.2.1,afQ R X f.1 k E];by_cases e:k=n
   .rw[tz e];exact⟨λ_=>rfl,λ_=>.inl e⟩
   .rw[ck e];exact⟨λx=>x.resolve_left e,.inr⟩
  |false=>
   have f:(s.m.sl j).str/2^n%2=1/\(A.m.sl j).str=(s.m.sl j).str-2^n:=f;rw[f.2,afO R X f.1 k E];by_cases e:k=n
   .rw[tz e];exact⟨λx=>tA e x.1,λx=>by cases x⟩
   .rw[ck e];exact⟨λx=>x.2,λx=>⟨e,x⟩⟩
 refine⟨by rw[he];exact I.tell,λk v i z B d=> ?_,λk v i z B d=> ?_,λi Y P=> ?_,λv G i z B Z H Q=> ?_,λv G i z z' B Z H Q=> ?_,λv i z k o' B d=> ?_,λv i z B hr hl=> ?_,I.hs,λi Y P=> ?_⟩
 .rw[hc]at k
  have l:gU s.m i v z:=by
   by_cases e:v=u
   .subst e
    rcases d with d|d|d
    .exact tA d (t _ _)
    .exact tA d (p _ _)
    .exact I.one k v i z B (.inr (.inr ⟨d.1,d.2.1,F.rel _ _⟩))
   .rw[o v e]at d;exact I.one k v i z B d
  by_cases D:i=j
  .subst D
   have e1:=qj l K;have e2:=TE l K;subst e1;subst e2;exact S
  .exact(mJ (T i D)).2 l
 .rw[hc]at k
  by_cases e:v=u
  .subst e
   rcases d with d|d
   .exact tA d (t _ _)
   .exact tA d (p _ _)
  .rw[o v e]at d;exact I.pO k v i z B d
 .by_cases D:i=j
  .subst D
   refine⟨u,hw,S.2.1,.inr ⟨a,gy.trans S.2.2.symm,λk E=> ?_⟩⟩;rw[O k E];unfold est;simp only[q];by_cases e:k=n
   .subst e
    rw[tz rfl,N];cases op<;>simp
   .rw[ck e,U k E]
    constructor
    .exact λx=>.inl ⟨x,λ⟨z,J⟩=>e J.2.2.1⟩
    .rintro(x|⟨z,J⟩)
     .exact x.1
     .exact tA J.2.2.1 e
  .rw[T i D]at P ⊢
   obtain⟨v,B,ho,d⟩:=I.back i Y P;refine⟨v,B,ho,?_⟩;by_cases C:v=u
   .subst C
    rcases d with⟨d|d,k⟩|⟨a,b,d⟩
    .exact tA d (F.take _ _)
    .exact tA d (F.pend _ _)
    .refine .inr ⟨a,b,fun k E=> ?_⟩
     rw[(jb F.bg _ _).1 d k E];unfold est;simp only[q];constructor
     .exact λx=>.inl ⟨x,λ⟨z,J⟩=>D J.1⟩
     .rintro(x|⟨z,J⟩)
      .exact x.1
      .exact tA J.1 D
   .rw[o v C];exact d
 .by_cases C:v=u
  .subst C;exact tA H (p _ _)
  .rw[o v C]at H
   have k:=I.pd v G i z B Z H Q;by_cases L:G=u
   .subst L;exact tA k (F.rel _ _)
   .rw[o G L];exact k
 .have C:v≠u:=fun e=>by subst e;exact p _ _ H
  have L:G≠u:=λe=>by subst e;exact p _ _ Q
  rw[o v C]at H;rw[o G L]at Q;exact I.xB v G i z z' B Z H Q
 .by_cases C:v=u
  .subst C
   obtain⟨rfl,rfl,rfl,rfl⟩:=(q _ _ _ _).1 d;exact⟨V,R,a,gy,N⟩
  .rw[o v C]at d
   exact I.st v i z k o' B d
 .have C:v≠u:=fun e=>by subst e;exact r _ _ hr
  rw[o v C]at hr;have D:i≠j:=λe=>by subst e;exact C (qj hl S)
  exact I.rel v i z B hr ((mJ (T i D)).1 hl)
 .by_cases D:i=j
  .subst D
   refine⟨?_,λk E hs=> ?_⟩
   .cases op with
    |true=>
     have f:(s.m.sl i).str/2^n%2≠1/\(A.m.sl i).str=(s.m.sl i).str+2^n/\(n:Int)<c.st:=f;rw[f.2.1];have:(0:Int)<2^n:=rN (by decide);omega
    |false=>
     have f:(s.m.sl i).str/2^n%2=1/\(A.m.sl i).str=(s.m.sl i).str-2^n:=f;rw[f.2];have:=ah2 X f.1;omega
   .intro d
    have d:=(O k E).1 d;by_cases e:k=n
    .subst e
     rw[tz rfl]at d;subst d;have f:(s.m.sl i).str/2^k%2≠1/\(A.m.sl i).str=(s.m.sl i).str+2^k/\(k:Int)<c.st:=f;omega
    .rw[ck e]at d
     exact gc k E hs d
  .rw[T i D]at P ⊢;exact I.cap i Y P
def XQ(I:bJ c s h)(o:zJ s A w)(m:A.m=s.m)(e:eU c A.ev=some h)(k:vM (s.ws w) (A.ws w)):bJ c A h:=
 lT I o k e (by rw[m];exact id) (λi=>.inl (by rw[m]))
def aaj{j:Nat}{y:Int}(I:bJ c s h)(o:zJ s A w)(H:w<c.W)(U:j<c.S)(G:A.m=s.m)
  (V:eU c A.ev=some ⟨upd h.who j (w+1),upd h.gen j y,upd h.st j (λ_=>false)⟩)
  (W:∀i z,¬takeC (s.ws w) i z) (p0:∀i z,iw (s.ws w) i z↔i=j/\z=y) (K:∀i z,¬jw (s.ws w) i z) (X:∀i z k E,¬ig (s.ws w) i z k E)
  (rq:∀v i z k E Y L,jw (s.ws v) i z->¬ig (s.ws v) Y L k E) (n:iC (A.ws w)):
  bJ c A ⟨upd h.who j (w+1),upd h.gen j y,upd h.st j (λ_=>false)⟩:=by
 have C:iw (s.ws w) j y:=(p0 _ _).2 ⟨rfl,rfl⟩;have uj:∀{α:Type} (f:Nat->α) (v:α),upd f j v j=v:=λf v=>tz rfl;have x:∀{α:Type} (f:Nat->α) (v:α) {i:Nat},i≠j->upd f j v i=f i:=λf v i e=>ck e;refine⟨V,λk v i z p l=> ?_,λk v i z p l=> ?_,λi F N=> ?_,λv u i z p O B l=> ?_,λv u i z L p O P B=> ?_,λv i z k E p l=> ?_,λv i z p Q S=> ?_,λi F=> ?_,?_⟩
 .rw[G]at k ⊢
  by_cases e:v=w
  .subst e
   rcases l with l|l|⟨a,b,d⟩
   .exact tA l (n.take _ _)
   .exact tA l (n.pend _ _)
   .by_cases m:i=j
    .subst m
     have b:upd h.gen i y i=z:=b;rw[uj]at b;subst b;exact I.one k v i y p (.inr (.inl C))
    .have a:upd h.who j (v+1) i=v+1:=a
     have b:upd h.gen j y i=z:=b;rw[x _ _ m]at a b;exact I.one k v i z p (.inr (.inr ⟨a,b,K _ _⟩))
  .rw[o v e]at l
   rcases l with l|l|⟨a,b,d⟩
   .exact I.one k v i z p (.inl l)
   .exact I.one k v i z p (.inr (.inl l))
   .have a:upd h.who j (w+1) i=v+1:=a
    have b:upd h.gen j y i=z:=b;by_cases m:i=j
    .subst m;rw[uj]at a;omega
    .rw[x _ _ m]at a b
     exact I.one k v i z p (.inr (.inr ⟨a,b,d⟩))
 .rw[G]at k
  by_cases e:v=w
  .subst e
   rcases l with l|l
   .exact tA l (n.take _ _)
   .exact tA l (n.pend _ _)
  .rw[o v e]at l
   show upd h.who j (w+1) i≠v+1;by_cases m:i=j
   .subst m;rw[uj];omega
   .rw[x _ _ m];exact I.pO k v i z p l
 .rw[G]at N ⊢
  obtain⟨v,p,R,l⟩:=I.back i F N;by_cases D:v=w
  .subst D
   refine⟨v,p,R,.inr ?_⟩;rcases l with⟨l|l,k⟩|⟨a,b,l⟩
   .exact tA l (W _ _)
   .obtain⟨rfl,Z⟩:=(p0 _ _).1 l
    refine⟨uj _ _,(uj _ _).trans Z.symm,λq B=> ?_⟩;rw[IV n.bg,k];show(0:Int)/2^q%2=1↔upd h.st i (λ_=>false) i q=true;rw[uj,Int.zero_ediv];simp
   .have m:i≠j:=by
     intro e;subst e;exact K _ _ (I.pd v v i y p p C a)
    refine⟨(x _ _ m).trans a,(x _ _ m).trans b,λq B=> ?_⟩;rw[IV n.bg];show _↔upd h.st j (λ_=>false) i q=true;rw[x _ _ m];exact(jb X _ _).1 l q B
  .refine⟨v,p,R,?_⟩
   rw[o v D];rcases l with l|⟨a,b,l⟩
   .exact .inl l
   .have m:i≠j:=by
     intro e;subst e;have r:=I.pd w v i y H p C a;exact I.rel v i _ p r ⟨N,R,b.symm⟩
    refine .inr ⟨(x _ _ m).trans a,(x _ _ m).trans b,λq B=> ?_⟩;rw[l q B];unfold est;show _↔(upd h.st j (λ_=>false) i q=true/\_)\/_;rw[x _ _ m]
 .have D:v≠w:=fun e=>by subst e;exact n.pend _ _ B
  rw[o v D]at B;have l:upd h.who j (w+1) i=u+1:=l;show jw (A.ws u) i (upd h.gen j y i);by_cases m:i=j
  .subst m
   exact tA (I.xB v w i z y p H B C) D
  .rw[x _ _ m]at l ⊢
   have k:=I.pd v u i z p O B l;by_cases J:u=w
   .subst J;exact tA k (K _ _)
   .rw[o u J];exact k
 .have D:v≠w:=fun e=>by subst e;exact n.pend _ _ P
  have J:u≠w:=λe=>by subst e;exact n.pend _ _ B
  rw[o v D]at P;rw[o u J]at B;exact I.xB v u i z L p O P B
 .have D:v≠w:=fun e=>by subst e;exact n.bg _ _ _ _ l
  rw[o v D]at l;obtain⟨a1,a2,T,a4,a5⟩:=I.st v i z k E p l;have m:i≠j:=by
   intro e;subst e;exact rq v i _ k E i z (I.pd w v i y H p C T) l
  refine⟨a1,a2,(x _ _ m).trans T,(x _ _ m).trans a4,?_⟩;show upd h.st j (λ_=>false) i k=_;rw[x _ _ m];exact a5
 .have D:v≠w:=fun e=>by subst e;exact n.rel _ _ Q
  rw[o v D]at Q;rw[G]at S;exact I.rel v i z p Q S
 .have F:upd h.who j (w+1) i≠0:=F
  show i<c.S/\upd h.who j (w+1) i<=c.W;by_cases m:i=j
  .subst m;rw[uj];exact⟨U,H⟩
  .rw[x _ _ m]at F ⊢;exact I.hs i F
 .rw[G];exact I.cap
def W9{j:Nat}{y:Int}(I:bJ c s h)(o:zJ s A w)(hw:w<c.W)(D:A.m=s.m)
  (P:eU c A.ev=some (if h.who j=w+1/\h.gen j=y then{h with who:=upd h.who j 0}else h))
  (U:∀i z,¬takeC (s.ws w) i z) (p0:∀i z,¬iw (s.ws w) i z) (Q:∀i z,jw (s.ws w) i z↔i=j/\z=y) (V:∀i z k N,¬ig (s.ws w) i z k N) (n:iC (A.ws w)):
  bJ c A (if h.who j=w+1/\h.gen j=y then{h with who:=upd h.who j 0}else h):=by
 have S:jw (s.ws w) j y:=(Q _ _).2 ⟨rfl,rfl⟩;have uj:∀{α:Type} (f:Nat->α) (v:α),upd f j v j=v:=λf v=>tz rfl;have G:∀{α:Type} (f:Nat->α) (v:α) {i:Nat},i≠j->upd f j v i=f i:=λf v i e=>ck e;by_cases r:h.who j=w+1/\h.gen j=y
 .rw[tz r]at P ⊢
  refine⟨P,λk v i z m l=> ?_,λk v i z m l=> ?_,λi E L=> ?_,λv u i z m H q l=> ?_,λv u i z T m H J q=> ?_,λv i z k N m l=> ?_,λv i z m K O=> ?_,λi E=> ?_,?_⟩
  .rw[D]at k ⊢
   rcases l with l|l|⟨a,b,d⟩
   .by_cases e:v=w
    .subst e;exact tA l (n.take _ _)
    .rw[o v e]at l;exact I.one k v i z m (.inl l)
   .by_cases e:v=w
    .subst e;exact tA l (n.pend _ _)
    .rw[o v e]at l;exact I.one k v i z m (.inr (.inl l))
   .have a:upd h.who j 0 i=v+1:=a
    have B:i≠j:=λe=>by subst e;rw[uj]at a;omega
    rw[G _ _ B]at a;refine I.one k v i z m (.inr (.inr ⟨a,b,λx=> ?_⟩));by_cases e:v=w
    .subst e;exact B ((Q _ _).1 x).1
    .rw[o v e]at d;exact d x
  .rw[D]at k
   show upd h.who j 0 i≠v+1;by_cases B:i=j
   .subst B;rw[uj];omega
   .rw[G _ _ B]
    by_cases e:v=w
    .subst e
     rcases l with l|l
     .exact tA l (n.take _ _)
     .exact tA l (n.pend _ _)
    .rw[o v e]at l;exact I.pO k v i z m l
  .rw[D]at L ⊢
   obtain⟨v,m,R,l⟩:=I.back i E L;refine⟨v,m,R,?_⟩;have C:h.who i=v+1->h.gen i=(s.m.sl i).gen->i≠j:=by
    intro a b e;subst e;have p:v=w:=by have:=r.1;omega
    subst p;exact I.rel v i y m S ⟨L,R,b.symm.trans r.2⟩
   by_cases p:v=w
   .subst p
    rcases l with⟨l|l,k⟩|⟨a,b,l⟩
    .exact tA l (U _ _)
    .exact tA l (p0 _ _)
    .exact .inr ⟨(G _ _ (C a b)).trans a,b,(jb n.bg _ _).2 ((jb V _ _).1 l)⟩
   .rw[o v p]
    rcases l with l|⟨a,b,l⟩
    .exact .inl l
    .exact .inr ⟨(G _ _ (C a b)).trans a,b,l⟩
  .have p:v≠w:=fun e=>by subst e;exact n.pend _ _ q
   rw[o v p]at q;have l:upd h.who j 0 i=u+1:=l;have B:i≠j:=λe=>by subst e;rw[uj]at l;omega
   rw[G _ _ B]at l;have k:=I.pd v u i z m H q l;by_cases F:u=w
   .subst F;exact tA ((Q _ _).1 k).1 B
   .rw[o u F];exact k
  .have p:v≠w:=fun e=>by subst e;exact n.pend _ _ J
   have F:u≠w:=λe=>by subst e;exact n.pend _ _ q
   rw[o v p]at J;rw[o u F]at q;exact I.xB v u i z T m H J q
  .have p:v≠w:=fun e=>by subst e;exact n.bg _ _ _ _ l
   rw[o v p]at l;obtain⟨X,Y,Z,a4,a5⟩:=I.st v i z k N m l;have B:i≠j:=λe=>by subst e;have:=r.1;omega
   exact⟨X,Y,(G _ _ B).trans Z,a4,a5⟩
  .have p:v≠w:=fun e=>by subst e;exact n.rel _ _ K
   rw[o v p]at K;rw[D]at O;exact I.rel v i z m K O
  .have E:upd h.who j 0 i≠0:=E
   show i<c.S/\upd h.who j 0 i<=c.W;by_cases B:i=j
   .subst B;rw[uj]at E;exact tA rfl E
   .rw[G _ _ B]at E ⊢;exact I.hs i E
  .rw[D];exact I.cap
 .rw[ck r]at P ⊢
  have W:∀i z,h.who i=w+1->h.gen i=z->¬jw (s.ws w) i z:=by
   intro i z a b k;obtain⟨rfl,rfl⟩:=(Q _ _).1 k;exact r ⟨a,b⟩
  refine⟨P,λk v i z m l=> ?_,λk v i z m l=> ?_,λi E L=> ?_,λv u i z m H q l=> ?_,λv u i z T m H J q=> ?_,λv i z k N m l=> ?_,λv i z m K O=> ?_,I.hs,?_⟩
  .rw[D]at k ⊢
   by_cases e:v=w
   .subst e
    rcases l with l|l|⟨a,b,d⟩
    .exact tA l (n.take _ _)
    .exact tA l (n.pend _ _)
    .exact I.one k v i z m (.inr (.inr ⟨a,b,W _ _ a b⟩))
   .rw[o v e]at l;exact I.one k v i z m l
  .rw[D]at k
   by_cases e:v=w
   .subst e
    rcases l with l|l
    .exact tA l (n.take _ _)
    .exact tA l (n.pend _ _)
   .rw[o v e]at l;exact I.pO k v i z m l
  .rw[D]at L ⊢
   obtain⟨v,m,R,l⟩:=I.back i E L;refine⟨v,m,R,?_⟩;by_cases p:v=w
   .subst p
    rcases l with⟨l|l,k⟩|⟨a,b,l⟩
    .exact tA l (U _ _)
    .exact tA l (p0 _ _)
    .exact .inr ⟨a,b,(jb n.bg _ _).2 ((jb V _ _).1 l)⟩
   .rw[o v p];exact l
  .have p:v≠w:=fun e=>by subst e;exact n.pend _ _ q
   rw[o v p]at q;have k:=I.pd v u i z m H q l;by_cases F:u=w
   .subst F;exact tA k (W _ _ l rfl)
   .rw[o u F];exact k
  .have p:v≠w:=fun e=>by subst e;exact n.pend _ _ J
   have F:u≠w:=λe=>by subst e;exact n.pend _ _ q
   rw[o v p]at J;rw[o u F]at q;exact I.xB v u i z T m H J q
  .have p:v≠w:=fun e=>by subst e;exact n.bg _ _ _ _ l
   rw[o v p]at l;exact I.st v i z k N m l
  .have p:v≠w:=fun e=>by subst e;exact n.rel _ _ K
   rw[o v p]at K;rw[D]at O;exact I.rel v i z m K O
  .rw[D];exact I.cap
def WZ{j n:Nat}{y:Int}{op:Bool}(I:bJ c s h)(o:zJ s A w)(S:w<c.W)(F:A.m=s.m)
  (T:eU c A.ev=some {h with st:=upd h.st j (upd (h.st j) n op)})
  (U:∀i z,¬takeC (s.ws w) i z) (p0:∀i z,¬iw (s.ws w) i z) (O:∀i z,¬jw (s.ws w) i z) (P:∀i z k C,ig (s.ws w) i z k C↔i=j/\z=y/\k=n/\C=op) (r:iC (A.ws w)):
  bJ c A {h with st:=upd h.st j (upd (h.st j) n op)}:=by
 have uj:∀{α:Type} (f:Nat->α) (v:α),upd f j v j=v:=λf v=>tz rfl;have J:∀{α:Type} (f:Nat->α) (v:α) {i:Nat},i≠j->upd f j v i=f i:=λf v i e=>ck e;obtain⟨b1,b2,b3,b4,b5⟩:=I.st w j y n op S ((P _ _ _ _).2 ⟨rfl,rfl,rfl,rfl⟩);refine⟨T,λk v i z m l=> ?_,λk v i z m l=> ?_,λi V Q=> ?_,λv u i z m K p l=> ?_,λv u i z W m K L p=> ?_,λv i z k C m l=> ?_,λv i z m N R=> ?_,I.hs,?_⟩
 .rw[F]at k ⊢
  by_cases e:v=w
  .subst e
   rcases l with l|l|⟨a,b,d⟩
   .exact tA l (r.take _ _)
   .exact tA l (r.pend _ _)
   .exact I.one k v i z m (.inr (.inr ⟨a,b,O _ _⟩))
  .rw[o v e]at l;exact I.one k v i z m l
 .rw[F]at k
  by_cases e:v=w
  .subst e
   rcases l with l|l
   .exact tA l (r.take _ _)
   .exact tA l (r.pend _ _)
  .rw[o v e]at l;exact I.pO k v i z m l
 .rw[F]at Q ⊢
  obtain⟨v,m,X,l⟩:=I.back i V Q;refine⟨v,m,X,?_⟩;by_cases B:v=w
  .subst B
   rcases l with⟨l|l,k⟩|⟨a,b,l⟩
   .exact tA l (U _ _)
   .exact tA l (p0 _ _)
   .refine .inr ⟨a,b,fun q p=> ?_⟩
    rw[l q p,IV r.bg];unfold est;simp only[P];show _↔upd h.st j (upd (h.st j) n op) i q=true;by_cases E:i=j
    .subst E
     rw[uj];by_cases G:q=n
     .subst G
      have e:upd (h.st i) q op q=op:=tz rfl;rw[e];constructor
      .rintro(x|⟨z,D⟩)
       .cases op with
        |true=>rfl
        |false=>exact tA ⟨y,rfl,rfl,rfl,rfl⟩ x.2
       .exact D.2.2.2.symm
      .intro x
       exact .inr ⟨y,rfl,rfl,rfl,x.symm⟩
     .have e:upd (h.st i) n op q=h.st i q:=ck G
      rw[e];constructor
      .rintro(x|⟨z,D⟩)
       .exact x.1
       .exact tA D.2.2.1 G
      .exact λx=>.inl ⟨x,λ⟨z,D⟩=>G D.2.2.1⟩
    .rw[J _ _ E]
     constructor
     .rintro(x|⟨z,D⟩)
      .exact x.1
      .exact tA D.1 E
     .exact λx=>.inl ⟨x,λ⟨z,D⟩=>E D.1⟩
  .rw[o v B]
   rcases l with l|⟨a,b,l⟩
   .exact .inl l
   .have E:i≠j:=fun e=>by subst e;omega
    refine .inr ⟨a,b,λq p=> ?_⟩;rw[l q p];unfold est;show _↔(upd h.st j (upd (h.st j) n op) i q=true/\_)\/_;rw[J _ _ E]
 .have B:v≠w:=fun e=>by subst e;exact r.pend _ _ p
  rw[o v B]at p;have k:=I.pd v u i z m K p l;by_cases H:u=w
  .subst H;exact tA k (O _ _)
  .rw[o u H];exact k
 .have B:v≠w:=fun e=>by subst e;exact r.pend _ _ L
  have H:u≠w:=λe=>by subst e;exact r.pend _ _ p
  rw[o v B]at L;rw[o u H]at p;exact I.xB v u i z W m K L p
 .have B:v≠w:=fun e=>by subst e;exact r.bg _ _ _ _ l
  rw[o v B]at l;obtain⟨Y,Z,a3,a4,a5⟩:=I.st v i z k C m l;have E:i≠j:=λe=>by subst e;omega
  refine⟨Y,Z,a3,a4,?_⟩;show upd h.st j (upd (h.st j) n op) i k=_;rw[J _ _ E];exact a5
 .have B:v≠w:=fun e=>by subst e;exact r.rel _ _ N
  rw[o v B]at N;rw[F]at R;exact I.rel v i z m N R
 .rw[F];exact I.cap
def HV{x:Wr}(d:∀t,x.ph≠.work (.get t))(f:∀g,x.ph≠.work (.give g))(b:∀t a,x.ph≠.ax t none a):iC x:=
 ⟨λ_ _ ⟨t,e,_⟩=>d t e,λ_ _ ⟨t,a,e,_⟩=>b t a e,λ_ _ k=>k.elim (λ⟨g,e,_⟩=>f g e) (λ⟨t,a,e,_⟩=>b t a e),λ_ _ _ _ ⟨t,a,e,_⟩=>b t a e⟩
def claims(t:Tk):Prop:=t.st=.check\/t.st=.move\/t.st=.dD\/t.st=.back\/t.st=.go/\t.rt.st=.swap
def pK{x:Wr}{t:Tk}(p:x.ph=.work (.get t))(i:Nat)(y:Int):takeC x i y↔claims t/\t.i=i/\t.gen=y:=by
 constructor
 .rintro⟨a,e,k⟩
  rw[p]at e;cases e;exact k
 .exact λk=>⟨t,p,k⟩
def zw{x:Wr}{t:Tk}(p:x.ph=.work (.get t)):(∀i y,¬iw x i y)/\(∀i y,¬jw x i y)/\∀i y n o,¬ig x i y n o:=by
 refine⟨λ_ _ ⟨t,a,e,_⟩=> ?_,λ_ _ k=>k.elim (λ⟨g,e,_⟩=> ?_) (λ⟨t,a,e,_⟩=> ?_),λ_ _ _ _ ⟨t,a,e,_⟩=> ?_⟩<;>(rw[p]at e;cases e)
def vQ{x:Wr}{t:Tk}(p:x.ph=.work (.get t))(n:¬claims t):iC x:=
 ⟨λi y k=>n ((pK p i y).1 k).1,(zw p).1,(zw p).2.1,(zw p).2.2⟩
def nX{x:Wr}{t:Td}{a:bR}(p:x.ph=.ax t none a)(i:Nat)(y:Int):iw x i y↔x.ask.op=0/\a.e=0/\a.slot=i/\a.gen=y:=by
 constructor
 .rintro⟨b,d,e,k⟩;rw[p]at e;cases e;exact k
 .exact λk=>⟨t,a,p,k⟩
def qF{x:Wr}{t:Td}{a:bR}(p:x.ph=.ax t none a)(i:Nat)(y:Int):jw x i y↔(x.ask.op=1\/x.ask.op=2)/\a.e=0/\x.ask.slot=i/\x.ask.gen=y:=by
 constructor
 .rintro(⟨g,e,k⟩|⟨b,d,e,k⟩)
  .rw[p]at e;cases e
  .rw[p]at e;cases e;exact k
 .exact λk=>.inr ⟨t,a,p,k⟩
def mQ{x:Wr}{t:Td}{a:bR}(p:x.ph=.ax t none a)(i:Nat)(y:Int)(n:Nat)(o:Bool):ig x i y n o↔x.ask.op=(if o then 3 else 4)/\a.e=0/\x.ask.slot=i/\x.ask.gen=y/\a.bg=n:=by
 constructor
 .rintro⟨b,d,e,k⟩;rw[p]at e;cases e;exact k
 .exact λk=>⟨t,a,p,k⟩
def rX{x:Wr}{t:Td}{p:Option Bool}{a:bR}(b:x.ph=.ax t p a)(i:Nat)(y:Int):¬takeC x i y:=by
 rintro⟨d,e,_⟩;rw[b]at e;cases e
def zz{x:Wr}{t:Td}{a:bR}(p:x.ph=.ax t none a)(k:a.e≠0\/5<=x.ask.op):iC x:=by
 refine⟨rX p,λi y q=> ?_,λi y q=> ?_,λi y n o q=> ?_⟩
 .obtain⟨d,b,_⟩:=(nX p i y).1 q
  rcases k with k|k
  .exact k b
  .omega
 .obtain⟨d,b,_⟩:=(qF p i y).1 q
  rcases k with k|k
  .exact k b
  .omega
 .obtain⟨d,b,_⟩:=(mQ p i y n o).1 q
  rcases k with k|k
  .exact k b
  .split at d<;>omega
end
noncomputable section
open Classical
def Calm(m a:Mm):Prop:=a.cl=m.cl/\∀i,a.sl i=m.sl i\/(a.sl i).st≠3/\(m.sl i).st≠3
def aY(m):Calm m m:=⟨rfl,λ_=>.inl rfl⟩
theorem jC{m}{j}{x n}(e:m.sl j=x)(b:n.st≠3)(h:x.st≠3):Calm m (m.set j n):=by
 refine⟨rfl,λi=> ?_⟩;by_cases a:i=j
 .subst a
  refine .inr ⟨?_,by rw[e];exact h⟩;show(upd m.sl i n i).st≠3;grind [upd]
 .refine .inl ?_
  show upd m.sl j n i=_;grind [upd]
inductive EY(w:Nat)(m m':Mm)(t t':Tk):Prop
 |calm:Calm m m'->(claims t'↔claims t)->t'.i=t.i->t'.gen=t.gen->t'.st≠.done->EY w m m' t t'
 |fin:Calm m m'->¬claims t->t'.st=.done->t'.e≠0->EY w m m' t t'
 |free:Calm m m'->¬claims t->¬claims t'->t'.st≠.done->EY w m m' t t'
 |NL:¬claims t->claims t'->t'.st≠.done->m'.cl=m.cl->(m.sl t'.i).st≠3->gU m' t'.i w t'.gen->(m'.sl t'.i).str=0->(∀i,i≠t'.i->m'.sl i=m.sl i)->EY w m m' t t'
 |told:m'=m->m.cl=0->claims t->t'.st=.done->t'.e=0->t'.i=t.i->t'.gen=t.gen->EY w m m' t t'
 |lost:claims t->¬claims t'->(t'.st=.done->t'.e≠0)->m'.cl=m.cl->(∀i,i≠t.i->m'.sl i=m.sl i)->
   (m'.sl t.i=m.sl t.i/\¬gU m t.i w t.gen\/gU m t.i w t.gen/\(m'.sl t.i).st≠3)->EY w m m' t t'
variable{c:Cn} {w:Nat} {m:Mm} {g:Bool} {look:Fd} {i:Nat} {f:aa} {l:Int} {p:Bool} {q:Rt} {e:Int}
def gD{t}(h:t.st≠.check)(a:t.st≠.move)(b:t.st≠.dD)(d:t.st≠.back)(k:t.st≠.go):¬claims t:=by
 grind [claims]
def ae'{j}{n:aa}{y}(h:n.st=3)(a:n.own=w)(b:n.gen=y):gU (m.set j n) j w y:=by
 unfold gU;have:(m.set j n).sl j=n:=tz rfl;grind
theorem uf{j k}{n}(h:k≠j):(m.set j n).sl k=m.sl k:=ck h
def wh{j}{n}:(m.set j n).sl j=n:=tz rfl
def zn{t r}{j}{x n}{d}(v:d=3\/d=1\/d=16/\n.st=3)(s:az x d w 0=some n)(y:m.sl j=x)(z:¬claims t)(A:claims r)(B:r.st≠.done)(u:r.i=j)(C:r.gen=n.gen):EY w m (m.set j n) t r:=by
 have k:=eT s;obtain⟨a,b,D,E⟩:n.st=3/\x.st≠3/\n.own=w/\n.str=0:=by
  rcases v with rfl|rfl|⟨rfl,F⟩
  .have k:=k.2.2.2.1 rfl
   have o:=Pg s;exact⟨k.2,by omega,o.1,o.2.1⟩
  .have k:=k.2.1 rfl
   have o:=RL s;exact⟨k.2,by omega,o.1,o.2⟩
  grind [Pk]
 refine .NL z A B rfl (by rw[u,y];exact b) ?_ ?_ (λi h=> ?_)
 .rw[u,C];exact ae' a D rfl
 .rw[u,wh];exact E
 grind [uf]
def o9(c:Cn)(w:Nat)(m:Mm)(g:Bool)(t:Tk):Prop:=EY w m (t.step w c.S m g).2 t (t.step w c.S m g).1
def eZ{t a}{b}(h:t.step w c.S m g=(a,b))(k:EY w m b t a):o9 c w m g t:=by grind [o9]
def LY:¬claims ⟨.closed,look,i,f,l,p,q,e⟩:=gD (by simp) (by simp) (by simp) (by simp) (by simp)
def YU:o9 c w m g ⟨.closed,look,i,f,l,p,q,e⟩:=by
 have h:(⟨.closed,look,i,f,l,p,q,e⟩:Tk).step w c.S m g=if m.cl≠0 then(⟨.done,look,i,f,l,p,q,5⟩,m)else(⟨.own,Fd.new 0 w,i,f,l,p,q,e⟩,m):=rfl
 by_cases a:m.cl≠0
 .rw[tz a]at h
  exact eZ h (.fin (aY m) LY rfl (by grind))
 .rw[ck a]at h
  exact eZ h (.free (aY m) LY (gD (by simp) (by simp) (by simp) (by simp) (by simp)) (by simp))
def ag9:o9 c w m g ⟨.own,look,i,f,l,p,q,e⟩:=by
 have h:=Co (c:=c) (m:=m) (w:=w) (i:=i) (wd:=f) (gen:=l) (ps:=p) (rt:=q) (e:=e) (g:=g) (look:=look) _ rfl;have n:¬claims ⟨.own,look,i,f,l,p,q,e⟩:=gD (by simp) (by simp) (by simp) (by simp) (by simp);split at h
 .exact eZ h (.free (aY m) n (gD (by simp) (by simp) (by simp) (by simp) (by simp)) (by simp))
 .split at h
  .exact eZ h (.free (aY m) n (gD (by simp) (by simp) (by simp) (by simp) (by simp)) (by simp))
  .exact eZ h (.free (aY m) n (gD (by simp) (by simp) (by simp) (by simp) (by simp)) (by simp))
def ag':o9 c w m g ⟨.any,look,i,f,l,p,q,e⟩:=by
 have h:=any_eq (c:=c) (m:=m) (w:=w) (i:=i) (wd:=f) (gen:=l) (ps:=p) (rt:=q) (e:=e) (g:=g) (look:=look) _ rfl;have n:¬claims ⟨.any,look,i,f,l,p,q,e⟩:=gD (by simp) (by simp) (by simp) (by simp) (by simp);split at h
 .exact eZ h (.free (aY m) n (gD (by simp) (by simp) (by simp) (by simp) (by simp)) (by simp))
 .split at h
  .exact eZ h (.free (aY m) n (gD (by simp) (by simp) (by simp) (by simp) (by simp)) (by simp))
  .exact eZ h (.free (aY m) n (gD (by simp) (by simp) (by simp) (by simp) (by simp)) (by simp))
def afl:o9 c w m g ⟨.free,look,i,f,l,p,q,e⟩:=by
 have h:=free_eq (c:=c) (m:=m) (w:=w) (i:=i) (wd:=f) (gen:=l) (ps:=p) (rt:=q) (e:=e) (g:=g) (look:=look) _ rfl;have n:¬claims ⟨.free,look,i,f,l,p,q,e⟩:=gD (by simp) (by simp) (by simp) (by simp) (by simp);split at h
 .exact eZ h (.free (aY m) n (gD (by simp) (by simp) (by simp) (by simp) (by simp)) (by simp))
 .split at h
  .exact eZ h (.fin (aY m) n rfl (by grind))
  .exact eZ h (.free (aY m) n (gD (by simp) (by simp) (by simp) (by simp) (by simp)) (by simp))
def Tx:¬claims ⟨.gp,look,i,f,l,p,q,e⟩:=gD (by simp) (by simp) (by simp) (by simp) (by simp)
def afj:o9 c w m g ⟨.gp,look,i,f,l,p,q,e⟩:=by
 have h:(⟨.gp,look,i,f,l,p,q,e⟩:Tk).step w c.S m g=match(⟨.gp,look,i,f,l,p,q,e⟩:Tk).swap w m look.at_ look.wd 3 with
  |some (t,m)=>({t with st:=.check},m)
  |none=>(⟨.own,look.again,i,f,l,p,q,e⟩,m):=rfl
 rcases lQ with a|⟨n,b,d,a⟩
 .rw[a]at h
  exact eZ h (.free (aY m) Tx (gD (by simp) (by simp) (by simp) (by simp) (by simp)) (by simp))
 .rw[a]at h
  exact eZ h (zn (.inl rfl) b d Tx (.inl rfl) (by simp) rfl rfl)
def afo:o9 c w m g ⟨.anyS,look,i,f,l,p,q,e⟩:=by
 have h:(⟨.anyS,look,i,f,l,p,q,e⟩:Tk).step w c.S m g=match(⟨.anyS,look,i,f,l,p,q,e⟩:Tk).swap w m look.at_ look.wd 3 with
  |some (d,m)=>if look.wd.own=w then({d with st:=.check},m)else({d with ps:=false,look:=Fd.new 0 look.wd.own,st:=.move},m)
  |none=>(⟨.any,look.again,i,f,l,p,q,e⟩,m):=rfl
 have a:¬claims ⟨.anyS,look,i,f,l,p,q,e⟩:=gD (by simp) (by simp) (by simp) (by simp) (by simp);rcases lQ with b|⟨n,k,o,b⟩
 .rw[b]at h
  exact eZ h (.free (aY m) a (gD (by simp) (by simp) (by simp) (by simp) (by simp)) (by simp))
 .rw[b]at h
  dsimp only at h;split at h
  .exact eZ h (zn (.inl rfl) k o a (.inl rfl) (by simp) rfl rfl)
  .exact eZ h (zn (.inl rfl) k o a (.inr (.inl rfl)) (by simp) rfl rfl)
def abD:o9 c w m g ⟨.dQ,look,i,f,l,p,q,e⟩:=by
 have h:(⟨.dQ,look,i,f,l,p,q,e⟩:Tk).step w c.S m g=match(⟨.dQ,look,i,f,l,p,q,e⟩:Tk).swap w m look.at_ look.wd 0 with
  |some (t,m)=>({t with st:=.bM},m)
  |none=>(⟨.free,look.again,i,f,l,p,q,e⟩,m):=rfl
 have b:¬claims ⟨.dQ,look,i,f,l,p,q,e⟩:=gD (by simp) (by simp) (by simp) (by simp) (by simp);rcases lQ with a|⟨n,d,o,a⟩
 .rw[a]at h
  exact eZ h (.free (aY m) b (gD (by simp) (by simp) (by simp) (by simp) (by simp)) (by simp))
 .rw[a]at h
  have k:=(eT d).1 rfl;exact eZ h (.free (jC o (by omega) (by omega)) b (gD (by simp) (by simp) (by simp) (by simp) (by simp)) (by simp))
def afk:o9 c w m g ⟨.move,look,i,f,l,p,q,e⟩:=by
 have h:=yZ (c:=c) (m:=m) (w:=w) (i:=i) (wd:=f) (gen:=l) (ps:=p) (rt:=q) (e:=e) (g:=g) (look:=look) _ rfl;have a:claims ⟨.move,look,i,f,l,p,q,e⟩:=.inr (.inl rfl);split at h
 .split at h
  .exact eZ h (.calm (aY m) ⟨λ_=>a,λ_=>.inr (.inl rfl)⟩ rfl rfl (by simp))
  .exact eZ h (.calm (aY m) ⟨λ_=>a,λ_=>.inr (.inr (.inl rfl))⟩ rfl rfl (by simp))
 .split at h
  .exact eZ h (.calm (aY m) ⟨λ_=>a,λ_=>.inl rfl⟩ rfl rfl (by simp))
  .exact eZ h (.calm (aY m) ⟨λ_=>a,λ_=>.inr (.inl rfl)⟩ rfl rfl (by simp))
def abB:o9 c w m g ⟨.dD,look,i,f,l,p,q,e⟩:=by
 have h:(⟨.dD,look,i,f,l,p,q,e⟩:Tk).step w c.S m g=match az look.wd 9 w 0 with
  |some n=>if m.sl look.at_=look.wd then(⟨.move,look.go,i,f,l,p,q,e⟩,m.set look.at_ n)else(⟨.move,look.go,i,f,l,p,q,e⟩,m)
  |none=>(⟨.move,look.go,i,f,l,p,q,e⟩,m):=rfl
 have a:claims ⟨.dD,look,i,f,l,p,q,e⟩:=.inr (.inr (.inl rfl));split at h
 .split at h
  .rename_i n b d
   have k:=(eT b).2.2.2.2.2.2.2.2.2.1 rfl;exact eZ h (.calm (jC d (by omega) (by omega)) ⟨λ_=>a,λ_=>.inr (.inl rfl)⟩ rfl rfl (by simp))
  .exact eZ h (.calm (aY m) ⟨λ_=>a,λ_=>.inr (.inl rfl)⟩ rfl rfl (by simp))
 .exact eZ h (.calm (aY m) ⟨λ_=>a,λ_=>.inr (.inl rfl)⟩ rfl rfl (by simp))
def afm:o9 c w m g ⟨.bM,look,i,f,l,p,q,e⟩:=by
 have h:(⟨.bM,look,i,f,l,p,q,e⟩:Tk).step w c.S m g=match(⟨.bM,look,i,f,l,p,q,e⟩:Tk).swap w m i f (if g then 1 else 2)with
  |some (t,m)=>if g then({t with st:=.check},m)else(t.fin 6,m)
  |none=>(⟨.done,look,i,f,l,p,q,6⟩,m):=rfl
 have a:¬claims ⟨.bM,look,i,f,l,p,q,e⟩:=gD (by simp) (by simp) (by simp) (by simp) (by simp);rcases lQ with b|⟨n,d,o,b⟩
 .rw[b]at h
  exact eZ h (.fin (aY m) a rfl (by grind))
 .rw[b]at h
  cases g with
  |true=>
   exact eZ h (zn (.inr (.inl rfl)) d o a (.inl rfl) (by simp) rfl rfl)
  |false=>
   have k:=(eT d).2.2.1 rfl;exact eZ h (.fin (jC o (by omega) (by omega)) a rfl (by show(6:Int)≠0;decide))
def abE:o9 c w m g ⟨.check,look,i,f,l,p,q,e⟩:=by
 have h:(⟨.check,look,i,f,l,p,q,e⟩:Tk).step w c.S m g=if m.cl=0 then(⟨.done,look,i,f,l,p,q,0⟩,m)else(⟨.back,look,i,f,l,p,q,e⟩,m):=rfl
 have b:claims ⟨.check,look,i,f,l,p,q,e⟩:=.inl rfl;by_cases a:m.cl=0
 .rw[tz a]at h
  exact eZ h (.told rfl a b rfl rfl rfl rfl)
 .rw[ck a]at h
  exact eZ h (.calm (aY m) ⟨λ_=>b,λ_=>.inr (.inr (.inr (.inl rfl)))⟩ rfl rfl (by simp))
def afn:o9 c w m g ⟨.back,look,i,f,l,p,q,e⟩:=by
 have h:(⟨.back,look,i,f,l,p,q,e⟩:Tk).step w c.S m g=if(m.sl i).st=3/\(m.sl i).own=w/\(m.sl i).gen=l then(⟨.go,look,i,f,l,p,Rt.new i (m.sl i),e⟩,m)else(⟨.done,look,i,f,l,p,q,5⟩,m):=rfl
 have b:claims ⟨.back,look,i,f,l,p,q,e⟩:=.inr (.inr (.inr (.inl rfl)));by_cases a:(m.sl i).st=3/\(m.sl i).own=w/\(m.sl i).gen=l
 .rw[tz a]at h
  exact eZ h (.calm (aY m) ⟨λ_=>b,λ_=>.inr (.inr (.inr (.inr ⟨rfl,rfl⟩)))⟩ rfl rfl (by simp))
 .rw[ck a]at h
  exact eZ h (.lost b (gD (by simp) (by simp) (by simp) (by simp) (by simp)) (λ_=>by grind) rfl (λ_ _=>rfl) (.inl ⟨rfl,a⟩))
def abC:o9 c w m g ⟨.grant,look,i,f,l,p,q,e⟩:=by
 have h:(⟨.grant,look,i,f,l,p,q,e⟩:Tk).step w c.S m g=(⟨.eG,look,i,m.sl i,l,p,q,e⟩,m):=rfl;exact eZ h (.free (aY m) (gD (by simp) (by simp) (by simp) (by simp) (by simp)) (gD (by simp) (by simp) (by simp) (by simp) (by simp)) (by simp))
def YT:o9 c w m g ⟨.eG,look,i,f,l,p,q,e⟩:=by
 have h:(⟨.eG,look,i,f,l,p,q,e⟩:Tk).step w c.S m g=match az f 16 w 0 with
  |none=>(⟨.done,look,i,f,l,p,q,5⟩,m)
  |some n=>if m.sl i=f then(⟨if n.st=3 then .check else .bM,look,i,n,n.gen,p,q,e⟩,m.set i n)else(⟨.grant,look,i,f,l,p,q,e⟩,m):=rfl
 have a:¬claims ⟨.eG,look,i,f,l,p,q,e⟩:=gD (by simp) (by simp) (by simp) (by simp) (by simp);split at h
 .exact eZ h (.fin (aY m) a rfl (by grind))
 .split at h
  .rename_i n d o
   by_cases b:n.st=3
   .rw[tz b]at h
    exact eZ h (zn (.inr (.inr ⟨rfl,b⟩)) d o a (.inl rfl) (by simp) rfl rfl)
   .rw[ck b]at h
    have k:=(eT d).2.2.2.2.2.2.2.2.2.2.2.2.2.2.2.1 rfl;exact eZ h (.free (jC o b (by omega)) a (gD (by simp) (by simp) (by simp) (by simp) (by simp)) (by simp))
  .exact eZ h (.free (aY m) a (gD (by simp) (by simp) (by simp) (by simp) (by simp)) (by simp))
def DL{r:Rt}(h:r.st≠.swap):Calm m (r.step m).2:=by
 obtain⟨i,f,b,s,d⟩:=r;cases s with
 |swap=>exact tA rfl h
 |look=>exact aY m
 |iI=>
  unfold Rt.step;dsimp only;split
  .split
   .rename_i n a o
    have k:=(eT a).2.2.2.2.2.2.2.2.2.2.2.2.2.2.2.2 rfl;grind [jC]
   .exact aY m
  .exact aY m
 |jk=>exact⟨rfl,λ_=>.inl rfl⟩
 |done=>exact aY m
def ajr(A:pY c q)(C:q.i=i)(o:Uo w l q):o9 c w m g ⟨.go,look,i,f,l,p,q,e⟩:=by
 have h:(⟨.go,look,i,f,l,p,q,e⟩:Tk).step w c.S m g=if(q.step m).1.st=.done then(if(q.step m).1.sw then(⟨.done,look,i,f,l,p,(q.step m).1,5⟩,(q.step m).2)else(⟨.back,look,i,f,l,p,(q.step m).1,e⟩,(q.step m).2))else(⟨.go,look,i,f,l,p,(q.step m).1,e⟩,(q.step m).2):=rfl
 by_cases s:q.st=.swap
 .have x:claims ⟨.go,look,i,f,l,p,q,e⟩:=.inr (.inr (.inr (.inr ⟨rfl,s⟩)))
  obtain⟨b,D⟩:=A.sw s;obtain⟨n,b⟩:=cP.1 b;have E:=o.1 s;obtain⟨r,a,rep,B,F⟩:=q;subst s;subst D;subst C;have G:(⟨r,a,rep,.swap,false⟩:Rt).step m=if m.sl r=a then(⟨r,n,rep,.look,true⟩,m.set r n)else(⟨r,a,rep,.done,false⟩,m):=by
   unfold Rt.step;rw[b]
  rw[G]at h;by_cases u:m.sl r=a
  .rw[tz u]at h
   have k:=(eT b).2.2.2.2.2.2.2.2.2.2.2.1 rfl;refine eZ h (.lost x ?_ (λk=>by cases k) rfl (λj H=>uf H) (.inr ⟨?_,?_⟩))
   .rintro(k|k|k|k|k)
    .cases k
    .cases k
    .cases k
    .cases k
    .cases k.2
   .unfold gU;rw[u];exact E
   .rw[wh];omega
  .rw[ck u,tz rfl,ck (show¬false=true by decide)]at h
   exact eZ h (.calm (aY m) ⟨λ_=>x,λ_=>.inr (.inr (.inr (.inl rfl)))⟩ rfl rfl (by simp))
 .have y:¬claims ⟨.go,look,i,f,l,p,q,e⟩:=by
   rintro(k|k|k|k|k)
   .cases k
   .cases k
   .cases k
   .cases k
   .exact s k.2
  have z:=DL (m:=m) s;by_cases d:(q.step m).1.st=.done
  .have v:(q.step m).1.sw=true:=by
    have:=o.2 s;obtain⟨r,a,rep,B,F⟩:=q;cases B with
    |swap=>exact tA rfl s
    |look=>cases d
    |iI=>exact tA d (by unfold Rt.step;dsimp only;split;split<;>simp;simp)
    |jk=>exact this
    |done=>exact this
   rw[tz d,tz v]at h;exact eZ h (.fin z y rfl (by show(5:Int)≠0;decide))
  .rw[ck d]at h
   refine eZ h (.free z y ?_ (by simp));rintro(k|k|k|k|k)
   .cases k
   .cases k
   .cases k
   .cases k
   .exact(UY o d).2.1 k.2
def KM{t}(T:pW c w t)(W:Q3 w t)(h:t.st≠.done):o9 c w m g t:=by
 obtain⟨s,look,i,f,l,p,q,e⟩:=t;cases s with
 |closed=>exact YU
 |own=>exact ag9
 |gp=>exact afj
 |any=>exact ag'
 |anyS=>exact afo
 |move=>exact afk
 |dD=>exact abB
 |free=>exact afl
 |dQ=>exact abD
 |bM=>exact afm
 |check=>exact abE
 |back=>exact afn
 |go=>exact ajr T.1 (W rfl).1 (W rfl).2
 |grant=>exact abC
 |eG=>exact YT
 |done=>grind
end
noncomputable section
open Classical
variable{c:Cn} {s s':Ms} {w:Nat} {h:Hd}
def zD{m a:Mm}(k:Calm m a):(a.cl≠2->m.cl≠2)/\∀i,a.sl i=m.sl i\/(a.sl i).st≠3/\(a.cl≠2->(m.sl i).st≠3):=
 ⟨λh=>by rw[k.1]at h;exact h,λi=>(k.2 i).imp id λx=>⟨x.1,λ_=>x.2⟩⟩
def nJ(I:bJ c s h)(o:zJ s s' w)(e:s'.ev=s.ev)(k:Calm s.m s'.m)(n:iC (s.ws w))(a:iC (s'.ws w)):bJ c s' h:=
 lT I o (n.same a) (by rw[e];exact I.tell) (zD k).1 (zD k).2
def qh{x:Wr}(a:s'.ws=upd s.ws w x):zJ s s' w/\s'.ws w=x:=by
 refine⟨λj b=> ?_,?_⟩
 .rw[a];exact ck b
 .rw[a];exact tz rfl
def BV{t l:Tk}{B:Wr}{J:Mm}(I:bJ c s h)(E:w<c.W)(r:(s.ws w).ph=.work (.get t))(k:EY w s.m J t l)(N:s'.m=J)(O:s'.ws=upd s.ws w B)(A:s'.ev=s.ev)
  (C:l.st≠.done->B.ph=.work (.get l)) (K:l.st=.done->l.e≠0->iC B) (P:l.st=.done->l.e=0->∃L a,B.ph=.ax L none a/\B.ask.op=0/\a.e=0/\a.slot=l.i/\a.gen=l.gen):bJ c s' h:=by
 subst N;obtain⟨o,x⟩:=qh O;have g:=zw r;cases k with
 |calm b m d f u=>
  have e:=C u;rw[<-x]at e;have v:=zw e;refine lT I o ⟨λi y=> ?_,λi y=>⟨λk=>tA k (v.1 i y),λk=>tA k (g.1 i y)⟩,λi y=>⟨λk=>tA k (v.2.1 i y),λk=>tA k (g.2.1 i y)⟩,λi y n F=>⟨λk=>tA k (v.2.2 i y n F),λk=>tA k (g.2.2 i y n F)⟩⟩ (by rw[A];exact I.tell) (zD b).1 (zD b).2;rw[pK e,pK r,m,d,f]
 |fin b m d f=>exact nJ I o A b (vQ r m) (by rw[x];exact K d f)
 |free b m d f=>
  have e:=C f;rw[<-x]at e;exact nJ I o A b (vQ r m) (vQ e d)
 |NL b m d f u p G Q=>
  have e:=C d;rw[<-x]at e;have v:=zw e;refine UU I o E (vQ r b) A f u p G Q (λi z=> ?_) v.1 v.2.1 v.2.2;rw[pK e];exact⟨λq=>⟨q.2.1.symm,q.2.2.symm⟩,λq=>⟨m,q.1.symm,q.2.symm⟩⟩
 |told b m d f u p G=>
  obtain⟨L,a,e,D,R,S,T⟩:=P f u;rw[<-x]at e D;refine XN (j:=t.i) (y:=t.gen) I o E A b (by omega) (λi z=> ?_) g.1 g.2.1 g.2.2 (rX e) (λi z=> ?_) (λi z=> ?_) (λi z n F=> ?_)
  .rw[pK r]
   exact⟨λq=>⟨q.2.1.symm,q.2.2.symm⟩,λq=>⟨d,q.1.symm,q.2.symm⟩⟩
  .rw[nX e,S,T,p,G]
   exact⟨λq=>⟨by have:=q.2.2.1;omega,q.2.2.2.symm⟩,λq=>⟨D,R,by rw[q.1],q.2.symm⟩⟩
  .rw[qF e,D]
   rintro⟨q,_⟩;omega
  .rw[mQ e,D]
   rintro⟨q,_⟩;split at q<;>omega
 |lost b m d f u p=>
  have U:iC (s'.ws w):=by
   by_cases H:l.st=.done
   .rw[x];exact K H (d H)
   .have e:=C H
    rw[<-x]at e;exact vQ e m
  refine XR (j:=t.i) (y:=t.gen) I o E A f (λi z q=> ?_) g.1 g.2.1 g.2.2 U u ?_
  .have q:=(pK r i z).1 q
   exact⟨q.2.1.symm,q.2.2.symm⟩
  .rcases p with p|p
   .exact .inl p
   .exact .inr ⟨(pK r _ _).2 ⟨b,rfl,rfl⟩,p.1,p.2⟩
def V3(x:Wr)(q:Qu):iC (x.to (.enters q)):=HV (by intro t h;cases h) (by intro t h;cases h) (by intro t a h;cases h)
def Wi(x:Wr)(q:Tw):iC (x.to (.counts q)):=HV (by intro t h;cases h) (by intro t h;cases h) (by intro t a h;cases h)
def aaO{t:Tk}(I:bJ c s h)(e:w<c.W)(p:(s.ws w).ph=.work (.get t))(T:pW c w t)(u:t.st≠.done)(o:(s.ws w).ask.op=0)(W:Q3 w t):
  bJ c (ak c w s (s.ws w) (.get t)) h:=by
 obtain⟨a,z,v,f,y⟩:∃a:Ms,a.m=s.m/\a.ws=s.ws/\a.ev=s.ev/\ak c w s (s.ws w) (.get t)=(
   let r:=t.step w c.S s.m (decide (t.st=.bM)&&s.next.1)
   if r.1.st=.done then
    (if r.1.e=3 then(if(s.ws w).ask.wait then(a.mem r.2).put w ((s.ws w).to (.enters Qu.enter))else(a.mem r.2).put w ((s.ws w).to (.counts Tw.new)))
     else if r.1.e=0 then(a.mem r.2).put w ((s.ws w).end_ ⟨0,r.1.i,r.1.gen,0,0,0,0,0⟩)else(a.mem r.2).put w ((s.ws w).end_ (.err r.1.e)))
   else(a.mem r.2).put w ((s.ws w).to (.work (.get r.1)))):=by
  by_cases n:t.st=.bM
  .refine⟨{s with wo:=s.next.2},rfl,rfl,rfl,?_⟩
   unfold ak;dsimp only;rw[tz n]
  .refine⟨s,rfl,rfl,rfl,?_⟩
   unfold ak;dsimp only;rw[ck n]
 rw[y];dsimp only;have k:=KM (m:=s.m) (g:=decide (t.st=.bM)&&s.next.1) T W u;unfold o9 at k;generalize t.step w c.S s.m (decide (t.st=.bM)&&s.next.1)=r at*;have b:∀x,((a.mem r.2).put w x).ws=upd s.ws w x:=λx=>by show upd a.ws w x=_;rw[v]
 by_cases d:r.1.st=.done
 .rw[tz d]
  by_cases l:r.1.e=3
  .rw[tz l]
   split
   .exact BV I e p k rfl (b _) f (λq=>tA d q) (λ_ _=>V3 _ _) (λ_ q=>by rw[l]at q;cases q)
   .exact BV I e p k rfl (b _) f (λq=>tA d q) (λ_ _=>Wi _ _) (λ_ q=>by rw[l]at q;cases q)
  .rw[ck l]
   by_cases i:r.1.e=0
   .rw[tz i]
    exact BV I e p k rfl (b _) f (λq=>tA d q) (λ_ q=>tA i q) (λ_ _=>⟨_,_,rfl,o,rfl,rfl,rfl⟩)
   .rw[ck i]
    exact BV I e p k rfl (b _) f (λq=>tA d q) (λ_ _=>zz rfl (.inl i)) (λ_ q=>tA q i)
 .rw[ck d]
  exact BV I e p k rfl (b _) f (λ_=>rfl) (λq=>tA q d) (λq=>tA q d)
end
noncomputable section
open Classical
variable{c:Cn} {s d:Ms} {w:Nat} {h:Hd} {m:Mm} {g:Bool}
def fV{t:Tk}(h:t.st≠.go):Q3 w t:=λk=>tA k h
def ak4{t:Tk}(W:Q3 w t)(f:t.st≠.done):Q3 w (t.step w c.S m g).1:=by
 obtain⟨l,look,i,o,n,p,r,e⟩:=t;cases l with
 |closed=>unfold Tk.step;dsimp only;split<;>exact fV (by simp[Tk.fin,Tk.search])
 |own=>
  rw[Co _ rfl];split
  .exact fV (by simp)
  .split<;>exact fV (by simp)
 |any=>
  rw[any_eq _ rfl];split
  .exact fV (by simp)
  .split<;>exact fV (by simp)
 |free=>
  rw[free_eq _ rfl];split
  .exact fV (by simp)
  .split<;>exact fV (by simp)
 |move=>
  rw[yZ _ rfl];split
  .split<;>exact fV (by simp)
  .split<;>exact fV (by simp)
 |gp=>unfold Tk.step;dsimp only;split<;>exact fV (by simp)
 |anyS=>
  unfold Tk.step;dsimp only;split
  .split<;>exact fV (by simp[Tk.search])
  .exact fV (by simp)
 |dQ=>unfold Tk.step;dsimp only;split<;>exact fV (by simp)
 |dD=>
  unfold Tk.step;dsimp only;split
  .split<;>exact fV (by simp)
  .exact fV (by simp)
 |bM=>
  unfold Tk.step;dsimp only;split
  .split<;>exact fV (by simp[Tk.fin])
  .exact fV (by simp[Tk.fin])
 |check=>unfold Tk.step;dsimp only;split<;>exact fV (by simp[Tk.fin])
 |back=>
  unfold Tk.step;dsimp only;split
  .rename_i k
   exact λ_=>⟨rfl,λ_=>k,λq=>tA rfl q⟩
  .exact fV (by simp[Tk.fin])
 |go=>
  unfold Tk.step;dsimp only;split
  .split<;>exact fV (by simp[Tk.fin])
  .rename_i k
   obtain⟨a,b⟩:=W rfl;obtain⟨x,y,z⟩:=UY b k;exact λ_=>⟨z.trans a,x⟩
 |grant=>exact fV (by simp[Tk.step])
 |eG=>
  unfold Tk.step;dsimp only;split
  .exact fV (by simp[Tk.fin])
  .split
   .refine fV ?_
    dsimp only;split<;>simp
   .exact fV (by simp)
 |done=>exact tA rfl f
end
noncomputable section
open Classical
variable{c:Cn} {s s':Ms} {w:Nat} {h:Hd} {m:Mm}
def Ga{x:Wr}{g:Gv}(p:x.ph=.work (.give g))(i:Nat)(y:Int):jw x i y↔g.i=i/\g.gen=y/\g.st=.go/\g.rt.sw=true:=by
 constructor
 .rintro(⟨b,e,k⟩|⟨t,a,e,k⟩)
  .rw[p]at e;cases e;exact k
  .rw[p]at e;cases e
 .exact λk=>.inl ⟨g,p,k⟩
def zu{x:Wr}{g:Gv}(p:x.ph=.work (.give g)):(∀i y,¬takeC x i y)/\(∀i y,¬iw x i y)/\∀i y n o,¬ig x i y n o:=by
 refine⟨λ_ _ ⟨t,e,_⟩=> ?_,λ_ _ ⟨t,a,e,_⟩=> ?_,λ_ _ _ _ ⟨t,a,e,_⟩=> ?_⟩<;>(rw[p]at e;cases e)
def sJ{x:Wr}{g:Gv}(p:x.ph=.work (.give g))(n:¬(g.st=.go/\g.rt.sw=true)):iC x:=
 ⟨(zu p).1,(zu p).2.1,λi y k=>n ((Ga p i y).1 k).2.2,(zu p).2.2⟩
def ace{x:Wr}{t:Td}{a:bR}{i:Int}{y:Int}(p:x.ph=.ax t none a)(b:x.ask.op=1\/x.ask.op=2)(e:a.e=0)(d:x.ask.slot=i)(f:x.ask.gen=y):
  (∀i y,¬takeC x i y)/\(∀i y,¬iw x i y)/\(∀j z,jw x j z↔i=j/\y=z)/\∀i y n o,¬ig x i y n o:=by
 refine⟨rX p,λi y k=> ?_,λj z=> ?_,λi y n o k=> ?_⟩
 .have:=((nX p i y).1 k).1;omega
 .rw[qF p,d,f]
  exact⟨λk=>k.2.2,λk=>⟨b,e,k⟩⟩
 .have:=((mQ p i y n o).1 k).1
  split at this<;>omega
inductive Q6(c:Cn)(w:Nat)(m m':Mm)(g g':Gv):Prop
 |calm:Calm m m'->¬(g.st=.go/\g.rt.sw=true)->g'.st≠.done->¬(g'.st=.go/\g'.rt.sw=true)->Q6 c w m m' g g'
 |fin:m'=m->¬(g.st=.go/\g.rt.sw=true)->g'.st=.done->g'.e≠0->Q6 c w m m' g g'
 |back:¬(g.st=.go/\g.rt.sw=true)->0<=g.i->g.i<c.S->gU m g.i.toNat w g.gen->(m'.sl g.i.toNat).st≠3->(∀i,i≠g.i.toNat->m'.sl i=m.sl i)->m'.cl=m.cl->
   (g'.st=.done/\g'.e=0\/g'.st=.go/\g'.rt.sw=true)->Q6 c w m m' g g'
 |on:Calm m m'->g.st=.go->g.rt.sw=true->0<=g.i->g.i<c.S->(g'.st=.done/\g'.e=0\/g'.st=.go/\g'.rt.sw=true)->Q6 c w m m' g g'
def GK(c:Cn)(w:Nat)(m:Mm)(g:Gv):Prop:=Q6 c w m (g.step c w m).2 g (g.step c w m).1/\(g.step c w m).1.i=g.i/\(g.step c w m).1.gen=g.gen/\((g.step c w m).1.st≠.done->GvW c w (g.step c w m).1)
def ny{g a:Gv}{b:Mm}(e:g.step c w m=(a,b))(k:Q6 c w m b g a)(i:a.i=g.i)(d:a.gen=g.gen)(W:a.st≠.done->GvW c w a):GK c w m g:=by
 grind [GK]
def KS{g:Gv}(T:yJ c w g)(W:GvW c w g)(C:g.st≠.done):GK c w m g:=by
 obtain⟨i,d,f,O,l,o,r,e⟩:=g;cases O with
 |closed=>
  have h:(⟨i,d,f,.closed,l,o,r,e⟩:Gv).step c w m=if m.cl=2 then(⟨i,d,f,.done,m.cl,o,r,5⟩,m)else(⟨i,d,f,.look,m.cl,o,r,e⟩,m):=rfl
  split at h
  .exact ny h (.fin rfl (by simp) rfl (by grind)) rfl rfl (λk=>tA rfl k)
  .exact ny h (.calm (aY m) (by simp) (by simp) (by simp)) rfl rfl (λ_=>⟨λk=>(by cases k),λk=>(by cases k)⟩)
 |look=>
  have h:(⟨i,d,f,.look,l,o,r,e⟩:Gv).step c w m=if 0<=i/\i<c.S then
    (if¬((m.sl i.toNat).st=3/\(m.sl i.toNat).own=w/\(m.sl i.toNat).gen=d)then(⟨i,d,f,.done,l,m.sl i.toNat,r,2⟩,m)else if(m.sl i.toNat).str≠0/\f=false then(⟨i,d,f,.done,l,m.sl i.toNat,r,8⟩,m)else
    if f=true\/(m.sl i.toNat).brk=true\/c.u<=(m.sl i.toNat).uses\/¬(l=(0:Int))then(⟨i,d,f,.go,l,m.sl i.toNat,Rt.new i.toNat (m.sl i.toNat),e⟩,m)else(⟨i,d,f,.rest,l,m.sl i.toNat,r,e⟩,m))
   else(⟨i,d,f,.done,l,o,r,2⟩,m):=rfl
  split at h
  .rename_i q
   split at h
   .exact ny h (.fin rfl (by simp) rfl (by show(2:Int)≠0;decide)) rfl rfl (λk=>tA rfl k)
   .rename_i G
    have G:=vf.1 G;split at h
    .exact ny h (.fin rfl (by simp) rfl (by show(8:Int)≠0;decide)) rfl rfl (λk=>tA rfl k)
    .split at h
     .exact ny h (.calm (aY m) (by simp) (by simp) (by simp[Rt.new])) rfl rfl (λ_=>⟨λk=>(by cases k),λ_=>⟨q.1,q.2,rfl,λ_=>G,λk=>tA rfl k⟩⟩)
     .exact ny h (.calm (aY m) (by simp) (by simp) (by simp)) rfl rfl (λ_=>⟨λ_=>⟨q.1,q.2,G⟩,λk=>(by cases k)⟩)
  .exact ny h (.fin rfl (by simp) rfl (by show(2:Int)≠0;decide)) rfl rfl (λk=>tA rfl k)
 |rest=>
  obtain⟨a,b,D⟩:=W.1 rfl;have h:(⟨i,d,f,.rest,l,o,r,e⟩:Gv).step c w m=match az o 4 w 0 with
   |some n=>if m.sl i.toNat=o then(⟨i,d,f,.done,l,o,r,0⟩,m.set i.toNat n)else(⟨i,d,f,.look,l,o,r,e⟩,m)
   |none=>(⟨i,d,f,.look,l,o,r,e⟩,m):=rfl
  split at h
  .split at h
   .rename_i n u E
    have k:=(eT u).2.2.2.2.1 rfl;refine ny h (.back (by simp) a b ?_ ?_ (λj H=>uf H) rfl (.inl ⟨rfl,rfl⟩)) rfl rfl (λk=>tA rfl k)
    .unfold gU;rw[show m.sl (⟨i,d,f,.rest,l,o,r,e⟩:Gv).i.toNat=o from E];exact D
    .show((m.set i.toNat n).sl i.toNat).st≠3
     rw[wh];omega
   .exact ny h (.calm (aY m) (by simp) (by simp) (by simp)) rfl rfl (λ_=>⟨λk=>(by cases k),λk=>(by cases k)⟩)
  .exact ny h (.calm (aY m) (by simp) (by simp) (by simp)) rfl rfl (λ_=>⟨λk=>(by cases k),λk=>(by cases k)⟩)
 |go=>
  obtain⟨a,b,q,p⟩:0<=i/\i<c.S/\r.i=i.toNat/\Uo w d r:=W.2 rfl;have T:pY c r:=T;have h:(⟨i,d,f,.go,l,o,r,e⟩:Gv).step c w m=if(r.step m).1.st=.done then(if(r.step m).1.sw then(⟨i,d,f,.done,l,o,(r.step m).1,0⟩,(r.step m).2)else(⟨i,d,f,.look,l,o,(r.step m).1,e⟩,(r.step m).2))else(⟨i,d,f,.go,l,o,(r.step m).1,e⟩,(r.step m).2):=rfl
  by_cases v:r.st=.swap
  .obtain⟨u,I⟩:=T.sw v
   obtain⟨n,u⟩:=cP.1 u;have D:=p.1 v;have B:=UY (m:=m) p;obtain⟨K,A,rep,Z,L⟩:=r;have v:Z=.swap:=v;have I:L=false:=I;have J:K=i.toNat:=q;clear q;subst v;subst I;subst J;have u:az A 11 0 4095=some n:=u;have D:mine w d A:=D;have P:(⟨i.toNat,A,rep,.swap,false⟩:Rt).step m=if m.sl i.toNat=A then(⟨i.toNat,n,rep,.look,true⟩,m.set i.toNat n)else(⟨i.toNat,A,rep,.done,false⟩,m):=by
    unfold Rt.step;dsimp only;rw[u]
   rw[P]at h B;by_cases E:m.sl i.toNat=A
   .rw[tz E]at h B
    rw[ck (by simp)]at h;have k:=(eT u).2.2.2.2.2.2.2.2.2.2.2.1 rfl;refine ny h (.back (by simp) a b ?_ ?_ (λj H=>uf H) rfl (.inr ⟨rfl,rfl⟩)) rfl rfl (λ_=>⟨λk=>(by cases k),λ_=>⟨a,b,rfl,(B (by simp)).1⟩⟩)
    .unfold gU;rw[show m.sl (⟨i,d,f,.go,l,o,⟨i.toNat,A,rep,.swap,false⟩,e⟩:Gv).i.toNat=A from E];exact D
    .rw[wh];omega
   .rw[ck E,tz rfl,ck (show¬false=true by decide)]at h
    exact ny h (.calm (aY m) (by simp) (by simp) (by simp)) rfl rfl (λ_=>⟨λk=>(by cases k),λk=>(by cases k)⟩)
  .have N:=DL (m:=m) v
   have X:=p.2 v;have F:(r.step m).1.sw=true:=by
    obtain⟨K,A,rep,Z,L⟩:=r;subst X;cases Z with
    |swap=>exact tA rfl v
    |look=>rfl
    |iI=>unfold Rt.step;dsimp only;split;(split<;>rfl);rfl
    |jk=>rfl
    |done=>rfl
   by_cases C:(r.step m).1.st=.done
   .rw[tz C,tz F]at h
    exact ny h (.on N rfl X a b (.inl ⟨rfl,rfl⟩)) rfl rfl (λk=>tA rfl k)
   .rw[ck C]at h
    obtain⟨x,y,z⟩:=UY p C;exact ny h (.on N rfl X a b (.inr ⟨rfl,F⟩)) rfl rfl (λ_=>⟨λk=>(by cases k),λ_=>⟨a,b,z.trans q,x⟩⟩)
 |done=>exact tA rfl C
def Ic{i:Int}(a:0<=i)(k:Nat):i=(k:Int)↔k=i.toNat:=by omega
def Te{g e:Gv}{A:Wr}{K:Mm}(I:bJ c s h)(R:w<c.W)(z:(s.ws w).ph=.work (.give g))(G:(s.ws w).ask.op=1\/(s.ws w).ask.op=2)(S:g.i=(s.ws w).ask.slot)(T:g.gen=(s.ws w).ask.gen)
  (k:Q6 c w s.m K g e) (U:e.i=g.i) (V:e.gen=g.gen) (W:s'.m=K) (X:s'.ws=upd s.ws w A) (B:s'.ev=s.ev)
  (L:e.st≠.done->A.ph=.work (.give e)) (N:e.st=.done->A.ph=.ax Td.new none (.err e.e)/\A.ask=(s.ws w).ask):bJ c s' h:=by
 subst W;obtain⟨o,C⟩:=qh X;have r:(e.st=.done/\e.e=0\/e.st=.go/\e.rt.sw=true)->0<=g.i->(∀i y,¬takeC (s'.ws w) i y)/\(∀i y,¬iw (s'.ws w) i y)/\(∀i y,jw (s'.ws w) i y↔i=g.i.toNat/\y=g.gen)/\∀i y n D,¬ig (s'.ws w) i y n D:=by
  intro Y O;rcases Y with⟨E,H⟩|⟨E,H⟩
  .obtain⟨v,F⟩:=N E
   rw[<-C]at v F;obtain⟨a,b,d,f⟩:=ace (i:=g.i) (y:=g.gen) v (by rw[F];exact G) H (by rw[F];exact S.symm) (by rw[F];exact T.symm);refine⟨a,b,λi y=> ?_,f⟩;rw[d,Ic O];exact⟨λk=>⟨k.1,k.2.symm⟩,λk=>⟨k.1,k.2.symm⟩⟩
  .have v:=L (by rw[E];simp)
   rw[<-C]at v;obtain⟨a,b,d⟩:=zu v;refine⟨a,b,λi y=> ?_,d⟩;rw[Ga v,U,V,Ic O];exact⟨λk=>⟨k.1,k.2.1.symm⟩,λk=>⟨k.1,k.2.symm,E,H⟩⟩
 cases k with
 |calm l u x p=>
  have P:=L x;rw[<-C]at P;exact nJ I o B l (sJ z u) (sJ P p)
 |fin l u x p=>
  refine nJ I o B (by rw[l];exact aY _) (sJ z u) ?_;rw[C];exact zz (N x).1 (.inl p)
 |back l u x p Q J Z k8=>
  obtain⟨a,b,d,f⟩:=r k8 u;exact XT I o R (sJ z l) B Z p Q J a b d f
 |on l u x p Q J=>
  obtain⟨a,b,d,f⟩:=r J p;obtain⟨a0,b0,f0⟩:=zu z;refine lT I o ⟨λi y=>⟨λq=>tA q (a i y),λq=>tA q (a0 i y)⟩,λi y=>⟨λq=>tA q (b i y),λq=>tA q (b0 i y)⟩,λi y=> ?_,λi y n D=>⟨λq=>tA q (f i y n D),λq=>tA q (f0 i y n D)⟩⟩ (by rw[B];exact I.tell) (zD l).1 (zD l).2;rw[d,Ga z,Ic p];exact⟨λq=>⟨q.1,q.2.symm,u,x⟩,λq=>⟨q.1,q.2.1.symm⟩⟩
def OT{g:Gv}(I:bJ c s h)(a:w<c.W)(p:(s.ws w).ph=.work (.give g))(T:yJ c w g)(n:g.st≠.done)(W:QZ c w (s.ws w).ask (.give g)):
  bJ c (ak c w s (s.ws w) (.give g)) h:=by
 obtain⟨o,i,b,W⟩:=W;obtain⟨k,f,l,_⟩:=KS (m:=s.m) T W n;by_cases d:(g.step c w s.m).1.st=.done
 .have e:ak c w s (s.ws w) (.give g)=(s.mem (g.step c w s.m).2).put w ((s.ws w).end_ (.err (g.step c w s.m).1.e)):=by
   unfold ak;dsimp only;rw[tz d]
  rw[e];exact Te I a p o i b k f l rfl rfl rfl (λq=>tA d q) (λ_=>⟨rfl,rfl⟩)
 .have e:ak c w s (s.ws w) (.give g)=(s.mem (g.step c w s.m).2).put w ((s.ws w).to (.work (.give (g.step c w s.m).1))):=by
   unfold ak;dsimp only;rw[ck d]
  rw[e];exact Te I a p o i b k f l rfl rfl rfl (λ_=>rfl) (λq=>tA q d)
inductive ZV(c:Cn)(w:Nat)(m m':Mm)(g g':Sm):Prop
 |calm:m'=m->(g'.st=.done->g'.e≠0)->ZV c w m m' g g'
 |swap (n:Nat):g'.st=.done->g'.e=0->g'.num=n->n<8->0<=g.i->g.i<c.S->gU m g.i.toNat w g.gen->gU m' g.i.toNat w g.gen->m'.cl=m.cl->(∀i,i≠g.i.toNat->m'.sl i=m.sl i)->
   (if g.op then(m.sl g.i.toNat).str/2^n%2≠1/\(m'.sl g.i.toNat).str=(m.sl g.i.toNat).str+2^n/\(n:Int)<c.st else(m.sl g.i.toNat).str/2^n%2=1/\(m'.sl g.i.toNat).str=(m.sl g.i.toNat).str-2^n)->ZV c w m m' g g'
def Kg{g:Sm}(M:bQ c m)(T:Bc c w g)(W:ZU c w g)(O:g.st≠.done):
  ZV c w m (g.step c w m).2 g (g.step c w m).1/\(g.step c w m).1.i=g.i/\(g.step c w m).1.gen=g.gen/\(g.step c w m).1.op=g.op/\((g.step c w m).1.st≠.done->ZU c w (g.step c w m).1):=by
 obtain⟨o,i,f,n,r,l,x,u,e⟩:=g
 have of:∀{A:Sm} {I:Mm},(⟨o,i,f,n,r,l,x,u,e⟩:Sm).step c w m=(A,I)->ZV c w m I ⟨o,i,f,n,r,l,x,u,e⟩ A->A.i=i->A.gen=f->A.op=o->(A.st≠.done->ZU c w A)->
   ZV c w m ((⟨o,i,f,n,r,l,x,u,e⟩:Sm).step c w m).2 ⟨o,i,f,n,r,l,x,u,e⟩ ((⟨o,i,f,n,r,l,x,u,e⟩:Sm).step c w m).1/\((⟨o,i,f,n,r,l,x,u,e⟩:Sm).step c w m).1.i=i/\((⟨o,i,f,n,r,l,x,u,e⟩:Sm).step c w m).1.gen=f/\((⟨o,i,f,n,r,l,x,u,e⟩:Sm).step c w m).1.op=o/\(((⟨o,i,f,n,r,l,x,u,e⟩:Sm).step c w m).1.st≠.done->ZU c w ((⟨o,i,f,n,r,l,x,u,e⟩:Sm).step c w m).1):=by
  grind
 cases r with
 |closed=>
  have q:(⟨o,i,f,n,.closed,l,x,u,e⟩:Sm).step c w m=if m.cl=2 then(⟨o,i,f,n,.done,l,x,u,5⟩,m)else(⟨o,i,f,n,.look,l,x,u,e⟩,m):=rfl
  split at q
  .exact of q (.calm rfl (λ_=>by show(5:Int)≠0;decide)) rfl rfl rfl (λk=>tA rfl k)
  .exact of q (.calm rfl (λk=>by cases k)) rfl rfl rfl (λ_ k=>by cases k)
 |look=>
  have q:(⟨o,i,f,n,.look,l,x,u,e⟩:Sm).step c w m=if 0<=i/\i<c.S then
    (if¬((m.sl i.toNat).st=3/\(m.sl i.toNat).own=w/\(m.sl i.toNat).gen=f)then(⟨o,i,f,n,.done,m.sl i.toNat,x,u,2⟩,m)else if o=true/\(m.sl i.toNat).brk=true then(⟨o,i,f,n,.done,m.sl i.toNat,x,u,9⟩,m)else
     match(⟨o,i,f,n,.look,m.sl i.toNat,x,u,e⟩:Sm).next c w (m.sl i.toNat)with
     |none=>(⟨o,i,f,n,.done,m.sl i.toNat,x,u,if o then 10 else 11⟩,m)
     |some y=>(⟨o,i,f,n,.swap,m.sl i.toNat,y,if o then bA (m.sl i.toNat).str else n,e⟩,m))
   else(⟨o,i,f,n,.done,l,x,u,2⟩,m):=rfl
  split at q
  .rename_i J
   split at q
   .exact of q (.calm rfl (λ_=>by show(2:Int)≠0;decide)) rfl rfl rfl (λk=>tA rfl k)
   .rename_i C
    have C:=vf.1 C;split at q
    .exact of q (.calm rfl (λ_=>by show(9:Int)≠0;decide)) rfl rfl rfl (λk=>tA rfl k)
    .split at q
     .refine of q (.calm rfl (fun _=> ?_)) rfl rfl rfl (fun k=>tA rfl k)
      show(if o then(10:Int)else 11)≠0;split<;>decide
     .rename_i y P
      exact of q (.calm rfl (λk=>by cases k)) rfl rfl rfl (λ_ _=>⟨J.1,J.2,C,P,rfl⟩)
  .exact of q (.calm rfl (λ_=>by show(2:Int)≠0;decide)) rfl rfl rfl (λk=>tA rfl k)
 |swap=>
  have q:(⟨o,i,f,n,.swap,l,x,u,e⟩:Sm).step c w m=if m.sl i.toNat=l then(⟨o,i,f,n,.done,l,x,u,0⟩,m.set i.toNat x)else(⟨o,i,f,n,.look,l,x,u,e⟩,m):=rfl
  obtain⟨i0,D,E,z,K⟩:=W rfl;split at q
  .rename_i C
   have v:m.sl i.toNat=l:=C;have F:Facts l:=by rw[<-v];exact M.1 _ (by have:i<c.S:=D;have:0<=i:=i0;omega)
   have L:gU m i.toNat w f:=by unfold gU;rw[v];exact E
   have p:(m.set i.toNat x).sl i.toNat=x:=wh;cases o with
   |true=>
    have z:az l 14 w c.st=some x:=z;have K:u=bA l.str:=K;obtain⟨a,b,d,Q,N,G,_⟩:=Tu z;have B:=((eT z).2.2.2.2.2.2.2.2.2.2.2.2.2.1 rfl).2;obtain⟨U,R⟩:=afa N F.str.1;refine of q (.swap (bA l.str).toNat rfl rfl ?_ (by omega) i0 D L ?_ rfl (λj H=>uf H) ?_) rfl rfl rfl (λk=>tA rfl k)
    .show u=_;rw[K];omega
    .unfold gU
     show((m.set i.toNat x).sl i.toNat).st=3/\_;rw[p];exact⟨B,b,d.trans E.2.2⟩
    .rw[p,v]
     exact⟨R,G,by omega⟩
   |false=>
    have z:az l 15 w n=some x:=z;have K:u=n:=K;obtain⟨a,b,d,Q,N,G,S,_⟩:=Tt z;have B:=((eT z).2.2.2.2.2.2.2.2.2.2.2.2.2.2.1 rfl).2;refine of q (.swap n.toNat rfl rfl ?_ (by omega) i0 D L ?_ rfl (λj H=>uf H) ?_) rfl rfl rfl (λk=>tA rfl k)
    .show u=_;omega
    .unfold gU
     rw[p];exact⟨B,b,d.trans E.2.2⟩
    .rw[p,v]
     exact⟨G,S⟩
  .exact of q (.calm rfl (λk=>by cases k)) rfl rfl rfl (λ_ k=>by cases k)
 |done=>exact tA rfl O
def zS{x:Wr}{g:Sm}(p:x.ph=.work (.bg g)):iC x:=HV (by intro t h;rw[p]at h;cases h) (by intro t h;rw[p]at h;cases h) (by intro t a h;rw[p]at h;cases h)
def OP{g:Sm}(I:bJ c s h)(C:w<c.W)(u:(s.ws w).ph=.work (.bg g))(M:bQ c s.m)(T:Bc c w g)(D:g.st≠.done)(W:QZ c w (s.ws w).ask (.bg g)):
  bJ c (ak c w s (s.ws w) (.bg g)) h:=by
 obtain⟨a,E,F,W⟩:=W;obtain⟨k,R,S,U,_⟩:=Kg (m:=s.m) M T W D;by_cases d:(g.step c w s.m).1.st=.done
 .have e:ak c w s (s.ws w) (.bg g)=(s.mem (g.step c w s.m).2).put w ((s.ws w).end_ ⟨(g.step c w s.m).1.e,0,0,if(g.step c w s.m).1.e=0 then(g.step c w s.m).1.num else 0,0,0,0,0⟩):=by
   unfold ak;dsimp only;rw[tz d]
  rw[e];generalize g.step c w s.m=r at*;obtain⟨o,b⟩:=qh (s:=s) (s':=(s.mem r.2).put w ((s.ws w).end_ ⟨r.1.e,0,0,if r.1.e=0 then r.1.num else 0,0,0,0,0⟩)) (w:=w) rfl
  cases k with
  |calm f l=>
   refine nJ I o rfl (by show Calm s.m r.2;rw[f];exact aY _) (zS u) ?_;rw[b];exact zz (x:=(s.ws w).end_ ⟨r.1.e,0,0,if r.1.e=0 then r.1.num else 0,0,0,0,0⟩) rfl (.inl (l d))
  |swap n f l G H J V K L N v z=>
   refine XO (op:=g.op) I o C (by omega:g.i.toNat<c.S) H (zS u) rfl N K L v z (by rw[b];exact rX rfl) (λi y q=> ?_) (λi y q=> ?_) (λi y B p=> ?_)
   .rw[b]at q
    have q:=((nX (x:=(s.ws w).end_ _) rfl i y).1 q).1;have q:(s.ws w).ask.op=0:=q;rw[a]at q;split at q<;>omega
   .rw[b]at q
    have q:=((qF (x:=(s.ws w).end_ _) rfl i y).1 q).1;have q:(s.ws w).ask.op=1\/(s.ws w).ask.op=2:=q;rw[a]at q;split at q<;>omega
   .rw[b,mQ (x:=(s.ws w).end_ ⟨r.1.e,0,0,if r.1.e=0 then r.1.num else 0,0,0,0,0⟩) rfl i y B p]
    show(s.ws w).ask.op=_/\r.1.e=0/\(s.ws w).ask.slot=i/\(s.ws w).ask.gen=y/\(if r.1.e=0 then r.1.num else 0)=B↔_;rw[tz l,G,a, <-E, <-F,Ic J];constructor
    .rintro⟨O,_,P,Q,X⟩
     refine⟨P,Q.symm,by omega,?_⟩;cases A:g.op<;>cases p<;>simp[A]at O ⊢
    .rintro⟨rfl,rfl,rfl,rfl⟩
     exact⟨rfl,l,rfl,rfl,rfl⟩
 .have e:ak c w s (s.ws w) (.bg g)=(s.mem (g.step c w s.m).2).put w ((s.ws w).to (.work (.bg (g.step c w s.m).1))):=by
   unfold ak;dsimp only;rw[ck d]
  rw[e];generalize g.step c w s.m=r at*;obtain⟨o,b⟩:=qh (s:=s) (s':=(s.mem r.2).put w ((s.ws w).to (.work (.bg r.1)))) (w:=w) rfl;cases k with
  |calm f l=>
   refine nJ I o rfl (by show Calm s.m r.2;rw[f];exact aY _) (zS u) ?_;rw[b];exact zS rfl
  |swap n f=>exact tA f d
def Tm(p:Ph):Prop:=match p with| .work (.get _)=>False| .work (.give _)=>False| .ax _ none _=>False|_=>True
def dz{x:Wr}(h:Tm x.ph):iC x:=HV (by intro t e;rw[e]at h;exact h) (by intro t e;rw[e]at h;exact h) (by intro t a e;rw[e]at h;exact h)
def Kz{x:Wr}{t:Tk}(p:x.ph=.work (.get t))(h:t.st=.closed\/t.st=.grant):iC x:=by
 refine vQ p ?_;rcases h with h|h<;>exact gD (by rw[h];simp) (by rw[h];simp) (by rw[h];simp) (by rw[h];simp) (by rw[h];simp)
def Xv(x:Wr):iC (x.to (.work (bE x))):=by
 unfold bE;split
 .split
  .exact Kz rfl (.inr rfl)
  .exact Kz rfl (.inl rfl)
 .exact sJ rfl (λk=>by cases k.1)
 .exact sJ rfl (λk=>by cases k.1)
 all_goals exact dz trivial
def lu{q:Qu}:Calm m (q.step c w m).2:=by
 have e:(q.step c w m).2.cl=m.cl/\(q.step c w m).2.sl=m.sl:=by
  obtain⟨a,l,first,b,e⟩:=q;unfold Qu.step;cases a<;>dsimp only
  .grind
  .split<;>exact⟨rfl,rfl⟩
  .split<;>exact⟨rfl,rfl⟩
  .split<;>exact⟨rfl,rfl⟩
  .split<;>exact⟨rfl,rfl⟩
  .split<;>exact⟨rfl,rfl⟩
  .split<;>exact⟨rfl,rfl⟩
  .exact⟨rfl,rfl⟩
  grind
 exact⟨e.1,λi=>.inl (by rw[e.2])⟩
def dw{x:Wr}{m':Mm}(I:bJ c s h)(n:iC (s.ws w))(a:s'.m=m')(b:s'.ws=upd s.ws w x)(e:s'.ev=s.ev)(k:Calm s.m m')(d:iC x):bJ c s' h:=by
 subst a;obtain⟨o,f⟩:=qh b;exact nJ I o e k n (by rw[f];exact d)
def sP{x:Wr}{a:bR}(h:5<=x.ask.op\/a.e≠0):iC (x.end_ a):=zz (x:=x.end_ a) rfl (h.elim .inr .inl)
def UW(I:bJ c s h)(p:(s.ws w).ph=.work (.close none)):bJ c (ak c w s (s.ws w) (.close none)) h:=by
 obtain⟨a,e,b,d⟩:∃a:Mm,ak c w s (s.ws w) (.close none)=(s.mem a).put w ((s.ws w).to (.work (.close (some Qu.drain))))/\(a.cl≠2->s.m.cl≠2)/\a.sl=s.m.sl:=by
  refine⟨_,rfl,?_,?_⟩
  .split
   .exact λk=>tA rfl k
   .split
    .rename_i k;intro _ l;omega
    .exact id
  .split
   .rfl
   .split<;>rfl
 rw[e];obtain⟨o,x⟩:=qh (s:=s) (s':=(s.mem a).put w ((s.ws w).to (.work (.close (some Qu.drain))))) (w:=w) rfl;have n:iC (s.ws w):=dz (by rw[p];trivial);have f:iC (((s.mem a).put w ((s.ws w).to (.work (.close (some Qu.drain))))).ws w):=by rw[x];exact dz trivial
 exact lT I o (n.same f) I.tell b (λi=>.inl (by show a.sl i=_;rw[d]))
def OQ{r:Rp}(I:bJ c s h)(p:(s.ws w).ph=.work (.aS r))(T:Q5 c r)(o:5<=(s.ws w).ask.op)(W:RpW r):bJ c (ak c w s (s.ws w) (.aS r)) h:=by
 have n:iC (s.ws w):=dz (by rw[p];trivial);obtain⟨l,look,f,b⟩:=r;cases l with
 |look=>
  unfold ak;dsimp only;split
  .exact dw I n rfl rfl rfl (aY _) (dz trivial)
  .split
   .exact dw I n rfl rfl rfl (aY _) (sP (.inl o))
   .exact dw I n rfl rfl rfl (aY _) (dz trivial)
 |ask=>
  unfold ak;dsimp only;split
  .exact dw I n rfl rfl rfl (aY _) (dz trivial)
  .exact dw I n rfl rfl rfl (aY _) (dz trivial)
 |mark=>
  unfold ak;dsimp only;split
  .rename_i y d
   split
   .rename_i e
    have k:=(eT d).2.2.2.2.2.2.2.2.2.2.1 rfl;exact dw I n rfl rfl rfl (jC e (by omega) (by omega)) (dz trivial)
   .exact dw I n rfl rfl rfl (aY _) (dz trivial)
  .exact dw I n rfl rfl rfl (aY _) (dz trivial)
 |dB=>
  have k:Calm s.m (b.step s.m).2:=by
   by_cases a:b.st=.swap
   .have i:b.wd.st=2:=W rfl a
    obtain⟨q,A,rep,B,F⟩:=b;have a:B=.swap:=a;subst a;unfold Rt.step;dsimp only;split
    .split
     .rename_i y d e
      have k:=(eT d).2.2.2.2.2.2.2.2.2.2.2.1 rfl;have i:A.st=2:=i;exact jC e (by omega) (by omega)
     .exact aY _
    .exact aY _
   .exact DL a
  unfold ak;dsimp only;split
  .exact dw I n rfl rfl rfl k (dz trivial)
  .exact dw I n rfl rfl rfl k (dz trivial)
def XL{k:Wk}(I:bJ c s h)(a:w<c.W)(p:(s.ws w).ph=.work k)(M:bQ c s.m)(T:Ba c w k)(W:QZ c w (s.ws w).ask k):bJ c (ak c w s (s.ws w) k) h:=by
 cases k with
 |get t=>exact aaO I a p T.1 T.2 W.1 W.2
 |give g=>exact OT I a p T.1 T.2 W
 |bg g=>exact OP I a p M T.1 T.2 W
 |close d=>
  cases d with
  |none=>exact UW I p
  |some q=>
   have o:5<=(s.ws w).ask.op:=W;have n:iC (s.ws w):=dz (by rw[p];trivial);unfold ak;dsimp only;split
   .exact dw I n rfl rfl rfl lu (sP (.inl o))
   .exact dw I n rfl rfl rfl lu (dz trivial)
 |stats t=>
  have o:5<=(s.ws w).ask.op:=W;have n:iC (s.ws w):=dz (by rw[p];trivial);unfold ak;dsimp only;split
  .exact dw I n rfl rfl rfl (aY _) (sP (.inl o))
  .exact dw I n rfl rfl rfl (aY _) (dz trivial)
 |aS r=>exact OQ I p T W.1 W.2
def aau{t:Td}(T:pX c t)(W:MN m t):(t.step c w m).2.cl=m.cl/\∀i,(t.step c w m).2.sl i=m.sl i\/((t.step c w m).2.sl i).st≠3/\(m.cl≠2->(m.sl i).st≠3):=by
 have same:∀{a:Mm},a.cl=m.cl->a.sl=m.sl->a.cl=m.cl/\∀i,a.sl i=m.sl i\/(a.sl i).st≠3/\(m.cl≠2->(m.sl i).st≠3):=λC D=>⟨C,λi=>.inl (by rw[D])⟩;have b:∀{a:Mm},Calm m a->a.cl=m.cl/\∀i,a.sl i=m.sl i\/(a.sl i).st≠3/\(m.cl≠2->(m.sl i).st≠3):=λk=>⟨k.1,λi=>(k.2 i).imp id λx=>⟨x.1,λ_=>x.2⟩⟩;have l:∀{d own:Int} {t:Td},(d=5\/d=6\/d=7\/d=8\/d=12)->∀a,t.swap m d own=some a->Calm m a:=by
  intro d own t E a e;unfold Td.swap at e;split at e
  .rename_i n F
   split at e
   .rename_i p
    cases e;have k:=eT F;rcases E with rfl|rfl|rfl|rfl|rfl
    .exact jC p (by have:=k.2.2.2.2.2.1 rfl;omega) (by have:=k.2.2.2.2.2.1 rfl;omega)
    .exact jC p (by have:=k.2.2.2.2.2.2.1 rfl;omega) (by have:=k.2.2.2.2.2.2.1 rfl;omega)
    .exact jC p (by have:=k.2.2.2.2.2.2.2.1 rfl;omega) (by have:=k.2.2.2.2.2.2.2.1 rfl;omega)
    .exact jC p (by have:=k.2.2.2.2.2.2.2.2.1 rfl;omega) (by have:=k.2.2.2.2.2.2.2.2.1 rfl;omega)
    .exact jC p (by have:=k.2.2.2.2.2.2.2.2.2.2.2.2.1 rfl;omega) (by have:=k.2.2.2.2.2.2.2.2.2.2.2.2.1 rfl;omega)
   .cases e
  .cases e
 obtain⟨G,ep,cl,v,look,i,z,o,f,r⟩:=t;cases G with
 |ep=>exact same rfl rfl
 |pin=>exact same rfl rfl
 |cl=>exact same rfl rfl
 |dL=>
  have e:=Fu (c:=c) (m:=m) (w:=w) (ep:=ep) (cl:=cl) (qu:=v) (look:=look) (i:=i) (wd:=z) (other:=o) (head:=f) (rt:=r) _ rfl;rw[e];split
  .exact same rfl rfl
  .split<;>exact same rfl rfl
 |go=>
  rw[go_eq];have k:(r.step m).2.cl=m.cl/\∀i,(r.step m).2.sl i=m.sl i\/((r.step m).2.sl i).st≠3/\(m.cl≠2->(m.sl i).st≠3):=by
   by_cases q:r.st=.swap
   .have A:=(W.2 rfl).2.2.2 q
    have A:r.wd.st=3->m.cl=2:=A;obtain⟨H,I,rep,Z,N⟩:=r;have q:Z=.swap:=q;subst q;unfold Rt.step;dsimp only;split
    .split
     .rename_i y J p
      have k:=(eT J).2.2.2.2.2.2.2.2.2.2.2.1 rfl;refine⟨rfl,λj=> ?_⟩;by_cases B:j=H
      .subst B
       refine .inr ⟨by show((m.set j y).sl j).st≠3;rw[wh];omega,λK L=>K (A ?_)⟩;show I.st=3;rw[<-p];exact L
      .exact .inl (uf B)
     .exact same rfl rfl
    .exact same rfl rfl
   .exact b (DL q)
  split<;>exact k
 |old=>
  have e:=Pf (c:=c) (m:=m) (w:=w) (ep:=ep) (cl:=cl) (qu:=v) (look:=look) (i:=i) (wd:=z) (other:=o) (head:=f) (rt:=r) _ rfl;rw[e];split
  .exact same rfl rfl
  .split<;>exact same rfl rfl
 |pins=>
  unfold Td.step;dsimp only;split<;>exact same rfl rfl
 |clear=>
  unfold Td.step;dsimp only;cases u:(⟨.clear,ep,cl,v,look,i,z,o,f,r⟩:Td).swap m 12 w with
  |none=>exact same rfl rfl
  |some a=>exact b (l (.inr (.inr (.inr (.inr rfl)))) _ u)
 |line=>
  unfold Td.step;dsimp only;split<;>exact same rfl rfl
 |some=>
  have e:=Ke (c:=c) (m:=m) (w:=w) (ep:=ep) (cl:=cl) (qu:=v) (look:=look) (i:=i) (wd:=z) (other:=o) (head:=f) (rt:=r) _ rfl;rw[e];split
  .exact same rfl rfl
  .split<;>exact same rfl rfl
 |keep=>
  unfold Td.step;dsimp only;split
  .rename_i a u
   exact b (l (by split;exact .inl rfl;exact .inr (.inr (.inl rfl))) _ u)
  .exact same rfl rfl
 |pop=>
  unfold Td.step;dsimp only;split<;>exact same rfl rfl
 |grant=>exact same rfl rfl
 |back=>exact same rfl rfl
 |dR=>
  unfold Td.step;dsimp only;split
  .rename_i a u
   exact b (l (by split;exact .inr (.inl rfl);exact .inr (.inr (.inr (.inl rfl)))) _ u)
  .exact same rfl rfl
 |eO=>exact same rfl rfl
 |again=>exact same rfl rfl
 |done=>exact same rfl rfl
def aaW{x:Wr}{i d:Nat}{z f:Int}{k:Nat}{o:Bool}(l:jw x i z):¬ig x d f k o:=by
 rintro⟨t,a,e,n,_⟩;rcases l with⟨g,b,_⟩|⟨q,r,b,p,_⟩
 .rw[e]at b;cases b
 .split at n<;>omega
def aaU(x:Wr):iC (x.to .rest):=dz trivial
def tY{x:Ev}{l:List Ev}{h a:Hd}(b:eU c l=some h)(d:h.told c x=some a):eU c (x::l)=some a:=by
 show(eU c l).bind (λh=>h.told c x)=_;rw[b];exact d
def XM{t:Td}{a:bR}(I:bJ c s h)(u:w<c.W)(b:(s.ws w).ph=.ax t none a)(A:Ll c (s.ws w).ask a){J:Mm}(K:J=s.m):
  ∃L,bJ c {(s.mem J).put w ((s.ws w).to .rest)with ev:=⟨true,w,(s.ws w).ask,a⟩::s.ev} L:=by
 subst K;obtain⟨o,N⟩:=qh (s:=s) (s':={(s.mem s.m).put w ((s.ws w).to .rest)with ev:=⟨true,w,(s.ws w).ask,a⟩::s.ev}) (w:=w) rfl;have x:iC (Ms.ws {(s.mem s.m).put w ((s.ws w).to .rest)with ev:=⟨true,w,(s.ws w).ask,a⟩::s.ev} w):=by rw[N];exact aaU _
 have plain:(a.e≠0\/5<=(s.ws w).ask.op)->h.told c ⟨true,w,(s.ws w).ask,a⟩=some h:=by
  intro k;unfold Hd.told;by_cases e:a.e≠0
  .rw[tz (.inr e)]
  .rw[ck (by simp;omega)]
   have k:5<=(s.ws w).ask.op:=k.elim (λk=>tA k e) id;obtain⟨n,O⟩:∃n,(s.ws w).ask.op=n+5:=⟨(s.ws w).ask.op-5,by omega⟩;rw[O];rfl
 by_cases B:a.e≠0\/5<=(s.ws w).ask.op
 .exact⟨h,XQ I o rfl (tY I.tell (plain B)) ((zz b B).same x)⟩
 .have e:a.e=0:=cv fun k=>B (.inl k)
  have P:¬5<=(s.ws w).ask.op:=λk=>B (.inr k);obtain⟨Q,R,S⟩:=A e;have F:=rX (p:=none) b;have GI:¬((⟨true,w,(s.ws w).ask,a⟩:Ev).ended=false\/(⟨true,w,(s.ws w).ask,a⟩:Ev).ans.e≠0):=by simp[e]
  rcases(by omega:(s.ws w).ask.op=0\/((s.ws w).ask.op=1\/(s.ws w).ask.op=2)\/((s.ws w).ask.op=3\/(s.ws w).ask.op=4))with q|q|q
  .obtain⟨C,D⟩:=Q q
   refine⟨_,aaj (j:=a.slot.toNat) (y:=a.gen) I o u (by omega) rfl (tY I.tell ?_) F (λi z=> ?_) (λi z k=> ?_) (λi z n d k=> ?_) (λv i z n d W X k=>aaW k) x⟩
   .unfold Hd.told
    rw[ck GI,q];exact ck (show¬(a.slot<0\/(c.S:Int)<=a.slot)by omega)
   .rw[nX b]
    exact⟨λk=>⟨by have:=k.2.2.1;omega,k.2.2.2.symm⟩,λk=>⟨q,e,by omega,k.2.symm⟩⟩
   .have:=((qF b i z).1 k).1;omega
   .have:=((mQ b i z n d).1 k).1;split at this<;>omega
  .obtain⟨C,D⟩:=R q
   refine⟨_,W9 (j:=(s.ws w).ask.slot.toNat) (y:=(s.ws w).ask.gen) I o u rfl (tY I.tell ?_) F (λi z k=> ?_) (λi z=> ?_) (λi z n d k=> ?_) x⟩
   .have E:h.has c w (s.ws w).ask↔h.who (s.ws w).ask.slot.toNat=w+1/\h.gen (s.ws w).ask.slot.toNat=(s.ws w).ask.gen:=by
     unfold Hd.has;exact⟨λk=>k.2.2,λk=>⟨C,D,k⟩⟩
    unfold Hd.told;rw[ck GI];rcases q with q|q
    .rw[q]
     show some (if h.has c w (s.ws w).ask then _ else _)=_;simp only[E]
    .rw[q]
     show some (if h.has c w (s.ws w).ask then _ else _)=_;simp only[E]
   .have:=((nX b i z).1 k).1;omega
   .rw[qF b]
    exact⟨λk=>⟨by have:=k.2.2.1;omega,k.2.2.2.symm⟩,λk=>⟨q,e,by omega,k.2.symm⟩⟩
   .have:=((mQ b i z n d).1 k).1;split at this<;>omega
  .obtain⟨C,D,Y,Z⟩:=S q
   obtain⟨d,f⟩:∃d:Bool,(s.ws w).ask.op=if d then 3 else 4:=by
    rcases q with q|q
    .exact⟨true,q⟩
    .exact⟨false,q⟩
   have G:ig (s.ws w) (s.ws w).ask.slot.toNat (s.ws w).ask.gen a.bg.toNat d:=(mQ b _ _ _ _).2 ⟨f,e,by omega,rfl,by omega⟩;obtain⟨b1,b2,T,U,l⟩:=I.st w _ _ _ _ u G;refine⟨_,WZ (j:=(s.ws w).ask.slot.toNat) (n:=a.bg.toNat) (y:=(s.ws w).ask.gen) (op:=d) I o u rfl (tY I.tell ?_) F (λi z k=> ?_) (λi z k=> ?_) (λi z n H=> ?_) x⟩
   .have E:h.has c w (s.ws w).ask:=⟨C,D,T,U⟩
    have r:¬(¬h.has c w (s.ws w).ask\/a.bg<0\/7<a.bg):=by
     rintro(k|k|k)
     .exact k E
     .omega
     .omega
    unfold Hd.told;rw[ck GI];cases d with
    |true=>
     have f:(s.ws w).ask.op=3:=f;have l:h.st (s.ws w).ask.slot.toNat a.bg.toNat=false:=l;rw[f];show(if¬h.has c w (s.ws w).ask\/a.bg<0\/7<a.bg then none else if h.st (s.ws w).ask.slot.toNat a.bg.toNat=true then none else _)=_;rw[ck r,l];rfl
    |false=>
     have f:(s.ws w).ask.op=4:=f;have l:h.st (s.ws w).ask.slot.toNat a.bg.toNat=true:=l;rw[f];show(if¬h.has c w (s.ws w).ask\/a.bg<0\/7<a.bg then none else if h.st (s.ws w).ask.slot.toNat a.bg.toNat=false then none else _)=_;rw[ck r,l];rfl
   .have:=((nX b i z).1 k).1;omega
   .have:=((qF b i z).1 k).1;omega
   .rw[mQ b]
    constructor
    .rintro⟨r,k2,k3,V,k5⟩
     refine⟨by omega,V.symm,by omega,?_⟩;rw[f]at r;cases d<;>cases H<;>simp at r ⊢
    .rintro⟨rfl,rfl,rfl,rfl⟩
     exact⟨f,e,by omega,rfl,by omega⟩
def UE(s:Ms)(w:Nat)(p:Option Bool)(a:bR)(d:Mm):Ms:=
 match p with
 |some b=>(s.mem d).put w ((s.ws w).to (.parked b))
 |none=>{(s.mem d).put w ((s.ws w).to .rest)with ev:=⟨true,w,(s.ws w).ask,a⟩::s.ev}
def BM{t}{p}{a}(b:(s.ws w).ph=.ax t p a):
  ai c s w=if(t.step c w s.m).1.st=.done then UE s w p a (t.step c w s.m).2 else(s.mem (t.step c w s.m).2).put w ((s.ws w).to (.ax (t.step c w s.m).1 p a)):=by
 unfold ai;dsimp only;rw[b];rfl
def Rv{t:Td}{p:Option Bool}{a:bR}(I:bJ c s h)(v:w<c.W)(d:(s.ws w).ph=.ax t p a)(T:pX c t)(z:t.st≠.done)(W:nW c s.m w (s.ws w)):
  ∃A,bJ c (ai c s w) A:=by
 unfold nW at W;rw[d]at W;obtain⟨B,C⟩:=W;obtain⟨r,D⟩:=aau (c:=c) (w:=w) (m:=s.m) T B;have q:∀{x:Wr} {e:List Ev} (s':Ms),s'.m=(t.step c w s.m).2->s'.ws=upd s.ws w x->s'.ev=s.ev->vM (s.ws w) x->bJ c s' h:=by
  intro x e s' u E F G;obtain⟨o,H⟩:=qh E;refine lT I o (by rw[H];exact G) (by rw[F];exact I.tell) (by rw[u,r];exact id) (λi=> ?_);rw[u,r];exact D i
 rw[BM d];by_cases f:(t.step c w s.m).1.st=.done
 .rw[tz f]
  cases p with
  |some b=>
   exact⟨h,q (e:=[]) _ rfl rfl rfl ((dz (by rw[d];trivial)).same (dz trivial))⟩
  |none=>exact XM I v d C (SY f z).1
 .rw[ck f]
  cases p with
  |some b=>exact⟨h,q (e:=[]) _ rfl rfl rfl ((dz (by rw[d];trivial)).same (dz trivial))⟩
  |none=>
   have l:((s.ws w).to (.ax (t.step c w s.m).1 none a)).ph=.ax (t.step c w s.m).1 none a:=rfl;refine⟨h,q (e:=[]) _ rfl rfl rfl ⟨λi y=>⟨λk=>tA k (rX l i y),λk=>tA k (rX d i y)⟩,λi y=> ?_,λi y=> ?_,λi y n J=> ?_⟩⟩
   .rw[nX l,nX d];rfl
   .rw[qF l,qF d];rfl
   .rw[mQ l,mQ d];rfl
def XP(I:bJ c s h)(f:w<c.W)(M:bQ c s.m)(X:jO c w (s.ws w))(W:nW c s.m w (s.ws w)):∃i,bJ c (ai c s w) i:=by
 have B:=X;have o:=W;unfold jO at X;unfold nW at W;have l:∀q:Qu,Dr w q->Tm (s.ws w).ph->bJ c (aV c w s (s.ws w) q) h:=by
  intro q T r;have n:iC (s.ws w):=dz r;unfold aV;dsimp only;split
  .split
   .exact dw I n rfl rfl rfl lu (dz trivial)
   .rename_i u x
    have z:(q.step c w s.m).1.e=4:=by
     rcases(Kt (c:=c) (m:=s.m) T).1 u with k|k
     .exact tA k.1 x
     .exact k.1
    exact dw I n rfl rfl rfl lu (sP (.inr (by show(q.step c w s.m).1.e≠0;rw[z];decide)))
  .exact dw I n rfl rfl rfl lu (dz trivial)
 cases d:(s.ws w).ph with
 |rest=>
  refine⟨h,?_⟩;have e:ai c s w=s:=by unfold ai;dsimp only;rw[d]
  rw[e];exact I
 |pin q=>
  have n:iC (s.ws w):=dz (by rw[d];trivial);cases q with
  |none=>
   have e:ai c s w=s.put w ((s.ws w).to (.pin (some s.m.ep))):=by unfold ai;dsimp only;rw[d]
   rw[e];exact⟨h,dw I n rfl rfl rfl (aY _) (dz trivial)⟩
  |some v=>
   have e:ai c s w=(s.mem (s.m.pin w (aR (v+1)))).put w ((s.ws w).to (.work (bE (s.ws w)))):=by unfold ai;dsimp only;rw[d]
   rw[e];exact⟨h,dw I n rfl rfl rfl ⟨rfl,λ_=>.inl rfl⟩ (Xv _)⟩
 |work k=>
  rw[d]at X W;have e:ai c s w=ak c w s (s.ws w) k:=by unfold ai;dsimp only;rw[d]
  rw[e];exact⟨h,XL I f d M X W⟩
 |counts t=>
  have n:iC (s.ws w):=dz (by rw[d];trivial);have e:ai c s w=if(t.step c.S s.m).dn then(if∃y∈(t.step c.S s.m).last.getD [],fits 3 w y then s.put w ((s.ws w).to (.work (.get Tk.new)))else s.put w ((s.ws w).end_ (.err 3)))else s.put w ((s.ws w).to (.counts (t.step c.S s.m))):=by unfold ai;dsimp only;rw[d]
  rw[e];refine⟨h,?_⟩;split
  .split
   .exact dw I n rfl rfl rfl (aY _) (Kz rfl (.inl rfl))
   .exact dw I n rfl rfl rfl (aY _) (sP (.inr (by show(3:Int)≠0;decide)))
  .exact dw I n rfl rfl rfl (aY _) (dz trivial)
 |enters q=>
  have n:iC (s.ws w):=dz (by rw[d];trivial);have e:ai c s w=if(q.step c w s.m).1.st=.done then(if(q.step c w s.m).1.e=0\/(q.step c w s.m).1.e=8 then(s.mem (q.step c w s.m).2).put w ((s.ws w).to (.ax Td.new (some (decide ((q.step c w s.m).1.e=0))) (.err 0)))else(s.mem (q.step c w s.m).2).put w ((s.ws w).end_ (.err (q.step c w s.m).1.e)))else(s.mem (q.step c w s.m).2).put w ((s.ws w).to (.enters (q.step c w s.m).1)):=by unfold ai;dsimp only;rw[d]
  rw[e];refine⟨h,?_⟩;split
  .split
   .exact dw I n rfl rfl rfl lu (dz trivial)
   .rename_i k
    exact dw I n rfl rfl rfl lu (sP (.inr (λA=>k (.inl A))))
  .exact dw I n rfl rfl rfl lu (dz trivial)
 |ax t p a=>
  rw[d]at X;exact Rv I f d X.1 X.2 o
 |parked b=>
  have n:iC (s.ws w):=dz (by rw[d];trivial);have e:ai c s w=if s.m.gr w≠0 then dh w s (s.ws w) none else aV c w s (s.ws w) Qu.leave:=by unfold ai;dsimp only;rw[d]
  rw[e];refine⟨h,?_⟩;split
  .exact dw I n rfl rfl rfl (aY _) (dz trivial)
  .exact l _ ⟨.inl rfl,rfl⟩ (by rw[d];trivial)
 |wakes q=>
  have n:iC (s.ws w):=dz (by rw[d];trivial);have e:ai c s w=dh w s (s.ws w) q:=by unfold ai;dsimp only;rw[d]
  rw[e];refine⟨h,?_⟩;cases q with
  |none=>exact dw I n rfl rfl rfl (aY _) (dz trivial)
  |some g=>
   unfold dh;dsimp only;split
   .exact dw (m':=s.m.nT w 0) I n rfl rfl rfl ⟨rfl,λ_=>.inl rfl⟩ (sP (.inr (by show(5:Int)≠0;decide)))
   .exact dw (m':=s.m.nT w 0) I n rfl rfl rfl ⟨rfl,λ_=>.inl rfl⟩ (dz trivial)
 |leaves q=>
  have e:ai c s w=aV c w s (s.ws w) q:=by unfold ai;dsimp only;rw[d]
  rw[e];rw[d]at X;exact⟨h,l _ X (by rw[d];trivial)⟩
def Lj(m:Mm):Prop:=0<=m.cl/\m.cl<=2
def BN{t:Td}:(t.step c w m).2.cl=m.cl:=by
 have a:∀{d own:Int} {t:Td} {b:Mm},t.swap m d own=some b->b.cl=m.cl:=by
  intro d own t b e;unfold Td.swap at e;split at e
  .split at e
   .cases e;rfl
   .cases e
  .cases e
 have q:∀r:Rt,(r.step m).2.cl=m.cl:=by
  intro r;obtain⟨i,n,p,l,y⟩:=r;unfold Rt.step;cases l<;>dsimp only
  .split
   .split<;>rfl
   .rfl
  .split
   .split<;>rfl
   .rfl
 obtain⟨l,p,u,v,look,i,n,o,f,k⟩:=t;unfold Td.step;cases l<;>dsimp only
 .rfl
 .split
  .rfl
  .split<;>rfl
 .split<;>exact q k
 .split
  .rfl
  .split<;>rfl
 .split<;>rfl
 .cases x:(⟨.clear,p,u,v,look,i,n,o,f,k⟩:Td).swap m 12 w with
  |none=>rfl
  |some b=>exact a x
 .split<;>rfl
 .split
  .rfl
  .split<;>rfl
 .split
  .rename_i b x;exact a x
  .rfl
 .split<;>rfl
 .rfl
 .split
  .rename_i b x;exact a x
  .rfl
 .rfl
def SX:MN m Td.new:=⟨λk=>(by cases k),λk=>(by cases k)⟩
def iE{t}(a:t.st≠.dL)(b:t.st≠.go):MN m t:=⟨λk=>tA k a,λk=>tA k b⟩
theorem acX{b}{t}(h:MN m t)(a:m.cl=2->b.cl=2):MN b t:=
 ⟨λk=>⟨(h.1 k).1,(h.1 k).2.1,λq=>a ((h.1 k).2.2 q)⟩,λk=>⟨(h.2 k).1,(h.2 k).2.1,λq=>a ((h.2 k).2.2.1 q),λq r=>a ((h.2 k).2.2.2 q r)⟩⟩
def aao{t}(C:Lj m)(T:pX c t)(W:MN m t):MN (t.step c w m).2 (t.step c w m).1:=by
 refine acX (m:=m) ?_ (by rw[BN];exact id);obtain⟨z,ep,cl,u,look,i,n,o,a,r⟩:=t;cases z with
 |ep=>exact iE (by simp[Td.step]) (by simp[Td.step])
 |pin=>exact iE (by simp[Td.step]) (by simp[Td.step])
 |cl=>exact⟨λ_=>⟨rfl,C.2,id⟩,λk=>by cases k⟩
 |dL=>
  have e:=Fu (c:=c) (m:=m) (w:=w) (ep:=ep) (cl:=cl) (qu:=u) (look:=look) (i:=i) (wd:=n) (other:=o) (head:=a) (rt:=r) _ rfl;rw[e];obtain⟨b,f,d⟩:=W.1 rfl;have b:look.ow=cl:=b;have f:cl<=2:=f;have d:cl=2->m.cl=2:=d;have p:look.fd=none:=T.1;have A:look.kd=4:=T.2;have l:(look.step c.S m).ow=cl/\∀x,(look.step c.S m).fd=some x->x.st=3->m.cl=2:=by
   rw[KY p];split
   .exact⟨b,λx k=>by rw[p]at k;cases k⟩
   .split
    .rename_i v
     refine⟨b,λx k y=> ?_⟩;have k:some (m.sl look.at_)=some x:=k;cases k;rw[A,b]at v;rcases v with k|k
     .omega
     .exact d (by have:=k.2;omega)
    .exact⟨b,λx k=>by have k:look.fd=some x:=k;rw[p]at k;cases k⟩
  cases B:(look.step c.S m).fd with
  |some x=>exact⟨λk=>(by cases k),λ_=>⟨f,l.1,d,λ_ y=>l.2 x B y⟩⟩
  |none=>
   dsimp only;split
   .exact iE (by simp) (by simp)
   .exact⟨λ_=>⟨l.1,f,d⟩,λk=>by cases k⟩
 |go=>
  rw[go_eq];obtain⟨b,f,d,F⟩:=W.2 rfl;have b:cl<=2:=b;have f:look.ow=cl:=f;have d:cl=2->m.cl=2:=d;have T:pY c r/\look.at_<c.S/\look.kd=4:=T;obtain⟨_,D,_⟩:=vO (m:=m) T.1;split
  .exact⟨λ_=>⟨f,b,d⟩,λk=>by cases k⟩
  .rename_i E
   exact⟨λk=>(by cases k),λ_=>⟨b,f,d,λq=>tA q (D E).2⟩⟩
 |old=>
  have e:=Pf (c:=c) (m:=m) (w:=w) (ep:=ep) (cl:=cl) (qu:=u) (look:=look) (i:=i) (wd:=n) (other:=o) (head:=a) (rt:=r) _ rfl;rw[e];split
  .dsimp only
   split<;>exact iE (by simp) (by simp)
  .split
   .dsimp only
    split<;>exact iE (by simp) (by simp)
   .exact iE (by simp) (by simp)
 |pins=>
  unfold Td.step;dsimp only;split
  .exact iE (by simp) (by simp)
  .split<;>exact iE (by simp) (by simp)
 |clear=>exact iE (by simp[Td.step]) (by simp[Td.step])
 |line=>
  unfold Td.step;dsimp only;split<;>exact iE (by simp) (by simp)
 |some=>
  have e:=Ke (c:=c) (m:=m) (w:=w) (ep:=ep) (cl:=cl) (qu:=u) (look:=look) (i:=i) (wd:=n) (other:=o) (head:=a) (rt:=r) _ rfl;rw[e];split
  .exact iE (by simp) (by simp)
  .split<;>exact iE (by simp) (by simp)
 |keep=>
  unfold Td.step;dsimp only;split<;>exact iE (by simp) (by simp)
 |pop=>
  unfold Td.step;dsimp only;split<;>exact iE (by simp) (by simp)
 |grant=>exact iE (by simp[Td.step]) (by simp[Td.step])
 |back=>
  unfold Td.step;dsimp only;split<;>exact iE (by simp) (by simp)
 |dR=>
  unfold Td.step;dsimp only;split<;>exact iE (by simp) (by simp)
 |eO=>exact iE (by simp[Td.step]) (by simp[Td.step])
 |again=>
  unfold Td.step;dsimp only;split<;>exact iE (by simp) (by simp)
 |done=>exact iE (by simp[Td.step]) (by simp[Td.step])
def kX{x:Wr}{a}(A:Ll c x.ask a):nW c m w (x.end_ a):=⟨SX,A⟩
def yh{x}{a}(h:a.e≠0):Ll c x a:=λk=>tA k h
def WJ{x}{a}(h:5<=x.op):Ll c x a:=λ_=>⟨λk=>by omega,λk=>by omega,λk=>by omega⟩
def ak5{t}(T:pW c w t)(h:claims t):t.i<c.S:=by
 obtain⟨b,look,i,d,a,p,r,e⟩:=t;rcases h with h|h|h|h|h
 .subst h;exact T
 .subst h;exact T.2
 .subst h;exact T.2.1
 .subst h;exact T
 .have h:=h.1
  subst h;exact T.2
def Za(c)(w)(s)(x)(t):∃a:Ms,a.m=s.m/\a.ws=s.ws/\a.ev=s.ev/\ak c w s x (.get t)=(
   let r:=t.step w c.S s.m (decide (t.st=.bM)&&s.next.1)
   if r.1.st=.done then
    (if r.1.e=3 then(if x.ask.wait then(a.mem r.2).put w (x.to (.enters Qu.enter))else(a.mem r.2).put w (x.to (.counts Tw.new)))
     else if r.1.e=0 then(a.mem r.2).put w (x.end_ ⟨0,r.1.i,r.1.gen,0,0,0,0,0⟩)else(a.mem r.2).put w (x.end_ (.err r.1.e)))
   else(a.mem r.2).put w (x.to (.work (.get r.1)))):=by
 grind [ak]
def adT{k}(L:(s.ws w).ph=.work k)(M:bQ c s.m)(T:Ba c w k)(W:QZ c w (s.ws w).ask k):nW c (ak c w s (s.ws w) k).m w ((ak c w s (s.ws w) k).ws w):=by
 have u:∀(s':Ms) (x:Wr),(s'.put w x).ws w=x:=λs' x=>bD s' x;cases k with
 |get t=>
  obtain⟨o,W⟩:=W;have A:∀g,Q3 w (t.step w c.S s.m g).1:=λg=>ak4 W T.2;have B:∀g,(t.step w c.S s.m g).1.st=.done->(t.step w c.S s.m g).1.e=0->(t.step w c.S s.m g).1.i<c.S:=by
   intro g a e;have k:=KM (m:=s.m) (g:=g) T.1 W T.2;unfold o9 at k;cases k with
   |calm _ _ _ _ i=>exact tA a i
   |fin _ _ _ f=>exact tA e f
   |free _ _ _ f=>exact tA a f
   |NL _ _ b=>exact tA a b
   |told _ _ b _ _ v=>rw[v];exact ak5 T.1 b
   |lost _ _ b=>exact tA e (b a)
  obtain⟨N,_,_,_,I⟩:=Za c w s (s.ws w) t;rw[I];dsimp only;have A:=A (decide (t.st=.bM)&&s.next.1);have B:=B (decide (t.st=.bM)&&s.next.1);generalize t.step w c.S s.m (decide (t.st=.bM)&&s.next.1)=r at*;by_cases a:r.1.st=.done
  .rw[tz a]
   by_cases y:r.1.e=3
   .rw[tz y]
    split
    .rw[u];exact o
    .rw[u];exact o
   .rw[ck y]
    by_cases z:r.1.e=0
    .rw[tz z,u]
     refine kX λ_=>⟨λ_=>⟨fp _,mw.2 (B a z)⟩,λk=> ?_,λk=> ?_⟩
     .rw[o]at k;omega
     .rw[o]at k;omega
    .rw[ck z,u];exact kX (yh z)
  .rw[ck a,u]
   exact⟨o,A⟩
 |give g=>
  obtain⟨o,l,C,W⟩:=W;obtain⟨k,D,E,F⟩:=KS (m:=s.m) T.1 W T.2;unfold ak;dsimp only;split
  .rename_i a
   rw[u];by_cases e:(g.step c w s.m).1.e=0
   .have p:0<=g.i/\g.i<c.S:=by
     cases k with
     |calm _ _ b=>exact tA a b
     |fin _ _ _ f=>exact tA e f
     |back _ G b=>exact⟨G,b⟩
     |on _ _ _ f i=>exact⟨f,i⟩
    rw[l]at p;exact kX λ_=>⟨λk=>by omega,λ_=>p,λk=>by omega⟩
   .exact kX (yh e)
  .rename_i a
   rw[u];exact⟨o,D.trans l,E.trans C,F a⟩
 |bg g=>
  obtain⟨o,l,C,W⟩:=W;obtain⟨k,D,E,y,F⟩:=Kg (m:=s.m) M T.1 W T.2;unfold ak;dsimp only;split
  .rename_i a
   rw[u];by_cases e:(g.step c w s.m).1.e=0
   .cases k with
    |calm _ G=>exact tA e (G a)
    |swap n _ _ b f i v=>
     rw[l]at i v;refine kX λ_=>⟨λk=>by(rw[o]at k;split at k<;>omega),λk=>by(rw[o]at k;split at k<;>omega),λ_=>⟨i,v,?_⟩⟩;show 0<=(if(g.step c w s.m).1.e=0 then(g.step c w s.m).1.num else 0)/\(if(g.step c w s.m).1.e=0 then(g.step c w s.m).1.num else 0)<=7;rw[tz e,b];omega
   .exact kX (yh e)
  .rename_i a
   rw[u];exact⟨by rw[y];exact o,D.trans l,E.trans C,F a⟩
 |close d=>
  have o:5<=(s.ws w).ask.op:=W;cases d with
  |none=>
   unfold ak;dsimp only;rw[u];exact o
  |some q=>
   unfold ak;dsimp only;split
   .rw[u];exact kX (WJ o)
   .rw[u];exact o
 |stats t=>
  have o:5<=(s.ws w).ask.op:=W;unfold ak;dsimp only;split
  .rw[u];exact kX (WJ o)
  .rw[u];exact o
 |aS r=>
  obtain⟨o,W⟩:=W;obtain⟨J,look,H,O⟩:=r;cases J with
  |look=>
   unfold ak;dsimp only;split
   .rw[u];exact⟨o,λk=>by cases k⟩
   .split
    .rw[u];exact kX (WJ o)
    .rw[u];exact⟨o,λk=>by cases k⟩
  |ask=>
   unfold ak;dsimp only;split
   .rw[u];exact⟨o,λk=>by cases k⟩
   .rw[u];exact⟨o,λ_ _=>T.2.2.2.2⟩
  |mark=>
   unfold ak;dsimp only;split
   .split
    .rw[u];exact⟨o,λk=>by cases k⟩
    .rw[u];exact⟨o,λk=>by cases k⟩
   .rw[u];exact⟨o,λk=>by cases k⟩
  |dB=>
   unfold ak;dsimp only;split
   .rw[u];exact⟨o,λk=>by cases k⟩
   .rename_i a
    rw[u];have T:=T.2.2.2;obtain⟨_,K,_⟩:=vO T;exact⟨o,λ_ q=>tA q (K a).2⟩
def Rc(m a:Mm):Prop:=a.cl=m.cl\/(m.cl≠2\/a.cl=2)/\(a.cl=1\/a.cl=2)
def ai0(r:Rt):(r.step m).2.cl=m.cl:=by
 obtain⟨i,d,e,a,b⟩:=r;unfold Rt.step;cases a<;>dsimp only
 .split
  .split<;>rfl
  .rfl
 .split
  .split<;>rfl
  .rfl
def afG{k}(x:(s.ws w).ph=.work k)(M:bQ c s.m)(T:Ba c w k)(W:QZ c w (s.ws w).ask k):Rc s.m (ak c w s (s.ws w) k).m:=by
 cases k with
 |get t=>
  obtain⟨y,_,_,_,l⟩:=Za c w s (s.ws w) t;rw[l];dsimp only;have k:=KM (m:=s.m) (g:=decide (t.st=.bM)&&s.next.1) T.1 W.2 T.2;unfold o9 at k;generalize t.step w c.S s.m (decide (t.st=.bM)&&s.next.1)=r at*
  have:r.2.cl=s.m.cl:=by
   cases k with
   |calm a=>exact a.1
   |fin a=>exact a.1
   |free a=>exact a.1
   |NL _ _ _ b=>exact b
   |told a=>rw[a]
   |lost _ _ _ b=>exact b
  left;split
  .split
   .split<;>exact this
   .split<;>exact this
  .exact this
 |give g=>
  obtain⟨k,_⟩:=KS (m:=s.m) T.1 W.2.2.2 T.2;have:(g.step c w s.m).2.cl=s.m.cl:=by
   cases k with
   |calm a=>exact a.1
   |fin a=>rw[a]
   |back _ _ _ _ _ _ o=>exact o
   |on a=>exact a.1
  left;unfold ak;dsimp only;split<;>exact this
 |bg g=>
  obtain⟨k,_⟩:=Kg M T.1 W.2.2.2 T.2;have:(g.step c w s.m).2.cl=s.m.cl:=by
   cases k with
   |calm a=>rw[a]
   |swap n _ _ _ _ _ _ _ _ p=>exact p
  left;unfold ak;dsimp only;split<;>exact this
 |close d=>
  cases d with
  |none=>
   unfold ak;by_cases f:(s.ws w).ask.force=true
   .rw[tz f]
    exact .inr ⟨.inr rfl,.inr rfl⟩
   .rw[ck f]
    by_cases e:s.m.cl=0
    .rw[tz e]
     exact .inr ⟨.inl (by omega),.inl rfl⟩
    .rw[ck e];exact .inl rfl
  |some q=>
   have:=(lu (c:=c) (w:=w) (m:=s.m) (q:=q)).1;left;unfold ak;dsimp only;split<;>exact this
 |stats t=>
  left;unfold ak;dsimp only;split<;>rfl
 |aS r=>
  left;obtain⟨u,look,i,v⟩:=r;unfold ak;cases u<;>dsimp only
  .split
   .rfl
   .split<;>rfl
  .split<;>rfl
  .split
   .split<;>rfl
   .rfl
  .split<;>exact ai0 v
def afH(i:aQ s w)(M:bQ c s.m)(X:jO c w (s.ws w))(W:nW c s.m w (s.ws w)):Rc s.m (ai c s w).m:=by
 have l:∀q:Qu,Rc s.m (aV c w s (s.ws w) q).m:=by
  intro q;have:=(lu (c:=c) (w:=w) (m:=s.m) (q:=q)).1;left;unfold aV;dsimp only;split
  .split<;>exact this
  .exact this
 have f:∀q,Rc s.m (dh w s (s.ws w) q).m:=by
  intro q;left;unfold dh;cases q with
  |none=>rfl
  |some g=>dsimp only;split<;>rfl
 unfold jO at X;unfold nW at W;cases d:(s.ws w).ph with
 |rest=>unfold aQ at i;rw[d]at i;exact i.elim
 |pin q=>
  cases q with
  |none=>
   have e:ai c s w=s.put w ((s.ws w).to (.pin (some s.m.ep))):=by unfold ai;dsimp only;rw[d]
   rw[e];exact .inl rfl
  |some v=>
   have e:ai c s w=(s.mem (s.m.pin w (aR (v+1)))).put w ((s.ws w).to (.work (bE (s.ws w)))):=by unfold ai;dsimp only;rw[d]
   rw[e];exact .inl rfl
 |work k=>
  rw[d]at X W;have e:ai c s w=ak c w s (s.ws w) k:=by unfold ai;dsimp only;rw[d]
  rw[e];exact afG d M X W
 |counts t=>
  have e:ai c s w=if(t.step c.S s.m).dn then(if∃y∈(t.step c.S s.m).last.getD [],fits 3 w y then s.put w ((s.ws w).to (.work (.get Tk.new)))else s.put w ((s.ws w).end_ (.err 3)))else s.put w ((s.ws w).to (.counts (t.step c.S s.m))):=by unfold ai;dsimp only;rw[d]
  rw[e];left;split
  .split<;>rfl
  .rfl
 |enters q=>
  have e:ai c s w=if(q.step c w s.m).1.st=.done then(if(q.step c w s.m).1.e=0\/(q.step c w s.m).1.e=8 then(s.mem (q.step c w s.m).2).put w ((s.ws w).to (.ax Td.new (some (decide ((q.step c w s.m).1.e=0))) (.err 0)))else(s.mem (q.step c w s.m).2).put w ((s.ws w).end_ (.err (q.step c w s.m).1.e)))else(s.mem (q.step c w s.m).2).put w ((s.ws w).to (.enters (q.step c w s.m).1)):=by unfold ai;dsimp only;rw[d]
  rw[e];have:=(lu (c:=c) (w:=w) (m:=s.m) (q:=q)).1;left;split
  .split<;>exact this
  .exact this
 |ax t p a=>
  rw[BM d];left;split
  .unfold UE
   split<;>exact BN
  .exact BN
 |parked b=>
  have e:ai c s w=if s.m.gr w≠0 then dh w s (s.ws w) none else aV c w s (s.ws w) Qu.leave:=by unfold ai;dsimp only;rw[d]
  rw[e];split
  .exact f _
  .exact l _
 |wakes q=>
  have e:ai c s w=dh w s (s.ws w) q:=by unfold ai;dsimp only;rw[d]
  rw[e];exact f _
 |leaves q=>
  have e:ai c s w=aV c w s (s.ws w) q:=by unfold ai;dsimp only;rw[d]
  rw[e];exact l _
theorem afX{m a}{x}(h:nW c m w x)(b:m.cl=2->a.cl=2):nW c a w x:=by
 grind [nW,acX]
def adU(i:aQ s w)(M:bQ c s.m)(C:Lj s.m)(X:jO c w (s.ws w))(W:nW c s.m w (s.ws w)):nW c (ai c s w).m w ((ai c s w).ws w):=by
 have u:∀(s':Ms) (x:Wr),(s'.put w x).ws w=x:=λs' x=>bD s' x;have n:∀{e:Int},(s.ws w).ask.op=0->e≠0->Ll c (s.ws w).ask (.err e):=λ_ h=>yh h;have l:∀q:Qu,Dr w q->(s.ws w).ask.op=0->nW c (aV c w s (s.ws w) q).m w ((aV c w s (s.ws w) q).ws w):=by
  intro q T o;unfold aV;dsimp only;split
  .split
   .rw[u];exact o
   .rename_i r z
    have A:(q.step c w s.m).1.e=4:=by
     rcases(Kt (c:=c) (m:=s.m) T).1 r with k|k
     .exact tA k.1 z
     .exact k.1
    rw[u];exact kX (yh (by show(q.step c w s.m).1.e≠0;rw[A];decide))
  .rw[u];exact o
 have f:∀q,(s.ws w).ask.op=0->nW c (dh w s (s.ws w) q).m w ((dh w s (s.ws w) q).ws w):=by
  intro q o;unfold dh;cases q with
  |none=>dsimp only;rw[u];exact o
  |some g=>
   dsimp only;split
   .rw[u];exact kX (yh (by show(5:Int)≠0;decide))
   .rw[u];exact trivial
 have D:=X;have E:=W;unfold jO at X;unfold nW at W;cases d:(s.ws w).ph with
 |rest=>unfold aQ at i;rw[d]at i;exact i.elim
 |pin q=>
  cases q with
  |none=>
   have e:ai c s w=s.put w ((s.ws w).to (.pin (some s.m.ep))):=by unfold ai;dsimp only;rw[d]
   rw[e,u];exact trivial
  |some v=>
   have e:ai c s w=(s.mem (s.m.pin w (aR (v+1)))).put w ((s.ws w).to (.work (bE (s.ws w)))):=by unfold ai;dsimp only;rw[d]
   rw[e,u];exact aej c w (s.ws w)
 |work k=>
  rw[d]at X W;have e:ai c s w=ak c w s (s.ws w) k:=by unfold ai;dsimp only;rw[d]
  rw[e];exact adT d M X W
 |counts t=>
  rw[d]at W;have e:ai c s w=if(t.step c.S s.m).dn then(if∃y∈(t.step c.S s.m).last.getD [],fits 3 w y then s.put w ((s.ws w).to (.work (.get Tk.new)))else s.put w ((s.ws w).end_ (.err 3)))else s.put w ((s.ws w).to (.counts (t.step c.S s.m))):=by unfold ai;dsimp only;rw[d]
  rw[e];split
  .split
   .rw[u];exact⟨W,λk=>by cases k⟩
   .rw[u];exact kX (yh (by show(3:Int)≠0;decide))
  .rw[u];exact W
 |enters q=>
  rw[d]at W;have e:ai c s w=if(q.step c w s.m).1.st=.done then(if(q.step c w s.m).1.e=0\/(q.step c w s.m).1.e=8 then(s.mem (q.step c w s.m).2).put w ((s.ws w).to (.ax Td.new (some (decide ((q.step c w s.m).1.e=0))) (.err 0)))else(s.mem (q.step c w s.m).2).put w ((s.ws w).end_ (.err (q.step c w s.m).1.e)))else(s.mem (q.step c w s.m).2).put w ((s.ws w).to (.enters (q.step c w s.m).1)):=by unfold ai;dsimp only;rw[d]
  rw[e];split
  .split
   .rw[u];exact⟨SX,W⟩
   .rename_i k
    rw[u];exact kX (yh (λB=>k (.inl B)))
  .rw[u];exact W
 |ax t p a=>
  rw[d]at X W;rw[BM d];split
  .unfold UE
   cases p with
   |some b=>rw[u];exact W.2
   |none=>
    have:(Ms.ws {(s.mem (t.step c w s.m).2).put w ((s.ws w).to .rest)with ev:=⟨true,w,(s.ws w).ask,a⟩::s.ev} w)=(s.ws w).to .rest:=bD _ _;rw[this];exact trivial
  .rw[u];exact⟨aao C X.1 W.1,W.2⟩
 |parked b=>
  rw[d]at W;have e:ai c s w=if s.m.gr w≠0 then dh w s (s.ws w) none else aV c w s (s.ws w) Qu.leave:=by unfold ai;dsimp only;rw[d]
  rw[e];split
  .exact f _ W
  .exact l _ ⟨.inl rfl,rfl⟩ W
 |wakes q=>
  rw[d]at W;have e:ai c s w=dh w s (s.ws w) q:=by unfold ai;dsimp only;rw[d]
  rw[e];exact f _ W
 |leaves q=>
  rw[d]at X W;have e:ai c s w=aV c w s (s.ws w) q:=by unfold ai;dsimp only;rw[d]
  rw[e];exact l _ X W
structure All(c:Cn)(s:Ms):Prop where
 inv:Inv c s
 cl:Lj s.m
 wd:∀i,i<c.W->nW c s.m i (s.ws i)
 nd:s.m.qu.Nodup
def afF(C:Lj s.m)(k:Rc s.m s'.m):Lj s'.m/\(s.m.cl=2->s'.m.cl=2)/\(s.m.cl≠0->s'.m.cl≠0):=by
 unfold Lj at*;rcases k with k|⟨a,b⟩
 all_goals grind
theorem Gu(a:w<c.W)(d:c.W<=15)(S:1<=c.S)(A:All c s)(b:aQ s w):All c (ai c s w)/\yj c (ai c s w)+1<=yj c s:=by
 obtain⟨I,C,W,N⟩:=A;obtain⟨f,P⟩:=aa5 a d S I b;obtain⟨k,l,n⟩:=afF C (afH b I.m (I.w w a) (W w a));obtain⟨_,_,_,o,_⟩:=BD a d S I.m I.g (I.w w a) b;refine⟨⟨f,k,λi p=> ?_,ai4 (akU (I.w w a)) N⟩,P⟩;by_cases e:i=w
 .subst e;exact adU b I.m C (I.w i a) (W i a)
 grind [afX]
structure En where
 kind:Int
 who:Int
 op:Int
 a:Ask
 n:Int
 good:Bool
def bR.zero:bR:=⟨0,0,0,0,0,0,0,0⟩
def inW(c:Cn)(w:Int):Prop:=0<=w/\w<c.W
def Ih(c:Cn)(s:Ms)(x:En):Prop:=inW c x.who/\(s.ws x.who.toNat).ph=.rest/\s.ev.length<1999/\0<=x.op/\x.op<8
def ko(s:Ms)(x:En):Ms:={s.put x.who.toNat ⟨.pin none,{x.a with op:=x.op.toNat},0⟩with ev:=⟨false,x.who.toNat,{x.a with op:=x.op.toNat},bR.zero⟩::s.ev}
def QN(m:Mm)(i:Nat):Option Mm:=(az (m.sl i) 13 0 0).map λn=>m.set i n
def inS(c:Cn)(i:Int):Prop:=0<=i/\i<c.S
def xg(o n:Int):Int:=o+min (max n 0) (1099511627776-o)
def dX(c:Cn)(s:Ms)(x:En):Bool×Ms:=
 if x.kind=0 then(if Ih c s x then(true,ko s x)else(false,s))else
 if x.kind=1 then(if inW c x.who/\aQ s x.who.toNat then(true,ai c s x.who.toNat)else(false,s))else
 if x.kind=2 then(true,{s with now:=xg s.now x.n})else
 if x.kind=3 then(if s.wo.length<1000 then(true,{s with wo:=s.wo++[x.good]})else(false,s))else
 if x.kind=4 then(if inS c x.a.slot then(match QN s.m x.a.slot.toNat with|some m=>(true,s.mem m)|none=>(false,s))else(false,s))else(false,s)
def agS{x n}(h:az x 13 0 0=some n):n.st=x.st/\n.own=x.own/\n.gen=x.gen/\n.str=x.str/\n.brk=true:=by
 obtain⟨r,a,rfl,_⟩:=wG h;have a:xm x=some r:=a;grind [xm]
def UX{a:Mm}(I:bJ c s h)(o:a.cl=s.m.cl)(e:∀i,(a.sl i).st=(s.m.sl i).st/\(a.sl i).own=(s.m.sl i).own/\(a.sl i).gen=(s.m.sl i).gen/\(a.sl i).str=(s.m.sl i).str):bJ c (s.mem a) h:=by
 have l:∀i w y,gU a i w y↔gU s.m i w y:=λi w y=>by unfold gU;rw[(e i).1,(e i).2.1,(e i).2.2.1]
 refine⟨I.tell,λk v i y d f=>(l _ _ _).2 (I.one (by rw[<-o];exact k) v i y d f),λk=>I.pO (by rw[<-o];exact k),λi n b=> ?_,I.pd,I.xB,I.st,λv i y d r p=>I.rel v i y d r ((l _ _ _).1 p),I.hs,λi n b=> ?_⟩
 .have b:(a.sl i).st=3:=b
  rw[(e i).1]at b;obtain⟨v,d,q,f⟩:=I.back i n b;show∃w,w<c.W/\(a.sl i).own=w/\(((takeC (s.ws w) i (a.sl i).gen\/iw (s.ws w) i (a.sl i).gen)/\(a.sl i).str=0)\/(h.who i=w+1/\h.gen i=(a.sl i).gen/\Bits h (s.ws w) i (a.sl i).str));rw[(e i).2.1,(e i).2.2.1,(e i).2.2.2];exact⟨v,d,q,f⟩
 .have b:(a.sl i).st=3:=b
  rw[(e i).1]at b;show 0<=(a.sl i).str/\∀k:Nat,k<8->c.st<=k->(a.sl i).str/2^k%2≠1;rw[(e i).2.2.2];exact I.cap i n b
def afV(x)(h:x.ph=.pin none)(a:x.grant=0):jO c w x:=by
 grind [jO]
def QX(A:All c s)(f:c.W<=15)(S:1<=c.S)(x):All c (dX c s x).2:=by
 unfold dX;split
 .split
  .rename_i b
   obtain⟨⟨l,p⟩,r,_,_,_⟩:=b;obtain⟨I,C,W,N⟩:=A;have q:x.who.toNat<c.W:=by omega
   have d:(ko s x).ws x.who.toNat=⟨.pin none,{x.a with op:=x.op.toNat},0⟩:=bD s _;have o:∀i,i≠x.who.toNat->(ko s x).ws i=s.ws i:=λi a=>by
    show upd s.ws x.who.toNat _ i=_;exact ck a
   refine⟨⟨I.m,I.g,λi a=> ?_⟩,C,λi a=> ?_,N⟩
   .by_cases e:i=x.who.toNat
    .subst e;rw[d];exact afV _ rfl rfl
    .rw[o i e];exact I.w i a
   .by_cases e:i=x.who.toNat
    .subst e;rw[d];exact trivial
    .rw[o i e];exact W i a
  .exact A
 .split
  .split
   .rename_i b
    exact(Gu (by have:=b.1.1;have:=b.1.2;omega) f S A b.2).1
   .exact A
  .split
   .obtain⟨I,C,W,N⟩:=A
    exact⟨⟨I.m,I.g,I.w⟩,C,W,N⟩
   .split
    .split
     .obtain⟨I,C,W,N⟩:=A
      exact⟨⟨I.m,I.g,I.w⟩,C,W,N⟩
     .exact A
    .split
     .split
      .unfold QN
       cases k:az (s.m.sl x.a.slot.toNat) 13 0 0 with
       |none=>exact A
       |some n=>
        obtain⟨I,C,W,N⟩:=A;exact⟨⟨nN I.m k,I.g,I.w⟩,C,λi a=>afX (W i a) id,N⟩
      .exact A
     .exact A
def aqA(A:All c s)(a:∃h,bJ c s h)(x:En):∃h,bJ c (dX c s x).2 h:=by
 unfold dX;split
 .split
  .rename_i b
   obtain⟨⟨y,z⟩,r,_,_,_⟩:=b;obtain⟨h,S⟩:=a;have B:x.who.toNat<c.W:=by omega
   have f:(ko s x).ws x.who.toNat=⟨.pin none,{x.a with op:=x.op.toNat},0⟩:=bD s _;have o:∀i,i≠x.who.toNat->(ko s x).ws i=s.ws i:=λi l=>by
    show upd s.ws x.who.toNat _ i=_;exact ck l
   refine⟨h,?_⟩
   .refine lT S (w:=x.who.toNat) (fun j p=>o j p) ((dz (by rw[r];trivial)).same (by rw[f];exact dz trivial)) (tY S.tell ?_) id (fun i=>.inl rfl)
    unfold Hd.told;rw[tz (.inl rfl)]
  .exact a
 .split
  .split
   .rename_i b
    obtain⟨h,S⟩:=a;have d:x.who.toNat<c.W:=by have:=b.1.1;have:=b.1.2;omega
    obtain⟨q,u⟩:=XP S d A.inv.m (A.inv.w _ d) (A.wd _ d);exact⟨q,u⟩
   .exact a
  .split
   .obtain⟨h,S⟩:=a
    exact⟨h,⟨S.tell,S.one,S.pO,S.back,S.pd,S.xB,S.st,S.rel,S.hs,S.cap⟩⟩
   .split
    .split
     .obtain⟨h,S⟩:=a
      exact⟨h,⟨S.tell,S.one,S.pO,S.back,S.pd,S.xB,S.st,S.rel,S.hs,S.cap⟩⟩
     .exact a
    .split
     .split
      .unfold QN
       cases v:az (s.m.sl x.a.slot.toNat) 13 0 0 with
       |none=>exact a
       |some n=>
        obtain⟨h,S⟩:=a;refine⟨h,UX S rfl λi=> ?_⟩;by_cases e:i=x.a.slot.toNat
        .subst e
         have:(s.m.set x.a.slot.toNat n).sl x.a.slot.toNat=n:=wh;rw[this];have k:=agS v;exact⟨k.1,k.2.1,k.2.2.1,k.2.2.2.1⟩
        .have:(s.m.set x.a.slot.toNat n).sl i=s.m.sl i:=uf e
         rw[this];exact⟨rfl,rfl,rfl,rfl⟩
      .exact a
     .exact a
def Mm.zero:Mm:=⟨0,[],0,λ_=>0,λ_=>0,λ_=>aa.zero⟩
def Ask.zero:Ask:=⟨0,false,false,0,0,0,0⟩
def Ms.zero:Ms:=⟨Mm.zero,0,[],λ_=>⟨.rest,Ask.zero,0⟩,[]⟩
def IP:Facts aa.zero:=by constructor<;>decide
def all_zero:All c Ms.zero:=by
 exact⟨⟨⟨λi _=>IP,λa h=>by cases h⟩,λi=>by show(0:Int)<=c.S;omega,λi _=>trivial⟩,⟨jx 0,by decide⟩,λi _=>trivial,List.nodup_nil⟩
def aov:∃h,bJ c Ms.zero h:=by
 have n:∀w,iC (Ms.zero.ws w):=λw=>dz trivial;refine⟨Hd.zero,?_⟩;refine⟨rfl,λ_ w i y b a=> ?_,λ_ w i y b a=> ?_,λi d e=>(by cases e),λv w i y f b p=>tA p ((n v).pend i y),λv w i y z f b p=>tA p ((n v).pend i y),λw i y k o b a=>tA a ((n w).bg i y k o),λw i y b a=>tA a ((n w).rel i y),λi d=>tA rfl d,λi d e=>(by cases e)⟩
 .rcases a with a|a|a
  .exact tA a ((n w).take i y)
  .exact tA a ((n w).pend i y)
  .have:=a.1;cases this
 .rcases a with a|a
  .exact tA a ((n w).take i y)
  .exact tA a ((n w).pend i y)
def Still(c:Cn)(s:Ms):Prop:=∀w,w<c.W->¬aQ s w
def aaz(h:¬aQ s w):(s.ws w).ph=.rest\/∃b,(s.ws w).ph=.parked b:=by
 unfold aQ at h;cases p:(s.ws w).ph with
 |rest=>exact .inl rfl
 |parked b=>exact .inr ⟨b,rfl⟩
 |_=>rw[p]at h;exact tA trivial h
def Lx(h:¬aQ s w):iC (s.ws w):=by
 refine dz ?_;rcases aaz h with e|⟨b,e⟩<;>(rw[e];trivial)
def UI(S:bJ c s h)(d:Still c s)(o:s.m.cl≠2){i w:Nat}(p:h.who i=w+1):
  i<c.S/\w<c.W/\gU s.m i w (h.gen i)/\∀k,k<8->((s.m.sl i).str/2^k%2=1↔h.st i k=true):=by
 obtain⟨f,W⟩:=S.hs i (by omega);have a:w<c.W:=by omega
 have n:=Lx (d w a);have l:=S.one o w i (h.gen i) a (.inr (.inr ⟨p,rfl,n.rel _ _⟩));refine⟨f,a,l,?_⟩;obtain⟨v,q,r,u⟩:=S.back i f l.1;have b:=Lx (d v q);have e:v=w:=by have:=l.2.1;rw[r]at this;omega
 subst e;rcases u with⟨k|k,_⟩|⟨_,_,k⟩
 .exact tA k (b.take _ _)
 .exact tA k (b.pend _ _)
 .exact(jb b.bg _ _).1 k
def anz(S:bJ c s h)(b:Still c s){i:Nat}(d:i<c.S)(e:(s.m.sl i).st=3):∃w,w<c.W/\h.who i=w+1/\h.gen i=(s.m.sl i).gen/\(s.m.sl i).own=w:=by
 obtain⟨v,a,o,f⟩:=S.back i d e;have n:=Lx (b v a);rcases f with⟨k|k,_⟩|⟨l,p,_⟩
 .exact tA k (n.take _ _)
 .exact tA k (n.pend _ _)
 .exact⟨v,a,l,p,o⟩
