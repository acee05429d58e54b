/- Group CbB: laws of the proof, joined. No condition of its own. -/
import Derived.Test.YteaflphddciglaaGreatDoorCbA
set_option linter.unusedVariables false
set_option linter.unusedSimpArgs false
namespace Go.Proofs.YteaflphddciglaaGreatDoor
namespace bq
noncomputable section
open Classical
theorem Pg{x n:aa}{own:Int}(h:az x 3 own 0=some n):n.own=own/\n.str=0/\n.gen=(x.gen+1)%4096:=by
 obtain⟨r,hr,rfl,_⟩:=wG h;have hr:uU x own=some r:=hr;unfold uU at hr;split at hr<;>cases hr;exact⟨rfl,rfl,rfl⟩
theorem RL{x n:aa}{own:Int}(h:az x 1 own 0=some n):n.own=own/\n.str=0:=by
 obtain⟨r,hr,rfl,_⟩:=wG h;have hr:yB x own=some r:=hr;unfold yB at hr;split at hr<;>cases hr;exact⟨rfl,rfl⟩
theorem Pk{x n:aa}{own:Int}(h:az x 16 own 0=some n):n.own=own/\n.str=0:=by
 obtain⟨r,hr,rfl,_⟩:=wG h;have hr:sZ x own=some r:=hr;unfold sZ at hr;split at hr
 ·cases hr;exact⟨rfl,rfl⟩
 ·split at hr<;>cases hr
  exact⟨rfl,rfl⟩
theorem Tu{x n:aa}{own more:Int}(h:az x 14 own more=some n):x.own=own/\n.own=own/\n.gen=x.gen/\bA x.str<more/\bA x.str<8/\n.str=x.str+2^(bA x.str).toNat/\n.brk=x.brk:=by
 obtain⟨r,hr,rfl,_⟩:=wG h;have hr:aZ x own more=some r:=hr;unfold aZ at hr;split at hr<;>cases hr;rename_i hh;exact⟨hh.2.1,hh.2.1,rfl,hh.2.2.2.1,hh.2.2.2.2,rfl,rfl⟩
theorem Tt{x n:aa}{own more:Int}(h:az x 15 own more=some n):x.own=own/\n.own=own/\n.gen=x.gen/\0<=more/\more<=7/\x.str/2^more.toNat%2=1/\n.str=x.str-2^more.toNat/\n.brk=x.brk:=by
 obtain⟨r,hr,rfl,_⟩:=wG h;have hr:vH x own more=some r:=hr;unfold vH at hr;split at hr<;>cases hr;rename_i hh;exact⟨hh.2.1,hh.2.1,rfl,hh.2.2.1,hh.2.2.2.1,hh.2.2.2.2,rfl,rfl⟩
structure Hd where
 who:Nat->Nat
 gen:Nat->Int
 st:Nat->Nat->Bool
def Hd.zero:Hd:=⟨fun _=>0,fun _=>0,fun _ _=>false⟩
def Hd.has(c:Cn)(h:Hd)(w:Nat)(a:Ask):Prop:=0<=a.slot/\a.slot<c.S/\h.who a.slot.toNat=w+1/\h.gen a.slot.toNat=a.gen
def Hd.told(c:Cn)(h:Hd)(x:Ev):Option Hd:=
 if x.ended=false\/x.ans.e≠0 then some h else
 match x.ask.op with
 |0=>if x.ans.slot<0\/c.S<=x.ans.slot then none else some ⟨upd h.who x.ans.slot.toNat (x.who+1),upd h.gen x.ans.slot.toNat x.ans.gen,upd h.st x.ans.slot.toNat (fun _=>false)⟩
 |1=>some (if h.has c x.who x.ask then{h with who:=upd h.who x.ask.slot.toNat 0}else h)
 |2=>some (if h.has c x.who x.ask then{h with who:=upd h.who x.ask.slot.toNat 0}else h)
 |3=>if¬h.has c x.who x.ask\/x.ans.strm<0\/7<x.ans.strm then none else
  if h.st x.ask.slot.toNat x.ans.strm.toNat=true then none else some {h with st:=upd h.st x.ask.slot.toNat (upd (h.st x.ask.slot.toNat) x.ans.strm.toNat true)}
 |4=>if¬h.has c x.who x.ask\/x.ans.strm<0\/7<x.ans.strm then none else
  if h.st x.ask.slot.toNat x.ans.strm.toNat=false then none else some {h with st:=upd h.st x.ask.slot.toNat (upd (h.st x.ask.slot.toNat) x.ans.strm.toNat false)}
 |_=>some h
def eU(c:Cn):List Ev->Option Hd
 |[]=>some Hd.zero
 |x::r=>(eU c r).bind fun h=>h.told c x
def takeC(x:Wr)(i:Nat)(y:Int):Prop:=∃t,x.ph=.work (.get t)/\(t.st=.check\/t.st=.move\/t.st=.dD\/t.st=.back\/t.st=.go/\t.rt.st=.swap)/\t.i=i/\t.gen=y
def iw(x:Wr)(i:Nat)(y:Int):Prop:=∃t a,x.ph=.ax t none a/\x.ask.op=0/\a.e=0/\a.slot=i/\a.gen=y
def jw(x:Wr)(i:Nat)(y:Int):Prop:=
 (∃g,x.ph=.work (.give g)/\g.i=i/\g.gen=y/\g.st=.go/\g.rt.sw=true)\/
 ∃t a,x.ph=.ax t none a/\(x.ask.op=1\/x.ask.op=2)/\a.e=0/\x.ask.slot=i/\x.ask.gen=y
def ig(x:Wr)(i:Nat)(y:Int)(n:Nat)(op:Bool):Prop:=
 ∃t a,x.ph=.ax t none a/\x.ask.op=(if op then 3 else 4)/\a.e=0/\x.ask.slot=i/\x.ask.gen=y/\a.strm=n
def gU(m:Mm)(i w:Nat)(y:Int):Prop:=(m.sl i).st=3/\(m.sl i).own=w/\(m.sl i).gen=y
end
noncomputable section
open Classical
def mine(w:Nat)(y:Int)(x:aa):Prop:=x.st=3/\x.own=w/\x.gen=y
def Uo(w:Nat)(y:Int)(r:Rt):Prop:=(r.st=.swap->mine w y r.wd)/\(r.st≠.swap->r.sw=true)
def Q3(w:Nat)(t:Tk):Prop:=t.st=.go->t.rt.i=t.i/\Uo w t.gen t.rt
def GvW(c:Cn)(w:Nat)(g:Gv):Prop:=
 (g.st=.rest->0<=g.i/\g.i<c.S/\mine w g.gen g.wd)/\(g.st=.go->0<=g.i/\g.i<c.S/\g.rt.i=g.i.toNat/\Uo w g.gen g.rt)
def ZU(c:Cn)(w:Nat)(g:Sm):Prop:=
 g.st=.swap->0<=g.i/\g.i<c.S/\mine w g.gen g.wd/\g.next c w g.wd=some g.nx/\g.num=(if g.op then bA g.wd.str else g.n)
def RpW(r:Rp):Prop:=r.st=.dB->r.rt.st=.swap->r.rt.wd.st=2
def MN(m:Mm)(t:Td):Prop:=(t.st=.dL->t.look.ow=t.cl/\t.cl<=2/\(t.cl=2->m.cl=2))/\(t.st=.go->t.cl<=2/\t.look.ow=t.cl/\(t.cl=2->m.cl=2)/\(t.rt.st=.swap->t.rt.wd.st=3->m.cl=2))
def Ll(c:Cn)(x:Ask)(a:bR):Prop:=
 a.e=0->(x.op=0->0<=a.slot/\a.slot<c.S)/\(x.op=1\/x.op=2->0<=x.slot/\x.slot<c.S)/\(x.op=3\/x.op=4->0<=x.slot/\x.slot<c.S/\0<=a.strm/\a.strm<=7)
def QZ(c:Cn)(w:Nat)(x:Ask)(k:Wk):Prop:=
 match k with
 | .get t=>x.op=0/\Q3 w t
 | .give g=>(x.op=1\/x.op=2)/\g.i=x.slot/\g.gen=x.gen/\GvW c w g
 | .strm g=>x.op=(if g.op then 3 else 4)/\g.i=x.slot/\g.gen=x.gen/\ZU c w g
 | .close _=>5<=x.op
 | .stats _=>5<=x.op
 | .aS r=>5<=x.op/\RpW r
def nW(c:Cn)(m:Mm)(w:Nat)(x:Wr):Prop:=
 match x.ph with
 | .rest=>True
 | .pin _=>True
 | .work k=>QZ c w x.ask k
 | .counts _=>x.ask.op=0
 | .enters _=>x.ask.op=0
 | .ax t p a=>MN m t/\(match p with|some _=>x.ask.op=0|none=>Ll c x.ask a)
 | .parked _=>x.ask.op=0
 | .wakes _=>x.ask.op=0
 | .leaves _=>x.ask.op=0
theorem aej(c:Cn)(w:Nat)(x:Wr):QZ c w x.ask (bE x):=by
 unfold bE;split
 ·split
  ·exact⟨‹_›,fun h=>(by cases h)⟩
  ·exact⟨‹_›,fun h=>(by cases h)⟩
 ·exact⟨.inl ‹_›,rfl,rfl,⟨fun h=>(by cases h),fun h=>(by cases h)⟩⟩
 ·exact⟨.inr ‹_›,rfl,rfl,⟨fun h=>(by cases h),fun h=>(by cases h)⟩⟩
 ·exact⟨‹_›,rfl,rfl,fun h=>(by cases h)⟩
 ·exact⟨‹_›,rfl,rfl,fun h=>(by cases h)⟩
 ·rename_i h
  exact⟨by show 5<=x.ask.op;rw[h];omega,fun h=>(by cases h)⟩
 ·rename_i h
  show 5<=x.ask.op;rw[h];omega
 ·rename_i h0 h1 h2 h3 h4 h5 h6
  show 5<=x.ask.op;rcases h:x.ask.op with _|_|_|_|_|n
  ·exact absurd h h0
  ·exact absurd h h1
  ·exact absurd h h2
  ·exact absurd h h3
  ·exact absurd h h4
  ·omega
theorem UY{w:Nat}{y:Int}{m:Mm}{r:Rt}(h:Uo w y r)(hd:(r.step m).1.st≠.done):Uo w y (r.step m).1/\(r.step m).1.st≠.swap/\(r.step m).1.i=r.i:=by
 obtain⟨i,wd,ep,st,sw⟩:=r;obtain⟨h1,h2⟩:=h;cases st with
 |swap=>
  unfold Rt.step at hd ⊢;dsimp only at hd ⊢;split at hd
  ·split at hd
   ·rename_i hn hm
    rw[if_pos hm];exact⟨⟨fun h=>(by cases h),fun _=>rfl⟩,by simp,rfl⟩
   ·exact absurd rfl hd
  ·exact absurd rfl hd
 |look=>exact⟨⟨fun h=>(by cases h),fun _=>h2 (by simp)⟩,by simp[Rt.step],rfl⟩
 |iI=>
  have e:(⟨i,wd,ep,.iI,sw⟩:Rt).step m=(⟨i,wd,ep,.jk,sw⟩,((⟨i,wd,ep,.iI,sw⟩:Rt).step m).2):=by
   unfold Rt.step;dsimp only;split
   ·split<;>rfl
   ·rfl
  rw[e];exact⟨⟨fun h=>(by cases h),fun _=>h2 (by simp)⟩,by simp,rfl⟩
 |jk=>exact absurd rfl hd
 |done=>exact absurd rfl hd
end
noncomputable section
open Classical
def NN(h:Hd)(x:Wr)(w i:Nat)(y:Int):Prop:=h.who i=w+1/\h.gen i=y/\¬jw x i y
def est(h:Hd)(x:Wr)(i k:Nat):Prop:=(h.st i k=true/\¬ ∃y,ig x i y k false)\/∃y,ig x i y k true
def Bits(h:Hd)(x:Wr)(i:Nat)(str:Int):Prop:=∀k,k<8->(str/2^k%2=1↔est h x i k)
structure bJ(c:Cn)(s:Ms)(h:Hd):Prop where
 tell:eU c s.ev=some h
 one:s.m.cl≠2->∀w i y,w<c.W->(takeC (s.ws w) i y\/iw (s.ws w) i y\/NN h (s.ws w) w i y)->gU s.m i w y
 pO:s.m.cl≠2->∀w i y,w<c.W->(takeC (s.ws w) i y\/iw (s.ws w) i y)->h.who i≠w+1
 back:∀i,i<c.S->(s.m.sl i).st=3->∃w,w<c.W/\(s.m.sl i).own=w/\
  (((takeC (s.ws w) i (s.m.sl i).gen\/iw (s.ws w) i (s.m.sl i).gen)/\(s.m.sl i).str=0)\/(h.who i=w+1/\h.gen i=(s.m.sl i).gen/\Bits h (s.ws w) i (s.m.sl i).str))
 pd:∀v w i y,v<c.W->w<c.W->iw (s.ws v) i y->h.who i=w+1->jw (s.ws w) i (h.gen i)
 xB:∀v w i y z,v<c.W->w<c.W->iw (s.ws v) i y->iw (s.ws w) i z->v=w
 st:∀w i y n op,w<c.W->ig (s.ws w) i y n op->i<c.S/\n<8/\h.who i=w+1/\h.gen i=y/\h.st i n= !op
 rel:∀w i y,w<c.W->jw (s.ws w) i y->¬gU s.m i w y
 hs:∀i,h.who i≠0->i<c.S/\h.who i<=c.W
 cap:∀i,i<c.S->(s.m.sl i).st=3->0<=(s.m.sl i).str/\∀k:Nat,k<8->c.st<=k->(s.m.sl i).str/2^k%2≠1
structure vM(x x':Wr):Prop where
 take:∀i y,takeC x' i y↔takeC x i y
 pend:∀i y,iw x' i y↔iw x i y
 rel:∀i y,jw x' i y↔jw x i y
 strm:∀i y n op,ig x' i y n op↔ig x i y n op
structure iC(x:Wr):Prop where
 take:∀i y,¬takeC x i y
 pend:∀i y,¬iw x i y
 rel:∀i y,¬jw x i y
 strm:∀i y n op,¬ig x i y n op
theorem iC.same{x x':Wr}(h:iC x)(h':iC x'):vM x x':=
 ⟨fun i y=>⟨fun k=>absurd k (h'.take i y),fun k=>absurd k (h.take i y)⟩,fun i y=>⟨fun k=>absurd k (h'.pend i y),fun k=>absurd k (h.pend i y)⟩,
  fun i y=>⟨fun k=>absurd k (h'.rel i y),fun k=>absurd k (h.rel i y)⟩,fun i y n op=>⟨fun k=>absurd k (h'.strm i y n op),fun k=>absurd k (h.strm i y n op)⟩⟩
variable{c:Cn} {s s':Ms} {w:Nat} {h:Hd}
def zJ(s s':Ms)(w:Nat):Prop:=∀j,j≠w->s'.ws j=s.ws j
theorem ab9{x x':Wr}(k:vM x x')(i n:Nat):est h x' i n↔est h x i n:=by
 unfold est;simp only[k.strm]
theorem ZG{x x':Wr}(k:vM x x')(i:Nat)(v:Int):Bits h x' i v↔Bits h x i v:=by
 unfold Bits;simp only[ab9 k]
theorem YY{x x':Wr}(k:vM x x')(w i:Nat)(y:Int):NN h x' w i y↔NN h x w i y:=by
 unfold NN;rw[k.rel]
theorem aaN(o:zJ s s' w)(k:vM (s.ws w) (s'.ws w))(v:Nat):vM (s.ws v) (s'.ws v):=by
 by_cases e:v=w
 ·subst e;exact k
 ·rw[o v e];exact⟨fun _ _=>Iff.rfl,fun _ _=>Iff.rfl,fun _ _=>Iff.rfl,fun _ _ _ _=>Iff.rfl⟩
theorem qj{m:Mm}{i v w:Nat}{y z:Int}(h1:gU m i v y)(h2:gU m i w z):v=w:=by
 have a:=h1.2.1;have b:=h2.2.1;rw[a]at b;omega
theorem TE{m:Mm}{i v w:Nat}{y z:Int}(h1:gU m i v y)(h2:gU m i w z):y=z:=h1.2.2.symm.trans h2.2.2
theorem mJ{s s':Ms}{i w:Nat}{y:Int}(e:s'.m.sl i=s.m.sl i):gU s'.m i w y↔gU s.m i w y:=by unfold gU;rw[e]
theorem lT(I:bJ c s h)(o:zJ s s' w)(k:vM (s.ws w) (s'.ws w))(he:eU c s'.ev=some h)(hc:s'.m.cl≠2->s.m.cl≠2)
  (hm:∀i,s'.m.sl i=s.m.sl i\/(s'.m.sl i).st≠3/\(s'.m.cl≠2->(s.m.sl i).st≠3)):bJ c s' h:=by
 have ka:=aaN o k
 have ml:∀i w y,s'.m.cl≠2->gU s.m i w y->gU s'.m i w y:=by
  intro i w y h1 h2;rcases hm i with e|e
  ·unfold gU;rw[e];exact h2
  ·exact absurd h2.1 (e.2 h1)
 refine⟨he,fun h2 v i y hv hh=>ml _ _ _ h2 (I.one (hc h2) v i y hv ?_),fun h2 v i y hv hh=>I.pO (hc h2) v i y hv ?_,fun i hi h3=> ?_,fun v u i y hv hu hp hw=> ?_,fun v u i y z hv hu hp hq=> ?_,fun v i y n op hv hh=> ?_,fun v i y hv hr hl=> ?_,I.hs,fun i hi h3=> ?_⟩
 ·rcases hh with hh|hh|hh
  ·exact .inl (((ka v).take i y).1 hh)
  ·exact .inr (.inl (((ka v).pend i y).1 hh))
  ·exact .inr (.inr ((YY (ka v) v i y).1 hh))
 ·rcases hh with hh|hh
  ·exact .inl (((ka v).take i y).1 hh)
  ·exact .inr (((ka v).pend i y).1 hh)
 ·rcases hm i with e|e
  ·rw[e]at h3 ⊢
   obtain⟨v,hv,ho,hh⟩:=I.back i hi h3;refine⟨v,hv,ho,?_⟩;rw[(ka v).take,(ka v).pend,ZG (ka v)];exact hh
  ·exact absurd h3 e.1
 ·exact((ka u).rel _ _).2 (I.pd v u i y hv hu (((ka v).pend i y).1 hp) hw)
 ·exact I.xB v u i y z hv hu (((ka v).pend i y).1 hp) (((ka u).pend i z).1 hq)
 ·exact I.st v i y n op hv (((ka v).strm i y n op).1 hh)
 ·rcases hm i with e|e
  ·exact I.rel v i y hv (((ka v).rel i y).1 hr) ((mJ e).1 hl)
  ·exact e.1 hl.1
 ·rcases hm i with e|e
  ·rw[e]at h3 ⊢;exact I.cap i hi h3
  ·exact absurd h3 e.1
theorem IV{x:Wr}(n:∀i y k op,¬ig x i y k op)(i k:Nat):est h x i k↔h.st i k=true:=by
 unfold est;constructor
 ·rintro(k1|⟨y,k1⟩)
  ·exact k1.1
  ·exact absurd k1 (n _ _ _ _)
 ·exact fun k1=>.inl ⟨k1,fun⟨y,k2⟩=>n _ _ _ _ k2⟩
theorem jb{x:Wr}(n:∀i y k op,¬ig x i y k op)(i:Nat)(v:Int):Bits h x i v↔∀k,k<8->(v/2^k%2=1↔h.st i k=true):=by
 unfold Bits;simp only[IV n]
theorem UU{j:Nat}{y:Int}(I:bJ c s h)(o:zJ s s' w)(hw:w<c.W)(n:iC (s.ws w))(he:s'.ev=s.ev)(hc:s'.m.cl=s.m.cl)
  (h0:(s.m.sl j).st≠3) (h1:gU s'.m j w y) (h2:(s'.m.sl j).str=0) (hm:∀i,i≠j->s'.m.sl i=s.m.sl i)
  (t:∀i z,takeC (s'.ws w) i z↔i=j/\z=y) (p:∀i z,¬iw (s'.ws w) i z) (r:∀i z,¬jw (s'.ws w) i z) (q:∀i z k op,¬ig (s'.ws w) i z k op):bJ c s' h:=by
 have ne:∀{i v z},gU s.m i v z->i≠j:=fun k e=>h0 (e▸k.1)
 have keep:∀{i v z},gU s.m i v z->gU s'.m i v z:=fun k=>(mJ (hm _ (ne k))).2 k
 have hw0:s.m.cl≠2->h.who j≠w+1:=fun k e=>h0 (I.one k w j (h.gen j) hw (.inr (.inr ⟨e,rfl,n.rel _ _⟩))).1
 refine⟨by rw[he];exact I.tell,fun k v i z hv hh=> ?_,fun k v i z hv hh=> ?_,fun i hi h3=> ?_,fun v u i z hv hu hp hq=> ?_,fun v u i z z' hv hu hp hq=> ?_,fun v i z k op hv hh=> ?_,fun v i z hv hr hl=> ?_,I.hs,fun i hi h3=> ?_⟩
 ·rw[hc]at k
  by_cases e:v=w
  ·subst e
   rcases hh with hh|hh|hh
   ·obtain⟨rfl,rfl⟩:=(t i z).1 hh;exact h1
   ·exact absurd hh (p _ _)
   ·exact keep (I.one k v i z hv (.inr (.inr ⟨hh.1,hh.2.1,n.rel _ _⟩)))
  ·rw[o v e]at hh;exact keep (I.one k v i z hv hh)
 ·rw[hc]at k
  by_cases e:v=w
  ·subst e
   rcases hh with hh|hh
   ·obtain⟨rfl,rfl⟩:=(t i z).1 hh;exact hw0 k
   ·exact absurd hh (p _ _)
  ·rw[o v e]at hh;exact I.pO k v i z hv hh
 ·by_cases e:i=j
  ·subst e
   exact⟨w,hw,h1.2.1,.inl ⟨.inl ((t _ _).2 ⟨rfl,h1.2.2⟩),h2⟩⟩
  ·rw[hm i e]at h3 ⊢
   obtain⟨v,hv,ho,hh⟩:=I.back i hi h3;refine⟨v,hv,ho,?_⟩;by_cases ev:v=w
   ·subst ev
    rcases hh with⟨hh|hh,_⟩|⟨a,b,hh⟩
    ·exact absurd hh (n.take _ _)
    ·exact absurd hh (n.pend _ _)
    ·exact .inr ⟨a,b,(jb q _ _).2 ((jb n.strm _ _).1 hh)⟩
   ·rw[o v ev];exact hh
 ·by_cases ev:v=w
  ·subst ev;exact absurd hp (p _ _)
  ·rw[o v ev]at hp
   have k:=I.pd v u i z hv hu hp hq;by_cases eu:u=w
   ·subst eu;exact absurd k (n.rel _ _)
   ·rw[o u eu];exact k
 ·have ev:v≠w:=fun e=>by subst e;exact p _ _ hp
  have eu:u≠w:=fun e=>by subst e;exact p _ _ hq
  rw[o v ev]at hp;rw[o u eu]at hq;exact I.xB v u i z z' hv hu hp hq
 ·have ev:v≠w:=fun e=>by subst e;exact q _ _ _ _ hh
  rw[o v ev]at hh;exact I.st v i z k op hv hh
 ·have ev:v≠w:=fun e=>by subst e;exact r _ _ hr
  rw[o v ev]at hr;have ei:i≠j:=fun e=>by subst e;exact ev (qj hl h1)
  exact I.rel v i z hv hr ((mJ (hm i ei)).1 hl)
 ·by_cases e:i=j
  ·subst e
   rw[h2];refine⟨Int.le_refl _,fun k _ _=> ?_⟩
   rw[Int.zero_ediv];decide
  ·rw[hm i e]at h3 ⊢;exact I.cap i hi h3
theorem XN{j:Nat}{y:Int}(I:bJ c s h)(o:zJ s s' w)(hw:w<c.W)(he:s'.ev=s.ev)(hc:s'.m=s.m)(h0:s.m.cl≠2)
  (t0:∀i z,takeC (s.ws w) i z↔i=j/\z=y) (p0:∀i z,¬iw (s.ws w) i z) (r0:∀i z,¬jw (s.ws w) i z) (q0:∀i z k op,¬ig (s.ws w) i z k op)
  (t:∀i z,¬takeC (s'.ws w) i z) (p:∀i z,iw (s'.ws w) i z↔i=j/\z=y) (r:∀i z,¬jw (s'.ws w) i z) (q:∀i z k op,¬ig (s'.ws w) i z k op):bJ c s' h:=by
 have hl:gU s.m j w y:=I.one h0 w j y hw (.inl ((t0 _ _).2 ⟨rfl,rfl⟩));have hn:h.who j≠w+1:=I.pO h0 w j y hw (.inl ((t0 _ _).2 ⟨rfl,rfl⟩));refine⟨by rw[he];exact I.tell,fun k v i z hv hh=> ?_,fun k v i z hv hh=> ?_,fun i hi h3=> ?_,fun v u i z hv hu hp hq=> ?_,fun v u i z z' hv hu hp hq=> ?_,fun v i z k op hv hh=> ?_,fun v i z hv hr hl=> ?_,I.hs,?_⟩
 ·rw[hc]
  by_cases e:v=w
  ·subst e
   rcases hh with hh|hh|hh
   ·exact absurd hh (t _ _)
   ·obtain⟨rfl,rfl⟩:=(p i z).1 hh;exact hl
   ·exact I.one h0 v i z hv (.inr (.inr ⟨hh.1,hh.2.1,r0 _ _⟩))
  ·rw[o v e]at hh;exact I.one h0 v i z hv hh
 ·by_cases e:v=w
  ·subst e
   rcases hh with hh|hh
   ·exact absurd hh (t _ _)
   ·obtain⟨rfl,rfl⟩:=(p i z).1 hh;exact hn
  ·rw[o v e]at hh;exact I.pO h0 v i z hv hh
 ·rw[hc]at h3 ⊢
  obtain⟨v,hv,ho,hh⟩:=I.back i hi h3;refine⟨v,hv,ho,?_⟩;by_cases ev:v=w
  ·subst ev
   rcases hh with⟨hh|hh,k⟩|⟨a,b,hh⟩
   ·exact .inl ⟨.inr ((p _ _).2 ((t0 _ _).1 hh)),k⟩
   ·exact absurd hh (p0 _ _)
   ·exact .inr ⟨a,b,(jb q _ _).2 ((jb q0 _ _).1 hh)⟩
  ·rw[o v ev];exact hh
 ·by_cases eu:u=w
  ·subst eu
   by_cases ev:v=u
   ·subst ev
    obtain⟨rfl,rfl⟩:=(p i z).1 hp;exact absurd hq hn
   ·rw[o v ev]at hp
    exact absurd (I.pd v u i z hv hu hp hq) (r0 _ _)
  ·rw[o u eu]
   by_cases ev:v=w
   ·subst ev
    obtain⟨rfl,rfl⟩:=(p i z).1 hp;refine Classical.byContradiction fun k=> ?_
    have:=I.one h0 u i (h.gen i) hu (.inr (.inr ⟨hq,rfl,k⟩));exact eu (qj this hl)
   ·rw[o v ev]at hp
    exact I.pd v u i z hv hu hp hq
 ·by_cases ev:v=w
  ·by_cases eu:u=w
   ·exact ev.trans eu.symm
   ·subst ev
    obtain⟨rfl,rfl⟩:=(p i z).1 hp;rw[o u eu]at hq;exact qj hl (I.one h0 u i z' hu (.inr (.inl hq)))
  ·by_cases eu:u=w
   ·subst eu
    obtain⟨rfl,rfl⟩:=(p i z').1 hq;rw[o v ev]at hp;exact qj (I.one h0 v i z hv (.inr (.inl hp))) hl
   ·rw[o v ev]at hp
    rw[o u eu]at hq;exact I.xB v u i z z' hv hu hp hq
 ·have ev:v≠w:=fun e=>by subst e;exact q _ _ _ _ hh
  rw[o v ev]at hh;exact I.st v i z k op hv hh
 ·have ev:v≠w:=fun e=>by subst e;exact r _ _ hr
  rw[o v ev]at hr;rw[hc]at hl;exact I.rel v i z hv hr hl
 ·rw[hc];exact I.cap
end
noncomputable section
open Classical
variable{c:Cn} {s s':Ms} {w:Nat} {h:Hd}
theorem XR{j:Nat}{y:Int}(I:bJ c s h)(o:zJ s s' w)(hw:w<c.W)(he:s'.ev=s.ev)(hc:s'.m.cl=s.m.cl)
  (t0:∀i z,takeC (s.ws w) i z->i=j/\z=y) (p0:∀i z,¬iw (s.ws w) i z) (r0:∀i z,¬jw (s.ws w) i z) (q0:∀i z k op,¬ig (s.ws w) i z k op)
  (n:iC (s'.ws w)) (hm:∀i,i≠j->s'.m.sl i=s.m.sl i)
  (hj:s'.m.sl j=s.m.sl j/\¬gU s.m j w y\/takeC (s.ws w) j y/\gU s.m j w y/\(s'.m.sl j).st≠3):bJ c s' h:=by
 refine⟨by rw[he];exact I.tell,fun k v i z hv hh=> ?_,fun k v i z hv hh=> ?_,fun i hi h3=> ?_,fun v u i z hv hu hp hq=> ?_,fun v u i z z' hv hu hp hq=> ?_,fun v i z k op hv hh=> ?_,fun v i z hv hr hl=> ?_,I.hs,fun i hi h3=> ?_⟩
 ·rw[hc]at k
  have old:gU s.m i v z:=by
   by_cases e:v=w
   ·subst e
    rcases hh with hh|hh|hh
    ·exact absurd hh (n.take _ _)
    ·exact absurd hh (n.pend _ _)
    ·exact I.one k v i z hv (.inr (.inr ⟨hh.1,hh.2.1,r0 _ _⟩))
   ·rw[o v e]at hh;exact I.one k v i z hv hh
  by_cases ei:i=j
  ·subst ei
   rcases hj with hj|hj
   ·exact(mJ hj.1).2 old
   ·have ew:=qj old hj.2.1
    subst ew;rcases hh with hh|hh|hh
    ·exact absurd hh (n.take _ _)
    ·exact absurd hh (n.pend _ _)
    ·exact absurd hh.1 (I.pO k v i y hv (.inl hj.1))
  ·exact(mJ (hm i ei)).2 old
 ·rw[hc]at k
  by_cases e:v=w
  ·subst e
   rcases hh with hh|hh
   ·exact absurd hh (n.take _ _)
   ·exact absurd hh (n.pend _ _)
  ·rw[o v e]at hh;exact I.pO k v i z hv hh
 ·have hs:s'.m.sl i=s.m.sl i:=by
   by_cases ei:i=j
   ·subst ei
    rcases hj with hj|hj
    ·exact hj.1
    ·exact absurd h3 hj.2.2
   ·exact hm i ei
  rw[hs]at h3 ⊢;obtain⟨v,hv,ho,hh⟩:=I.back i hi h3;refine⟨v,hv,ho,?_⟩;by_cases ev:v=w
  ·subst ev
   rcases hh with⟨hh|hh,k⟩|⟨a,b,hh⟩
   ·exfalso
    obtain⟨rfl,e2⟩:=t0 _ _ hh;have l:gU s.m i v y:=⟨h3,ho,e2⟩;rcases hj with hj|hj
    ·exact hj.2 l
    ·exact hj.2.2 (hs▸h3)
   ·exact absurd hh (p0 _ _)
   ·exact .inr ⟨a,b,(jb n.strm _ _).2 ((jb q0 _ _).1 hh)⟩
  ·rw[o v ev];exact hh
 ·by_cases ev:v=w
  ·subst ev;exact absurd hp (n.pend _ _)
  ·rw[o v ev]at hp
   have k:=I.pd v u i z hv hu hp hq;by_cases eu:u=w
   ·subst eu;exact absurd k (r0 _ _)
   ·rw[o u eu];exact k
 ·have ev:v≠w:=fun e=>by subst e;exact n.pend _ _ hp
  have eu:u≠w:=fun e=>by subst e;exact n.pend _ _ hq
  rw[o v ev]at hp;rw[o u eu]at hq;exact I.xB v u i z z' hv hu hp hq
 ·have ev:v≠w:=fun e=>by subst e;exact n.strm _ _ _ _ hh
  rw[o v ev]at hh;exact I.st v i z k op hv hh
 ·have ev:v≠w:=fun e=>by subst e;exact n.rel _ _ hr
  rw[o v ev]at hr;by_cases ei:i=j
  ·subst ei
   rcases hj with hj|hj
   ·exact I.rel v i z hv hr ((mJ hj.1).1 hl)
   ·exact hj.2.2 hl.1
  ·exact I.rel v i z hv hr ((mJ (hm i ei)).1 hl)
 ·have hs:s'.m.sl i=s.m.sl i:=by
   by_cases ei:i=j
   ·subst ei
    rcases hj with hj|hj
    ·exact hj.1
    ·exact absurd h3 hj.2.2
   ·exact hm i ei
  rw[hs]at h3 ⊢;exact I.cap i hi h3
theorem XT{j:Nat}{y:Int}(I:bJ c s h)(o:zJ s s' w)(hw:w<c.W)(n:iC (s.ws w))(he:s'.ev=s.ev)(hc:s'.m.cl=s.m.cl)
  (h0:gU s.m j w y) (h1:(s'.m.sl j).st≠3) (hm:∀i,i≠j->s'.m.sl i=s.m.sl i)
  (t:∀i z,¬takeC (s'.ws w) i z) (p:∀i z,¬iw (s'.ws w) i z) (r:∀i z,jw (s'.ws w) i z↔i=j/\z=y) (q:∀i z k op,¬ig (s'.ws w) i z k op):bJ c s' h:=by
 refine⟨by rw[he];exact I.tell,fun k v i z hv hh=> ?_,fun k v i z hv hh=> ?_,fun i hi h3=> ?_,fun v u i z hv hu hp hq=> ?_,fun v u i z z' hv hu hp hq=> ?_,fun v i z k op hv hh=> ?_,fun v i z hv hr hl=> ?_,I.hs,fun i hi h3=> ?_⟩
 ·rw[hc]at k
  by_cases e:v=w
  ·subst e
   rcases hh with hh|hh|hh
   ·exact absurd hh (t _ _)
   ·exact absurd hh (p _ _)
   ·have l:=I.one k v i z hv (.inr (.inr ⟨hh.1,hh.2.1,n.rel _ _⟩))
    by_cases ei:i=j
    ·subst ei
     have:=TE l h0;subst this;exact absurd ((r _ _).2 ⟨rfl,rfl⟩) hh.2.2
    ·exact(mJ (hm i ei)).2 l
  ·rw[o v e]at hh
   have l:=I.one k v i z hv hh;by_cases ei:i=j
   ·subst ei;exact absurd (qj l h0) e
   ·exact(mJ (hm i ei)).2 l
 ·rw[hc]at k
  by_cases e:v=w
  ·subst e
   rcases hh with hh|hh
   ·exact absurd hh (t _ _)
   ·exact absurd hh (p _ _)
  ·rw[o v e]at hh;exact I.pO k v i z hv hh
 ·have ei:i≠j:=fun e=>h1 (e▸h3)
  rw[hm i ei]at h3 ⊢;obtain⟨v,hv,ho,hh⟩:=I.back i hi h3;refine⟨v,hv,ho,?_⟩;by_cases ev:v=w
  ·subst ev
   rcases hh with⟨hh|hh,k⟩|⟨a,b,hh⟩
   ·exact absurd hh (n.take _ _)
   ·exact absurd hh (n.pend _ _)
   ·exact .inr ⟨a,b,(jb q _ _).2 ((jb n.strm _ _).1 hh)⟩
  ·rw[o v ev];exact hh
 ·by_cases ev:v=w
  ·subst ev;exact absurd hp (p _ _)
  ·rw[o v ev]at hp
   have k:=I.pd v u i z hv hu hp hq;by_cases eu:u=w
   ·subst eu;exact absurd k (n.rel _ _)
   ·rw[o u eu];exact k
 ·have ev:v≠w:=fun e=>by subst e;exact p _ _ hp
  have eu:u≠w:=fun e=>by subst e;exact p _ _ hq
  rw[o v ev]at hp;rw[o u eu]at hq;exact I.xB v u i z z' hv hu hp hq
 ·have ev:v≠w:=fun e=>by subst e;exact q _ _ _ _ hh
  rw[o v ev]at hh;exact I.st v i z k op hv hh
 ·by_cases ei:i=j
  ·subst ei;exact h1 hl.1
  ·have hl:=(mJ (hm i ei)).1 hl
   by_cases ev:v=w
   ·subst ev;exact ei ((r _ _).1 hr).1
   ·rw[o v ev]at hr
    exact I.rel v i z hv hr hl
 ·have ei:i≠j:=fun e=>h1 (e▸h3)
  rw[hm i ei]at h3 ⊢;exact I.cap i hi h3
theorem QO{v:Int}{n:Nat}:(v+2^n)/2^n=v/2^n+1:=by
 have:=Int.add_mul_ediv_right v 1 (show(2:Int)^n≠0 from Int.ne_of_gt (Int.pow_pos (by decide)))
 rwa[Int.one_mul]at this
theorem Ul{v:Int}{n k:Nat}(hn:n<8)(hk:k<8)(e:k≠n)(h:v/2^n%2=0):(v+2^n)/2^k%2=v/2^k%2:=by
 rcases(by omega:n=0\/n=1\/n=2\/n=3\/n=4\/n=5\/n=6\/n=7)with rfl|rfl|rfl|rfl|rfl|rfl|rfl|rfl<;>
 rcases(by omega:k=0\/k=1\/k=2\/k=3\/k=4\/k=5\/k=6\/k=7)with rfl|rfl|rfl|rfl|rfl|rfl|rfl|rfl<;>
 first|exact absurd rfl e|(simp only[Int.reducePow]at h ⊢;omega)
theorem afQ{v:Int}{n:Nat}(hn:n<8)(h0:0<=v)(h:v/2^n%2≠1):∀k:Nat,k<8->((v+2^n)/2^k%2=1↔k=n\/v/2^k%2=1):=by
 intro k hk;by_cases e:k=n
 ·subst e
  rw[QO];exact⟨fun _=>.inl rfl,fun _=>by omega⟩
 ·rw[Ul hn hk e (by omega)]
  exact⟨.inr,fun k=>k.resolve_left e⟩
theorem afO{v:Int}{n:Nat}(hn:n<8)(h0:0<=v)(h:v/2^n%2=1):∀k:Nat,k<8->((v-2^n)/2^k%2=1↔k≠n/\v/2^k%2=1):=by
 intro k hk;have b:=QO (v:=v-2^n) (n:=n);rw[Int.sub_add_cancel]at b;by_cases e:k=n
 ·subst e
  exact⟨fun h=>by omega,fun h=>absurd rfl h.1⟩
 ·have c:=Ul (v:=v-2^n) hn hk e (by omega)
  rw[Int.sub_add_cancel]at c;rw[<-c];exact⟨fun h=>⟨e,h⟩,fun h=>h.2⟩
theorem ah2{v:Int}{n:Nat}(h0:0<=v)(h:v/2^n%2=1):2^n<=v:=by
 have hp:(0:Int)<2^n:=Int.pow_pos (by decide)
 refine Classical.byContradiction fun k=> ?_
 rw[Int.ediv_eq_zero_of_lt h0 (by omega)]at h
 cases h
theorem afa{v:Int}(h:bA v<8)(h0:0<=v):0<=bA v/\v/2^(bA v).toNat%2≠1:=by
 by_cases k0:v%2≠1
 ·have e:bA v=0:=by unfold bA;rw[if_pos k0]
  rw[e];refine⟨by decide,?_⟩
  show v/2^0%2≠1;simp only[Int.reducePow];omega
 by_cases k1:v/2%2≠1
 ·have e:bA v=1:=by unfold bA;rw[if_neg k0,if_pos k1]
  rw[e];refine⟨by decide,?_⟩
  show v/2^1%2≠1;simp only[Int.reducePow];omega
 by_cases k2:v/4%2≠1
 ·have e:bA v=2:=by unfold bA;rw[if_neg k0,if_neg k1,if_pos k2]
  rw[e];refine⟨by decide,?_⟩
  show v/2^2%2≠1;simp only[Int.reducePow];omega
 by_cases k3:v/8%2≠1
 ·have e:bA v=3:=by unfold bA;rw[if_neg k0,if_neg k1,if_neg k2,if_pos k3]
  rw[e];refine⟨by decide,?_⟩
  show v/2^3%2≠1;simp only[Int.reducePow];omega
 by_cases k4:v/16%2≠1
 ·have e:bA v=4:=by unfold bA;rw[if_neg k0,if_neg k1,if_neg k2,if_neg k3,if_pos k4]
  rw[e];refine⟨by decide,?_⟩
  show v/2^4%2≠1;simp only[Int.reducePow];omega
 by_cases k5:v/32%2≠1
 ·have e:bA v=5:=by unfold bA;rw[if_neg k0,if_neg k1,if_neg k2,if_neg k3,if_neg k4,if_pos k5]
  rw[e];refine⟨by decide,?_⟩
  show v/2^5%2≠1;simp only[Int.reducePow];omega
 by_cases k6:v/64%2≠1
 ·have e:bA v=6:=by unfold bA;rw[if_neg k0,if_neg k1,if_neg k2,if_neg k3,if_neg k4,if_neg k5,if_pos k6]
  rw[e];refine⟨by decide,?_⟩
  show v/2^6%2≠1;simp only[Int.reducePow];omega
 by_cases k7:v/128%2≠1
 ·have e:bA v=7:=by unfold bA;rw[if_neg k0,if_neg k1,if_neg k2,if_neg k3,if_neg k4,if_neg k5,if_neg k6,if_pos k7]
  rw[e];refine⟨by decide,?_⟩
  show v/2^7%2≠1;simp only[Int.reducePow];omega
 have e:bA v=8:=by unfold bA;rw[if_neg k0,if_neg k1,if_neg k2,if_neg k3,if_neg k4,if_neg k5,if_neg k6,if_neg k7]
 rw[e]at h;exact absurd h (by decide)
theorem XO{j n:Nat}{y:Int}{op:Bool}(I:bJ c s h)(o:zJ s s' w)(hw:w<c.W)(hj:j<c.S)(hn:n<8)(nc:iC (s.ws w))(he:s'.ev=s.ev)(hc:s'.m.cl=s.m.cl)
  (h0:gU s.m j w y) (h1:gU s'.m j w y) (hm:∀i,i≠j->s'.m.sl i=s.m.sl i)
  (hb:if op then(s.m.sl j).str/2^n%2≠1/\(s'.m.sl j).str=(s.m.sl j).str+2^n/\(n:Int)<c.st else(s.m.sl j).str/2^n%2=1/\(s'.m.sl j).str=(s.m.sl j).str-2^n)
  (t:∀i z,¬takeC (s'.ws w) i z) (p:∀i z,¬iw (s'.ws w) i z) (r:∀i z,¬jw (s'.ws w) i z) (q:∀i z k o,ig (s'.ws w) i z k o↔i=j/\z=y/\k=n/\o=op):bJ c s' h:=by
 obtain⟨u,hu0,ho0,hh0⟩:=I.back j hj h0.1;have eu:u=w:=by have:=h0.2.1;rw[ho0]at this;omega
 subst eu
 obtain⟨a,b,hB⟩:h.who j=u+1/\h.gen j=(s.m.sl j).gen/\Bits h (s.ws u) j (s.m.sl j).str:=by
  rcases hh0 with⟨hh0|hh0,_⟩|hh0
  ·exact absurd hh0 (nc.take _ _)
  ·exact absurd hh0 (nc.pend _ _)
  ·exact hh0
 clear hh0;have hB:=(jb nc.strm _ _).1 hB;obtain⟨g0,gc⟩:=I.cap j hj h0.1;have gy:h.gen j=y:=b.trans h0.2.2
 have hst:h.st j n= !op:=by
  have k:=hB n hn;cases op with
  |true=>
   have:¬h.st j n=true:=fun e=>hb.1 (k.2 e)
   simpa using this
  |false=>exact k.1 hb.1
 have adn:∀k,k<8->((s'.m.sl j).str/2^k%2=1↔if k=n then op=true else(s.m.sl j).str/2^k%2=1):=by
  intro k hk;cases op with
  |true=>
   have hb:(s.m.sl j).str/2^n%2≠1/\(s'.m.sl j).str=(s.m.sl j).str+2^n/\(n:Int)<c.st:=hb;rw[hb.2.1,afQ hn g0 hb.1 k hk];by_cases e:k=n
   ·rw[if_pos e];exact⟨fun _=>rfl,fun _=>.inl e⟩
   ·rw[if_neg e];exact⟨fun x=>x.resolve_left e,.inr⟩
  |false=>
   have hb:(s.m.sl j).str/2^n%2=1/\(s'.m.sl j).str=(s.m.sl j).str-2^n:=hb;rw[hb.2,afO hn g0 hb.1 k hk];by_cases e:k=n
   ·rw[if_pos e];exact⟨fun x=>absurd e x.1,fun x=>by cases x⟩
   ·rw[if_neg e];exact⟨fun x=>x.2,fun x=>⟨e,x⟩⟩
 refine⟨by rw[he];exact I.tell,fun k v i z hv hh=> ?_,fun k v i z hv hh=> ?_,fun i hi h3=> ?_,fun v v' i z hv hu hp hq=> ?_,fun v v' i z z' hv hu hp hq=> ?_,fun v i z k o' hv hh=> ?_,fun v i z hv hr hl=> ?_,I.hs,fun i hi h3=> ?_⟩
 ·rw[hc]at k
  have l:gU s.m i v z:=by
   by_cases e:v=u
   ·subst e
    rcases hh with hh|hh|hh
    ·exact absurd hh (t _ _)
    ·exact absurd hh (p _ _)
    ·exact I.one k v i z hv (.inr (.inr ⟨hh.1,hh.2.1,nc.rel _ _⟩))
   ·rw[o v e]at hh;exact I.one k v i z hv hh
  by_cases ei:i=j
  ·subst ei
   have e1:=qj l h0;have e2:=TE l h0;subst e1;subst e2;exact h1
  ·exact(mJ (hm i ei)).2 l
 ·rw[hc]at k
  by_cases e:v=u
  ·subst e
   rcases hh with hh|hh
   ·exact absurd hh (t _ _)
   ·exact absurd hh (p _ _)
  ·rw[o v e]at hh;exact I.pO k v i z hv hh
 ·by_cases ei:i=j
  ·subst ei
   refine⟨u,hw,h1.2.1,.inr ⟨a,gy.trans h1.2.2.symm,fun k hk=> ?_⟩⟩
   rw[adn k hk];unfold est;simp only[q];by_cases e:k=n
   ·subst e
    rw[if_pos rfl,hst];cases op<;>simp
   ·rw[if_neg e,hB k hk]
    constructor
    ·exact fun x=>.inl ⟨x,fun⟨z,hz⟩=>e hz.2.2.1⟩
    ·rintro(x|⟨z,hz⟩)
     ·exact x.1
     ·exact absurd hz.2.2.1 e
  ·rw[hm i ei]at h3 ⊢
   obtain⟨v,hv,ho,hh⟩:=I.back i hi h3;refine⟨v,hv,ho,?_⟩;by_cases ev:v=u
   ·subst ev
    rcases hh with⟨hh|hh,k⟩|⟨a,b,hh⟩
    ·exact absurd hh (nc.take _ _)
    ·exact absurd hh (nc.pend _ _)
    ·refine .inr ⟨a,b,fun k hk=> ?_⟩
     rw[(jb nc.strm _ _).1 hh k hk];unfold est;simp only[q];constructor
     ·exact fun x=>.inl ⟨x,fun⟨z,hz⟩=>ei hz.1⟩
     ·rintro(x|⟨z,hz⟩)
      ·exact x.1
      ·exact absurd hz.1 ei
   ·rw[o v ev];exact hh
 ·by_cases ev:v=u
  ·subst ev;exact absurd hp (p _ _)
  ·rw[o v ev]at hp
   have k:=I.pd v v' i z hv hu hp hq;by_cases eu:v'=u
   ·subst eu;exact absurd k (nc.rel _ _)
   ·rw[o v' eu];exact k
 ·have ev:v≠u:=fun e=>by subst e;exact p _ _ hp
  have eu:v'≠u:=fun e=>by subst e;exact p _ _ hq
  rw[o v ev]at hp;rw[o v' eu]at hq;exact I.xB v v' i z z' hv hu hp hq
 ·by_cases ev:v=u
  ·subst ev
   obtain⟨rfl,rfl,rfl,rfl⟩:=(q _ _ _ _).1 hh;exact⟨hj,hn,a,gy,hst⟩
  ·rw[o v ev]at hh
   exact I.st v i z k o' hv hh
 ·have ev:v≠u:=fun e=>by subst e;exact r _ _ hr
  rw[o v ev]at hr;have ei:i≠j:=fun e=>by subst e;exact ev (qj hl h1)
  exact I.rel v i z hv hr ((mJ (hm i ei)).1 hl)
 ·by_cases ei:i=j
  ·subst ei
   refine⟨?_,fun k hk hs=> ?_⟩
   ·cases op with
    |true=>
     have hb:(s.m.sl i).str/2^n%2≠1/\(s'.m.sl i).str=(s.m.sl i).str+2^n/\(n:Int)<c.st:=hb;rw[hb.2.1];have:(0:Int)<2^n:=Int.pow_pos (by decide)
     omega
    |false=>
     have hb:(s.m.sl i).str/2^n%2=1/\(s'.m.sl i).str=(s.m.sl i).str-2^n:=hb;rw[hb.2];have:=ah2 g0 hb.1;omega
   ·intro hh
    have hh:=(adn k hk).1 hh;by_cases e:k=n
    ·subst e
     rw[if_pos rfl]at hh;subst hh;have hb:(s.m.sl i).str/2^k%2≠1/\(s'.m.sl i).str=(s.m.sl i).str+2^k/\(k:Int)<c.st:=hb;omega
    ·rw[if_neg e]at hh
     exact gc k hk hs hh
  ·rw[hm i ei]at h3 ⊢;exact I.cap i hi h3
end
noncomputable section
open Classical
variable{c:Cn} {s s':Ms} {w:Nat} {h:Hd}
theorem XQ(I:bJ c s h)(o:zJ s s' w)(hm:s'.m=s.m)(he:eU c s'.ev=some h)(k:vM (s.ws w) (s'.ws w)):bJ c s' h:=
 lT I o k he (by rw[hm];exact id) (fun i=>.inl (by rw[hm]))
theorem aaj{j:Nat}{y:Int}(I:bJ c s h)(o:zJ s s' w)(hw:w<c.W)(hj:j<c.S)(hm:s'.m=s.m)
  (he:eU c s'.ev=some ⟨upd h.who j (w+1),upd h.gen j y,upd h.st j (fun _=>false)⟩)
  (t0:∀i z,¬takeC (s.ws w) i z) (p0:∀i z,iw (s.ws w) i z↔i=j/\z=y) (r0:∀i z,¬jw (s.ws w) i z) (q0:∀i z k op,¬ig (s.ws w) i z k op)
  (rq:∀v i z k op i' z',jw (s.ws v) i z->¬ig (s.ws v) i' z' k op) (n:iC (s'.ws w)):
  bJ c s' ⟨upd h.who j (w+1),upd h.gen j y,upd h.st j (fun _=>false)⟩:=by
 have hp0:iw (s.ws w) j y:=(p0 _ _).2 ⟨rfl,rfl⟩;have uj:∀{α:Type} (f:Nat->α) (v:α),upd f j v j=v:=fun f v=>if_pos rfl
 have un:∀{α:Type} (f:Nat->α) (v:α) {i:Nat},i≠j->upd f j v i=f i:=fun f v i e=>if_neg e
 refine⟨he,fun k v i z hv hh=> ?_,fun k v i z hv hh=> ?_,fun i hi h3=> ?_,fun v u i z hv hu hq hh=> ?_,fun v u i z z' hv hu hp hq=> ?_,fun v i z k op hv hh=> ?_,fun v i z hv hr hl=> ?_,fun i hi=> ?_,?_⟩
 ·rw[hm]at k ⊢
  by_cases e:v=w
  ·subst e
   rcases hh with hh|hh|⟨a,b,d⟩
   ·exact absurd hh (n.take _ _)
   ·exact absurd hh (n.pend _ _)
   ·by_cases ei:i=j
    ·subst ei
     have b:upd h.gen i y i=z:=b;rw[uj]at b;subst b;exact I.one k v i y hv (.inr (.inl hp0))
    ·have a:upd h.who j (v+1) i=v+1:=a
     have b:upd h.gen j y i=z:=b;rw[un _ _ ei]at a b;exact I.one k v i z hv (.inr (.inr ⟨a,b,r0 _ _⟩))
  ·rw[o v e]at hh
   rcases hh with hh|hh|⟨a,b,d⟩
   ·exact I.one k v i z hv (.inl hh)
   ·exact I.one k v i z hv (.inr (.inl hh))
   ·have a:upd h.who j (w+1) i=v+1:=a
    have b:upd h.gen j y i=z:=b;by_cases ei:i=j
    ·subst ei;rw[uj]at a;omega
    ·rw[un _ _ ei]at a b
     exact I.one k v i z hv (.inr (.inr ⟨a,b,d⟩))
 ·rw[hm]at k
  by_cases e:v=w
  ·subst e
   rcases hh with hh|hh
   ·exact absurd hh (n.take _ _)
   ·exact absurd hh (n.pend _ _)
  ·rw[o v e]at hh
   show upd h.who j (w+1) i≠v+1;by_cases ei:i=j
   ·subst ei;rw[uj];omega
   ·rw[un _ _ ei];exact I.pO k v i z hv hh
 ·rw[hm]at h3 ⊢
  obtain⟨v,hv,ho,hh⟩:=I.back i hi h3;by_cases ev:v=w
  ·subst ev
   refine⟨v,hv,ho,.inr ?_⟩;rcases hh with⟨hh|hh,k⟩|⟨a,b,hh⟩
   ·exact absurd hh (t0 _ _)
   ·obtain⟨rfl,e2⟩:=(p0 _ _).1 hh
    refine⟨uj _ _,(uj _ _).trans e2.symm,fun q hq=> ?_⟩
    rw[IV n.strm,k];show(0:Int)/2^q%2=1↔upd h.st i (fun _=>false) i q=true
    rw[uj,Int.zero_ediv];simp
   ·have ei:i≠j:=by
     intro e;subst e;exact r0 _ _ (I.pd v v i y hv hv hp0 a)
    refine⟨(un _ _ ei).trans a,(un _ _ ei).trans b,fun q hq=> ?_⟩
    rw[IV n.strm];show _↔upd h.st j (fun _=>false) i q=true
    rw[un _ _ ei];exact(jb q0 _ _).1 hh q hq
  ·refine⟨v,hv,ho,?_⟩
   rw[o v ev];rcases hh with hh|⟨a,b,hh⟩
   ·exact .inl hh
   ·have ei:i≠j:=by
     intro e;subst e;have r:=I.pd w v i y hw hv hp0 a;exact I.rel v i _ hv r ⟨h3,ho,b.symm⟩
    refine .inr ⟨(un _ _ ei).trans a,(un _ _ ei).trans b,fun q hq=> ?_⟩
    rw[hh q hq];unfold est;show _↔(upd h.st j (fun _=>false) i q=true/\_)\/_
    rw[un _ _ ei]
 ·have ev:v≠w:=fun e=>by subst e;exact n.pend _ _ hq
  rw[o v ev]at hq;have hh:upd h.who j (w+1) i=u+1:=hh;show jw (s'.ws u) i (upd h.gen j y i);by_cases ei:i=j
  ·subst ei
   exact absurd (I.xB v w i z y hv hw hq hp0) ev
  ·rw[un _ _ ei]at hh ⊢
   have k:=I.pd v u i z hv hu hq hh;by_cases eu:u=w
   ·subst eu;exact absurd k (r0 _ _)
   ·rw[o u eu];exact k
 ·have ev:v≠w:=fun e=>by subst e;exact n.pend _ _ hp
  have eu:u≠w:=fun e=>by subst e;exact n.pend _ _ hq
  rw[o v ev]at hp;rw[o u eu]at hq;exact I.xB v u i z z' hv hu hp hq
 ·have ev:v≠w:=fun e=>by subst e;exact n.strm _ _ _ _ hh
  rw[o v ev]at hh;obtain⟨a1,a2,a3,a4,a5⟩:=I.st v i z k op hv hh
  have ei:i≠j:=by
   intro e;subst e;exact rq v i _ k op i z (I.pd w v i y hw hv hp0 a3) hh
  refine⟨a1,a2,(un _ _ ei).trans a3,(un _ _ ei).trans a4,?_⟩;show upd h.st j (fun _=>false) i k=_
  rw[un _ _ ei];exact a5
 ·have ev:v≠w:=fun e=>by subst e;exact n.rel _ _ hr
  rw[o v ev]at hr;rw[hm]at hl;exact I.rel v i z hv hr hl
 ·have hi:upd h.who j (w+1) i≠0:=hi
  show i<c.S/\upd h.who j (w+1) i<=c.W;by_cases ei:i=j
  ·subst ei;rw[uj];exact⟨hj,hw⟩
  ·rw[un _ _ ei]at hi ⊢;exact I.hs i hi
 ·rw[hm];exact I.cap
theorem W9{j:Nat}{y:Int}(I:bJ c s h)(o:zJ s s' w)(hw:w<c.W)(hm:s'.m=s.m)
  (he:eU c s'.ev=some (if h.who j=w+1/\h.gen j=y then{h with who:=upd h.who j 0}else h))
  (t0:∀i z,¬takeC (s.ws w) i z) (p0:∀i z,¬iw (s.ws w) i z) (r0:∀i z,jw (s.ws w) i z↔i=j/\z=y) (q0:∀i z k op,¬ig (s.ws w) i z k op) (n:iC (s'.ws w)):
  bJ c s' (if h.who j=w+1/\h.gen j=y then{h with who:=upd h.who j 0}else h):=by
 have hr0:jw (s.ws w) j y:=(r0 _ _).2 ⟨rfl,rfl⟩;have uj:∀{α:Type} (f:Nat->α) (v:α),upd f j v j=v:=fun f v=>if_pos rfl
 have un:∀{α:Type} (f:Nat->α) (v:α) {i:Nat},i≠j->upd f j v i=f i:=fun f v i e=>if_neg e
 by_cases hh0:h.who j=w+1/\h.gen j=y
 ·rw[if_pos hh0]at he ⊢
  refine⟨he,fun k v i z hv hh=> ?_,fun k v i z hv hh=> ?_,fun i hi h3=> ?_,fun v u i z hv hu hq hh=> ?_,fun v u i z z' hv hu hp hq=> ?_,fun v i z k op hv hh=> ?_,fun v i z hv hr hl=> ?_,fun i hi=> ?_,?_⟩
  ·rw[hm]at k ⊢
   rcases hh with hh|hh|⟨a,b,d⟩
   ·by_cases e:v=w
    ·subst e;exact absurd hh (n.take _ _)
    ·rw[o v e]at hh;exact I.one k v i z hv (.inl hh)
   ·by_cases e:v=w
    ·subst e;exact absurd hh (n.pend _ _)
    ·rw[o v e]at hh;exact I.one k v i z hv (.inr (.inl hh))
   ·have a:upd h.who j 0 i=v+1:=a
    have ei:i≠j:=fun e=>by subst e;rw[uj]at a;omega
    rw[un _ _ ei]at a;refine I.one k v i z hv (.inr (.inr ⟨a,b,fun x=> ?_⟩))
    by_cases e:v=w
    ·subst e;exact ei ((r0 _ _).1 x).1
    ·rw[o v e]at d;exact d x
  ·rw[hm]at k
   show upd h.who j 0 i≠v+1;by_cases ei:i=j
   ·subst ei;rw[uj];omega
   ·rw[un _ _ ei]
    by_cases e:v=w
    ·subst e
     rcases hh with hh|hh
     ·exact absurd hh (n.take _ _)
     ·exact absurd hh (n.pend _ _)
    ·rw[o v e]at hh;exact I.pO k v i z hv hh
  ·rw[hm]at h3 ⊢
   obtain⟨v,hv,ho,hh⟩:=I.back i hi h3;refine⟨v,hv,ho,?_⟩
   have third:h.who i=v+1->h.gen i=(s.m.sl i).gen->i≠j:=by
    intro a b e;subst e;have ev:v=w:=by have:=hh0.1;omega
    subst ev;exact I.rel v i y hv hr0 ⟨h3,ho,b.symm.trans hh0.2⟩
   by_cases ev:v=w
   ·subst ev
    rcases hh with⟨hh|hh,k⟩|⟨a,b,hh⟩
    ·exact absurd hh (t0 _ _)
    ·exact absurd hh (p0 _ _)
    ·exact .inr ⟨(un _ _ (third a b)).trans a,b,(jb n.strm _ _).2 ((jb q0 _ _).1 hh)⟩
   ·rw[o v ev]
    rcases hh with hh|⟨a,b,hh⟩
    ·exact .inl hh
    ·exact .inr ⟨(un _ _ (third a b)).trans a,b,hh⟩
  ·have ev:v≠w:=fun e=>by subst e;exact n.pend _ _ hq
   rw[o v ev]at hq;have hh:upd h.who j 0 i=u+1:=hh;have ei:i≠j:=fun e=>by subst e;rw[uj]at hh;omega
   rw[un _ _ ei]at hh;have k:=I.pd v u i z hv hu hq hh;by_cases eu:u=w
   ·subst eu;exact absurd ((r0 _ _).1 k).1 ei
   ·rw[o u eu];exact k
  ·have ev:v≠w:=fun e=>by subst e;exact n.pend _ _ hp
   have eu:u≠w:=fun e=>by subst e;exact n.pend _ _ hq
   rw[o v ev]at hp;rw[o u eu]at hq;exact I.xB v u i z z' hv hu hp hq
  ·have ev:v≠w:=fun e=>by subst e;exact n.strm _ _ _ _ hh
   rw[o v ev]at hh;obtain⟨a1,a2,a3,a4,a5⟩:=I.st v i z k op hv hh;have ei:i≠j:=fun e=>by subst e;have:=hh0.1;omega
   exact⟨a1,a2,(un _ _ ei).trans a3,a4,a5⟩
  ·have ev:v≠w:=fun e=>by subst e;exact n.rel _ _ hr
   rw[o v ev]at hr;rw[hm]at hl;exact I.rel v i z hv hr hl
  ·have hi:upd h.who j 0 i≠0:=hi
   show i<c.S/\upd h.who j 0 i<=c.W;by_cases ei:i=j
   ·subst ei;rw[uj]at hi;exact absurd rfl hi
   ·rw[un _ _ ei]at hi ⊢;exact I.hs i hi
  ·rw[hm];exact I.cap
 ·rw[if_neg hh0]at he ⊢
  have nr:∀i z,h.who i=w+1->h.gen i=z->¬jw (s.ws w) i z:=by
   intro i z a b k;obtain⟨rfl,rfl⟩:=(r0 _ _).1 k;exact hh0 ⟨a,b⟩
  refine⟨he,fun k v i z hv hh=> ?_,fun k v i z hv hh=> ?_,fun i hi h3=> ?_,fun v u i z hv hu hq hh=> ?_,fun v u i z z' hv hu hp hq=> ?_,fun v i z k op hv hh=> ?_,fun v i z hv hr hl=> ?_,I.hs,?_⟩
  ·rw[hm]at k ⊢
   by_cases e:v=w
   ·subst e
    rcases hh with hh|hh|⟨a,b,d⟩
    ·exact absurd hh (n.take _ _)
    ·exact absurd hh (n.pend _ _)
    ·exact I.one k v i z hv (.inr (.inr ⟨a,b,nr _ _ a b⟩))
   ·rw[o v e]at hh;exact I.one k v i z hv hh
  ·rw[hm]at k
   by_cases e:v=w
   ·subst e
    rcases hh with hh|hh
    ·exact absurd hh (n.take _ _)
    ·exact absurd hh (n.pend _ _)
   ·rw[o v e]at hh;exact I.pO k v i z hv hh
  ·rw[hm]at h3 ⊢
   obtain⟨v,hv,ho,hh⟩:=I.back i hi h3;refine⟨v,hv,ho,?_⟩;by_cases ev:v=w
   ·subst ev
    rcases hh with⟨hh|hh,k⟩|⟨a,b,hh⟩
    ·exact absurd hh (t0 _ _)
    ·exact absurd hh (p0 _ _)
    ·exact .inr ⟨a,b,(jb n.strm _ _).2 ((jb q0 _ _).1 hh)⟩
   ·rw[o v ev];exact hh
  ·have ev:v≠w:=fun e=>by subst e;exact n.pend _ _ hq
   rw[o v ev]at hq;have k:=I.pd v u i z hv hu hq hh;by_cases eu:u=w
   ·subst eu;exact absurd k (nr _ _ hh rfl)
   ·rw[o u eu];exact k
  ·have ev:v≠w:=fun e=>by subst e;exact n.pend _ _ hp
   have eu:u≠w:=fun e=>by subst e;exact n.pend _ _ hq
   rw[o v ev]at hp;rw[o u eu]at hq;exact I.xB v u i z z' hv hu hp hq
  ·have ev:v≠w:=fun e=>by subst e;exact n.strm _ _ _ _ hh
   rw[o v ev]at hh;exact I.st v i z k op hv hh
  ·have ev:v≠w:=fun e=>by subst e;exact n.rel _ _ hr
   rw[o v ev]at hr;rw[hm]at hl;exact I.rel v i z hv hr hl
  ·rw[hm];exact I.cap
theorem WZ{j n:Nat}{y:Int}{op:Bool}(I:bJ c s h)(o:zJ s s' w)(hw:w<c.W)(hm:s'.m=s.m)
  (he:eU c s'.ev=some {h with st:=upd h.st j (upd (h.st j) n op)})
  (t0:∀i z,¬takeC (s.ws w) i z) (p0:∀i z,¬iw (s.ws w) i z) (r0:∀i z,¬jw (s.ws w) i z) (q0:∀i z k op',ig (s.ws w) i z k op'↔i=j/\z=y/\k=n/\op'=op) (nc:iC (s'.ws w)):
  bJ c s' {h with st:=upd h.st j (upd (h.st j) n op)}:=by
 have uj:∀{α:Type} (f:Nat->α) (v:α),upd f j v j=v:=fun f v=>if_pos rfl
 have un:∀{α:Type} (f:Nat->α) (v:α) {i:Nat},i≠j->upd f j v i=f i:=fun f v i e=>if_neg e
 obtain⟨b1,b2,b3,b4,b5⟩:=I.st w j y n op hw ((q0 _ _ _ _).2 ⟨rfl,rfl,rfl,rfl⟩);refine⟨he,fun k v i z hv hh=> ?_,fun k v i z hv hh=> ?_,fun i hi h3=> ?_,fun v u i z hv hu hq hh=> ?_,fun v u i z z' hv hu hp hq=> ?_,fun v i z k op' hv hh=> ?_,fun v i z hv hr hl=> ?_,I.hs,?_⟩
 ·rw[hm]at k ⊢
  by_cases e:v=w
  ·subst e
   rcases hh with hh|hh|⟨a,b,d⟩
   ·exact absurd hh (nc.take _ _)
   ·exact absurd hh (nc.pend _ _)
   ·exact I.one k v i z hv (.inr (.inr ⟨a,b,r0 _ _⟩))
  ·rw[o v e]at hh;exact I.one k v i z hv hh
 ·rw[hm]at k
  by_cases e:v=w
  ·subst e
   rcases hh with hh|hh
   ·exact absurd hh (nc.take _ _)
   ·exact absurd hh (nc.pend _ _)
  ·rw[o v e]at hh;exact I.pO k v i z hv hh
 ·rw[hm]at h3 ⊢
  obtain⟨v,hv,ho,hh⟩:=I.back i hi h3;refine⟨v,hv,ho,?_⟩;by_cases ev:v=w
  ·subst ev
   rcases hh with⟨hh|hh,k⟩|⟨a,b,hh⟩
   ·exact absurd hh (t0 _ _)
   ·exact absurd hh (p0 _ _)
   ·refine .inr ⟨a,b,fun q hq=> ?_⟩
    rw[hh q hq,IV nc.strm];unfold est;simp only[q0];show _↔upd h.st j (upd (h.st j) n op) i q=true;by_cases ei:i=j
    ·subst ei
     rw[uj];by_cases eq:q=n
     ·subst eq
      have e:upd (h.st i) q op q=op:=if_pos rfl;rw[e];constructor
      ·rintro(x|⟨z,hz⟩)
       ·cases op with
        |true=>rfl
        |false=>exact absurd ⟨y,rfl,rfl,rfl,rfl⟩ x.2
       ·exact hz.2.2.2.symm
      ·intro x
       exact .inr ⟨y,rfl,rfl,rfl,x.symm⟩
     ·have e:upd (h.st i) n op q=h.st i q:=if_neg eq
      rw[e];constructor
      ·rintro(x|⟨z,hz⟩)
       ·exact x.1
       ·exact absurd hz.2.2.1 eq
      ·exact fun x=>.inl ⟨x,fun⟨z,hz⟩=>eq hz.2.2.1⟩
    ·rw[un _ _ ei]
     constructor
     ·rintro(x|⟨z,hz⟩)
      ·exact x.1
      ·exact absurd hz.1 ei
     ·exact fun x=>.inl ⟨x,fun⟨z,hz⟩=>ei hz.1⟩
  ·rw[o v ev]
   rcases hh with hh|⟨a,b,hh⟩
   ·exact .inl hh
   ·have ei:i≠j:=fun e=>by subst e;omega
    refine .inr ⟨a,b,fun q hq=> ?_⟩
    rw[hh q hq];unfold est;show _↔(upd h.st j (upd (h.st j) n op) i q=true/\_)\/_;rw[un _ _ ei]
 ·have ev:v≠w:=fun e=>by subst e;exact nc.pend _ _ hq
  rw[o v ev]at hq;have k:=I.pd v u i z hv hu hq hh;by_cases eu:u=w
  ·subst eu;exact absurd k (r0 _ _)
  ·rw[o u eu];exact k
 ·have ev:v≠w:=fun e=>by subst e;exact nc.pend _ _ hp
  have eu:u≠w:=fun e=>by subst e;exact nc.pend _ _ hq
  rw[o v ev]at hp;rw[o u eu]at hq;exact I.xB v u i z z' hv hu hp hq
 ·have ev:v≠w:=fun e=>by subst e;exact nc.strm _ _ _ _ hh
  rw[o v ev]at hh;obtain⟨a1,a2,a3,a4,a5⟩:=I.st v i z k op' hv hh;have ei:i≠j:=fun e=>by subst e;omega
  refine⟨a1,a2,a3,a4,?_⟩;show upd h.st j (upd (h.st j) n op) i k=_;rw[un _ _ ei];exact a5
 ·have ev:v≠w:=fun e=>by subst e;exact nc.rel _ _ hr
  rw[o v ev]at hr;rw[hm]at hl;exact I.rel v i z hv hr hl
 ·rw[hm];exact I.cap
end
noncomputable section
open Classical
variable{c:Cn} {s s':Ms} {w:Nat} {h:Hd}
theorem HV{x:Wr}(h1:∀t,x.ph≠.work (.get t))(h2:∀g,x.ph≠.work (.give g))(h3:∀t a,x.ph≠.ax t none a):iC x:=
 ⟨fun _ _ ⟨t,e,_⟩=>h1 t e,fun _ _ ⟨t,a,e,_⟩=>h3 t a e,fun _ _ k=>k.elim (fun⟨g,e,_⟩=>h2 g e) (fun⟨t,a,e,_⟩=>h3 t a e),fun _ _ _ _ ⟨t,a,e,_⟩=>h3 t a e⟩
def claims(t:Tk):Prop:=t.st=.check\/t.st=.move\/t.st=.dD\/t.st=.back\/t.st=.go/\t.rt.st=.swap
theorem pK{x:Wr}{t:Tk}(hp:x.ph=.work (.get t))(i:Nat)(y:Int):takeC x i y↔claims t/\t.i=i/\t.gen=y:=by
 constructor
 ·rintro⟨t',e,k⟩
  rw[hp]at e;cases e;exact k
 ·exact fun k=>⟨t,hp,k⟩
theorem zw{x:Wr}{t:Tk}(hp:x.ph=.work (.get t)):(∀i y,¬iw x i y)/\(∀i y,¬jw x i y)/\∀i y n op,¬ig x i y n op:=by
 refine⟨fun _ _ ⟨t,a,e,_⟩=> ?_,fun _ _ k=>k.elim (fun⟨g,e,_⟩=> ?_) (fun⟨t,a,e,_⟩=> ?_),fun _ _ _ _ ⟨t,a,e,_⟩=> ?_⟩<;>(rw[hp]at e;cases e)
theorem vQ{x:Wr}{t:Tk}(hp:x.ph=.work (.get t))(n:¬claims t):iC x:=
 ⟨fun i y k=>n ((pK hp i y).1 k).1,(zw hp).1,(zw hp).2.1,(zw hp).2.2⟩
theorem nX{x:Wr}{t:Td}{a:bR}(hp:x.ph=.ax t none a)(i:Nat)(y:Int):iw x i y↔x.ask.op=0/\a.e=0/\a.slot=i/\a.gen=y:=by
 constructor
 ·rintro⟨t',a',e,k⟩;rw[hp]at e;cases e;exact k
 ·exact fun k=>⟨t,a,hp,k⟩
theorem qF{x:Wr}{t:Td}{a:bR}(hp:x.ph=.ax t none a)(i:Nat)(y:Int):jw x i y↔(x.ask.op=1\/x.ask.op=2)/\a.e=0/\x.ask.slot=i/\x.ask.gen=y:=by
 constructor
 ·rintro(⟨g,e,k⟩|⟨t',a',e,k⟩)
  ·rw[hp]at e;cases e
  ·rw[hp]at e;cases e;exact k
 ·exact fun k=>.inr ⟨t,a,hp,k⟩
theorem mQ{x:Wr}{t:Td}{a:bR}(hp:x.ph=.ax t none a)(i:Nat)(y:Int)(n:Nat)(op:Bool):ig x i y n op↔x.ask.op=(if op then 3 else 4)/\a.e=0/\x.ask.slot=i/\x.ask.gen=y/\a.strm=n:=by
 constructor
 ·rintro⟨t',a',e,k⟩;rw[hp]at e;cases e;exact k
 ·exact fun k=>⟨t,a,hp,k⟩
theorem rX{x:Wr}{t:Td}{p:Option Bool}{a:bR}(hp:x.ph=.ax t p a)(i:Nat)(y:Int):¬takeC x i y:=by
 rintro⟨t',e,_⟩;rw[hp]at e;cases e
theorem zz{x:Wr}{t:Td}{a:bR}(hp:x.ph=.ax t none a)(k:a.e≠0\/5<=x.ask.op):iC x:=by
 refine⟨rX hp,fun i y q=> ?_,fun i y q=> ?_,fun i y n op q=> ?_⟩
 ·obtain⟨q1,q2,_⟩:=(nX hp i y).1 q
  rcases k with k|k
  ·exact k q2
  ·omega
 ·obtain⟨q1,q2,_⟩:=(qF hp i y).1 q
  rcases k with k|k
  ·exact k q2
  ·omega
 ·obtain⟨q1,q2,_⟩:=(mQ hp i y n op).1 q
  rcases k with k|k
  ·exact k q2
  ·split at q1<;>omega
end
noncomputable section
open Classical
def Calm(m m':Mm):Prop:=m'.cl=m.cl/\∀i,m'.sl i=m.sl i\/(m'.sl i).st≠3/\(m.sl i).st≠3
theorem aY(m:Mm):Calm m m:=⟨rfl,fun _=>.inl rfl⟩
theorem jC{m:Mm}{j:Nat}{x n:aa}(e:m.sl j=x)(h1:n.st≠3)(h2:x.st≠3):Calm m (m.set j n):=by
 refine⟨rfl,fun i=> ?_⟩
 by_cases ei:i=j
 ·subst ei
  refine .inr ⟨?_,by rw[e];exact h2⟩
  show(upd m.sl i n i).st≠3;unfold upd;rw[if_pos rfl];exact h1
 ·refine .inl ?_
  show upd m.sl j n i=_;unfold upd;rw[if_neg ei]
inductive EY(w:Nat)(m m':Mm)(t t':Tk):Prop
 |calm:Calm m m'->(claims t'↔claims t)->t'.i=t.i->t'.gen=t.gen->t'.st≠.done->EY w m m' t t'
 |fin:Calm m m'->¬claims t->t'.st=.done->t'.e≠0->EY w m m' t t'
 |free:Calm m m'->¬claims t->¬claims t'->t'.st≠.done->EY w m m' t t'
 |NL:¬claims t->claims t'->t'.st≠.done->m'.cl=m.cl->(m.sl t'.i).st≠3->gU m' t'.i w t'.gen->(m'.sl t'.i).str=0->(∀i,i≠t'.i->m'.sl i=m.sl i)->EY w m m' t t'
 |told:m'=m->m.cl=0->claims t->t'.st=.done->t'.e=0->t'.i=t.i->t'.gen=t.gen->EY w m m' t t'
 |lost:claims t->¬claims t'->(t'.st=.done->t'.e≠0)->m'.cl=m.cl->(∀i,i≠t.i->m'.sl i=m.sl i)->
   (m'.sl t.i=m.sl t.i/\¬gU m t.i w t.gen\/gU m t.i w t.gen/\(m'.sl t.i).st≠3)->EY w m m' t t'
variable{c:Cn} {w:Nat} {m:Mm} {g:Bool} {look:Fd} {i:Nat} {wd:aa} {gen:Int} {ps:Bool} {rt:Rt} {e:Int}
theorem gD{t:Tk}(h:t.st≠.check)(h1:t.st≠.move)(h2:t.st≠.dD)(h3:t.st≠.back)(h4:t.st≠.go):¬claims t:=by
 unfold claims;rintro(k|k|k|k|k)
 ·exact h k
 ·exact h1 k
 ·exact h2 k
 ·exact h3 k
 ·exact h4 k.1
theorem ae'{j:Nat}{n:aa}{y:Int}(h1:n.st=3)(h2:n.own=w)(h3:n.gen=y):gU (m.set j n) j w y:=by
 unfold gU;have:(m.set j n).sl j=n:=if_pos rfl;rw[this];exact⟨h1,h2,h3⟩
theorem uf{j k:Nat}{n:aa}(h:k≠j):(m.set j n).sl k=m.sl k:=if_neg h
theorem wh{j:Nat}{n:aa}:(m.set j n).sl j=n:=if_pos rfl
theorem zn{t t':Tk}{j:Nat}{x n:aa}{d:Int}(hd:d=3\/d=1\/d=16/\n.st=3)(hn:az x d w 0=some n)(hm:m.sl j=x)(h0:¬claims t)(h1:claims t')(h2:t'.st≠.done)(hi:t'.i=j)(hg:t'.gen=n.gen):EY w m (m.set j n) t t':=by
 have k:=eT hn
 obtain⟨a,b,d1,d2⟩:n.st=3/\x.st≠3/\n.own=w/\n.str=0:=by
  rcases hd with rfl|rfl|⟨rfl,h3⟩
  ·have k:=k.2.2.2.1 rfl
   have o:=Pg hn;exact⟨k.2,by omega,o.1,o.2.1⟩
  ·have k:=k.2.1 rfl
   have o:=RL hn;exact⟨k.2,by omega,o.1,o.2⟩
  ·have k:=k.2.2.2.2.2.2.2.2.2.2.2.2.2.2.2.1 rfl
   have o:=Pk hn;exact⟨h3,by omega,o.1,o.2⟩
 refine .NL h0 h1 h2 rfl (by rw[hi,hm];exact b) ?_ ?_ (fun i h=> ?_)
 ·rw[hi,hg];exact ae' a d1 rfl
 ·rw[hi,wh];exact d2
 ·rw[hi]at h;exact uf h
def o9(c:Cn)(w:Nat)(m:Mm)(g:Bool)(t:Tk):Prop:=EY w m (t.step w c.S m g).2 t (t.step w c.S m g).1
theorem eZ{t t':Tk}{m':Mm}(h:t.step w c.S m g=(t',m'))(k:EY w m m' t t'):o9 c w m g t:=by unfold o9;rw[h];exact k
theorem LY:¬claims ⟨.closed,look,i,wd,gen,ps,rt,e⟩:=gD (by simp) (by simp) (by simp) (by simp) (by simp)
theorem YU:o9 c w m g ⟨.closed,look,i,wd,gen,ps,rt,e⟩:=by
 have h:(⟨.closed,look,i,wd,gen,ps,rt,e⟩:Tk).step w c.S m g=if m.cl≠0 then(⟨.done,look,i,wd,gen,ps,rt,5⟩,m)else(⟨.own,Fd.new 0 w,i,wd,gen,ps,rt,e⟩,m):=rfl
 by_cases hc:m.cl≠0
 ·rw[if_pos hc]at h
  exact eZ h (.fin (aY m) LY rfl (by show(5:Int)≠0;decide))
 ·rw[if_neg hc]at h
  exact eZ h (.free (aY m) LY (gD (by simp) (by simp) (by simp) (by simp) (by simp)) (by simp))
theorem ag9:o9 c w m g ⟨.own,look,i,wd,gen,ps,rt,e⟩:=by
 have h:=Co (c:=c) (m:=m) (w:=w) (i:=i) (wd:=wd) (gen:=gen) (ps:=ps) (rt:=rt) (e:=e) (g:=g) (look:=look) _ rfl;have n0:¬claims ⟨.own,look,i,wd,gen,ps,rt,e⟩:=gD (by simp) (by simp) (by simp) (by simp) (by simp)
 split at h
 ·exact eZ h (.free (aY m) n0 (gD (by simp) (by simp) (by simp) (by simp) (by simp)) (by simp))
 ·split at h
  ·exact eZ h (.free (aY m) n0 (gD (by simp) (by simp) (by simp) (by simp) (by simp)) (by simp))
  ·exact eZ h (.free (aY m) n0 (gD (by simp) (by simp) (by simp) (by simp) (by simp)) (by simp))
theorem ag':o9 c w m g ⟨.any,look,i,wd,gen,ps,rt,e⟩:=by
 have h:=any_eq (c:=c) (m:=m) (w:=w) (i:=i) (wd:=wd) (gen:=gen) (ps:=ps) (rt:=rt) (e:=e) (g:=g) (look:=look) _ rfl;have n0:¬claims ⟨.any,look,i,wd,gen,ps,rt,e⟩:=gD (by simp) (by simp) (by simp) (by simp) (by simp)
 split at h
 ·exact eZ h (.free (aY m) n0 (gD (by simp) (by simp) (by simp) (by simp) (by simp)) (by simp))
 ·split at h
  ·exact eZ h (.free (aY m) n0 (gD (by simp) (by simp) (by simp) (by simp) (by simp)) (by simp))
  ·exact eZ h (.free (aY m) n0 (gD (by simp) (by simp) (by simp) (by simp) (by simp)) (by simp))
theorem afl:o9 c w m g ⟨.free,look,i,wd,gen,ps,rt,e⟩:=by
 have h:=free_eq (c:=c) (m:=m) (w:=w) (i:=i) (wd:=wd) (gen:=gen) (ps:=ps) (rt:=rt) (e:=e) (g:=g) (look:=look) _ rfl;have n0:¬claims ⟨.free,look,i,wd,gen,ps,rt,e⟩:=gD (by simp) (by simp) (by simp) (by simp) (by simp)
 split at h
 ·exact eZ h (.free (aY m) n0 (gD (by simp) (by simp) (by simp) (by simp) (by simp)) (by simp))
 ·split at h
  ·exact eZ h (.fin (aY m) n0 rfl (by show(3:Int)≠0;decide))
  ·exact eZ h (.free (aY m) n0 (gD (by simp) (by simp) (by simp) (by simp) (by simp)) (by simp))
theorem Tx:¬claims ⟨.gp,look,i,wd,gen,ps,rt,e⟩:=gD (by simp) (by simp) (by simp) (by simp) (by simp)
theorem afj:o9 c w m g ⟨.gp,look,i,wd,gen,ps,rt,e⟩:=by
 have h:(⟨.gp,look,i,wd,gen,ps,rt,e⟩:Tk).step w c.S m g=match(⟨.gp,look,i,wd,gen,ps,rt,e⟩:Tk).swap w m look.at_ look.wd 3 with
  |some (t,m)=>({t with st:=.check},m)
  |none=>(⟨.own,look.again,i,wd,gen,ps,rt,e⟩,m):=rfl
 rcases lQ (w:=w) (m:=m) (t:=⟨.gp,look,i,wd,gen,ps,rt,e⟩) (i:=look.at_) (wd:=look.wd) (d:=3)with h0|⟨n,hn,hm,h0⟩
 ·rw[h0]at h
  exact eZ h (.free (aY m) Tx (gD (by simp) (by simp) (by simp) (by simp) (by simp)) (by simp))
 ·rw[h0]at h
  exact eZ h (zn (.inl rfl) hn hm Tx (.inl rfl) (by simp) rfl rfl)
theorem afo:o9 c w m g ⟨.anyS,look,i,wd,gen,ps,rt,e⟩:=by
 have h:(⟨.anyS,look,i,wd,gen,ps,rt,e⟩:Tk).step w c.S m g=match(⟨.anyS,look,i,wd,gen,ps,rt,e⟩:Tk).swap w m look.at_ look.wd 3 with
  |some (t',m)=>if look.wd.own=w then({t' with st:=.check},m)else({t' with ps:=false,look:=Fd.new 0 look.wd.own,st:=.move},m)
  |none=>(⟨.any,look.again,i,wd,gen,ps,rt,e⟩,m):=rfl
 have n0:¬claims ⟨.anyS,look,i,wd,gen,ps,rt,e⟩:=gD (by simp) (by simp) (by simp) (by simp) (by simp)
 rcases lQ (w:=w) (m:=m) (t:=⟨.anyS,look,i,wd,gen,ps,rt,e⟩) (i:=look.at_) (wd:=look.wd) (d:=3)with h0|⟨n,hn,hm,h0⟩
 ·rw[h0]at h
  exact eZ h (.free (aY m) n0 (gD (by simp) (by simp) (by simp) (by simp) (by simp)) (by simp))
 ·rw[h0]at h
  dsimp only at h;split at h
  ·exact eZ h (zn (.inl rfl) hn hm n0 (.inl rfl) (by simp) rfl rfl)
  ·exact eZ h (zn (.inl rfl) hn hm n0 (.inr (.inl rfl)) (by simp) rfl rfl)
theorem abD:o9 c w m g ⟨.dQ,look,i,wd,gen,ps,rt,e⟩:=by
 have h:(⟨.dQ,look,i,wd,gen,ps,rt,e⟩:Tk).step w c.S m g=match(⟨.dQ,look,i,wd,gen,ps,rt,e⟩:Tk).swap w m look.at_ look.wd 0 with
  |some (t,m)=>({t with st:=.bM},m)
  |none=>(⟨.free,look.again,i,wd,gen,ps,rt,e⟩,m):=rfl
 have n0:¬claims ⟨.dQ,look,i,wd,gen,ps,rt,e⟩:=gD (by simp) (by simp) (by simp) (by simp) (by simp)
 rcases lQ (w:=w) (m:=m) (t:=⟨.dQ,look,i,wd,gen,ps,rt,e⟩) (i:=look.at_) (wd:=look.wd) (d:=0)with h0|⟨n,hn,hm,h0⟩
 ·rw[h0]at h
  exact eZ h (.free (aY m) n0 (gD (by simp) (by simp) (by simp) (by simp) (by simp)) (by simp))
 ·rw[h0]at h
  have k:=(eT hn).1 rfl;exact eZ h (.free (jC hm (by omega) (by omega)) n0 (gD (by simp) (by simp) (by simp) (by simp) (by simp)) (by simp))
theorem afk:o9 c w m g ⟨.move,look,i,wd,gen,ps,rt,e⟩:=by
 have h:=yZ (c:=c) (m:=m) (w:=w) (i:=i) (wd:=wd) (gen:=gen) (ps:=ps) (rt:=rt) (e:=e) (g:=g) (look:=look) _ rfl;have c0:claims ⟨.move,look,i,wd,gen,ps,rt,e⟩:=.inr (.inl rfl);split at h
 ·split at h
  ·exact eZ h (.calm (aY m) ⟨fun _=>c0,fun _=>.inr (.inl rfl)⟩ rfl rfl (by simp))
  ·exact eZ h (.calm (aY m) ⟨fun _=>c0,fun _=>.inr (.inr (.inl rfl))⟩ rfl rfl (by simp))
 ·split at h
  ·exact eZ h (.calm (aY m) ⟨fun _=>c0,fun _=>.inl rfl⟩ rfl rfl (by simp))
  ·exact eZ h (.calm (aY m) ⟨fun _=>c0,fun _=>.inr (.inl rfl)⟩ rfl rfl (by simp))
theorem abB:o9 c w m g ⟨.dD,look,i,wd,gen,ps,rt,e⟩:=by
 have h:(⟨.dD,look,i,wd,gen,ps,rt,e⟩:Tk).step w c.S m g=match az look.wd 9 w 0 with
  |some n=>if m.sl look.at_=look.wd then(⟨.move,look.go,i,wd,gen,ps,rt,e⟩,m.set look.at_ n)else(⟨.move,look.go,i,wd,gen,ps,rt,e⟩,m)
  |none=>(⟨.move,look.go,i,wd,gen,ps,rt,e⟩,m):=rfl
 have c0:claims ⟨.dD,look,i,wd,gen,ps,rt,e⟩:=.inr (.inr (.inl rfl));split at h
 ·split at h
  ·rename_i n hn hm
   have k:=(eT hn).2.2.2.2.2.2.2.2.2.1 rfl;exact eZ h (.calm (jC hm (by omega) (by omega)) ⟨fun _=>c0,fun _=>.inr (.inl rfl)⟩ rfl rfl (by simp))
  ·exact eZ h (.calm (aY m) ⟨fun _=>c0,fun _=>.inr (.inl rfl)⟩ rfl rfl (by simp))
 ·exact eZ h (.calm (aY m) ⟨fun _=>c0,fun _=>.inr (.inl rfl)⟩ rfl rfl (by simp))
theorem afm:o9 c w m g ⟨.bM,look,i,wd,gen,ps,rt,e⟩:=by
 have h:(⟨.bM,look,i,wd,gen,ps,rt,e⟩:Tk).step w c.S m g=match(⟨.bM,look,i,wd,gen,ps,rt,e⟩:Tk).swap w m i wd (if g then 1 else 2)with
  |some (t,m)=>if g then({t with st:=.check},m)else(t.fin 6,m)
  |none=>(⟨.done,look,i,wd,gen,ps,rt,6⟩,m):=rfl
 have n0:¬claims ⟨.bM,look,i,wd,gen,ps,rt,e⟩:=gD (by simp) (by simp) (by simp) (by simp) (by simp)
 rcases lQ (w:=w) (m:=m) (t:=⟨.bM,look,i,wd,gen,ps,rt,e⟩) (i:=i) (wd:=wd) (d:=if g then 1 else 2)with h0|⟨n,hn,hm,h0⟩
 ·rw[h0]at h
  exact eZ h (.fin (aY m) n0 rfl (by show(6:Int)≠0;decide))
 ·rw[h0]at h
  dsimp only at h;cases g with
  |true=>
   rw[if_pos rfl]at h hn;exact eZ h (zn (.inr (.inl rfl)) hn hm n0 (.inl rfl) (by simp) rfl rfl)
  |false=>
   rw[if_neg (by decide)]at h hn
   have k:=(eT hn).2.2.1 rfl;exact eZ h (.fin (jC hm (by omega) (by omega)) n0 rfl (by show(6:Int)≠0;decide))
theorem abE:o9 c w m g ⟨.check,look,i,wd,gen,ps,rt,e⟩:=by
 have h:(⟨.check,look,i,wd,gen,ps,rt,e⟩:Tk).step w c.S m g=if m.cl=0 then(⟨.done,look,i,wd,gen,ps,rt,0⟩,m)else(⟨.back,look,i,wd,gen,ps,rt,e⟩,m):=rfl
 have c0:claims ⟨.check,look,i,wd,gen,ps,rt,e⟩:=.inl rfl;by_cases hc:m.cl=0
 ·rw[if_pos hc]at h
  exact eZ h (.told rfl hc c0 rfl rfl rfl rfl)
 ·rw[if_neg hc]at h
  exact eZ h (.calm (aY m) ⟨fun _=>c0,fun _=>.inr (.inr (.inr (.inl rfl)))⟩ rfl rfl (by simp))
theorem afn:o9 c w m g ⟨.back,look,i,wd,gen,ps,rt,e⟩:=by
 have h:(⟨.back,look,i,wd,gen,ps,rt,e⟩:Tk).step w c.S m g=if(m.sl i).st=3/\(m.sl i).own=w/\(m.sl i).gen=gen then(⟨.go,look,i,wd,gen,ps,Rt.new i (m.sl i),e⟩,m)else(⟨.done,look,i,wd,gen,ps,rt,5⟩,m):=rfl
 have c0:claims ⟨.back,look,i,wd,gen,ps,rt,e⟩:=.inr (.inr (.inr (.inl rfl)));by_cases hc:(m.sl i).st=3/\(m.sl i).own=w/\(m.sl i).gen=gen
 ·rw[if_pos hc]at h
  exact eZ h (.calm (aY m) ⟨fun _=>c0,fun _=>.inr (.inr (.inr (.inr ⟨rfl,rfl⟩)))⟩ rfl rfl (by simp))
 ·rw[if_neg hc]at h
  exact eZ h (.lost c0 (gD (by simp) (by simp) (by simp) (by simp) (by simp)) (fun _=>by show(5:Int)≠0;decide) rfl (fun _ _=>rfl) (.inl ⟨rfl,hc⟩))
theorem abC:o9 c w m g ⟨.grant,look,i,wd,gen,ps,rt,e⟩:=by
 have h:(⟨.grant,look,i,wd,gen,ps,rt,e⟩:Tk).step w c.S m g=(⟨.eG,look,i,m.sl i,gen,ps,rt,e⟩,m):=rfl;exact eZ h (.free (aY m) (gD (by simp) (by simp) (by simp) (by simp) (by simp)) (gD (by simp) (by simp) (by simp) (by simp) (by simp)) (by simp))
theorem YT:o9 c w m g ⟨.eG,look,i,wd,gen,ps,rt,e⟩:=by
 have h:(⟨.eG,look,i,wd,gen,ps,rt,e⟩:Tk).step w c.S m g=match az wd 16 w 0 with
  |none=>(⟨.done,look,i,wd,gen,ps,rt,5⟩,m)
  |some n=>if m.sl i=wd then(⟨if n.st=3 then .check else .bM,look,i,n,n.gen,ps,rt,e⟩,m.set i n)else(⟨.grant,look,i,wd,gen,ps,rt,e⟩,m):=rfl
 have n0:¬claims ⟨.eG,look,i,wd,gen,ps,rt,e⟩:=gD (by simp) (by simp) (by simp) (by simp) (by simp)
 split at h
 ·exact eZ h (.fin (aY m) n0 rfl (by show(5:Int)≠0;decide))
 ·split at h
  ·rename_i n hn hm
   by_cases h3:n.st=3
   ·rw[if_pos h3]at h
    exact eZ h (zn (.inr (.inr ⟨rfl,h3⟩)) hn hm n0 (.inl rfl) (by simp) rfl rfl)
   ·rw[if_neg h3]at h
    have k:=(eT hn).2.2.2.2.2.2.2.2.2.2.2.2.2.2.2.1 rfl;exact eZ h (.free (jC hm h3 (by omega)) n0 (gD (by simp) (by simp) (by simp) (by simp) (by simp)) (by simp))
  ·exact eZ h (.free (aY m) n0 (gD (by simp) (by simp) (by simp) (by simp) (by simp)) (by simp))
theorem DL{r:Rt}(h:r.st≠.swap):Calm m (r.step m).2:=by
 obtain⟨i,wd,ep,st,sw⟩:=r;cases st with
 |swap=>exact absurd rfl h
 |look=>exact aY m
 |iI=>
  unfold Rt.step;dsimp only;split
  ·split
   ·rename_i n hn hm
    have k:=(eT hn).2.2.2.2.2.2.2.2.2.2.2.2.2.2.2.2 rfl;exact jC hm (by omega) (by omega)
   ·exact aY m
  ·exact aY m
 |jk=>exact⟨rfl,fun _=>.inl rfl⟩
 |done=>exact aY m
theorem ajr(hr:pY c rt)(hi:rt.i=i)(hw:Uo w gen rt):o9 c w m g ⟨.go,look,i,wd,gen,ps,rt,e⟩:=by
 have h:(⟨.go,look,i,wd,gen,ps,rt,e⟩:Tk).step w c.S m g=if(rt.step m).1.st=.done then(if(rt.step m).1.sw then(⟨.done,look,i,wd,gen,ps,(rt.step m).1,5⟩,(rt.step m).2)else(⟨.back,look,i,wd,gen,ps,(rt.step m).1,e⟩,(rt.step m).2))else(⟨.go,look,i,wd,gen,ps,(rt.step m).1,e⟩,(rt.step m).2):=rfl
 by_cases hs:rt.st=.swap
 ·have c0:claims ⟨.go,look,i,wd,gen,ps,rt,e⟩:=.inr (.inr (.inr (.inr ⟨rfl,hs⟩)))
  obtain⟨hn,hf⟩:=hr.sw hs;obtain⟨n,hn⟩:=Option.isSome_iff_exists.1 hn;have mi:=hw.1 hs;obtain⟨ri,aA,rep,BZ,aF⟩:=rt;have hs:BZ=.swap:=hs;have hf:aF=false:=hf;have hi:ri=i:=hi;subst hs;subst hf;subst hi;have hn:az aA 11 0 4095=some n:=hn;have mi:mine w gen aA:=mi
  have er:(⟨ri,aA,rep,.swap,false⟩:Rt).step m=if m.sl ri=aA then(⟨ri,n,rep,.look,true⟩,m.set ri n)else(⟨ri,aA,rep,.done,false⟩,m):=by
   unfold Rt.step;dsimp only;rw[hn]
  rw[er]at h;by_cases hm:m.sl ri=aA
  ·rw[if_pos hm]at h
   rw[if_neg (by simp)]at h
   have k:=(eT hn).2.2.2.2.2.2.2.2.2.2.2.1 rfl;refine eZ h (.lost c0 ?_ (fun k=>by cases k) rfl (fun j hj=>uf hj) (.inr ⟨?_,?_⟩))
   ·rintro(k|k|k|k|k)
    ·cases k
    ·cases k
    ·cases k
    ·cases k
    ·cases k.2
   ·unfold gU;rw[show m.sl (⟨.go,look,ri,wd,gen,ps,⟨ri,aA,rep,.swap,false⟩,e⟩:Tk).i=aA from hm];exact mi
   ·show((m.set ri n).sl ri).st≠3
    rw[wh];omega
  ·rw[if_neg hm,if_pos rfl,if_neg (show¬false=true by decide)]at h
   exact eZ h (.calm (aY m) ⟨fun _=>c0,fun _=>.inr (.inr (.inr (.inl rfl)))⟩ rfl rfl (by simp))
 ·have n0:¬claims ⟨.go,look,i,wd,gen,ps,rt,e⟩:=by
   rintro(k|k|k|k|k)
   ·cases k
   ·cases k
   ·cases k
   ·cases k
   ·exact hs k.2
  have cm:=DL (m:=m) hs;by_cases hd:(rt.step m).1.st=.done
  ·have hsw:(rt.step m).1.sw=true:=by
    have:=hw.2 hs;obtain⟨ri,aA,rep,BZ,aF⟩:=rt;cases BZ with
    |swap=>exact absurd rfl hs
    |look=>cases hd
    |iI=>exact absurd hd (by unfold Rt.step;dsimp only;split;split<;>simp;simp)
    |jk=>exact this
    |done=>exact this
   rw[if_pos hd,if_pos hsw]at h;exact eZ h (.fin cm n0 rfl (by show(5:Int)≠0;decide))
  ·rw[if_neg hd]at h
   refine eZ h (.free cm n0 ?_ (by simp))
   rintro(k|k|k|k|k)
   ·cases k
   ·cases k
   ·cases k
   ·cases k
   ·exact(UY hw hd).2.1 k.2
theorem KM{t:Tk}(T:pW c w t)(W:Q3 w t)(hd:t.st≠.done):o9 c w m g t:=by
 obtain⟨st,look,i,wd,gen,ps,rt,e⟩:=t;cases st with
 |closed=>exact YU
 |own=>exact ag9
 |gp=>exact afj
 |any=>exact ag'
 |anyS=>exact afo
 |move=>exact afk
 |dD=>exact abB
 |free=>exact afl
 |dQ=>exact abD
 |bM=>exact afm
 |check=>exact abE
 |back=>exact afn
 |go=>exact ajr T.1 (W rfl).1 (W rfl).2
 |grant=>exact abC
 |eG=>exact YT
 |done=>exact absurd rfl hd
end
noncomputable section
open Classical
variable{c:Cn} {s s':Ms} {w:Nat} {h:Hd}
theorem zD{m m':Mm}(k:Calm m m'):(m'.cl≠2->m.cl≠2)/\∀i,m'.sl i=m.sl i\/(m'.sl i).st≠3/\(m'.cl≠2->(m.sl i).st≠3):=
 ⟨fun h=>by rw[k.1]at h;exact h,fun i=>(k.2 i).imp id fun x=>⟨x.1,fun _=>x.2⟩⟩
theorem nJ(I:bJ c s h)(o:zJ s s' w)(he:s'.ev=s.ev)(k:Calm s.m s'.m)(n:iC (s.ws w))(n':iC (s'.ws w)):bJ c s' h:=
 lT I o (n.same n') (by rw[he];exact I.tell) (zD k).1 (zD k).2
theorem qh{x':Wr}(hx:s'.ws=upd s.ws w x'):zJ s s' w/\s'.ws w=x':=by
 refine⟨fun j hj=> ?_,?_⟩
 ·rw[hx];exact if_neg hj
 ·rw[hx];exact if_pos rfl
theorem BV{t t':Tk}{x':Wr}{m':Mm}(I:bJ c s h)(hw:w<c.W)(hp:(s.ws w).ph=.work (.get t))(k:EY w s.m m' t t')(hm:s'.m=m')(hx:s'.ws=upd s.ws w x')(he:s'.ev=s.ev)
  (h1:t'.st≠.done->x'.ph=.work (.get t')) (h2:t'.st=.done->t'.e≠0->iC x') (h3:t'.st=.done->t'.e=0->∃td a,x'.ph=.ax td none a/\x'.ask.op=0/\a.e=0/\a.slot=t'.i/\a.gen=t'.gen):bJ c s' h:=by
 subst hm;obtain⟨o,ex⟩:=qh hx;have g:=zw hp;cases k with
 |calm k1 k2 k3 k4 k5=>
  have e':=h1 k5;rw[<-ex]at e';have g':=zw e';refine lT I o ⟨fun i y=> ?_,fun i y=>⟨fun k=>absurd k (g'.1 i y),fun k=>absurd k (g.1 i y)⟩,fun i y=>⟨fun k=>absurd k (g'.2.1 i y),fun k=>absurd k (g.2.1 i y)⟩,fun i y n op=>⟨fun k=>absurd k (g'.2.2 i y n op),fun k=>absurd k (g.2.2 i y n op)⟩⟩ (by rw[he];exact I.tell) (zD k1).1 (zD k1).2
  rw[pK e',pK hp,k2,k3,k4]
 |fin k1 k2 k3 k4=>exact nJ I o he k1 (vQ hp k2) (by rw[ex];exact h2 k3 k4)
 |free k1 k2 k3 k4=>
  have e':=h1 k4;rw[<-ex]at e';exact nJ I o he k1 (vQ hp k2) (vQ e' k3)
 |NL k1 k2 k3 k4 k5 k6 k7 k8=>
  have e':=h1 k3;rw[<-ex]at e';have g':=zw e';refine UU I o hw (vQ hp k1) he k4 k5 k6 k7 k8 (fun i z=> ?_) g'.1 g'.2.1 g'.2.2
  rw[pK e'];exact⟨fun q=>⟨q.2.1.symm,q.2.2.symm⟩,fun q=>⟨k2,q.1.symm,q.2.symm⟩⟩
 |told k1 k2 k3 k4 k5 k6 k7=>
  obtain⟨td,a,e',a1,a2,a3,a4⟩:=h3 k4 k5;rw[<-ex]at e' a1;refine XN (j:=t.i) (y:=t.gen) I o hw he k1 (by omega) (fun i z=> ?_) g.1 g.2.1 g.2.2 (rX e') (fun i z=> ?_) (fun i z=> ?_) (fun i z n op=> ?_)
  ·rw[pK hp]
   exact⟨fun q=>⟨q.2.1.symm,q.2.2.symm⟩,fun q=>⟨k3,q.1.symm,q.2.symm⟩⟩
  ·rw[nX e',a3,a4,k6,k7]
   exact⟨fun q=>⟨by have:=q.2.2.1;omega,q.2.2.2.symm⟩,fun q=>⟨a1,a2,by rw[q.1],q.2.symm⟩⟩
  ·rw[qF e',a1]
   rintro⟨q,_⟩;omega
  ·rw[mQ e',a1]
   rintro⟨q,_⟩;split at q<;>omega
 |lost k1 k2 k3 k4 k5 k6=>
  have n':iC (s'.ws w):=by
   by_cases hd:t'.st=.done
   ·rw[ex];exact h2 hd (k3 hd)
   ·have e':=h1 hd
    rw[<-ex]at e';exact vQ e' k2
  refine XR (j:=t.i) (y:=t.gen) I o hw he k4 (fun i z q=> ?_) g.1 g.2.1 g.2.2 n' k5 ?_
  ·have q:=(pK hp i z).1 q
   exact⟨q.2.1.symm,q.2.2.symm⟩
  ·rcases k6 with k6|k6
   ·exact .inl k6
   ·exact .inr ⟨(pK hp _ _).2 ⟨k1,rfl,rfl⟩,k6.1,k6.2⟩
end
noncomputable section
open Classical
variable{c:Cn} {s s':Ms} {w:Nat} {h:Hd}
theorem V3(x:Wr)(q:Qu):iC (x.to (.enters q)):=HV (by intro t h;cases h) (by intro t h;cases h) (by intro t a h;cases h)
theorem Wi(x:Wr)(q:Tw):iC (x.to (.counts q)):=HV (by intro t h;cases h) (by intro t h;cases h) (by intro t a h;cases h)
theorem aaO{t:Tk}(I:bJ c s h)(hw:w<c.W)(hp:(s.ws w).ph=.work (.get t))(T:pW c w t)(hd:t.st≠.done)(hop:(s.ws w).ask.op=0)(W:Q3 w t):
  bJ c (ak c w s (s.ws w) (.get t)) h:=by
 obtain⟨s1,h1,h2,h4,h3⟩:∃s1:Ms,s1.m=s.m/\s1.ws=s.ws/\s1.ev=s.ev/\ak c w s (s.ws w) (.get t)=(
   let r:=t.step w c.S s.m (decide (t.st=.bM)&&s.next.1)
   if r.1.st=.done then
    (if r.1.e=3 then(if(s.ws w).ask.wait then(s1.mem r.2).put w ((s.ws w).to (.enters Qu.enter))else(s1.mem r.2).put w ((s.ws w).to (.counts Tw.new)))
     else if r.1.e=0 then(s1.mem r.2).put w ((s.ws w).end_ ⟨0,r.1.i,r.1.gen,0,0,0,0,0⟩)else(s1.mem r.2).put w ((s.ws w).end_ (.err r.1.e)))
   else(s1.mem r.2).put w ((s.ws w).to (.work (.get r.1)))):=by
  by_cases hh:t.st=.bM
  ·refine⟨{s with wo:=s.next.2},rfl,rfl,rfl,?_⟩
   unfold ak;dsimp only;rw[if_pos hh]
  ·refine⟨s,rfl,rfl,rfl,?_⟩
   unfold ak;dsimp only;rw[if_neg hh]
 rw[h3];dsimp only;have k:=KM (m:=s.m) (g:=decide (t.st=.bM)&&s.next.1) T W hd;unfold o9 at k;generalize t.step w c.S s.m (decide (t.st=.bM)&&s.next.1)=r at*;have hws:∀x',((s1.mem r.2).put w x').ws=upd s.ws w x':=fun x'=>by show upd s1.ws w x'=_;rw[h2]
 by_cases hdn:r.1.st=.done
 ·rw[if_pos hdn]
  by_cases e3:r.1.e=3
  ·rw[if_pos e3]
   split
   ·exact BV I hw hp k rfl (hws _) h4 (fun q=>absurd hdn q) (fun _ _=>V3 _ _) (fun _ q=>by rw[e3]at q;cases q)
   ·exact BV I hw hp k rfl (hws _) h4 (fun q=>absurd hdn q) (fun _ _=>Wi _ _) (fun _ q=>by rw[e3]at q;cases q)
  ·rw[if_neg e3]
   by_cases e0:r.1.e=0
   ·rw[if_pos e0]
    exact BV I hw hp k rfl (hws _) h4 (fun q=>absurd hdn q) (fun _ q=>absurd e0 q) (fun _ _=>⟨_,_,rfl,hop,rfl,rfl,rfl⟩)
   ·rw[if_neg e0]
    exact BV I hw hp k rfl (hws _) h4 (fun q=>absurd hdn q) (fun _ _=>zz rfl (.inl e0)) (fun _ q=>absurd q e0)
 ·rw[if_neg hdn]
  exact BV I hw hp k rfl (hws _) h4 (fun _=>rfl) (fun q=>absurd q hdn) (fun q=>absurd q hdn)
end
noncomputable section
open Classical
variable{c:Cn} {s s':Ms} {w:Nat} {h:Hd} {m:Mm} {g:Bool}
theorem fV{t:Tk}(h:t.st≠.go):Q3 w t:=fun k=>absurd k h
theorem ak4{t:Tk}(W:Q3 w t)(hd:t.st≠.done):Q3 w (t.step w c.S m g).1:=by
 obtain⟨st,look,i,wd,gen,ps,rt,e⟩:=t;cases st with
 |closed=>unfold Tk.step;dsimp only;split<;>exact fV (by simp[Tk.fin,Tk.search])
 |own=>
  rw[Co _ rfl];split
  ·exact fV (by simp)
  ·split<;>exact fV (by simp)
 |any=>
  rw[any_eq _ rfl];split
  ·exact fV (by simp)
  ·split<;>exact fV (by simp)
 |free=>
  rw[free_eq _ rfl];split
  ·exact fV (by simp)
  ·split<;>exact fV (by simp)
 |move=>
  rw[yZ _ rfl];split
  ·split<;>exact fV (by simp)
  ·split<;>exact fV (by simp)
 |gp=>unfold Tk.step;dsimp only;split<;>exact fV (by simp)
 |anyS=>
  unfold Tk.step;dsimp only;split
  ·split<;>exact fV (by simp[Tk.search])
  ·exact fV (by simp)
 |dQ=>unfold Tk.step;dsimp only;split<;>exact fV (by simp)
 |dD=>
  unfold Tk.step;dsimp only;split
  ·split<;>exact fV (by simp)
  ·exact fV (by simp)
 |bM=>
  unfold Tk.step;dsimp only;split
  ·split<;>exact fV (by simp[Tk.fin])
  ·exact fV (by simp[Tk.fin])
 |check=>unfold Tk.step;dsimp only;split<;>exact fV (by simp[Tk.fin])
 |back=>
  unfold Tk.step;dsimp only;split
  ·rename_i k
   exact fun _=>⟨rfl,fun _=>k,fun q=>absurd rfl q⟩
  ·exact fV (by simp[Tk.fin])
 |go=>
  unfold Tk.step;dsimp only;split
  ·split<;>exact fV (by simp[Tk.fin])
  ·rename_i k
   obtain⟨a,b⟩:=W rfl;obtain⟨x,y,z⟩:=UY b k;exact fun _=>⟨z.trans a,x⟩
 |grant=>exact fV (by simp[Tk.step])
 |eG=>
  unfold Tk.step;dsimp only;split
  ·exact fV (by simp[Tk.fin])
  ·split
   ·refine fV ?_
    dsimp only;split<;>simp
   ·exact fV (by simp)
 |done=>exact absurd rfl hd
end
noncomputable section
open Classical
variable{c:Cn} {s s':Ms} {w:Nat} {h:Hd} {m:Mm}
theorem Ga{x:Wr}{g:Gv}(hp:x.ph=.work (.give g))(i:Nat)(y:Int):jw x i y↔g.i=i/\g.gen=y/\g.st=.go/\g.rt.sw=true:=by
 constructor
 ·rintro(⟨g',e,k⟩|⟨t,a,e,k⟩)
  ·rw[hp]at e;cases e;exact k
  ·rw[hp]at e;cases e
 ·exact fun k=>.inl ⟨g,hp,k⟩
theorem zu{x:Wr}{g:Gv}(hp:x.ph=.work (.give g)):(∀i y,¬takeC x i y)/\(∀i y,¬iw x i y)/\∀i y n op,¬ig x i y n op:=by
 refine⟨fun _ _ ⟨t,e,_⟩=> ?_,fun _ _ ⟨t,a,e,_⟩=> ?_,fun _ _ _ _ ⟨t,a,e,_⟩=> ?_⟩<;>(rw[hp]at e;cases e)
theorem sJ{x:Wr}{g:Gv}(hp:x.ph=.work (.give g))(n:¬(g.st=.go/\g.rt.sw=true)):iC x:=
 ⟨(zu hp).1,(zu hp).2.1,fun i y k=>n ((Ga hp i y).1 k).2.2,(zu hp).2.2⟩
theorem ace{x:Wr}{t:Td}{a:bR}{i:Int}{y:Int}(hp:x.ph=.ax t none a)(ho:x.ask.op=1\/x.ask.op=2)(he:a.e=0)(hs:x.ask.slot=i)(hg:x.ask.gen=y):
  (∀i y,¬takeC x i y)/\(∀i y,¬iw x i y)/\(∀j z,jw x j z↔i=j/\y=z)/\∀i y n op,¬ig x i y n op:=by
 refine⟨rX hp,fun i y k=> ?_,fun j z=> ?_,fun i y n op k=> ?_⟩
 ·have:=((nX hp i y).1 k).1;omega
 ·rw[qF hp,hs,hg]
  exact⟨fun k=>k.2.2,fun k=>⟨ho,he,k⟩⟩
 ·have:=((mQ hp i y n op).1 k).1
  split at this<;>omega
inductive Q6(c:Cn)(w:Nat)(m m':Mm)(g g':Gv):Prop
 |calm:Calm m m'->¬(g.st=.go/\g.rt.sw=true)->g'.st≠.done->¬(g'.st=.go/\g'.rt.sw=true)->Q6 c w m m' g g'
 |fin:m'=m->¬(g.st=.go/\g.rt.sw=true)->g'.st=.done->g'.e≠0->Q6 c w m m' g g'
 |back:¬(g.st=.go/\g.rt.sw=true)->0<=g.i->g.i<c.S->gU m g.i.toNat w g.gen->(m'.sl g.i.toNat).st≠3->(∀i,i≠g.i.toNat->m'.sl i=m.sl i)->m'.cl=m.cl->
   (g'.st=.done/\g'.e=0\/g'.st=.go/\g'.rt.sw=true)->Q6 c w m m' g g'
 |on:Calm m m'->g.st=.go->g.rt.sw=true->0<=g.i->g.i<c.S->(g'.st=.done/\g'.e=0\/g'.st=.go/\g'.rt.sw=true)->Q6 c w m m' g g'
def GK(c:Cn)(w:Nat)(m:Mm)(g:Gv):Prop:=Q6 c w m (g.step c w m).2 g (g.step c w m).1/\(g.step c w m).1.i=g.i/\(g.step c w m).1.gen=g.gen/\((g.step c w m).1.st≠.done->GvW c w (g.step c w m).1)
theorem ny{g g':Gv}{m':Mm}(e:g.step c w m=(g',m'))(k:Q6 c w m m' g g')(hi:g'.i=g.i)(hg:g'.gen=g.gen)(W:g'.st≠.done->GvW c w g'):GK c w m g:=by
 unfold GK;rw[e];exact⟨k,hi,hg,W⟩
theorem KS{g:Gv}(T:yJ c w g)(W:GvW c w g)(hd:g.st≠.done):GK c w m g:=by
 obtain⟨i,gen,dc,st,cl,wd,rt,e⟩:=g;cases st with
 |closed=>
  have h:(⟨i,gen,dc,.closed,cl,wd,rt,e⟩:Gv).step c w m=if m.cl=2 then(⟨i,gen,dc,.done,m.cl,wd,rt,5⟩,m)else(⟨i,gen,dc,.look,m.cl,wd,rt,e⟩,m):=rfl
  split at h
  ·exact ny h (.fin rfl (by simp) rfl (by show(5:Int)≠0;decide)) rfl rfl (fun k=>absurd rfl k)
  ·exact ny h (.calm (aY m) (by simp) (by simp) (by simp)) rfl rfl (fun _=>⟨fun k=>(by cases k),fun k=>(by cases k)⟩)
 |look=>
  have h:(⟨i,gen,dc,.look,cl,wd,rt,e⟩:Gv).step c w m=if 0<=i/\i<c.S then
    (if¬((m.sl i.toNat).st=3/\(m.sl i.toNat).own=w/\(m.sl i.toNat).gen=gen)then(⟨i,gen,dc,.done,cl,m.sl i.toNat,rt,2⟩,m)else if(m.sl i.toNat).str≠0/\dc=false then(⟨i,gen,dc,.done,cl,m.sl i.toNat,rt,8⟩,m)else
    if dc=true\/(m.sl i.toNat).brk=true\/c.u<=(m.sl i.toNat).uses\/¬(cl=(0:Int))then(⟨i,gen,dc,.go,cl,m.sl i.toNat,Rt.new i.toNat (m.sl i.toNat),e⟩,m)else(⟨i,gen,dc,.rest,cl,m.sl i.toNat,rt,e⟩,m))
   else(⟨i,gen,dc,.done,cl,wd,rt,2⟩,m):=rfl
  split at h
  ·rename_i hi
   split at h
   ·exact ny h (.fin rfl (by simp) rfl (by show(2:Int)≠0;decide)) rfl rfl (fun k=>absurd rfl k)
   ·rename_i h1
    have h1:=Decidable.not_not.1 h1;split at h
    ·exact ny h (.fin rfl (by simp) rfl (by show(8:Int)≠0;decide)) rfl rfl (fun k=>absurd rfl k)
    ·split at h
     ·exact ny h (.calm (aY m) (by simp) (by simp) (by simp[Rt.new])) rfl rfl (fun _=>⟨fun k=>(by cases k),fun _=>⟨hi.1,hi.2,rfl,fun _=>h1,fun k=>absurd rfl k⟩⟩)
     ·exact ny h (.calm (aY m) (by simp) (by simp) (by simp)) rfl rfl (fun _=>⟨fun _=>⟨hi.1,hi.2,h1⟩,fun k=>(by cases k)⟩)
  ·exact ny h (.fin rfl (by simp) rfl (by show(2:Int)≠0;decide)) rfl rfl (fun k=>absurd rfl k)
 |rest=>
  obtain⟨a,b,mi⟩:=W.1 rfl
  have h:(⟨i,gen,dc,.rest,cl,wd,rt,e⟩:Gv).step c w m=match az wd 4 w 0 with
   |some n=>if m.sl i.toNat=wd then(⟨i,gen,dc,.done,cl,wd,rt,0⟩,m.set i.toNat n)else(⟨i,gen,dc,.look,cl,wd,rt,e⟩,m)
   |none=>(⟨i,gen,dc,.look,cl,wd,rt,e⟩,m):=rfl
  split at h
  ·split at h
   ·rename_i n hn hm
    have k:=(eT hn).2.2.2.2.1 rfl;refine ny h (.back (by simp) a b ?_ ?_ (fun j hj=>uf hj) rfl (.inl ⟨rfl,rfl⟩)) rfl rfl (fun k=>absurd rfl k)
    ·unfold gU;rw[show m.sl (⟨i,gen,dc,.rest,cl,wd,rt,e⟩:Gv).i.toNat=wd from hm];exact mi
    ·show((m.set i.toNat n).sl i.toNat).st≠3
     rw[wh];omega
   ·exact ny h (.calm (aY m) (by simp) (by simp) (by simp)) rfl rfl (fun _=>⟨fun k=>(by cases k),fun k=>(by cases k)⟩)
  ·exact ny h (.calm (aY m) (by simp) (by simp) (by simp)) rfl rfl (fun _=>⟨fun k=>(by cases k),fun k=>(by cases k)⟩)
 |go=>
  obtain⟨a,b,hi,rw'⟩:0<=i/\i<c.S/\rt.i=i.toNat/\Uo w gen rt:=W.2 rfl;have T:pY c rt:=T;have h:(⟨i,gen,dc,.go,cl,wd,rt,e⟩:Gv).step c w m=if(rt.step m).1.st=.done then(if(rt.step m).1.sw then(⟨i,gen,dc,.done,cl,wd,(rt.step m).1,0⟩,(rt.step m).2)else(⟨i,gen,dc,.look,cl,wd,(rt.step m).1,e⟩,(rt.step m).2))else(⟨i,gen,dc,.go,cl,wd,(rt.step m).1,e⟩,(rt.step m).2):=rfl
  by_cases hs:rt.st=.swap
  ·obtain⟨hn,hf⟩:=T.sw hs
   obtain⟨n,hn⟩:=Option.isSome_iff_exists.1 hn;have mi:=rw'.1 hs;have rtw:=UY (m:=m) rw';obtain⟨ri,aA,rep,BZ,aF⟩:=rt;have hs:BZ=.swap:=hs;have hf:aF=false:=hf;have hi2:ri=i.toNat:=hi;clear hi;subst hs;subst hf;subst hi2;have hn:az aA 11 0 4095=some n:=hn;have mi:mine w gen aA:=mi
   have er:(⟨i.toNat,aA,rep,.swap,false⟩:Rt).step m=if m.sl i.toNat=aA then(⟨i.toNat,n,rep,.look,true⟩,m.set i.toNat n)else(⟨i.toNat,aA,rep,.done,false⟩,m):=by
    unfold Rt.step;dsimp only;rw[hn]
   rw[er]at h rtw;by_cases hm:m.sl i.toNat=aA
   ·rw[if_pos hm]at h rtw
    rw[if_neg (by simp)]at h
    have k:=(eT hn).2.2.2.2.2.2.2.2.2.2.2.1 rfl;refine ny h (.back (by simp) a b ?_ ?_ (fun j hj=>uf hj) rfl (.inr ⟨rfl,rfl⟩)) rfl rfl (fun _=>⟨fun k=>(by cases k),fun _=>⟨a,b,rfl,(rtw (by simp)).1⟩⟩)
    ·unfold gU;rw[show m.sl (⟨i,gen,dc,.go,cl,wd,⟨i.toNat,aA,rep,.swap,false⟩,e⟩:Gv).i.toNat=aA from hm];exact mi
    ·show((m.set i.toNat n).sl i.toNat).st≠3
     rw[wh];omega
   ·rw[if_neg hm,if_pos rfl,if_neg (show¬false=true by decide)]at h
    exact ny h (.calm (aY m) (by simp) (by simp) (by simp)) rfl rfl (fun _=>⟨fun k=>(by cases k),fun k=>(by cases k)⟩)
  ·have cm:=DL (m:=m) hs
   have Xr:rt.sw=true:=rw'.2 hs
   have hsw:(rt.step m).1.sw=true:=by
    obtain⟨ri,aA,rep,BZ,aF⟩:=rt;have Xr:aF=true:=Xr;subst Xr;cases BZ with
    |swap=>exact absurd rfl hs
    |look=>rfl
    |iI=>unfold Rt.step;dsimp only;split;(split<;>rfl);rfl
    |jk=>rfl
    |done=>rfl
   by_cases hd:(rt.step m).1.st=.done
   ·rw[if_pos hd,if_pos hsw]at h
    exact ny h (.on cm rfl Xr a b (.inl ⟨rfl,rfl⟩)) rfl rfl (fun k=>absurd rfl k)
   ·rw[if_neg hd]at h
    obtain⟨x,y,z⟩:=UY rw' hd;exact ny h (.on cm rfl Xr a b (.inr ⟨rfl,hsw⟩)) rfl rfl (fun _=>⟨fun k=>(by cases k),fun _=>⟨a,b,z.trans hi,x⟩⟩)
 |done=>exact absurd rfl hd
end
noncomputable section
open Classical
variable{c:Cn} {s s':Ms} {w:Nat} {h:Hd} {m:Mm}
theorem Ic{i:Int}(h0:0<=i)(k:Nat):i=(k:Int)↔k=i.toNat:=by omega
theorem Te{g g':Gv}{x':Wr}{m':Mm}(I:bJ c s h)(hw:w<c.W)(hp:(s.ws w).ph=.work (.give g))(hop:(s.ws w).ask.op=1\/(s.ws w).ask.op=2)(hi:g.i=(s.ws w).ask.slot)(hg:g.gen=(s.ws w).ask.gen)
  (k:Q6 c w s.m m' g g') (e1:g'.i=g.i) (e2:g'.gen=g.gen) (hm:s'.m=m') (hx:s'.ws=upd s.ws w x') (he:s'.ev=s.ev)
  (h1:g'.st≠.done->x'.ph=.work (.give g')) (h2:g'.st=.done->x'.ph=.ax Td.new none (.err g'.e)/\x'.ask=(s.ws w).ask):bJ c s' h:=by
 subst hm;obtain⟨o,ex⟩:=qh hx
 have relE:(g'.st=.done/\g'.e=0\/g'.st=.go/\g'.rt.sw=true)->0<=g.i->(∀i y,¬takeC (s'.ws w) i y)/\(∀i y,¬iw (s'.ws w) i y)/\(∀i y,jw (s'.ws w) i y↔i=g.i.toNat/\y=g.gen)/\∀i y n op,¬ig (s'.ws w) i y n op:=by
  intro hh h0;rcases hh with⟨q1,q2⟩|⟨q1,q2⟩
  ·obtain⟨r1,r2⟩:=h2 q1
   rw[<-ex]at r1 r2;obtain⟨a,b,d,f⟩:=ace (i:=g.i) (y:=g.gen) r1 (by rw[r2];exact hop) q2 (by rw[r2];exact hi.symm) (by rw[r2];exact hg.symm)
   refine⟨a,b,fun i y=> ?_,f⟩
   rw[d,Ic h0];exact⟨fun k=>⟨k.1,k.2.symm⟩,fun k=>⟨k.1,k.2.symm⟩⟩
  ·have r1:=h1 (by rw[q1];simp)
   rw[<-ex]at r1;obtain⟨a,b,d⟩:=zu r1;refine⟨a,b,fun i y=> ?_,d⟩
   rw[Ga r1,e1,e2,Ic h0];exact⟨fun k=>⟨k.1,k.2.1.symm⟩,fun k=>⟨k.1,k.2.symm,q1,q2⟩⟩
 cases k with
 |calm k1 k2 k3 k4=>
  have e':=h1 k3;rw[<-ex]at e';exact nJ I o he k1 (sJ hp k2) (sJ e' k4)
 |fin k1 k2 k3 k4=>
  refine nJ I o he (by rw[k1];exact aY _) (sJ hp k2) ?_
  rw[ex];exact zz (h2 k3).1 (.inl k4)
 |back k1 k2 k3 k4 k5 k6 k7 k8=>
  obtain⟨a,b,d,f⟩:=relE k8 k2;exact XT I o hw (sJ hp k1) he k7 k4 k5 k6 a b d f
 |on k1 k2 k3 k4 k5 k6=>
  obtain⟨a,b,d,f⟩:=relE k6 k4;obtain⟨a0,b0,f0⟩:=zu hp;refine lT I o ⟨fun i y=>⟨fun q=>absurd q (a i y),fun q=>absurd q (a0 i y)⟩,fun i y=>⟨fun q=>absurd q (b i y),fun q=>absurd q (b0 i y)⟩,fun i y=> ?_,fun i y n op=>⟨fun q=>absurd q (f i y n op),fun q=>absurd q (f0 i y n op)⟩⟩ (by rw[he];exact I.tell) (zD k1).1 (zD k1).2
  rw[d,Ga hp,Ic k4];exact⟨fun q=>⟨q.1,q.2.symm,k2,k3⟩,fun q=>⟨q.1,q.2.1.symm⟩⟩
theorem OT{g:Gv}(I:bJ c s h)(hw:w<c.W)(hp:(s.ws w).ph=.work (.give g))(T:yJ c w g)(hd:g.st≠.done)(W:QZ c w (s.ws w).ask (.give g)):
  bJ c (ak c w s (s.ws w) (.give g)) h:=by
 obtain⟨hop,hi,hg,W⟩:=W;obtain⟨k,e1,e2,_⟩:=KS (m:=s.m) T W hd;by_cases hdn:(g.step c w s.m).1.st=.done
 ·have e:ak c w s (s.ws w) (.give g)=(s.mem (g.step c w s.m).2).put w ((s.ws w).end_ (.err (g.step c w s.m).1.e)):=by
   unfold ak;dsimp only;rw[if_pos hdn]
  rw[e];exact Te I hw hp hop hi hg k e1 e2 rfl rfl rfl (fun q=>absurd hdn q) (fun _=>⟨rfl,rfl⟩)
 ·have e:ak c w s (s.ws w) (.give g)=(s.mem (g.step c w s.m).2).put w ((s.ws w).to (.work (.give (g.step c w s.m).1))):=by
   unfold ak;dsimp only;rw[if_neg hdn]
  rw[e];exact Te I hw hp hop hi hg k e1 e2 rfl rfl rfl (fun _=>rfl) (fun q=>absurd q hdn)
inductive ZV(c:Cn)(w:Nat)(m m':Mm)(g g':Sm):Prop
 |calm:m'=m->(g'.st=.done->g'.e≠0)->ZV c w m m' g g'
 |swap (n:Nat):g'.st=.done->g'.e=0->g'.num=n->n<8->0<=g.i->g.i<c.S->gU m g.i.toNat w g.gen->gU m' g.i.toNat w g.gen->m'.cl=m.cl->(∀i,i≠g.i.toNat->m'.sl i=m.sl i)->
   (if g.op then(m.sl g.i.toNat).str/2^n%2≠1/\(m'.sl g.i.toNat).str=(m.sl g.i.toNat).str+2^n/\(n:Int)<c.st else(m.sl g.i.toNat).str/2^n%2=1/\(m'.sl g.i.toNat).str=(m.sl g.i.toNat).str-2^n)->ZV c w m m' g g'
theorem Kg{g:Sm}(M:bQ c m)(T:Bc c w g)(W:ZU c w g)(hd:g.st≠.done):
  ZV c w m (g.step c w m).2 g (g.step c w m).1/\(g.step c w m).1.i=g.i/\(g.step c w m).1.gen=g.gen/\(g.step c w m).1.op=g.op/\((g.step c w m).1.st≠.done->ZU c w (g.step c w m).1):=by
 obtain⟨op,i,gen,n,st,wd,nx,num,e⟩:=g
 have of:∀{g':Sm} {m':Mm},(⟨op,i,gen,n,st,wd,nx,num,e⟩:Sm).step c w m=(g',m')->ZV c w m m' ⟨op,i,gen,n,st,wd,nx,num,e⟩ g'->g'.i=i->g'.gen=gen->g'.op=op->(g'.st≠.done->ZU c w g')->
   ZV c w m ((⟨op,i,gen,n,st,wd,nx,num,e⟩:Sm).step c w m).2 ⟨op,i,gen,n,st,wd,nx,num,e⟩ ((⟨op,i,gen,n,st,wd,nx,num,e⟩:Sm).step c w m).1/\((⟨op,i,gen,n,st,wd,nx,num,e⟩:Sm).step c w m).1.i=i/\((⟨op,i,gen,n,st,wd,nx,num,e⟩:Sm).step c w m).1.gen=gen/\((⟨op,i,gen,n,st,wd,nx,num,e⟩:Sm).step c w m).1.op=op/\(((⟨op,i,gen,n,st,wd,nx,num,e⟩:Sm).step c w m).1.st≠.done->ZU c w ((⟨op,i,gen,n,st,wd,nx,num,e⟩:Sm).step c w m).1):=by
  intro g' m' q a b d f u;rw[q];exact⟨a,b,d,f,u⟩
 cases st with
 |closed=>
  have q:(⟨op,i,gen,n,.closed,wd,nx,num,e⟩:Sm).step c w m=if m.cl=2 then(⟨op,i,gen,n,.done,wd,nx,num,5⟩,m)else(⟨op,i,gen,n,.look,wd,nx,num,e⟩,m):=rfl
  split at q
  ·exact of q (.calm rfl (fun _=>by show(5:Int)≠0;decide)) rfl rfl rfl (fun k=>absurd rfl k)
  ·exact of q (.calm rfl (fun k=>by cases k)) rfl rfl rfl (fun _ k=>by cases k)
 |look=>
  have q:(⟨op,i,gen,n,.look,wd,nx,num,e⟩:Sm).step c w m=if 0<=i/\i<c.S then
    (if¬((m.sl i.toNat).st=3/\(m.sl i.toNat).own=w/\(m.sl i.toNat).gen=gen)then(⟨op,i,gen,n,.done,m.sl i.toNat,nx,num,2⟩,m)else if op=true/\(m.sl i.toNat).brk=true then(⟨op,i,gen,n,.done,m.sl i.toNat,nx,num,9⟩,m)else
     match(⟨op,i,gen,n,.look,m.sl i.toNat,nx,num,e⟩:Sm).next c w (m.sl i.toNat)with
     |none=>(⟨op,i,gen,n,.done,m.sl i.toNat,nx,num,if op then 10 else 11⟩,m)
     |some y=>(⟨op,i,gen,n,.swap,m.sl i.toNat,y,if op then bA (m.sl i.toNat).str else n,e⟩,m))
   else(⟨op,i,gen,n,.done,wd,nx,num,2⟩,m):=rfl
  split at q
  ·rename_i hi
   split at q
   ·exact of q (.calm rfl (fun _=>by show(2:Int)≠0;decide)) rfl rfl rfl (fun k=>absurd rfl k)
   ·rename_i hm
    have hm:=Decidable.not_not.1 hm;split at q
    ·exact of q (.calm rfl (fun _=>by show(9:Int)≠0;decide)) rfl rfl rfl (fun k=>absurd rfl k)
    ·split at q
     ·refine of q (.calm rfl (fun _=> ?_)) rfl rfl rfl (fun k=>absurd rfl k)
      show(if op then(10:Int)else 11)≠0
      split<;>decide
     ·rename_i y hy
      exact of q (.calm rfl (fun k=>by cases k)) rfl rfl rfl (fun _ _=>⟨hi.1,hi.2,hm,hy,rfl⟩)
  ·exact of q (.calm rfl (fun _=>by show(2:Int)≠0;decide)) rfl rfl rfl (fun k=>absurd rfl k)
 |swap=>
  have q:(⟨op,i,gen,n,.swap,wd,nx,num,e⟩:Sm).step c w m=if m.sl i.toNat=wd then(⟨op,i,gen,n,.done,wd,nx,num,0⟩,m.set i.toNat nx)else(⟨op,i,gen,n,.look,wd,nx,num,e⟩,m):=rfl
  obtain⟨i0,i1,mi,hn,KO⟩:=W rfl;split at q
  ·rename_i hm
   have hm':m.sl i.toNat=wd:=hm;have F:Facts wd:=by rw[<-hm'];exact M.1 _ (by have:i<c.S:=i1;have:0<=i:=i0;omega)
   have hl:gU m i.toNat w gen:=by unfold gU;rw[hm'];exact mi
   have hset:(m.set i.toNat nx).sl i.toNat=nx:=wh;cases op with
   |true=>
    have hn:az wd 14 w c.st=some nx:=hn;have KO:num=bA wd.str:=KO;obtain⟨a,b,d,f1,f2,f3,_⟩:=Tu hn;have st3:=((eT hn).2.2.2.2.2.2.2.2.2.2.2.2.2.1 rfl).2;obtain⟨l0,l1⟩:=afa f2 F.str.1;refine of q (.swap (bA wd.str).toNat rfl rfl ?_ (by omega) i0 i1 hl ?_ rfl (fun j hj=>uf hj) ?_) rfl rfl rfl (fun k=>absurd rfl k)
    ·show num=_;rw[KO];omega
    ·unfold gU
     show((m.set i.toNat nx).sl i.toNat).st=3/\_;rw[hset];exact⟨st3,b,d.trans mi.2.2⟩
    ·show(m.sl i.toNat).str/2^(bA wd.str).toNat%2≠1/\((m.set i.toNat nx).sl i.toNat).str=(m.sl i.toNat).str+2^(bA wd.str).toNat/\((bA wd.str).toNat:Int)<c.st
     rw[hset,hm'];exact⟨l1,f3,by omega⟩
   |false=>
    have hn:az wd 15 w n=some nx:=hn;have KO:num=n:=KO;obtain⟨a,b,d,f1,f2,f3,f4,_⟩:=Tt hn;have st3:=((eT hn).2.2.2.2.2.2.2.2.2.2.2.2.2.2.1 rfl).2;refine of q (.swap n.toNat rfl rfl ?_ (by omega) i0 i1 hl ?_ rfl (fun j hj=>uf hj) ?_) rfl rfl rfl (fun k=>absurd rfl k)
    ·show num=_;rw[KO];omega
    ·unfold gU
     show((m.set i.toNat nx).sl i.toNat).st=3/\_;rw[hset];exact⟨st3,b,d.trans mi.2.2⟩
    ·show(m.sl i.toNat).str/2^n.toNat%2=1/\((m.set i.toNat nx).sl i.toNat).str=(m.sl i.toNat).str-2^n.toNat
     rw[hset,hm'];exact⟨f3,f4⟩
  ·exact of q (.calm rfl (fun k=>by cases k)) rfl rfl rfl (fun _ k=>by cases k)
 |done=>exact absurd rfl hd
theorem zS{x:Wr}{g:Sm}(hp:x.ph=.work (.strm g)):iC x:=HV (by intro t h;rw[hp]at h;cases h) (by intro t h;rw[hp]at h;cases h) (by intro t a h;rw[hp]at h;cases h)
theorem OP{g:Sm}(I:bJ c s h)(hw:w<c.W)(hp:(s.ws w).ph=.work (.strm g))(M:bQ c s.m)(T:Bc c w g)(hd:g.st≠.done)(W:QZ c w (s.ws w).ask (.strm g)):
  bJ c (ak c w s (s.ws w) (.strm g)) h:=by
 obtain⟨hop,hi,hg,W⟩:=W;obtain⟨k,e1,e2,e3,_⟩:=Kg (m:=s.m) M T W hd;by_cases hdn:(g.step c w s.m).1.st=.done
 ·have e:ak c w s (s.ws w) (.strm g)=(s.mem (g.step c w s.m).2).put w ((s.ws w).end_ ⟨(g.step c w s.m).1.e,0,0,if(g.step c w s.m).1.e=0 then(g.step c w s.m).1.num else 0,0,0,0,0⟩):=by
   unfold ak;dsimp only;rw[if_pos hdn]
  rw[e];generalize g.step c w s.m=r at*;obtain⟨o,ex⟩:=qh (s:=s) (s':=(s.mem r.2).put w ((s.ws w).end_ ⟨r.1.e,0,0,if r.1.e=0 then r.1.num else 0,0,0,0,0⟩)) (w:=w) rfl
  cases k with
  |calm k1 k2=>
   refine nJ I o rfl (by show Calm s.m r.2;rw[k1];exact aY _) (zS hp) ?_
   rw[ex];exact zz (x:=(s.ws w).end_ ⟨r.1.e,0,0,if r.1.e=0 then r.1.num else 0,0,0,0,0⟩) rfl (.inl (k2 hdn))
  |swap n k1 k2 k3 k4 k5 k6 k7 k8 k9 k10 k11=>
   refine XO (op:=g.op) I o hw (by omega:g.i.toNat<c.S) k4 (zS hp) rfl k9 k7 k8 k10 k11 (by rw[ex];exact rX rfl) (fun i y q=> ?_) (fun i y q=> ?_) (fun i y n' op'=> ?_)
   ·rw[ex]at q
    have q:=((nX (x:=(s.ws w).end_ _) rfl i y).1 q).1;have q:(s.ws w).ask.op=0:=q;rw[hop]at q;split at q<;>omega
   ·rw[ex]at q
    have q:=((qF (x:=(s.ws w).end_ _) rfl i y).1 q).1;have q:(s.ws w).ask.op=1\/(s.ws w).ask.op=2:=q;rw[hop]at q;split at q<;>omega
   ·rw[ex,mQ (x:=(s.ws w).end_ ⟨r.1.e,0,0,if r.1.e=0 then r.1.num else 0,0,0,0,0⟩) rfl i y n' op']
    show(s.ws w).ask.op=_/\r.1.e=0/\(s.ws w).ask.slot=i/\(s.ws w).ask.gen=y/\(if r.1.e=0 then r.1.num else 0)=n'↔_
    rw[if_pos k2,k3,hop, <-hi, <-hg,Ic k5];constructor
    ·rintro⟨q1,_,q3,q4,q5⟩
     refine⟨q3,q4.symm,by omega,?_⟩
     cases hgo:g.op<;>cases op'<;>simp[hgo]at q1 ⊢
    ·rintro⟨rfl,rfl,rfl,rfl⟩
     exact⟨rfl,k2,rfl,rfl,rfl⟩
 ·have e:ak c w s (s.ws w) (.strm g)=(s.mem (g.step c w s.m).2).put w ((s.ws w).to (.work (.strm (g.step c w s.m).1))):=by
   unfold ak;dsimp only;rw[if_neg hdn]
  rw[e];generalize g.step c w s.m=r at*;obtain⟨o,ex⟩:=qh (s:=s) (s':=(s.mem r.2).put w ((s.ws w).to (.work (.strm r.1)))) (w:=w) rfl;cases k with
  |calm k1 k2=>
   refine nJ I o rfl (by show Calm s.m r.2;rw[k1];exact aY _) (zS hp) ?_
   rw[ex];exact zS rfl
  |swap n k1=>exact absurd k1 hdn
end
noncomputable section
open Classical
variable{c:Cn} {s s':Ms} {w:Nat} {h:Hd} {m:Mm}
def Tm(p:Ph):Prop:=match p with| .work (.get _)=>False| .work (.give _)=>False| .ax _ none _=>False|_=>True
theorem dz{x:Wr}(h:Tm x.ph):iC x:=HV (by intro t e;rw[e]at h;exact h) (by intro t e;rw[e]at h;exact h) (by intro t a e;rw[e]at h;exact h)
theorem Kz{x:Wr}{t:Tk}(hp:x.ph=.work (.get t))(h:t.st=.closed\/t.st=.grant):iC x:=by
 refine vQ hp ?_;rcases h with h|h<;>exact gD (by rw[h];simp) (by rw[h];simp) (by rw[h];simp) (by rw[h];simp) (by rw[h];simp)
theorem Xv(x:Wr):iC (x.to (.work (bE x))):=by
 unfold bE;split
 ·split
  ·exact Kz rfl (.inr rfl)
  ·exact Kz rfl (.inl rfl)
 ·exact sJ rfl (fun k=>by cases k.1)
 ·exact sJ rfl (fun k=>by cases k.1)
 all_goals exact dz trivial
theorem lu{q:Qu}:Calm m (q.step c w m).2:=by
 have e:(q.step c w m).2.cl=m.cl/\(q.step c w m).2.sl=m.sl:=by
  obtain⟨st,ln,first,why,e⟩:=q
  unfold Qu.step;cases st<;>dsimp only
  ·split<;>exact⟨rfl,rfl⟩
  ·split<;>exact⟨rfl,rfl⟩
  ·split<;>exact⟨rfl,rfl⟩
  ·split<;>exact⟨rfl,rfl⟩
  ·split<;>exact⟨rfl,rfl⟩
  ·split<;>exact⟨rfl,rfl⟩
  ·split<;>exact⟨rfl,rfl⟩
  ·exact⟨rfl,rfl⟩
  ·exact⟨rfl,rfl⟩
 exact⟨e.1,fun i=>.inl (by rw[e.2])⟩
theorem dw{x':Wr}{m':Mm}(I:bJ c s h)(n:iC (s.ws w))(hm:s'.m=m')(hx:s'.ws=upd s.ws w x')(he:s'.ev=s.ev)(k:Calm s.m m')(n':iC x'):bJ c s' h:=by
 subst hm;obtain⟨o,ex⟩:=qh hx;exact nJ I o he k n (by rw[ex];exact n')
theorem sP{x:Wr}{a:bR}(h:5<=x.ask.op\/a.e≠0):iC (x.end_ a):=zz (x:=x.end_ a) rfl (h.elim .inr .inl)
theorem UW(I:bJ c s h)(hp:(s.ws w).ph=.work (.close none)):bJ c (ak c w s (s.ws w) (.close none)) h:=by
 obtain⟨m',e,hcl,hsl⟩:∃m':Mm,ak c w s (s.ws w) (.close none)=(s.mem m').put w ((s.ws w).to (.work (.close (some Qu.drain))))/\(m'.cl≠2->s.m.cl≠2)/\m'.sl=s.m.sl:=by
  refine⟨_,rfl,?_,?_⟩
  ·split
   ·exact fun k=>absurd rfl k
   ·split
    ·rename_i k;intro _ k2;omega
    ·exact id
  ·split
   ·rfl
   ·split<;>rfl
 rw[e];obtain⟨o,ex⟩:=qh (s:=s) (s':=(s.mem m').put w ((s.ws w).to (.work (.close (some Qu.drain))))) (w:=w) rfl;have n:iC (s.ws w):=dz (by rw[hp];trivial)
 have n':iC (((s.mem m').put w ((s.ws w).to (.work (.close (some Qu.drain))))).ws w):=by rw[ex];exact dz trivial
 exact lT I o (n.same n') I.tell hcl (fun i=>.inl (by show m'.sl i=_;rw[hsl]))
theorem OQ{r:Rp}(I:bJ c s h)(hp:(s.ws w).ph=.work (.aS r))(T:Q5 c r)(hop:5<=(s.ws w).ask.op)(W:RpW r):bJ c (ak c w s (s.ws w) (.aS r)) h:=by
 have n:iC (s.ws w):=dz (by rw[hp];trivial)
 obtain⟨st,look,many,rt⟩:=r;cases st with
 |look=>
  unfold ak;dsimp only;split
  ·exact dw I n rfl rfl rfl (aY _) (dz trivial)
  ·split
   ·exact dw I n rfl rfl rfl (aY _) (sP (.inl hop))
   ·exact dw I n rfl rfl rfl (aY _) (dz trivial)
 |ask=>
  unfold ak;dsimp only;split
  ·exact dw I n rfl rfl rfl (aY _) (dz trivial)
  ·exact dw I n rfl rfl rfl (aY _) (dz trivial)
 |mark=>
  unfold ak;dsimp only;split
  ·rename_i y hy
   split
   ·rename_i hm
    have k:=(eT hy).2.2.2.2.2.2.2.2.2.2.1 rfl;exact dw I n rfl rfl rfl (jC hm (by omega) (by omega)) (dz trivial)
   ·exact dw I n rfl rfl rfl (aY _) (dz trivial)
  ·exact dw I n rfl rfl rfl (aY _) (dz trivial)
 |dB=>
  have k:Calm s.m (rt.step s.m).2:=by
   by_cases hs:rt.st=.swap
   ·have h2:rt.wd.st=2:=W rfl hs
    obtain⟨ri,aA,rep,BZ,aF⟩:=rt;have hs:BZ=.swap:=hs;subst hs;unfold Rt.step;dsimp only;split
    ·split
     ·rename_i y hy hm
      have k:=(eT hy).2.2.2.2.2.2.2.2.2.2.2.1 rfl;have h2:aA.st=2:=h2;exact jC hm (by omega) (by omega)
     ·exact aY _
    ·exact aY _
   ·exact DL hs
  unfold ak;dsimp only;split
  ·exact dw I n rfl rfl rfl k (dz trivial)
  ·exact dw I n rfl rfl rfl k (dz trivial)
theorem XL{k:Wk}(I:bJ c s h)(hw:w<c.W)(hp:(s.ws w).ph=.work k)(M:bQ c s.m)(T:Ba c w k)(W:QZ c w (s.ws w).ask k):bJ c (ak c w s (s.ws w) k) h:=by
 cases k with
 |get t=>exact aaO I hw hp T.1 T.2 W.1 W.2
 |give g=>exact OT I hw hp T.1 T.2 W
 |strm g=>exact OP I hw hp M T.1 T.2 W
 |close d=>
  cases d with
  |none=>exact UW I hp
  |some q=>
   have hop:5<=(s.ws w).ask.op:=W;have n:iC (s.ws w):=dz (by rw[hp];trivial)
   unfold ak;dsimp only;split
   ·exact dw I n rfl rfl rfl lu (sP (.inl hop))
   ·exact dw I n rfl rfl rfl lu (dz trivial)
 |stats t=>
  have hop:5<=(s.ws w).ask.op:=W;have n:iC (s.ws w):=dz (by rw[hp];trivial)
  unfold ak;dsimp only;split
  ·exact dw I n rfl rfl rfl (aY _) (sP (.inl hop))
  ·exact dw I n rfl rfl rfl (aY _) (dz trivial)
 |aS r=>exact OQ I hp T W.1 W.2
theorem aau{t:Td}(T:pX c t)(W:MN m t):(t.step c w m).2.cl=m.cl/\∀i,(t.step c w m).2.sl i=m.sl i\/((t.step c w m).2.sl i).st≠3/\(m.cl≠2->(m.sl i).st≠3):=by
 have same:∀{m':Mm},m'.cl=m.cl->m'.sl=m.sl->m'.cl=m.cl/\∀i,m'.sl i=m.sl i\/(m'.sl i).st≠3/\(m.cl≠2->(m.sl i).st≠3):=fun e1 e2=>⟨e1,fun i=>.inl (by rw[e2])⟩
 have calm:∀{m':Mm},Calm m m'->m'.cl=m.cl/\∀i,m'.sl i=m.sl i\/(m'.sl i).st≠3/\(m.cl≠2->(m.sl i).st≠3):=fun k=>⟨k.1,fun i=>(k.2 i).imp id fun x=>⟨x.1,fun _=>x.2⟩⟩
 have swp:∀{d own:Int} {t:Td},(d=5\/d=6\/d=7\/d=8\/d=12)->∀m',t.swap m d own=some m'->Calm m m':=by
  intro d own t hd m' e;unfold Td.swap at e;split at e
  ·rename_i n hn
   split at e
   ·rename_i hm
    cases e;have k:=eT hn;rcases hd with rfl|rfl|rfl|rfl|rfl
    ·exact jC hm (by have:=k.2.2.2.2.2.1 rfl;omega) (by have:=k.2.2.2.2.2.1 rfl;omega)
    ·exact jC hm (by have:=k.2.2.2.2.2.2.1 rfl;omega) (by have:=k.2.2.2.2.2.2.1 rfl;omega)
    ·exact jC hm (by have:=k.2.2.2.2.2.2.2.1 rfl;omega) (by have:=k.2.2.2.2.2.2.2.1 rfl;omega)
    ·exact jC hm (by have:=k.2.2.2.2.2.2.2.2.1 rfl;omega) (by have:=k.2.2.2.2.2.2.2.2.1 rfl;omega)
    ·exact jC hm (by have:=k.2.2.2.2.2.2.2.2.2.2.2.2.1 rfl;omega) (by have:=k.2.2.2.2.2.2.2.2.2.2.2.2.1 rfl;omega)
   ·cases e
  ·cases e
 obtain⟨st,ep,cl,qu,look,i,wd,other,head,rt⟩:=t;cases st with
 |ep=>exact same rfl rfl
 |pin=>exact same rfl rfl
 |cl=>exact same rfl rfl
 |dL=>
  have e:=Fu (c:=c) (m:=m) (w:=w) (ep:=ep) (cl:=cl) (qu:=qu) (look:=look) (i:=i) (wd:=wd) (other:=other) (head:=head) (rt:=rt) _ rfl;rw[e];split
  ·exact same rfl rfl
  ·split<;>exact same rfl rfl
 |go=>
  rw[go_eq]
  have k:(rt.step m).2.cl=m.cl/\∀i,(rt.step m).2.sl i=m.sl i\/((rt.step m).2.sl i).st≠3/\(m.cl≠2->(m.sl i).st≠3):=by
   by_cases hs:rt.st=.swap
   ·have W2:=(W.2 rfl).2.2.2 hs
    have W2:rt.wd.st=3->m.cl=2:=W2;obtain⟨ri,aA,rep,BZ,aF⟩:=rt;have hs:BZ=.swap:=hs;subst hs;unfold Rt.step;dsimp only;split
    ·split
     ·rename_i y hy hm
      have k:=(eT hy).2.2.2.2.2.2.2.2.2.2.2.1 rfl;refine⟨rfl,fun j=> ?_⟩
      by_cases ej:j=ri
      ·subst ej
       refine .inr ⟨by show((m.set j y).sl j).st≠3;rw[wh];omega,fun hc h3=>hc (W2 ?_)⟩
       show aA.st=3;rw[<-hm];exact h3
      ·exact .inl (uf ej)
     ·exact same rfl rfl
    ·exact same rfl rfl
   ·exact calm (DL hs)
  split<;>exact k
 |old=>
  have e:=Pf (c:=c) (m:=m) (w:=w) (ep:=ep) (cl:=cl) (qu:=qu) (look:=look) (i:=i) (wd:=wd) (other:=other) (head:=head) (rt:=rt) _ rfl;rw[e];split
  ·exact same rfl rfl
  ·split<;>exact same rfl rfl
 |pins=>
  unfold Td.step;dsimp only;split<;>exact same rfl rfl
 |clear=>
  unfold Td.step;dsimp only;cases hx:(⟨.clear,ep,cl,qu,look,i,wd,other,head,rt⟩:Td).swap m 12 w with
  |none=>exact same rfl rfl
  |some m'=>exact calm (swp (.inr (.inr (.inr (.inr rfl)))) _ hx)
 |line=>
  unfold Td.step;dsimp only;split<;>exact same rfl rfl
 |some=>
  have e:=Ke (c:=c) (m:=m) (w:=w) (ep:=ep) (cl:=cl) (qu:=qu) (look:=look) (i:=i) (wd:=wd) (other:=other) (head:=head) (rt:=rt) _ rfl;rw[e];split
  ·exact same rfl rfl
  ·split<;>exact same rfl rfl
 |keep=>
  unfold Td.step;dsimp only;split
  ·rename_i m' hx
   exact calm (swp (by split;exact .inl rfl;exact .inr (.inr (.inl rfl))) _ hx)
  ·exact same rfl rfl
 |pop=>
  unfold Td.step;dsimp only;split<;>exact same rfl rfl
 |grant=>exact same rfl rfl
 |back=>exact same rfl rfl
 |dR=>
  unfold Td.step;dsimp only;split
  ·rename_i m' hx
   exact calm (swp (by split;exact .inr (.inl rfl);exact .inr (.inr (.inr (.inl rfl)))) _ hx)
  ·exact same rfl rfl
 |eO=>exact same rfl rfl
 |again=>exact same rfl rfl
 |done=>exact same rfl rfl
end
noncomputable section
open Classical
variable{c:Cn} {s s':Ms} {w:Nat} {h:Hd} {m:Mm}
theorem aaW{x:Wr}{i i':Nat}{z z':Int}{k:Nat}{op:Bool}(h1:jw x i z):¬ig x i' z' k op:=by
 rintro⟨t,a,e,ho,_⟩;rcases h1 with⟨g,e1,_⟩|⟨t1,a1,e1,ho1,_⟩
 ·rw[e]at e1;cases e1
 ·split at ho<;>omega
theorem aaU(x:Wr):iC (x.to .rest):=dz trivial
theorem tY{x:Ev}{l:List Ev}{h h':Hd}(h1:eU c l=some h)(h2:h.told c x=some h'):eU c (x::l)=some h':=by
 show(eU c l).bind (fun h=>h.told c x)=_
 rw[h1];exact h2
theorem XM{t:Td}{a:bR}(I:bJ c s h)(hw:w<c.W)(hp:(s.ws w).ph=.ax t none a)(A:Ll c (s.ws w).ask a){m':Mm}(hm:m'=s.m):
  ∃h',bJ c {(s.mem m').put w ((s.ws w).to .rest)with ev:=⟨true,w,(s.ws w).ask,a⟩::s.ev} h':=by
 subst hm;obtain⟨o,ex⟩:=qh (s:=s) (s':={(s.mem s.m).put w ((s.ws w).to .rest)with ev:=⟨true,w,(s.ws w).ask,a⟩::s.ev}) (w:=w) rfl
 have n':iC (Ms.ws {(s.mem s.m).put w ((s.ws w).to .rest)with ev:=⟨true,w,(s.ws w).ask,a⟩::s.ev} w):=by rw[ex];exact aaU _
 have plain:(a.e≠0\/5<=(s.ws w).ask.op)->h.told c ⟨true,w,(s.ws w).ask,a⟩=some h:=by
  intro k;unfold Hd.told;by_cases he:a.e≠0
  ·rw[if_pos (.inr he)]
  ·rw[if_neg (by simp;omega)]
   have k:5<=(s.ws w).ask.op:=k.elim (fun k=>absurd k he) id
   obtain⟨n,hn⟩:∃n,(s.ws w).ask.op=n+5:=⟨(s.ws w).ask.op-5,by omega⟩
   rw[hn];rfl
 by_cases hk:a.e≠0\/5<=(s.ws w).ask.op
 ·exact⟨h,XQ I o rfl (tY I.tell (plain hk)) ((zz hp hk).same n')⟩
 ·have he:a.e=0:=Classical.byContradiction fun k=>hk (.inl k)
  have hop:¬5<=(s.ws w).ask.op:=fun k=>hk (.inr k)
  obtain⟨A0,A1,A2⟩:=A he;have tk:=rX (p:=none) hp;have GI:¬((⟨true,w,(s.ws w).ask,a⟩:Ev).ended=false\/(⟨true,w,(s.ws w).ask,a⟩:Ev).ans.e≠0):=by simp[he]
  rcases(by omega:(s.ws w).ask.op=0\/((s.ws w).ask.op=1\/(s.ws w).ask.op=2)\/((s.ws w).ask.op=3\/(s.ws w).ask.op=4))with q|q|q
  ·obtain⟨s0,s1⟩:=A0 q
   refine⟨_,aaj (j:=a.slot.toNat) (y:=a.gen) I o hw (by omega) rfl (tY I.tell ?_) tk (fun i z=> ?_) (fun i z k=> ?_) (fun i z n op k=> ?_) (fun v i z n op i' z' k=>aaW k) n'⟩
   ·unfold Hd.told
    rw[if_neg GI,q];exact if_neg (show¬(a.slot<0\/(c.S:Int)<=a.slot)by omega)
   ·rw[nX hp]
    exact⟨fun k=>⟨by have:=k.2.2.1;omega,k.2.2.2.symm⟩,fun k=>⟨q,he,by omega,k.2.symm⟩⟩
   ·have:=((qF hp i z).1 k).1;omega
   ·have:=((mQ hp i z n op).1 k).1;split at this<;>omega
  ·obtain⟨s0,s1⟩:=A1 q
   refine⟨_,W9 (j:=(s.ws w).ask.slot.toNat) (y:=(s.ws w).ask.gen) I o hw rfl (tY I.tell ?_) tk (fun i z k=> ?_) (fun i z=> ?_) (fun i z n op k=> ?_) n'⟩
   ·have hh:h.has c w (s.ws w).ask↔h.who (s.ws w).ask.slot.toNat=w+1/\h.gen (s.ws w).ask.slot.toNat=(s.ws w).ask.gen:=by
     unfold Hd.has;exact⟨fun k=>k.2.2,fun k=>⟨s0,s1,k⟩⟩
    unfold Hd.told;rw[if_neg GI];rcases q with q|q
    ·rw[q]
     show some (if h.has c w (s.ws w).ask then _ else _)=_
     simp only[hh]
    ·rw[q]
     show some (if h.has c w (s.ws w).ask then _ else _)=_
     simp only[hh]
   ·have:=((nX hp i z).1 k).1;omega
   ·rw[qF hp]
    exact⟨fun k=>⟨by have:=k.2.2.1;omega,k.2.2.2.symm⟩,fun k=>⟨q,he,by omega,k.2.symm⟩⟩
   ·have:=((mQ hp i z n op).1 k).1;split at this<;>omega
  ·obtain⟨s0,s1,n0,n1⟩:=A2 q
   obtain⟨op,ho⟩:∃op:Bool,(s.ws w).ask.op=if op then 3 else 4:=by
    rcases q with q|q
    ·exact⟨true,q⟩
    ·exact⟨false,q⟩
   have hs0:ig (s.ws w) (s.ws w).ask.slot.toNat (s.ws w).ask.gen a.strm.toNat op:=(mQ hp _ _ _ _).2 ⟨ho,he,by omega,rfl,by omega⟩
   obtain⟨b1,b2,b3,b4,b5⟩:=I.st w _ _ _ _ hw hs0;refine⟨_,WZ (j:=(s.ws w).ask.slot.toNat) (n:=a.strm.toNat) (y:=(s.ws w).ask.gen) (op:=op) I o hw rfl (tY I.tell ?_) tk (fun i z k=> ?_) (fun i z k=> ?_) (fun i z n op'=> ?_) n'⟩
   ·have hh:h.has c w (s.ws w).ask:=⟨s0,s1,b3,b4⟩
    have k1:¬(¬h.has c w (s.ws w).ask\/a.strm<0\/7<a.strm):=by
     rintro(k|k|k)
     ·exact k hh
     ·omega
     ·omega
    unfold Hd.told;rw[if_neg GI];cases op with
    |true=>
     have ho:(s.ws w).ask.op=3:=ho;have b5:h.st (s.ws w).ask.slot.toNat a.strm.toNat=false:=b5;rw[ho];show(if¬h.has c w (s.ws w).ask\/a.strm<0\/7<a.strm then none else if h.st (s.ws w).ask.slot.toNat a.strm.toNat=true then none else _)=_
     rw[if_neg k1,b5];rfl
    |false=>
     have ho:(s.ws w).ask.op=4:=ho;have b5:h.st (s.ws w).ask.slot.toNat a.strm.toNat=true:=b5;rw[ho];show(if¬h.has c w (s.ws w).ask\/a.strm<0\/7<a.strm then none else if h.st (s.ws w).ask.slot.toNat a.strm.toNat=false then none else _)=_
     rw[if_neg k1,b5];rfl
   ·have:=((nX hp i z).1 k).1;omega
   ·have:=((qF hp i z).1 k).1;omega
   ·rw[mQ hp]
    constructor
    ·rintro⟨k1,k2,k3,k4,k5⟩
     refine⟨by omega,k4.symm,by omega,?_⟩
     rw[ho]at k1;cases op<;>cases op'<;>simp at k1 ⊢
    ·rintro⟨rfl,rfl,rfl,rfl⟩
     exact⟨ho,he,by omega,rfl,by omega⟩
def UE(s:Ms)(w:Nat)(p:Option Bool)(a:bR)(m':Mm):Ms:=
 match p with
 |some b=>(s.mem m').put w ((s.ws w).to (.parked b))
 |none=>{(s.mem m').put w ((s.ws w).to .rest)with ev:=⟨true,w,(s.ws w).ask,a⟩::s.ev}
theorem BM{t:Td}{p:Option Bool}{a:bR}(hp:(s.ws w).ph=.ax t p a):
  ai c s w=if(t.step c w s.m).1.st=.done then UE s w p a (t.step c w s.m).2 else(s.mem (t.step c w s.m).2).put w ((s.ws w).to (.ax (t.step c w s.m).1 p a)):=by
 unfold ai;dsimp only;rw[hp];rfl
theorem Rv{t:Td}{p:Option Bool}{a:bR}(I:bJ c s h)(hw:w<c.W)(hp:(s.ws w).ph=.ax t p a)(T:pX c t)(hd:t.st≠.done)(W:nW c s.m w (s.ws w)):
  ∃h',bJ c (ai c s w) h':=by
 unfold nW at W;rw[hp]at W;obtain⟨W1,W2⟩:=W;obtain⟨q1,q2⟩:=aau (c:=c) (w:=w) (m:=s.m) T W1
 have hq:∀{x':Wr} {e:List Ev} (s':Ms),s'.m=(t.step c w s.m).2->s'.ws=upd s.ws w x'->s'.ev=s.ev->vM (s.ws w) x'->bJ c s' h:=by
  intro x' e s' h1 h2 h3 h4;obtain⟨o,ex⟩:=qh h2;refine lT I o (by rw[ex];exact h4) (by rw[h3];exact I.tell) (by rw[h1,q1];exact id) (fun i=> ?_)
  rw[h1,q1];exact q2 i
 rw[BM hp];by_cases hdn:(t.step c w s.m).1.st=.done
 ·rw[if_pos hdn]
  cases p with
  |some b=>
   exact⟨h,hq (e:=[]) _ rfl rfl rfl ((dz (by rw[hp];trivial)).same (dz trivial))⟩
  |none=>exact XM I hw hp W2 (SY hdn hd).1
 ·rw[if_neg hdn]
  cases p with
  |some b=>exact⟨h,hq (e:=[]) _ rfl rfl rfl ((dz (by rw[hp];trivial)).same (dz trivial))⟩
  |none=>
   have e':((s.ws w).to (.ax (t.step c w s.m).1 none a)).ph=.ax (t.step c w s.m).1 none a:=rfl;refine⟨h,hq (e:=[]) _ rfl rfl rfl ⟨fun i y=>⟨fun k=>absurd k (rX e' i y),fun k=>absurd k (rX hp i y)⟩,fun i y=> ?_,fun i y=> ?_,fun i y n op=> ?_⟩⟩
   ·rw[nX e',nX hp];rfl
   ·rw[qF e',qF hp];rfl
   ·rw[mQ e',mQ hp];rfl
theorem XP(I:bJ c s h)(hw:w<c.W)(M:bQ c s.m)(X:jO c w (s.ws w))(W:nW c s.m w (s.ws w)):∃h',bJ c (ai c s w) h':=by
 have X0:=X;have W0:=W;unfold jO at X;unfold nW at W
 have leave:∀q:Qu,Dr w q->Tm (s.ws w).ph->bJ c (aV c w s (s.ws w) q) h:=by
  intro q hT hq;have n:iC (s.ws w):=dz hq;unfold aV;dsimp only;split
  ·split
   ·exact dw I n rfl rfl rfl lu (dz trivial)
   ·rename_i hd h8
    have h4:(q.step c w s.m).1.e=4:=by
     rcases(Kt (c:=c) (m:=s.m) hT).1 hd with k|k
     ·exact absurd k.1 h8
     ·exact k.1
    exact dw I n rfl rfl rfl lu (sP (.inr (by show(q.step c w s.m).1.e≠0;rw[h4];decide)))
  ·exact dw I n rfl rfl rfl lu (dz trivial)
 cases hp:(s.ws w).ph with
 |rest=>
  refine⟨h,?_⟩;have e:ai c s w=s:=by unfold ai;dsimp only;rw[hp]
  rw[e];exact I
 |pin q=>
  have n:iC (s.ws w):=dz (by rw[hp];trivial)
  cases q with
  |none=>
   have e:ai c s w=s.put w ((s.ws w).to (.pin (some s.m.ep))):=by unfold ai;dsimp only;rw[hp]
   rw[e];exact⟨h,dw I n rfl rfl rfl (aY _) (dz trivial)⟩
  |some v=>
   have e:ai c s w=(s.mem (s.m.pin w (aR (v+1)))).put w ((s.ws w).to (.work (bE (s.ws w)))):=by unfold ai;dsimp only;rw[hp]
   rw[e];exact⟨h,dw I n rfl rfl rfl ⟨rfl,fun _=>.inl rfl⟩ (Xv _)⟩
 |work k=>
  rw[hp]at X W;have e:ai c s w=ak c w s (s.ws w) k:=by unfold ai;dsimp only;rw[hp]
  rw[e];exact⟨h,XL I hw hp M X W⟩
 |counts t=>
  have n:iC (s.ws w):=dz (by rw[hp];trivial)
  have e:ai c s w=if(t.step c.S s.m).dn then(if∃y∈(t.step c.S s.m).last.getD [],fits 3 w y then s.put w ((s.ws w).to (.work (.get Tk.new)))else s.put w ((s.ws w).end_ (.err 3)))else s.put w ((s.ws w).to (.counts (t.step c.S s.m))):=by unfold ai;dsimp only;rw[hp]
  rw[e];refine⟨h,?_⟩;split
  ·split
   ·exact dw I n rfl rfl rfl (aY _) (Kz rfl (.inl rfl))
   ·exact dw I n rfl rfl rfl (aY _) (sP (.inr (by show(3:Int)≠0;decide)))
  ·exact dw I n rfl rfl rfl (aY _) (dz trivial)
 |enters q=>
  have n:iC (s.ws w):=dz (by rw[hp];trivial)
  have e:ai c s w=if(q.step c w s.m).1.st=.done then(if(q.step c w s.m).1.e=0\/(q.step c w s.m).1.e=8 then(s.mem (q.step c w s.m).2).put w ((s.ws w).to (.ax Td.new (some (decide ((q.step c w s.m).1.e=0))) (.err 0)))else(s.mem (q.step c w s.m).2).put w ((s.ws w).end_ (.err (q.step c w s.m).1.e)))else(s.mem (q.step c w s.m).2).put w ((s.ws w).to (.enters (q.step c w s.m).1)):=by unfold ai;dsimp only;rw[hp]
  rw[e];refine⟨h,?_⟩;split
  ·split
   ·exact dw I n rfl rfl rfl lu (dz trivial)
   ·rename_i k
    exact dw I n rfl rfl rfl lu (sP (.inr (fun k2=>k (.inl k2))))
  ·exact dw I n rfl rfl rfl lu (dz trivial)
 |ax t p a=>
  rw[hp]at X;exact Rv I hw hp X.1 X.2 W0
 |parked b=>
  have n:iC (s.ws w):=dz (by rw[hp];trivial)
  have e:ai c s w=if s.m.gr w≠0 then dh w s (s.ws w) none else aV c w s (s.ws w) Qu.leave:=by unfold ai;dsimp only;rw[hp]
  rw[e];refine⟨h,?_⟩;split
  ·exact dw I n rfl rfl rfl (aY _) (dz trivial)
  ·exact leave _ ⟨.inl rfl,rfl⟩ (by rw[hp];trivial)
 |wakes q=>
  have n:iC (s.ws w):=dz (by rw[hp];trivial)
  have e:ai c s w=dh w s (s.ws w) q:=by unfold ai;dsimp only;rw[hp]
  rw[e];refine⟨h,?_⟩;cases q with
  |none=>exact dw I n rfl rfl rfl (aY _) (dz trivial)
  |some g=>
   unfold dh;dsimp only;split
   ·exact dw (m':=s.m.nT w 0) I n rfl rfl rfl ⟨rfl,fun _=>.inl rfl⟩ (sP (.inr (by show(5:Int)≠0;decide)))
   ·exact dw (m':=s.m.nT w 0) I n rfl rfl rfl ⟨rfl,fun _=>.inl rfl⟩ (dz trivial)
 |leaves q=>
  have e:ai c s w=aV c w s (s.ws w) q:=by unfold ai;dsimp only;rw[hp]
  rw[e];rw[hp]at X;exact⟨h,leave _ X (by rw[hp];trivial)⟩
end
noncomputable section
open Classical
variable{c:Cn} {s s':Ms} {w:Nat} {h:Hd} {m:Mm}
def Lj(m:Mm):Prop:=0<=m.cl/\m.cl<=2
theorem BN{t:Td}:(t.step c w m).2.cl=m.cl:=by
 have swp:∀{d own:Int} {t:Td} {m':Mm},t.swap m d own=some m'->m'.cl=m.cl:=by
  intro d own t m' e;unfold Td.swap at e;split at e
  ·split at e
   ·cases e;rfl
   ·cases e
  ·cases e
 have rt:∀r:Rt,(r.step m).2.cl=m.cl:=by
  intro r;obtain⟨i,wd,ep,st,sw⟩:=r;unfold Rt.step;cases st<;>dsimp only
  ·split
   ·split<;>rfl
   ·rfl
  ·split
   ·split<;>rfl
   ·rfl
 obtain⟨st,ep,cl,qu,look,i,wd,other,head,rtt⟩:=t;unfold Td.step;cases st<;>dsimp only
 ·rfl
 ·split
  ·rfl
  ·split<;>rfl
 ·split<;>exact rt rtt
 ·split
  ·rfl
  ·split<;>rfl
 ·split<;>rfl
 ·cases hx:(⟨.clear,ep,cl,qu,look,i,wd,other,head,rtt⟩:Td).swap m 12 w with
  |none=>rfl
  |some m'=>exact swp hx
 ·split<;>rfl
 ·split
  ·rfl
  ·split<;>rfl
 ·split
  ·rename_i m' hx;exact swp hx
  ·rfl
 ·split<;>rfl
 ·rfl
 ·split
  ·rename_i m' hx;exact swp hx
  ·rfl
 ·rfl
theorem SX:MN m Td.new:=⟨fun k=>(by cases k),fun k=>(by cases k)⟩
theorem iE{t:Td}(h1:t.st≠.dL)(h2:t.st≠.go):MN m t:=⟨fun k=>absurd k h1,fun k=>absurd k h2⟩
theorem acX{m':Mm}{t:Td}(h:MN m t)(hm:m.cl=2->m'.cl=2):MN m' t:=
 ⟨fun k=>⟨(h.1 k).1,(h.1 k).2.1,fun q=>hm ((h.1 k).2.2 q)⟩,fun k=>⟨(h.2 k).1,(h.2 k).2.1,fun q=>hm ((h.2 k).2.2.1 q),fun q r=>hm ((h.2 k).2.2.2 q r)⟩⟩
theorem aao{t:Td}(C:Lj m)(T:pX c t)(W:MN m t):MN (t.step c w m).2 (t.step c w m).1:=by
 refine acX (m:=m) ?_ (by rw[BN];exact id)
 obtain⟨st,ep,cl,qu,look,i,wd,other,head,rt⟩:=t;cases st with
 |ep=>exact iE (by simp[Td.step]) (by simp[Td.step])
 |pin=>exact iE (by simp[Td.step]) (by simp[Td.step])
 |cl=>exact⟨fun _=>⟨rfl,C.2,id⟩,fun k=>by cases k⟩
 |dL=>
  have e:=Fu (c:=c) (m:=m) (w:=w) (ep:=ep) (cl:=cl) (qu:=qu) (look:=look) (i:=i) (wd:=wd) (other:=other) (head:=head) (rt:=rt) _ rfl;rw[e];obtain⟨W1,W2,W3⟩:=W.1 rfl;have W1:look.ow=cl:=W1;have W2:cl<=2:=W2;have W3:cl=2->m.cl=2:=W3;have T1:look.fd=none:=T.1;have T2:look.kd=4:=T.2
  have key:(look.step c.S m).ow=cl/\∀x,(look.step c.S m).fd=some x->x.st=3->m.cl=2:=by
   rw[KY T1];split
   ·exact⟨W1,fun x k=>by rw[T1]at k;cases k⟩
   ·split
    ·rename_i hf
     refine⟨W1,fun x k h3=> ?_⟩
     have k:some (m.sl look.at_)=some x:=k;cases k;rw[T2,W1]at hf;rcases hf with k|k
     ·omega
     ·exact W3 (by have:=k.2;omega)
    ·exact⟨W1,fun x k=>by have k:look.fd=some x:=k;rw[T1]at k;cases k⟩
  cases hx:(look.step c.S m).fd with
  |some x=>exact⟨fun k=>(by cases k),fun _=>⟨W2,key.1,W3,fun _ h3=>key.2 x hx h3⟩⟩
  |none=>
   dsimp only;split
   ·exact iE (by simp) (by simp)
   ·exact⟨fun _=>⟨key.1,W2,W3⟩,fun k=>by cases k⟩
 |go=>
  rw[go_eq];obtain⟨W1,W2,W3,W4⟩:=W.2 rfl;have W1:cl<=2:=W1;have W2:look.ow=cl:=W2;have W3:cl=2->m.cl=2:=W3;have T:pY c rt/\look.at_<c.S/\look.kd=4:=T;obtain⟨_,r2,_⟩:=vO (m:=m) T.1;split
  ·exact⟨fun _=>⟨W2,W1,W3⟩,fun k=>by cases k⟩
  ·rename_i hd
   exact⟨fun k=>(by cases k),fun _=>⟨W1,W2,W3,fun q=>absurd q (r2 hd).2⟩⟩
 |old=>
  have e:=Pf (c:=c) (m:=m) (w:=w) (ep:=ep) (cl:=cl) (qu:=qu) (look:=look) (i:=i) (wd:=wd) (other:=other) (head:=head) (rt:=rt) _ rfl;rw[e];split
  ·dsimp only
   split<;>exact iE (by simp) (by simp)
  ·split
   ·dsimp only
    split<;>exact iE (by simp) (by simp)
   ·exact iE (by simp) (by simp)
 |pins=>
  unfold Td.step;dsimp only;split
  ·exact iE (by simp) (by simp)
  ·dsimp only
   split<;>exact iE (by simp) (by simp)
 |clear=>exact iE (by simp[Td.step]) (by simp[Td.step])
 |line=>
  unfold Td.step;dsimp only;split<;>exact iE (by simp) (by simp)
 |some=>
  have e:=Ke (c:=c) (m:=m) (w:=w) (ep:=ep) (cl:=cl) (qu:=qu) (look:=look) (i:=i) (wd:=wd) (other:=other) (head:=head) (rt:=rt) _ rfl;rw[e];split
  ·exact iE (by simp) (by simp)
  ·split<;>exact iE (by simp) (by simp)
 |keep=>
  unfold Td.step;dsimp only;split<;>exact iE (by simp) (by simp)
 |pop=>
  unfold Td.step;dsimp only;split<;>exact iE (by simp) (by simp)
 |grant=>exact iE (by simp[Td.step]) (by simp[Td.step])
 |back=>
  unfold Td.step;dsimp only;split<;>exact iE (by simp) (by simp)
 |dR=>
  unfold Td.step;dsimp only;split<;>exact iE (by simp) (by simp)
 |eO=>exact iE (by simp[Td.step]) (by simp[Td.step])
 |again=>
  unfold Td.step;dsimp only;split<;>exact iE (by simp) (by simp)
 |done=>exact iE (by simp[Td.step]) (by simp[Td.step])
theorem kX{x:Wr}{a:bR}(A:Ll c x.ask a):nW c m w (x.end_ a):=⟨SX,A⟩
theorem yh{x:Ask}{a:bR}(h:a.e≠0):Ll c x a:=fun k=>absurd k h
theorem WJ{x:Ask}{a:bR}(h:5<=x.op):Ll c x a:=fun _=>⟨fun k=>by omega,fun k=>by omega,fun k=>by omega⟩
theorem ak5{t:Tk}(T:pW c w t)(h:claims t):t.i<c.S:=by
 obtain⟨st,look,i,wd,gen,ps,rt,e⟩:=t;rcases h with h|h|h|h|h
 ·have h:st=.check:=h
  subst h;exact T
 ·have h:st=.move:=h
  subst h;exact T.2
 ·have h:st=.dD:=h
  subst h;exact T.2.1
 ·have h:st=.back:=h
  subst h;exact T
 ·have h:st=.go:=h.1
  subst h;exact T.2
theorem Za(c:Cn)(w:Nat)(s:Ms)(x:Wr)(t:Tk):∃s1:Ms,s1.m=s.m/\s1.ws=s.ws/\s1.ev=s.ev/\ak c w s x (.get t)=(
   let r:=t.step w c.S s.m (decide (t.st=.bM)&&s.next.1)
   if r.1.st=.done then
    (if r.1.e=3 then(if x.ask.wait then(s1.mem r.2).put w (x.to (.enters Qu.enter))else(s1.mem r.2).put w (x.to (.counts Tw.new)))
     else if r.1.e=0 then(s1.mem r.2).put w (x.end_ ⟨0,r.1.i,r.1.gen,0,0,0,0,0⟩)else(s1.mem r.2).put w (x.end_ (.err r.1.e)))
   else(s1.mem r.2).put w (x.to (.work (.get r.1)))):=by
 by_cases hh:t.st=.bM
 ·refine⟨{s with wo:=s.next.2},rfl,rfl,rfl,?_⟩
  unfold ak;dsimp only;rw[if_pos hh]
 ·refine⟨s,rfl,rfl,rfl,?_⟩
  unfold ak;dsimp only;rw[if_neg hh]
theorem adT{k:Wk}(hp:(s.ws w).ph=.work k)(M:bQ c s.m)(T:Ba c w k)(W:QZ c w (s.ws w).ask k):nW c (ak c w s (s.ws w) k).m w ((ak c w s (s.ws w) k).ws w):=by
 have uw:∀(s':Ms) (x:Wr),(s'.put w x).ws w=x:=fun s' x=>bD s' x
 cases k with
 |get t=>
  obtain⟨hop,W⟩:=W;have kk:∀g,Q3 w (t.step w c.S s.m g).1:=fun g=>ak4 W T.2
  have ki:∀g,(t.step w c.S s.m g).1.st=.done->(t.step w c.S s.m g).1.e=0->(t.step w c.S s.m g).1.i<c.S:=by
   intro g hd he;have k:=KM (m:=s.m) (g:=g) T.1 W T.2;unfold o9 at k;cases k with
   |calm _ _ _ _ k5=>exact absurd hd k5
   |fin _ _ _ k4=>exact absurd he k4
   |free _ _ _ k4=>exact absurd hd k4
   |NL _ _ k3=>exact absurd hd k3
   |told _ _ k3 _ _ k6=>rw[k6];exact ak5 T.1 k3
   |lost _ _ k3=>exact absurd he (k3 hd)
  obtain⟨s1,_,_,_,h3⟩:=Za c w s (s.ws w) t;rw[h3];dsimp only;have kk:=kk (decide (t.st=.bM)&&s.next.1);have ki:=ki (decide (t.st=.bM)&&s.next.1);generalize t.step w c.S s.m (decide (t.st=.bM)&&s.next.1)=r at*;by_cases hd:r.1.st=.done
  ·rw[if_pos hd]
   by_cases e3:r.1.e=3
   ·rw[if_pos e3]
    split
    ·rw[uw];exact hop
    ·rw[uw];exact hop
   ·rw[if_neg e3]
    by_cases e0:r.1.e=0
    ·rw[if_pos e0,uw]
     refine kX fun _=>⟨fun _=>⟨Int.natCast_nonneg _,Int.ofNat_lt.2 (ki hd e0)⟩,fun k=> ?_,fun k=> ?_⟩
     ·rw[hop]at k;omega
     ·rw[hop]at k;omega
    ·rw[if_neg e0,uw];exact kX (yh e0)
  ·rw[if_neg hd,uw]
   exact⟨hop,kk⟩
 |give g=>
  obtain⟨hop,hi,hg,W⟩:=W;obtain⟨k,e1,e2,kW⟩:=KS (m:=s.m) T.1 W T.2;unfold ak;dsimp only;split
  ·rename_i hd
   rw[uw];by_cases he:(g.step c w s.m).1.e=0
   ·have rng:0<=g.i/\g.i<c.S:=by
     cases k with
     |calm _ _ k3=>exact absurd hd k3
     |fin _ _ _ k4=>exact absurd he k4
     |back _ k2 k3=>exact⟨k2,k3⟩
     |on _ _ _ k4 k5=>exact⟨k4,k5⟩
    rw[hi]at rng;exact kX fun _=>⟨fun k=>by omega,fun _=>rng,fun k=>by omega⟩
   ·exact kX (yh he)
  ·rename_i hd
   rw[uw];exact⟨hop,e1.trans hi,e2.trans hg,kW hd⟩
 |strm g=>
  obtain⟨hop,hi,hg,W⟩:=W;obtain⟨k,e1,e2,e3,kW⟩:=Kg (m:=s.m) M T.1 W T.2;unfold ak;dsimp only;split
  ·rename_i hd
   rw[uw];by_cases he:(g.step c w s.m).1.e=0
   ·cases k with
    |calm _ k2=>exact absurd he (k2 hd)
    |swap n _ _ k3 k4 k5 k6=>
     rw[hi]at k5 k6;refine kX fun _=>⟨fun k=>by(rw[hop]at k;split at k<;>omega),fun k=>by(rw[hop]at k;split at k<;>omega),fun _=>⟨k5,k6,?_⟩⟩
     show 0<=(if(g.step c w s.m).1.e=0 then(g.step c w s.m).1.num else 0)/\(if(g.step c w s.m).1.e=0 then(g.step c w s.m).1.num else 0)<=7
     rw[if_pos he,k3];omega
   ·exact kX (yh he)
  ·rename_i hd
   rw[uw];exact⟨by rw[e3];exact hop,e1.trans hi,e2.trans hg,kW hd⟩
 |close d=>
  have hop:5<=(s.ws w).ask.op:=W;cases d with
  |none=>
   unfold ak;dsimp only;rw[uw];exact hop
  |some q=>
   unfold ak;dsimp only;split
   ·rw[uw];exact kX (WJ hop)
   ·rw[uw];exact hop
 |stats t=>
  have hop:5<=(s.ws w).ask.op:=W;unfold ak;dsimp only;split
  ·rw[uw];exact kX (WJ hop)
  ·rw[uw];exact hop
 |aS r=>
  obtain⟨hop,W⟩:=W;obtain⟨st,look,many,rt⟩:=r;cases st with
  |look=>
   unfold ak;dsimp only;split
   ·rw[uw];exact⟨hop,fun k=>by cases k⟩
   ·split
    ·rw[uw];exact kX (WJ hop)
    ·rw[uw];exact⟨hop,fun k=>by cases k⟩
  |ask=>
   unfold ak;dsimp only;split
   ·rw[uw];exact⟨hop,fun k=>by cases k⟩
   ·rw[uw];exact⟨hop,fun _ _=>T.2.2.2.2⟩
  |mark=>
   unfold ak;dsimp only;split
   ·split
    ·rw[uw];exact⟨hop,fun k=>by cases k⟩
    ·rw[uw];exact⟨hop,fun k=>by cases k⟩
   ·rw[uw];exact⟨hop,fun k=>by cases k⟩
  |dB=>
   unfold ak;dsimp only;split
   ·rw[uw];exact⟨hop,fun k=>by cases k⟩
   ·rename_i hd
    rw[uw];have T:pY c rt:=T.2.2.2;obtain⟨_,r2,_⟩:=vO (m:=s.m) T;exact⟨hop,fun _ q=>absurd q (r2 hd).2⟩
end
noncomputable section
open Classical
variable{c:Cn} {s s':Ms} {w:Nat} {h:Hd} {m:Mm}
def Rc(m m':Mm):Prop:=m'.cl=m.cl\/(m.cl≠2\/m'.cl=2)/\(m'.cl=1\/m'.cl=2)
theorem ai0(r:Rt):(r.step m).2.cl=m.cl:=by
 obtain⟨i,wd,ep,st,sw⟩:=r;unfold Rt.step;cases st<;>dsimp only
 ·split
  ·split<;>rfl
  ·rfl
 ·split
  ·split<;>rfl
  ·rfl
theorem afG{k:Wk}(hp:(s.ws w).ph=.work k)(M:bQ c s.m)(T:Ba c w k)(W:QZ c w (s.ws w).ask k):Rc s.m (ak c w s (s.ws w) k).m:=by
 cases k with
 |get t=>
  obtain⟨s1,_,_,_,h3⟩:=Za c w s (s.ws w) t;rw[h3];dsimp only;have k:=KM (m:=s.m) (g:=decide (t.st=.bM)&&s.next.1) T.1 W.2 T.2;unfold o9 at k;generalize t.step w c.S s.m (decide (t.st=.bM)&&s.next.1)=r at*
  have:r.2.cl=s.m.cl:=by
   cases k with
   |calm k1=>exact k1.1
   |fin k1=>exact k1.1
   |free k1=>exact k1.1
   |NL _ _ _ k4=>exact k4
   |told k1=>rw[k1]
   |lost _ _ _ k4=>exact k4
  left;split
  ·split
   ·split<;>exact this
   ·split<;>exact this
  ·exact this
 |give g=>
  obtain⟨k,_⟩:=KS (m:=s.m) T.1 W.2.2.2 T.2
  have:(g.step c w s.m).2.cl=s.m.cl:=by
   cases k with
   |calm k1=>exact k1.1
   |fin k1=>rw[k1]
   |back _ _ _ _ _ _ k7=>exact k7
   |on k1=>exact k1.1
  left;unfold ak;dsimp only;split<;>exact this
 |strm g=>
  obtain⟨k,_⟩:=Kg (m:=s.m) M T.1 W.2.2.2 T.2
  have:(g.step c w s.m).2.cl=s.m.cl:=by
   cases k with
   |calm k1=>rw[k1]
   |swap n _ _ _ _ _ _ _ _ k9=>exact k9
  left;unfold ak;dsimp only;split<;>exact this
 |close d=>
  cases d with
  |none=>
   unfold ak;dsimp only;by_cases hf:(s.ws w).ask.force=true
   ·rw[if_pos hf]
    exact .inr ⟨.inr rfl,.inr rfl⟩
   ·rw[if_neg hf]
    by_cases h0:s.m.cl=0
    ·rw[if_pos h0]
     exact .inr ⟨.inl (by omega),.inl rfl⟩
    ·rw[if_neg h0];exact .inl rfl
  |some q=>
   have:=(lu (c:=c) (w:=w) (m:=s.m) (q:=q)).1;left;unfold ak;dsimp only;split<;>exact this
 |stats t=>
  left;unfold ak;dsimp only;split<;>rfl
 |aS r=>
  left;obtain⟨st,look,many,rt⟩:=r;unfold ak;cases st<;>dsimp only
  ·split
   ·rfl
   ·split<;>rfl
  ·split<;>rfl
  ·split
   ·split<;>rfl
   ·rfl
  ·split<;>exact ai0 rt
theorem afH(hc:aQ s w)(M:bQ c s.m)(X:jO c w (s.ws w))(W:nW c s.m w (s.ws w)):Rc s.m (ai c s w).m:=by
 have leave:∀q:Qu,Rc s.m (aV c w s (s.ws w) q).m:=by
  intro q;have:=(lu (c:=c) (w:=w) (m:=s.m) (q:=q)).1;left;unfold aV;dsimp only;split
  ·split<;>exact this
  ·exact this
 have wake:∀q,Rc s.m (dh w s (s.ws w) q).m:=by
  intro q;left;unfold dh;cases q with
  |none=>rfl
  |some g=>dsimp only;split<;>rfl
 unfold jO at X;unfold nW at W;cases hp:(s.ws w).ph with
 |rest=>unfold aQ at hc;rw[hp]at hc;exact hc.elim
 |pin q=>
  cases q with
  |none=>
   have e:ai c s w=s.put w ((s.ws w).to (.pin (some s.m.ep))):=by unfold ai;dsimp only;rw[hp]
   rw[e];exact .inl rfl
  |some v=>
   have e:ai c s w=(s.mem (s.m.pin w (aR (v+1)))).put w ((s.ws w).to (.work (bE (s.ws w)))):=by unfold ai;dsimp only;rw[hp]
   rw[e];exact .inl rfl
 |work k=>
  rw[hp]at X W;have e:ai c s w=ak c w s (s.ws w) k:=by unfold ai;dsimp only;rw[hp]
  rw[e];exact afG hp M X W
 |counts t=>
  have e:ai c s w=if(t.step c.S s.m).dn then(if∃y∈(t.step c.S s.m).last.getD [],fits 3 w y then s.put w ((s.ws w).to (.work (.get Tk.new)))else s.put w ((s.ws w).end_ (.err 3)))else s.put w ((s.ws w).to (.counts (t.step c.S s.m))):=by unfold ai;dsimp only;rw[hp]
  rw[e];left;split
  ·split<;>rfl
  ·rfl
 |enters q=>
  have e:ai c s w=if(q.step c w s.m).1.st=.done then(if(q.step c w s.m).1.e=0\/(q.step c w s.m).1.e=8 then(s.mem (q.step c w s.m).2).put w ((s.ws w).to (.ax Td.new (some (decide ((q.step c w s.m).1.e=0))) (.err 0)))else(s.mem (q.step c w s.m).2).put w ((s.ws w).end_ (.err (q.step c w s.m).1.e)))else(s.mem (q.step c w s.m).2).put w ((s.ws w).to (.enters (q.step c w s.m).1)):=by unfold ai;dsimp only;rw[hp]
  rw[e];have:=(lu (c:=c) (w:=w) (m:=s.m) (q:=q)).1;left;split
  ·split<;>exact this
  ·exact this
 |ax t p a=>
  rw[BM hp];left;split
  ·unfold UE
   split<;>exact BN
  ·exact BN
 |parked b=>
  have e:ai c s w=if s.m.gr w≠0 then dh w s (s.ws w) none else aV c w s (s.ws w) Qu.leave:=by unfold ai;dsimp only;rw[hp]
  rw[e];split
  ·exact wake _
  ·exact leave _
 |wakes q=>
  have e:ai c s w=dh w s (s.ws w) q:=by unfold ai;dsimp only;rw[hp]
  rw[e];exact wake _
 |leaves q=>
  have e:ai c s w=aV c w s (s.ws w) q:=by unfold ai;dsimp only;rw[hp]
  rw[e];exact leave _
theorem afX{m m':Mm}{x:Wr}(h:nW c m w x)(hm:m.cl=2->m'.cl=2):nW c m' w x:=by
 unfold nW at h ⊢;split at h<;>try exact h
 exact⟨acX h.1 hm,h.2⟩
theorem adU(hc:aQ s w)(M:bQ c s.m)(C:Lj s.m)(X:jO c w (s.ws w))(W:nW c s.m w (s.ws w)):nW c (ai c s w).m w ((ai c s w).ws w):=by
 have uw:∀(s':Ms) (x:Wr),(s'.put w x).ws w=x:=fun s' x=>bD s' x
 have op0:∀{e:Int},(s.ws w).ask.op=0->e≠0->Ll c (s.ws w).ask (.err e):=fun _ h=>yh h
 have leave:∀q:Qu,Dr w q->(s.ws w).ask.op=0->nW c (aV c w s (s.ws w) q).m w ((aV c w s (s.ws w) q).ws w):=by
  intro q hT hop;unfold aV;dsimp only;split
  ·split
   ·rw[uw];exact hop
   ·rename_i hd h8
    have h4:(q.step c w s.m).1.e=4:=by
     rcases(Kt (c:=c) (m:=s.m) hT).1 hd with k|k
     ·exact absurd k.1 h8
     ·exact k.1
    rw[uw];exact kX (yh (by show(q.step c w s.m).1.e≠0;rw[h4];decide))
  ·rw[uw];exact hop
 have wake:∀q,(s.ws w).ask.op=0->nW c (dh w s (s.ws w) q).m w ((dh w s (s.ws w) q).ws w):=by
  intro q hop;unfold dh;cases q with
  |none=>dsimp only;rw[uw];exact hop
  |some g=>
   dsimp only;split
   ·rw[uw];exact kX (yh (by show(5:Int)≠0;decide))
   ·rw[uw];exact trivial
 have X0:=X;have W0:=W;unfold jO at X;unfold nW at W;cases hp:(s.ws w).ph with
 |rest=>unfold aQ at hc;rw[hp]at hc;exact hc.elim
 |pin q=>
  cases q with
  |none=>
   have e:ai c s w=s.put w ((s.ws w).to (.pin (some s.m.ep))):=by unfold ai;dsimp only;rw[hp]
   rw[e,uw];exact trivial
  |some v=>
   have e:ai c s w=(s.mem (s.m.pin w (aR (v+1)))).put w ((s.ws w).to (.work (bE (s.ws w)))):=by unfold ai;dsimp only;rw[hp]
   rw[e,uw];exact aej c w (s.ws w)
 |work k=>
  rw[hp]at X W;have e:ai c s w=ak c w s (s.ws w) k:=by unfold ai;dsimp only;rw[hp]
  rw[e];exact adT hp M X W
 |counts t=>
  rw[hp]at W;have e:ai c s w=if(t.step c.S s.m).dn then(if∃y∈(t.step c.S s.m).last.getD [],fits 3 w y then s.put w ((s.ws w).to (.work (.get Tk.new)))else s.put w ((s.ws w).end_ (.err 3)))else s.put w ((s.ws w).to (.counts (t.step c.S s.m))):=by unfold ai;dsimp only;rw[hp]
  rw[e];split
  ·split
   ·rw[uw];exact⟨W,fun k=>by cases k⟩
   ·rw[uw];exact kX (yh (by show(3:Int)≠0;decide))
  ·rw[uw];exact W
 |enters q=>
  rw[hp]at W;have e:ai c s w=if(q.step c w s.m).1.st=.done then(if(q.step c w s.m).1.e=0\/(q.step c w s.m).1.e=8 then(s.mem (q.step c w s.m).2).put w ((s.ws w).to (.ax Td.new (some (decide ((q.step c w s.m).1.e=0))) (.err 0)))else(s.mem (q.step c w s.m).2).put w ((s.ws w).end_ (.err (q.step c w s.m).1.e)))else(s.mem (q.step c w s.m).2).put w ((s.ws w).to (.enters (q.step c w s.m).1)):=by unfold ai;dsimp only;rw[hp]
  rw[e];split
  ·split
   ·rw[uw];exact⟨SX,W⟩
   ·rename_i k
    rw[uw];exact kX (yh (fun k2=>k (.inl k2)))
  ·rw[uw];exact W
 |ax t p a=>
  rw[hp]at X W;rw[BM hp];split
  ·unfold UE
   cases p with
   |some b=>dsimp only;rw[uw];exact W.2
   |none=>
    have:(Ms.ws {(s.mem (t.step c w s.m).2).put w ((s.ws w).to .rest)with ev:=⟨true,w,(s.ws w).ask,a⟩::s.ev} w)=(s.ws w).to .rest:=bD _ _
    dsimp only;rw[this];exact trivial
  ·rw[uw];exact⟨aao C X.1 W.1,W.2⟩
 |parked b=>
  rw[hp]at W;have e:ai c s w=if s.m.gr w≠0 then dh w s (s.ws w) none else aV c w s (s.ws w) Qu.leave:=by unfold ai;dsimp only;rw[hp]
  rw[e];split
  ·exact wake _ W
  ·exact leave _ ⟨.inl rfl,rfl⟩ W
 |wakes q=>
  rw[hp]at W;have e:ai c s w=dh w s (s.ws w) q:=by unfold ai;dsimp only;rw[hp]
  rw[e];exact wake _ W
 |leaves q=>
  rw[hp]at X W;have e:ai c s w=aV c w s (s.ws w) q:=by unfold ai;dsimp only;rw[hp]
  rw[e];exact leave _ X W
structure All(c:Cn)(s:Ms):Prop where
 inv:Inv c s
 cl:Lj s.m
 wd:∀i,i<c.W->nW c s.m i (s.ws i)
 safe:∃h,bJ c s h
 nd:s.m.qu.Nodup
theorem afF(C:Lj s.m)(k:Rc s.m s'.m):Lj s'.m/\(s.m.cl=2->s'.m.cl=2)/\(s.m.cl≠0->s'.m.cl≠0):=by
 unfold Lj at*;rcases k with k|⟨k1,k2⟩
 ·rw[k];exact⟨C,id,id⟩
 ·refine⟨by omega,fun h=>by omega,fun h=>by omega⟩
theorem Gu(hw:w<c.W)(hW:c.W<=15)(hS:1<=c.S)(A:All c s)(hc:aQ s w):All c (ai c s w)/\yj c (ai c s w)+1<=yj c s:=by
 obtain⟨I,C,W,⟨h,S⟩,N⟩:=A;obtain⟨I',P⟩:=aa5 hw hW hS I hc;obtain⟨h',S'⟩:=XP S hw I.m (I.w w hw) (W w hw);obtain⟨C',c2,c0⟩:=afF C (afH hc I.m (I.w w hw) (W w hw));obtain⟨_,_,_,g4,_⟩:=BD hw hW hS I.m I.g (I.w w hw) hc;refine⟨⟨I',C',fun i hi=> ?_,⟨h',S'⟩,ai4 (akU (c:=c) (I.w w hw)) N⟩,P⟩
 by_cases e:i=w
 ·subst e;exact adU hc I.m C (I.w i hw) (W i hw)
 ·rw[g4 i e];exact afX (W i hi) c2
end
noncomputable section
open Classical
variable{c:Cn} {s s':Ms} {w:Nat} {h:Hd} {m:Mm}
structure En where
 kind:Int
 who:Int
 op:Int
 a:Ask
 n:Int
 good:Bool
def bR.zero:bR:=⟨0,0,0,0,0,0,0,0⟩
def inW(c:Cn)(w:Int):Prop:=0<=w/\w<c.W
def Ih(c:Cn)(s:Ms)(x:En):Prop:=inW c x.who/\(s.ws x.who.toNat).ph=.rest/\s.ev.length<1999/\0<=x.op/\x.op<8
def ko(s:Ms)(x:En):Ms:={s.put x.who.toNat ⟨.pin none,{x.a with op:=x.op.toNat},0⟩with ev:=⟨false,x.who.toNat,{x.a with op:=x.op.toNat},bR.zero⟩::s.ev}
def QN(m:Mm)(i:Nat):Option Mm:=(az (m.sl i) 13 0 0).map fun n=>m.set i n
def inS(c:Cn)(i:Int):Prop:=0<=i/\i<c.S
def xg(now n:Int):Int:=now+min (max n 0) (1099511627776-now)
def dX(c:Cn)(s:Ms)(x:En):Bool×Ms:=
 if x.kind=0 then(if Ih c s x then(true,ko s x)else(false,s))else
 if x.kind=1 then(if inW c x.who/\aQ s x.who.toNat then(true,ai c s x.who.toNat)else(false,s))else
 if x.kind=2 then(true,{s with now:=xg s.now x.n})else
 if x.kind=3 then(if s.wo.length<1000 then(true,{s with wo:=s.wo++[x.good]})else(false,s))else
 if x.kind=4 then(if inS c x.a.slot then(match QN s.m x.a.slot.toNat with|some m=>(true,s.mem m)|none=>(false,s))else(false,s))else(false,s)
theorem agS{x n:aa}(h:az x 13 0 0=some n):n.st=x.st/\n.own=x.own/\n.gen=x.gen/\n.str=x.str/\n.brk=true:=by
 obtain⟨r,hr,rfl,_⟩:=wG h;have hr:xm x=some r:=hr;unfold xm at hr;split at hr<;>cases hr;exact⟨rfl,rfl,rfl,rfl,rfl⟩
theorem UX{m':Mm}(I:bJ c s h)(hc:m'.cl=s.m.cl)(e:∀i,(m'.sl i).st=(s.m.sl i).st/\(m'.sl i).own=(s.m.sl i).own/\(m'.sl i).gen=(s.m.sl i).gen/\(m'.sl i).str=(s.m.sl i).str):bJ c (s.mem m') h:=by
 have l:∀i w y,gU m' i w y↔gU s.m i w y:=fun i w y=>by unfold gU;rw[(e i).1,(e i).2.1,(e i).2.2.1]
 refine⟨I.tell,fun k v i y hv hh=>(l _ _ _).2 (I.one (by rw[<-hc];exact k) v i y hv hh),fun k=>I.pO (by rw[<-hc];exact k),fun i hi h3=> ?_,I.pd,I.xB,I.st,fun v i y hv hr hl=>I.rel v i y hv hr ((l _ _ _).1 hl),I.hs,fun i hi h3=> ?_⟩
 ·have h3:(m'.sl i).st=3:=h3
  rw[(e i).1]at h3;obtain⟨v,hv,ho,hh⟩:=I.back i hi h3;show∃w,w<c.W/\(m'.sl i).own=w/\(((takeC (s.ws w) i (m'.sl i).gen\/iw (s.ws w) i (m'.sl i).gen)/\(m'.sl i).str=0)\/(h.who i=w+1/\h.gen i=(m'.sl i).gen/\Bits h (s.ws w) i (m'.sl i).str));rw[(e i).2.1,(e i).2.2.1,(e i).2.2.2];exact⟨v,hv,ho,hh⟩
 ·have h3:(m'.sl i).st=3:=h3
  rw[(e i).1]at h3;show 0<=(m'.sl i).str/\∀k:Nat,k<8->c.st<=k->(m'.sl i).str/2^k%2≠1;rw[(e i).2.2.2];exact I.cap i hi h3
theorem afV(x:Wr)(h:x.ph=.pin none)(hg:x.grant=0):jO c w x:=by
 unfold jO;rw[h];show x.grant<=c.S;rw[hg];omega
theorem QX(A:All c s)(hW:c.W<=15)(hS:1<=c.S)(x:En):All c (dX c s x).2:=by
 unfold dX;split
 ·split
  ·rename_i hm
   obtain⟨⟨w0,w1⟩,hr,_,_,_⟩:=hm;obtain⟨I,C,W,⟨h,S⟩,N⟩:=A;have nw:x.who.toNat<c.W:=by omega
   have ew:(ko s x).ws x.who.toNat=⟨.pin none,{x.a with op:=x.op.toNat},0⟩:=bD s _
   have eo:∀i,i≠x.who.toNat->(ko s x).ws i=s.ws i:=fun i hi=>by
    show upd s.ws x.who.toNat _ i=_;exact if_neg hi
   refine⟨⟨I.m,I.g,fun i hi=> ?_⟩,C,fun i hi=> ?_,⟨h,?_⟩,N⟩
   ·by_cases e:i=x.who.toNat
    ·subst e;rw[ew];exact afV _ rfl rfl
    ·rw[eo i e];exact I.w i hi
   ·by_cases e:i=x.who.toNat
    ·subst e;rw[ew];exact trivial
    ·rw[eo i e];exact W i hi
   ·refine lT S (w:=x.who.toNat) (fun j hj=>eo j hj) ((dz (by rw[hr];trivial)).same (by rw[ew];exact dz trivial)) (tY S.tell ?_) id (fun i=>.inl rfl)
    unfold Hd.told;rw[if_pos (.inl rfl)]
  ·exact A
 ·split
  ·split
   ·rename_i hm
    exact(Gu (by have:=hm.1.1;have:=hm.1.2;omega) hW hS A hm.2).1
   ·exact A
  ·split
   ·obtain⟨I,C,W,⟨h,S⟩,N⟩:=A
    exact⟨⟨I.m,I.g,I.w⟩,C,W,⟨h,⟨S.tell,S.one,S.pO,S.back,S.pd,S.xB,S.st,S.rel,S.hs,S.cap⟩⟩,N⟩
   ·split
    ·split
     ·obtain⟨I,C,W,⟨h,S⟩,N⟩:=A
      exact⟨⟨I.m,I.g,I.w⟩,C,W,⟨h,⟨S.tell,S.one,S.pO,S.back,S.pd,S.xB,S.st,S.rel,S.hs,S.cap⟩⟩,N⟩
     ·exact A
    ·split
     ·split
      ·unfold QN
       cases hn:az (s.m.sl x.a.slot.toNat) 13 0 0 with
       |none=>exact A
       |some n=>
        obtain⟨I,C,W,⟨h,S⟩,N⟩:=A;refine⟨⟨nN I.m hn,I.g,I.w⟩,C,fun i hi=>afX (W i hi) id,⟨h,UX S rfl fun i=> ?_⟩,N⟩
        by_cases e:i=x.a.slot.toNat
        ·subst e
         have:(s.m.set x.a.slot.toNat n).sl x.a.slot.toNat=n:=wh;rw[this];have k:=agS hn;exact⟨k.1,k.2.1,k.2.2.1,k.2.2.2.1⟩
        ·have:(s.m.set x.a.slot.toNat n).sl i=s.m.sl i:=uf e
         rw[this];exact⟨rfl,rfl,rfl,rfl⟩
      ·exact A
     ·exact A
def Mm.zero:Mm:=⟨0,[],0,fun _=>0,fun _=>0,fun _=>aa.zero⟩
def Ask.zero:Ask:=⟨0,false,false,0,0,0,0⟩
def Ms.zero:Ms:=⟨Mm.zero,0,[],fun _=>⟨.rest,Ask.zero,0⟩,[]⟩
theorem IP:Facts aa.zero:=by constructor<;>decide
theorem all_zero:All c Ms.zero:=by
 have n:∀w,iC (Ms.zero.ws w):=fun w=>dz trivial
 refine⟨⟨⟨fun i _=>IP,fun a h=>by cases h⟩,fun i=>by show(0:Int)<=c.S;omega,fun i _=>trivial⟩,⟨Int.le_refl 0,by decide⟩,fun i _=>trivial,⟨Hd.zero,?_⟩,List.nodup_nil⟩
 refine⟨rfl,fun _ w i y hw hh=> ?_,fun _ w i y hw hh=> ?_,fun i hi h3=>(by cases h3),fun v w i y hv hw hp=>absurd hp ((n v).pend i y),fun v w i y z hv hw hp=>absurd hp ((n v).pend i y),fun w i y k op hw hh=>absurd hh ((n w).strm i y k op),fun w i y hw hh=>absurd hh ((n w).rel i y),fun i hi=>absurd rfl hi,fun i hi h3=>(by cases h3)⟩
 ·rcases hh with hh|hh|hh
  ·exact absurd hh ((n w).take i y)
  ·exact absurd hh ((n w).pend i y)
  ·have:=hh.1;cases this
 ·rcases hh with hh|hh
  ·exact absurd hh ((n w).take i y)
  ·exact absurd hh ((n w).pend i y)
def Still(c:Cn)(s:Ms):Prop:=∀w,w<c.W->¬aQ s w
theorem aaz(h:¬aQ s w):(s.ws w).ph=.rest\/∃b,(s.ws w).ph=.parked b:=by
 unfold aQ at h;cases hp:(s.ws w).ph with
 |rest=>exact .inl rfl
 |parked b=>exact .inr ⟨b,rfl⟩
 |_=>rw[hp]at h;exact absurd trivial h
theorem Lx(h:¬aQ s w):iC (s.ws w):=by
 refine dz ?_;rcases aaz h with e|⟨b,e⟩<;>(rw[e];trivial)
theorem UI(S:bJ c s h)(st:Still c s)(hc:s.m.cl≠2){i w:Nat}(hi:h.who i=w+1):
  i<c.S/\w<c.W/\gU s.m i w (h.gen i)/\∀k,k<8->((s.m.sl i).str/2^k%2=1↔h.st i k=true):=by
 obtain⟨hS,hW⟩:=S.hs i (by omega)
 have hw:w<c.W:=by omega
 have n:=Lx (st w hw);have l:=S.one hc w i (h.gen i) hw (.inr (.inr ⟨hi,rfl,n.rel _ _⟩));refine⟨hS,hw,l,?_⟩;obtain⟨v,hv,ho,hh⟩:=S.back i hS l.1;have nv:=Lx (st v hv);have e:v=w:=by have:=l.2.1;rw[ho]at this;omega
 subst e;rcases hh with⟨k|k,_⟩|⟨_,_,k⟩
 ·exact absurd k (nv.take _ _)
 ·exact absurd k (nv.pend _ _)
 ·exact(jb nv.strm _ _).1 k
def jN(f:Nat->Bool):Nat->Int
 |0=>0
 |n+1=>jN f n+(if f n then 2^n else 0)
def qP(f:Nat->Bool):Nat->Nat
 |0=>0
 |n+1=>qP f n+(if f n then 1 else 0)
theorem afN{v:Int}{f:Nat->Bool}(h0:0<=v)(h1:v<=255)(h:∀k,k<8->(v/2^k%2=1↔f k=true)):v=jN f 8:=by
 have e:∀k,k<8->(if f k then(2:Int)^k else 0)=(v/2^k%2)*2^k:=by
  intro k hk;have:=h k hk;by_cases hf:f k=true
  ·rw[if_pos hf,this.2 hf,Int.one_mul]
  ·rw[if_neg hf]
   have:v/2^k%2=0:=by
    have h2:¬v/2^k%2=1:=fun q=>hf (this.1 q)
    generalize v/2^k=u at h2;omega
   rw[this,Int.zero_mul]
 unfold jN jN jN jN jN jN jN jN jN;rw[e 0 (by omega),e 1 (by omega),e 2 (by omega),e 3 (by omega),e 4 (by omega),e 5 (by omega),e 6 (by omega),e 7 (by omega)]
 simp only[Int.reducePow];omega
theorem TD{f:Nat->Bool}{t:Int}(ht:0<=t)(h:∀k,k<8->f k=true->(k:Int)<t):∀n,n<=8->(qP f n:Int)<=t/\qP f n<=n
 |0,_=>⟨ht,Nat.le_refl _⟩
 |n+1,hn=>by
  obtain⟨h1,h2⟩:=TD ht h n (by omega)
  unfold qP;split
  ·rename_i hf
   have:=h n (by omega) hf
   omega
  ·omega
theorem Rl(A:All c s)(st:Still c s)(hc:s.m.cl≠2)(ht:0<=c.st):∃h,eU c s.ev=some h/\∀i,i<c.S->h.who i≠0->(s.m.sl i).str=jN (h.st i) 8/\(qP (h.st i) 8:Int)<=c.st:=by
 obtain⟨h,S⟩:=A.safe;refine⟨h,S.tell,fun i hi hw=> ?_⟩
 obtain⟨w,hw⟩:∃w,h.who i=w+1:=⟨h.who i-1,by omega⟩
 obtain⟨_,_,l,b⟩:=UI S st hc hw;have F:=A.inv.m.1 i hi;refine⟨afN F.str.1 F.str.2 b,(TD ht (fun k hk hf=> ?_) 8 (Nat.le_refl _)).1⟩
 refine Classical.byContradiction fun k2=> ?_
 exact(S.cap i hi l.1).2 k hk (by omega) ((b k hk).2 hf)
end
end bq
end Go.Proofs.YteaflphddciglaaGreatDoor
