/- Group CbB: laws of the proof, joined. No condition of its own. -/
import Derived.Test.YteaflphddciglaaGreatDoorCbA
set_option linter.unusedVariables false
set_option linter.unusedSimpArgs false
namespace Go.Proofs.YteaflphddciglaaGreatDoor
namespace bq
noncomputable section
open Classical
theorem Pg{x n:aa}{own:Int}(h:az x 3 own 0=some n):n.own=own/\n.str=0/\n.gen=(x.gen+1)%4096:=by
 obtain⟨r,hr,rfl,_⟩:=wG h;have hr:uU x own=some r:=hr;unfold uU at hr;split at hr<;>cases hr;exact⟨rfl,rfl,rfl⟩
theorem RL{x n:aa}{own:Int}(h:az x 1 own 0=some n):n.own=own/\n.str=0:=by
 obtain⟨r,hr,rfl,_⟩:=wG h;have hr:yB x own=some r:=hr;unfold yB at hr;split at hr<;>cases hr;exact⟨rfl,rfl⟩
theorem Pk{x n:aa}{own:Int}(h:az x 16 own 0=some n):n.own=own/\n.str=0:=by
 obtain⟨r,hr,rfl,_⟩:=wG h;have hr:sZ x own=some r:=hr;unfold sZ at hr;split at hr
 ·cases hr;exact⟨rfl,rfl⟩
 ·split at hr<;>cases hr
  exact⟨rfl,rfl⟩
theorem Tu{x n:aa}{own more:Int}(h:az x 14 own more=some n):x.own=own/\n.own=own/\n.gen=x.gen/\bA x.str<more/\bA x.str<8/\n.str=x.str+2^(bA x.str).toNat/\n.brk=x.brk:=by
 obtain⟨r,hr,rfl,_⟩:=wG h;have hr:aZ x own more=some r:=hr;unfold aZ at hr;split at hr<;>cases hr;rename_i hh;exact⟨hh.2.1,hh.2.1,rfl,hh.2.2.2.1,hh.2.2.2.2,rfl,rfl⟩
theorem Tt{x n:aa}{own more:Int}(h:az x 15 own more=some n):x.own=own/\n.own=own/\n.gen=x.gen/\0<=more/\more<=7/\x.str/2^more.toNat%2=1/\n.str=x.str-2^more.toNat/\n.brk=x.brk:=by
 obtain⟨r,hr,rfl,_⟩:=wG h;have hr:vH x own more=some r:=hr;unfold vH at hr;split at hr<;>cases hr;rename_i hh;exact⟨hh.2.1,hh.2.1,rfl,hh.2.2.1,hh.2.2.2.1,hh.2.2.2.2,rfl,rfl⟩
structure Hd where
 who:Nat->Nat
 gen:Nat->Int
 st:Nat->Nat->Bool
def gU(m:Mm)(i w:Nat)(y:Int):Prop:=(m.sl i).st=3/\(m.sl i).own=w/\(m.sl i).gen=y
end
noncomputable section
open Classical
def mine(w:Nat)(y:Int)(x:aa):Prop:=x.st=3/\x.own=w/\x.gen=y
def Uo(w:Nat)(y:Int)(r:Rt):Prop:=(r.st=.swap->mine w y r.wd)/\(r.st≠.swap->r.sw=true)
def Q3(w:Nat)(t:Tk):Prop:=t.st=.go->t.rt.i=t.i/\Uo w t.gen t.rt
def GvW(c:Cn)(w:Nat)(g:Gv):Prop:=
 (g.st=.rest->0<=g.i/\g.i<c.S/\mine w g.gen g.wd)/\(g.st=.go->0<=g.i/\g.i<c.S/\g.rt.i=g.i.toNat/\Uo w g.gen g.rt)
def ZU(c:Cn)(w:Nat)(g:Sm):Prop:=
 g.st=.swap->0<=g.i/\g.i<c.S/\mine w g.gen g.wd/\g.next c w g.wd=some g.nx/\g.num=(if g.op then bA g.wd.str else g.n)
def RpW(r:Rp):Prop:=r.st=.dB->r.rt.st=.swap->r.rt.wd.st=2
def MN(m:Mm)(t:Td):Prop:=(t.st=.dL->t.look.ow=t.cl/\t.cl<=2/\(t.cl=2->m.cl=2))/\(t.st=.go->t.cl<=2/\t.look.ow=t.cl/\(t.cl=2->m.cl=2)/\(t.rt.st=.swap->t.rt.wd.st=3->m.cl=2))
def Ll(c:Cn)(x:Ask)(a:bR):Prop:=
 a.e=0->(x.op=0->0<=a.slot/\a.slot<c.S)/\(x.op=1\/x.op=2->0<=x.slot/\x.slot<c.S)/\(x.op=3\/x.op=4->0<=x.slot/\x.slot<c.S/\0<=a.bg/\a.bg<=7)
def QZ(c:Cn)(w:Nat)(x:Ask)(k:Wk):Prop:=
 match k with
 | .get t=>x.op=0/\Q3 w t
 | .give g=>(x.op=1\/x.op=2)/\g.i=x.slot/\g.gen=x.gen/\GvW c w g
 | .bg g=>x.op=(if g.op then 3 else 4)/\g.i=x.slot/\g.gen=x.gen/\ZU c w g
 | .close _=>5<=x.op
 | .stats _=>5<=x.op
 | .aS r=>5<=x.op/\RpW r
def nW(c:Cn)(m:Mm)(w:Nat)(x:Wr):Prop:=
 match x.ph with
 | .rest=>True
 | .pin _=>True
 | .work k=>QZ c w x.ask k
 | .counts _=>x.ask.op=0
 | .enters _=>x.ask.op=0
 | .ax t p a=>MN m t/\(match p with|some _=>x.ask.op=0|none=>Ll c x.ask a)
 | .parked _=>x.ask.op=0
 | .wakes _=>x.ask.op=0
 | .leaves _=>x.ask.op=0
theorem aej(c)(w)(x):QZ c w x.ask (bE x):=by
 unfold bE;split
 ·split
  ·exact⟨‹_›,λh=>(by cases h)⟩
  ·exact⟨‹_›,λh=>(by cases h)⟩
 ·exact⟨.inl ‹_›,rfl,rfl,⟨λh=>(by cases h),λh=>(by cases h)⟩⟩
 ·exact⟨.inr ‹_›,rfl,rfl,⟨λh=>(by cases h),λh=>(by cases h)⟩⟩
 ·exact⟨‹_›,rfl,rfl,λh=>(by cases h)⟩
 ·exact⟨‹_›,rfl,rfl,λh=>(by cases h)⟩
 ·exact⟨by grind,λh=>(by cases h)⟩
 ·show 5<=x.ask.op
  omega
 ·show 5<=x.ask.op
  grind
theorem UY{w}{y}{m}{r}(h:Uo w y r)(hd:(r.step m).1.st≠.done):Uo w y (r.step m).1/\(r.step m).1.st≠.swap/\(r.step m).1.i=r.i:=by
 obtain⟨i,wd,ep,st,sw⟩:=r;obtain⟨h1,h2⟩:=h;cases st with
 |swap=>
  unfold Rt.step at hd ⊢;dsimp only at hd ⊢;split at hd
  ·split at hd
   ·rename_i hn hm
    rw[if_pos hm];exact⟨⟨λh=>(by cases h),λ_=>rfl⟩,by simp,rfl⟩
   grind
  grind
 |look=>exact⟨⟨λh=>(by cases h),λ_=>h2 (by simp)⟩,by simp[Rt.step],rfl⟩
 |iI=>
  have e:(⟨i,wd,ep,.iI,sw⟩:Rt).step m=(⟨i,wd,ep,.jk,sw⟩,((⟨i,wd,ep,.iI,sw⟩:Rt).step m).2):=by
   grind [Rt.step]
  rw[e];exact⟨⟨λh=>(by cases h),λ_=>h2 (by simp)⟩,by simp,rfl⟩
 |jk=>exact absurd rfl hd
 |done=>exact absurd rfl hd
end
noncomputable section
open Classical
variable{c:Cn} {s s':Ms} {w:Nat} {h:Hd}
theorem afa{v:Int}(h:bA v<8)(h0:0<=v):0<=bA v/\v/2^(bA v).toNat%2≠1:=by
 grind [bA]
end
noncomputable section
open Classical
variable{c:Cn} {s s':Ms} {w:Nat} {h:Hd}
def claims(t:Tk):Prop:=t.st=.check\/t.st=.move\/t.st=.dD\/t.st=.back\/t.st=.go/\t.rt.st=.swap
end
noncomputable section
open Classical
def Calm(m m':Mm):Prop:=m'.cl=m.cl/\∀i,m'.sl i=m.sl i\/(m'.sl i).st≠3/\(m.sl i).st≠3
theorem aY(m):Calm m m:=⟨rfl,λ_=>.inl rfl⟩
theorem jC{m}{j}{x n}(e:m.sl j=x)(h1:n.st≠3)(h2:x.st≠3):Calm m (m.set j n):=by
 refine⟨rfl,λi=> ?_⟩
 by_cases ei:i=j
 ·subst ei
  refine .inr ⟨?_,by rw[e];exact h2⟩
  show(upd m.sl i n i).st≠3;grind [upd]
 ·refine .inl ?_
  show upd m.sl j n i=_;grind [upd]
inductive EY(w:Nat)(m m':Mm)(t t':Tk):Prop
 |calm:Calm m m'->(claims t'↔claims t)->t'.i=t.i->t'.gen=t.gen->t'.st≠.done->EY w m m' t t'
 |fin:Calm m m'->¬claims t->t'.st=.done->t'.e≠0->EY w m m' t t'
 |free:Calm m m'->¬claims t->¬claims t'->t'.st≠.done->EY w m m' t t'
 |NL:¬claims t->claims t'->t'.st≠.done->m'.cl=m.cl->(m.sl t'.i).st≠3->gU m' t'.i w t'.gen->(m'.sl t'.i).str=0->(∀i,i≠t'.i->m'.sl i=m.sl i)->EY w m m' t t'
 |told:m'=m->m.cl=0->claims t->t'.st=.done->t'.e=0->t'.i=t.i->t'.gen=t.gen->EY w m m' t t'
 |lost:claims t->¬claims t'->(t'.st=.done->t'.e≠0)->m'.cl=m.cl->(∀i,i≠t.i->m'.sl i=m.sl i)->
   (m'.sl t.i=m.sl t.i/\¬gU m t.i w t.gen\/gU m t.i w t.gen/\(m'.sl t.i).st≠3)->EY w m m' t t'
variable{c:Cn} {w:Nat} {m:Mm} {g:Bool} {look:Fd} {i:Nat} {wd:aa} {gen:Int} {ps:Bool} {rt:Rt} {e:Int}
theorem gD{t}(h:t.st≠.check)(h1:t.st≠.move)(h2:t.st≠.dD)(h3:t.st≠.back)(h4:t.st≠.go):¬claims t:=by
 grind [claims]
theorem ae'{j}{n:aa}{y}(h1:n.st=3)(h2:n.own=w)(h3:n.gen=y):gU (m.set j n) j w y:=by
 unfold gU;have:(m.set j n).sl j=n:=if_pos rfl;grind
theorem uf{j k}{n}(h:k≠j):(m.set j n).sl k=m.sl k:=if_neg h
theorem wh{j}{n}:(m.set j n).sl j=n:=if_pos rfl
theorem zn{t t'}{j}{x n}{d}(hd:d=3\/d=1\/d=16/\n.st=3)(hn:az x d w 0=some n)(hm:m.sl j=x)(h0:¬claims t)(h1:claims t')(h2:t'.st≠.done)(hi:t'.i=j)(hg:t'.gen=n.gen):EY w m (m.set j n) t t':=by
 have k:=eT hn
 obtain⟨a,b,d1,d2⟩:n.st=3/\x.st≠3/\n.own=w/\n.str=0:=by
  rcases hd with rfl|rfl|⟨rfl,h3⟩
  ·have k:=k.2.2.2.1 rfl
   have o:=Pg hn;exact⟨k.2,by omega,o.1,o.2.1⟩
  ·have k:=k.2.1 rfl
   have o:=RL hn;exact⟨k.2,by omega,o.1,o.2⟩
  grind [Pk]
 refine .NL h0 h1 h2 rfl (by rw[hi,hm];exact b) ?_ ?_ (λi h=> ?_)
 ·rw[hi,hg];exact ae' a d1 rfl
 ·rw[hi,wh];exact d2
 grind [uf]
def o9(c:Cn)(w:Nat)(m:Mm)(g:Bool)(t:Tk):Prop:=EY w m (t.step w c.S m g).2 t (t.step w c.S m g).1
theorem eZ{t t'}{m'}(h:t.step w c.S m g=(t',m'))(k:EY w m m' t t'):o9 c w m g t:=by grind [o9]
theorem LY:¬claims ⟨.closed,look,i,wd,gen,ps,rt,e⟩:=gD (by simp) (by simp) (by simp) (by simp) (by simp)
theorem YU:o9 c w m g ⟨.closed,look,i,wd,gen,ps,rt,e⟩:=by
 have h:(⟨.closed,look,i,wd,gen,ps,rt,e⟩:Tk).step w c.S m g=if m.cl≠0 then(⟨.done,look,i,wd,gen,ps,rt,5⟩,m)else(⟨.own,Fd.new 0 w,i,wd,gen,ps,rt,e⟩,m):=rfl
 by_cases hc:m.cl≠0
 ·rw[if_pos hc]at h
  exact eZ h (.fin (aY m) LY rfl (by grind))
 ·rw[if_neg hc]at h
  exact eZ h (.free (aY m) LY (gD (by simp) (by simp) (by simp) (by simp) (by simp)) (by simp))
theorem ag9:o9 c w m g ⟨.own,look,i,wd,gen,ps,rt,e⟩:=by
 have h:=Co (c:=c) (m:=m) (w:=w) (i:=i) (wd:=wd) (gen:=gen) (ps:=ps) (rt:=rt) (e:=e) (g:=g) (look:=look) _ rfl;have n0:¬claims ⟨.own,look,i,wd,gen,ps,rt,e⟩:=gD (by simp) (by simp) (by simp) (by simp) (by simp)
 split at h
 ·exact eZ h (.free (aY m) n0 (gD (by simp) (by simp) (by simp) (by simp) (by simp)) (by simp))
 ·split at h
  ·exact eZ h (.free (aY m) n0 (gD (by simp) (by simp) (by simp) (by simp) (by simp)) (by simp))
  ·exact eZ h (.free (aY m) n0 (gD (by simp) (by simp) (by simp) (by simp) (by simp)) (by simp))
theorem ag':o9 c w m g ⟨.any,look,i,wd,gen,ps,rt,e⟩:=by
 have h:=any_eq (c:=c) (m:=m) (w:=w) (i:=i) (wd:=wd) (gen:=gen) (ps:=ps) (rt:=rt) (e:=e) (g:=g) (look:=look) _ rfl;have n0:¬claims ⟨.any,look,i,wd,gen,ps,rt,e⟩:=gD (by simp) (by simp) (by simp) (by simp) (by simp)
 split at h
 ·exact eZ h (.free (aY m) n0 (gD (by simp) (by simp) (by simp) (by simp) (by simp)) (by simp))
 ·split at h
  ·exact eZ h (.free (aY m) n0 (gD (by simp) (by simp) (by simp) (by simp) (by simp)) (by simp))
  ·exact eZ h (.free (aY m) n0 (gD (by simp) (by simp) (by simp) (by simp) (by simp)) (by simp))
theorem afl:o9 c w m g ⟨.free,look,i,wd,gen,ps,rt,e⟩:=by
 have h:=free_eq (c:=c) (m:=m) (w:=w) (i:=i) (wd:=wd) (gen:=gen) (ps:=ps) (rt:=rt) (e:=e) (g:=g) (look:=look) _ rfl;have n0:¬claims ⟨.free,look,i,wd,gen,ps,rt,e⟩:=gD (by simp) (by simp) (by simp) (by simp) (by simp)
 split at h
 ·exact eZ h (.free (aY m) n0 (gD (by simp) (by simp) (by simp) (by simp) (by simp)) (by simp))
 ·split at h
  ·exact eZ h (.fin (aY m) n0 rfl (by grind))
  ·exact eZ h (.free (aY m) n0 (gD (by simp) (by simp) (by simp) (by simp) (by simp)) (by simp))
theorem Tx:¬claims ⟨.gp,look,i,wd,gen,ps,rt,e⟩:=gD (by simp) (by simp) (by simp) (by simp) (by simp)
theorem afj:o9 c w m g ⟨.gp,look,i,wd,gen,ps,rt,e⟩:=by
 have h:(⟨.gp,look,i,wd,gen,ps,rt,e⟩:Tk).step w c.S m g=match(⟨.gp,look,i,wd,gen,ps,rt,e⟩:Tk).swap w m look.at_ look.wd 3 with
  |some (t,m)=>({t with st:=.check},m)
  |none=>(⟨.own,look.again,i,wd,gen,ps,rt,e⟩,m):=rfl
 rcases lQ with h0|⟨n,hn,hm,h0⟩
 ·rw[h0]at h
  exact eZ h (.free (aY m) Tx (gD (by simp) (by simp) (by simp) (by simp) (by simp)) (by simp))
 ·rw[h0]at h
  exact eZ h (zn (.inl rfl) hn hm Tx (.inl rfl) (by simp) rfl rfl)
theorem afo:o9 c w m g ⟨.anyS,look,i,wd,gen,ps,rt,e⟩:=by
 have h:(⟨.anyS,look,i,wd,gen,ps,rt,e⟩:Tk).step w c.S m g=match(⟨.anyS,look,i,wd,gen,ps,rt,e⟩:Tk).swap w m look.at_ look.wd 3 with
  |some (t',m)=>if look.wd.own=w then({t' with st:=.check},m)else({t' with ps:=false,look:=Fd.new 0 look.wd.own,st:=.move},m)
  |none=>(⟨.any,look.again,i,wd,gen,ps,rt,e⟩,m):=rfl
 have n0:¬claims ⟨.anyS,look,i,wd,gen,ps,rt,e⟩:=gD (by simp) (by simp) (by simp) (by simp) (by simp)
 rcases lQ with h0|⟨n,hn,hm,h0⟩
 ·rw[h0]at h
  exact eZ h (.free (aY m) n0 (gD (by simp) (by simp) (by simp) (by simp) (by simp)) (by simp))
 ·rw[h0]at h
  dsimp only at h;split at h
  ·exact eZ h (zn (.inl rfl) hn hm n0 (.inl rfl) (by simp) rfl rfl)
  ·exact eZ h (zn (.inl rfl) hn hm n0 (.inr (.inl rfl)) (by simp) rfl rfl)
theorem abD:o9 c w m g ⟨.dQ,look,i,wd,gen,ps,rt,e⟩:=by
 have h:(⟨.dQ,look,i,wd,gen,ps,rt,e⟩:Tk).step w c.S m g=match(⟨.dQ,look,i,wd,gen,ps,rt,e⟩:Tk).swap w m look.at_ look.wd 0 with
  |some (t,m)=>({t with st:=.bM},m)
  |none=>(⟨.free,look.again,i,wd,gen,ps,rt,e⟩,m):=rfl
 have n0:¬claims ⟨.dQ,look,i,wd,gen,ps,rt,e⟩:=gD (by simp) (by simp) (by simp) (by simp) (by simp)
 rcases lQ with h0|⟨n,hn,hm,h0⟩
 ·rw[h0]at h
  exact eZ h (.free (aY m) n0 (gD (by simp) (by simp) (by simp) (by simp) (by simp)) (by simp))
 ·rw[h0]at h
  have k:=(eT hn).1 rfl;exact eZ h (.free (jC hm (by omega) (by omega)) n0 (gD (by simp) (by simp) (by simp) (by simp) (by simp)) (by simp))
theorem afk:o9 c w m g ⟨.move,look,i,wd,gen,ps,rt,e⟩:=by
 have h:=yZ (c:=c) (m:=m) (w:=w) (i:=i) (wd:=wd) (gen:=gen) (ps:=ps) (rt:=rt) (e:=e) (g:=g) (look:=look) _ rfl;have c0:claims ⟨.move,look,i,wd,gen,ps,rt,e⟩:=.inr (.inl rfl);split at h
 ·split at h
  ·exact eZ h (.calm (aY m) ⟨λ_=>c0,λ_=>.inr (.inl rfl)⟩ rfl rfl (by simp))
  ·exact eZ h (.calm (aY m) ⟨λ_=>c0,λ_=>.inr (.inr (.inl rfl))⟩ rfl rfl (by simp))
 ·split at h
  ·exact eZ h (.calm (aY m) ⟨λ_=>c0,λ_=>.inl rfl⟩ rfl rfl (by simp))
  ·exact eZ h (.calm (aY m) ⟨λ_=>c0,λ_=>.inr (.inl rfl)⟩ rfl rfl (by simp))
theorem abB:o9 c w m g ⟨.dD,look,i,wd,gen,ps,rt,e⟩:=by
 have h:(⟨.dD,look,i,wd,gen,ps,rt,e⟩:Tk).step w c.S m g=match az look.wd 9 w 0 with
  |some n=>if m.sl look.at_=look.wd then(⟨.move,look.go,i,wd,gen,ps,rt,e⟩,m.set look.at_ n)else(⟨.move,look.go,i,wd,gen,ps,rt,e⟩,m)
  |none=>(⟨.move,look.go,i,wd,gen,ps,rt,e⟩,m):=rfl
 have c0:claims ⟨.dD,look,i,wd,gen,ps,rt,e⟩:=.inr (.inr (.inl rfl));split at h
 ·split at h
  ·rename_i n hn hm
   have k:=(eT hn).2.2.2.2.2.2.2.2.2.1 rfl;exact eZ h (.calm (jC hm (by omega) (by omega)) ⟨λ_=>c0,λ_=>.inr (.inl rfl)⟩ rfl rfl (by simp))
  ·exact eZ h (.calm (aY m) ⟨λ_=>c0,λ_=>.inr (.inl rfl)⟩ rfl rfl (by simp))
 ·exact eZ h (.calm (aY m) ⟨λ_=>c0,λ_=>.inr (.inl rfl)⟩ rfl rfl (by simp))
theorem afm:o9 c w m g ⟨.bM,look,i,wd,gen,ps,rt,e⟩:=by
 have h:(⟨.bM,look,i,wd,gen,ps,rt,e⟩:Tk).step w c.S m g=match(⟨.bM,look,i,wd,gen,ps,rt,e⟩:Tk).swap w m i wd (if g then 1 else 2)with
  |some (t,m)=>if g then({t with st:=.check},m)else(t.fin 6,m)
  |none=>(⟨.done,look,i,wd,gen,ps,rt,6⟩,m):=rfl
 have n0:¬claims ⟨.bM,look,i,wd,gen,ps,rt,e⟩:=gD (by simp) (by simp) (by simp) (by simp) (by simp)
 rcases lQ with h0|⟨n,hn,hm,h0⟩
 ·rw[h0]at h
  exact eZ h (.fin (aY m) n0 rfl (by grind))
 ·rw[h0]at h
  cases g with
  |true=>
   exact eZ h (zn (.inr (.inl rfl)) hn hm n0 (.inl rfl) (by simp) rfl rfl)
  |false=>
   have k:=(eT hn).2.2.1 rfl;exact eZ h (.fin (jC hm (by omega) (by omega)) n0 rfl (by show(6:Int)≠0;decide))
theorem abE:o9 c w m g ⟨.check,look,i,wd,gen,ps,rt,e⟩:=by
 have h:(⟨.check,look,i,wd,gen,ps,rt,e⟩:Tk).step w c.S m g=if m.cl=0 then(⟨.done,look,i,wd,gen,ps,rt,0⟩,m)else(⟨.back,look,i,wd,gen,ps,rt,e⟩,m):=rfl
 have c0:claims ⟨.check,look,i,wd,gen,ps,rt,e⟩:=.inl rfl;by_cases hc:m.cl=0
 ·rw[if_pos hc]at h
  exact eZ h (.told rfl hc c0 rfl rfl rfl rfl)
 ·rw[if_neg hc]at h
  exact eZ h (.calm (aY m) ⟨λ_=>c0,λ_=>.inr (.inr (.inr (.inl rfl)))⟩ rfl rfl (by simp))
theorem afn:o9 c w m g ⟨.back,look,i,wd,gen,ps,rt,e⟩:=by
 have h:(⟨.back,look,i,wd,gen,ps,rt,e⟩:Tk).step w c.S m g=if(m.sl i).st=3/\(m.sl i).own=w/\(m.sl i).gen=gen then(⟨.go,look,i,wd,gen,ps,Rt.new i (m.sl i),e⟩,m)else(⟨.done,look,i,wd,gen,ps,rt,5⟩,m):=rfl
 have c0:claims ⟨.back,look,i,wd,gen,ps,rt,e⟩:=.inr (.inr (.inr (.inl rfl)));by_cases hc:(m.sl i).st=3/\(m.sl i).own=w/\(m.sl i).gen=gen
 ·rw[if_pos hc]at h
  exact eZ h (.calm (aY m) ⟨λ_=>c0,λ_=>.inr (.inr (.inr (.inr ⟨rfl,rfl⟩)))⟩ rfl rfl (by simp))
 ·rw[if_neg hc]at h
  exact eZ h (.lost c0 (gD (by simp) (by simp) (by simp) (by simp) (by simp)) (λ_=>by grind) rfl (λ_ _=>rfl) (.inl ⟨rfl,hc⟩))
theorem abC:o9 c w m g ⟨.grant,look,i,wd,gen,ps,rt,e⟩:=by
 have h:(⟨.grant,look,i,wd,gen,ps,rt,e⟩:Tk).step w c.S m g=(⟨.eG,look,i,m.sl i,gen,ps,rt,e⟩,m):=rfl;exact eZ h (.free (aY m) (gD (by simp) (by simp) (by simp) (by simp) (by simp)) (gD (by simp) (by simp) (by simp) (by simp) (by simp)) (by simp))
theorem YT:o9 c w m g ⟨.eG,look,i,wd,gen,ps,rt,e⟩:=by
 have h:(⟨.eG,look,i,wd,gen,ps,rt,e⟩:Tk).step w c.S m g=match az wd 16 w 0 with
  |none=>(⟨.done,look,i,wd,gen,ps,rt,5⟩,m)
  |some n=>if m.sl i=wd then(⟨if n.st=3 then .check else .bM,look,i,n,n.gen,ps,rt,e⟩,m.set i n)else(⟨.grant,look,i,wd,gen,ps,rt,e⟩,m):=rfl
 have n0:¬claims ⟨.eG,look,i,wd,gen,ps,rt,e⟩:=gD (by simp) (by simp) (by simp) (by simp) (by simp)
 split at h
 ·exact eZ h (.fin (aY m) n0 rfl (by grind))
 ·split at h
  ·rename_i n hn hm
   by_cases h3:n.st=3
   ·rw[if_pos h3]at h
    exact eZ h (zn (.inr (.inr ⟨rfl,h3⟩)) hn hm n0 (.inl rfl) (by simp) rfl rfl)
   ·rw[if_neg h3]at h
    have k:=(eT hn).2.2.2.2.2.2.2.2.2.2.2.2.2.2.2.1 rfl;exact eZ h (.free (jC hm h3 (by omega)) n0 (gD (by simp) (by simp) (by simp) (by simp) (by simp)) (by simp))
  ·exact eZ h (.free (aY m) n0 (gD (by simp) (by simp) (by simp) (by simp) (by simp)) (by simp))
theorem DL{r:Rt}(h:r.st≠.swap):Calm m (r.step m).2:=by
 obtain⟨i,wd,ep,st,sw⟩:=r;cases st with
 |swap=>exact absurd rfl h
 |look=>exact aY m
 |iI=>
  unfold Rt.step;dsimp only;split
  ·split
   ·rename_i n hn hm
    have k:=(eT hn).2.2.2.2.2.2.2.2.2.2.2.2.2.2.2.2 rfl;grind [jC]
   ·exact aY m
  ·exact aY m
 |jk=>exact⟨rfl,λ_=>.inl rfl⟩
 |done=>exact aY m
theorem ajr(hr:pY c rt)(hi:rt.i=i)(hw:Uo w gen rt):o9 c w m g ⟨.go,look,i,wd,gen,ps,rt,e⟩:=by
 have h:(⟨.go,look,i,wd,gen,ps,rt,e⟩:Tk).step w c.S m g=if(rt.step m).1.st=.done then(if(rt.step m).1.sw then(⟨.done,look,i,wd,gen,ps,(rt.step m).1,5⟩,(rt.step m).2)else(⟨.back,look,i,wd,gen,ps,(rt.step m).1,e⟩,(rt.step m).2))else(⟨.go,look,i,wd,gen,ps,(rt.step m).1,e⟩,(rt.step m).2):=rfl
 by_cases hs:rt.st=.swap
 ·have c0:claims ⟨.go,look,i,wd,gen,ps,rt,e⟩:=.inr (.inr (.inr (.inr ⟨rfl,hs⟩)))
  obtain⟨hn,hf⟩:=hr.sw hs;obtain⟨n,hn⟩:=Option.isSome_iff_exists.1 hn;have mi:=hw.1 hs;obtain⟨ri,aA,rep,BZ,aF⟩:=rt;subst hs;subst hf;subst hi
  have er:(⟨ri,aA,rep,.swap,false⟩:Rt).step m=if m.sl ri=aA then(⟨ri,n,rep,.look,true⟩,m.set ri n)else(⟨ri,aA,rep,.done,false⟩,m):=by
   unfold Rt.step;rw[hn]
  rw[er]at h;by_cases hm:m.sl ri=aA
  ·rw[if_pos hm]at h
   have k:=(eT hn).2.2.2.2.2.2.2.2.2.2.2.1 rfl;refine eZ h (.lost c0 ?_ (λk=>by cases k) rfl (λj hj=>uf hj) (.inr ⟨?_,?_⟩))
   ·rintro(k|k|k|k|k)
    ·cases k
    ·cases k
    ·cases k
    ·cases k
    ·cases k.2
   ·unfold gU;rw[hm];exact mi
   ·rw[wh];omega
  ·rw[if_neg hm,if_pos rfl,if_neg (show¬false=true by decide)]at h
   exact eZ h (.calm (aY m) ⟨λ_=>c0,λ_=>.inr (.inr (.inr (.inl rfl)))⟩ rfl rfl (by simp))
 ·have n0:¬claims ⟨.go,look,i,wd,gen,ps,rt,e⟩:=by
   rintro(k|k|k|k|k)
   ·cases k
   ·cases k
   ·cases k
   ·cases k
   ·exact hs k.2
  have cm:=DL (m:=m) hs;by_cases hd:(rt.step m).1.st=.done
  ·have hsw:(rt.step m).1.sw=true:=by
    have:=hw.2 hs;obtain⟨ri,aA,rep,BZ,aF⟩:=rt;cases BZ with
    |swap=>exact absurd rfl hs
    |look=>cases hd
    |iI=>exact absurd hd (by unfold Rt.step;dsimp only;split;split<;>simp;simp)
    |jk=>exact this
    |done=>exact this
   rw[if_pos hd,if_pos hsw]at h;exact eZ h (.fin cm n0 rfl (by show(5:Int)≠0;decide))
  ·rw[if_neg hd]at h
   refine eZ h (.free cm n0 ?_ (by simp))
   rintro(k|k|k|k|k)
   ·cases k
   ·cases k
   ·cases k
   ·cases k
   ·exact(UY hw hd).2.1 k.2
theorem KM{t}(T:pW c w t)(W:Q3 w t)(hd:t.st≠.done):o9 c w m g t:=by
 obtain⟨st,look,i,wd,gen,ps,rt,e⟩:=t;cases st with
 |closed=>exact YU
 |own=>exact ag9
 |gp=>exact afj
 |any=>exact ag'
 |anyS=>exact afo
 |move=>exact afk
 |dD=>exact abB
 |free=>exact afl
 |dQ=>exact abD
 |bM=>exact afm
 |check=>exact abE
 |back=>exact afn
 |go=>exact ajr T.1 (W rfl).1 (W rfl).2
 |grant=>exact abC
 |eG=>exact YT
 |done=>grind
end
noncomputable section
open Classical
variable{c:Cn} {s s':Ms} {w:Nat} {h:Hd} {m:Mm} {g:Bool}
theorem fV{t:Tk}(h:t.st≠.go):Q3 w t:=λk=>absurd k h
theorem ak4{t:Tk}(W:Q3 w t)(hd:t.st≠.done):Q3 w (t.step w c.S m g).1:=by
 obtain⟨st,look,i,wd,gen,ps,rt,e⟩:=t;cases st with
 |closed=>unfold Tk.step;dsimp only;split<;>exact fV (by simp[Tk.fin,Tk.search])
 |own=>
  rw[Co _ rfl];split
  ·exact fV (by simp)
  ·split<;>exact fV (by simp)
 |any=>
  rw[any_eq _ rfl];split
  ·exact fV (by simp)
  ·split<;>exact fV (by simp)
 |free=>
  rw[free_eq _ rfl];split
  ·exact fV (by simp)
  ·split<;>exact fV (by simp)
 |move=>
  rw[yZ _ rfl];split
  ·split<;>exact fV (by simp)
  ·split<;>exact fV (by simp)
 |gp=>unfold Tk.step;dsimp only;split<;>exact fV (by simp)
 |anyS=>
  unfold Tk.step;dsimp only;split
  ·split<;>exact fV (by simp[Tk.search])
  ·exact fV (by simp)
 |dQ=>unfold Tk.step;dsimp only;split<;>exact fV (by simp)
 |dD=>
  unfold Tk.step;dsimp only;split
  ·split<;>exact fV (by simp)
  ·exact fV (by simp)
 |bM=>
  unfold Tk.step;dsimp only;split
  ·split<;>exact fV (by simp[Tk.fin])
  ·exact fV (by simp[Tk.fin])
 |check=>unfold Tk.step;dsimp only;split<;>exact fV (by simp[Tk.fin])
 |back=>
  unfold Tk.step;dsimp only;split
  ·rename_i k
   exact λ_=>⟨rfl,λ_=>k,λq=>absurd rfl q⟩
  ·exact fV (by simp[Tk.fin])
 |go=>
  unfold Tk.step;dsimp only;split
  ·split<;>exact fV (by simp[Tk.fin])
  ·rename_i k
   obtain⟨a,b⟩:=W rfl;obtain⟨x,y,z⟩:=UY b k;exact λ_=>⟨z.trans a,x⟩
 |grant=>exact fV (by simp[Tk.step])
 |eG=>
  unfold Tk.step;dsimp only;split
  ·exact fV (by simp[Tk.fin])
  ·split
   ·refine fV ?_
    dsimp only;split<;>simp
   ·exact fV (by simp)
 |done=>exact absurd rfl hd
end
noncomputable section
open Classical
variable{c:Cn} {s s':Ms} {w:Nat} {h:Hd} {m:Mm}
inductive Q6(c:Cn)(w:Nat)(m m':Mm)(g g':Gv):Prop
 |calm:Calm m m'->¬(g.st=.go/\g.rt.sw=true)->g'.st≠.done->¬(g'.st=.go/\g'.rt.sw=true)->Q6 c w m m' g g'
 |fin:m'=m->¬(g.st=.go/\g.rt.sw=true)->g'.st=.done->g'.e≠0->Q6 c w m m' g g'
 |back:¬(g.st=.go/\g.rt.sw=true)->0<=g.i->g.i<c.S->gU m g.i.toNat w g.gen->(m'.sl g.i.toNat).st≠3->(∀i,i≠g.i.toNat->m'.sl i=m.sl i)->m'.cl=m.cl->
   (g'.st=.done/\g'.e=0\/g'.st=.go/\g'.rt.sw=true)->Q6 c w m m' g g'
 |on:Calm m m'->g.st=.go->g.rt.sw=true->0<=g.i->g.i<c.S->(g'.st=.done/\g'.e=0\/g'.st=.go/\g'.rt.sw=true)->Q6 c w m m' g g'
def GK(c:Cn)(w:Nat)(m:Mm)(g:Gv):Prop:=Q6 c w m (g.step c w m).2 g (g.step c w m).1/\(g.step c w m).1.i=g.i/\(g.step c w m).1.gen=g.gen/\((g.step c w m).1.st≠.done->GvW c w (g.step c w m).1)
theorem ny{g g':Gv}{m':Mm}(e:g.step c w m=(g',m'))(k:Q6 c w m m' g g')(hi:g'.i=g.i)(hg:g'.gen=g.gen)(W:g'.st≠.done->GvW c w g'):GK c w m g:=by
 grind [GK]
theorem KS{g:Gv}(T:yJ c w g)(W:GvW c w g)(hd:g.st≠.done):GK c w m g:=by
 obtain⟨i,gen,dc,st,cl,wd,rt,e⟩:=g;cases st with
 |closed=>
  have h:(⟨i,gen,dc,.closed,cl,wd,rt,e⟩:Gv).step c w m=if m.cl=2 then(⟨i,gen,dc,.done,m.cl,wd,rt,5⟩,m)else(⟨i,gen,dc,.look,m.cl,wd,rt,e⟩,m):=rfl
  split at h
  ·exact ny h (.fin rfl (by simp) rfl (by grind)) rfl rfl (λk=>absurd rfl k)
  ·exact ny h (.calm (aY m) (by simp) (by simp) (by simp)) rfl rfl (λ_=>⟨λk=>(by cases k),λk=>(by cases k)⟩)
 |look=>
  have h:(⟨i,gen,dc,.look,cl,wd,rt,e⟩:Gv).step c w m=if 0<=i/\i<c.S then
    (if¬((m.sl i.toNat).st=3/\(m.sl i.toNat).own=w/\(m.sl i.toNat).gen=gen)then(⟨i,gen,dc,.done,cl,m.sl i.toNat,rt,2⟩,m)else if(m.sl i.toNat).str≠0/\dc=false then(⟨i,gen,dc,.done,cl,m.sl i.toNat,rt,8⟩,m)else
    if dc=true\/(m.sl i.toNat).brk=true\/c.u<=(m.sl i.toNat).uses\/¬(cl=(0:Int))then(⟨i,gen,dc,.go,cl,m.sl i.toNat,Rt.new i.toNat (m.sl i.toNat),e⟩,m)else(⟨i,gen,dc,.rest,cl,m.sl i.toNat,rt,e⟩,m))
   else(⟨i,gen,dc,.done,cl,wd,rt,2⟩,m):=rfl
  split at h
  ·rename_i hi
   split at h
   ·exact ny h (.fin rfl (by simp) rfl (by show(2:Int)≠0;decide)) rfl rfl (λk=>absurd rfl k)
   ·rename_i h1
    have h1:=Decidable.not_not.1 h1;split at h
    ·exact ny h (.fin rfl (by simp) rfl (by show(8:Int)≠0;decide)) rfl rfl (λk=>absurd rfl k)
    ·split at h
     ·exact ny h (.calm (aY m) (by simp) (by simp) (by simp[Rt.new])) rfl rfl (λ_=>⟨λk=>(by cases k),λ_=>⟨hi.1,hi.2,rfl,λ_=>h1,λk=>absurd rfl k⟩⟩)
     ·exact ny h (.calm (aY m) (by simp) (by simp) (by simp)) rfl rfl (λ_=>⟨λ_=>⟨hi.1,hi.2,h1⟩,λk=>(by cases k)⟩)
  ·exact ny h (.fin rfl (by simp) rfl (by show(2:Int)≠0;decide)) rfl rfl (λk=>absurd rfl k)
 |rest=>
  obtain⟨a,b,mi⟩:=W.1 rfl
  have h:(⟨i,gen,dc,.rest,cl,wd,rt,e⟩:Gv).step c w m=match az wd 4 w 0 with
   |some n=>if m.sl i.toNat=wd then(⟨i,gen,dc,.done,cl,wd,rt,0⟩,m.set i.toNat n)else(⟨i,gen,dc,.look,cl,wd,rt,e⟩,m)
   |none=>(⟨i,gen,dc,.look,cl,wd,rt,e⟩,m):=rfl
  split at h
  ·split at h
   ·rename_i n hn hm
    have k:=(eT hn).2.2.2.2.1 rfl;refine ny h (.back (by simp) a b ?_ ?_ (λj hj=>uf hj) rfl (.inl ⟨rfl,rfl⟩)) rfl rfl (λk=>absurd rfl k)
    ·unfold gU;rw[show m.sl (⟨i,gen,dc,.rest,cl,wd,rt,e⟩:Gv).i.toNat=wd from hm];exact mi
    ·show((m.set i.toNat n).sl i.toNat).st≠3
     rw[wh];omega
   ·exact ny h (.calm (aY m) (by simp) (by simp) (by simp)) rfl rfl (λ_=>⟨λk=>(by cases k),λk=>(by cases k)⟩)
  ·exact ny h (.calm (aY m) (by simp) (by simp) (by simp)) rfl rfl (λ_=>⟨λk=>(by cases k),λk=>(by cases k)⟩)
 |go=>
  obtain⟨a,b,hi,rw'⟩:0<=i/\i<c.S/\rt.i=i.toNat/\Uo w gen rt:=W.2 rfl;have T:pY c rt:=T;have h:(⟨i,gen,dc,.go,cl,wd,rt,e⟩:Gv).step c w m=if(rt.step m).1.st=.done then(if(rt.step m).1.sw then(⟨i,gen,dc,.done,cl,wd,(rt.step m).1,0⟩,(rt.step m).2)else(⟨i,gen,dc,.look,cl,wd,(rt.step m).1,e⟩,(rt.step m).2))else(⟨i,gen,dc,.go,cl,wd,(rt.step m).1,e⟩,(rt.step m).2):=rfl
  by_cases hs:rt.st=.swap
  ·obtain⟨hn,hf⟩:=T.sw hs
   obtain⟨n,hn⟩:=Option.isSome_iff_exists.1 hn;have mi:=rw'.1 hs;have rtw:=UY (m:=m) rw';obtain⟨ri,aA,rep,BZ,aF⟩:=rt;have hs:BZ=.swap:=hs;have hf:aF=false:=hf;have hi2:ri=i.toNat:=hi;clear hi;subst hs;subst hf;subst hi2;have hn:az aA 11 0 4095=some n:=hn;have mi:mine w gen aA:=mi
   have er:(⟨i.toNat,aA,rep,.swap,false⟩:Rt).step m=if m.sl i.toNat=aA then(⟨i.toNat,n,rep,.look,true⟩,m.set i.toNat n)else(⟨i.toNat,aA,rep,.done,false⟩,m):=by
    unfold Rt.step;dsimp only;rw[hn]
   rw[er]at h rtw;by_cases hm:m.sl i.toNat=aA
   ·rw[if_pos hm]at h rtw
    rw[if_neg (by simp)]at h
    have k:=(eT hn).2.2.2.2.2.2.2.2.2.2.2.1 rfl;refine ny h (.back (by simp) a b ?_ ?_ (λj hj=>uf hj) rfl (.inr ⟨rfl,rfl⟩)) rfl rfl (λ_=>⟨λk=>(by cases k),λ_=>⟨a,b,rfl,(rtw (by simp)).1⟩⟩)
    ·unfold gU;rw[show m.sl (⟨i,gen,dc,.go,cl,wd,⟨i.toNat,aA,rep,.swap,false⟩,e⟩:Gv).i.toNat=aA from hm];exact mi
    ·rw[wh];omega
   ·rw[if_neg hm,if_pos rfl,if_neg (show¬false=true by decide)]at h
    exact ny h (.calm (aY m) (by simp) (by simp) (by simp)) rfl rfl (λ_=>⟨λk=>(by cases k),λk=>(by cases k)⟩)
  ·have cm:=DL (m:=m) hs
   have Xr:=rw'.2 hs
   have hsw:(rt.step m).1.sw=true:=by
    obtain⟨ri,aA,rep,BZ,aF⟩:=rt;subst Xr;cases BZ with
    |swap=>exact absurd rfl hs
    |look=>rfl
    |iI=>unfold Rt.step;dsimp only;split;(split<;>rfl);rfl
    |jk=>rfl
    |done=>rfl
   by_cases hd:(rt.step m).1.st=.done
   ·rw[if_pos hd,if_pos hsw]at h
    exact ny h (.on cm rfl Xr a b (.inl ⟨rfl,rfl⟩)) rfl rfl (λk=>absurd rfl k)
   ·rw[if_neg hd]at h
    obtain⟨x,y,z⟩:=UY rw' hd;exact ny h (.on cm rfl Xr a b (.inr ⟨rfl,hsw⟩)) rfl rfl (λ_=>⟨λk=>(by cases k),λ_=>⟨a,b,z.trans hi,x⟩⟩)
 |done=>exact absurd rfl hd
end
noncomputable section
open Classical
variable{c:Cn} {s s':Ms} {w:Nat} {h:Hd} {m:Mm}
inductive ZV(c:Cn)(w:Nat)(m m':Mm)(g g':Sm):Prop
 |calm:m'=m->(g'.st=.done->g'.e≠0)->ZV c w m m' g g'
 |swap (n:Nat):g'.st=.done->g'.e=0->g'.num=n->n<8->0<=g.i->g.i<c.S->gU m g.i.toNat w g.gen->gU m' g.i.toNat w g.gen->m'.cl=m.cl->(∀i,i≠g.i.toNat->m'.sl i=m.sl i)->
   (if g.op then(m.sl g.i.toNat).str/2^n%2≠1/\(m'.sl g.i.toNat).str=(m.sl g.i.toNat).str+2^n/\(n:Int)<c.st else(m.sl g.i.toNat).str/2^n%2=1/\(m'.sl g.i.toNat).str=(m.sl g.i.toNat).str-2^n)->ZV c w m m' g g'
theorem Kg{g:Sm}(M:bQ c m)(T:Bc c w g)(W:ZU c w g)(hd:g.st≠.done):
  ZV c w m (g.step c w m).2 g (g.step c w m).1/\(g.step c w m).1.i=g.i/\(g.step c w m).1.gen=g.gen/\(g.step c w m).1.op=g.op/\((g.step c w m).1.st≠.done->ZU c w (g.step c w m).1):=by
 obtain⟨op,i,gen,n,st,wd,nx,num,e⟩:=g
 have of:∀{g':Sm} {m':Mm},(⟨op,i,gen,n,st,wd,nx,num,e⟩:Sm).step c w m=(g',m')->ZV c w m m' ⟨op,i,gen,n,st,wd,nx,num,e⟩ g'->g'.i=i->g'.gen=gen->g'.op=op->(g'.st≠.done->ZU c w g')->
   ZV c w m ((⟨op,i,gen,n,st,wd,nx,num,e⟩:Sm).step c w m).2 ⟨op,i,gen,n,st,wd,nx,num,e⟩ ((⟨op,i,gen,n,st,wd,nx,num,e⟩:Sm).step c w m).1/\((⟨op,i,gen,n,st,wd,nx,num,e⟩:Sm).step c w m).1.i=i/\((⟨op,i,gen,n,st,wd,nx,num,e⟩:Sm).step c w m).1.gen=gen/\((⟨op,i,gen,n,st,wd,nx,num,e⟩:Sm).step c w m).1.op=op/\(((⟨op,i,gen,n,st,wd,nx,num,e⟩:Sm).step c w m).1.st≠.done->ZU c w ((⟨op,i,gen,n,st,wd,nx,num,e⟩:Sm).step c w m).1):=by
  grind
 cases st with
 |closed=>
  have q:(⟨op,i,gen,n,.closed,wd,nx,num,e⟩:Sm).step c w m=if m.cl=2 then(⟨op,i,gen,n,.done,wd,nx,num,5⟩,m)else(⟨op,i,gen,n,.look,wd,nx,num,e⟩,m):=rfl
  split at q
  ·exact of q (.calm rfl (λ_=>by show(5:Int)≠0;decide)) rfl rfl rfl (λk=>absurd rfl k)
  ·exact of q (.calm rfl (λk=>by cases k)) rfl rfl rfl (λ_ k=>by cases k)
 |look=>
  have q:(⟨op,i,gen,n,.look,wd,nx,num,e⟩:Sm).step c w m=if 0<=i/\i<c.S then
    (if¬((m.sl i.toNat).st=3/\(m.sl i.toNat).own=w/\(m.sl i.toNat).gen=gen)then(⟨op,i,gen,n,.done,m.sl i.toNat,nx,num,2⟩,m)else if op=true/\(m.sl i.toNat).brk=true then(⟨op,i,gen,n,.done,m.sl i.toNat,nx,num,9⟩,m)else
     match(⟨op,i,gen,n,.look,m.sl i.toNat,nx,num,e⟩:Sm).next c w (m.sl i.toNat)with
     |none=>(⟨op,i,gen,n,.done,m.sl i.toNat,nx,num,if op then 10 else 11⟩,m)
     |some y=>(⟨op,i,gen,n,.swap,m.sl i.toNat,y,if op then bA (m.sl i.toNat).str else n,e⟩,m))
   else(⟨op,i,gen,n,.done,wd,nx,num,2⟩,m):=rfl
  split at q
  ·rename_i hi
   split at q
   ·exact of q (.calm rfl (λ_=>by show(2:Int)≠0;decide)) rfl rfl rfl (λk=>absurd rfl k)
   ·rename_i hm
    have hm:=Decidable.not_not.1 hm;split at q
    ·exact of q (.calm rfl (λ_=>by show(9:Int)≠0;decide)) rfl rfl rfl (λk=>absurd rfl k)
    ·split at q
     ·refine of q (.calm rfl (fun _=> ?_)) rfl rfl rfl (fun k=>absurd rfl k)
      show(if op then(10:Int)else 11)≠0
      split<;>decide
     ·rename_i y hy
      exact of q (.calm rfl (λk=>by cases k)) rfl rfl rfl (λ_ _=>⟨hi.1,hi.2,hm,hy,rfl⟩)
  ·exact of q (.calm rfl (λ_=>by show(2:Int)≠0;decide)) rfl rfl rfl (λk=>absurd rfl k)
 |swap=>
  have q:(⟨op,i,gen,n,.swap,wd,nx,num,e⟩:Sm).step c w m=if m.sl i.toNat=wd then(⟨op,i,gen,n,.done,wd,nx,num,0⟩,m.set i.toNat nx)else(⟨op,i,gen,n,.look,wd,nx,num,e⟩,m):=rfl
  obtain⟨i0,i1,mi,hn,KO⟩:=W rfl;split at q
  ·rename_i hm
   have hm':m.sl i.toNat=wd:=hm;have F:Facts wd:=by rw[<-hm'];exact M.1 _ (by have:i<c.S:=i1;have:0<=i:=i0;omega)
   have hl:gU m i.toNat w gen:=by unfold gU;rw[hm'];exact mi
   have hset:(m.set i.toNat nx).sl i.toNat=nx:=wh;cases op with
   |true=>
    have hn:az wd 14 w c.st=some nx:=hn;have KO:num=bA wd.str:=KO;obtain⟨a,b,d,f1,f2,f3,_⟩:=Tu hn;have st3:=((eT hn).2.2.2.2.2.2.2.2.2.2.2.2.2.1 rfl).2;obtain⟨l0,l1⟩:=afa f2 F.str.1;refine of q (.swap (bA wd.str).toNat rfl rfl ?_ (by omega) i0 i1 hl ?_ rfl (λj hj=>uf hj) ?_) rfl rfl rfl (λk=>absurd rfl k)
    ·show num=_;rw[KO];omega
    ·unfold gU
     show((m.set i.toNat nx).sl i.toNat).st=3/\_;rw[hset];exact⟨st3,b,d.trans mi.2.2⟩
    ·rw[hset,hm']
     exact⟨l1,f3,by omega⟩
   |false=>
    have hn:az wd 15 w n=some nx:=hn;have KO:num=n:=KO;obtain⟨a,b,d,f1,f2,f3,f4,_⟩:=Tt hn;have st3:=((eT hn).2.2.2.2.2.2.2.2.2.2.2.2.2.2.1 rfl).2;refine of q (.swap n.toNat rfl rfl ?_ (by omega) i0 i1 hl ?_ rfl (λj hj=>uf hj) ?_) rfl rfl rfl (λk=>absurd rfl k)
    ·show num=_;omega
    ·unfold gU
     rw[hset];exact⟨st3,b,d.trans mi.2.2⟩
    ·rw[hset,hm']
     exact⟨f3,f4⟩
  ·exact of q (.calm rfl (λk=>by cases k)) rfl rfl rfl (λ_ k=>by cases k)
 |done=>exact absurd rfl hd
end
noncomputable section
open Classical
variable{c:Cn} {s s':Ms} {w:Nat} {h:Hd} {m:Mm}
theorem lu{q:Qu}:Calm m (q.step c w m).2:=by
 have e:(q.step c w m).2.cl=m.cl/\(q.step c w m).2.sl=m.sl:=by
  obtain⟨st,ln,first,why,e⟩:=q
  unfold Qu.step;cases st<;>dsimp only
  ·grind
  ·split<;>exact⟨rfl,rfl⟩
  ·split<;>exact⟨rfl,rfl⟩
  ·split<;>exact⟨rfl,rfl⟩
  ·split<;>exact⟨rfl,rfl⟩
  ·split<;>exact⟨rfl,rfl⟩
  ·split<;>exact⟨rfl,rfl⟩
  ·exact⟨rfl,rfl⟩
  grind
 exact⟨e.1,λi=>.inl (by rw[e.2])⟩
end
noncomputable section
open Classical
variable{c:Cn} {s s':Ms} {w:Nat} {h:Hd} {m:Mm}
def UE(s:Ms)(w:Nat)(p:Option Bool)(a:bR)(m':Mm):Ms:=
 match p with
 |some b=>(s.mem m').put w ((s.ws w).to (.parked b))
 |none=>{(s.mem m').put w ((s.ws w).to .rest)with ev:=⟨true,w,(s.ws w).ask,a⟩::s.ev}
theorem BM{t}{p}{a}(hp:(s.ws w).ph=.ax t p a):
  ai c s w=if(t.step c w s.m).1.st=.done then UE s w p a (t.step c w s.m).2 else(s.mem (t.step c w s.m).2).put w ((s.ws w).to (.ax (t.step c w s.m).1 p a)):=by
 unfold ai;dsimp only;rw[hp];rfl
end
noncomputable section
open Classical
variable{c:Cn} {s s':Ms} {w:Nat} {h:Hd} {m:Mm}
def Lj(m:Mm):Prop:=0<=m.cl/\m.cl<=2
theorem BN{t:Td}:(t.step c w m).2.cl=m.cl:=by
 have swp:∀{d own:Int} {t:Td} {m':Mm},t.swap m d own=some m'->m'.cl=m.cl:=by
  intro d own t m' e;unfold Td.swap at e;split at e
  ·split at e
   ·cases e;rfl
   ·cases e
  ·cases e
 have rt:∀r:Rt,(r.step m).2.cl=m.cl:=by
  intro r;obtain⟨i,wd,ep,st,sw⟩:=r;unfold Rt.step;cases st<;>dsimp only
  ·split
   ·split<;>rfl
   ·rfl
  ·split
   ·split<;>rfl
   ·rfl
 obtain⟨st,ep,cl,qu,look,i,wd,other,head,rtt⟩:=t;unfold Td.step;cases st<;>dsimp only
 ·rfl
 ·split
  ·rfl
  ·split<;>rfl
 ·split<;>exact rt rtt
 ·split
  ·rfl
  ·split<;>rfl
 ·split<;>rfl
 ·cases hx:(⟨.clear,ep,cl,qu,look,i,wd,other,head,rtt⟩:Td).swap m 12 w with
  |none=>rfl
  |some m'=>exact swp hx
 ·split<;>rfl
 ·split
  ·rfl
  ·split<;>rfl
 ·split
  ·rename_i m' hx;exact swp hx
  ·rfl
 ·split<;>rfl
 ·rfl
 ·split
  ·rename_i m' hx;exact swp hx
  ·rfl
 ·rfl
theorem SX:MN m Td.new:=⟨λk=>(by cases k),λk=>(by cases k)⟩
theorem iE{t}(h1:t.st≠.dL)(h2:t.st≠.go):MN m t:=⟨λk=>absurd k h1,λk=>absurd k h2⟩
theorem acX{m'}{t}(h:MN m t)(hm:m.cl=2->m'.cl=2):MN m' t:=
 ⟨λk=>⟨(h.1 k).1,(h.1 k).2.1,λq=>hm ((h.1 k).2.2 q)⟩,λk=>⟨(h.2 k).1,(h.2 k).2.1,λq=>hm ((h.2 k).2.2.1 q),λq r=>hm ((h.2 k).2.2.2 q r)⟩⟩
theorem aao{t}(C:Lj m)(T:pX c t)(W:MN m t):MN (t.step c w m).2 (t.step c w m).1:=by
 refine acX (m:=m) ?_ (by rw[BN];exact id)
 obtain⟨st,ep,cl,qu,look,i,wd,other,head,rt⟩:=t;cases st with
 |ep=>exact iE (by simp[Td.step]) (by simp[Td.step])
 |pin=>exact iE (by simp[Td.step]) (by simp[Td.step])
 |cl=>exact⟨λ_=>⟨rfl,C.2,id⟩,λk=>by cases k⟩
 |dL=>
  have e:=Fu (c:=c) (m:=m) (w:=w) (ep:=ep) (cl:=cl) (qu:=qu) (look:=look) (i:=i) (wd:=wd) (other:=other) (head:=head) (rt:=rt) _ rfl;rw[e];obtain⟨W1,W2,W3⟩:=W.1 rfl;have W1:look.ow=cl:=W1;have W2:cl<=2:=W2;have W3:cl=2->m.cl=2:=W3;have T1:look.fd=none:=T.1;have T2:look.kd=4:=T.2
  have key:(look.step c.S m).ow=cl/\∀x,(look.step c.S m).fd=some x->x.st=3->m.cl=2:=by
   rw[KY T1];split
   ·exact⟨W1,λx k=>by rw[T1]at k;cases k⟩
   ·split
    ·rename_i hf
     refine⟨W1,λx k h3=> ?_⟩
     have k:some (m.sl look.at_)=some x:=k;cases k;rw[T2,W1]at hf;rcases hf with k|k
     ·omega
     ·exact W3 (by have:=k.2;omega)
    ·exact⟨W1,λx k=>by have k:look.fd=some x:=k;rw[T1]at k;cases k⟩
  cases hx:(look.step c.S m).fd with
  |some x=>exact⟨λk=>(by cases k),λ_=>⟨W2,key.1,W3,λ_ h3=>key.2 x hx h3⟩⟩
  |none=>
   dsimp only;split
   ·exact iE (by simp) (by simp)
   ·exact⟨λ_=>⟨key.1,W2,W3⟩,λk=>by cases k⟩
 |go=>
  rw[go_eq];obtain⟨W1,W2,W3,W4⟩:=W.2 rfl;have W1:cl<=2:=W1;have W2:look.ow=cl:=W2;have W3:cl=2->m.cl=2:=W3;have T:pY c rt/\look.at_<c.S/\look.kd=4:=T;obtain⟨_,r2,_⟩:=vO (m:=m) T.1;split
  ·exact⟨λ_=>⟨W2,W1,W3⟩,λk=>by cases k⟩
  ·rename_i hd
   exact⟨λk=>(by cases k),λ_=>⟨W1,W2,W3,λq=>absurd q (r2 hd).2⟩⟩
 |old=>
  have e:=Pf (c:=c) (m:=m) (w:=w) (ep:=ep) (cl:=cl) (qu:=qu) (look:=look) (i:=i) (wd:=wd) (other:=other) (head:=head) (rt:=rt) _ rfl;rw[e];split
  ·dsimp only
   split<;>exact iE (by simp) (by simp)
  ·split
   ·dsimp only
    split<;>exact iE (by simp) (by simp)
   ·exact iE (by simp) (by simp)
 |pins=>
  unfold Td.step;dsimp only;split
  ·exact iE (by simp) (by simp)
  ·split<;>exact iE (by simp) (by simp)
 |clear=>exact iE (by simp[Td.step]) (by simp[Td.step])
 |line=>
  unfold Td.step;dsimp only;split<;>exact iE (by simp) (by simp)
 |some=>
  have e:=Ke (c:=c) (m:=m) (w:=w) (ep:=ep) (cl:=cl) (qu:=qu) (look:=look) (i:=i) (wd:=wd) (other:=other) (head:=head) (rt:=rt) _ rfl;rw[e];split
  ·exact iE (by simp) (by simp)
  ·split<;>exact iE (by simp) (by simp)
 |keep=>
  unfold Td.step;dsimp only;split<;>exact iE (by simp) (by simp)
 |pop=>
  unfold Td.step;dsimp only;split<;>exact iE (by simp) (by simp)
 |grant=>exact iE (by simp[Td.step]) (by simp[Td.step])
 |back=>
  unfold Td.step;dsimp only;split<;>exact iE (by simp) (by simp)
 |dR=>
  unfold Td.step;dsimp only;split<;>exact iE (by simp) (by simp)
 |eO=>exact iE (by simp[Td.step]) (by simp[Td.step])
 |again=>
  unfold Td.step;dsimp only;split<;>exact iE (by simp) (by simp)
 |done=>exact iE (by simp[Td.step]) (by simp[Td.step])
theorem kX{x:Wr}{a}(A:Ll c x.ask a):nW c m w (x.end_ a):=⟨SX,A⟩
theorem yh{x}{a}(h:a.e≠0):Ll c x a:=λk=>absurd k h
theorem WJ{x}{a}(h:5<=x.op):Ll c x a:=λ_=>⟨λk=>by omega,λk=>by omega,λk=>by omega⟩
theorem ak5{t}(T:pW c w t)(h:claims t):t.i<c.S:=by
 obtain⟨st,look,i,wd,gen,ps,rt,e⟩:=t;rcases h with h|h|h|h|h
 ·subst h;exact T
 ·subst h;exact T.2
 ·subst h;exact T.2.1
 ·subst h;exact T
 ·have h:=h.1
  subst h;exact T.2
theorem Za(c)(w)(s)(x)(t):∃s1:Ms,s1.m=s.m/\s1.ws=s.ws/\s1.ev=s.ev/\ak c w s x (.get t)=(
   let r:=t.step w c.S s.m (decide (t.st=.bM)&&s.next.1)
   if r.1.st=.done then
    (if r.1.e=3 then(if x.ask.wait then(s1.mem r.2).put w (x.to (.enters Qu.enter))else(s1.mem r.2).put w (x.to (.counts Tw.new)))
     else if r.1.e=0 then(s1.mem r.2).put w (x.end_ ⟨0,r.1.i,r.1.gen,0,0,0,0,0⟩)else(s1.mem r.2).put w (x.end_ (.err r.1.e)))
   else(s1.mem r.2).put w (x.to (.work (.get r.1)))):=by
 grind [ak]
theorem adT{k}(hp:(s.ws w).ph=.work k)(M:bQ c s.m)(T:Ba c w k)(W:QZ c w (s.ws w).ask k):nW c (ak c w s (s.ws w) k).m w ((ak c w s (s.ws w) k).ws w):=by
 have uw:∀(s':Ms) (x:Wr),(s'.put w x).ws w=x:=λs' x=>bD s' x
 cases k with
 |get t=>
  obtain⟨hop,W⟩:=W;have kk:∀g,Q3 w (t.step w c.S s.m g).1:=λg=>ak4 W T.2
  have ki:∀g,(t.step w c.S s.m g).1.st=.done->(t.step w c.S s.m g).1.e=0->(t.step w c.S s.m g).1.i<c.S:=by
   intro g hd he;have k:=KM (m:=s.m) (g:=g) T.1 W T.2;unfold o9 at k;cases k with
   |calm _ _ _ _ k5=>exact absurd hd k5
   |fin _ _ _ k4=>exact absurd he k4
   |free _ _ _ k4=>exact absurd hd k4
   |NL _ _ k3=>exact absurd hd k3
   |told _ _ k3 _ _ k6=>rw[k6];exact ak5 T.1 k3
   |lost _ _ k3=>exact absurd he (k3 hd)
  obtain⟨s1,_,_,_,h3⟩:=Za c w s (s.ws w) t;rw[h3];dsimp only;have kk:=kk (decide (t.st=.bM)&&s.next.1);have ki:=ki (decide (t.st=.bM)&&s.next.1);generalize t.step w c.S s.m (decide (t.st=.bM)&&s.next.1)=r at*;by_cases hd:r.1.st=.done
  ·rw[if_pos hd]
   by_cases e3:r.1.e=3
   ·rw[if_pos e3]
    split
    ·rw[uw];exact hop
    ·rw[uw];exact hop
   ·rw[if_neg e3]
    by_cases e0:r.1.e=0
    ·rw[if_pos e0,uw]
     refine kX λ_=>⟨λ_=>⟨Int.natCast_nonneg _,Int.ofNat_lt.2 (ki hd e0)⟩,λk=> ?_,λk=> ?_⟩
     ·rw[hop]at k;omega
     ·rw[hop]at k;omega
    ·rw[if_neg e0,uw];exact kX (yh e0)
  ·rw[if_neg hd,uw]
   exact⟨hop,kk⟩
 |give g=>
  obtain⟨hop,hi,hg,W⟩:=W;obtain⟨k,e1,e2,kW⟩:=KS (m:=s.m) T.1 W T.2;unfold ak;dsimp only;split
  ·rename_i hd
   rw[uw];by_cases he:(g.step c w s.m).1.e=0
   ·have rng:0<=g.i/\g.i<c.S:=by
     cases k with
     |calm _ _ k3=>exact absurd hd k3
     |fin _ _ _ k4=>exact absurd he k4
     |back _ k2 k3=>exact⟨k2,k3⟩
     |on _ _ _ k4 k5=>exact⟨k4,k5⟩
    rw[hi]at rng;exact kX λ_=>⟨λk=>by omega,λ_=>rng,λk=>by omega⟩
   ·exact kX (yh he)
  ·rename_i hd
   rw[uw];exact⟨hop,e1.trans hi,e2.trans hg,kW hd⟩
 |bg g=>
  obtain⟨hop,hi,hg,W⟩:=W;obtain⟨k,e1,e2,e3,kW⟩:=Kg (m:=s.m) M T.1 W T.2;unfold ak;dsimp only;split
  ·rename_i hd
   rw[uw];by_cases he:(g.step c w s.m).1.e=0
   ·cases k with
    |calm _ k2=>exact absurd he (k2 hd)
    |swap n _ _ k3 k4 k5 k6=>
     rw[hi]at k5 k6;refine kX λ_=>⟨λk=>by(rw[hop]at k;split at k<;>omega),λk=>by(rw[hop]at k;split at k<;>omega),λ_=>⟨k5,k6,?_⟩⟩
     show 0<=(if(g.step c w s.m).1.e=0 then(g.step c w s.m).1.num else 0)/\(if(g.step c w s.m).1.e=0 then(g.step c w s.m).1.num else 0)<=7
     rw[if_pos he,k3];omega
   ·exact kX (yh he)
  ·rename_i hd
   rw[uw];exact⟨by rw[e3];exact hop,e1.trans hi,e2.trans hg,kW hd⟩
 |close d=>
  have hop:5<=(s.ws w).ask.op:=W;cases d with
  |none=>
   unfold ak;dsimp only;rw[uw];exact hop
  |some q=>
   unfold ak;dsimp only;split
   ·rw[uw];exact kX (WJ hop)
   ·rw[uw];exact hop
 |stats t=>
  have hop:5<=(s.ws w).ask.op:=W;unfold ak;dsimp only;split
  ·rw[uw];exact kX (WJ hop)
  ·rw[uw];exact hop
 |aS r=>
  obtain⟨hop,W⟩:=W;obtain⟨st,look,many,rt⟩:=r;cases st with
  |look=>
   unfold ak;dsimp only;split
   ·rw[uw];exact⟨hop,λk=>by cases k⟩
   ·split
    ·rw[uw];exact kX (WJ hop)
    ·rw[uw];exact⟨hop,λk=>by cases k⟩
  |ask=>
   unfold ak;dsimp only;split
   ·rw[uw];exact⟨hop,λk=>by cases k⟩
   ·rw[uw];exact⟨hop,λ_ _=>T.2.2.2.2⟩
  |mark=>
   unfold ak;dsimp only;split
   ·split
    ·rw[uw];exact⟨hop,λk=>by cases k⟩
    ·rw[uw];exact⟨hop,λk=>by cases k⟩
   ·rw[uw];exact⟨hop,λk=>by cases k⟩
  |dB=>
   unfold ak;dsimp only;split
   ·rw[uw];exact⟨hop,λk=>by cases k⟩
   ·rename_i hd
    rw[uw];have T:=T.2.2.2;obtain⟨_,r2,_⟩:=vO T;exact⟨hop,λ_ q=>absurd q (r2 hd).2⟩
end
noncomputable section
open Classical
variable{c:Cn} {s s':Ms} {w:Nat} {h:Hd} {m:Mm}
def Rc(m m':Mm):Prop:=m'.cl=m.cl\/(m.cl≠2\/m'.cl=2)/\(m'.cl=1\/m'.cl=2)
theorem ai0(r:Rt):(r.step m).2.cl=m.cl:=by
 obtain⟨i,wd,ep,st,sw⟩:=r;unfold Rt.step;cases st<;>dsimp only
 ·split
  ·split<;>rfl
  ·rfl
 ·split
  ·split<;>rfl
  ·rfl
theorem afG{k}(hp:(s.ws w).ph=.work k)(M:bQ c s.m)(T:Ba c w k)(W:QZ c w (s.ws w).ask k):Rc s.m (ak c w s (s.ws w) k).m:=by
 cases k with
 |get t=>
  obtain⟨s1,_,_,_,h3⟩:=Za c w s (s.ws w) t;rw[h3];dsimp only;have k:=KM (m:=s.m) (g:=decide (t.st=.bM)&&s.next.1) T.1 W.2 T.2;unfold o9 at k;generalize t.step w c.S s.m (decide (t.st=.bM)&&s.next.1)=r at*
  have:r.2.cl=s.m.cl:=by
   cases k with
   |calm k1=>exact k1.1
   |fin k1=>exact k1.1
   |free k1=>exact k1.1
   |NL _ _ _ k4=>exact k4
   |told k1=>rw[k1]
   |lost _ _ _ k4=>exact k4
  left;split
  ·split
   ·split<;>exact this
   ·split<;>exact this
  ·exact this
 |give g=>
  obtain⟨k,_⟩:=KS (m:=s.m) T.1 W.2.2.2 T.2
  have:(g.step c w s.m).2.cl=s.m.cl:=by
   cases k with
   |calm k1=>exact k1.1
   |fin k1=>rw[k1]
   |back _ _ _ _ _ _ k7=>exact k7
   |on k1=>exact k1.1
  left;unfold ak;dsimp only;split<;>exact this
 |bg g=>
  obtain⟨k,_⟩:=Kg M T.1 W.2.2.2 T.2
  have:(g.step c w s.m).2.cl=s.m.cl:=by
   cases k with
   |calm k1=>rw[k1]
   |swap n _ _ _ _ _ _ _ _ k9=>exact k9
  left;unfold ak;dsimp only;split<;>exact this
 |close d=>
  cases d with
  |none=>
   unfold ak;by_cases hf:(s.ws w).ask.force=true
   ·rw[if_pos hf]
    exact .inr ⟨.inr rfl,.inr rfl⟩
   ·rw[if_neg hf]
    by_cases h0:s.m.cl=0
    ·rw[if_pos h0]
     exact .inr ⟨.inl (by omega),.inl rfl⟩
    ·rw[if_neg h0];exact .inl rfl
  |some q=>
   have:=(lu (c:=c) (w:=w) (m:=s.m) (q:=q)).1;left;unfold ak;dsimp only;split<;>exact this
 |stats t=>
  left;unfold ak;dsimp only;split<;>rfl
 |aS r=>
  left;obtain⟨st,look,many,rt⟩:=r;unfold ak;cases st<;>dsimp only
  ·split
   ·rfl
   ·split<;>rfl
  ·split<;>rfl
  ·split
   ·split<;>rfl
   ·rfl
  ·split<;>exact ai0 rt
theorem afH(hc:aQ s w)(M:bQ c s.m)(X:jO c w (s.ws w))(W:nW c s.m w (s.ws w)):Rc s.m (ai c s w).m:=by
 have leave:∀q:Qu,Rc s.m (aV c w s (s.ws w) q).m:=by
  intro q;have:=(lu (c:=c) (w:=w) (m:=s.m) (q:=q)).1;left;unfold aV;dsimp only;split
  ·split<;>exact this
  ·exact this
 have wake:∀q,Rc s.m (dh w s (s.ws w) q).m:=by
  intro q;left;unfold dh;cases q with
  |none=>rfl
  |some g=>dsimp only;split<;>rfl
 unfold jO at X;unfold nW at W;cases hp:(s.ws w).ph with
 |rest=>unfold aQ at hc;rw[hp]at hc;exact hc.elim
 |pin q=>
  cases q with
  |none=>
   have e:ai c s w=s.put w ((s.ws w).to (.pin (some s.m.ep))):=by unfold ai;dsimp only;rw[hp]
   rw[e];exact .inl rfl
  |some v=>
   have e:ai c s w=(s.mem (s.m.pin w (aR (v+1)))).put w ((s.ws w).to (.work (bE (s.ws w)))):=by unfold ai;dsimp only;rw[hp]
   rw[e];exact .inl rfl
 |work k=>
  rw[hp]at X W;have e:ai c s w=ak c w s (s.ws w) k:=by unfold ai;dsimp only;rw[hp]
  rw[e];exact afG hp M X W
 |counts t=>
  have e:ai c s w=if(t.step c.S s.m).dn then(if∃y∈(t.step c.S s.m).last.getD [],fits 3 w y then s.put w ((s.ws w).to (.work (.get Tk.new)))else s.put w ((s.ws w).end_ (.err 3)))else s.put w ((s.ws w).to (.counts (t.step c.S s.m))):=by unfold ai;dsimp only;rw[hp]
  rw[e];left;split
  ·split<;>rfl
  ·rfl
 |enters q=>
  have e:ai c s w=if(q.step c w s.m).1.st=.done then(if(q.step c w s.m).1.e=0\/(q.step c w s.m).1.e=8 then(s.mem (q.step c w s.m).2).put w ((s.ws w).to (.ax Td.new (some (decide ((q.step c w s.m).1.e=0))) (.err 0)))else(s.mem (q.step c w s.m).2).put w ((s.ws w).end_ (.err (q.step c w s.m).1.e)))else(s.mem (q.step c w s.m).2).put w ((s.ws w).to (.enters (q.step c w s.m).1)):=by unfold ai;dsimp only;rw[hp]
  rw[e];have:=(lu (c:=c) (w:=w) (m:=s.m) (q:=q)).1;left;split
  ·split<;>exact this
  ·exact this
 |ax t p a=>
  rw[BM hp];left;split
  ·unfold UE
   split<;>exact BN
  ·exact BN
 |parked b=>
  have e:ai c s w=if s.m.gr w≠0 then dh w s (s.ws w) none else aV c w s (s.ws w) Qu.leave:=by unfold ai;dsimp only;rw[hp]
  rw[e];split
  ·exact wake _
  ·exact leave _
 |wakes q=>
  have e:ai c s w=dh w s (s.ws w) q:=by unfold ai;dsimp only;rw[hp]
  rw[e];exact wake _
 |leaves q=>
  have e:ai c s w=aV c w s (s.ws w) q:=by unfold ai;dsimp only;rw[hp]
  rw[e];exact leave _
theorem afX{m m'}{x}(h:nW c m w x)(hm:m.cl=2->m'.cl=2):nW c m' w x:=by
 grind [nW,acX]
theorem adU(hc:aQ s w)(M:bQ c s.m)(C:Lj s.m)(X:jO c w (s.ws w))(W:nW c s.m w (s.ws w)):nW c (ai c s w).m w ((ai c s w).ws w):=by
 have uw:∀(s':Ms) (x:Wr),(s'.put w x).ws w=x:=λs' x=>bD s' x
 have op0:∀{e:Int},(s.ws w).ask.op=0->e≠0->Ll c (s.ws w).ask (.err e):=λ_ h=>yh h
 have leave:∀q:Qu,Dr w q->(s.ws w).ask.op=0->nW c (aV c w s (s.ws w) q).m w ((aV c w s (s.ws w) q).ws w):=by
  intro q hT hop;unfold aV;dsimp only;split
  ·split
   ·rw[uw];exact hop
   ·rename_i hd h8
    have h4:(q.step c w s.m).1.e=4:=by
     rcases(Kt (c:=c) (m:=s.m) hT).1 hd with k|k
     ·exact absurd k.1 h8
     ·exact k.1
    rw[uw];exact kX (yh (by show(q.step c w s.m).1.e≠0;rw[h4];decide))
  ·rw[uw];exact hop
 have wake:∀q,(s.ws w).ask.op=0->nW c (dh w s (s.ws w) q).m w ((dh w s (s.ws w) q).ws w):=by
  intro q hop;unfold dh;cases q with
  |none=>dsimp only;rw[uw];exact hop
  |some g=>
   dsimp only;split
   ·rw[uw];exact kX (yh (by show(5:Int)≠0;decide))
   ·rw[uw];exact trivial
 have X0:=X;have W0:=W;unfold jO at X;unfold nW at W;cases hp:(s.ws w).ph with
 |rest=>unfold aQ at hc;rw[hp]at hc;exact hc.elim
 |pin q=>
  cases q with
  |none=>
   have e:ai c s w=s.put w ((s.ws w).to (.pin (some s.m.ep))):=by unfold ai;dsimp only;rw[hp]
   rw[e,uw];exact trivial
  |some v=>
   have e:ai c s w=(s.mem (s.m.pin w (aR (v+1)))).put w ((s.ws w).to (.work (bE (s.ws w)))):=by unfold ai;dsimp only;rw[hp]
   rw[e,uw];exact aej c w (s.ws w)
 |work k=>
  rw[hp]at X W;have e:ai c s w=ak c w s (s.ws w) k:=by unfold ai;dsimp only;rw[hp]
  rw[e];exact adT hp M X W
 |counts t=>
  rw[hp]at W;have e:ai c s w=if(t.step c.S s.m).dn then(if∃y∈(t.step c.S s.m).last.getD [],fits 3 w y then s.put w ((s.ws w).to (.work (.get Tk.new)))else s.put w ((s.ws w).end_ (.err 3)))else s.put w ((s.ws w).to (.counts (t.step c.S s.m))):=by unfold ai;dsimp only;rw[hp]
  rw[e];split
  ·split
   ·rw[uw];exact⟨W,λk=>by cases k⟩
   ·rw[uw];exact kX (yh (by show(3:Int)≠0;decide))
  ·rw[uw];exact W
 |enters q=>
  rw[hp]at W;have e:ai c s w=if(q.step c w s.m).1.st=.done then(if(q.step c w s.m).1.e=0\/(q.step c w s.m).1.e=8 then(s.mem (q.step c w s.m).2).put w ((s.ws w).to (.ax Td.new (some (decide ((q.step c w s.m).1.e=0))) (.err 0)))else(s.mem (q.step c w s.m).2).put w ((s.ws w).end_ (.err (q.step c w s.m).1.e)))else(s.mem (q.step c w s.m).2).put w ((s.ws w).to (.enters (q.step c w s.m).1)):=by unfold ai;dsimp only;rw[hp]
  rw[e];split
  ·split
   ·rw[uw];exact⟨SX,W⟩
   ·rename_i k
    rw[uw];exact kX (yh (λk2=>k (.inl k2)))
  ·rw[uw];exact W
 |ax t p a=>
  rw[hp]at X W;rw[BM hp];split
  ·unfold UE
   cases p with
   |some b=>rw[uw];exact W.2
   |none=>
    have:(Ms.ws {(s.mem (t.step c w s.m).2).put w ((s.ws w).to .rest)with ev:=⟨true,w,(s.ws w).ask,a⟩::s.ev} w)=(s.ws w).to .rest:=bD _ _
    rw[this];exact trivial
  ·rw[uw];exact⟨aao C X.1 W.1,W.2⟩
 |parked b=>
  rw[hp]at W;have e:ai c s w=if s.m.gr w≠0 then dh w s (s.ws w) none else aV c w s (s.ws w) Qu.leave:=by unfold ai;dsimp only;rw[hp]
  rw[e];split
  ·exact wake _ W
  ·exact leave _ ⟨.inl rfl,rfl⟩ W
 |wakes q=>
  rw[hp]at W;have e:ai c s w=dh w s (s.ws w) q:=by unfold ai;dsimp only;rw[hp]
  rw[e];exact wake _ W
 |leaves q=>
  rw[hp]at X W;have e:ai c s w=aV c w s (s.ws w) q:=by unfold ai;dsimp only;rw[hp]
  rw[e];exact leave _ X W
structure All(c:Cn)(s:Ms):Prop where
 inv:Inv c s
 cl:Lj s.m
 wd:∀i,i<c.W->nW c s.m i (s.ws i)
 nd:s.m.qu.Nodup
theorem afF(C:Lj s.m)(k:Rc s.m s'.m):Lj s'.m/\(s.m.cl=2->s'.m.cl=2)/\(s.m.cl≠0->s'.m.cl≠0):=by
 unfold Lj at*;rcases k with k|⟨k1,k2⟩
 all_goals grind
theorem Gu(hw:w<c.W)(hW:c.W<=15)(hS:1<=c.S)(A:All c s)(hc:aQ s w):All c (ai c s w)/\yj c (ai c s w)+1<=yj c s:=by
 obtain⟨I,C,W,N⟩:=A;obtain⟨I',P⟩:=aa5 hw hW hS I hc;obtain⟨C',c2,c0⟩:=afF C (afH hc I.m (I.w w hw) (W w hw));obtain⟨_,_,_,g4,_⟩:=BD hw hW hS I.m I.g (I.w w hw) hc;refine⟨⟨I',C',λi hi=> ?_,ai4 (akU (I.w w hw)) N⟩,P⟩
 by_cases e:i=w
 ·subst e;exact adU hc I.m C (I.w i hw) (W i hw)
 grind [afX]
end
noncomputable section
open Classical
variable{c:Cn} {s s':Ms} {w:Nat} {h:Hd} {m:Mm}
structure En where
 kind:Int
 who:Int
 op:Int
 a:Ask
 n:Int
 good:Bool
def bR.zero:bR:=⟨0,0,0,0,0,0,0,0⟩
def inW(c:Cn)(w:Int):Prop:=0<=w/\w<c.W
def Ih(c:Cn)(s:Ms)(x:En):Prop:=inW c x.who/\(s.ws x.who.toNat).ph=.rest/\s.ev.length<1999/\0<=x.op/\x.op<8
def ko(s:Ms)(x:En):Ms:={s.put x.who.toNat ⟨.pin none,{x.a with op:=x.op.toNat},0⟩with ev:=⟨false,x.who.toNat,{x.a with op:=x.op.toNat},bR.zero⟩::s.ev}
def QN(m:Mm)(i:Nat):Option Mm:=(az (m.sl i) 13 0 0).map λn=>m.set i n
def inS(c:Cn)(i:Int):Prop:=0<=i/\i<c.S
def xg(now n:Int):Int:=now+min (max n 0) (1099511627776-now)
def dX(c:Cn)(s:Ms)(x:En):Bool×Ms:=
 if x.kind=0 then(if Ih c s x then(true,ko s x)else(false,s))else
 if x.kind=1 then(if inW c x.who/\aQ s x.who.toNat then(true,ai c s x.who.toNat)else(false,s))else
 if x.kind=2 then(true,{s with now:=xg s.now x.n})else
 if x.kind=3 then(if s.wo.length<1000 then(true,{s with wo:=s.wo++[x.good]})else(false,s))else
 if x.kind=4 then(if inS c x.a.slot then(match QN s.m x.a.slot.toNat with|some m=>(true,s.mem m)|none=>(false,s))else(false,s))else(false,s)
theorem agS{x n}(h:az x 13 0 0=some n):n.st=x.st/\n.own=x.own/\n.gen=x.gen/\n.str=x.str/\n.brk=true:=by
 obtain⟨r,hr,rfl,_⟩:=wG h;have hr:xm x=some r:=hr;grind [xm]
theorem afV(x)(h:x.ph=.pin none)(hg:x.grant=0):jO c w x:=by
 grind [jO]
theorem QX(A:All c s)(hW:c.W<=15)(hS:1<=c.S)(x):All c (dX c s x).2:=by
 unfold dX;split
 ·split
  ·rename_i hm
   obtain⟨⟨w0,w1⟩,hr,_,_,_⟩:=hm;obtain⟨I,C,W,N⟩:=A;have nw:x.who.toNat<c.W:=by omega
   have ew:(ko s x).ws x.who.toNat=⟨.pin none,{x.a with op:=x.op.toNat},0⟩:=bD s _
   have eo:∀i,i≠x.who.toNat->(ko s x).ws i=s.ws i:=λi hi=>by
    show upd s.ws x.who.toNat _ i=_;exact if_neg hi
   refine⟨⟨I.m,I.g,λi hi=> ?_⟩,C,λi hi=> ?_,N⟩
   ·by_cases e:i=x.who.toNat
    ·subst e;rw[ew];exact afV _ rfl rfl
    ·rw[eo i e];exact I.w i hi
   ·by_cases e:i=x.who.toNat
    ·subst e;rw[ew];exact trivial
    ·rw[eo i e];exact W i hi
  ·exact A
 ·split
  ·split
   ·rename_i hm
    exact(Gu (by have:=hm.1.1;have:=hm.1.2;omega) hW hS A hm.2).1
   ·exact A
  ·split
   ·obtain⟨I,C,W,N⟩:=A
    exact⟨⟨I.m,I.g,I.w⟩,C,W,N⟩
   ·split
    ·split
     ·obtain⟨I,C,W,N⟩:=A
      exact⟨⟨I.m,I.g,I.w⟩,C,W,N⟩
     ·exact A
    ·split
     ·split
      ·unfold QN
       cases hn:az (s.m.sl x.a.slot.toNat) 13 0 0 with
       |none=>exact A
       |some n=>
        obtain⟨I,C,W,N⟩:=A;exact⟨⟨nN I.m hn,I.g,I.w⟩,C,λi hi=>afX (W i hi) id,N⟩
      ·exact A
     ·exact A
def Mm.zero:Mm:=⟨0,[],0,λ_=>0,λ_=>0,λ_=>aa.zero⟩
def Ask.zero:Ask:=⟨0,false,false,0,0,0,0⟩
def Ms.zero:Ms:=⟨Mm.zero,0,[],λ_=>⟨.rest,Ask.zero,0⟩,[]⟩
theorem IP:Facts aa.zero:=by constructor<;>decide
theorem all_zero:All c Ms.zero:=by
 exact⟨⟨⟨λi _=>IP,λa h=>by cases h⟩,λi=>by show(0:Int)<=c.S;omega,λi _=>trivial⟩,⟨Int.le_refl 0,by decide⟩,λi _=>trivial,List.nodup_nil⟩
def Still(c:Cn)(s:Ms):Prop:=∀w,w<c.W->¬aQ s w
end
end bq
end Go.Proofs.YteaflphddciglaaGreatDoor
