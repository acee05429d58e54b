/- Laws of the proof, joined. No condition of its own. -/
import Derived.Test.YteaflphddciglaaGreatDoorCcA
set_option linter.all false
namespace Go.Proofs.YteaflphddciglaaGreatDoor
namespace bq
noncomputable section
open Go.RowKit Go.bn Go.Sx Classical
variable{α:Type} {c:Cn} {m:Mm}
theorem aI{b}{x y:M α}(h:b=true):(M.br b x y).get=x.get:=by rw[M.fe,if_pos h]
theorem aT{b}{x y:M α}(h:b=false):(M.br b x y).get=y.get:=by rw[M.fe,h];rfl
theorem yM{P}(h:¬P):sure P=false:=by
 cases hs:sure P with
 |true=>exact absurd (jv.1 hs) h
 |false=>rfl
theorem Em{a b:Nat}(h:a<=b):Nat.ble a b=true:=by rw[Nat.ble_eq];exact h
theorem VE{n:Nat}{i:Int}(h0:0<=i)(h1:i<n):uD (n:Int) i=true:=by unfold uD;simp;omega
theorem adg{n:Nat}{i:Int}(h:¬(0<=i/\i<n)):uD (n:Int) i=false:=by
 unfold uD;cases h0:decide (0<=i)with
 |false=>rfl
 |true=>simp at h0 ⊢;omega
theorem zB{i:Int}{F:Nat->M α}{no}(hS:c.S<=1000)(h0:0<=i)(h1:i<c.S):(jM c i F no).get=(F i.toNat).get:=by
 unfold jM;rw[aI (Em hS),aI (VE h0 h1)]
theorem mX{i}{F:Nat->M α}{no}(hS:c.S<=1000)(h1:i<c.S):(jM c (i:Int) F no).get=(F i).get:=by
 rw[zB hS (by omega) (by omega),cH]
theorem Ui{i:Int}{F:Nat->M α}{no}(hS:c.S<=1000)(h:¬(0<=i/\i<c.S)):(jM c i F no).get=no.get:=by
 unfold jM;rw[aI (Em hS),aT (adg h)]
theorem qm{i}{F:aa->M α}(h:i<c.S):(tJ c m i F).get=(F (m.sl i)).get:=by
 unfold tJ;rw[aI (qY h)]
theorem uI{i}{s t}{yes no:Mm->M α}(h:i<c.S)(e:m.sl i=s):(ve c m i s t yes no).get=(yes (m.set i t)).get:=by
 unfold ve;rw[aI (qY h),aI (jh e)]
theorem uJ{i}{s t}{yes no:Mm->M α}(h:i<c.S)(e:¬m.sl i=s):(ve c m i s t yes no).get=(no m).get:=by
 unfold ve;rw[aI (qY h),aT (yM e)]
theorem FM{x n}{d own more}(h:az x d own more=some n):Facts n:=by
 exact(H8 h).1
theorem nZ{s}{k own more}{no:M α}{F}(h:az s k own more=none):(og s k own more no F).get=no.get:=by
 unfold og;rw[h];exact aI rfl
theorem nY{s n}{k own more}{no:M α}{F}(h:az s k own more=some n):(og s k own more no F).get=(F n).get:=by
 unfold og;rw[h];refine(aT rfl).trans ?_;exact aI (jh (FM h))
theorem G9{i}{F:Nat->Value->M α}(hS:c.S<=1000)(h:i<c.S):(uV c (i:Int) F).get=(F i (nI (3+2*c.W) i)).get:=by
 unfold uV;rw[mX hS h]
theorem acR{f}(h:f.at_<=1000):SG f=((f.at_+1:Nat):Int):=by
 unfold SG;rw[fA ⟨by omega,by omega⟩];omega
theorem Gc{kd:Nat}{ow}{s}(hk:kd<=6):kI s (kd:Int) ow=true↔fits kd ow s:=by
 obtain⟨st,own,str,brk,fO,uses,gen,ep,cz⟩:=s;have hb:∀(p:Bool) (x y:Bool),(bif p then x else y)=true↔(p=true/\x=true\/p=false/\y=true):=λp x y=>by cases p<;>simp
 match kd,hk with
 |0,_=>unfold kI fits jg;cases brk<;>simp[hb]
 |1,_=>unfold kI fits jg;cases brk<;>simp[hb]
 |2,_=>unfold kI fits j6;simp[hb]
 |3,_=>unfold kI fits jg j6;cases brk<;>simp[hb]<;>omega
 |4,_=>unfold kI fits;cases brk<;>simp[hb]<;>omega
 |5,_=>unfold kI fits;simp[hb]
 |6,_=>unfold kI fits VF;simp[hb]
theorem qa{f}{found all more:Fd->Int->M α}(hS:c.S<=1000)(hf:f.fd=none)(hk:f.kd<=6):
  (xh c m f found all more).get=if(f.step c.S m).fd.isSome then(found (f.step c.S m) (f.step c.S m).at_).get else if(f.step c.S m).all c.S then(all (f.step c.S m) (f.step c.S m).at_).get else(more (f.step c.S m) (f.step c.S m).at_).get:=by
 unfold xh;by_cases h:c.S<=f.at_
 .have e:f.step c.S m=f:=by unfold Fd.step;rw[if_pos (.inr h)]
  rw[aI (by simp[MF];omega),e,if_neg (by rw[hf];simp),if_pos (by exact⟨hf,h⟩)];rfl
 .have e0:f.step c.S m=if fits f.kd f.ow (m.sl f.at_)then{f with fd:=some (m.sl f.at_)}else{f with at_:=f.at_+1}:=by
   unfold Fd.step;rw[if_neg (by rw[hf];simp[h])]
  rw[aT (by simp[MF];omega),show MF f=(f.at_:Int)from rfl,mX hS (by omega),qm (by omega)];by_cases k:fits f.kd f.ow (m.sl f.at_)
  .rw[if_pos k]at e0
   rw[aI ((Gc hk).2 k),e0];exact(if_pos rfl).symm
  .have kf:kI (m.sl f.at_) (f.kd:Int) f.ow=false:=by
    cases h:kI (m.sl f.at_) (f.kd:Int) f.ow with
    |true=>exact absurd ((Gc hk).1 h) k
    |false=>rfl
   rw[if_neg k]at e0;rw[aT kf,e0,if_neg (by rw[hf];simp),acR (by omega)];by_cases l:c.S<=f.at_+1
   .rw[aI (by simp;omega),if_pos (by exact⟨hf,l⟩)]
   .rw[aT (by simp;omega),if_neg (λh=>l h.2)]
theorem xQ{f}{x}{F:Fd->Int->M α}(h:f.fd=some x)(ha:f.at_<=1000):(EP f F).get=(F f.go f.go.at_).get:=by
 unfold EP Fd.go;rw[h];simp only[Option.isSome_some,if_true,acR ha]
theorem DN{r}{dn go:Rt->Mm->M α}(hi:r.st=.swap\/r.st=.iI->r.i<c.S):(Tg c m r dn go).get=if(r.step m).1.st=.done then(dn (r.step m).1 (r.step m).2).get else(go (r.step m).1 (r.step m).2).get:=by
 unfold Tg Rt.step;cases hs:r.st with
 |swap=>
  have hi:=hi (.inl hs);simp only;cases hn:az r.wd 11 0 4095 with
  |none=>rw[nZ hn];simp
  |some n=>
   rw[nY hn];by_cases e:m.sl r.i=r.wd
   .rw[uI hi e];simp only[if_pos e];rw[if_neg (by simp)]
   .rw[uJ hi e];simp only[if_neg e];rw[if_pos trivial]
 |look=>simp
 |iI=>
  have hi:=hi (.inr hs);simp only;cases hn:az r.wd 17 0 r.ep with
  |none=>rw[nZ hn];simp
  |some n=>
   rw[nY hn];by_cases e:m.sl r.i=r.wd
   .rw[uI hi e];simp only[if_pos e];rw[if_neg (by simp)]
   .rw[uJ hi e];simp only[if_neg e];rw[if_neg (by simp)]
 |jk=>simp
 |done=>simp[hs]
end
noncomputable section
open Go.RowKit Go.bn Go.Sx Classical
namespace Yq
def same(q:Xq):Option RQ:=some (q,q.ex)
theorem jE(q):(rq q).get=same q:=rfl
def zQ(q:Xq)(r:Tk×Mm):Xq:=
 if r.1.st=.done then(if r.1.e=3 then(if q.x.ask.wait then q.to r.2 (.enters Qu.enter)else q.to r.2 (.counts Tw.new))else if r.1.e=0 then q.fin r.2 ⟨0,r.1.i,r.1.gen,0,0,0,0,0⟩else q.fin r.2 (.err r.1.e))else q.to r.2 (.work (.get r.1))
theorem bK{q}{t}{m}(h:t.st≠.done):zQ q (t,m)=q.to m (.work (.get t)):=if_neg h
theorem lS{q}{t:Tk}{m}{e}(h3:e≠3)(h0:e≠0):zQ q (t.fin e,m)=q.fin m (.err e):=by
 exact(if_pos rfl).trans ((if_neg h3).trans (if_neg h0))
theorem aan{q}{t:Tk}{m}:zQ q (t.fin 3,m)=if q.x.ask.wait then q.to m (.enters Qu.enter)else q.to m (.counts Tw.new):=(if_pos rfl).trans (if_pos rfl)
theorem p8{α}{c}{w}{m}{t}{i}{wd}{d}{yes:Tk->Mm->M α}{no}(hS:c.S<=1000)(hi:i<c.S):
  (tV c w m t i wd d yes no).get=match t.swap w m i wd d with|some r=>(yes r.1 r.2).get|none=>(no m).get:=by
 grind [tV,Tk.swap,nZ,nY,mX,uI,uJ]
def dJ(q:Xq)(t:Tk)(g:Bool):Prop:=(lG q t g).get=same (zQ q (t.step q.who q.c.S q.m g))
variable{q:Xq} {t:Tk} {g:Bool}
theorem BL(h:t.st=.closed):dJ q t g:=by
 unfold dJ lG Tk.step;simp only[h];by_cases k:q.m.cl≠0
 .rw[aI (by simpa using k),if_pos k,lS (by decide) (by decide)];rfl
 .rw[aT (by simpa using k),if_neg k,bK (by simp[Tk.search])];rfl
theorem Oc(hS:q.c.S<=1000)(h:t.st=.own)(hk:oI t.look 0):dJ q t g:=by
 unfold dJ lG Tk.step;simp only[h];rw[qa hS hk.2 (by rw[hk.1];decide)];split
 .rfl
 .split
  .rfl
  .rfl
theorem Od(hS:q.c.S<=1000)(h:t.st=.any)(hk:oI t.look 1):dJ q t g:=by
 unfold dJ lG Tk.step;simp only[h];rw[qa hS hk.2 (by rw[hk.1];decide)];split
 .rfl
 .split
  .rfl
  .rfl
theorem JQ(hS:q.c.S<=1000)(h:t.st=.free)(hk:oI t.look 2):dJ q t g:=by
 unfold dJ lG Tk.step;simp only[h];rw[qa hS hk.2 (by rw[hk.1];decide)];split
 .rfl
 .split
  .rw[aan]
   cases hw:q.x.ask.wait with
   |true=>exact aI rfl
   |false=>exact aT rfl
  .rfl
theorem JP(hS:q.c.S<=1000)(h:t.st=.move)(hk:oI t.look 0):dJ q t g:=by
 unfold dJ lG Tk.step;simp only[h];rw[qa hS hk.2 (by rw[hk.1];decide)];split
 .rename_i k
  obtain⟨x,hx⟩:=cP.1 k;have ha:(t.look.step q.c.S q.m).at_<=1000:=by
   have:=hk.2;unfold Fd.step at hx ⊢;split
   .rename_i h1
    rw[if_pos h1,this]at hx;cases hx
   .rename_i h1
    rw[this]at h1;split
    .simp at h1 ⊢;omega
    .rename_i h2;rw[if_neg (by rw[this];exact h1),if_neg h2,this]at hx;cases hx
  cases hp:t.ps with
  |true=>
   rw[aI rfl,xQ hx ha,if_pos rfl,bK (by simp)];rfl
  |false=>
   rfl
 .split
  .rfl
  .rfl
theorem JO(hS:q.c.S<=1000)(h:t.st=.gp)(hi:t.look.at_<q.c.S):dJ q t g:=by
 unfold dJ lG Tk.step;simp only[h];rw[p8 hS hi];cases hx:t.swap q.who q.m t.look.at_ t.look.wd 3 with
 |none=>rfl
 |some r=>rfl
theorem Fe(hS:q.c.S<=1000)(h:t.st=.dQ)(hi:t.look.at_<q.c.S):dJ q t g:=by
 unfold dJ lG Tk.step;simp only[h];rw[p8 hS hi];cases hx:t.swap q.who q.m t.look.at_ t.look.wd 0 with
 |none=>rfl
 |some r=>rfl
theorem JU(hS:q.c.S<=1000)(h:t.st=.anyS)(hi:t.look.at_<q.c.S):dJ q t g:=by
 unfold dJ lG Tk.step;simp only[h];rw[p8 hS hi];cases hx:t.swap q.who q.m t.look.at_ t.look.wd 3 with
 |none=>rfl
 |some r=>
  simp only;by_cases k:t.look.wd.own=(q.who:Int)
  .rw[aT (by simpa using k),if_pos k,bK (by simp)];rfl
  .rw[aI (by simpa using k),if_neg k,bK (by simp[Tk.search])];rfl
theorem Fa(hS:q.c.S<=1000)(h:t.st=.dD)(hi:t.look.at_<q.c.S)(hk:vF t.look 0):dJ q t g:=by
 obtain⟨_,x,hx⟩:=hk;unfold dJ lG Tk.step;simp only[h];have on:∀m:Mm,(EP t.look λf a=>yo (q.to m (.work (.get {t with look:=f,st:=.move}))) a).get=same (q.to m (.work (.get {t with look:=t.look.go,st:=.move}))):=λm=>by
  rw[xQ hx (by omega)];rfl
 cases hn:az t.look.wd 9 q.who 0 with
 |none=>grind [nZ,bK]
 |some n=>
  rw[nY hn,mX hS hi];simp only;by_cases e:q.m.sl t.look.at_=t.look.wd
  .rw[uI hi e,on,if_pos e,bK (by simp)]
  .rw[uJ hi e,on,if_neg e,bK (by simp)]
theorem JR(hS:q.c.S<=1000)(h:t.st=.bM)(hi:t.i<q.c.S):dJ q t g:=by
 unfold dJ lG Tk.step;simp only[h];cases g with
 |true=>
  rw[aI rfl,p8 hS hi];simp only[if_true];cases hx:t.swap q.who q.m t.i t.wd 1 with
  |none=>rfl
  |some r=>rfl
 |false=>
  rw[aT rfl,p8 hS hi];simp only[eN,jj];cases hx:t.swap q.who q.m t.i t.wd 2 with
  |none=>rfl
  |some r=>rfl
theorem Ff(h:t.st=.check):dJ q t g:=by
 unfold dJ lG Tk.step;simp only[h];by_cases k:q.m.cl=0
 .rw[aI (by simpa using k),if_pos k,show zQ q (t.fin 0,q.m)=q.fin q.m ⟨0,t.i,t.gen,0,0,0,0,0⟩from(if_pos rfl).trans ((if_neg (show¬(0:Int)=3 by decide)).trans (if_pos rfl))];rfl
 .rw[aT (by simpa using k),if_neg k,bK (by simp)];rfl
theorem JS(hS:q.c.S<=1000)(h:t.st=.back)(hi:t.i<q.c.S):dJ q t g:=by
 unfold dJ lG Tk.step;simp only[h];rw[mX hS hi,qm hi];by_cases h1:(q.m.sl t.i).st=3
 .rw[aT (by simpa using h1)]
  by_cases h2:(q.m.sl t.i).own=(q.who:Int)
  .rw[aT (by simpa using h2)]
   by_cases h3:(q.m.sl t.i).gen=t.gen
   .rw[aT (by simpa using h3),G9 hS hi,if_pos ⟨h1,h2,h3⟩,bK (by simp)];rfl
   .rw[aI (by simpa using h3),if_neg (λk=>h3 k.2.2),lS (by decide) (by decide)];rfl
  .rw[aI (by simpa using h2),if_neg (λk=>h2 k.2.1),lS (by decide) (by decide)];rfl
 .rw[aI (by simpa using h1),if_neg (λk=>h1 k.1),lS (by decide) (by decide)];rfl
theorem af6(h:t.st=.go)(hi:t.rt.st=.swap\/t.rt.st=.iI->t.rt.i<q.c.S):dJ q t g:=by
 unfold dJ lG Tk.step;simp only[h];rw[DN hi];by_cases hd:(t.rt.step q.m).1.st=.done
 .rw[if_pos hd,if_pos hd]
  cases hw:(t.rt.step q.m).1.sw with
  |true=>rfl
  |false=>rfl
 .rw[if_neg hd,if_neg hd,bK (by simp[h])];rfl
theorem Fb(hS:q.c.S<=1000)(h:t.st=.grant)(hi:t.i<q.c.S):dJ q t g:=by
 unfold dJ lG Tk.step;simp only[h];rw[mX hS hi,qm hi,bK (by simp)];rfl
theorem BK(hS:q.c.S<=1000)(h:t.st=.eG)(hi:t.i<q.c.S):dJ q t g:=by
 unfold dJ lG Tk.step;simp only[h];cases hn:az t.wd 16 q.who 0 with
 |none=>rw[nZ hn];rfl
 |some n=>
  rw[nY hn,p8 hS hi];unfold Tk.swap;simp only[hn];by_cases e:q.m.sl t.i=t.wd
  .simp only[if_pos e]
   by_cases k:n.st=3
   .rw[aI (by simpa using k),if_pos k,bK (by simp)];rfl
   .rw[aT (by simpa using k),if_neg k,bK (by simp)];rfl
  .simp only[if_neg e];rfl
end Yq
namespace Yq
variable{q:Xq}
def Ec(q:Xq)(r:Gv×Mm):Xq:=if r.1.st=.done then q.fin r.2 (.err r.1.e)else q.to r.2 (.work (.give r.1))
theorem kQ{g}{m}(h:g.st≠.done):Ec q (g,m)=q.to m (.work (.give g)):=if_neg h
theorem nS{g:Gv}{m}{e}:Ec q (g.fin e,m)=q.fin m (.err e):=if_pos rfl
theorem ahH{g:Gv}(hS:q.c.S<=1000)(hr:g.st=.rest->0<=g.i/\g.i<q.c.S)(hg:g.st=.go->g.rt.st=.swap\/g.rt.st=.iI->g.rt.i<q.c.S)(hd:g.st≠.done):
  (NQ q g).get=same (Ec q (g.step q.c q.who q.m)):=by
 unfold NQ Gv.step;cases h:g.st with
 |closed=>
  simp only;by_cases k:q.m.cl=2
  .rw[aI (by simpa using k),if_pos k,nS];rfl
  .rw[aT (by simpa using k),if_neg k,kQ (by simp)];rfl
 |look=>
  simp only;by_cases k:0<=g.i/\g.i<q.c.S
  .have hn:g.i.toNat<q.c.S:=by omega
   have hc:g.i=(g.i.toNat:Int):=by omega
   rw[zB hS k.1 k.2,qm hn,if_pos k]
   have go:∀(a b:Bool),(uV q.c g.i λi v=>qI (q.to q.m (.work (.give {g with wd:=q.m.sl g.i.toNat,rt:=Rt.new i (q.m.sl g.i.toNat),st:=.go}))) v).get=
     same (q.to q.m (.work (.give {g with wd:=q.m.sl g.i.toNat,rt:=Rt.new g.i.toNat (q.m.sl g.i.toNat),st:=.go}))):=λa b=>by
    rw[hc,G9 hS hn];rfl
   by_cases h1:(q.m.sl g.i.toNat).st=3
   .rw[aT (by simpa using h1)]
    by_cases h2:(q.m.sl g.i.toNat).own=(q.who:Int)
    .rw[aT (by simpa using h2)]
     by_cases h3:(q.m.sl g.i.toNat).gen=g.gen
     .rw[aT (by simpa using h3),if_neg (fun k=>k ⟨h1,h2,h3⟩)]
      have rest:(M.br g.dc (uV q.c g.i fun i v=>qI (q.to q.m (.work (.give {g with wd:=q.m.sl g.i.toNat,rt:=Rt.new i (q.m.sl g.i.toNat),st:=.go}))) v)
        (.br (q.m.sl g.i.toNat).brk (uV q.c g.i λi v=>qI (q.to q.m (.work (.give {g with wd:=q.m.sl g.i.toNat,rt:=Rt.new i (q.m.sl g.i.toNat),st:=.go}))) v)
        (.br (decide ((q.m.sl g.i.toNat).uses>=q.c.u)) (uV q.c g.i λi v=>qI (q.to q.m (.work (.give {g with wd:=q.m.sl g.i.toNat,rt:=Rt.new i (q.m.sl g.i.toNat),st:=.go}))) v)
        (.br (g.cl != 0) (uV q.c g.i λi v=>qI (q.to q.m (.work (.give {g with wd:=q.m.sl g.i.toNat,rt:=Rt.new i (q.m.sl g.i.toNat),st:=.go}))) v) (rq (q.to q.m (.work (.give {g with wd:=q.m.sl g.i.toNat,st:=.rest})))))))).get=
       same (Ec q (if g.dc=true\/(q.m.sl g.i.toNat).brk=true\/q.c.u<=(q.m.sl g.i.toNat).uses\/¬g.cl=(0:Int)then({g with wd:=q.m.sl g.i.toNat,rt:=Rt.new g.i.toNat (q.m.sl g.i.toNat),st:=.go},q.m)else({g with wd:=q.m.sl g.i.toNat,st:=.rest},q.m))):=by
       cases d1:g.dc with
       |true=>rw[aI rfl,if_pos (.inl rfl),kQ (by simp), <-d1];exact go true true
       |false=>
        rw[aT rfl, <-d1];cases d2:(q.m.sl g.i.toNat).brk with
        |true=>rw[aI rfl,if_pos (.inr (.inl rfl)),kQ (by simp)];exact go true true
        |false=>
         rw[aT rfl];by_cases d3:q.c.u<=(q.m.sl g.i.toNat).uses
         .rw[aI (by simpa using d3),if_pos (.inr (.inr (.inl d3))),kQ (by simp)];exact go true true
         .rw[aT (by simpa using d3)]
          by_cases d4:g.cl=0
          .rw[aT (by simpa using d4),if_neg (by rw[d1];simp[d3,d4]),kQ (by simp)];rfl
          .rw[aI (by simpa using d4),if_pos (.inr (.inr (.inr d4))),kQ (by simp)];exact go true true
      by_cases h4:(q.m.sl g.i.toNat).str=0
      .rw[aT (by simpa using h4),if_neg (λk=>k.1 h4)];exact rest
      .rw[aI (by simpa using h4)]
       by_cases d:g.dc=true
       .rw[aT (by simp[d]),if_neg (fun k=>by rw[d]at k;cases k.2)]
        exact rest
       .have d:g.dc=false:=by simpa using d
        rw[aI (by simp[d]),if_pos ⟨h4,d⟩,nS];rfl
     .rw[aI (by simpa using h3),if_pos (λk=>h3 k.2.2),nS];rfl
    .rw[aI (by simpa using h2),if_pos (λk=>h2 k.2.1),nS];rfl
   .rw[aI (by simpa using h1),if_pos (λk=>h1 k.1),nS];rfl
  .rw[Ui hS k,if_neg k,nS];rfl
 |rest=>
  simp only;obtain⟨k0,k1⟩:=hr h;have hn:g.i.toNat<q.c.S:=by omega
  cases hx:az g.wd 4 q.who 0 with
  |none=>rw[nZ hx];simp only;rw[kQ (by simp)];rfl
  |some n=>
   rw[nY hx,zB hS k0 k1];simp only;by_cases e:q.m.sl g.i.toNat=g.wd
   .rw[uI hn e,if_pos e,nS];rfl
   .rw[uJ hn e,if_neg e,kQ (by simp)];rfl
 |go=>
  simp only;rw[DN (hg h)];by_cases hd:(g.rt.step q.m).1.st=.done
  .rw[if_pos hd,if_pos hd]
   cases hw:(g.rt.step q.m).1.sw with
   |true=>rw[aI rfl,if_pos rfl,nS];rfl
   |false=>rw[aT rfl,if_neg (by decide),kQ (by simp)];rfl
  .rw[if_neg hd,if_neg hd,kQ (by simp[h])];rfl
 |done=>exact absurd h hd
def zU(q:Xq)(r:Sm×Mm):Xq:=if r.1.st=.done then q.fin r.2 ⟨r.1.e,0,0,if r.1.e=0 then r.1.num else 0,0,0,0,0⟩else q.to r.2 (.work (.bg r.1))
theorem zT{g}{m}(h:g.st≠.done):zU q (g,m)=q.to m (.work (.bg g)):=if_neg h
theorem nH{g:Sm}{m}{e}(h:e≠0):zU q (g.fin e,m)=q.fin m ⟨e,0,0,0,0,0,0,0⟩:=by
 unfold zU;refine(if_pos rfl).trans ?_;show q.fin m ⟨e,0,0,if e=0 then g.num else 0,0,0,0,0⟩=_;rw[if_neg h]
theorem agh{g:Sm}(hS:q.c.S<=1000)(hf:∀i,i<q.c.S->Facts (q.m.sl i))(hr:g.st=.swap->0<=g.i/\g.i<q.c.S)(hd:g.st≠.done):(Nz q g).get=same (zU q (g.step q.c q.who q.m)):=by
 unfold Nz Sm.step;cases h:g.st with
 |closed=>
  simp only;by_cases k:q.m.cl=2
  .rw[aI (by simpa using k),if_pos k,nH (by decide)];rfl
  .rw[aT (by simpa using k),if_neg k,zT (by simp)];rfl
 |look=>
  simp only;by_cases k:0<=g.i/\g.i<q.c.S
  .have hn:g.i.toNat<q.c.S:=by omega
   rw[zB hS k.1 k.2,qm hn,if_pos k];by_cases h1:(q.m.sl g.i.toNat).st=3
   .rw[aT (by simpa using h1)]
    by_cases h2:(q.m.sl g.i.toNat).own=(q.who:Int)
    .rw[aT (by simpa using h2)]
     by_cases h3:(q.m.sl g.i.toNat).gen=g.gen
     .rw[aT (by simpa using h3),if_neg (fun k=>k ⟨h1,h2,h3⟩)]
      have F:=hf _ hn;unfold Sm.next;cases ho:g.op with
      |true=>
       simp only[if_true,true_and];by_cases hb:(q.m.sl g.i.toNat).brk=true
       .rw[aI hb,if_pos hb,nH (by decide)];rfl
       .rw[aT (by simpa using hb),if_neg hb]
        cases hx:az (q.m.sl g.i.toNat) 14 q.who q.c.st with
        |none=>rw[aI (show(!(none:Option aa).isSome)=true from rfl)];simp only;rw[nH (by decide)];rfl
        |some n=>
         obtain⟨_,_,_,_,h8,e,_⟩:=Tu hx;obtain⟨b1,b2⟩:=acy F.str h8;have e2:BF (sX (q.m.sl g.i.toNat).str (iN (some n)).str)=bA (q.m.sl g.i.toNat).str:=by show BF (sX _ n.str)=_;rw[e,b2]
         rw[aT (show(!(some n).isSome)=false from rfl),aI (show sure (Facts (iN (some n)))=true from jh (FM hx)),aI (by show vW (sX _ n.str)=true;rw[e];exact b1),e2];simp only;rw[zT (by simp)];rfl
      |false=>
       simp only[eN,jj,false_and];cases hx:az (q.m.sl g.i.toNat) 15 q.who g.n with
       |none=>rw[aI (show(!(none:Option aa).isSome)=true from rfl)];simp only;rw[nH (by decide)];rfl
       |some n=>
        obtain⟨_,_,_,h5,h6,h7,e,_⟩:=Tt hx;obtain⟨b1,b2⟩:=acz F.str ⟨h5,h6⟩ h7;have e2:BF (sX (q.m.sl g.i.toNat).str (iN (some n)).str)=g.n:=by show BF (sX _ n.str)=_;rw[e,b2]
        rw[aT (show(!(some n).isSome)=false from rfl),aI (show sure (Facts (iN (some n)))=true from jh (FM hx)),aI (by show vW (sX _ n.str)=true;rw[e];exact b1),e2];simp only;rw[zT (by simp)];rfl
     .rw[aI (by simpa using h3),if_pos (λk=>h3 k.2.2),nH (by decide)];rfl
    .rw[aI (by simpa using h2),if_pos (λk=>h2 k.2.1),nH (by decide)];rfl
   .rw[aI (by simpa using h1),if_pos (λk=>h1 k.1),nH (by decide)];rfl
  .rw[Ui hS k,if_neg k,nH (by decide)];rfl
 |swap=>
  simp only;obtain⟨k0,k1⟩:=hr h;have hn:g.i.toNat<q.c.S:=by omega
  rw[zB hS k0 k1];by_cases e:q.m.sl g.i.toNat=g.wd
  .rw[uI hn e,if_pos e,show zU q (g.fin 0,q.m.set g.i.toNat g.nx)=q.fin (q.m.set g.i.toNat g.nx) ⟨0,0,0,g.num,0,0,0,0⟩from if_pos rfl];rfl
  .rw[uJ hn e,if_neg e,zT (by simp)];rfl
 |done=>exact absurd h hd
end Yq
namespace Yq
variable{α:Type} {c:Cn} {m:Mm} {w:Nat}
def ku(c:Cn)(l:List Nat):Prop:=l.Nodup/\∀a∈l,a<c.W
theorem ku.line{l}(h:ku c l)(hW:c.W<=14):dZ l:=⟨by have:=Ib c.W l h.1 h.2;omega,λa ha=>by have:=h.2 a ha;omega⟩
theorem sG{l}{F:List Nat->M α}(h:dZ l):(Il (au l) F).get=(F l).get:=by
 have e:=iG h;unfold Il;rw[aI (jh (⟨by rw[e],by rw[e];exact h⟩)),e]
theorem abv{a b}(ha:dZ a)(hb:dZ b)(h:au a=au b):a=b:=by grind [iG]
theorem Ej{a b}{yes no:Mm->M α}(hb:dZ b)(e:m.qu=a):(xX m (au a) (au b) yes no).get=(yes {m with qu:=b}).get:=by
 grind [xX,aI,jh,iG]
theorem El{a b}{yes no:Mm->M α}(ha:dZ a)(hm:dZ m.qu)(e:¬m.qu=a):(xX m (au a) (au b) yes no).get=(no m).get:=by
 unfold xX;rw[aT (by grind [abv])]
theorem vG{b i}{F:Nat->M α}(hW:c.W<=1000)(hS:c.S<=1000)(hi:i<c.W):(vU c b (i:Int) F).get=(F (i+b)).get:=by
 grind [vU,aI,Em,VE,Int.toNat_natCast]
theorem lK{a b:Nat}(h:a≠b):Nat.beq a b=false:=by
 grind [Nat.eq_of_beq_eq_true]
theorem Ki{i}{v}{F:Mm->M α}(h:i<c.W):(pM c m (i+(3+c.W)) v F).get=(F (m.nT i v)).get:=by
 grind [pM,aT,lK,NS,aI,qY]
theorem Kh{i}{v}{F:Mm->M α}(h:i<c.W):(pM c m (i+3) v F).get=(F (m.pin i v)).get:=by
 grind [pM,aT,lK,NS,aI,qY]
theorem acp{i}{F:Int->M α}(h:i<c.W):(tN c m (i+(3+c.W)) F).get=(F (m.gr i)).get:=by
 grind [tN,aT,lK,NS,aI,qY]
theorem aco{i}{F:Int->M α}(h:i<c.W):(tN c m (i+3) F).get=(F (m.pn i)).get:=by
 grind [tN,aT,lK,aI,qY]
structure zI(c:Cn)(w:Nat)(q:Qu):Prop where
 ln:q.st=.push\/q.st=.drop\/q.st=.pop->ku c q.ln
 push:q.st=.push->w<c.W/\w∉q.ln
 drop:q.st=.drop->w∈q.ln
 tell:q.st=.tell->q.first<c.W
theorem OY{q}{K:EK Qu α}(hW:c.W<=14)(hS:c.S<=1000)(hq:ku c m.qu)(R:zI c w q)(hd:q.st≠.done):
  (Ye c w m q K).get=if(q.step c w m).1.st=.done then(K.fin (q.step c w m).1.e q (q.step c w m).2).get else(K.go (q.step c w m).1 (q.step c w m).2).get:=by
 have hm:=hq.line hW;unfold Ye Qu.step;cases h:q.st with
 |come=>
  simp only;rw[sG hm];by_cases k:c.wt<=m.qu.length
  .rw[aI (by simpa using k),if_pos (Or.inl k),if_pos (by rfl)];rfl
  .rw[aT (by simpa using k),sG hm]
   by_cases l:w∈m.qu
   .rw[aI (jh l),if_pos (Or.inr l),if_pos (by rfl)];rfl
   .have hn:¬(c.wt<=m.qu.length\/w∈m.qu):=fun e=>Or.elim e k l
    rw[aT (yM l)];simp only[if_neg hn];rw[if_neg (by simp)]
 |push=>
  simp only;obtain⟨w1,w2⟩:=R.push h;have L:=R.ln (.inl h);have hl:=L.line hW;have Qd:q.ln.length<15:=by have:=Ib c.W q.ln L.1 L.2;omega
  have hb:dZ (q.ln++[w]):=⟨by simp;omega,λa ha=>by
   rcases eS.1 ha with ha|ha
   .exact hl.2 a ha
   .have:=cY.1 ha;omega⟩
  rw[aI (jh (by rw[iG hl];exact⟨⟨by rw[iG hl],by rw[iG hl];exact hl⟩,Qd,by omega,w2⟩)),iG hl];by_cases e:m.qu=q.ln
  .rw[Ej hb e,if_pos e,if_neg (by simp),e]
  .rw[El hl hm e,if_neg e,if_neg (by simp)]
 |closed=>
  simp only;by_cases k:m.cl=0
  .rw[aI (by simpa using k),if_pos k,if_pos (by rfl)];rfl
  .rw[aT (by simpa using k),if_neg k,if_neg (by simp)]
 |look=>
  simp only;rw[sG hm];by_cases l:w∈m.qu
  .rw[aT (by rw[jh l];rfl),if_pos l,if_neg (by simp)]
  .rw[aI (by rw[yM l];rfl),if_neg l,if_pos (by rfl)];rfl
 |drop=>
  simp only;have w2:=R.drop h;have L:=R.ln (.inr (.inl h));have hl:=L.line hW;have hb:dZ (q.ln.erase w):=⟨by have:=hl.1;have:=List.length_erase_le (a:=w) (l:=q.ln);omega,λa ha=>hl.2 a (List.mem_of_mem_erase ha)⟩;rw[aI (jh (by rw[iG hl];exact⟨⟨by rw[iG hl],by rw[iG hl];exact hl⟩,L.1,w2⟩)),iG hl];by_cases e:m.qu=q.ln
  .rw[Ej hb e,if_pos e,if_pos (by rfl),e];rfl
  .rw[El hl hm e,if_neg e,if_neg (by simp)]
 |head=>
  rw[sG hm];cases hx:m.qu with
  |nil=>rw[aI (jh rfl)];rfl
  |cons a r=>rw[aT (yM (by simp))];rfl
 |pop=>
  simp only;have L:=R.ln (.inr (.inr h));have hl:=L.line hW;have hb:dZ q.ln.tail:=⟨by have:=hl.1;simp;omega,λa ha=>hl.2 a (qt ha)⟩;rw[sG hl];by_cases e:m.qu=q.ln
  .rw[Ej hb e,if_pos e,if_neg (by simp),e]
  .rw[El hl hm e,if_neg e,if_neg (by simp)]
 |tell=>
  have hf:=R.tell h;rw[vG (by omega) hS hf,Ki hf,if_neg (by simp)]
 |done=>exact absurd h hd
variable{q:Xq}
def NC(q:Xq)(r:Rp):Xq:=
 match r.st with
 | .look=>
  let f:=r.look.step q.c.S q.m
  if f.fd.isSome then q.to q.m (.work (.aS {r with look:=f,st:=.ask}))else if f.all q.c.S then q.fin q.m ⟨0,r.many,0,0,0,0,0,0⟩else q.to q.m (.work (.aS {r with look:=f}))
 | .ask=>
  let q':={q with wo:=q.wo.tail}
  if xD q.wo=true/\r.look.wd.fO=false/\r.look.wd.brk=false then q'.to q.m (.work (.aS {r with st:=.mark}))else q'.to q.m (.work (.aS {r with rt:=Rt.new r.look.at_ r.look.wd,st:=.dB}))
 | .mark=>match az r.look.wd 10 q.who 0 with
  |some n=>if q.m.sl r.look.at_=r.look.wd then q.to (q.m.set r.look.at_ n) (.work (.aS {r with look:=r.look.go,st:=.look}))else q.to q.m (.work (.aS {r with look:=r.look.go,st:=.look}))
  |none=>q.to q.m (.work (.aS {r with look:=r.look.go,st:=.look}))
 | .dB=>
  let t:=r.rt.step q.m
  if t.1.st=.done then q.to t.2 (.work (.aS {r with rt:=t.1,many:=if t.1.sw then aR (r.many+1)else r.many,look:=r.look.go,st:=.look}))else q.to t.2 (.work (.aS {r with rt:=t.1}))
theorem uh{r}(hS:q.c.S<=1000)(h1:r.st=.look->oI r.look 6)(h2:r.st≠.look->vF r.look 6/\r.look.at_<q.c.S)(hg:r.st=.dB->r.rt.st=.swap\/r.rt.st=.iI->r.rt.i<q.c.S):(ND q r).get=same (NC q r):=by
 unfold ND NC;cases h:r.st with
 |look=>
  simp only;have hk:=h1 h;rw[qa hS hk.2 (by rw[hk.1];decide)];split
  .rfl
  .split<;>rfl
 |ask=>
  simp only;obtain⟨⟨_,x,hx⟩,hi⟩:=h2 (by rw[h];decide);have no:(uV q.c (r.look.at_:Int) λi v=>qI (({q with wo:=q.wo.tail}:Xq).to q.m (.work (.aS {r with rt:=Rt.new i r.look.wd,st:=.dB}))) v).get=same (({q with wo:=q.wo.tail}:Xq).to q.m (.work (.aS {r with rt:=Rt.new r.look.at_ r.look.wd,st:=.dB}))):=by
   rw[G9 hS hi];rfl
  by_cases a:xD q.wo=true
  .rw[aI a]
   by_cases b:r.look.wd.fO=false
   .rw[aI (by simp[b])]
    by_cases d:r.look.wd.brk=false
    .rw[aI (by simp[d]),if_pos ⟨a,b,d⟩];rfl
    .rw[aT (by simpa using d),if_neg (λk=>d k.2.2)];exact no
   .rw[aT (by simpa using b),if_neg (λk=>b k.2.1)];exact no
  simp_all
 |mark=>
  obtain⟨⟨_,x,hx⟩,hi⟩:=h2 (by rw[h];decide);have on:∀m:Mm,(EP r.look λf a=>yo (q.to m (.work (.aS {r with look:=f,st:=.look}))) a).get=same (q.to m (.work (.aS {r with look:=r.look.go,st:=.look}))):=λm=>by
   rw[xQ hx (by omega)];rfl
  cases hn:az r.look.wd 10 q.who 0 with
  |none=>rw[nZ hn,on]
  |some n=>
   rw[nY hn,mX hS hi];simp only;by_cases e:q.m.sl r.look.at_=r.look.wd
   .rw[uI hi e,on,if_pos e]
   .rw[uJ hi e,on,if_neg e]
 |dB=>
  simp only;obtain⟨⟨_,x,hx⟩,hi⟩:=h2 (by rw[h];decide);rw[DN (hg h)];by_cases hd:(r.rt.step q.m).1.st=.done
  .rw[if_pos hd,if_pos hd]
   cases hw:(r.rt.step q.m).1.sw with
   |true=>rw[aI rfl,xQ hx (by omega),if_pos rfl];rfl
   |false=>rw[aT rfl,xQ hx (by omega),if_neg (by decide)];rfl
  .rw[if_neg hd,if_neg hd, <-h];rfl
end Yq
namespace Yq
variable{α:Type} {c:Cn} {m:Mm} {w:Nat} {q:Xq}
theorem BI{t}{found all more:Td->Int->M α}(hS:c.S<=1000)(hf:t.look.fd=none)(hk:t.look.kd<=6):
  (BJ c m t found all more).get=if(t.fu c.S m).look.fd.isSome then(found (t.fu c.S m) (t.fu c.S m).look.at_).get else if(t.fu c.S m).look.all c.S then(all (t.fu c.S m) (t.fu c.S m).look.at_).get else(more (t.fu c.S m) (t.fu c.S m).look.at_).get:=by
 unfold BJ;rw[qa hS hf hk];cases hx:(t.look.step c.S m).fd with
 |none=>
  grind [jQ]
 |some x=>
  have e:=jP rfl hx;grind [Fd.wd]
theorem qG{t}{d own}{yes no:Mm->M α}(hS:c.S<=1000)(hi:t.i<c.S):(rY c m t d own yes no).get=match t.swap m d own with|some m'=>(yes m').get|none=>(no m).get:=by
 grind [rY,Td.swap,nZ,nY,mX,uI,uJ]
theorem LQ{o}{F:Int->M α}(h0: -1<=o)(h1:o<=1000):(Cq w o F).get=(F ((jq w (o+1).toNat:Nat):Int)).get:=by
 have e1:aR (o+1)=o+1:=fA ⟨by omega,by omega⟩;unfold Cq jq;by_cases k:(o+1).toNat=w
 .rw[aI (by simp;omega),fA ⟨by omega,by omega⟩,if_pos k]
  congr 2;omega
 .rw[aT (by simp;omega),if_neg k]
  congr 2;omega
structure TdR(c:Cn)(m:Mm)(t:Td):Prop where
 dL:t.st=.dL->oI t.look 4
 go:t.st=.go->t.rt.st=.swap\/t.rt.st=.iI->t.rt.i<c.S
 old:t.st=.old->oI t.look 5
 pins:t.st=.pins\/t.st=.clear->vF t.look 5/\t.look.at_<c.S/\t.i<c.S
 other:t.st=.pins->t.other<c.W
 some:t.st=.some->oI t.look 3
 i:t.st=.keep\/t.st=.grant\/t.st=.back\/t.st=.dR->t.i<c.S
 head:t.st=.grant->t.head<c.W
 qu:t.st=.pop->ku c t.qu
 pn:∀i,m.pn i<=9223372036854775807
def UD(q:Xq)(p:Option Bool)(an:bR)(r:Td×Mm):Xq:=q.to r.2 (.ax r.1 p an)
theorem agc{t}{p}{an}{dn}(hW:q.c.W<=14)(hw:q.who<q.c.W)(hS:q.c.S<=1000)(hq:ku q.c q.m.qu)(R:TdR q.c q.m t)(hd:t.st≠.done):
  (tdQ q t p an dn).get=if(t.step q.c q.who q.m).1.st=.done then(dn (t.step q.c q.who q.m).2).get else same (UD q p an (t.step q.c q.who q.m)):=by
 have hm:=hq.line hW;unfold tdQ Td.step;cases h:t.st with
 |ep=>simp only;rw[if_neg (by simp)];rfl
 |pin=>simp only;rw[vG (by omega) hS hw,Kh hw,if_neg (by simp)];rfl
 |cl=>simp only;rw[if_neg (by simp)];rfl
 |dL=>
  simp only;have hk:=R.dL h;rw[BI hS hk.2 (by rw[hk.1];decide)];by_cases a:(t.fu q.c.S q.m).look.fd.isSome
  .have hi:(t.fu q.c.S q.m).i<q.c.S:=by
    cases hx:(t.look.step q.c.S q.m).fd with
    |none=>rw[jQ hx]at a;simp[hx]at a
    |some x=>
     rw[jP rfl hx];show(t.look.step q.c.S q.m).at_<q.c.S;unfold Fd.step at hx ⊢;split
     .rename_i h1;rw[if_pos h1,hk.2]at hx;cases hx
     .rename_i h1
      rw[if_neg h1]at hx;split
      .simp at h1 ⊢;omega
      .rename_i h2;rw[if_neg h2]at hx;simp[hk.2]at hx
   simp only[if_pos a];rw[G9 hS hi,if_neg (by simp)];rfl
  .simp only[if_neg a]
   by_cases b:(t.fu q.c.S q.m).look.all q.c.S
   .simp only[if_pos b];rw[if_neg (by simp)];rfl
   .simp only[if_neg b]
    have e:(t.fu q.c.S q.m).st=.dL:=by
     cases hx:(t.look.step q.c.S q.m).fd with
     |none=>rw[jQ hx];exact h
     |some x=>rw[jP rfl hx];exact h
    rw[if_neg (by rw[e];simp)];rfl
 |go=>
  simp only;rw[DN (R.go h)];by_cases hd:(t.rt.step q.m).1.st=.done
  .simp only[if_pos hd];rw[if_neg (by simp)];rfl
  .simp only[if_neg hd];rw[if_neg (by simp[h]), <-h];rfl
 |old=>
  simp only;have hk:=R.old h;rw[BI hS hk.2 (by rw[hk.1];decide)];have e:(t.fu q.c.S q.m).st=.old:=by
   cases hx:(t.look.step q.c.S q.m).fd with
   |none=>rw[jQ hx];exact h
   |some x=>rw[jP rfl hx];exact h
  by_cases a:(t.fu q.c.S q.m).look.fd.isSome
  .simp only[if_pos a]
   rw[LQ (by omega) (by omega)];by_cases k:jq q.who 0<q.c.W
   .rw[aT (by simpa using k),if_pos k,if_neg (by simp)];rfl
   .rw[aI (by simpa using k),if_neg k,if_neg (by simp)];rfl
  .simp only[if_neg a]
   have ec:(t.fu q.c.S q.m).cl=t.cl:=by
    cases hx:(t.look.step q.c.S q.m).fd with
    |none=>rw[jQ hx]
    |some x=>rw[jP rfl hx]
   by_cases b:(t.fu q.c.S q.m).look.all q.c.S
   .simp only[if_pos b]
    by_cases k:(t.fu q.c.S q.m).cl=0
    .have e3:(if(t.fu q.c.S q.m).cl≠0 then mO.eO else .line)=.line:=if_neg (fun h=>h k)
     rw[aT (by simpa using k)];simp only[e3];rw[if_neg (by simp)];rfl
    .have e3:(if(t.fu q.c.S q.m).cl≠0 then mO.eO else .line)=.eO:=if_pos k
     rw[aI (by simpa using k)];simp only[e3];rw[if_neg (by simp)];rfl
   .simp only[if_neg b]
    rw[if_neg (by rw[e];simp)];rfl
 |pins=>
  simp only;obtain⟨⟨_,x,hx⟩,ha,hi⟩:=R.pins (.inl h);have ho:=R.other h;rw[vG (by omega) hS ho,aco ho]
  have nx:(Cq q.who (t.other:Int) λo=>
    M.br (!decide (o<(q.c.W:Int))) (.ret (q.to q.m (.ax {t with other:=o.toNat,st:=.clear} p an),{Xq.ex (q.to q.m (.ax {t with other:=o.toNat,st:=.clear} p an))with bf:=o}))
     (.ret (q.to q.m (.ax {t with other:=o.toNat,st:=.pins} p an),{Xq.ex (q.to q.m (.ax {t with other:=o.toNat,st:=.pins} p an))with bf:=o}))).get=
    same (q.to q.m (.ax {t with other:=jq q.who (t.other+1),st:=if jq q.who (t.other+1)<q.c.W then .pins else .clear} p an)):=by
   rw[LQ (by omega) (by omega),show((t.other:Int)+1).toNat=t.other+1 by omega];by_cases k:jq q.who (t.other+1)<q.c.W
   .rw[aT (by simpa using k),if_pos k];rfl
   .rw[aI (by simpa using k),if_neg k];rfl
  have hp:=R.pn t.other;by_cases k:1<=q.m.pn t.other
  .rw[aT (by simpa using k),fA ⟨by omega,by omega⟩]
   by_cases l:q.m.pn t.other-1<=t.wd.ep
   .rw[aI (by simpa using l),xQ hx (by omega)]
    simp only[if_pos (show oC (q.m.pn t.other) t.wd.ep from⟨k,l⟩)];rw[if_neg (by simp)];rfl
   .rw[aT (by simpa using l)]
    simp only[if_neg (show¬oC (q.m.pn t.other) t.wd.ep from λe=>l e.2)];rw[if_neg (by split<;>simp)];exact nx
  .rw[aI (by simp;omega)]
   simp only[if_neg (show¬oC (q.m.pn t.other) t.wd.ep from λe=>k e.1)];rw[if_neg (by split<;>simp)];exact nx
 |clear=>
  simp only;obtain⟨⟨_,x,hx⟩,ha,hi⟩:=R.pins (.inr h);rw[qG hS hi,if_neg (by simp)];cases hs:t.swap q.m 12 q.who with
  |none=>simp only[Option.getD_none];rw[xQ hx (by omega)];rfl
  |some m'=>simp only[lO];rw[xQ hx (by omega)];rfl
 |line=>
  simp only;rw[sG hm];cases hx:q.m.qu with
  |nil=>rw[aI (jh rfl)];simp only;rw[if_neg (by simp)];rfl
  |cons a r=>rw[aT (yM (by simp))];simp only;rw[if_neg (by simp)];rfl
 |some=>
  simp only;have hk:=R.some h;rw[BI hS hk.2 (by rw[hk.1];decide)];have e:(t.fu q.c.S q.m).st=.some:=by
   cases hx:(t.look.step q.c.S q.m).fd with
   |none=>rw[jQ hx];exact h
   |some x=>rw[jP rfl hx];exact h
  by_cases a:(t.fu q.c.S q.m).look.fd.isSome
  .simp only[if_pos a];rw[if_neg (by simp)];rfl
  .simp only[if_neg a]
   by_cases b:(t.fu q.c.S q.m).look.all q.c.S
   .simp only[if_pos b];rw[if_neg (by simp)];rfl
   .simp only[if_neg b];rw[if_neg (by rw[e];simp)];rfl
 |keep=>
  simp only;have hi:=R.i (.inl h);by_cases k:t.wd.st=2
  .rw[aI (by simpa using k),qG hS hi]
   simp only[if_pos k];cases hs:t.swap q.m 5 t.head with
   |none=>simp only;rw[if_neg (by simp)];rfl
   |some m'=>simp only;rw[if_neg (by simp)];rfl
  .rw[aT (by simpa using k),qG hS hi]
   simp only[if_neg k];cases hs:t.swap q.m 7 t.head with
   |none=>simp only;rw[if_neg (by simp)];rfl
   |some m'=>simp only;rw[if_neg (by simp)];rfl
 |pop=>
  simp only;have L:=R.qu h;have hl:=L.line hW;have hb:dZ t.qu.tail:=⟨by have:=hl.1;simp;omega,λa ha=>hl.2 a (qt ha)⟩;rw[sG hl];by_cases e:q.m.qu=t.qu
  .rw[Ej hb e];simp only[if_pos e];rw[if_neg (by simp),e];rfl
  .rw[El hl hm e];simp only[if_neg e];rw[if_neg (by simp)];rfl
 |grant=>
  simp only;have hh:=R.head h;have hi:=R.i (.inr (.inl h));rw[vG (by omega) hS hh,Ki hh,fA ⟨by omega,by omega⟩,if_neg (by simp)];rfl
 |back=>
  simp only;have hi:=R.i (.inr (.inr (.inl h)));rw[mX hS hi,qm hi];by_cases k:(q.m.sl t.i).st=4
  .rw[aI (by simpa using k),if_pos (Or.inl k),if_neg (by simp)];rfl
  .rw[aT (by simpa using k)]
   by_cases l:(q.m.sl t.i).st=5
   .rw[aI (by simpa using l),if_pos (Or.inr l),if_neg (by simp)];rfl
   .rw[aT (by simpa using l),if_neg (λe=>Or.elim e k l),if_neg (by simp)];rfl
 |dR=>
  simp only;have hi:=R.i (.inr (.inr (.inr h)));by_cases k:t.wd.st=4
  .rw[aI (by simpa using k),qG hS hi]
   simp only[if_pos k];cases hs:t.swap q.m 6 q.who with
   |none=>simp only;rw[if_neg (by simp)];rfl
   |some m'=>simp only;rw[if_neg (by simp)];rfl
  .rw[aT (by simpa using k),qG hS hi]
   simp only[if_neg k];cases hs:t.swap q.m 8 q.who with
   |none=>simp only;rw[if_neg (by simp)];rfl
   |some m'=>rfl
 |eO=>rw[vG (by omega) hS hw,Kh hw,if_neg (by simp)];rfl
 |again=>
  by_cases k:q.m.ep=t.ep
  .rw[aI (by simpa using k),if_pos k,if_pos rfl]
  .rw[aT (by simpa using k),if_neg k,if_neg (by simp)];rfl
 |done=>exact absurd h hd
end Yq
namespace Yq
def aP(c:Cn)(s:Ms)(w n:Nat)(R:Go.Sx.Rows)(rest:Nat->Option Value)(aj at_:Int):Xq:=⟨c,s.m,s.now,s.wo,w,s.ws w,n,R,rest,aj,at_⟩
structure TkR(c:Cn)(t:Tk):Prop where
 nd:t.st≠.done
 own:t.st=.own->oI t.look 0
 any:t.st=.any->oI t.look 1
 free:t.st=.free->oI t.look 2
 move:t.st=.move->oI t.look 0
 dD:t.st=.dD->vF t.look 0
 at_:t.st=.gp\/t.st=.anyS\/t.st=.dQ\/t.st=.dD->t.look.at_<c.S
 i:t.st=.bM\/t.st=.back\/t.st=.grant\/t.st=.eG->t.i<c.S
 go:t.st=.go->t.rt.st=.swap\/t.rt.st=.iI->t.rt.i<c.S
theorem Xc{q}{t}{g}(hS:q.c.S<=1000)(R:TkR q.c t):dJ q t g:=by
 cases h:t.st with
 |closed=>exact BL h
 |own=>exact Oc hS h (R.own h)
 |any=>exact Od hS h (R.any h)
 |free=>exact JQ hS h (R.free h)
 |move=>exact JP hS h (R.move h)
 |gp=>exact JO hS h (R.at_ (.inl h))
 |anyS=>exact JU hS h (R.at_ (.inr (.inl h)))
 |dQ=>exact Fe hS h (R.at_ (.inr (.inr (.inl h))))
 |dD=>exact Fa hS h (R.at_ (.inr (.inr (.inr h)))) (R.dD h)
 |bM=>exact JR hS h (R.i (.inl h))
 |check=>exact Ff h
 |back=>exact JS hS h (R.i (.inr (.inl h)))
 |go=>exact af6 h (R.go h)
 |grant=>exact Fb hS h (R.i (.inr (.inr (.inl h))))
 |eG=>exact BK hS h (R.i (.inr (.inr (.inr h))))
 |done=>exact absurd h R.nd
def uQ(c:Cn)(m:Mm)(w:Nat)(x:Wr):Prop:=
 match x.ph with
 | .pin (some _)=>x.ask.op<8/\x.grant<=1000
 | .work (.get t)=>TkR c t
 | .work (.give g)=>(g.st=.rest->0<=g.i/\g.i<c.S)/\(g.st=.go->g.rt.st=.swap\/g.rt.st=.iI->g.rt.i<c.S)/\g.st≠.done
 | .work (.bg s)=>(s.st=.swap->0<=s.i/\s.i<c.S)/\s.st≠.done
 | .work (.close (some u))=>zI c 0 u/\(u.st=.head\/u.st=.pop\/u.st=.tell)
 | .work (.aS r)=>(r.st=.look->oI r.look 6)/\(r.st≠.look->vF r.look 6/\r.look.at_<c.S)/\(r.st=.dB->r.rt.st=.swap\/r.rt.st=.iI->r.rt.i<c.S)
 | .enters u=>zI c w u/\u.st≠.done
 | .leaves u=>zI c w u/\u.st≠.done
 | .ax t _ _=>TdR c m t/\t.st≠.done
 | .parked _=>zI c w Qu.leave
 | .wakes none=>False
 | .work (.stats _)| .counts _=>False
 |_=>True
variable{c:Cn} {s:Ms} {w n:Nat} {R:Go.Sx.Rows} {rest:Nat->Option Value} {aj at_:Int}
theorem jy{m}{p}:(aP c s w n R rest aj at_).to m p=aP c ((s.mem m).put w ((s.ws w).to p)) w n R rest aj at_:=by
 unfold aP Xq.to;rw[bD];rfl
theorem xz{m}{a}:(aP c s w n R rest aj at_).fin m a=aP c ((s.mem m).put w ((s.ws w).end_ a)) w n R rest aj at_:=by
 unfold aP Xq.fin;rw[bD];rfl
def yes(r:Option RQ):Option (Bool×RQ):=r.map λr=>(true,r)
theorem iV{a}:(M.bind a λr=>M.ret (true,r)).get=yes a.get:=by
 rw[M.get_bind];cases a.get<;>rfl
def aif(s s':Ms)(n:Nat)(R:Go.Sx.Rows)(n':Nat)(R':Go.Sx.Rows)(aj:Int):Prop:=
 (s'.ev=s.ev/\n'=n/\R'=R)\/∃e,s'.ev=e::s.ev/\e.ended=true/\n'=n+1/\R'=eY (n+1) (evV e.who aj e.ask e.ans) R
def iD(c:Cn)(s:Ms)(w n:Nat)(R:Go.Sx.Rows)(rest:Nat->Option Value)(aj at_:Int):Prop:=
 ∃n' R',(fK (aP c s w n R rest aj at_)).get=yes (same (aP c (ai c s w) w n' R' rest aj at_))/\aif s (ai c s w) n R n' R' aj
theorem ja{s'}(hs:ai c s w=s')(he:s'.ev=s.ev)(h:(fK (aP c s w n R rest aj at_)).get=yes (same (aP c s' w n R rest aj at_))):iD c s w n R rest aj at_:=
 ⟨n,R,by rw[hs];exact h,.inl ⟨by rw[hs];exact he,rfl,rfl⟩⟩
theorem SV{r}:zQ (aP c s w n R rest aj at_) r=aP c (if r.1.st=.done then(if r.1.e=3 then(if(s.ws w).ask.wait then(s.mem r.2).put w ((s.ws w).to (.enters Qu.enter))else(s.mem r.2).put w ((s.ws w).to (.counts Tw.new)))
  else if r.1.e=0 then(s.mem r.2).put w ((s.ws w).end_ ⟨0,r.1.i,r.1.gen,0,0,0,0,0⟩)else(s.mem r.2).put w ((s.ws w).end_ (.err r.1.e)))else(s.mem r.2).put w ((s.ws w).to (.work (.get r.1)))) w n R rest aj at_:=by
 unfold zQ;simp only[show(aP c s w n R rest aj at_).x=s.ws w from rfl]
 repeat' split
 all_goals first|exact jy|exact xz
theorem agd{t}(hS:c.S<=1000)(hp:(s.ws w).ph=.work (.get t))(hr:TkR c t):iD c s w n R rest aj at_:=by
 have hx:(aP c s w n R rest aj at_).x.ph=.work (.get t):=hp;by_cases hd:t.st=.bM
 .have e:(fK (aP c s w n R rest aj at_)).get=yes (lG {aP c s w n R rest aj at_ with wo:=s.wo.tail} t (xD s.wo)).get:=by
   unfold fK;simp only[hx,hd];exact iV
  have hn:s.next=(xD s.wo,s.wo.tail):=by unfold Ms.next xD;cases s.wo<;>rfl
  have hg:=Xc (q:={aP c s w n R rest aj at_ with wo:=s.wo.tail}) (g:=xD s.wo) hS hr;refine ja (s':=ai c s w) rfl ?_ ?_
  .unfold ai;simp only[hp];unfold ak;simp only[hd,if_true]
   repeat' split
   all_goals rfl
  .rw[e,hg]
   congr 2;unfold ai;simp only[hp];unfold ak;simp only[hd,if_true,decide_true,Bool.true_and,hn];exact SV (s:={s with wo:=s.wo.tail})
 .have e:(fK (aP c s w n R rest aj at_)).get=yes (lG (aP c s w n R rest aj at_) t false).get:=by
   unfold fK;simp only[hx];exact iV
  have hg:=Xc (q:=aP c s w n R rest aj at_) (g:=false) hS hr;refine ja (s':=ai c s w) rfl ?_ ?_
  .unfold ai;simp only[hp];unfold ak;simp only[hd,jj]
   repeat' split
   all_goals rfl
  .rw[e,hg]
   congr 2;unfold ai;simp only[hp];unfold ak;simp only[hd,jj,decide_false,Bool.false_and];exact SV
theorem aft{r}:Ec (aP c s w n R rest aj at_) r=aP c (if r.1.st=.done then(s.mem r.2).put w ((s.ws w).end_ (.err r.1.e))else(s.mem r.2).put w ((s.ws w).to (.work (.give r.1)))) w n R rest aj at_:=by
 unfold Ec;split
 .exact xz
 .exact jy
theorem aep{g}(hS:c.S<=1000)(hp:(s.ws w).ph=.work (.give g))(hr:(g.st=.rest->0<=g.i/\g.i<c.S)/\(g.st=.go->g.rt.st=.swap\/g.rt.st=.iI->g.rt.i<c.S)/\g.st≠.done):iD c s w n R rest aj at_:=by
 have hx:(aP c s w n R rest aj at_).x.ph=.work (.give g):=hp;have e:(fK (aP c s w n R rest aj at_)).get=yes (NQ (aP c s w n R rest aj at_) g).get:=by
  unfold fK;simp only[hx];exact iV
 have hg:=ahH (q:=aP c s w n R rest aj at_) hS hr.1 hr.2.1 hr.2.2;refine ja (s':=ai c s w) rfl ?_ ?_
 .unfold ai;simp only[hp];unfold ak;simp only
  split<;>rfl
 .rw[e,hg]
  congr 2;unfold ai;simp only[hp];exact aft
theorem aer{r}:zU (aP c s w n R rest aj at_) r=aP c (if r.1.st=.done then(s.mem r.2).put w ((s.ws w).end_ ⟨r.1.e,0,0,if r.1.e=0 then r.1.num else 0,0,0,0,0⟩)else(s.mem r.2).put w ((s.ws w).to (.work (.bg r.1)))) w n R rest aj at_:=by
 unfold zU;by_cases h:r.1.st=.done
 .rw[if_pos h,if_pos h];exact xz
 .rw[if_neg h,if_neg h];exact jy
theorem ael{g}(hS:c.S<=1000)(hf:∀i,i<c.S->Facts (s.m.sl i))(hp:(s.ws w).ph=.work (.bg g))(hr:(g.st=.swap->0<=g.i/\g.i<c.S)/\g.st≠.done):iD c s w n R rest aj at_:=by
 have hx:(aP c s w n R rest aj at_).x.ph=.work (.bg g):=hp;have e:(fK (aP c s w n R rest aj at_)).get=yes (Nz (aP c s w n R rest aj at_) g).get:=by
  unfold fK;simp only[hx];exact iV
 have hg:=agh (q:=aP c s w n R rest aj at_) hS hf hr.1 hr.2;refine ja (s':=ai c s w) rfl ?_ ?_
 .unfold ai;simp only[hp];unfold ak;simp only
  split<;>rfl
 .rw[e,hg]
  congr 2;unfold ai;simp only[hp];exact aer
theorem SB{x}{k}:(ak c w s x k).ev=s.ev:=by
 unfold ak;cases k with
 |get t=>simp only;repeat' split
         all_goals rfl
 |give g=>simp only;split<;>rfl
 |bg g=>simp only;split<;>rfl
 |close d=>cases d with
  |none=>rfl
  |some u=>simp only;split<;>rfl
 |stats t=>simp only;split<;>rfl
 |aS r=>simp only;repeat' split
        all_goals rfl
theorem aem{r}(hS:c.S<=1000)(hp:(s.ws w).ph=.work (.aS r))(hr:(r.st=.look->oI r.look 6)/\(r.st≠.look->vF r.look 6/\r.look.at_<c.S)/\(r.st=.dB->r.rt.st=.swap\/r.rt.st=.iI->r.rt.i<c.S)):iD c s w n R rest aj at_:=by
 have hx:(aP c s w n R rest aj at_).x.ph=.work (.aS r):=hp;have e:(fK (aP c s w n R rest aj at_)).get=yes (ND (aP c s w n R rest aj at_) r).get:=by
  unfold fK;simp only[hx];exact iV
 have hg:=uh (q:=aP c s w n R rest aj at_) hS hr.1 hr.2.1 hr.2.2;have hn:s.next=(xD s.wo,s.wo.tail):=by unfold Ms.next xD;cases s.wo<;>rfl
 have key:NC (aP c s w n R rest aj at_) r=aP c (ai c s w) w n R rest aj at_:=by
  unfold ai;simp only[hp];unfold ak NC;cases h:r.st with
  |look=>
   simp only[h];show(if(r.look.step c.S s.m).fd.isSome then _ else if(r.look.step c.S s.m).all c.S then _ else _)=_;by_cases a:(r.look.step c.S s.m).fd.isSome
   .rw[if_pos a,if_pos a];exact jy
   .rw[if_neg a,if_neg a]
    by_cases b:(r.look.step c.S s.m).all c.S
    .rw[if_pos b,if_pos b];exact xz
    .rw[if_neg b,if_neg b];exact jy
  |ask=>
   simp only[h,hn];show(if xD s.wo=true/\r.look.wd.fO=false/\r.look.wd.brk=false then _ else _)=_;by_cases a:xD s.wo=true/\r.look.wd.fO=false/\r.look.wd.brk=false
   .rw[if_pos a,if_pos a];exact jy (s:={s with wo:=s.wo.tail})
   .rw[if_neg a,if_neg a];exact jy (s:={s with wo:=s.wo.tail})
  |mark=>
   simp only[h];show(match az r.look.wd 10 w 0 with|some n=>if s.m.sl r.look.at_=r.look.wd then _ else _|none=>_)=_;cases hx:az r.look.wd 10 w 0 with
   |none=>exact jy
   |some y=>
    simp only;by_cases a:s.m.sl r.look.at_=r.look.wd
    .rw[if_pos a,if_pos a];exact jy
    .rw[if_neg a,if_neg a];exact jy
  |dB=>
   simp only[h];show(if(r.rt.step s.m).1.st=.done then _ else _)=_;by_cases a:(r.rt.step s.m).1.st=.done
   .rw[if_pos a,if_pos a];exact jy
   .rw[if_neg a,if_neg a];exact jy
 refine ja rfl ?_ (by rw[e,hg,key]);unfold ai;simp only[hp];exact SB
end Yq
namespace Yq
variable{c:Cn} {s:Ms} {w n:Nat} {R:Go.Sx.Rows} {rest:Nat->Option Value} {aj at_:Int}
theorem aeo(hp:(s.ws w).ph=.pin none):iD c s w n R rest aj at_:=by
 have hx:(aP c s w n R rest aj at_).x.ph=.pin none:=hp;have hs:ai c s w=s.put w ((s.ws w).to (.pin (some s.m.ep))):=by grind [ai]
 refine ja hs rfl ?_;unfold fK;simp only[hx];rw[iV,jE,jy];rfl
theorem ZN{q}{m}(ho:q.x.ask.op<8)(hg:q.x.grant<=1000):(QS q m).get=same (q.to m (.work (bE q.x))):=by
 unfold QS bE;cases hq:q.x.ask with
 |mk op wait force dl slot gen bg=>
  rw[hq]at ho;match op,ho with
  |0,_=>
   simp only;by_cases k:q.x.grant>0
   .rw[aI (by simpa using k),if_pos k,fA ⟨by omega,by omega⟩]
    show some _=some _;congr 2;show(⟨_,((q.x.grant-1)),_,_⟩:Ex)=⟨_,(((q.x.grant-1).toNat:Nat):Int),_,_⟩;rw[j8 (by omega)];rfl
   .rw[aT (by simpa using k),if_neg k];rfl
  |1,_=>rfl
  |2,_=>rfl
  |3,_=>rfl
  |4,_=>rfl
  |5,_=>rfl
  |6,_=>rfl
  |7,_=>rfl
theorem aen{e}(hW:c.W<=1000)(hS:c.S<=1000)(hw:w<c.W)(hp:(s.ws w).ph=.pin (some e))(hr:(s.ws w).ask.op<8/\(s.ws w).grant<=1000):iD c s w n R rest aj at_:=by
 have hx:(aP c s w n R rest aj at_).x.ph=.pin (some e):=hp;have hs:ai c s w=(s.mem (s.m.pin w (aR (e+1)))).put w ((s.ws w).to (.work (bE (s.ws w)))):=by grind [ai]
 refine ja hs rfl ?_;unfold fK;simp only[hx];have h1:∀F:Nat->M (Bool×RQ),(vU (aP c s w n R rest aj at_).c 3 ((aP c s w n R rest aj at_).who:Int) F).get=(F (w+3)).get:=λF=>vG hW hS hw;rw[h1];have h2:∀F:Mm->M (Bool×RQ),(pM (aP c s w n R rest aj at_).c (aP c s w n R rest aj at_).m (w+3) (aR (e+1)) F).get=(F (s.m.pin w (aR (e+1)))).get:=λF=>Kh hw;rw[h2,iV,ZN hr.1 hr.2,jy];rfl
theorem XC(hp:(s.ws w).ph=.work (.close none)):iD c s w n R rest aj at_:=by
 have hx:(aP c s w n R rest aj at_).x.ph=.work (.close none):=hp;have hs:ai c s w=(s.mem (if(s.ws w).ask.force then{s.m with cl:=2}else if s.m.cl=0 then{s.m with cl:=1}else s.m)).put w ((s.ws w).to (.work (.close (some Qu.drain)))):=by unfold ai;simp only[hp];rfl
 refine ja hs rfl ?_;unfold fK;simp only[hx];by_cases a:(s.ws w).ask.force=true
 .rw[aI (show(aP c s w n R rest aj at_).x.ask.force=true from a),iV,jE,jy,if_pos a];rfl
 .rw[aT (show(aP c s w n R rest aj at_).x.ask.force=false by show(s.ws w).ask.force=false;simpa using a),if_neg a]
  by_cases b:s.m.cl=0
  .rw[aI (by show(s.m.cl==0)=true;simpa using b),iV,jE,jy,if_pos b];rfl
  .rw[aT (by show(s.m.cl==0)=false;simpa using b),iV,jE,jy,if_neg b];rfl
theorem XB{u}(hW:c.W<=14)(hS:c.S<=1000)(hq:ku c s.m.qu)(hp:(s.ws w).ph=.work (.close (some u)))(hr:zI c 0 u/\u.st≠.done)(h0:(u.step c 0 s.m)=u.step c w s.m):iD c s w n R rest aj at_:=by
 have hx:(aP c s w n R rest aj at_).x.ph=.work (.close (some u)):=hp;refine ja rfl (by grind [ai,SB]) ?_;unfold fK;simp only[hx];rw[iV];congr 1;refine(OY hW hS hq hr.1 hr.2).trans ?_;rw[h0];unfold ai ak;simp only[hp];by_cases a:(u.step c w s.m).1.st=.done
 .rw[if_pos a,if_pos a,jE,xz]
 .rw[if_neg a,if_neg a,jE,jy]
theorem aaC{g}(hW:c.W<=1000)(hS:c.S<=1000)(hw:w<c.W)(hp:(s.ws w).ph=.wakes (some g)):iD c s w n R rest aj at_:=by
 have hx:(aP c s w n R rest aj at_).x.ph=.wakes (some g):=hp;have hs:ai c s w=if g<0 then(s.mem (s.m.nT w 0)).put w ((s.ws w).end_ (.err 5))else(s.mem (s.m.nT w 0)).put w {(s.ws w)with grant:=g,ph:=.pin none}:=by grind [ai,dh]
 refine ja hs (by split<;>rfl) ?_;unfold fK GG;simp only[hx];rw[iV];have h1:∀F:Nat->M RQ,(vU (aP c s w n R rest aj at_).c (3+(aP c s w n R rest aj at_).c.W) ((aP c s w n R rest aj at_).who:Int) F).get=(F (w+(3+c.W))).get:=λF=>vG hW hS hw;rw[h1];have h2:∀F:Mm->M RQ,(pM (aP c s w n R rest aj at_).c (aP c s w n R rest aj at_).m (w+(3+c.W)) 0 F).get=(F (s.m.nT w 0)).get:=λF=>Ki hw;rw[h2];by_cases k:g<0
 .rw[aI (by simpa using k),if_pos k,jE,xz]
 .rw[aT (by simpa using k),if_neg k,jE]
  unfold aP Xq.to;rw[bD];rfl
theorem Mf{u}(hW:c.W<=14)(hS:c.S<=1000)(hq:ku c s.m.qu)(hr:zI c w u/\u.st≠.done):(D8 (aP c s w n R rest aj at_) u).get=same (aP c (aV c w s (s.ws w) u) w n R rest aj at_)/\(aV c w s (s.ws w) u).ev=s.ev:=by
 unfold D8 aV;refine⟨(OY hW hS hq hr.1 hr.2).trans ?_,?_⟩
 .by_cases a:(u.step c w s.m).1.st=.done
  .simp only[if_pos a]
   by_cases b:(u.step c w s.m).1.e=8
   .rw[aI (by grind),jE,if_pos b]
    exact fT same jy
   .rw[aT (by grind),jE,if_neg b]
    exact fT same xz
  .simp only[if_neg a]
   exact fT same jy
 .simp only
  repeat' split
  all_goals rfl
theorem Xy{u}(hW:c.W<=14)(hS:c.S<=1000)(hq:ku c s.m.qu)(hp:(s.ws w).ph=.leaves u)(hr:zI c w u/\u.st≠.done):iD c s w n R rest aj at_:=by
 have hx:(aP c s w n R rest aj at_).x.ph=.leaves u:=hp;have hs:ai c s w=aV c w s (s.ws w) u:=by grind [ai]
 have hl:=Mf (n:=n) (R:=R) (rest:=rest) (aj:=aj) (at_:=at_) hW hS hq hr;grind [fK,ja,iV]
theorem Xz{u}(hW:c.W<=14)(hS:c.S<=1000)(hq:ku c s.m.qu)(hp:(s.ws w).ph=.enters u)(hr:zI c w u/\u.st≠.done):iD c s w n R rest aj at_:=by
 have hx:(aP c s w n R rest aj at_).x.ph=.enters u:=hp
 refine ja (s':=ai c s w) rfl (by unfold ai;simp only[hp];repeat' split
                                  all_goals rfl) ?_
 unfold fK;simp only[hx];rw[iV];congr 1;refine(OY hW hS hq hr.1 hr.2).trans ?_;unfold ai;simp only[hp];by_cases a:(u.step c w s.m).1.st=.done
 .simp only[if_pos a]
  have eb:((u.step c w s.m).1.e==0)=decide ((u.step c w s.m).1.e=0):=by
   by_cases h:(u.step c w s.m).1.e=0<;>simp[h]
  by_cases b:(u.step c w s.m).1.e=0
  .rw[aT (by simpa using b),if_pos (.inl b),jE]
   refine(fT same jy).trans ?_;rw[eb]
  .rw[aI (by simpa using b)]
   by_cases d:(u.step c w s.m).1.e=8
   .rw[aT (by simpa using d),if_pos (.inr d),jE]
    refine(fT same jy).trans ?_;rw[eb]
   .rw[aI (by simpa using d),if_neg (fun k=>k.elim b d),jE]
    exact fT same xz
 .simp only[if_neg a]
  exact fT same jy
theorem Xw{t}{p}{an}(hW:c.W<=14)(hS:c.S<=1000)(hw:w<c.W)(hq:ku c s.m.qu)(hn:fG (n+2)=true)(hk:mh R.ks wN=true)(hp:(s.ws w).ph=.ax t p an)(hr:TdR c s.m t/\t.st≠.done):iD c s w n R rest aj at_:=by
 have hx:(aP c s w n R rest aj at_).x.ph=.ax t p an:=hp;have hg:∀dn,(tdQ (aP c s w n R rest aj at_) t p an dn).get=if(t.step c w s.m).1.st=.done then(dn (t.step c w s.m).2).get else same (UD (aP c s w n R rest aj at_) p an (t.step c w s.m)):=λdn=>agc (q:=aP c s w n R rest aj at_) hW hw hS hq hr.1 hr.2
 by_cases a:(t.step c w s.m).1.st=.done
 .cases p with
  |some b=>
   have hs:ai c s w=(s.mem (t.step c w s.m).2).put w ((s.ws w).to (.parked b)):=by unfold ai;simp only[hp];rw[if_pos a]
   refine ja hs rfl ?_;unfold fK Dy;simp only[hx];rw[iV,hg,if_pos a,jE,jy]
  |none=>
   have hs:ai c s w={(s.mem (t.step c w s.m).2).put w ((s.ws w).to .rest)with ev:=⟨true,w,(s.ws w).ask,an⟩::s.ev}:=by unfold ai;simp only[hp];rw[if_pos a];rfl
   refine⟨n+1,eY (n+1) (evV w aj (s.ws w).ask an) R,?_,.inr ⟨_,by rw[hs],rfl,rfl,rfl⟩⟩;rw[hs];unfold fK Dy;simp only[hx];rw[iV,hg,if_pos a,aI (ju _),aI (by show(fG (n+2)&&mh R.ks wN)=true;rw[hn,hk];rfl),jE];unfold aP Xq.to;rw[show({(s.mem (t.step c w s.m).2).put w ((s.ws w).to .rest)with ev:=⟨true,w,(s.ws w).ask,an⟩::s.ev}:Ms).ws w=(s.ws w).to .rest from bD _ _];rfl
 .have hs:ai c s w=(s.mem (t.step c w s.m).2).put w ((s.ws w).to (.ax (t.step c w s.m).1 p an)):=by unfold ai;simp only[hp];rw[if_neg a]
  refine ja hs rfl ?_;unfold fK Dy;simp only[hx];rw[iV,hg,if_neg a];congr 2;exact jy
theorem uG{α}{F:Int->M α}(hW:c.W<=14)(hS:c.S<=1000)(hw:w<c.W):(IC (aP c s w n R rest aj at_) F).get=(F (s.m.gr w)).get:=by
 unfold IC;have h1:∀F:Nat->M α,(vU (aP c s w n R rest aj at_).c (3+(aP c s w n R rest aj at_).c.W) ((aP c s w n R rest aj at_).who:Int) F).get=(F (w+(3+c.W))).get:=λF=>vG (show c.W<=1000 by omega) hS hw;rw[h1,aI]
 .rfl
 .show gu (Int.ofNat (w+(3+c.W))) (3+2*c.W+c.S)=true
  grind [gu]
theorem Xx{b}(hW:c.W<=14)(hS:c.S<=1000)(hw:w<c.W)(hq:ku c s.m.qu)(hp:(s.ws w).ph=.parked b)(hc:aQ s w):iD c s w n R rest aj at_:=by
 have hx:(aP c s w n R rest aj at_).x.ph=.parked b:=hp;have hc:s.m.gr w≠0\/b=true/\(s.ws w).ask.dl<=s.now:=by grind [aQ]
 have hR:zI c w Qu.leave/\Qu.leave.st≠.done:=by
  refine⟨⟨λh=> ?_,λh=> ?_,λh=> ?_,λh=> ?_⟩,λh=> ?_⟩
  .rcases h with h|h|h<;>exact JK.noConfusion h
  all_goals exact JK.noConfusion h
 have hl:=Mf (n:=n) (R:=R) (rest:=rest) (aj:=aj) (at_:=at_) hW hS hq hR;by_cases k:s.m.gr w=0
 .obtain⟨hb,hdl⟩:=hc.resolve_left (fun h=>h k)
  have hs:ai c s w=aV c w s (s.ws w) Qu.leave:=by unfold ai;simp only[hp];rw[if_neg (λh=>h k)]
  refine ja hs hl.2 ?_;unfold fK;simp only[hx];rw[uG hW hS hw,aT (by simpa using k),aI hb,aT (by show(!decide (s.now>=(s.ws w).ask.dl))=false;simpa using hdl),uG hW hS hw,aT (by simpa using k),iV,hl.1]
 .have hs:ai c s w=s.put w ((s.ws w).to (.wakes (some (s.m.gr w)))):=by unfold ai dh;simp only[hp];rw[if_pos k]
  refine ja hs rfl ?_;unfold fK;simp only[hx];rw[uG hW hS hw,aI (by simpa using k),uG hW hS hw,aI (by simpa using k),iV];unfold GG;have h1:∀F:Nat->M RQ,(vU ((aP c s w n R rest aj at_).to (aP c s w n R rest aj at_).m (.wakes none)).c (3+((aP c s w n R rest aj at_).to (aP c s w n R rest aj at_).m (.wakes none)).c.W) (((aP c s w n R rest aj at_).to (aP c s w n R rest aj at_).m (.wakes none)).who:Int) F).get=(F (w+(3+c.W))).get:=λF=>vG (show c.W<=1000 by omega) hS hw;rw[h1];have h2:∀F:Int->M RQ,(tN ((aP c s w n R rest aj at_).to (aP c s w n R rest aj at_).m (.wakes none)).c ((aP c s w n R rest aj at_).to (aP c s w n R rest aj at_).m (.wakes none)).m (w+(3+c.W)) F).get=(F (s.m.gr w)).get:=λF=>acp hw;rw[h2,jE];unfold aP Xq.to;rw[bD];rfl
theorem aiR(hW:c.W<=14)(hS:c.S<=1000)(hw:w<c.W)(hc:¬aQ s w):(fK (aP c s w n R rest aj at_)).get=some (false,(aP c s w n R rest aj at_,(aP c s w n R rest aj at_).ex)):=by
 unfold aQ at hc;cases hp:(s.ws w).ph with
 |rest=>
  have hx:(aP c s w n R rest aj at_).x.ph=.rest:=hp;unfold fK;simp only[hx];rfl
 |parked b=>
  simp only[hp]at hc;have hx:(aP c s w n R rest aj at_).x.ph=.parked b:=hp;have k:=cv λh=>hc (.inl h);unfold fK;simp only[hx];rw[uG hW hS hw,aT (by simpa using k)];cases b with
  |false=>rfl
  |true=>
   have hd:=λh=>hc (.inr ⟨rfl,h⟩);rw[aI rfl,aI (by show(!decide (s.now>=(s.ws w).ask.dl))=true;simpa using hd)];rfl
 |_=>simp[hp]at hc
theorem step_ok(hW:c.W<=14)(hS:c.S<=1000)(hw:w<c.W)(hq:ku c s.m.qu)(hf:∀i,i<c.S->Facts (s.m.sl i))(hn:fG (n+2)=true)(hk:mh R.ks wN=true)(hr:uQ c s.m w (s.ws w))(hc:aQ s w):iD c s w n R rest aj at_:=by
 unfold uQ at hr;cases hp:(s.ws w).ph with
 |rest=>grind [aQ]
 |pin h=>cases h with
  |none=>exact aeo hp
  |some e=>grind [aen]
 |work k=>cases k with
  |get t=>simp only[hp]at hr;exact agd hS hp hr
  |give g=>simp only[hp]at hr;exact aep hS hp hr
  |bg g=>simp only[hp]at hr;exact ael hS hf hp hr
  |close d=>cases d with
   |none=>exact XC hp
   |some u=>
    simp only[hp]at hr;obtain⟨h1,h2⟩:=hr;refine XB hW hS hq hp ⟨h1,?_⟩ ?_
    .rcases h2 with h|h|h<;>rw[h]<;>exact λk=>JK.noConfusion k
    .unfold Qu.step
     rcases h2 with h|h|h<;>simp only[h]
  |stats t=>simp[hp]at hr
  |aS r=>simp only[hp]at hr;exact aem hS hp hr
 |counts t=>simp[hp]at hr
 |enters u=>simp only[hp]at hr;exact Xz hW hS hq hp hr
 |leaves u=>simp only[hp]at hr;exact Xy hW hS hq hp hr
 |ax t p an=>simp only[hp]at hr;exact Xw hW hS hw hq hn hk hp hr
 |parked b=>exact Xx hW hS hw hq hp hc
 |wakes h=>cases h with
  |none=>simp[hp]at hr
  |some g=>exact aaC (by omega) hS hw hp
end Yq
namespace Yq
variable{α:Type} {c:Cn} {m:Mm} {s:Ms} {w n:Nat} {R:Go.Sx.Rows} {rest:Nat->Option Value} {aj at_:Int} {t:Tw}
structure Q0(c:Cn)(t:Tw):Prop where
 dn:t.dn=false
 rd:t.rd.length<c.S
 n:(t.n=0/\t.last=none)\/(0<t.n/\∃l,t.last=some l)
 nb:t.n<=4000000000000000000
 f1:∀x∈t.rd,Facts x
 f2:∀x∈t.last.getD [],Facts x
theorem CR{l:List Int}{k:Nat}{F:M α}(h:k=l.length):(wJ l k F).get=F.get:=by
 grind [wJ,aI,Nat.beq_refl]
theorem DY{i:Ti}{G:M α->M α}{F:M α}(h:(G F).get=F.get):(tF i G F).get=F.get:=by
 grind [tF]
theorem Xk:Xl (Ti.of t)=t.rd.length:=by
 unfold Xl Ti.of;cases t.rd<;>rfl
theorem af8:Xj (Ti.of t)=t.rd.length+1:=by
 unfold Xj Ti.of;cases t.rd<;>rfl
theorem Xh:Xi m (Ti.of t)=(t.rd++[m.sl t.rd.length]).map bH:=by
 unfold Xi;rw[Xk,qP];rfl
theorem DF{L:List Int}{F:M α}(h:L.length<=1000):(Bj L F).get=F.get:=by
 unfold Bj;simp_all
theorem ag7{F:M α}:(laQ (Ti.of t) F).get=F.get:=by
 unfold laQ Ti.of;cases t.last with
 |none=>rfl
 |some l=>exact CR (by simp)
theorem Pw:∀{a b:List aa},(∀x∈a,Facts x)->(∀x∈b,Facts x)->a.map bH=b.map bH->a=b
 |[],[],_,_,_=>rfl
 |[],y::b,_,_,h=>by simp at h
 |x::a,[],_,_,h=>by simp at h
 |x::a,y::b,ha,hb,h=>by
  simp only[oc,iS]at h;rw[SC (ha x cV) (hb y cV) h.1,Pw (λz hz=>ha z (da _ hz)) (λz hz=>hb z (da _ hz)) h.2]
theorem Xf{d:Bool}(h:t.n<=4000000000000000000):Xg m (Ti.of t) d=Ti.of ⟨[],some (t.rd++[m.sl t.rd.length]),d,t.n+1⟩:=by
 unfold Xg;rw[Xh];show(⟨[],0,_,_,d,aR ((t.n:Int)+1)⟩:Ti)=⟨[],0,_,_,d,((t.n+1:Nat):Int)⟩;rw[fA ⟨by omega,by omega⟩];simp
theorem Xe{neg}{no:Ti->M α}{yes}(hS:c.S<=1000)(R:Q0 c t)(hf:∀i,i<c.S->Facts (m.sl i)):
  (tiQ neg c m (Ti.of t) no yes).get=if(t.rd++[m.sl t.rd.length]).length<c.S then(no (Ti.of {t with rd:=t.rd++[m.sl t.rd.length]})).get
   else if t.last=some (t.rd++[m.sl t.rd.length])then(yes ((t.rd++[m.sl t.rd.length]).map bH)).get else(no (Ti.of ⟨[],some (t.rd++[m.sl t.rd.length]),false,t.n+1⟩)).get:=by
 have hl:(t.rd++[m.sl t.rd.length]).length=t.rd.length+1:=by simp
 have hfr:∀x∈t.rd++[m.sl t.rd.length],Facts x:=λx hx=>by
  rcases eS.1 hx with hx|hx
  .exact R.f1 x hx
  .rw[cY.1 hx];exact hf _ R.rd
 unfold tiQ;simp only[Xk,Xh,af8];rw[mX hS R.rd,qm R.rd];have hm:∀F:M α,(tF (Ti.of t) (λF=>wJ (Ti.of t).rd (Ti.of t).rl (.br (fG ((Ti.of t).rl+1)) F .bad)) F).get=F.get:=λF=>by
  refine DY ?_;rw[CR (by unfold Ti.of;simp),aI];unfold fG Ti.of;have:=R.rd;simp;omega
 rw[hm];by_cases k:(t.rd++[m.sl t.rd.length]).length<c.S
 .rw[aI (by simp at k ⊢;omega),if_pos k]
  congr 2;unfold Ti.of;simp
 .rw[aT (by simp at k ⊢;omega),if_neg k]
  have hsh:((t.rd++[m.sl t.rd.length]).map bH).length<=1000:=by have:=R.rd;simp;omega
  have hlen:∀F:M α,(tF (Ti.of t) (wJ ((t.rd++[m.sl t.rd.length]).map bH) (t.rd.length+1)) F).get=F.get:=λF=>DY (CR (by simp));rcases R.n with⟨n0,l0⟩|⟨n1,l,hl1⟩
  .rw[aT (by unfold Ti.of;simp;omega),hlen,DF hsh,if_neg (by rw[l0];simp),Xf R.nb]
  .rw[aI (by unfold Ti.of;simp;omega),hlen,ag7,DF hsh,hlen,DF hsh]
   have hw:∀F:M α,(tF (Ti.of t) (wJ ((t.rd++[m.sl t.rd.length]).map bH) (((t.rd++[m.sl t.rd.length]).map bH).tail.length+1)) F).get=F.get:=λF=>DY (CR (by simp));have hlast:(Ti.of t).last.getD []=l.map bH:=by unfold Ti.of;rw[hl1];rfl
   rw[hlast];by_cases e:t.last=some (t.rd++[m.sl t.rd.length])
   .have e2:l=t.rd++[m.sl t.rd.length]:=by rw[hl1]at e;exact b9 e
    have eb:((t.rd++[m.sl t.rd.length]).map bH==l.map bH)=true:=by rw[e2];simp
    rw[if_pos e,eb];cases neg with
    |true=>simp only[pN];rw[aT (show(!true)=false from rfl),aT (show(!true)=false from rfl),hw,DF hsh]
    |false=>simp only[oS];rw[aI rfl,aT (show(!true)=false from rfl),hw,DF hsh]
   .have eb:((t.rd++[m.sl t.rd.length]).map bH==l.map bH)=false:=by
     rw[j0];intro h;have:=Pw hfr (λx hx=>R.f2 x (by rw[hl1];exact hx)) h;exact e (by rw[hl1,this])
    rw[if_neg e,eb, <-Xf R.nb];cases neg with
    |true=>simp only[pN];rw[aI (show(!false)=true from rfl)]
    |false=>simp only[oS];rw[aT rfl]
theorem Aa{x}:aP c (s.put w x) w n R rest aj at_={aP c s w n R rest aj at_ with x:=x}:=by
 unfold aP;rw[bD];rfl
theorem afE{l}(h:∀x∈l,Facts x):fH (l.map bH)=Eh l:=by
 unfold fH;rw[List.map_map];congr 1;conv=>rhs;rw[<-List.map_id l]
 refine List.map_congr_left λx hx=> ?_;show iN (jf (bH x))=x;rw[AR (h x hx)];rfl
theorem QU{yes no:M α}:∀{l:List aa},(∀x∈l,Facts x)->(Lf (l.map bH) yes no).get=if∃y∈l,fits 3 w y then yes.get else no.get
 |[],_=>by rfl
 |x::l,h=>by
  have hx:=AR (h x cV);show(M.br (jf (bH x)).isSome (.br (kI (iN (jf (bH x))) 3 0) yes (Lf (l.map bH) yes no)) (Lf (l.map bH) yes no)).get=_;rw[hx,aI (show(some x).isSome=true from rfl)];have hf:kI (iN (some x)) 3 0=true↔fits 3 w x:=Gc (by decide);by_cases k:fits 3 w x
  .simp_all
  .rw[aT (by grind),QU (fun y hy=>h y (da _ hy))]
   simp_all
theorem acU(R:Q0 c t):t.step c.S m=if(t.rd++[m.sl t.rd.length]).length<c.S then{t with rd:=t.rd++[m.sl t.rd.length]}else⟨[],some (t.rd++[m.sl t.rd.length]),decide (t.last=some (t.rd++[m.sl t.rd.length])),t.n+1⟩:=by
 unfold Tw.step;rw[R.dn];grind
theorem Oa(R:Q0 c t)(hf:∀i,i<c.S->Facts (m.sl i)):∀x∈t.rd++[m.sl t.rd.length],Facts x:=λx hx=>by
 rcases eS.1 hx with hx|hx
 .exact R.f1 x hx
 .rw[cY.1 hx];exact hf _ R.rd
theorem aaD(hS:c.S<=1000)(hf:∀i,i<c.S->Facts (s.m.sl i))(hp:(s.ws w).ph=.work (.stats t))(hr:Q0 c t):(OB (aP c s w n R rest aj at_) (Ti.of t)).get=some (fq (aP c (ai c s w) w n R rest aj at_).tick)/\(ai c s w).ev=s.ev:=by
 have hs:ai c s w=if(t.step c.S s.m).dn then s.put w ((s.ws w).end_ ⟨0,0,0,0,Eh ((t.step c.S s.m).last.getD [])⟩)else s.put w ((s.ws w).to (.work (.stats (t.step c.S s.m)))):=by unfold ai;simp only[hp];rfl
 have F:=Oa hr hf;refine⟨?_,by rw[hs];split<;>rfl⟩;refine(Xe hS hr hf).trans ?_;rw[hs,acU hr];by_cases k:(t.rd++[s.m.sl t.rd.length]).length<c.S
 .rw[if_pos k,if_pos k,if_neg (by rw[hr.dn];decide),Aa];rfl
 .rw[if_neg k,if_neg k]
  by_cases e:t.last=some (t.rd++[s.m.sl t.rd.length])
  .rw[if_pos e,if_pos (by simpa using e),Aa]
   have hc:=afE F;have hne:∀F:M (List Go.Sx.ag),((match(t.rd++[s.m.sl t.rd.length]).map bH with|[]=>id|_::r'=>tF (Ti.of t) (wJ ((t.rd++[s.m.sl t.rd.length]).map bH) (r'.length+1))) F).get=F.get:=λF=>by
    cases hx:(t.rd++[s.m.sl t.rd.length]).map bH with
    |nil=>rfl
    |cons a r=>exact DY (CR (by simp))
   refine(hne _).trans ?_;rw[DF (by have:=hr.rd;simp;omega)];rw[hc];rfl
  .rw[if_neg e,if_neg (by simpa using e),Aa,cT e];rfl
theorem XA(hS:c.S<=1000)(hf:∀i,i<c.S->Facts (s.m.sl i))(hp:(s.ws w).ph=.counts t)(hr:Q0 c t):(K6 (aP c s w n R rest aj at_) (Ti.of t)).get=some (fq (aP c (ai c s w) w n R rest aj at_).tick)/\(ai c s w).ev=s.ev:=by
 have hs:ai c s w=if(t.step c.S s.m).dn then(if∃y∈(t.step c.S s.m).last.getD [],fits 3 w y then s.put w ((s.ws w).to (.work (.get Tk.new)))else s.put w ((s.ws w).end_ (.err 3)))else s.put w ((s.ws w).to (.counts (t.step c.S s.m))):=by grind [ai]
 have F:=Oa hr hf
 refine⟨?_,by rw[hs];repeat' split
              all_goals rfl⟩
 refine(Xe hS hr hf).trans ?_;rw[hs,acU hr];by_cases k:(t.rd++[s.m.sl t.rd.length]).length<c.S
 .rw[if_pos k,if_pos k,if_neg (by rw[hr.dn];decide),Aa];rfl
 .rw[if_neg k,if_neg k]
  by_cases e:t.last=some (t.rd++[s.m.sl t.rd.length])
  .rw[if_pos e,if_pos (by simpa using e),QU F]
   show _=some (fq (aP c (if∃y∈t.rd++[s.m.sl t.rd.length],fits 3 w y then _ else _) w n R rest aj at_).tick);by_cases h:∃y∈t.rd++[s.m.sl t.rd.length],fits 3 w y
   .rw[if_pos h,if_pos h,Aa];rfl
   .rw[if_neg h,if_neg h,Aa];rfl
  .rw[if_neg e,if_neg (by simpa using e),Aa,cT e];rfl
end Yq
namespace Yq
variable{c:Cn} {m:Mm} {w:Nat}
theorem IM{S}{f:Fd}:(f.step S m).kd=f.kd:=by
 unfold Fd.step;repeat' split
 all_goals rfl
theorem NP{f:Fd}:f.go.kd=f.kd:=by unfold Fd.go;split<;>rfl
def rA(t:Tk):Prop:=
 match t.st with
 | .gp| .anyS| .dQ=>t.look.fd.isSome=true
 | .move| .dD=>t.look.kd=0
 |_=>True
theorem gX{t}(h:t.st≠.gp/\t.st≠.anyS/\t.st≠.dQ/\t.st≠.move/\t.st≠.dD):rA t:=by
 unfold rA;cases hs:t.st<;>simp_all
theorem aal{S}{g}{t}(N:rA t):rA (t.step w S m g).1:=by
 unfold Tk.step;cases h:t.st with
 |closed=>simp only;split<;>exact gX (by simp[Tk.fin,Tk.search])
 |own=>
  simp only;split
  .rename_i k;exact k
  .split
   .exact gX (by simp[Tk.search])
   .exact gX (by simp[h])
 |any=>
  simp only;split
  .rename_i k;exact k
  .split
   .exact gX (by simp[Tk.search])
   .exact gX (by simp[h])
 |free=>
  simp only;split
  .rename_i k;exact k
  .split
   .exact gX (by simp[Tk.fin])
   .exact gX (by simp[h])
 |gp=>simp only;split<;>exact gX (by simp)
 |dQ=>simp only;split<;>exact gX (by simp)
 |anyS=>
  simp only;split
  .split
   .exact gX (by simp)
   .exact(rfl:(0:Nat)=0)
  .exact gX (by simp)
 |move=>
  unfold rA at N;rw[h]at N;have N:t.look.kd=0:=N;simp only;split
  .split
   .show rA _
    unfold rA;simp only[h];rw[NP,IM];exact N
   .show rA _
    unfold rA;simp only;rw[IM];exact N
  .split
   .exact gX (by simp)
   .show rA _
    unfold rA;simp only[h];rw[IM];exact N
 |dD=>
  unfold rA at N;rw[h]at N;have N:t.look.kd=0:=N;have go:∀m':Mm,rA (({t with look:=t.look.go,st:=.move}:Tk),m').1:=λm'=>by
   unfold rA;simp only;rw[NP];exact N
  simp only;repeat' split
  all_goals exact go m
 |bM=>
  simp only;repeat' split
  all_goals exact gX (by simp[Tk.fin])
 |check=>simp only;split<;>exact gX (by simp[Tk.fin])
 |back=>simp only;split<;>exact gX (by simp[Tk.fin])
 |go=>
  simp only;repeat' split
  all_goals exact gX (by simp[Tk.fin,h])
 |grant=>exact gX (by simp)
 |eG=>
  simp only;repeat' split
  all_goals refine gX ?_
  all_goals simp[Tk.fin]
  all_goals split<;>simp
 |done=>exact gX (by simp[h])
theorem af5{t}(T:pW c w t)(N:rA t)(hd:t.st≠.done):TkR c t:=by
 unfold pW at T;unfold rA at N;refine⟨hd,λh=> ?_,λh=> ?_,λh=> ?_,λh=> ?_,λh=> ?_,λh=> ?_,λh=> ?_,λh k=> ?_⟩
 .rw[h]at T;exact⟨T.2,T.1⟩
 .rw[h]at T;exact⟨T.2,T.1⟩
 .rw[h]at T;exact⟨T.2,T.1⟩
 .rw[h]at T N;exact⟨N,T.1⟩
 .rw[h]at T N;exact⟨N,cP.1 T.2.2⟩
 .rcases h with h|h|h|h<;>rw[h]at T<;>exact T.1
 .rcases h with h|h|h|h<;>rw[h]at T<;>exact T
 .rw[h]at T;exact T.1.1
def GvN(c:Cn)(g:Gv):Prop:=g.st=.rest->0<=g.i/\g.i<c.S
theorem abV{g}(N:GvN c g):GvN c (g.step c w m).1:=by
 unfold Gv.step;cases h:g.st with
 |closed=>simp only;split<;>exact λk=>pg.noConfusion k
 |look=>
  simp only;split
  .rename_i hr
   split
   .exact λk=>pg.noConfusion k
   .split
    .exact λk=>pg.noConfusion k
    .split
     .exact λk=>pg.noConfusion k
     .exact λ_=>hr
  .exact λk=>pg.noConfusion k
 |rest=>
  simp only;repeat' split
  all_goals exact λk=>pg.noConfusion k
 |go=>
  simp only;split
  .split<;>exact λk=>pg.noConfusion k
  .exact λk=>by simp[h]at k
 |done=>exact λk=>by simp[h]at k
def SmN(c:Cn)(g:Sm):Prop:=g.st=.swap->0<=g.i/\g.i<c.S
theorem aaE{g}(N:SmN c g):SmN c (g.step c w m).1:=by
 unfold Sm.step;cases h:g.st with
 |closed=>simp only;split<;>exact λk=>wV.noConfusion k
 |look=>
  simp only;split
  .rename_i hr
   split
   .exact λk=>wV.noConfusion k
   .split
    .exact λk=>wV.noConfusion k
    .split
     .exact λk=>wV.noConfusion k
     .exact λ_=>hr
  .exact λk=>wV.noConfusion k
 |swap=>simp only;split<;>exact λk=>wV.noConfusion k
 |done=>exact λk=>by simp[h]at k
def EZ(c:Cn)(q:Qu):Prop:=
 match q.st with
 | .push| .drop=>ku c q.ln
 | .pop=>ku c q.ln/\q.first<c.W
 | .tell=>q.first<c.W
 |_=>True
theorem mI{q}(h:q.st≠.push/\q.st≠.drop/\q.st≠.pop/\q.st≠.tell):EZ c q:=by
 unfold EZ;cases hs:q.st<;>simp_all
theorem FH{q}(hq:ku c m.qu)(N:EZ c q):EZ c (q.step c w m).1:=by
 unfold Qu.step;cases h:q.st with
 |come=>
  simp only;split
  .exact mI (by simp[Qu.fin])
  .exact hq
 |push=>simp only;split<;>exact mI (by simp)
 |closed=>simp only;split<;>exact mI (by simp[Qu.fin])
 |look=>
  simp only;split
  .exact hq
  .exact mI (by simp[Qu.fin])
 |drop=>simp only;split<;>exact mI (by simp[Qu.fin])
 |head=>
  simp only;cases hx:m.qu with
  |nil=>exact mI (by simp[Qu.fin])
  |cons a r=>
   rw[hx]at hq;exact⟨hq,hq.2 a cV⟩
 |pop=>
  unfold EZ at N;rw[h]at N;simp only;split
  .exact N.2
  .exact mI (by simp)
 |tell=>exact mI (by simp)
 |done=>exact mI (by simp[h])
theorem Cj{q}(N:EZ c q)(h1:q.st=.push->w<c.W/\w∉q.ln)(h2:q.st=.drop->w∈q.ln):zI c w q:=by
 unfold EZ at N;refine⟨λh=> ?_,h1,h2,λh=> ?_⟩
 .rcases h with h|h|h<;>rw[h]at N
  .exact N
  .exact N
  .exact N.1
 .rw[h]at N;exact N
def jU(c:Cn)(t:Td):Prop:=
 match t.st with
 | .old| .pins| .clear=>t.look.kd=5
 | .go=>t.look.fd.isSome=true
 | .some=>t.head<c.W/\ku c t.qu
 | .keep=>t.look.fd.isSome=true/\t.head<c.W/\ku c t.qu
 | .pop=>t.head<c.W/\ku c t.qu
 | .grant=>t.head<c.W
 |_=>True
theorem jZ{t}(h:t.st≠.old/\t.st≠.pins/\t.st≠.clear/\t.st≠.go/\t.st≠.some/\t.st≠.keep/\t.st≠.pop/\t.st≠.grant):jU c t:=by
 unfold jU;cases hs:t.st<;>simp_all
theorem aey{S}{t:Td}:(t.fu S m).look.kd=t.look.kd/\(t.fu S m).head=t.head/\(t.fu S m).qu=t.qu/\(t.fu S m).st=t.st:=by
 cases hx:(t.look.step S m).fd with
 |none=>rw[jQ hx];exact⟨IM,rfl,rfl,rfl⟩
 |some x=>rw[jP rfl hx];exact⟨IM,rfl,rfl,rfl⟩
theorem aap{t}(hq:ku c m.qu)(N:jU c t):jU c (t.step c w m).1:=by
 obtain⟨k1,k2,k3,k4⟩:=aey (S:=c.S) (m:=m) (t:=t);unfold jU at N;unfold Td.step;cases h:t.st with
 |ep=>exact jZ (by simp)
 |pin=>exact jZ (by simp)
 |cl=>exact jZ (by simp)
 |dL=>
  simp only;split
  .rename_i k;exact k
  .split
   .exact(rfl:(5:Nat)=5)
   .exact jZ (by simp[k4,h])
 |go=>
  rw[h]at N;simp only;split
  .exact jZ (by simp)
  .show jU c _
   unfold jU;simp only[h];exact N
 |old=>
  rw[h]at N;have N:t.look.kd=5:=N;simp only;split
  .show jU c _
   unfold jU;simp only;split<;>first|trivial|(rw[k1];exact N)|(rename_i e;split at e<;>cases e)
  .split
   .show jU c _
    unfold jU;simp only;split<;>first|trivial|(rename_i e;split at e<;>cases e)
   .show jU c _
    unfold jU;rw[k4,h];simp only;rw[k1];exact N
 |pins=>
  rw[h]at N;have N:t.look.kd=5:=N;simp only;split
  .show jU c _
   unfold jU;simp only;rw[NP];exact N
  .show jU c _
   unfold jU;simp only;split<;>first|trivial|exact N|(rename_i e;split at e<;>cases e)
 |clear=>
  rw[h]at N;have N:t.look.kd=5:=N;show jU c _;unfold jU;simp only;rw[NP];exact N
 |line=>
  simp only;cases hx:m.qu with
  |nil=>exact jZ (by simp)
  |cons a r=>
   rw[hx]at hq;exact⟨hq.2 a cV,hq⟩
 |some=>
  rw[h]at N;simp only;split
  .rename_i k
   show jU c _;unfold jU;simp only;rw[k2,k3];exact⟨k,N⟩
  .split
   .exact jZ (by simp)
   .show jU c _
    unfold jU;rw[k4,h];simp only;rw[k2,k3];exact N
 |keep=>
  rw[h]at N;simp only;cases hs:t.swap m (if t.wd.st=2 then 5 else 7) t.head with
  |some m'=>exact N.2
  |none=>exact N.2
 |pop=>
  rw[h]at N;simp only;split
  .exact N.1
  .exact jZ (by simp)
 |grant=>exact jZ (by simp)
 |back=>
  show jU c _;unfold jU;simp only;split<;>first|trivial|(rename_i e;split at e<;>cases e)
 |dR=>
  simp only;cases hs:t.swap m (if t.wd.st=4 then 6 else 8) w with
  |some m'=>exact jZ (by simp)
  |none=>exact jZ (by simp)
 |eO=>exact jZ (by simp)
 |again=>
  show jU c _;unfold jU;simp only;split<;>first|trivial|(rename_i e;split at e<;>cases e)
 |done=>exact jZ (by simp[h])
end Yq
namespace Yq
variable{c:Cn} {m:Mm} {s:Ms} {w K:Nat}
structure MM(S K:Nat)(t:Tw):Prop where
 ls:∀l,t.last=some l->l.length=S
 n:(t.n=0/\t.last=none)\/(0<t.n/\∃l,t.last=some l)
 nb:t.n<=K
 f1:∀x∈t.rd,Facts x
 f2:∀x∈t.last.getD [],Facts x
theorem SH{S}:MM S K Tw.new:=⟨λl h=>by simp[Tw.new]at h,.inl ⟨rfl,rfl⟩,cL _,λx hx=>by simp[Tw.new]at hx,λx hx=>by simp[Tw.new]at hx⟩
theorem N9{t}(T:Bb c t)(N:MM c.S K t)(hf:∀i,i<c.S->Facts (m.sl i)):MM c.S (K+1) (t.step c.S m):=by
 have F:∀x∈t.rd++[m.sl t.rd.length],Facts x:=λx hx=>by
  rcases eS.1 hx with hx|hx
  .exact N.f1 x hx
  .rw[cY.1 hx];exact hf _ T.2
 have nb:=N.nb;unfold Tw.step;rw[T.1,if_neg (by decide)];simp only;split
 .exact⟨N.ls,N.n,by grind,F,N.f2⟩
 .exact⟨λl hl=>by
   have:=T.2;grind,.inr ⟨Nat.succ_pos _,_,rfl⟩,by show t.n+1<=K+1;omega,λx hx=>by simp at hx,F⟩
def Dp(c:Cn)(K:Nat)(x:Wr):Prop:=
 x.ask.op<8/\match x.ph with
 | .work (.get t)=>rA t
 | .work (.give g)=>GvN c g
 | .work (.bg g)=>SmN c g
 | .work (.close (some u))=>EZ c u
 | .enters u| .leaves u=>EZ c u
 | .ax t _ _=>jU c t
 | .work (.stats t)| .counts t=>MM c.S K t
 |_=>True
theorem NY{K'}{x}(h:K<=K')(N:Dp c K x):Dp c K' x:=by
 refine⟨N.1,?_⟩;have N2:=N.2;have tw:∀t,MM c.S K t->MM c.S K' t:=λt T=>⟨T.ls,T.n,eM T.nb h,T.f1,T.f2⟩;grind
theorem mP{x:Wr}{a}(h:x.ask.op<8):Dp c K (x.end_ a):=⟨h,jZ (by simp[Td.new])⟩
theorem WN{x:Wr}(h:x.ask.op<8):Dp c K (x.to (.work (bE x))):=by
 have k:x.ask.op=0\/x.ask.op=1\/x.ask.op=2\/x.ask.op=3\/x.ask.op=4\/x.ask.op=5\/x.ask.op=6\/x.ask.op=7:=by omega
 rcases k with k|k|k|k|k|k|k|k
 .have e:bE x=.get (if x.grant>0 then Tk.granted (x.grant-1).toNat else Tk.new):=by unfold bE;rw[k];rfl
  rw[e];split<;>exact⟨h,gX (by simp[Tk.granted,Tk.new])⟩
 .have e:bE x=.give (Gv.new x.ask.slot x.ask.gen false):=by unfold bE;rw[k];rfl
  rw[e];exact⟨h,λk=>pg.noConfusion k⟩
 .have e:bE x=.give (Gv.new x.ask.slot x.ask.gen true):=by unfold bE;rw[k];rfl
  rw[e];exact⟨h,λk=>pg.noConfusion k⟩
 .have e:bE x=.bg (Sm.new true x.ask.slot x.ask.gen 0):=by unfold bE;rw[k];rfl
  rw[e];exact⟨h,λk=>wV.noConfusion k⟩
 .have e:bE x=.bg (Sm.new false x.ask.slot x.ask.gen x.ask.bg):=by unfold bE;rw[k];rfl
  rw[e];exact⟨h,λk=>wV.noConfusion k⟩
 .have e:bE x=.aS ⟨.look,Fd.new 6 0,0,Rt.new 0 aa.zero⟩:=by unfold bE;rw[k];rfl
  rw[e];exact⟨h,trivial⟩
 .have e:bE x=.close none:=by unfold bE;rw[k];rfl
  rw[e];exact⟨h,trivial⟩
 .have e:bE x=.stats Tw.new:=by unfold bE;rw[k];rfl
  rw[e];exact⟨h,SH⟩
theorem Lp{x}{u}(h:x.ask.op<8)(hq:ku c s.m.qu)(N:EZ c u):Dp c K ((aV c w s x u).ws w):=by
 unfold aV;simp only;split
 .split
  .rw[bD];exact⟨h,trivial⟩
  .rw[bD];exact mP h
 .rw[bD];exact⟨h,FH hq N⟩
theorem Z4(hq:ku c s.m.qu)(hf:∀i,i<c.S->Facts (s.m.sl i))(W:jO c w (s.ws w))(N:Dp c K (s.ws w)):Dp c (K+1) ((ai c s w).ws w):=by
 obtain⟨h,N2⟩:=N;unfold jO at W;unfold ai;cases hp:(s.ws w).ph with
 |rest=>simp only[hp];exact⟨h,by rw[hp];trivial⟩
 |pin e=>cases e with
  |none=>simp only[hp];rw[bD];exact⟨h,trivial⟩
  |some e=>simp only[hp];rw[bD];exact WN h
 |work k=>
  rw[hp]at N2 W;simp only[hp];unfold ak;cases k with
  |get t=>
   simp only;repeat' split
   all_goals rw[bD]
   all_goals first|exact mP h|exact⟨h,aal N2⟩|exact⟨h,SH⟩|exact⟨h,mI (by simp[Qu.enter])⟩
  |give g=>
   simp only;split<;>rw[bD]
   .exact mP h
   .exact⟨h,abV N2⟩
  |bg g=>
   simp only;split<;>rw[bD]
   .exact mP h
   .exact⟨h,aaE N2⟩
  |close d=>cases d with
   |none=>simp only;rw[bD];exact⟨h,mI (by simp[Qu.drain])⟩
   |some u=>
    simp only;split<;>rw[bD]
    .exact mP h
    .exact⟨h,FH hq N2⟩
  |stats t=>
   simp only;split<;>rw[bD]
   .exact mP h
   .exact⟨h,N9 W N2 hf⟩
  |aS r=>
   simp only;repeat' split
   all_goals rw[bD]
   all_goals first|exact mP h|exact⟨h,trivial⟩
 |counts t=>
  rw[hp]at N2 W;simp only[hp];split
  .split<;>rw[bD]
   .exact⟨h,gX (by simp[Tk.new])⟩
   .exact mP h
  .rw[bD];exact⟨h,N9 W N2 hf⟩
 |enters u=>
  rw[hp]at N2;simp only[hp];split
  .split<;>rw[bD]
   .exact⟨h,jZ (by simp[Td.new])⟩
   .exact mP h
  .rw[bD];exact⟨h,FH hq N2⟩
 |ax t p a=>
  rw[hp]at N2;simp only[hp];split
  .cases p with
   |some b=>simp only;rw[bD];exact⟨h,trivial⟩
   |none=>
    show Dp c (K+1) (((s.mem _).put w ((s.ws w).to .rest)).ws w);rw[bD];exact⟨h,trivial⟩
  .rw[bD];exact⟨h,aap hq N2⟩
 |parked b=>
  simp only[hp];split
  .unfold dh;simp only;rw[bD];exact⟨h,trivial⟩
  .exact Lp h hq (mI (by simp[Qu.leave]))
 |wakes g=>
  simp only[hp];unfold dh;cases g with
  |none=>rw[bD];exact⟨h,trivial⟩
  |some g=>simp only;split<;>rw[bD]
           .exact mP h
           .exact⟨h,trivial⟩
 |leaves u=>
  rw[hp]at N2;simp only[hp];exact Lp h hq N2
theorem vC{f}{k}(h:f.kd=k)(h2:f.fd.isSome=true):vF f k:=⟨h,cP.1 h2⟩
theorem aew{t}{x}(hp:x.ph=.work (.get t))(T:pW c w t)(N:rA t)(hd:t.st≠.done):o8 x:=by
 unfold o8;simp only[hp];unfold pW at T;unfold rA at N;cases h:t.st with
 |own=>rw[h]at T;exact⟨T.2,T.1⟩
 |any=>rw[h]at T;exact⟨T.2,T.1⟩
 |free=>rw[h]at T;exact⟨T.2,T.1⟩
 |gp=>rw[h]at T N;exact vC T.2.1 N
 |anyS=>rw[h]at T N;exact vC T.2.1 N
 |dQ=>rw[h]at T N;exact vC T.2.1 N
 |move=>rw[h]at T N;exact⟨N,T.1⟩
 |dD=>rw[h]at T N;exact vC N T.2.2
 |go=>rw[h]at T;exact T.1.2
 |done=>exact absurd h hd
 |_=>trivial
theorem af9{t}(hw:w<c.W)(T:pX c t)(N:jU c t)(hp:∀i,m.pn i<=9223372036854775807):TdR c m t:=by
 unfold pX at T;unfold jU at N;refine⟨λh=> ?_,λh _=> ?_,λh=> ?_,λh=> ?_,λh=> ?_,λh=> ?_,λh=> ?_,λh=> ?_,λh=> ?_,hp⟩
 .rw[h]at T;exact⟨T.2,T.1⟩
 .rw[h]at T;exact T.1.1
 .rw[h]at T N;exact⟨N,T⟩
 .rcases h with h|h<;>rw[h]at T N
  .exact⟨vC N T.1,T.2.1,by rw[T.2.2.1];exact T.2.1⟩
  .exact⟨vC N T.1,T.2.1,by rw[T.2.2];exact T.2.1⟩
 .rw[h]at T;exact T.2.2.2
 .rw[h]at T;exact⟨T.2.2.2,T.1⟩
 .rcases h with h|h|h|h<;>rw[h]at T
  .rw[T.2.1];exact T.1
  .exact T
  .exact T
  .exact T.1
 .rw[h]at N;exact N
 .rw[h]at N;exact N.2
theorem UR{t}{x}{p}{a}(hp:x.ph=.ax t p a)(T:pX c t)(N:jU c t)(hd:t.st≠.done):o8 x:=by
 unfold o8;simp only[hp];unfold pX at T;unfold jU at N;cases h:t.st with
 |dL=>rw[h]at T;exact⟨T.2,T.1⟩
 |go=>rw[h]at T N;exact⟨vC T.2.2 N,T.1.2⟩
 |old=>rw[h]at T N;exact⟨N,T⟩
 |pins=>rw[h]at T N;exact vC N T.1
 |clear=>rw[h]at T N;exact vC N T.1
 |some=>rw[h]at T;exact⟨T.2.2.2,T.1⟩
 |keep=>rw[h]at T N;exact vC T.2.2.2.2.1 N.1
 |done=>exact absurd h hd
 |_=>trivial
theorem agv{x:Wr}(hw:w<c.W)(hS:c.S<=1000)(W:jO c w x)(N:Dp c K x)(hp:∀i,m.pn i<=9223372036854775807)(h1:∀t,x.ph≠.work (.stats t))(h2:∀t,x.ph≠.counts t):uQ c m w x/\o8 x:=by
 obtain⟨ho,N⟩:=N;unfold jO at W;cases hx:x.ph with
 |rest=>grind [uQ,o8]
 |pin e=>
  grind [uQ,o8]
 |counts t=>grind
 |work k=>
  rw[hx]at W N;cases k with
  |get t=>
   have W:pW c w t/\t.st≠.done:=W;refine⟨?_,aew hx W.1 N W.2⟩;unfold uQ;simp only[hx];exact af5 W.1 N W.2
  |give g=>
   have W:yJ c w g/\g.st≠.done:=W;have W1:=W.1;unfold yJ at W1;unfold uQ o8;simp only[hx];refine⟨⟨N,λh _=> ?_,W.2⟩,?_⟩
   .rw[h]at W1;exact W1.1
   .cases h:g.st with
    |go=>rw[h]at W1;exact W1.2
    |done=>exact absurd h W.2
    |_=>trivial
  |bg g=>
   have W:Bc c w g/\g.st≠.done:=W;unfold uQ o8;simp only[hx];exact⟨⟨N,W.2⟩,W.2⟩
  |close d=>cases d with
   |none=>unfold uQ o8;simp only[hx];exact⟨trivial,trivial⟩
   |some u=>
    have W:Du u:=W;unfold Du at W;unfold uQ o8;simp only[hx];cases h:u.st<;>rw[h]at W<;>first|exact absurd W id|skip
    .exact⟨⟨Cj N (λk=>by rw[h]at k;cases k) (λk=>by rw[h]at k;cases k),.inl rfl⟩,trivial⟩
    .exact⟨⟨Cj N (λk=>by rw[h]at k;cases k) (λk=>by rw[h]at k;cases k),.inr (.inl rfl)⟩,trivial⟩
    .exact⟨⟨Cj N (λk=>by rw[h]at k;cases k) (λk=>by rw[h]at k;cases k),.inr (.inr rfl)⟩,trivial⟩
  |stats t=>exact absurd hx (h1 t)
  |aS r=>
   have W:Q5 c r:=W;unfold Q5 at W;unfold uQ o8;simp only[hx];cases h:r.st with
   |look=>rw[h]at W;exact⟨⟨λ_=>⟨W.2,W.1⟩,λk=>absurd rfl k,λk=>MO.noConfusion k⟩,⟨W.2,W.1⟩⟩
   |ask=>rw[h]at W;exact⟨⟨λk=>MO.noConfusion k,λ_=>⟨vC W.2.1 W.1,W.2.2.1⟩,λk=>MO.noConfusion k⟩,vC W.2.1 W.1⟩
   |mark=>rw[h]at W;exact⟨⟨λk=>MO.noConfusion k,λ_=>⟨vC W.2.1 W.1,W.2.2⟩,λk=>MO.noConfusion k⟩,vC W.2.1 W.1⟩
   |dB=>rw[h]at W;exact⟨⟨λk=>MO.noConfusion k,λ_=>⟨vC W.2.1 W.1,W.2.2.1⟩,λ_ _=>W.2.2.2.1⟩,vC W.2.1 W.1,W.2.2.2.2⟩
 |enters u=>
  rw[hx]at W N;have W:Dt w u:=W;unfold Dt at W;have hd:u.st≠.done:=λh=>by rw[h]at W;exact W
  have R:zI c w u:=Cj N (λh=>⟨hw,by rw[h]at W;exact W⟩) (λh=>by rw[h]at W;exact W);unfold uQ o8;simp only[hx];refine⟨⟨R,hd⟩,?_⟩;cases h:u.st<;>rw[h]at W<;>first|exact trivial|exact W
 |leaves u=>
  rw[hx]at W N;have W:Dr w u:=W
  have R:zI c w u:=Cj N (λh=>by rcases W.1 with k|⟨k,_⟩<;>rw[h]at k<;>cases k) (λh=>by
   rcases W.1 with k|⟨_,k⟩
   .rw[h]at k;cases k
   .exact k)
  unfold uQ o8;simp only[hx];rcases W.1 with k|⟨k,_⟩
  .exact⟨⟨R,by rw[k];exact λh=>JK.noConfusion h⟩,by rw[k];trivial⟩
  .exact⟨⟨R,by rw[k];exact λh=>JK.noConfusion h⟩,by rw[k];trivial⟩
 |ax t p a=>
  rw[hx]at W N;have W:pX c t/\t.st≠.done:=W;refine⟨?_,UR hx W.1 N W.2⟩;unfold uQ;simp only[hx];exact⟨af9 hw W.1 N hp,W.2⟩
 |parked b=>
  unfold uQ o8;simp only[hx];refine⟨⟨λh=> ?_,λh=> ?_,λh=> ?_,λh=> ?_⟩,trivial⟩
  .rcases h with h|h|h<;>exact JK.noConfusion h
  all_goals exact JK.noConfusion h
 |wakes g=>
  rw[hx]at W;obtain⟨y,rfl,_,_⟩:=W;unfold uQ o8;simp only[hx];exact⟨trivial,trivial⟩
end Yq
namespace Yq
variable{c:Cn} {m:Mm} {s:Ms} {w K:Nat}
theorem NA{r:Rt}:(r.step m).2.pn=m.pn:=by
 unfold Rt.step;repeat' split
 all_goals rfl
theorem aai{t t':Tk}{m':Mm}{i:Nat}{wd:aa}{d:Int}(h:t.swap w m i wd d=some (t',m')):m'.pn=m.pn:=by
 unfold Tk.swap at h;split at h
 .split at h
  .cases h;rfl
  .cases h
 .cases h
theorem aiE{S:Nat}{g:Bool}{t:Tk}:(t.step w S m g).2.pn=m.pn:=by
 unfold Tk.step;cases t.st<;>simp only
 all_goals repeat' split
 all_goals first|rfl|exact NA|grind [aai]
theorem ajz{g:Gv}:(g.step c w m).2.pn=m.pn:=by
 unfold Gv.step;cases g.st<;>simp only
 all_goals repeat' split
 all_goals first|rfl|exact NA
theorem aiU{g:Sm}:(g.step c w m).2.pn=m.pn:=by
 unfold Sm.step;cases g.st<;>simp only
 all_goals repeat' split
 all_goals rfl
theorem U4{q:Qu}:(q.step c w m).2.pn=m.pn:=by
 unfold Qu.step;all_goals repeat' split
 all_goals rfl
def vk(m:Mm):Prop:=∀i,m.pn i<=9223372036854775807
theorem O8{v:Int}{i:Nat}(h:vk m)(hv:v<=9223372036854775807):vk (m.pin i v):=λj=>by
 show upd m.pn i v j<=_;unfold upd;split
 .exact hv
 .exact h j
theorem WV(x:Int):aR x<=9223372036854775807:=by
 unfold aR IntKind.wrap;simp[IntKind.bits,IntKind.signed];split<;>omega
theorem Lt{t:Td}{m':Mm}{d own:Int}(h:t.swap m d own=some m'):m'.pn=m.pn:=by
 unfold Td.swap at h;split at h
 .split at h
  .cases h;rfl
  .cases h
 .cases h
theorem nu{m':Mm}(h:vk m)(e:m'.pn=m.pn):vk m':=λi=>by rw[e];exact h i
theorem acZ{t:Td}(h:vk m):vk (t.step c w m).2:=by
 unfold Td.step;cases hs:t.st<;>simp only
 all_goals repeat' split
 all_goals first|exact h|exact O8 h (WV _)|exact O8 h (by decide)|exact nu h NA|exact nu h rfl|exact nu h (Lt (by assumption))|skip
 all_goals cases hx:t.swap m 12 w
 all_goals first|exact h|exact nu h (Lt hx)
theorem O6{x:Wr}{u:Qu}(h:vk s.m):vk (aV c w s x u).m:=by
 unfold aV;simp only;repeat' split
 all_goals exact nu h U4
theorem aeI(h:vk s.m):vk (ai c s w).m:=by
 unfold ai;cases hp:(s.ws w).ph with
 |rest=>simp only[hp];exact h
 |pin e=>cases e with
  |none=>simp only[hp];exact h
  |some e=>simp only[hp];exact O8 h (WV _)
 |work k=>
  simp only[hp];unfold ak;cases k with
  |get t=>
   simp only;repeat' split
   all_goals exact nu h aiE
  |give g=>simp only;split<;>exact nu h ajz
  |bg g=>simp only;split<;>exact nu h aiU
  |close d=>cases d with
   |none=>simp only;show vk (if _ then _ else _);repeat' split
          all_goals exact h
   |some u=>simp only;split<;>exact nu h U4
  |stats t=>simp only;split<;>exact h
  |aS r=>
   simp only;repeat' split
   all_goals first|exact h|exact nu h NA|exact nu h rfl
 |counts t=>
  simp only[hp];repeat' split
  all_goals exact h
 |enters u=>
  simp only[hp];repeat' split
  all_goals exact nu h U4
 |ax t p a=>
  simp only[hp];split
  .cases p<;>exact acZ h
  .exact acZ h
 |parked b=>
  simp only[hp];split
  .unfold dh;exact h
  .exact O6 h
 |wakes g=>
  simp only[hp];unfold dh;cases g with
  |none=>exact h
  |some g=>simp only;split<;>exact nu h rfl
 |leaves u=>simp only[hp];exact O6 h
structure Nx(c:Cn)(s:Ms)(K:Nat):Prop where
 all:All c s
 pn:vk s.m
 wr:∀i,i<c.W->Dp c K (s.ws i)
theorem Nx.ln(N:Nx c s K):ku c s.m.qu:=⟨N.all.nd,N.all.inv.m.2⟩
theorem aeS(hW:c.W<=14)(hS:1<=c.S)(hw:w<c.W)(N:Nx c s K)(hc:aQ s w):Nx c (ai c s w) (K+1):=by
 have I:=N.all.inv;refine⟨(Gu hw (by omega) hS N.all hc).1,aeI N.pn,λi hi=> ?_⟩;by_cases e:i=w
 .subst e
  exact Z4 N.ln I.m.1 (I.w i hi) (N.wr i hi)
 .have:=(BD hw (by omega) hS I.m I.g (I.w w hw) hc).2.2.2.1 i e
  rw[this];exact NY (Nat.le_succ K) (N.wr i hi)
theorem ai9(hW:c.W<=14)(hS:1<=c.S)(N:Nx c s K)(x:En):Nx c (dX c s x).2 (K+1):=by
 have A:=QX N.all (by omega) hS x;by_cases hp:x.kind=1/\inW c x.who/\aQ s x.who.toNat
 .obtain⟨k1,⟨w0,w1⟩,hc⟩:=hp
  have e:(dX c s x).2=ai c s x.who.toNat:=by
   unfold dX;rw[if_neg (by omega),if_pos k1,if_pos ⟨⟨w0,w1⟩,hc⟩]
  rw[e];exact aeS hW hS (by omega) N hc
 .refine⟨A,?_,fun i hi=> ?_⟩
  .unfold dX
   repeat' split
   all_goals first|exact N.pn|skip
   .exact absurd ⟨by assumption,by assumption⟩ hp
   .rename_i hb
    unfold QN at hb;simp only[ia]at hb;obtain⟨n,_,rfl⟩:=hb;exact nu N.pn rfl
  .have mono:=NY (Nat.le_succ K) (N.wr i hi)
   unfold dX;repeat' split
   all_goals first|exact mono|skip
   .rename_i hm
    obtain⟨⟨w0,w1⟩,_,_,o0,o1⟩:=hm;show Dp c (K+1) (upd s.ws x.who.toNat _ i);unfold upd;split
    .exact⟨by show x.op.toNat<8;omega,trivial⟩
    .exact mono
   .exact absurd ⟨by assumption,by assumption⟩ hp
theorem aeR:Nx c Ms.zero 0:=⟨all_zero,λi=>by show(0:Int)<=_;decide,λi hi=>⟨by show(0:Nat)<8;decide,trivial⟩⟩
end Yq
namespace Yq
variable{c:Cn} {s:Ms} {w K n:Nat} {R:Go.Sx.Rows} {rest:Nat->Option Value} {aj at_:Int} {ea:Ask} {en:Int} {eg:Bool}
structure fZ(W w:Nat):Prop where
 walk:∀(q:Xq),q.c.W=W->q.who=w->o8 q.x->∀(ea:Ask) (en:Int) (eg:Bool),(o5 1 w ea en eg (fq q)).get=(FJ q).get
 stats:∀(q:Xq) (t:Ti),q.c.W=W->q.who=w->t.dn=false->∀(ea:Ask) (en:Int) (eg:Bool),(o5 1 w ea en eg (heapT q true t)).get=(Dz q t).get
 counts:∀(q:Xq) (t:Ti),q.c.W=W->q.who=w->t.dn=false->q.c.S<=5->t.rd.length<q.c.S->t.rl=t.rd.length->t.ll=(t.last.getD []).length->(t.last=none\/t.ll=q.c.S)->∀(ea:Ask) (en:Int) (eg:Bool),(o5 1 w ea en eg (heapT q false t)).get=(K9 q t).get
theorem aeK{q:Xq}(h:(fK (aP c s w n R rest aj at_)).get=yes (same q)):(FJ (aP c s w n R rest aj at_)).get=some (.bool true,fq q.tick):=by
 unfold FJ;rw[M.get_bind,h];rfl
theorem agH{q:Xq}(h:(fK q).get=some (false,(q,q.ex))):(FJ q).get=some (.bool false,fq q.tick):=by
 unfold FJ;rw[M.get_bind,h];rfl
theorem DU(k:fZ c.W w)(hW:c.W<=14)(hS:c.S<=1000)(hw:w<c.W)(N:Nx c s K)(hn:fG (n+2)=true)(hk:mh R.ks wN=true)(h1:∀t,(s.ws w).ph≠.work (.stats t))(h2:∀t,(s.ws w).ph≠.counts t)(hc:aQ s w):
  ∃n' R',(o5 1 w ea en eg (fq (aP c s w n R rest aj at_))).get=some (.bool true,fq (aP c (ai c s w) w n' R' rest aj at_).tick)/\aif s (ai c s w) n R n' R' aj:=by
 obtain⟨r1,r2⟩:=agv hw hS (N.all.inv.w w hw) (N.wr w hw) N.pn h1 h2;obtain⟨n',R',e1,e2⟩:=step_ok (n:=n) (R:=R) (rest:=rest) (aj:=aj) (at_:=at_) hW hS hw N.ln N.all.inv.m.1 hn hk r1 hc;exact⟨n',R',(k.walk _ rfl rfl r2 ea en eg).trans (aeK e1),e2⟩
theorem Ku(k:fZ c.W w)(hW:c.W<=14)(hS:c.S<=1000)(hw:w<c.W)(hc:¬aQ s w):
  (o5 1 w ea en eg (fq (aP c s w n R rest aj at_))).get=some (.bool false,fq (aP c s w n R rest aj at_).tick):=by
 have r2:o8 (s.ws w):=by
  unfold aQ at hc;unfold o8;cases hp:(s.ws w).ph with
  |rest=>trivial
  |parked b=>trivial
  |_=>simp[hp]at hc
 exact(k.walk _ rfl rfl r2 ea en eg).trans (agH (aiR hW hS hw hc))
theorem Vd{t:Tw}(k:fZ c.W w)(hS:c.S<=1000)(hw:w<c.W)(hK:K<=4000000000000000000)(N:Nx c s K)(hp:(s.ws w).ph=.work (.stats t)):
  (o5 1 w ea en eg (fq (aP c s w n R rest aj at_))).get=some (.bool true,fq (aP c (ai c s w) w n R rest aj at_).tick)/\(ai c s w).ev=s.ev:=by
 have W:=N.all.inv.w w hw;have T:=(N.wr w hw).2;unfold jO at W;rw[hp]at W T;have W:Bb c t:=W;have T:MM c.S K t:=T;have hr:Q0 c t:=⟨W.1,W.2,T.n,eM T.nb hK,T.f1,T.f2⟩;obtain⟨e1,e2⟩:=aaD (n:=n) (R:=R) (rest:=rest) (aj:=aj) (at_:=at_) hS N.all.inv.m.1 hp hr;refine⟨?_,e2⟩;have e3:fq (aP c s w n R rest aj at_)=heapT (aP c s w n R rest aj at_) true (Ti.of t):=by
  show Ea _ (EU c (s.ws w).ph)=_;unfold Ea mZ;rw[show(aP c s w n R rest aj at_).x.ph=.work (.stats t)from hp];rfl
 rw[e3];refine(k.stats _ _ rfl rfl W.1 ea en eg).trans ?_;unfold Dz;rw[M.get_bind,e1];rfl
theorem RA{t:Tw}(k:fZ c.W w)(hS:c.S<=5)(hw:w<c.W)(hK:K<=4000000000000000000)(N:Nx c s K)(hp:(s.ws w).ph=.counts t):
  (o5 1 w ea en eg (fq (aP c s w n R rest aj at_))).get=some (.bool true,fq (aP c (ai c s w) w n R rest aj at_).tick)/\(ai c s w).ev=s.ev:=by
 have W:=N.all.inv.w w hw;have T:=(N.wr w hw).2;unfold jO at W;rw[hp]at W T;have W:Bb c t:=W;have T:MM c.S K t:=T;have hr:Q0 c t:=⟨W.1,W.2,T.n,eM T.nb hK,T.f1,T.f2⟩;obtain⟨e1,e2⟩:=XA (n:=n) (R:=R) (rest:=rest) (aj:=aj) (at_:=at_) (by omega) N.all.inv.m.1 hp hr;refine⟨?_,e2⟩;have e3:fq (aP c s w n R rest aj at_)=heapT (aP c s w n R rest aj at_) false (Ti.of t):=by
  show Ea _ (EU c (s.ws w).ph)=_;unfold Ea mZ;rw[show(aP c s w n R rest aj at_).x.ph=.counts t from hp];rfl
 rw[e3];refine(k.counts _ _ rfl rfl W.1 hS (by show(t.rd.map bH).length<c.S;simpa using W.2) (by simp[Ti.of]) ?_ ?_ ea en eg).trans ?_
 .unfold Ti.of;cases t.last<;>simp
 .unfold Ti.of
  cases hl:t.last with
  |none=>exact .inl rfl
  |some l=>exact .inr (T.ls l hl)
 .unfold K9
  rw[M.get_bind,e1];rfl
