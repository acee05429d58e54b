import Derived.Test.YteaflphddciglaaGreatDoorCcA
set_option linter.all false
namespace Go.Proofs.YteaflphddciglaaGreatDoor
namespace bq
noncomputable section
open Go.RowKit Go.bn Go.Sx Classical
variable{α:Type} {c:Cn} {m:Mm}
theorem aI{b}{x y:M α}(h:b=true):(M.br b x y).get=x.get:=by rw[M.fe,tz h]
theorem aT{b}{x y:M α}(h:b=false):(M.br b x y).get=y.get:=by rw[M.fe,h];rfl
def yM{P}(h:¬P):sure P=false:=by
 cases s:sure P with
 |true=>exact tA (jv.1 s) h
 |false=>rfl
theorem Em{a b:Nat}(h:a<=b):Nat.ble a b=true:=by rw[Nat.ble_eq];exact h
theorem VE{n:Nat}{i:Int}(h:0<=i)(a:i<n):uD (n:Int) i=true:=by unfold uD;simp;omega
def adg{n:Nat}{i:Int}(h:¬(0<=i/\i<n)):uD (n:Int) i=false:=by
 unfold uD;cases a:decide (0<=i)with
 |false=>rfl
 |true=>simp at a ⊢;omega
def zB{i:Int}{F:Nat->M α}{no}(h:c.S<=1000)(a:0<=i)(b:i<c.S):(jM c i F no).get=(F i.toNat).get:=by
 unfold jM;rw[aI (Em h),aI (VE a b)]
theorem mX{i}{F:Nat->M α}{no}(h:c.S<=1000)(a:i<c.S):(jM c (i:Int) F no).get=(F i).get:=by
 rw[zB h (by omega) (by omega),cH]
def Ui{i:Int}{F:Nat->M α}{no}(S:c.S<=1000)(h:¬(0<=i/\i<c.S)):(jM c i F no).get=no.get:=by
 unfold jM;rw[aI (Em S),aT (adg h)]
def qm{i}{F:aa->M α}(h:i<c.S):(tJ c m i F).get=(F (m.sl i)).get:=by
 unfold tJ;rw[aI (qY h)]
theorem uI{i}{s t}{yes no:Mm->M α}(h:i<c.S)(e:m.sl i=s):(ve c m i s t yes no).get=(yes (m.set i t)).get:=by
 unfold ve;rw[aI (qY h),aI (jh e)]
theorem uJ{i}{s t}{yes no:Mm->M α}(h:i<c.S)(e:¬m.sl i=s):(ve c m i s t yes no).get=(no m).get:=by
 unfold ve;rw[aI (qY h),aT (yM e)]
def FM{x n}{d own more}(h:az x d own more=some n):Facts n:=by
 exact(H8 h).1
theorem nZ{s}{k own more}{no:M α}{F}(h:az s k own more=none):(og s k own more no F).get=no.get:=by
 unfold og;rw[h];exact aI rfl
theorem nY{s n}{k own more}{no:M α}{F}(h:az s k own more=some n):(og s k own more no F).get=(F n).get:=by
 unfold og;rw[h];refine(aT rfl).trans ?_;exact aI (jh (FM h))
def G9{i}{F:Nat->Value->M α}(S:c.S<=1000)(h:i<c.S):(uV c (i:Int) F).get=(F i (nI (3+2*c.W) i)).get:=by
 unfold uV;rw[mX S h]
def acR{f}(h:f.at_<=1000):SG f=((f.at_+1:Nat):Int):=by
 unfold SG;rw[fA ⟨by omega,by omega⟩];omega
def Gc{k:Nat}{o}{s}(a:k<=6):kI s (k:Int) o=true↔fits k o s:=by
 obtain⟨f,own,d,b,O,u,e,i,z⟩:=s;have h:∀(p:Bool) (x y:Bool),(bif p then x else y)=true↔(p=true/\x=true\/p=false/\y=true):=λp x y=>by cases p<;>simp
 match k,a with
 |0,_=>unfold kI fits jg;cases b<;>simp[h]
 |1,_=>unfold kI fits jg;cases b<;>simp[h]
 |2,_=>unfold kI fits j6;simp[h]
 |3,_=>unfold kI fits jg j6;cases b<;>simp[h]<;>omega
 |4,_=>unfold kI fits;cases b<;>simp[h]<;>omega
 |5,_=>unfold kI fits;simp[h]
 |6,_=>unfold kI fits VF;simp[h]
def qa{f}{o a more:Fd->Int->M α}(S:c.S<=1000)(b:f.fd=none)(i:f.kd<=6):
  (xh c m f o a more).get=if(f.step c.S m).fd.isSome then(o (f.step c.S m) (f.step c.S m).at_).get else if(f.step c.S m).all c.S then(a (f.step c.S m) (f.step c.S m).at_).get else(more (f.step c.S m) (f.step c.S m).at_).get:=by
 unfold xh;by_cases h:c.S<=f.at_
 .have e:f.step c.S m=f:=by unfold Fd.step;rw[tz (.inr h)]
  rw[aI (by simp[MF];omega),e,ck (by rw[b];simp),tz (by exact⟨b,h⟩)];rfl
 .have d:f.step c.S m=if fits f.kd f.ow (m.sl f.at_)then{f with fd:=some (m.sl f.at_)}else{f with at_:=f.at_+1}:=by
   unfold Fd.step;rw[ck (by rw[b];simp[h])]
  rw[aT (by simp[MF];omega),show MF f=(f.at_:Int)from rfl,mX S (by omega),qm (by omega)];by_cases k:fits f.kd f.ow (m.sl f.at_)
  .rw[tz k]at d
   rw[aI ((Gc i).2 k),d];exact(tz rfl).symm
  .have n:kI (m.sl f.at_) (f.kd:Int) f.ow=false:=by
    cases h:kI (m.sl f.at_) (f.kd:Int) f.ow with
    |true=>exact tA ((Gc i).1 h) k
    |false=>rfl
   rw[ck k]at d;rw[aT n,d,ck (by rw[b];simp),acR (by omega)];by_cases l:c.S<=f.at_+1
   .rw[aI (by simp;omega),tz (by exact⟨b,l⟩)]
   .rw[aT (by simp;omega),ck (λh=>l h.2)]
def xQ{f}{x}{F:Fd->Int->M α}(h:f.fd=some x)(a:f.at_<=1000):(EP f F).get=(F f.go f.go.at_).get:=by
 unfold EP Fd.go;rw[h];simp only[Option.isSome_some,if_true,acR a]
def DN{r}{d o:Rt->Mm->M α}(h:r.st=.swap\/r.st=.iI->r.i<c.S):(Tg c m r d o).get=if(r.step m).1.st=.done then(d (r.step m).1 (r.step m).2).get else(o (r.step m).1 (r.step m).2).get:=by
 unfold Tg Rt.step;cases s:r.st with
 |swap=>
  have h:=h (.inl s);simp only;cases a:az r.wd 11 0 4095 with
  |none=>rw[nZ a];simp
  |some n=>
   rw[nY a];by_cases e:m.sl r.i=r.wd
   .rw[uI h e];simp only[tz e];rw[ck (by simp)]
   .rw[uJ h e];simp only[ck e];rw[tz trivial]
 |look=>simp
 |iI=>
  have h:=h (.inr s);simp only;cases a:az r.wd 17 0 r.ep with
  |none=>rw[nZ a];simp
  |some n=>
   rw[nY a];by_cases e:m.sl r.i=r.wd
   .rw[uI h e];simp only[tz e];rw[ck (by simp)]
   .rw[uJ h e];simp only[ck e];rw[ck (by simp)]
 |jk=>simp
 |done=>simp[s]
end
noncomputable section
open Go.RowKit Go.bn Go.Sx Classical
namespace Yq
def same(q:Xq):Option RQ:=some (q,q.ex)
def jE(q):(rq q).get=same q:=rfl
def zQ(q:Xq)(r:Tk×Mm):Xq:=
 if r.1.st=.done then(if r.1.e=3 then(if q.x.ask.wait then q.to r.2 (.enters Qu.enter)else q.to r.2 (.counts Tw.new))else if r.1.e=0 then q.fin r.2 ⟨0,r.1.i,r.1.gen,0,0,0,0,0⟩else q.fin r.2 (.err r.1.e))else q.to r.2 (.work (.get r.1))
theorem bK{q}{t}{m}(h:t.st≠.done):zQ q (t,m)=q.to m (.work (.get t)):=ck h
def lS{q}{t:Tk}{m}{e}(h:e≠3)(a:e≠0):zQ q (t.fin e,m)=q.fin m (.err e):=by
 exact(tz rfl).trans ((ck h).trans (ck a))
def aan{q}{t:Tk}{m}:zQ q (t.fin 3,m)=if q.x.ask.wait then q.to m (.enters Qu.enter)else q.to m (.counts Tw.new):=(tz rfl).trans (tz rfl)
def p8{α}{c}{w}{m}{t}{i}{a}{d}{yes:Tk->Mm->M α}{no}(h:c.S<=1000)(b:i<c.S):
  (tV c w m t i a d yes no).get=match t.swap w m i a d with|some r=>(yes r.1 r.2).get|none=>(no m).get:=by
 grind [tV,Tk.swap,nZ,nY,mX,uI,uJ]
def dJ(q:Xq)(t:Tk)(g:Bool):Prop:=(lG q t g).get=same (zQ q (t.step q.who q.c.S q.m g))
variable{q:Xq} {t:Tk} {g:Bool}
def BL(h:t.st=.closed):dJ q t g:=by
 unfold dJ lG Tk.step;simp only[h];by_cases k:q.m.cl≠0
 .rw[aI (by simpa using k),tz k,lS (by decide) (by decide)];rfl
 .rw[aT (by simpa using k),ck k,bK (by simp[Tk.search])];rfl
def Oc(S:q.c.S<=1000)(h:t.st=.own)(k:oI t.look 0):dJ q t g:=by
 unfold dJ lG Tk.step;simp only[h];rw[qa S k.2 (by rw[k.1];decide)];split
 .rfl
 .split
  .rfl
  .rfl
def Od(S:q.c.S<=1000)(h:t.st=.any)(k:oI t.look 1):dJ q t g:=by
 unfold dJ lG Tk.step;simp only[h];rw[qa S k.2 (by rw[k.1];decide)];split
 .rfl
 .split
  .rfl
  .rfl
def JQ(S:q.c.S<=1000)(h:t.st=.free)(k:oI t.look 2):dJ q t g:=by
 unfold dJ lG Tk.step;simp only[h];rw[qa S k.2 (by rw[k.1];decide)];split
 .rfl
 .split
  .rw[aan]
   cases w:q.x.ask.wait with
   |true=>exact aI rfl
   |false=>exact aT rfl
  .rfl
def JP(S:q.c.S<=1000)(h:t.st=.move)(c:oI t.look 0):dJ q t g:=by
 unfold dJ lG Tk.step;simp only[h];rw[qa S c.2 (by rw[c.1];decide)];split
 .rename_i k
  obtain⟨x,a⟩:=cP.1 k;have d:(t.look.step q.c.S q.m).at_<=1000:=by
   have:=c.2;unfold Fd.step at a ⊢;split
   .rename_i b
    rw[tz b,this]at a;cases a
   .rename_i b
    rw[this]at b;split
    .simp at b ⊢;omega
    .rename_i e;rw[ck (by rw[this];exact b),ck e,this]at a;cases a
  cases p:t.ps with
  |true=>
   rw[aI rfl,xQ a d,tz rfl,bK (by simp)];rfl
  |false=>
   rfl
 .split
  .rfl
  .rfl
def JO(S:q.c.S<=1000)(h:t.st=.gp)(i:t.look.at_<q.c.S):dJ q t g:=by
 unfold dJ lG Tk.step;simp only[h];rw[p8 S i];cases x:t.swap q.who q.m t.look.at_ t.look.wd 3 with
 |none=>rfl
 |some r=>rfl
def Fe(S:q.c.S<=1000)(h:t.st=.dQ)(i:t.look.at_<q.c.S):dJ q t g:=by
 unfold dJ lG Tk.step;simp only[h];rw[p8 S i];cases x:t.swap q.who q.m t.look.at_ t.look.wd 0 with
 |none=>rfl
 |some r=>rfl
def JU(S:q.c.S<=1000)(h:t.st=.anyS)(i:t.look.at_<q.c.S):dJ q t g:=by
 unfold dJ lG Tk.step;simp only[h];rw[p8 S i];cases x:t.swap q.who q.m t.look.at_ t.look.wd 3 with
 |none=>rfl
 |some r=>
  simp only;by_cases k:t.look.wd.own=(q.who:Int)
  .rw[aT (by simpa using k),tz k,bK (by simp)];rfl
  .rw[aI (by simpa using k),ck k,bK (by simp[Tk.search])];rfl
def Fa(S:q.c.S<=1000)(h:t.st=.dD)(i:t.look.at_<q.c.S)(k:vF t.look 0):dJ q t g:=by
 obtain⟨_,x,b⟩:=k;unfold dJ lG Tk.step;simp only[h];have o:∀m:Mm,(EP t.look λf a=>yo (q.to m (.work (.get {t with look:=f,st:=.move}))) a).get=same (q.to m (.work (.get {t with look:=t.look.go,st:=.move}))):=λm=>by
  rw[xQ b (by omega)];rfl
 cases c:az t.look.wd 9 q.who 0 with
 |none=>grind [nZ,bK]
 |some n=>
  rw[nY c,mX S i];simp only;by_cases e:q.m.sl t.look.at_=t.look.wd
  .rw[uI i e,o,tz e,bK (by simp)]
  .rw[uJ i e,o,ck e,bK (by simp)]
def JR(S:q.c.S<=1000)(h:t.st=.bM)(i:t.i<q.c.S):dJ q t g:=by
 unfold dJ lG Tk.step;simp only[h];cases g with
 |true=>
  rw[aI rfl,p8 S i];simp only[if_true];cases x:t.swap q.who q.m t.i t.wd 1 with
  |none=>rfl
  |some r=>rfl
 |false=>
  rw[aT rfl,p8 S i];simp only[eN,jj];cases x:t.swap q.who q.m t.i t.wd 2 with
  |none=>rfl
  |some r=>rfl
def Ff(h:t.st=.check):dJ q t g:=by
 unfold dJ lG Tk.step;simp only[h];by_cases k:q.m.cl=0
 .rw[aI (by simpa using k),tz k,show zQ q (t.fin 0,q.m)=q.fin q.m ⟨0,t.i,t.gen,0,0,0,0,0⟩from(tz rfl).trans ((ck (show¬(0:Int)=3 by decide)).trans (tz rfl))];rfl
 .rw[aT (by simpa using k),ck k,bK (by simp)];rfl
def JS(S:q.c.S<=1000)(h:t.st=.back)(i:t.i<q.c.S):dJ q t g:=by
 unfold dJ lG Tk.step;simp only[h];rw[mX S i,qm i];by_cases a:(q.m.sl t.i).st=3
 .rw[aT (by simpa using a)]
  by_cases b:(q.m.sl t.i).own=(q.who:Int)
  .rw[aT (by simpa using b)]
   by_cases c:(q.m.sl t.i).gen=t.gen
   .rw[aT (by simpa using c),G9 S i,tz ⟨a,b,c⟩,bK (by simp)];rfl
   .rw[aI (by simpa using c),ck (λk=>c k.2.2),lS (by decide) (by decide)];rfl
  .rw[aI (by simpa using b),ck (λk=>b k.2.1),lS (by decide) (by decide)];rfl
 .rw[aI (by simpa using a),ck (λk=>a k.1),lS (by decide) (by decide)];rfl
def af6(h:t.st=.go)(i:t.rt.st=.swap\/t.rt.st=.iI->t.rt.i<q.c.S):dJ q t g:=by
 unfold dJ lG Tk.step;simp only[h];rw[DN i];by_cases d:(t.rt.step q.m).1.st=.done
 .rw[tz d,tz d]
  cases w:(t.rt.step q.m).1.sw with
  |true=>rfl
  |false=>rfl
 .rw[ck d,ck d,bK (by simp[h])];rfl
def Fb(S:q.c.S<=1000)(h:t.st=.grant)(i:t.i<q.c.S):dJ q t g:=by
 unfold dJ lG Tk.step;simp only[h];rw[mX S i,qm i,bK (by simp)];rfl
def BK(S:q.c.S<=1000)(h:t.st=.eG)(i:t.i<q.c.S):dJ q t g:=by
 unfold dJ lG Tk.step;simp only[h];cases a:az t.wd 16 q.who 0 with
 |none=>rw[nZ a];rfl
 |some n=>
  rw[nY a,p8 S i];unfold Tk.swap;simp only[a];by_cases e:q.m.sl t.i=t.wd
  .simp only[tz e]
   by_cases k:n.st=3
   .rw[aI (by simpa using k),tz k,bK (by simp)];rfl
   .rw[aT (by simpa using k),ck k,bK (by simp)];rfl
  .simp only[ck e];rfl
end Yq
namespace Yq
variable{q:Xq}
def Ec(q:Xq)(r:Gv×Mm):Xq:=if r.1.st=.done then q.fin r.2 (.err r.1.e)else q.to r.2 (.work (.give r.1))
def kQ{g}{m}(h:g.st≠.done):Ec q (g,m)=q.to m (.work (.give g)):=ck h
def nS{g:Gv}{m}{e}:Ec q (g.fin e,m)=q.fin m (.err e):=tz rfl
def ahH{g:Gv}(S:q.c.S<=1000)(w:g.st=.rest->0<=g.i/\g.i<q.c.S)(y:g.st=.go->g.rt.st=.swap\/g.rt.st=.iI->g.rt.i<q.c.S)(c:g.st≠.done):
  (NQ q g).get=same (Ec q (g.step q.c q.who q.m)):=by
 unfold NQ Gv.step;cases h:g.st with
 |closed=>
  simp only;by_cases k:q.m.cl=2
  .rw[aI (by simpa using k),tz k,nS];rfl
  .rw[aT (by simpa using k),ck k,kQ (by simp)];rfl
 |look=>
  simp only;by_cases k:0<=g.i/\g.i<q.c.S
  .have f:g.i.toNat<q.c.S:=by omega
   have z:g.i=(g.i.toNat:Int):=by omega
   rw[zB S k.1 k.2,qm f,tz k]
   have go:∀(a b:Bool),(uV q.c g.i λi v=>qI (q.to q.m (.work (.give {g with wd:=q.m.sl g.i.toNat,rt:=Rt.new i (q.m.sl g.i.toNat),st:=.go}))) v).get=
     same (q.to q.m (.work (.give {g with wd:=q.m.sl g.i.toNat,rt:=Rt.new g.i.toNat (q.m.sl g.i.toNat),st:=.go}))):=λa b=>by
    rw[z,G9 S f];rfl
   by_cases l:(q.m.sl g.i.toNat).st=3
   .rw[aT (by simpa using l)]
    by_cases m:(q.m.sl g.i.toNat).own=(q.who:Int)
    .rw[aT (by simpa using m)]
     by_cases o:(q.m.sl g.i.toNat).gen=g.gen
     .rw[aT (by simpa using o),ck (fun k=>k ⟨l,m,o⟩)]
      have rest:(M.br g.dc (uV q.c g.i fun i v=>qI (q.to q.m (.work (.give {g with wd:=q.m.sl g.i.toNat,rt:=Rt.new i (q.m.sl g.i.toNat),st:=.go}))) v)
        (.br (q.m.sl g.i.toNat).brk (uV q.c g.i λi v=>qI (q.to q.m (.work (.give {g with wd:=q.m.sl g.i.toNat,rt:=Rt.new i (q.m.sl g.i.toNat),st:=.go}))) v)
        (.br (decide ((q.m.sl g.i.toNat).uses>=q.c.u)) (uV q.c g.i λi v=>qI (q.to q.m (.work (.give {g with wd:=q.m.sl g.i.toNat,rt:=Rt.new i (q.m.sl g.i.toNat),st:=.go}))) v)
        (.br (g.cl != 0) (uV q.c g.i λi v=>qI (q.to q.m (.work (.give {g with wd:=q.m.sl g.i.toNat,rt:=Rt.new i (q.m.sl g.i.toNat),st:=.go}))) v) (rq (q.to q.m (.work (.give {g with wd:=q.m.sl g.i.toNat,st:=.rest})))))))).get=
       same (Ec q (if g.dc=true\/(q.m.sl g.i.toNat).brk=true\/q.c.u<=(q.m.sl g.i.toNat).uses\/¬g.cl=(0:Int)then({g with wd:=q.m.sl g.i.toNat,rt:=Rt.new g.i.toNat (q.m.sl g.i.toNat),st:=.go},q.m)else({g with wd:=q.m.sl g.i.toNat,st:=.rest},q.m))):=by
       cases u:g.dc with
       |true=>rw[aI rfl,tz (.inl rfl),kQ (by simp), <-u];exact go true true
       |false=>
        rw[aT rfl, <-u];cases C:(q.m.sl g.i.toNat).brk with
        |true=>rw[aI rfl,tz (.inr (.inl rfl)),kQ (by simp)];exact go true true
        |false=>
         rw[aT rfl];by_cases p:q.c.u<=(q.m.sl g.i.toNat).uses
         .rw[aI (by simpa using p),tz (.inr (.inr (.inl p))),kQ (by simp)];exact go true true
         .rw[aT (by simpa using p)]
          by_cases r:g.cl=0
          .rw[aT (by simpa using r),ck (by rw[u];simp[p,r]),kQ (by simp)];rfl
          .rw[aI (by simpa using r),tz (.inr (.inr (.inr r))),kQ (by simp)];exact go true true
      by_cases s:(q.m.sl g.i.toNat).str=0
      .rw[aT (by simpa using s),ck (λk=>k.1 s)];exact rest
      .rw[aI (by simpa using s)]
       by_cases d:g.dc=true
       .rw[aT (by simp[d]),ck (fun k=>by rw[d]at k;cases k.2)]
        exact rest
       .have d:g.dc=false:=by simpa using d
        rw[aI (by simp[d]),tz ⟨s,d⟩,nS];rfl
     .rw[aI (by simpa using o),tz (λk=>o k.2.2),nS];rfl
    .rw[aI (by simpa using m),tz (λk=>m k.2.1),nS];rfl
   .rw[aI (by simpa using l),tz (λk=>l k.1),nS];rfl
  .rw[Ui S k,ck k,nS];rfl
 |rest=>
  simp only;obtain⟨A,B⟩:=w h;have f:g.i.toNat<q.c.S:=by omega
  cases x:az g.wd 4 q.who 0 with
  |none=>rw[nZ x];simp only;rw[kQ (by simp)];rfl
  |some n=>
   rw[nY x,zB S A B];simp only;by_cases e:q.m.sl g.i.toNat=g.wd
   .rw[uI f e,tz e,nS];rfl
   .rw[uJ f e,ck e,kQ (by simp)];rfl
 |go=>
  simp only;rw[DN (y h)];by_cases c:(g.rt.step q.m).1.st=.done
  .rw[tz c,tz c]
   cases D:(g.rt.step q.m).1.sw with
   |true=>rw[aI rfl,tz rfl,nS];rfl
   |false=>rw[aT rfl,ck (by decide),kQ (by simp)];rfl
  .rw[ck c,ck c,kQ (by simp[h])];rfl
 |done=>exact tA h c
def zU(q:Xq)(r:Sm×Mm):Xq:=if r.1.st=.done then q.fin r.2 ⟨r.1.e,0,0,if r.1.e=0 then r.1.num else 0,0,0,0,0⟩else q.to r.2 (.work (.bg r.1))
def zT{g}{m}(h:g.st≠.done):zU q (g,m)=q.to m (.work (.bg g)):=ck h
def nH{g:Sm}{m}{e}(h:e≠0):zU q (g.fin e,m)=q.fin m ⟨e,0,0,0,0,0,0,0⟩:=by
 unfold zU;refine(tz rfl).trans ?_;show q.fin m ⟨e,0,0,if e=0 then g.num else 0,0,0,0,0⟩=_;rw[ck h]
def agh{g:Sm}(S:q.c.S<=1000)(p:∀i,i<q.c.S->Facts (q.m.sl i))(r:g.st=.swap->0<=g.i/\g.i<q.c.S)(s:g.st≠.done):(Nz q g).get=same (zU q (g.step q.c q.who q.m)):=by
 unfold Nz Sm.step;cases h:g.st with
 |closed=>
  simp only;by_cases k:q.m.cl=2
  .rw[aI (by simpa using k),tz k,nH (by decide)];rfl
  .rw[aT (by simpa using k),ck k,zT (by simp)];rfl
 |look=>
  simp only;by_cases k:0<=g.i/\g.i<q.c.S
  .have a:g.i.toNat<q.c.S:=by omega
   rw[zB S k.1 k.2,qm a,tz k];by_cases b:(q.m.sl g.i.toNat).st=3
   .rw[aT (by simpa using b)]
    by_cases c:(q.m.sl g.i.toNat).own=(q.who:Int)
    .rw[aT (by simpa using c)]
     by_cases d:(q.m.sl g.i.toNat).gen=g.gen
     .rw[aT (by simpa using d),ck (fun k=>k ⟨b,c,d⟩)]
      have F:=p _ a;unfold Sm.next;cases B:g.op with
      |true=>
       simp only[if_true,true_and];by_cases f:(q.m.sl g.i.toNat).brk=true
       .rw[aI f,tz f,nH (by decide)];rfl
       .rw[aT (by simpa using f),ck f]
        cases x:az (q.m.sl g.i.toNat) 14 q.who q.c.st with
        |none=>rw[aI (show(!(none:Option aa).isSome)=true from rfl)];simp only;rw[nH (by decide)];rfl
        |some n=>
         obtain⟨_,_,_,_,u,e,_⟩:=Tu x;obtain⟨l,m⟩:=acy F.str u;have o:BF (sX (q.m.sl g.i.toNat).str (iN (some n)).str)=bA (q.m.sl g.i.toNat).str:=by show BF (sX _ n.str)=_;rw[e,m]
         rw[aT (show(!(some n).isSome)=false from rfl),aI (show sure (Facts (iN (some n)))=true from jh (FM x)),aI (by show vW (sX _ n.str)=true;rw[e];exact l),o];simp only;rw[zT (by simp)];rfl
      |false=>
       simp only[eN,jj,false_and];cases x:az (q.m.sl g.i.toNat) 15 q.who g.n with
       |none=>rw[aI (show(!(none:Option aa).isSome)=true from rfl)];simp only;rw[nH (by decide)];rfl
       |some n=>
        obtain⟨_,_,_,v,w,y,e,_⟩:=Tt x;obtain⟨l,m⟩:=acz F.str ⟨v,w⟩ y;have o:BF (sX (q.m.sl g.i.toNat).str (iN (some n)).str)=g.n:=by show BF (sX _ n.str)=_;rw[e,m]
        rw[aT (show(!(some n).isSome)=false from rfl),aI (show sure (Facts (iN (some n)))=true from jh (FM x)),aI (by show vW (sX _ n.str)=true;rw[e];exact l),o];simp only;rw[zT (by simp)];rfl
     .rw[aI (by simpa using d),tz (λk=>d k.2.2),nH (by decide)];rfl
    .rw[aI (by simpa using c),tz (λk=>c k.2.1),nH (by decide)];rfl
   .rw[aI (by simpa using b),tz (λk=>b k.1),nH (by decide)];rfl
  .rw[Ui S k,ck k,nH (by decide)];rfl
 |swap=>
  simp only;obtain⟨z,A⟩:=r h;have a:g.i.toNat<q.c.S:=by omega
  rw[zB S z A];by_cases e:q.m.sl g.i.toNat=g.wd
  .rw[uI a e,tz e,show zU q (g.fin 0,q.m.set g.i.toNat g.nx)=q.fin (q.m.set g.i.toNat g.nx) ⟨0,0,0,g.num,0,0,0,0⟩from tz rfl];rfl
  .rw[uJ a e,ck e,zT (by simp)];rfl
 |done=>exact tA h s
end Yq
namespace Yq
variable{α:Type} {c:Cn} {m:Mm} {w:Nat}
def ku(c:Cn)(l:List Nat):Prop:=l.Nodup/\∀a∈l,a<c.W
def ku.line{l}(h:ku c l)(W:c.W<=14):dZ l:=⟨by have:=Ib c.W l h.1 h.2;omega,λa b=>by have:=h.2 a b;omega⟩
def sG{l}{F:List Nat->M α}(h:dZ l):(Il (au l) F).get=(F l).get:=by
 have e:=iG h;unfold Il;rw[aI (jh (⟨by rw[e],by rw[e];exact h⟩)),e]
theorem abv{a b}(d:dZ a)(e:dZ b)(h:au a=au b):a=b:=by grind [iG]
def Ej{a b}{yes no:Mm->M α}(h:dZ b)(e:m.qu=a):(xX m (au a) (au b) yes no).get=(yes {m with qu:=b}).get:=by
 grind [xX,aI,jh,iG]
def El{a b}{yes no:Mm->M α}(h:dZ a)(d:dZ m.qu)(e:¬m.qu=a):(xX m (au a) (au b) yes no).get=(no m).get:=by
 unfold xX;rw[aT (by grind [abv])]
def vG{b i}{F:Nat->M α}(h:c.W<=1000)(S:c.S<=1000)(a:i<c.W):(vU c b (i:Int) F).get=(F (i+b)).get:=by
 grind [vU,aI,Em,VE,Int.toNat_natCast]
theorem lK{a b:Nat}(h:a≠b):Nat.beq a b=false:=by
 grind [Nat.eq_of_beq_eq_true]
def Ki{i}{v}{F:Mm->M α}(h:i<c.W):(pM c m (i+(3+c.W)) v F).get=(F (m.nT i v)).get:=by
 grind [pM,aT,lK,NS,aI,qY]
def Kh{i}{v}{F:Mm->M α}(h:i<c.W):(pM c m (i+3) v F).get=(F (m.pin i v)).get:=by
 grind [pM,aT,lK,NS,aI,qY]
def acp{i}{F:Int->M α}(h:i<c.W):(tN c m (i+(3+c.W)) F).get=(F (m.gr i)).get:=by
 grind [tN,aT,lK,NS,aI,qY]
def aco{i}{F:Int->M α}(h:i<c.W):(tN c m (i+3) F).get=(F (m.pn i)).get:=by
 grind [tN,aT,lK,aI,qY]
structure zI(c:Cn)(w:Nat)(q:Qu):Prop where
 ln:q.st=.push\/q.st=.drop\/q.st=.pop->ku c q.ln
 push:q.st=.push->w<c.W/\w∉q.ln
 drop:q.st=.drop->w∈q.ln
 tell:q.st=.tell->q.first<c.W
def OY{q}{K:EK Qu α}(W:c.W<=14)(S:c.S<=1000)(p:ku c m.qu)(R:zI c w q)(s:q.st≠.done):
  (Ye c w m q K).get=if(q.step c w m).1.st=.done then(K.fin (q.step c w m).1.e q (q.step c w m).2).get else(K.go (q.step c w m).1 (q.step c w m).2).get:=by
 have f:=p.line W;unfold Ye Qu.step;cases h:q.st with
 |come=>
  simp only;rw[sG f];by_cases k:c.wt<=m.qu.length
  .rw[aI (by simpa using k),tz (Or.inl k),tz (by rfl)];rfl
  .rw[aT (by simpa using k),sG f]
   by_cases l:w∈m.qu
   .rw[aI (jh l),tz (Or.inr l),tz (by rfl)];rfl
   .have u:¬(c.wt<=m.qu.length\/w∈m.qu):=fun e=>Or.elim e k l
    rw[aT (yM l)];simp only[ck u];rw[ck (by simp)]
 |push=>
  simp only;obtain⟨v,n⟩:=R.push h;have L:=R.ln (.inl h);have b:=L.line W;have Q:q.ln.length<15:=by have:=Ib c.W q.ln L.1 L.2;omega
  have i:dZ (q.ln++[w]):=⟨by simp;omega,λa d=>by
   rcases eS.1 d with d|d
   .exact b.2 a d
   .have:=cY.1 d;omega⟩
  rw[aI (jh (by rw[iG b];exact⟨⟨by rw[iG b],by rw[iG b];exact b⟩,Q,by omega,n⟩)),iG b];by_cases e:m.qu=q.ln
  .rw[Ej i e,tz e,ck (by simp),e]
  .rw[El b f e,ck e,ck (by simp)]
 |closed=>
  simp only;by_cases k:m.cl=0
  .rw[aI (by simpa using k),tz k,tz (by rfl)];rfl
  .rw[aT (by simpa using k),ck k,ck (by simp)]
 |look=>
  simp only;rw[sG f];by_cases l:w∈m.qu
  .rw[aT (by rw[jh l];rfl),tz l,ck (by simp)]
  .rw[aI (by rw[yM l];rfl),ck l,tz (by rfl)];rfl
 |drop=>
  simp only;have n:=R.drop h;have L:=R.ln (.inr (.inl h));have b:=L.line W;have i:dZ (q.ln.erase w):=⟨by have:=b.1;have:=List.length_erase_le (a:=w) (l:=q.ln);omega,λa d=>b.2 a (List.mem_of_mem_erase d)⟩;rw[aI (jh (by rw[iG b];exact⟨⟨by rw[iG b],by rw[iG b];exact b⟩,L.1,n⟩)),iG b];by_cases e:m.qu=q.ln
  .rw[Ej i e,tz e,tz (by rfl),e];rfl
  .rw[El b f e,ck e,ck (by simp)]
 |head=>
  rw[sG f];cases x:m.qu with
  |nil=>rw[aI (jh rfl)];rfl
  |cons a r=>rw[aT (yM (by simp))];rfl
 |pop=>
  simp only;have L:=R.ln (.inr (.inr h));have b:=L.line W;have i:dZ q.ln.tail:=⟨by have:=b.1;simp;omega,λa d=>b.2 a (qt d)⟩;rw[sG b];by_cases e:m.qu=q.ln
  .rw[Ej i e,tz e,ck (by simp),e]
  .rw[El b f e,ck e,ck (by simp)]
 |tell=>
  have o:=R.tell h;rw[vG (by omega) S o,Ki o,ck (by simp)]
 |done=>exact tA h s
variable{q:Xq}
def NC(q:Xq)(r:Rp):Xq:=
 match r.st with
 | .look=>
  let f:=r.look.step q.c.S q.m
  if f.fd.isSome then q.to q.m (.work (.aS {r with look:=f,st:=.ask}))else if f.all q.c.S then q.fin q.m ⟨0,r.many,0,0,0,0,0,0⟩else q.to q.m (.work (.aS {r with look:=f}))
 | .ask=>
  let a:={q with wo:=q.wo.tail}
  if xD q.wo=true/\r.look.wd.fO=false/\r.look.wd.brk=false then a.to q.m (.work (.aS {r with st:=.mark}))else a.to q.m (.work (.aS {r with rt:=Rt.new r.look.at_ r.look.wd,st:=.dB}))
 | .mark=>match az r.look.wd 10 q.who 0 with
  |some n=>if q.m.sl r.look.at_=r.look.wd then q.to (q.m.set r.look.at_ n) (.work (.aS {r with look:=r.look.go,st:=.look}))else q.to q.m (.work (.aS {r with look:=r.look.go,st:=.look}))
  |none=>q.to q.m (.work (.aS {r with look:=r.look.go,st:=.look}))
 | .dB=>
  let t:=r.rt.step q.m
  if t.1.st=.done then q.to t.2 (.work (.aS {r with rt:=t.1,many:=if t.1.sw then aR (r.many+1)else r.many,look:=r.look.go,st:=.look}))else q.to t.2 (.work (.aS {r with rt:=t.1}))
theorem uh{r}(S:q.c.S<=1000)(A:r.st=.look->oI r.look 6)(s:r.st≠.look->vF r.look 6/\r.look.at_<q.c.S)(B:r.st=.dB->r.rt.st=.swap\/r.rt.st=.iI->r.rt.i<q.c.S):(ND q r).get=same (NC q r):=by
 unfold ND NC;cases h:r.st with
 |look=>
  simp only;have y:=A h;rw[qa S y.2 (by rw[y.1];decide)];split
  .rfl
  .split<;>rfl
 |ask=>
  simp only;obtain⟨⟨_,x,o⟩,l⟩:=s (by rw[h];decide);have no:(uV q.c (r.look.at_:Int) λi v=>qI (({q with wo:=q.wo.tail}:Xq).to q.m (.work (.aS {r with rt:=Rt.new i r.look.wd,st:=.dB}))) v).get=same (({q with wo:=q.wo.tail}:Xq).to q.m (.work (.aS {r with rt:=Rt.new r.look.at_ r.look.wd,st:=.dB}))):=by
   rw[G9 S l];rfl
  by_cases a:xD q.wo=true
  .rw[aI a]
   by_cases b:r.look.wd.fO=false
   .rw[aI (by simp[b])]
    by_cases d:r.look.wd.brk=false
    .rw[aI (by simp[d]),tz ⟨a,b,d⟩];rfl
    .rw[aT (by simpa using d),ck (λk=>d k.2.2)];exact no
   .rw[aT (by simpa using b),ck (λk=>b k.2.1)];exact no
  simp_all
 |mark=>
  obtain⟨⟨_,x,o⟩,l⟩:=s (by rw[h];decide);have u:∀m:Mm,(EP r.look λf a=>yo (q.to m (.work (.aS {r with look:=f,st:=.look}))) a).get=same (q.to m (.work (.aS {r with look:=r.look.go,st:=.look}))):=λm=>by
   rw[xQ o (by omega)];rfl
  cases z:az r.look.wd 10 q.who 0 with
  |none=>rw[nZ z,u]
  |some n=>
   rw[nY z,mX S l];simp only;by_cases e:q.m.sl r.look.at_=r.look.wd
   .rw[uI l e,u,tz e]
   .rw[uJ l e,u,ck e]
 |dB=>
  simp only;obtain⟨⟨_,x,o⟩,l⟩:=s (by rw[h];decide);rw[DN (B h)];by_cases p:(r.rt.step q.m).1.st=.done
  .rw[tz p,tz p]
   cases C:(r.rt.step q.m).1.sw with
   |true=>rw[aI rfl,xQ o (by omega),tz rfl];rfl
   |false=>rw[aT rfl,xQ o (by omega),ck (by decide)];rfl
  .rw[ck p,ck p, <-h];rfl
end Yq
namespace Yq
variable{α:Type} {c:Cn} {m:Mm} {w:Nat} {q:Xq}
def BI{t}{f a more:Td->Int->M α}(h:c.S<=1000)(b:t.look.fd=none)(k:t.look.kd<=6):
  (BJ c m t f a more).get=if(t.fu c.S m).look.fd.isSome then(f (t.fu c.S m) (t.fu c.S m).look.at_).get else if(t.fu c.S m).look.all c.S then(a (t.fu c.S m) (t.fu c.S m).look.at_).get else(more (t.fu c.S m) (t.fu c.S m).look.at_).get:=by
 unfold BJ;rw[qa h b k];cases d:(t.look.step c.S m).fd with
 |none=>
  grind [jQ]
 |some x=>
  have e:=jP rfl d;grind [Fd.wd]
def qG{t}{d own}{yes no:Mm->M α}(h:c.S<=1000)(i:t.i<c.S):(rY c m t d own yes no).get=match t.swap m d own with|some a=>(yes a).get|none=>(no m).get:=by
 grind [rY,Td.swap,nZ,nY,mX,uI,uJ]
def LQ{o}{F:Int->M α}(h: -1<=o)(a:o<=1000):(Cq w o F).get=(F ((jq w (o+1).toNat:Nat):Int)).get:=by
 have e:aR (o+1)=o+1:=fA ⟨by omega,by omega⟩;unfold Cq jq;by_cases k:(o+1).toNat=w
 .rw[aI (by simp;omega),fA ⟨by omega,by omega⟩,tz k]
  congr 2;omega
 .rw[aT (by simp;omega),ck k]
  congr 2;omega
structure TdR(c:Cn)(m:Mm)(t:Td):Prop where
 dL:t.st=.dL->oI t.look 4
 go:t.st=.go->t.rt.st=.swap\/t.rt.st=.iI->t.rt.i<c.S
 old:t.st=.old->oI t.look 5
 pins:t.st=.pins\/t.st=.clear->vF t.look 5/\t.look.at_<c.S/\t.i<c.S
 other:t.st=.pins->t.other<c.W
 some:t.st=.some->oI t.look 3
 i:t.st=.keep\/t.st=.grant\/t.st=.back\/t.st=.dR->t.i<c.S
 head:t.st=.grant->t.head<c.W
 qu:t.st=.pop->ku c t.qu
 pn:∀i,m.pn i<=9223372036854775807
def UD(q:Xq)(p:Option Bool)(a:bR)(r:Td×Mm):Xq:=q.to r.2 (.ax r.1 p a)
def agc{t}{p}{n}{D}(W:q.c.W<=14)(s:q.who<q.c.W)(S:q.c.S<=1000)(I:ku q.c q.m.qu)(R:TdR q.c q.m t)(u:t.st≠.done):
  (tdQ q t p n D).get=if(t.step q.c q.who q.m).1.st=.done then(D (t.step q.c q.who q.m).2).get else same (UD q p n (t.step q.c q.who q.m)):=by
 have E:=I.line W;unfold tdQ Td.step;cases h:t.st with
 |ep=>simp only;rw[ck (by simp)];rfl
 |pin=>simp only;rw[vG (by omega) S s,Kh s,ck (by simp)];rfl
 |cl=>simp only;rw[ck (by simp)];rfl
 |dL=>
  simp only;have f:=R.dL h;rw[BI S f.2 (by rw[f.1];decide)];by_cases a:(t.fu q.c.S q.m).look.fd.isSome
  .have i:(t.fu q.c.S q.m).i<q.c.S:=by
    cases d:(t.look.step q.c.S q.m).fd with
    |none=>rw[jQ d]at a;simp[d]at a
    |some x=>
     rw[jP rfl d];show(t.look.step q.c.S q.m).at_<q.c.S;unfold Fd.step at d ⊢;split
     .rename_i v;rw[tz v,f.2]at d;cases d
     .rename_i v
      rw[ck v]at d;split
      .simp at v ⊢;omega
      .rename_i J;rw[ck J]at d;simp[f.2]at d
   simp only[tz a];rw[G9 S i,ck (by simp)];rfl
  .simp only[ck a]
   by_cases b:(t.fu q.c.S q.m).look.all q.c.S
   .simp only[tz b];rw[ck (by simp)];rfl
   .simp only[ck b]
    have e:(t.fu q.c.S q.m).st=.dL:=by
     cases d:(t.look.step q.c.S q.m).fd with
     |none=>rw[jQ d];exact h
     |some x=>rw[jP rfl d];exact h
    rw[ck (by rw[e];simp)];rfl
 |go=>
  simp only;rw[DN (R.go h)];by_cases u:(t.rt.step q.m).1.st=.done
  .simp only[tz u];rw[ck (by simp)];rfl
  .simp only[ck u];rw[ck (by simp[h]), <-h];rfl
 |old=>
  simp only;have f:=R.old h;rw[BI S f.2 (by rw[f.1];decide)];have e:(t.fu q.c.S q.m).st=.old:=by
   cases d:(t.look.step q.c.S q.m).fd with
   |none=>rw[jQ d];exact h
   |some x=>rw[jP rfl d];exact h
  by_cases a:(t.fu q.c.S q.m).look.fd.isSome
  .simp only[tz a]
   rw[LQ (by omega) (by omega)];by_cases k:jq q.who 0<q.c.W
   .rw[aT (by simpa using k),tz k,ck (by simp)];rfl
   .rw[aI (by simpa using k),ck k,ck (by simp)];rfl
  .simp only[ck a]
   have N:(t.fu q.c.S q.m).cl=t.cl:=by
    cases d:(t.look.step q.c.S q.m).fd with
    |none=>rw[jQ d]
    |some x=>rw[jP rfl d]
   by_cases b:(t.fu q.c.S q.m).look.all q.c.S
   .simp only[tz b]
    by_cases k:(t.fu q.c.S q.m).cl=0
    .have B:(if(t.fu q.c.S q.m).cl≠0 then mO.eO else .line)=.line:=ck (fun h=>h k)
     rw[aT (by simpa using k)];simp only[B];rw[ck (by simp)];rfl
    .have B:(if(t.fu q.c.S q.m).cl≠0 then mO.eO else .line)=.eO:=tz k
     rw[aI (by simpa using k)];simp only[B];rw[ck (by simp)];rfl
   .simp only[ck b]
    rw[ck (by rw[e];simp)];rfl
 |pins=>
  simp only;obtain⟨⟨_,x,d⟩,C,i⟩:=R.pins (.inl h);have F:=R.other h;rw[vG (by omega) S F,aco F]
  have G:(Cq q.who (t.other:Int) λo=>
    M.br (!decide (o<(q.c.W:Int))) (.ret (q.to q.m (.ax {t with other:=o.toNat,st:=.clear} p n),{Xq.ex (q.to q.m (.ax {t with other:=o.toNat,st:=.clear} p n))with bf:=o}))
     (.ret (q.to q.m (.ax {t with other:=o.toNat,st:=.pins} p n),{Xq.ex (q.to q.m (.ax {t with other:=o.toNat,st:=.pins} p n))with bf:=o}))).get=
    same (q.to q.m (.ax {t with other:=jq q.who (t.other+1),st:=if jq q.who (t.other+1)<q.c.W then .pins else .clear} p n)):=by
   rw[LQ (by omega) (by omega),show((t.other:Int)+1).toNat=t.other+1 by omega];by_cases k:jq q.who (t.other+1)<q.c.W
   .rw[aT (by simpa using k),tz k];rfl
   .rw[aI (by simpa using k),ck k];rfl
  have O:=R.pn t.other;by_cases k:1<=q.m.pn t.other
  .rw[aT (by simpa using k),fA ⟨by omega,by omega⟩]
   by_cases l:q.m.pn t.other-1<=t.wd.ep
   .rw[aI (by simpa using l),xQ d (by omega)]
    simp only[tz (show oC (q.m.pn t.other) t.wd.ep from⟨k,l⟩)];rw[ck (by simp)];rfl
   .rw[aT (by simpa using l)]
    simp only[ck (show¬oC (q.m.pn t.other) t.wd.ep from λe=>l e.2)];rw[ck (by split<;>simp)];exact G
  .rw[aI (by simp;omega)]
   simp only[ck (show¬oC (q.m.pn t.other) t.wd.ep from λe=>k e.1)];rw[ck (by split<;>simp)];exact G
 |clear=>
  simp only;obtain⟨⟨_,x,d⟩,C,i⟩:=R.pins (.inr h);rw[qG S i,ck (by simp)];cases y:t.swap q.m 12 q.who with
  |none=>simp only[Option.getD_none];rw[xQ d (by omega)];rfl
  |some z=>simp only[lO];rw[xQ d (by omega)];rfl
 |line=>
  simp only;rw[sG E];cases d:q.m.qu with
  |nil=>rw[aI (jh rfl)];simp only;rw[ck (by simp)];rfl
  |cons a r=>rw[aT (yM (by simp))];simp only;rw[ck (by simp)];rfl
 |some=>
  simp only;have f:=R.some h;rw[BI S f.2 (by rw[f.1];decide)];have e:(t.fu q.c.S q.m).st=.some:=by
   cases d:(t.look.step q.c.S q.m).fd with
   |none=>rw[jQ d];exact h
   |some x=>rw[jP rfl d];exact h
  by_cases a:(t.fu q.c.S q.m).look.fd.isSome
  .simp only[tz a];rw[ck (by simp)];rfl
  .simp only[ck a]
   by_cases b:(t.fu q.c.S q.m).look.all q.c.S
   .simp only[tz b];rw[ck (by simp)];rfl
   .simp only[ck b];rw[ck (by rw[e];simp)];rfl
 |keep=>
  simp only;have i:=R.i (.inl h);by_cases k:t.wd.st=2
  .rw[aI (by simpa using k),qG S i]
   simp only[tz k];cases y:t.swap q.m 5 t.head with
   |none=>simp only;rw[ck (by simp)];rfl
   |some z=>simp only;rw[ck (by simp)];rfl
  .rw[aT (by simpa using k),qG S i]
   simp only[ck k];cases y:t.swap q.m 7 t.head with
   |none=>simp only;rw[ck (by simp)];rfl
   |some z=>simp only;rw[ck (by simp)];rfl
 |pop=>
  simp only;have L:=R.qu h;have A:=L.line W;have K:dZ t.qu.tail:=⟨by have:=A.1;simp;omega,λa C=>A.2 a (qt C)⟩;rw[sG A];by_cases e:q.m.qu=t.qu
  .rw[Ej K e];simp only[tz e];rw[ck (by simp),e];rfl
  .rw[El A E e];simp only[ck e];rw[ck (by simp)];rfl
 |grant=>
  simp only;have H:=R.head h;have i:=R.i (.inr (.inl h));rw[vG (by omega) S H,Ki H,fA ⟨by omega,by omega⟩,ck (by simp)];rfl
 |back=>
  simp only;have i:=R.i (.inr (.inr (.inl h)));rw[mX S i,qm i];by_cases k:(q.m.sl t.i).st=4
  .rw[aI (by simpa using k),tz (Or.inl k),ck (by simp)];rfl
  .rw[aT (by simpa using k)]
   by_cases l:(q.m.sl t.i).st=5
   .rw[aI (by simpa using l),tz (Or.inr l),ck (by simp)];rfl
   .rw[aT (by simpa using l),ck (λe=>Or.elim e k l),ck (by simp)];rfl
 |dR=>
  simp only;have i:=R.i (.inr (.inr (.inr h)));by_cases k:t.wd.st=4
  .rw[aI (by simpa using k),qG S i]
   simp only[tz k];cases y:t.swap q.m 6 q.who with
   |none=>simp only;rw[ck (by simp)];rfl
   |some z=>simp only;rw[ck (by simp)];rfl
  .rw[aT (by simpa using k),qG S i]
   simp only[ck k];cases y:t.swap q.m 8 q.who with
   |none=>simp only;rw[ck (by simp)];rfl
   |some z=>rfl
 |eO=>rw[vG (by omega) S s,Kh s,ck (by simp)];rfl
 |again=>
  by_cases k:q.m.ep=t.ep
  .rw[aI (by simpa using k),tz k,tz rfl]
  .rw[aT (by simpa using k),ck k,ck (by simp)];rfl
 |done=>exact tA h u
end Yq
namespace Yq
def aP(c:Cn)(s:Ms)(w n:Nat)(R:Go.Sx.Rows)(r:Nat->Option Value)(b a:Int):Xq:=⟨c,s.m,s.now,s.wo,w,s.ws w,n,R,r,b,a⟩
structure TkR(c:Cn)(t:Tk):Prop where
 nd:t.st≠.done
 own:t.st=.own->oI t.look 0
 any:t.st=.any->oI t.look 1
 free:t.st=.free->oI t.look 2
 move:t.st=.move->oI t.look 0
 dD:t.st=.dD->vF t.look 0
 at_:t.st=.gp\/t.st=.anyS\/t.st=.dQ\/t.st=.dD->t.look.at_<c.S
 i:t.st=.bM\/t.st=.back\/t.st=.grant\/t.st=.eG->t.i<c.S
 go:t.st=.go->t.rt.st=.swap\/t.rt.st=.iI->t.rt.i<c.S
def Xc{q}{t}{g}(S:q.c.S<=1000)(R:TkR q.c t):dJ q t g:=by
 cases h:t.st with
 |closed=>exact BL h
 |own=>exact Oc S h (R.own h)
 |any=>exact Od S h (R.any h)
 |free=>exact JQ S h (R.free h)
 |move=>exact JP S h (R.move h)
 |gp=>exact JO S h (R.at_ (.inl h))
 |anyS=>exact JU S h (R.at_ (.inr (.inl h)))
 |dQ=>exact Fe S h (R.at_ (.inr (.inr (.inl h))))
 |dD=>exact Fa S h (R.at_ (.inr (.inr (.inr h)))) (R.dD h)
 |bM=>exact JR S h (R.i (.inl h))
 |check=>exact Ff h
 |back=>exact JS S h (R.i (.inr (.inl h)))
 |go=>exact af6 h (R.go h)
 |grant=>exact Fb S h (R.i (.inr (.inr (.inl h))))
 |eG=>exact BK S h (R.i (.inr (.inr (.inr h))))
 |done=>exact tA h R.nd
def uQ(c:Cn)(m:Mm)(w:Nat)(x:Wr):Prop:=
 match x.ph with
 | .pin (some _)=>x.ask.op<8/\x.grant<=1000
 | .work (.get t)=>TkR c t
 | .work (.give g)=>(g.st=.rest->0<=g.i/\g.i<c.S)/\(g.st=.go->g.rt.st=.swap\/g.rt.st=.iI->g.rt.i<c.S)/\g.st≠.done
 | .work (.bg s)=>(s.st=.swap->0<=s.i/\s.i<c.S)/\s.st≠.done
 | .work (.close (some u))=>zI c 0 u/\(u.st=.head\/u.st=.pop\/u.st=.tell)
 | .work (.aS r)=>(r.st=.look->oI r.look 6)/\(r.st≠.look->vF r.look 6/\r.look.at_<c.S)/\(r.st=.dB->r.rt.st=.swap\/r.rt.st=.iI->r.rt.i<c.S)
 | .enters u=>zI c w u/\u.st≠.done
 | .leaves u=>zI c w u/\u.st≠.done
 | .ax t _ _=>TdR c m t/\t.st≠.done
 | .parked _=>zI c w Qu.leave
 | .wakes none=>False
 | .work (.stats _)| .counts _=>False
 |_=>True
variable{c:Cn} {s:Ms} {w n:Nat} {R:Go.Sx.Rows} {f:Nat->Option Value} {l o:Int}
def jy{m}{p}:(aP c s w n R f l o).to m p=aP c ((s.mem m).put w ((s.ws w).to p)) w n R f l o:=by
 unfold aP Xq.to;rw[bD];rfl
def xz{m}{a}:(aP c s w n R f l o).fin m a=aP c ((s.mem m).put w ((s.ws w).end_ a)) w n R f l o:=by
 unfold aP Xq.fin;rw[bD];rfl
def yes(r:Option RQ):Option (Bool×RQ):=r.map λr=>(true,r)
theorem iV{a}:(M.bind a λr=>M.ret (true,r)).get=yes a.get:=by
 rw[M.get_bind];cases a.get<;>rfl
def aif(s a:Ms)(n:Nat)(R:Go.Sx.Rows)(b:Nat)(d:Go.Sx.Rows)(l:Int):Prop:=
 (a.ev=s.ev/\b=n/\d=R)\/∃e,a.ev=e::s.ev/\e.ended=true/\b=n+1/\d=eY (n+1) (evV e.who l e.ask e.ans) R
def iD(c:Cn)(s:Ms)(w n:Nat)(R:Go.Sx.Rows)(f:Nat->Option Value)(l o:Int):Prop:=
 ∃a b,(fK (aP c s w n R f l o)).get=yes (same (aP c (ai c s w) w a b f l o))/\aif s (ai c s w) n R a b l
theorem ja{s'}(a:ai c s w=s')(e:s'.ev=s.ev)(h:(fK (aP c s w n R f l o)).get=yes (same (aP c s' w n R f l o))):iD c s w n R f l o:=
 ⟨n,R,by rw[a];exact h,.inl ⟨by rw[a];exact e,rfl,rfl⟩⟩
def SV{r}:zQ (aP c s w n R f l o) r=aP c (if r.1.st=.done then(if r.1.e=3 then(if(s.ws w).ask.wait then(s.mem r.2).put w ((s.ws w).to (.enters Qu.enter))else(s.mem r.2).put w ((s.ws w).to (.counts Tw.new)))
  else if r.1.e=0 then(s.mem r.2).put w ((s.ws w).end_ ⟨0,r.1.i,r.1.gen,0,0,0,0,0⟩)else(s.mem r.2).put w ((s.ws w).end_ (.err r.1.e)))else(s.mem r.2).put w ((s.ws w).to (.work (.get r.1)))) w n R f l o:=by
 unfold zQ;simp only[show(aP c s w n R f l o).x=s.ws w from rfl]
 repeat' split
 all_goals first|exact jy|exact xz
def agd{t}(S:c.S<=1000)(h:(s.ws w).ph=.work (.get t))(r:TkR c t):iD c s w n R f l o:=by
 have x:(aP c s w n R f l o).x.ph=.work (.get t):=h;by_cases d:t.st=.bM
 .have e:(fK (aP c s w n R f l o)).get=yes (lG {aP c s w n R f l o with wo:=s.wo.tail} t (xD s.wo)).get:=by
   unfold fK;simp only[x,d];exact iV
  have b:s.next=(xD s.wo,s.wo.tail):=by unfold Ms.next xD;cases s.wo<;>rfl
  have a:=Xc (q:={aP c s w n R f l o with wo:=s.wo.tail}) (g:=xD s.wo) S r;refine ja (s':=ai c s w) rfl ?_ ?_
  .unfold ai;simp only[h];unfold ak;simp only[d,if_true]
   repeat' split
   all_goals rfl
  .rw[e,a]
   congr 2;unfold ai;simp only[h];unfold ak;simp only[d,if_true,decide_true,Bool.true_and,b];exact SV (s:={s with wo:=s.wo.tail})
 .have e:(fK (aP c s w n R f l o)).get=yes (lG (aP c s w n R f l o) t false).get:=by
   unfold fK;simp only[x];exact iV
  have a:=Xc (q:=aP c s w n R f l o) (g:=false) S r;refine ja (s':=ai c s w) rfl ?_ ?_
  .unfold ai;simp only[h];unfold ak;simp only[d,jj]
   repeat' split
   all_goals rfl
  .rw[e,a]
   congr 2;unfold ai;simp only[h];unfold ak;simp only[d,jj,decide_false,Bool.false_and];exact SV
def aft{r}:Ec (aP c s w n R f l o) r=aP c (if r.1.st=.done then(s.mem r.2).put w ((s.ws w).end_ (.err r.1.e))else(s.mem r.2).put w ((s.ws w).to (.work (.give r.1)))) w n R f l o:=by
 unfold Ec;split
 .exact xz
 .exact jy
def aep{g}(S:c.S<=1000)(h:(s.ws w).ph=.work (.give g))(r:(g.st=.rest->0<=g.i/\g.i<c.S)/\(g.st=.go->g.rt.st=.swap\/g.rt.st=.iI->g.rt.i<c.S)/\g.st≠.done):iD c s w n R f l o:=by
 have x:(aP c s w n R f l o).x.ph=.work (.give g):=h;have e:(fK (aP c s w n R f l o)).get=yes (NQ (aP c s w n R f l o) g).get:=by
  unfold fK;simp only[x];exact iV
 have a:=ahH (q:=aP c s w n R f l o) S r.1 r.2.1 r.2.2;refine ja (s':=ai c s w) rfl ?_ ?_
 .unfold ai;simp only[h];unfold ak;simp only
  split<;>rfl
 .rw[e,a]
  congr 2;unfold ai;simp only[h];exact aft
def aer{r}:zU (aP c s w n R f l o) r=aP c (if r.1.st=.done then(s.mem r.2).put w ((s.ws w).end_ ⟨r.1.e,0,0,if r.1.e=0 then r.1.num else 0,0,0,0,0⟩)else(s.mem r.2).put w ((s.ws w).to (.work (.bg r.1)))) w n R f l o:=by
 unfold zU;by_cases h:r.1.st=.done
 .rw[tz h,tz h];exact xz
 .rw[ck h,ck h];exact jy
def ael{g}(S:c.S<=1000)(a:∀i,i<c.S->Facts (s.m.sl i))(h:(s.ws w).ph=.work (.bg g))(r:(g.st=.swap->0<=g.i/\g.i<c.S)/\g.st≠.done):iD c s w n R f l o:=by
 have x:(aP c s w n R f l o).x.ph=.work (.bg g):=h;have e:(fK (aP c s w n R f l o)).get=yes (Nz (aP c s w n R f l o) g).get:=by
  unfold fK;simp only[x];exact iV
 have b:=agh (q:=aP c s w n R f l o) S a r.1 r.2;refine ja (s':=ai c s w) rfl ?_ ?_
 .unfold ai;simp only[h];unfold ak;simp only
  split<;>rfl
 .rw[e,b]
  congr 2;unfold ai;simp only[h];exact aer
theorem SB{x}{k}:(ak c w s x k).ev=s.ev:=by
 unfold ak;cases k with
 |get t=>simp only;repeat' split
         all_goals rfl
 |give g=>simp only;split<;>rfl
 |bg g=>simp only;split<;>rfl
 |close d=>cases d with
  |none=>rfl
  |some u=>simp only;split<;>rfl
 |stats t=>simp only;split<;>rfl
 |aS r=>simp only;repeat' split
        all_goals rfl
def aem{r}(S:c.S<=1000)(p:(s.ws w).ph=.work (.aS r))(d:(r.st=.look->oI r.look 6)/\(r.st≠.look->vF r.look 6/\r.look.at_<c.S)/\(r.st=.dB->r.rt.st=.swap\/r.rt.st=.iI->r.rt.i<c.S)):iD c s w n R f l o:=by
 have x:(aP c s w n R f l o).x.ph=.work (.aS r):=p;have e:(fK (aP c s w n R f l o)).get=yes (ND (aP c s w n R f l o) r).get:=by
  unfold fK;simp only[x];exact iV
 have i:=uh (q:=aP c s w n R f l o) S d.1 d.2.1 d.2.2;have m:s.next=(xD s.wo,s.wo.tail):=by unfold Ms.next xD;cases s.wo<;>rfl
 have k:NC (aP c s w n R f l o) r=aP c (ai c s w) w n R f l o:=by
  unfold ai;simp only[p];unfold ak NC;cases h:r.st with
  |look=>
   simp only[h];show(if(r.look.step c.S s.m).fd.isSome then _ else if(r.look.step c.S s.m).all c.S then _ else _)=_;by_cases a:(r.look.step c.S s.m).fd.isSome
   .rw[tz a,tz a];exact jy
   .rw[ck a,ck a]
    by_cases b:(r.look.step c.S s.m).all c.S
    .rw[tz b,tz b];exact xz
    .rw[ck b,ck b];exact jy
  |ask=>
   simp only[h,m];show(if xD s.wo=true/\r.look.wd.fO=false/\r.look.wd.brk=false then _ else _)=_;by_cases a:xD s.wo=true/\r.look.wd.fO=false/\r.look.wd.brk=false
   .rw[tz a,tz a];exact jy (s:={s with wo:=s.wo.tail})
   .rw[ck a,ck a];exact jy (s:={s with wo:=s.wo.tail})
  |mark=>
   simp only[h];show(match az r.look.wd 10 w 0 with|some n=>if s.m.sl r.look.at_=r.look.wd then _ else _|none=>_)=_;cases x:az r.look.wd 10 w 0 with
   |none=>exact jy
   |some y=>
    simp only;by_cases a:s.m.sl r.look.at_=r.look.wd
    .rw[tz a,tz a];exact jy
    .rw[ck a,ck a];exact jy
  |dB=>
   simp only[h];show(if(r.rt.step s.m).1.st=.done then _ else _)=_;by_cases a:(r.rt.step s.m).1.st=.done
   .rw[tz a,tz a];exact jy
   .rw[ck a,ck a];exact jy
 refine ja rfl ?_ (by rw[e,i,k]);unfold ai;simp only[p];exact SB
end Yq
namespace Yq
variable{c:Cn} {s:Ms} {w n:Nat} {R:Go.Sx.Rows} {rest:Nat->Option Value} {aj at_:Int}
def aeo(h:(s.ws w).ph=.pin none):iD c s w n R rest aj at_:=by
 have x:(aP c s w n R rest aj at_).x.ph=.pin none:=h;have a:ai c s w=s.put w ((s.ws w).to (.pin (some s.m.ep))):=by grind [ai]
 refine ja a rfl ?_;unfold fK;simp only[x];rw[iV,jE,jy];rfl
def ZN{q}{m}(h:q.x.ask.op<8)(d:q.x.grant<=1000):(QS q m).get=same (q.to m (.work (bE q.x))):=by
 unfold QS bE;cases b:q.x.ask with
 |mk o a f i l e bg=>
  rw[b]at h;match o,h with
  |0,_=>
   simp only;by_cases k:q.x.grant>0
   .rw[aI (by simpa using k),tz k,fA ⟨by omega,by omega⟩]
    show some _=some _;congr 2;show(⟨_,((q.x.grant-1)),_,_⟩:Ex)=⟨_,(((q.x.grant-1).toNat:Nat):Int),_,_⟩;rw[j8 (by omega)];rfl
   .rw[aT (by simpa using k),ck k];rfl
  |1,_=>rfl
  |2,_=>rfl
  |3,_=>rfl
  |4,_=>rfl
  |5,_=>rfl
  |6,_=>rfl
  |7,_=>rfl
theorem aen{e}(W:c.W<=1000)(S:c.S<=1000)(h:w<c.W)(p:(s.ws w).ph=.pin (some e))(r:(s.ws w).ask.op<8/\(s.ws w).grant<=1000):iD c s w n R rest aj at_:=by
 have x:(aP c s w n R rest aj at_).x.ph=.pin (some e):=p;have a:ai c s w=(s.mem (s.m.pin w (aR (e+1)))).put w ((s.ws w).to (.work (bE (s.ws w)))):=by grind [ai]
 refine ja a rfl ?_;unfold fK;simp only[x];have b:∀F:Nat->M (Bool×RQ),(vU (aP c s w n R rest aj at_).c 3 ((aP c s w n R rest aj at_).who:Int) F).get=(F (w+3)).get:=λF=>vG W S h;rw[b];have d:∀F:Mm->M (Bool×RQ),(pM (aP c s w n R rest aj at_).c (aP c s w n R rest aj at_).m (w+3) (aR (e+1)) F).get=(F (s.m.pin w (aR (e+1)))).get:=λF=>Kh h;rw[d,iV,ZN r.1 r.2,jy];rfl
def XC(h:(s.ws w).ph=.work (.close none)):iD c s w n R rest aj at_:=by
 have x:(aP c s w n R rest aj at_).x.ph=.work (.close none):=h;have d:ai c s w=(s.mem (if(s.ws w).ask.force then{s.m with cl:=2}else if s.m.cl=0 then{s.m with cl:=1}else s.m)).put w ((s.ws w).to (.work (.close (some Qu.drain)))):=by unfold ai;simp only[h];rfl
 refine ja d rfl ?_;unfold fK;simp only[x];by_cases a:(s.ws w).ask.force=true
 .rw[aI (show(aP c s w n R rest aj at_).x.ask.force=true from a),iV,jE,jy,tz a];rfl
 .rw[aT (show(aP c s w n R rest aj at_).x.ask.force=false by show(s.ws w).ask.force=false;simpa using a),ck a]
  by_cases b:s.m.cl=0
  .rw[aI (by show(s.m.cl==0)=true;simpa using b),iV,jE,jy,tz b];rfl
  .rw[aT (by show(s.m.cl==0)=false;simpa using b),iV,jE,jy,ck b];rfl
def XB{u}(W:c.W<=14)(S:c.S<=1000)(q:ku c s.m.qu)(h:(s.ws w).ph=.work (.close (some u)))(r:zI c 0 u/\u.st≠.done)(b:(u.step c 0 s.m)=u.step c w s.m):iD c s w n R rest aj at_:=by
 have x:(aP c s w n R rest aj at_).x.ph=.work (.close (some u)):=h;refine ja rfl (by grind [ai,SB]) ?_;unfold fK;simp only[x];rw[iV];congr 1;refine(OY W S q r.1 r.2).trans ?_;rw[b];unfold ai ak;simp only[h];by_cases a:(u.step c w s.m).1.st=.done
 .rw[tz a,tz a,jE,xz]
 .rw[ck a,ck a,jE,jy]
def aaC{g}(W:c.W<=1000)(S:c.S<=1000)(h:w<c.W)(p:(s.ws w).ph=.wakes (some g)):iD c s w n R rest aj at_:=by
 have x:(aP c s w n R rest aj at_).x.ph=.wakes (some g):=p;have a:ai c s w=if g<0 then(s.mem (s.m.nT w 0)).put w ((s.ws w).end_ (.err 5))else(s.mem (s.m.nT w 0)).put w {(s.ws w)with grant:=g,ph:=.pin none}:=by grind [ai,dh]
 refine ja a (by split<;>rfl) ?_;unfold fK GG;simp only[x];rw[iV];have b:∀F:Nat->M RQ,(vU (aP c s w n R rest aj at_).c (3+(aP c s w n R rest aj at_).c.W) ((aP c s w n R rest aj at_).who:Int) F).get=(F (w+(3+c.W))).get:=λF=>vG W S h;rw[b];have d:∀F:Mm->M RQ,(pM (aP c s w n R rest aj at_).c (aP c s w n R rest aj at_).m (w+(3+c.W)) 0 F).get=(F (s.m.nT w 0)).get:=λF=>Ki h;rw[d];by_cases k:g<0
 .rw[aI (by simpa using k),tz k,jE,xz]
 .rw[aT (by simpa using k),ck k,jE]
  unfold aP Xq.to;rw[bD];rfl
def Mf{u}(W:c.W<=14)(S:c.S<=1000)(q:ku c s.m.qu)(h:zI c w u/\u.st≠.done):(D8 (aP c s w n R rest aj at_) u).get=same (aP c (aV c w s (s.ws w) u) w n R rest aj at_)/\(aV c w s (s.ws w) u).ev=s.ev:=by
 unfold D8 aV;refine⟨(OY W S q h.1 h.2).trans ?_,?_⟩
 .by_cases a:(u.step c w s.m).1.st=.done
  .simp only[tz a]
   by_cases b:(u.step c w s.m).1.e=8
   .rw[aI (by grind),jE,tz b]
    exact tI same jy
   .rw[aT (by grind),jE,ck b]
    exact tI same xz
  .simp only[ck a]
   exact tI same jy
 .simp only
  repeat' split
  all_goals rfl
def Xy{u}(h:c.W<=14)(S:c.S<=1000)(q:ku c s.m.qu)(p:(s.ws w).ph=.leaves u)(r:zI c w u/\u.st≠.done):iD c s w n R rest aj at_:=by
 have x:(aP c s w n R rest aj at_).x.ph=.leaves u:=p;have a:ai c s w=aV c w s (s.ws w) u:=by grind [ai]
 have l:=Mf (n:=n) (R:=R) (rest:=rest) (aj:=aj) (at_:=at_) h S q r;grind [fK,ja,iV]
def Xz{u}(W:c.W<=14)(S:c.S<=1000)(q:ku c s.m.qu)(p:(s.ws w).ph=.enters u)(r:zI c w u/\u.st≠.done):iD c s w n R rest aj at_:=by
 have x:(aP c s w n R rest aj at_).x.ph=.enters u:=p
 refine ja (s':=ai c s w) rfl (by unfold ai;simp only[p];repeat' split
                                  all_goals rfl) ?_
 unfold fK;simp only[x];rw[iV];congr 1;refine(OY W S q r.1 r.2).trans ?_;unfold ai;simp only[p];by_cases a:(u.step c w s.m).1.st=.done
 .simp only[tz a]
  have e:((u.step c w s.m).1.e==0)=decide ((u.step c w s.m).1.e=0):=by
   by_cases h:(u.step c w s.m).1.e=0<;>simp[h]
  by_cases b:(u.step c w s.m).1.e=0
  .rw[aT (by simpa using b),tz (.inl b),jE]
   refine(tI same jy).trans ?_;rw[e]
  .rw[aI (by simpa using b)]
   by_cases d:(u.step c w s.m).1.e=8
   .rw[aT (by simpa using d),tz (.inr d),jE]
    refine(tI same jy).trans ?_;rw[e]
   .rw[aI (by simpa using d),ck (fun k=>k.elim b d),jE]
    exact tI same xz
 .simp only[ck a]
  exact tI same jy
def Xw{t}{p}{d}(W:c.W<=14)(S:c.S<=1000)(k:w<c.W)(l:ku c s.m.qu)(m:fG (n+2)=true)(o:mh R.ks wN=true)(e:(s.ws w).ph=.ax t p d)(r:TdR c s.m t/\t.st≠.done):iD c s w n R rest aj at_:=by
 have x:(aP c s w n R rest aj at_).x.ph=.ax t p d:=e;have f:∀i,(tdQ (aP c s w n R rest aj at_) t p d i).get=if(t.step c w s.m).1.st=.done then(i (t.step c w s.m).2).get else same (UD (aP c s w n R rest aj at_) p d (t.step c w s.m)):=λi=>agc (q:=aP c s w n R rest aj at_) W k S l r.1 r.2
 by_cases a:(t.step c w s.m).1.st=.done
 .cases p with
  |some b=>
   have h:ai c s w=(s.mem (t.step c w s.m).2).put w ((s.ws w).to (.parked b)):=by unfold ai;simp only[e];rw[tz a]
   refine ja h rfl ?_;unfold fK Dy;simp only[x];rw[iV,f,tz a,jE,jy]
  |none=>
   have h:ai c s w={(s.mem (t.step c w s.m).2).put w ((s.ws w).to .rest)with ev:=⟨true,w,(s.ws w).ask,d⟩::s.ev}:=by unfold ai;simp only[e];rw[tz a];rfl
   refine⟨n+1,eY (n+1) (evV w aj (s.ws w).ask d) R,?_,.inr ⟨_,by rw[h],rfl,rfl,rfl⟩⟩;rw[h];unfold fK Dy;simp only[x];rw[iV,f,tz a,aI (ju _),aI (by show(fG (n+2)&&mh R.ks wN)=true;rw[m,o];rfl),jE];unfold aP Xq.to;rw[show({(s.mem (t.step c w s.m).2).put w ((s.ws w).to .rest)with ev:=⟨true,w,(s.ws w).ask,d⟩::s.ev}:Ms).ws w=(s.ws w).to .rest from bD _ _];rfl
 .have h:ai c s w=(s.mem (t.step c w s.m).2).put w ((s.ws w).to (.ax (t.step c w s.m).1 p d)):=by unfold ai;simp only[e];rw[ck a]
  refine ja h rfl ?_;unfold fK Dy;simp only[x];rw[iV,f,ck a];congr 2;exact jy
def uG{α}{F:Int->M α}(W:c.W<=14)(h:c.S<=1000)(a:w<c.W):(IC (aP c s w n R rest aj at_) F).get=(F (s.m.gr w)).get:=by
 unfold IC;have b:∀F:Nat->M α,(vU (aP c s w n R rest aj at_).c (3+(aP c s w n R rest aj at_).c.W) ((aP c s w n R rest aj at_).who:Int) F).get=(F (w+(3+c.W))).get:=λF=>vG (show c.W<=1000 by omega) h a;rw[b,aI]
 .rfl
 .show gu (Int.ofNat (w+(3+c.W))) (3+2*c.W+c.S)=true
  grind [gu]
def Xx{b}(W:c.W<=14)(S:c.S<=1000)(a:w<c.W)(q:ku c s.m.qu)(p:(s.ws w).ph=.parked b)(f:aQ s w):iD c s w n R rest aj at_:=by
 have x:(aP c s w n R rest aj at_).x.ph=.parked b:=p;have f:s.m.gr w≠0\/b=true/\(s.ws w).ask.dl<=s.now:=by grind [aQ]
 have i:zI c w Qu.leave/\Qu.leave.st≠.done:=by
  refine⟨⟨λh=> ?_,λh=> ?_,λh=> ?_,λh=> ?_⟩,λh=> ?_⟩
  .rcases h with h|h|h<;>exact JK.noConfusion h
  all_goals exact JK.noConfusion h
 have l:=Mf (n:=n) (R:=R) (rest:=rest) (aj:=aj) (at_:=at_) W S q i;by_cases k:s.m.gr w=0
 .obtain⟨m,d⟩:=f.resolve_left (fun h=>h k)
  have e:ai c s w=aV c w s (s.ws w) Qu.leave:=by unfold ai;simp only[p];rw[ck (λh=>h k)]
  refine ja e l.2 ?_;unfold fK;simp only[x];rw[uG W S a,aT (by simpa using k),aI m,aT (by show(!decide (s.now>=(s.ws w).ask.dl))=false;simpa using d),uG W S a,aT (by simpa using k),iV,l.1]
 .have e:ai c s w=s.put w ((s.ws w).to (.wakes (some (s.m.gr w)))):=by unfold ai dh;simp only[p];rw[tz k]
  refine ja e rfl ?_;unfold fK;simp only[x];rw[uG W S a,aI (by simpa using k),uG W S a,aI (by simpa using k),iV];unfold GG;have o:∀F:Nat->M RQ,(vU ((aP c s w n R rest aj at_).to (aP c s w n R rest aj at_).m (.wakes none)).c (3+((aP c s w n R rest aj at_).to (aP c s w n R rest aj at_).m (.wakes none)).c.W) (((aP c s w n R rest aj at_).to (aP c s w n R rest aj at_).m (.wakes none)).who:Int) F).get=(F (w+(3+c.W))).get:=λF=>vG (show c.W<=1000 by omega) S a;rw[o];have r:∀F:Int->M RQ,(tN ((aP c s w n R rest aj at_).to (aP c s w n R rest aj at_).m (.wakes none)).c ((aP c s w n R rest aj at_).to (aP c s w n R rest aj at_).m (.wakes none)).m (w+(3+c.W)) F).get=(F (s.m.gr w)).get:=λF=>acp a;rw[r,jE];unfold aP Xq.to;rw[bD];rfl
def aiR(W:c.W<=14)(S:c.S<=1000)(d:w<c.W)(a:¬aQ s w):(fK (aP c s w n R rest aj at_)).get=some (false,(aP c s w n R rest aj at_,(aP c s w n R rest aj at_).ex)):=by
 unfold aQ at a;cases p:(s.ws w).ph with
 |rest=>
  have x:(aP c s w n R rest aj at_).x.ph=.rest:=p;unfold fK;simp only[x];rfl
 |parked b=>
  simp only[p]at a;have x:(aP c s w n R rest aj at_).x.ph=.parked b:=p;have k:=cv λh=>a (.inl h);unfold fK;simp only[x];rw[uG W S d,aT (by simpa using k)];cases b with
  |false=>rfl
  |true=>
   have e:=λh=>a (.inr ⟨rfl,h⟩);rw[aI rfl,aI (by show(!decide (s.now>=(s.ws w).ask.dl))=true;simpa using e)];rfl
 |_=>simp[p]at a
def step_ok(W:c.W<=14)(S:c.S<=1000)(l:w<c.W)(q:ku c s.m.qu)(o:∀i,i<c.S->Facts (s.m.sl i))(v:fG (n+2)=true)(x:mh R.ks wN=true)(f:uQ c s.m w (s.ws w))(y:aQ s w):iD c s w n R rest aj at_:=by
 unfold uQ at f;cases a:(s.ws w).ph with
 |rest=>grind [aQ]
 |pin h=>cases h with
  |none=>exact aeo a
  |some e=>grind [aen]
 |work k=>cases k with
  |get t=>simp only[a]at f;exact agd S a f
  |give g=>simp only[a]at f;exact aep S a f
  |bg g=>simp only[a]at f;exact ael S o a f
  |close d=>cases d with
   |none=>exact XC a
   |some u=>
    simp only[a]at f;obtain⟨z,m⟩:=f;refine XB W S q a ⟨z,?_⟩ ?_
    .rcases m with h|h|h<;>rw[h]<;>exact λk=>JK.noConfusion k
    .unfold Qu.step
     rcases m with h|h|h<;>simp only[h]
  |stats t=>simp[a]at f
  |aS r=>simp only[a]at f;exact aem S a f
 |counts t=>simp[a]at f
 |enters u=>simp only[a]at f;exact Xz W S q a f
 |leaves u=>simp only[a]at f;exact Xy W S q a f
 |ax t p A=>simp only[a]at f;exact Xw W S l q v x a f
 |parked b=>exact Xx W S l q a y
 |wakes h=>cases h with
  |none=>simp[a]at f
  |some g=>exact aaC (by omega) S l a
end Yq
namespace Yq
variable{α:Type} {c:Cn} {m:Mm} {s:Ms} {w n:Nat} {R:Go.Sx.Rows} {rest:Nat->Option Value} {aj at_:Int} {t:Tw}
structure Q0(c:Cn)(t:Tw):Prop where
 dn:t.dn=false
 rd:t.rd.length<c.S
 n:(t.n=0/\t.last=none)\/(0<t.n/\∃l,t.last=some l)
 nb:t.n<=4000000000000000000
 f1:∀x∈t.rd,Facts x
 f2:∀x∈t.last.getD [],Facts x
def CR{l:List Int}{k:Nat}{F:M α}(h:k=l.length):(wJ l k F).get=F.get:=by
 grind [wJ,aI,Nat.beq_refl]
def DY{i:Ti}{G:M α->M α}{F:M α}(h:(G F).get=F.get):(tF i G F).get=F.get:=by
 grind [tF]
def Xk:Xl (Ti.of t)=t.rd.length:=by
 unfold Xl Ti.of;cases t.rd<;>rfl
def af8:Xj (Ti.of t)=t.rd.length+1:=by
 unfold Xj Ti.of;cases t.rd<;>rfl
def Xh:Xi m (Ti.of t)=(t.rd++[m.sl t.rd.length]).map bH:=by
 unfold Xi;rw[Xk,qP];rfl
def DF{L:List Int}{F:M α}(h:L.length<=1000):(Bj L F).get=F.get:=by
 unfold Bj;simp_all
def ag7{F:M α}:(laQ (Ti.of t) F).get=F.get:=by
 unfold laQ Ti.of;cases t.last with
 |none=>rfl
 |some l=>exact CR (by simp)
theorem Pw:∀{a b:List aa},(∀x∈a,Facts x)->(∀x∈b,Facts x)->a.map bH=b.map bH->a=b
 |[],[],_,_,_=>rfl
 |[],y::b,_,_,h=>by simp at h
 |x::a,[],_,_,h=>by simp at h
 |x::a,y::b,e,f,h=>by
  simp only[oc,iS]at h;rw[SC (e x cV) (f y cV) h.1,Pw (λz d=>e z (da _ d)) (λz d=>f z (da _ d)) h.2]
def Xf{d:Bool}(h:t.n<=4000000000000000000):Xg m (Ti.of t) d=Ti.of ⟨[],some (t.rd++[m.sl t.rd.length]),d,t.n+1⟩:=by
 unfold Xg;rw[Xh];show(⟨[],0,_,_,d,aR ((t.n:Int)+1)⟩:Ti)=⟨[],0,_,_,d,((t.n+1:Nat):Int)⟩;rw[fA ⟨by omega,by omega⟩];simp
def Xe{f}{no:Ti->M α}{yes}(S:c.S<=1000)(R:Q0 c t)(v:∀i,i<c.S->Facts (m.sl i)):
  (tiQ f c m (Ti.of t) no yes).get=if(t.rd++[m.sl t.rd.length]).length<c.S then(no (Ti.of {t with rd:=t.rd++[m.sl t.rd.length]})).get
   else if t.last=some (t.rd++[m.sl t.rd.length])then(yes ((t.rd++[m.sl t.rd.length]).map bH)).get else(no (Ti.of ⟨[],some (t.rd++[m.sl t.rd.length]),false,t.n+1⟩)).get:=by
 have B:(t.rd++[m.sl t.rd.length]).length=t.rd.length+1:=by simp
 have q:∀x∈t.rd++[m.sl t.rd.length],Facts x:=λx o=>by
  rcases eS.1 o with o|o
  .exact R.f1 x o
  .rw[cY.1 o];exact v _ R.rd
 unfold tiQ;simp only[Xk,Xh,af8];rw[mX S R.rd,qm R.rd];have y:∀F:M α,(tF (Ti.of t) (λF=>wJ (Ti.of t).rd (Ti.of t).rl (.br (fG ((Ti.of t).rl+1)) F .bad)) F).get=F.get:=λF=>by
  refine DY ?_;rw[CR (by unfold Ti.of;simp),aI];unfold fG Ti.of;have:=R.rd;simp;omega
 rw[y];by_cases k:(t.rd++[m.sl t.rd.length]).length<c.S
 .rw[aI (by simp at k ⊢;omega),tz k]
  congr 2;unfold Ti.of;simp
 .rw[aT (by simp at k ⊢;omega),ck k]
  have a:((t.rd++[m.sl t.rd.length]).map bH).length<=1000:=by have:=R.rd;simp;omega
  have b:∀F:M α,(tF (Ti.of t) (wJ ((t.rd++[m.sl t.rd.length]).map bH) (t.rd.length+1)) F).get=F.get:=λF=>DY (CR (by simp));rcases R.n with⟨C,z⟩|⟨D,l,d⟩
  .rw[aT (by unfold Ti.of;simp;omega),b,DF a,ck (by rw[z];simp),Xf R.nb]
  .rw[aI (by unfold Ti.of;simp;omega),b,ag7,DF a,b,DF a]
   have u:∀F:M α,(tF (Ti.of t) (wJ ((t.rd++[m.sl t.rd.length]).map bH) (((t.rd++[m.sl t.rd.length]).map bH).tail.length+1)) F).get=F.get:=λF=>DY (CR (by simp));have p:(Ti.of t).last.getD []=l.map bH:=by unfold Ti.of;rw[d];rfl
   rw[p];by_cases e:t.last=some (t.rd++[m.sl t.rd.length])
   .have A:l=t.rd++[m.sl t.rd.length]:=by rw[d]at e;exact b9 e
    have r:((t.rd++[m.sl t.rd.length]).map bH==l.map bH)=true:=by rw[A];simp
    rw[tz e,r];cases f with
    |true=>simp only[pN];rw[aT (show(!true)=false from rfl),aT (show(!true)=false from rfl),u,DF a]
    |false=>simp only[oS];rw[aI rfl,aT (show(!true)=false from rfl),u,DF a]
   .have r:((t.rd++[m.sl t.rd.length]).map bH==l.map bH)=false:=by
     rw[j0];intro h;have:=Pw q (λx o=>R.f2 x (by rw[d];exact o)) h;exact e (by rw[d,this])
    rw[ck e,r, <-Xf R.nb];cases f with
    |true=>simp only[pN];rw[aI (show(!false)=true from rfl)]
    |false=>simp only[oS];rw[aT rfl]
def Aa{x}:aP c (s.put w x) w n R rest aj at_={aP c s w n R rest aj at_ with x:=x}:=by
 unfold aP;rw[bD];rfl
def afE{l}(h:∀x∈l,Facts x):fH (l.map bH)=Eh l:=by
 unfold fH;rw[List.map_map];congr 1;conv=>rhs;rw[<-List.map_id l]
 refine List.map_congr_left λx a=> ?_;show iN (jf (bH x))=x;rw[AR (h x a)];rfl
theorem QU{yes no:M α}:∀{l:List aa},(∀x∈l,Facts x)->(Lf (l.map bH) yes no).get=if∃y∈l,fits 3 w y then yes.get else no.get
 |[],_=>by rfl
 |x::l,h=>by
  have a:=AR (h x cV);show(M.br (jf (bH x)).isSome (.br (kI (iN (jf (bH x))) 3 0) yes (Lf (l.map bH) yes no)) (Lf (l.map bH) yes no)).get=_;rw[a,aI (show(some x).isSome=true from rfl)];have f:kI (iN (some x)) 3 0=true↔fits 3 w x:=Gc (by decide);by_cases k:fits 3 w x
  .simp_all
  .rw[aT (by grind),QU (fun y b=>h y (da _ b))]
   simp_all
def acU(R:Q0 c t):t.step c.S m=if(t.rd++[m.sl t.rd.length]).length<c.S then{t with rd:=t.rd++[m.sl t.rd.length]}else⟨[],some (t.rd++[m.sl t.rd.length]),decide (t.last=some (t.rd++[m.sl t.rd.length])),t.n+1⟩:=by
 unfold Tw.step;rw[R.dn];grind
def Oa(R:Q0 c t)(f:∀i,i<c.S->Facts (m.sl i)):∀x∈t.rd++[m.sl t.rd.length],Facts x:=λx h=>by
 rcases eS.1 h with h|h
 .exact R.f1 x h
 .rw[cY.1 h];exact f _ R.rd
def aaD(S:c.S<=1000)(f:∀i,i<c.S->Facts (s.m.sl i))(p:(s.ws w).ph=.work (.stats t))(h:Q0 c t):(OB (aP c s w n R rest aj at_) (Ti.of t)).get=some (fq (aP c (ai c s w) w n R rest aj at_).tick)/\(ai c s w).ev=s.ev:=by
 have d:ai c s w=if(t.step c.S s.m).dn then s.put w ((s.ws w).end_ ⟨0,0,0,0,Eh ((t.step c.S s.m).last.getD [])⟩)else s.put w ((s.ws w).to (.work (.stats (t.step c.S s.m)))):=by unfold ai;simp only[p];rfl
 have F:=Oa h f;refine⟨?_,by rw[d];split<;>rfl⟩;refine(Xe S h f).trans ?_;rw[d,acU h];by_cases k:(t.rd++[s.m.sl t.rd.length]).length<c.S
 .rw[tz k,tz k,ck (by rw[h.dn];decide),Aa];rfl
 .rw[ck k,ck k]
  by_cases e:t.last=some (t.rd++[s.m.sl t.rd.length])
  .rw[tz e,tz (by simpa using e),Aa]
   have l:=afE F;have b:∀F:M (List Go.Sx.ag),((match(t.rd++[s.m.sl t.rd.length]).map bH with|[]=>id|_::o=>tF (Ti.of t) (wJ ((t.rd++[s.m.sl t.rd.length]).map bH) (o.length+1))) F).get=F.get:=λF=>by
    cases x:(t.rd++[s.m.sl t.rd.length]).map bH with
    |nil=>rfl
    |cons a r=>exact DY (CR (by simp))
   refine(b _).trans ?_;rw[DF (by have:=h.rd;simp;omega)];rw[l];rfl
  .rw[ck e,ck (by simpa using e),Aa,cT e];rfl
def XA(S:c.S<=1000)(f:∀i,i<c.S->Facts (s.m.sl i))(p:(s.ws w).ph=.counts t)(r:Q0 c t):(K6 (aP c s w n R rest aj at_) (Ti.of t)).get=some (fq (aP c (ai c s w) w n R rest aj at_).tick)/\(ai c s w).ev=s.ev:=by
 have a:ai c s w=if(t.step c.S s.m).dn then(if∃y∈(t.step c.S s.m).last.getD [],fits 3 w y then s.put w ((s.ws w).to (.work (.get Tk.new)))else s.put w ((s.ws w).end_ (.err 3)))else s.put w ((s.ws w).to (.counts (t.step c.S s.m))):=by grind [ai]
 have F:=Oa r f
 refine⟨?_,by rw[a];repeat' split
              all_goals rfl⟩
 refine(Xe S r f).trans ?_;rw[a,acU r];by_cases k:(t.rd++[s.m.sl t.rd.length]).length<c.S
 .rw[tz k,tz k,ck (by rw[r.dn];decide),Aa];rfl
 .rw[ck k,ck k]
  by_cases e:t.last=some (t.rd++[s.m.sl t.rd.length])
  .rw[tz e,tz (by simpa using e),QU F]
   show _=some (fq (aP c (if∃y∈t.rd++[s.m.sl t.rd.length],fits 3 w y then _ else _) w n R rest aj at_).tick);by_cases h:∃y∈t.rd++[s.m.sl t.rd.length],fits 3 w y
   .rw[tz h,tz h,Aa];rfl
   .rw[ck h,ck h,Aa];rfl
  .rw[ck e,ck (by simpa using e),Aa,cT e];rfl
end Yq
namespace Yq
variable{c:Cn} {m:Mm} {w:Nat}
def IM{S}{f:Fd}:(f.step S m).kd=f.kd:=by
 unfold Fd.step;repeat' split
 all_goals rfl
def NP{f:Fd}:f.go.kd=f.kd:=by unfold Fd.go;split<;>rfl
def rA(t:Tk):Prop:=
 match t.st with
 | .gp| .anyS| .dQ=>t.look.fd.isSome=true
 | .move| .dD=>t.look.kd=0
 |_=>True
def gX{t}(h:t.st≠.gp/\t.st≠.anyS/\t.st≠.dQ/\t.st≠.move/\t.st≠.dD):rA t:=by
 unfold rA;cases s:t.st<;>simp_all
def aal{S}{g}{t}(N:rA t):rA (t.step w S m g).1:=by
 unfold Tk.step;cases h:t.st with
 |closed=>simp only;split<;>exact gX (by simp[Tk.fin,Tk.search])
 |own=>
  simp only;split
  .rename_i k;exact k
  .split
   .exact gX (by simp[Tk.search])
   .exact gX (by simp[h])
 |any=>
  simp only;split
  .rename_i k;exact k
  .split
   .exact gX (by simp[Tk.search])
   .exact gX (by simp[h])
 |free=>
  simp only;split
  .rename_i k;exact k
  .split
   .exact gX (by simp[Tk.fin])
   .exact gX (by simp[h])
 |gp=>simp only;split<;>exact gX (by simp)
 |dQ=>simp only;split<;>exact gX (by simp)
 |anyS=>
  simp only;split
  .split
   .exact gX (by simp)
   .exact(rfl:(0:Nat)=0)
  .exact gX (by simp)
 |move=>
  unfold rA at N;rw[h]at N;have N:t.look.kd=0:=N;simp only;split
  .split
   .show rA _
    unfold rA;simp only[h];rw[NP,IM];exact N
   .show rA _
    unfold rA;simp only;rw[IM];exact N
  .split
   .exact gX (by simp)
   .show rA _
    unfold rA;simp only[h];rw[IM];exact N
 |dD=>
  unfold rA at N;rw[h]at N;have N:t.look.kd=0:=N;have go:∀a:Mm,rA (({t with look:=t.look.go,st:=.move}:Tk),a).1:=λa=>by
   unfold rA;simp only;rw[NP];exact N
  simp only;repeat' split
  all_goals exact go m
 |bM=>
  simp only;repeat' split
  all_goals exact gX (by simp[Tk.fin])
 |check=>simp only;split<;>exact gX (by simp[Tk.fin])
 |back=>simp only;split<;>exact gX (by simp[Tk.fin])
 |go=>
  simp only;repeat' split
  all_goals exact gX (by simp[Tk.fin,h])
 |grant=>exact gX (by simp)
 |eG=>
  simp only;repeat' split
  all_goals refine gX ?_
  all_goals simp[Tk.fin]
  all_goals split<;>simp
 |done=>exact gX (by simp[h])
def af5{t}(T:pW c w t)(N:rA t)(d:t.st≠.done):TkR c t:=by
 unfold pW at T;unfold rA at N;refine⟨d,λh=> ?_,λh=> ?_,λh=> ?_,λh=> ?_,λh=> ?_,λh=> ?_,λh=> ?_,λh k=> ?_⟩
 .rw[h]at T;exact⟨T.2,T.1⟩
 .rw[h]at T;exact⟨T.2,T.1⟩
 .rw[h]at T;exact⟨T.2,T.1⟩
 .rw[h]at T N;exact⟨N,T.1⟩
 .rw[h]at T N;exact⟨N,cP.1 T.2.2⟩
 .rcases h with h|h|h|h<;>rw[h]at T<;>exact T.1
 .rcases h with h|h|h|h<;>rw[h]at T<;>exact T
 .rw[h]at T;exact T.1.1
def GvN(c:Cn)(g:Gv):Prop:=g.st=.rest->0<=g.i/\g.i<c.S
def abV{g}(N:GvN c g):GvN c (g.step c w m).1:=by
 unfold Gv.step;cases h:g.st with
 |closed=>simp only;split<;>exact λk=>pg.noConfusion k
 |look=>
  simp only;split
  .rename_i r
   split
   .exact λk=>pg.noConfusion k
   .split
    .exact λk=>pg.noConfusion k
    .split
     .exact λk=>pg.noConfusion k
     .exact λ_=>r
  .exact λk=>pg.noConfusion k
 |rest=>
  simp only;repeat' split
  all_goals exact λk=>pg.noConfusion k
 |go=>
  simp only;split
  .split<;>exact λk=>pg.noConfusion k
  .exact λk=>by simp[h]at k
 |done=>exact λk=>by simp[h]at k
def SmN(c:Cn)(g:Sm):Prop:=g.st=.swap->0<=g.i/\g.i<c.S
def aaE{g}(N:SmN c g):SmN c (g.step c w m).1:=by
 unfold Sm.step;cases h:g.st with
 |closed=>simp only;split<;>exact λk=>wV.noConfusion k
 |look=>
  simp only;split
  .rename_i r
   split
   .exact λk=>wV.noConfusion k
   .split
    .exact λk=>wV.noConfusion k
    .split
     .exact λk=>wV.noConfusion k
     .exact λ_=>r
  .exact λk=>wV.noConfusion k
 |swap=>simp only;split<;>exact λk=>wV.noConfusion k
 |done=>exact λk=>by simp[h]at k
def EZ(c:Cn)(q:Qu):Prop:=
 match q.st with
 | .push| .drop=>ku c q.ln
 | .pop=>ku c q.ln/\q.first<c.W
 | .tell=>q.first<c.W
 |_=>True
def mI{q}(h:q.st≠.push/\q.st≠.drop/\q.st≠.pop/\q.st≠.tell):EZ c q:=by
 unfold EZ;cases s:q.st<;>simp_all
def FH{q}(b:ku c m.qu)(N:EZ c q):EZ c (q.step c w m).1:=by
 unfold Qu.step;cases h:q.st with
 |come=>
  simp only;split
  .exact mI (by simp[Qu.fin])
  .exact b
 |push=>simp only;split<;>exact mI (by simp)
 |closed=>simp only;split<;>exact mI (by simp[Qu.fin])
 |look=>
  simp only;split
  .exact b
  .exact mI (by simp[Qu.fin])
 |drop=>simp only;split<;>exact mI (by simp[Qu.fin])
 |head=>
  simp only;cases x:m.qu with
  |nil=>exact mI (by simp[Qu.fin])
  |cons a r=>
   rw[x]at b;exact⟨b,b.2 a cV⟩
 |pop=>
  unfold EZ at N;rw[h]at N;simp only;split
  .exact N.2
  .exact mI (by simp)
 |tell=>exact mI (by simp)
 |done=>exact mI (by simp[h])
def Cj{q}(N:EZ c q)(a:q.st=.push->w<c.W/\w∉q.ln)(b:q.st=.drop->w∈q.ln):zI c w q:=by
 unfold EZ at N;refine⟨λh=> ?_,a,b,λh=> ?_⟩
 .rcases h with h|h|h<;>rw[h]at N
  .exact N
  .exact N
  .exact N.1
 .rw[h]at N;exact N
def jU(c:Cn)(t:Td):Prop:=
 match t.st with
 | .old| .pins| .clear=>t.look.kd=5
 | .go=>t.look.fd.isSome=true
 | .some=>t.head<c.W/\ku c t.qu
 | .keep=>t.look.fd.isSome=true/\t.head<c.W/\ku c t.qu
 | .pop=>t.head<c.W/\ku c t.qu
 | .grant=>t.head<c.W
 |_=>True
def jZ{t}(h:t.st≠.old/\t.st≠.pins/\t.st≠.clear/\t.st≠.go/\t.st≠.some/\t.st≠.keep/\t.st≠.pop/\t.st≠.grant):jU c t:=by
 unfold jU;cases s:t.st<;>simp_all
def aey{S}{t:Td}:(t.fu S m).look.kd=t.look.kd/\(t.fu S m).head=t.head/\(t.fu S m).qu=t.qu/\(t.fu S m).st=t.st:=by
 cases h:(t.look.step S m).fd with
 |none=>rw[jQ h];exact⟨IM,rfl,rfl,rfl⟩
 |some x=>rw[jP rfl h];exact⟨IM,rfl,rfl,rfl⟩
def aap{t}(q:ku c m.qu)(N:jU c t):jU c (t.step c w m).1:=by
 obtain⟨d,f,i,b⟩:=aey (S:=c.S) (m:=m) (t:=t);unfold jU at N;unfold Td.step;cases h:t.st with
 |ep=>exact jZ (by simp)
 |pin=>exact jZ (by simp)
 |cl=>exact jZ (by simp)
 |dL=>
  simp only;split
  .rename_i k;exact k
  .split
   .exact(rfl:(5:Nat)=5)
   .exact jZ (by simp[b,h])
 |go=>
  rw[h]at N;simp only;split
  .exact jZ (by simp)
  .show jU c _
   unfold jU;simp only[h];exact N
 |old=>
  rw[h]at N;have N:t.look.kd=5:=N;simp only;split
  .show jU c _
   unfold jU;simp only;split<;>first|trivial|(rw[d];exact N)|(rename_i e;split at e<;>cases e)
  .split
   .show jU c _
    unfold jU;simp only;split<;>first|trivial|(rename_i e;split at e<;>cases e)
   .show jU c _
    unfold jU;rw[b,h];simp only;rw[d];exact N
 |pins=>
  rw[h]at N;have N:t.look.kd=5:=N;simp only;split
  .show jU c _
   unfold jU;simp only;rw[NP];exact N
  .show jU c _
   unfold jU;simp only;split<;>first|trivial|exact N|(rename_i e;split at e<;>cases e)
 |clear=>
  rw[h]at N;have N:t.look.kd=5:=N;show jU c _;unfold jU;simp only;rw[NP];exact N
 |line=>
  simp only;cases x:m.qu with
  |nil=>exact jZ (by simp)
  |cons a r=>
   rw[x]at q;exact⟨q.2 a cV,q⟩
 |some=>
  rw[h]at N;simp only;split
  .rename_i k
   show jU c _;unfold jU;simp only;rw[f,i];exact⟨k,N⟩
  .split
   .exact jZ (by simp)
   .show jU c _
    unfold jU;rw[b,h];simp only;rw[f,i];exact N
 |keep=>
  rw[h]at N;simp only;cases s:t.swap m (if t.wd.st=2 then 5 else 7) t.head with
  |some l=>exact N.2
  |none=>exact N.2
 |pop=>
  rw[h]at N;simp only;split
  .exact N.1
  .exact jZ (by simp)
 |grant=>exact jZ (by simp)
 |back=>
  show jU c _;unfold jU;simp only;split<;>first|trivial|(rename_i e;split at e<;>cases e)
 |dR=>
  simp only;cases s:t.swap m (if t.wd.st=4 then 6 else 8) w with
  |some l=>exact jZ (by simp)
  |none=>exact jZ (by simp)
 |eO=>exact jZ (by simp)
 |again=>
  show jU c _;unfold jU;simp only;split<;>first|trivial|(rename_i e;split at e<;>cases e)
 |done=>exact jZ (by simp[h])
end Yq
namespace Yq
variable{c:Cn} {m:Mm} {s:Ms} {w K:Nat}
structure MM(S K:Nat)(t:Tw):Prop where
 ls:∀l,t.last=some l->l.length=S
 n:(t.n=0/\t.last=none)\/(0<t.n/\∃l,t.last=some l)
 nb:t.n<=K
 f1:∀x∈t.rd,Facts x
 f2:∀x∈t.last.getD [],Facts x
def SH{S}:MM S K Tw.new:=⟨λl h=>by simp[Tw.new]at h,.inl ⟨rfl,rfl⟩,tE _,λx a=>by simp[Tw.new]at a,λx a=>by simp[Tw.new]at a⟩
def N9{t}(T:Bb c t)(N:MM c.S K t)(f:∀i,i<c.S->Facts (m.sl i)):MM c.S (K+1) (t.step c.S m):=by
 have F:∀x∈t.rd++[m.sl t.rd.length],Facts x:=λx h=>by
  rcases eS.1 h with h|h
  .exact N.f1 x h
  .rw[cY.1 h];exact f _ T.2
 have n:=N.nb;unfold Tw.step;rw[T.1,ck (by decide)];simp only;split
 .exact⟨N.ls,N.n,by grind,F,N.f2⟩
 .exact⟨λl a=>by
   have:=T.2;grind,.inr ⟨Nat.succ_pos _,_,rfl⟩,by show t.n+1<=K+1;omega,λx h=>by simp at h,F⟩
def Dp(c:Cn)(K:Nat)(x:Wr):Prop:=
 x.ask.op<8/\match x.ph with
 | .work (.get t)=>rA t
 | .work (.give g)=>GvN c g
 | .work (.bg g)=>SmN c g
 | .work (.close (some u))=>EZ c u
 | .enters u| .leaves u=>EZ c u
 | .ax t _ _=>jU c t
 | .work (.stats t)| .counts t=>MM c.S K t
 |_=>True
def NY{a}{x}(h:K<=a)(N:Dp c K x):Dp c a x:=by
 refine⟨N.1,?_⟩;have b:=N.2;have d:∀t,MM c.S K t->MM c.S a t:=λt T=>⟨T.ls,T.n,eM T.nb h,T.f1,T.f2⟩;grind
def mP{x:Wr}{a}(h:x.ask.op<8):Dp c K (x.end_ a):=⟨h,jZ (by simp[Td.new])⟩
def WN{x:Wr}(h:x.ask.op<8):Dp c K (x.to (.work (bE x))):=by
 have k:x.ask.op=0\/x.ask.op=1\/x.ask.op=2\/x.ask.op=3\/x.ask.op=4\/x.ask.op=5\/x.ask.op=6\/x.ask.op=7:=by omega
 rcases k with k|k|k|k|k|k|k|k
 .have e:bE x=.get (if x.grant>0 then Tk.granted (x.grant-1).toNat else Tk.new):=by unfold bE;rw[k];rfl
  rw[e];split<;>exact⟨h,gX (by simp[Tk.granted,Tk.new])⟩
 .have e:bE x=.give (Gv.new x.ask.slot x.ask.gen false):=by unfold bE;rw[k];rfl
  rw[e];exact⟨h,λk=>pg.noConfusion k⟩
 .have e:bE x=.give (Gv.new x.ask.slot x.ask.gen true):=by unfold bE;rw[k];rfl
  rw[e];exact⟨h,λk=>pg.noConfusion k⟩
 .have e:bE x=.bg (Sm.new true x.ask.slot x.ask.gen 0):=by unfold bE;rw[k];rfl
  rw[e];exact⟨h,λk=>wV.noConfusion k⟩
 .have e:bE x=.bg (Sm.new false x.ask.slot x.ask.gen x.ask.bg):=by unfold bE;rw[k];rfl
  rw[e];exact⟨h,λk=>wV.noConfusion k⟩
 .have e:bE x=.aS ⟨.look,Fd.new 6 0,0,Rt.new 0 aa.zero⟩:=by unfold bE;rw[k];rfl
  rw[e];exact⟨h,trivial⟩
 .have e:bE x=.close none:=by unfold bE;rw[k];rfl
  rw[e];exact⟨h,trivial⟩
 .have e:bE x=.stats Tw.new:=by unfold bE;rw[k];rfl
  rw[e];exact⟨h,SH⟩
def Lp{x}{u}(h:x.ask.op<8)(q:ku c s.m.qu)(N:EZ c u):Dp c K ((aV c w s x u).ws w):=by
 unfold aV;simp only;split
 .split
  .rw[bD];exact⟨h,trivial⟩
  .rw[bD];exact mP h
 .rw[bD];exact⟨h,FH q N⟩
def Z4(q:ku c s.m.qu)(n:∀i,i<c.S->Facts (s.m.sl i))(W:jO c w (s.ws w))(N:Dp c K (s.ws w)):Dp c (K+1) ((ai c s w).ws w):=by
 obtain⟨h,l⟩:=N;unfold jO at W;unfold ai;cases f:(s.ws w).ph with
 |rest=>simp only[f];exact⟨h,by rw[f];trivial⟩
 |pin e=>cases e with
  |none=>simp only[f];rw[bD];exact⟨h,trivial⟩
  |some e=>simp only[f];rw[bD];exact WN h
 |work k=>
  rw[f]at l W;simp only[f];unfold ak;cases k with
  |get t=>
   simp only;repeat' split
   all_goals rw[bD]
   all_goals first|exact mP h|exact⟨h,aal l⟩|exact⟨h,SH⟩|exact⟨h,mI (by simp[Qu.enter])⟩
  |give g=>
   simp only;split<;>rw[bD]
   .exact mP h
   .exact⟨h,abV l⟩
  |bg g=>
   simp only;split<;>rw[bD]
   .exact mP h
   .exact⟨h,aaE l⟩
  |close d=>cases d with
   |none=>simp only;rw[bD];exact⟨h,mI (by simp[Qu.drain])⟩
   |some u=>
    simp only;split<;>rw[bD]
    .exact mP h
    .exact⟨h,FH q l⟩
  |stats t=>
   simp only;split<;>rw[bD]
   .exact mP h
   .exact⟨h,N9 W l n⟩
  |aS r=>
   simp only;repeat' split
   all_goals rw[bD]
   all_goals first|exact mP h|exact⟨h,trivial⟩
 |counts t=>
  rw[f]at l W;simp only[f];split
  .split<;>rw[bD]
   .exact⟨h,gX (by simp[Tk.new])⟩
   .exact mP h
  .rw[bD];exact⟨h,N9 W l n⟩
 |enters u=>
  rw[f]at l;simp only[f];split
  .split<;>rw[bD]
   .exact⟨h,jZ (by simp[Td.new])⟩
   .exact mP h
  .rw[bD];exact⟨h,FH q l⟩
 |ax t p a=>
  rw[f]at l;simp only[f];split
  .cases p with
   |some b=>simp only;rw[bD];exact⟨h,trivial⟩
   |none=>
    show Dp c (K+1) (((s.mem _).put w ((s.ws w).to .rest)).ws w);rw[bD];exact⟨h,trivial⟩
  .rw[bD];exact⟨h,aap q l⟩
 |parked b=>
  simp only[f];split
  .unfold dh;simp only;rw[bD];exact⟨h,trivial⟩
  .exact Lp h q (mI (by simp[Qu.leave]))
 |wakes g=>
  simp only[f];unfold dh;cases g with
  |none=>rw[bD];exact⟨h,trivial⟩
  |some g=>simp only;split<;>rw[bD]
           .exact mP h
           .exact⟨h,trivial⟩
 |leaves u=>
  rw[f]at l;simp only[f];exact Lp h q l
def vC{f}{k}(h:f.kd=k)(a:f.fd.isSome=true):vF f k:=⟨h,cP.1 a⟩
def aew{t}{x}(p:x.ph=.work (.get t))(T:pW c w t)(N:rA t)(d:t.st≠.done):o8 x:=by
 unfold o8;simp only[p];unfold pW at T;unfold rA at N;cases h:t.st with
 |own=>rw[h]at T;exact⟨T.2,T.1⟩
 |any=>rw[h]at T;exact⟨T.2,T.1⟩
 |free=>rw[h]at T;exact⟨T.2,T.1⟩
 |gp=>rw[h]at T N;exact vC T.2.1 N
 |anyS=>rw[h]at T N;exact vC T.2.1 N
 |dQ=>rw[h]at T N;exact vC T.2.1 N
 |move=>rw[h]at T N;exact⟨N,T.1⟩
 |dD=>rw[h]at T N;exact vC N T.2.2
 |go=>rw[h]at T;exact T.1.2
 |done=>exact tA h d
 |_=>trivial
def af9{t}(a:w<c.W)(T:pX c t)(N:jU c t)(p:∀i,m.pn i<=9223372036854775807):TdR c m t:=by
 unfold pX at T;unfold jU at N;refine⟨λh=> ?_,λh _=> ?_,λh=> ?_,λh=> ?_,λh=> ?_,λh=> ?_,λh=> ?_,λh=> ?_,λh=> ?_,p⟩
 .rw[h]at T;exact⟨T.2,T.1⟩
 .rw[h]at T;exact T.1.1
 .rw[h]at T N;exact⟨N,T⟩
 .rcases h with h|h<;>rw[h]at T N
  .exact⟨vC N T.1,T.2.1,by rw[T.2.2.1];exact T.2.1⟩
  .exact⟨vC N T.1,T.2.1,by rw[T.2.2];exact T.2.1⟩
 .rw[h]at T;exact T.2.2.2
 .rw[h]at T;exact⟨T.2.2.2,T.1⟩
 .rcases h with h|h|h|h<;>rw[h]at T
  .rw[T.2.1];exact T.1
  .exact T
  .exact T
  .exact T.1
 .rw[h]at N;exact N
 .rw[h]at N;exact N.2
def UR{t}{x}{p}{a}(b:x.ph=.ax t p a)(T:pX c t)(N:jU c t)(d:t.st≠.done):o8 x:=by
 unfold o8;simp only[b];unfold pX at T;unfold jU at N;cases h:t.st with
 |dL=>rw[h]at T;exact⟨T.2,T.1⟩
 |go=>rw[h]at T N;exact⟨vC T.2.2 N,T.1.2⟩
 |old=>rw[h]at T N;exact⟨N,T⟩
 |pins=>rw[h]at T N;exact vC N T.1
 |clear=>rw[h]at T N;exact vC N T.1
 |some=>rw[h]at T;exact⟨T.2.2.2,T.1⟩
 |keep=>rw[h]at T N;exact vC T.2.2.2.2.1 N.1
 |done=>exact tA h d
 |_=>trivial
def agv{x:Wr}(n:w<c.W)(S:c.S<=1000)(W:jO c w x)(N:Dp c K x)(o:∀i,m.pn i<=9223372036854775807)(q:∀t,x.ph≠.work (.stats t))(z:∀t,x.ph≠.counts t):uQ c m w x/\o8 x:=by
 obtain⟨A,N⟩:=N;unfold jO at W;cases f:x.ph with
 |rest=>grind [uQ,o8]
 |pin e=>
  grind [uQ,o8]
 |counts t=>grind
 |work k=>
  rw[f]at W N;cases k with
  |get t=>
   have W:pW c w t/\t.st≠.done:=W;refine⟨?_,aew f W.1 N W.2⟩;unfold uQ;simp only[f];exact af5 W.1 N W.2
  |give g=>
   have W:yJ c w g/\g.st≠.done:=W;have l:=W.1;unfold yJ at l;unfold uQ o8;simp only[f];refine⟨⟨N,λh _=> ?_,W.2⟩,?_⟩
   .rw[h]at l;exact l.1
   .cases h:g.st with
    |go=>rw[h]at l;exact l.2
    |done=>exact tA h W.2
    |_=>trivial
  |bg g=>
   have W:Bc c w g/\g.st≠.done:=W;unfold uQ o8;simp only[f];exact⟨⟨N,W.2⟩,W.2⟩
  |close d=>cases d with
   |none=>unfold uQ o8;simp only[f];exact⟨trivial,trivial⟩
   |some u=>
    have W:Du u:=W;unfold Du at W;unfold uQ o8;simp only[f];cases h:u.st<;>rw[h]at W<;>first|exact tA W id|skip
    .exact⟨⟨Cj N (λk=>by rw[h]at k;cases k) (λk=>by rw[h]at k;cases k),.inl rfl⟩,trivial⟩
    .exact⟨⟨Cj N (λk=>by rw[h]at k;cases k) (λk=>by rw[h]at k;cases k),.inr (.inl rfl)⟩,trivial⟩
    .exact⟨⟨Cj N (λk=>by rw[h]at k;cases k) (λk=>by rw[h]at k;cases k),.inr (.inr rfl)⟩,trivial⟩
  |stats t=>exact tA f (q t)
  |aS r=>
   have W:Q5 c r:=W;unfold Q5 at W;unfold uQ o8;simp only[f];cases h:r.st with
   |look=>rw[h]at W;exact⟨⟨λ_=>⟨W.2,W.1⟩,λk=>tA rfl k,λk=>MO.noConfusion k⟩,⟨W.2,W.1⟩⟩
   |ask=>rw[h]at W;exact⟨⟨λk=>MO.noConfusion k,λ_=>⟨vC W.2.1 W.1,W.2.2.1⟩,λk=>MO.noConfusion k⟩,vC W.2.1 W.1⟩
   |mark=>rw[h]at W;exact⟨⟨λk=>MO.noConfusion k,λ_=>⟨vC W.2.1 W.1,W.2.2⟩,λk=>MO.noConfusion k⟩,vC W.2.1 W.1⟩
   |dB=>rw[h]at W;exact⟨⟨λk=>MO.noConfusion k,λ_=>⟨vC W.2.1 W.1,W.2.2.1⟩,λ_ _=>W.2.2.2.1⟩,vC W.2.1 W.1,W.2.2.2.2⟩
 |enters u=>
  rw[f]at W N;have W:Dt w u:=W;unfold Dt at W;have v:u.st≠.done:=λh=>by rw[h]at W;exact W
  have R:zI c w u:=Cj N (λh=>⟨n,by rw[h]at W;exact W⟩) (λh=>by rw[h]at W;exact W);unfold uQ o8;simp only[f];refine⟨⟨R,v⟩,?_⟩;cases h:u.st<;>rw[h]at W<;>first|exact trivial|exact W
 |leaves u=>
  rw[f]at W N;have W:Dr w u:=W
  have R:zI c w u:=Cj N (λh=>by rcases W.1 with k|⟨k,_⟩<;>rw[h]at k<;>cases k) (λh=>by
   rcases W.1 with k|⟨_,k⟩
   .rw[h]at k;cases k
   .exact k)
  unfold uQ o8;simp only[f];rcases W.1 with k|⟨k,_⟩
  .exact⟨⟨R,by rw[k];exact λh=>JK.noConfusion h⟩,by rw[k];trivial⟩
  .exact⟨⟨R,by rw[k];exact λh=>JK.noConfusion h⟩,by rw[k];trivial⟩
 |ax t p a=>
  rw[f]at W N;have W:pX c t/\t.st≠.done:=W;refine⟨?_,UR f W.1 N W.2⟩;unfold uQ;simp only[f];exact⟨af9 n W.1 N o,W.2⟩
 |parked b=>
  unfold uQ o8;simp only[f];refine⟨⟨λh=> ?_,λh=> ?_,λh=> ?_,λh=> ?_⟩,trivial⟩
  .rcases h with h|h|h<;>exact JK.noConfusion h
  all_goals exact JK.noConfusion h
 |wakes g=>
  rw[f]at W;obtain⟨y,rfl,_,_⟩:=W;unfold uQ o8;simp only[f];exact⟨trivial,trivial⟩
end Yq
namespace Yq
variable{c:Cn} {m:Mm} {s:Ms} {w K:Nat}
def NA{r:Rt}:(r.step m).2.pn=m.pn:=by
 unfold Rt.step;repeat' split
 all_goals rfl
theorem aai{t b:Tk}{a:Mm}{i:Nat}{e:aa}{d:Int}(h:t.swap w m i e d=some (b,a)):a.pn=m.pn:=by
 unfold Tk.swap at h;split at h
 .split at h
  .cases h;rfl
  .cases h
 .cases h
def aiE{S:Nat}{g:Bool}{t:Tk}:(t.step w S m g).2.pn=m.pn:=by
 unfold Tk.step;cases t.st<;>simp only
 all_goals repeat' split
 all_goals first|rfl|exact NA|grind [aai]
def ajz{g:Gv}:(g.step c w m).2.pn=m.pn:=by
 unfold Gv.step;cases g.st<;>simp only
 all_goals repeat' split
 all_goals first|rfl|exact NA
def aiU{g:Sm}:(g.step c w m).2.pn=m.pn:=by
 unfold Sm.step;cases g.st<;>simp only
 all_goals repeat' split
 all_goals rfl
def U4{q:Qu}:(q.step c w m).2.pn=m.pn:=by
 unfold Qu.step;all_goals repeat' split
 all_goals rfl
def vk(m:Mm):Prop:=∀i,m.pn i<=9223372036854775807
def O8{v:Int}{i:Nat}(h:vk m)(a:v<=9223372036854775807):vk (m.pin i v):=λj=>by
 show upd m.pn i v j<=_;unfold upd;split
 .exact a
 .exact h j
def WV(x:Int):aR x<=9223372036854775807:=by
 unfold aR IntKind.wrap;simp[IntKind.bits,IntKind.signed];split<;>omega
def Lt{t:Td}{a:Mm}{d own:Int}(h:t.swap m d own=some a):a.pn=m.pn:=by
 unfold Td.swap at h;split at h
 .split at h
  .cases h;rfl
  .cases h
 .cases h
def nu{a:Mm}(h:vk m)(e:a.pn=m.pn):vk a:=λi=>by rw[e];exact h i
def acZ{t:Td}(h:vk m):vk (t.step c w m).2:=by
 unfold Td.step;cases a:t.st<;>simp only
 all_goals repeat' split
 all_goals first|exact h|exact O8 h (WV _)|exact O8 h (by decide)|exact nu h NA|exact nu h rfl|exact nu h (Lt (by assumption))|skip
 all_goals cases x:t.swap m 12 w
 all_goals first|exact h|exact nu h (Lt x)
def O6{x:Wr}{u:Qu}(h:vk s.m):vk (aV c w s x u).m:=by
 unfold aV;simp only;repeat' split
 all_goals exact nu h U4
def aeI(h:vk s.m):vk (ai c s w).m:=by
 unfold ai;cases f:(s.ws w).ph with
 |rest=>simp only[f];exact h
 |pin e=>cases e with
  |none=>simp only[f];exact h
  |some e=>simp only[f];exact O8 h (WV _)
 |work k=>
  simp only[f];unfold ak;cases k with
  |get t=>
   simp only;repeat' split
   all_goals exact nu h aiE
  |give g=>simp only;split<;>exact nu h ajz
  |bg g=>simp only;split<;>exact nu h aiU
  |close d=>cases d with
   |none=>simp only;show vk (if _ then _ else _);repeat' split
          all_goals exact h
   |some u=>simp only;split<;>exact nu h U4
  |stats t=>simp only;split<;>exact h
  |aS r=>
   simp only;repeat' split
   all_goals first|exact h|exact nu h NA|exact nu h rfl
 |counts t=>
  simp only[f];repeat' split
  all_goals exact h
 |enters u=>
  simp only[f];repeat' split
  all_goals exact nu h U4
 |ax t p a=>
  simp only[f];split
  .cases p<;>exact acZ h
  .exact acZ h
 |parked b=>
  simp only[f];split
  .unfold dh;exact h
  .exact O6 h
 |wakes g=>
  simp only[f];unfold dh;cases g with
  |none=>exact h
  |some g=>simp only;split<;>exact nu h rfl
 |leaves u=>simp only[f];exact O6 h
structure Nx(c:Cn)(s:Ms)(K:Nat):Prop where
 all:All c s
 pn:vk s.m
 wr:∀i,i<c.W->Dp c K (s.ws i)
def Nx.ln(N:Nx c s K):ku c s.m.qu:=⟨N.all.nd,N.all.inv.m.2⟩
def aeS(W:c.W<=14)(S:1<=c.S)(h:w<c.W)(N:Nx c s K)(b:aQ s w):Nx c (ai c s w) (K+1):=by
 have I:=N.all.inv;refine⟨(Gu h (by omega) S N.all b).1,aeI N.pn,λi a=> ?_⟩;by_cases e:i=w
 .subst e
  exact Z4 N.ln I.m.1 (I.w i a) (N.wr i a)
 .have:=(BD h (by omega) S I.m I.g (I.w w h) b).2.2.2.1 i e
  rw[this];exact NY (Nat.le_succ K) (N.wr i a)
def ai9(W:c.W<=14)(S:1<=c.S)(N:Nx c s K)(x:En):Nx c (dX c s x).2 (K+1):=by
 have A:=QX N.all (by omega) S x;by_cases h:x.kind=1/\inW c x.who/\aQ s x.who.toNat
 .obtain⟨k,⟨a,d⟩,f⟩:=h
  have e:(dX c s x).2=ai c s x.who.toNat:=by
   unfold dX;rw[ck (by omega),tz k,tz ⟨⟨a,d⟩,f⟩]
  rw[e];exact aeS W S (by omega) N f
 .refine⟨A,?_,fun i l=> ?_⟩
  .unfold dX
   repeat' split
   all_goals first|exact N.pn|skip
   .exact tA ⟨by assumption,by assumption⟩ h
   .rename_i b
    unfold QN at b;simp only[ia]at b;obtain⟨n,_,rfl⟩:=b;exact nu N.pn rfl
  .have o:=NY (Nat.le_succ K) (N.wr i l)
   unfold dX;repeat' split
   all_goals first|exact o|skip
   .rename_i p
    obtain⟨⟨a,d⟩,_,_,q,r⟩:=p;show Dp c (K+1) (upd s.ws x.who.toNat _ i);unfold upd;split
    .exact⟨by show x.op.toNat<8;omega,trivial⟩
    .exact o
   .exact tA ⟨by assumption,by assumption⟩ h
def aeR:Nx c Ms.zero 0:=⟨all_zero,λi=>by show(0:Int)<=_;decide,λi h=>⟨by show(0:Nat)<8;decide,trivial⟩⟩
end Yq
namespace Yq
variable{c:Cn} {s:Ms} {w K n:Nat} {R:Go.Sx.Rows} {rest:Nat->Option Value} {aj at_:Int} {ea:Ask} {en:Int} {eg:Bool}
structure fZ(W w:Nat):Prop where
 walk:∀(q:Xq),q.c.W=W->q.who=w->o8 q.x->∀(ea:Ask) (en:Int) (eg:Bool),(o5 1 w ea en eg (fq q)).get=(FJ q).get
 stats:∀(q:Xq) (t:Ti),q.c.W=W->q.who=w->t.dn=false->∀(ea:Ask) (en:Int) (eg:Bool),(o5 1 w ea en eg (heapT q true t)).get=(Dz q t).get
 counts:∀(q:Xq) (t:Ti),q.c.W=W->q.who=w->t.dn=false->q.c.S<=5->t.rd.length<q.c.S->t.rl=t.rd.length->t.ll=(t.last.getD []).length->(t.last=none\/t.ll=q.c.S)->∀(ea:Ask) (en:Int) (eg:Bool),(o5 1 w ea en eg (heapT q false t)).get=(K9 q t).get
def aeK{q:Xq}(h:(fK (aP c s w n R rest aj at_)).get=yes (same q)):(FJ (aP c s w n R rest aj at_)).get=some (.bool true,fq q.tick):=by
 unfold FJ;rw[M.get_bind,h];rfl
def agH{q:Xq}(h:(fK q).get=some (false,(q,q.ex))):(FJ q).get=some (.bool false,fq q.tick):=by
 unfold FJ;rw[M.get_bind,h];rfl
def DU(k:fZ c.W w)(W:c.W<=14)(S:c.S<=1000)(h:w<c.W)(N:Nx c s K)(d:fG (n+2)=true)(e:mh R.ks wN=true)(f:∀t,(s.ws w).ph≠.work (.stats t))(i:∀t,(s.ws w).ph≠.counts t)(l:aQ s w):
  ∃a b,(o5 1 w ea en eg (fq (aP c s w n R rest aj at_))).get=some (.bool true,fq (aP c (ai c s w) w a b rest aj at_).tick)/\aif s (ai c s w) n R a b aj:=by
 obtain⟨r,m⟩:=agv h S (N.all.inv.w w h) (N.wr w h) N.pn f i;obtain⟨a,b,o,p⟩:=step_ok (n:=n) (R:=R) (rest:=rest) (aj:=aj) (at_:=at_) W S h N.ln N.all.inv.m.1 d e r l;exact⟨a,b,(k.walk _ rfl rfl m ea en eg).trans (aeK o),p⟩
def Ku(k:fZ c.W w)(W:c.W<=14)(S:c.S<=1000)(a:w<c.W)(h:¬aQ s w):
  (o5 1 w ea en eg (fq (aP c s w n R rest aj at_))).get=some (.bool false,fq (aP c s w n R rest aj at_).tick):=by
 have r:o8 (s.ws w):=by
  unfold aQ at h;unfold o8;cases p:(s.ws w).ph with
  |rest=>trivial
  |parked b=>trivial
  |_=>simp[p]at h
 exact(k.walk _ rfl rfl r ea en eg).trans (agH (aiR W S a h))
def Vd{t:Tw}(k:fZ c.W w)(S:c.S<=1000)(a:w<c.W)(b:K<=4000000000000000000)(N:Nx c s K)(h:(s.ws w).ph=.work (.stats t)):
  (o5 1 w ea en eg (fq (aP c s w n R rest aj at_))).get=some (.bool true,fq (aP c (ai c s w) w n R rest aj at_).tick)/\(ai c s w).ev=s.ev:=by
 have W:=N.all.inv.w w a;have T:=(N.wr w a).2;unfold jO at W;rw[h]at W T;have W:Bb c t:=W;have T:MM c.S K t:=T;have r:Q0 c t:=⟨W.1,W.2,T.n,eM T.nb b,T.f1,T.f2⟩;obtain⟨e,d⟩:=aaD (n:=n) (R:=R) (rest:=rest) (aj:=aj) (at_:=at_) S N.all.inv.m.1 h r;refine⟨?_,d⟩;have f:fq (aP c s w n R rest aj at_)=heapT (aP c s w n R rest aj at_) true (Ti.of t):=by
  show Ea _ (EU c (s.ws w).ph)=_;unfold Ea mZ;rw[show(aP c s w n R rest aj at_).x.ph=.work (.stats t)from h];rfl
 rw[f];refine(k.stats _ _ rfl rfl W.1 ea en eg).trans ?_;unfold Dz;rw[M.get_bind,e];rfl
def RA{t:Tw}(k:fZ c.W w)(S:c.S<=5)(a:w<c.W)(b:K<=4000000000000000000)(N:Nx c s K)(h:(s.ws w).ph=.counts t):
  (o5 1 w ea en eg (fq (aP c s w n R rest aj at_))).get=some (.bool true,fq (aP c (ai c s w) w n R rest aj at_).tick)/\(ai c s w).ev=s.ev:=by
 have W:=N.all.inv.w w a;have T:=(N.wr w a).2;unfold jO at W;rw[h]at W T;have W:Bb c t:=W;have T:MM c.S K t:=T;have r:Q0 c t:=⟨W.1,W.2,T.n,eM T.nb b,T.f1,T.f2⟩;obtain⟨e,d⟩:=XA (n:=n) (R:=R) (rest:=rest) (aj:=aj) (at_:=at_) (by omega) N.all.inv.m.1 h r;refine⟨?_,d⟩;have f:fq (aP c s w n R rest aj at_)=heapT (aP c s w n R rest aj at_) false (Ti.of t):=by
  show Ea _ (EU c (s.ws w).ph)=_;unfold Ea mZ;rw[show(aP c s w n R rest aj at_).x.ph=.counts t from h];rfl
 rw[f];refine(k.counts _ _ rfl rfl W.1 S (by show(t.rd.map bH).length<c.S;simpa using W.2) (by simp[Ti.of]) ?_ ?_ ea en eg).trans ?_
 .unfold Ti.of;cases t.last<;>simp
 .unfold Ti.of
  cases i:t.last with
  |none=>exact .inl rfl
  |some l=>exact .inr (T.ls l i)
 .unfold K9
  rw[M.get_bind,e];rfl
