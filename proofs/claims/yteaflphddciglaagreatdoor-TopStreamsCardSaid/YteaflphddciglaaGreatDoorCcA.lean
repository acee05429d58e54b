/- Group CcA: laws of the proof, joined. No condition of its own. -/
import Derived.Test.YteaflphddciglaaGreatDoorCbA
import Derived.Test.YteaflphddciglaaGreatDoorCaJ
import Derived.Test.YteaflphddciglaaGreatDoorCaI
import Derived.Test.YteaflphddciglaaGreatDoorCbB
set_option linter.unusedVariables false
set_option linter.unusedSimpArgs false
namespace Go.Proofs.YteaflphddciglaaGreatDoor
namespace bq
noncomputable section
open Go.RowKit Go.bn Go.Sx
def iM(c:Cn):Cf:=⟨c.W,c.S,c.st,c.wt,c.u⟩
def nC(c:Cn):Nat:=3+2*c.W+c.S
def au:List Nat->Int
 |[]=>0
 |a::r=>((a:Int)+1)+16*au r
def YP:Nat->Int->List Nat
 |0,_=>[]
 |f+1,q=>if q<=0 then []else(q%16-1).toNat::YP f (q/16)
def gH(q:Int):List Nat:=YP 16 q
def dZ(l:List Nat):Prop:=l.length<=15/\∀a∈l,a<=14
theorem l8:∀l:List Nat,0<=au l
 |[]=>Int.le_refl 0
 |a::r=>by have:=l8 r;unfold au;omega
theorem PM:∀(f:Nat) (l:List Nat),l.length<=f->(∀a∈l,a<=14)->YP f (au l)=l
 |0,l,h,_=>by
  have:l=[]:=List.eq_nil_of_length_eq_zero (by omega)
  subst this;rfl
 |f+1,[],_,_=>by unfold YP au;rfl
 |f+1,a::r,h,ha=>by
  have h0:=l8 r;have h1:=ha a List.mem_cons_self;unfold YP au;rw[if_neg (by omega)]
  have e1:((a:Int)+1+16*au r)%16-1=a:=by omega
  have e2:((a:Int)+1+16*au r)/16=au r:=by omega
  rw[e1,e2,PM f r (by simpa using h) (fun x hx=>ha x (List.mem_cons_of_mem _ hx)),Int.toNat_natCast]
theorem iG{l:List Nat}(h:dZ l):gH (au l)=l:=PM 16 l (by have:=h.1;omega) h.2
def aC(c:Cn)(m:Mm):List Int:=m.cl::au m.qu::m.ep::((List.range c.W).map m.pn++((List.range c.W).map m.gr++(List.range c.S).map fun i=>bH (m.sl i)))
theorem nE(c:Cn)(m:Mm):(aC c m).length=nC c:=by
 unfold aC nC;simp only[List.length_cons,List.length_append,List.length_map,List.length_range];omega
theorem bO(c:Cn)(m:Mm)(j:Nat):(aC c m)[j]?=if j=0 then some m.cl else if j=1 then some (au m.qu)else if j=2 then some m.ep else if j<3+c.W then some (m.pn (j-3))else
  if j<3+2*c.W then some (m.gr (j-(3+c.W)))else if j<3+2*c.W+c.S then some (bH (m.sl (j-(3+2*c.W))))else none:=by
 unfold aC;match j with
 |0=>rfl
 |1=>rfl
 |2=>rfl
 |j+3=>
  rw[if_neg (by omega),if_neg (by omega),if_neg (by omega)]
  simp only[List.getElem?_cons_succ];by_cases h1:j<c.W
  ·rw[if_pos (by omega),List.getElem?_append_left (by simpa using h1),List.getElem?_map,List.getElem?_range h1]
   rfl
  ·rw[if_neg (by omega),List.getElem?_append_right (by simp;omega)]
   simp only[List.length_map,List.length_range];by_cases h2:j<2*c.W
   ·rw[if_pos (by omega),List.getElem?_append_left (by simp;omega),List.getElem?_map,List.getElem?_range (by omega)]
    simp only[Option.map_some,Option.some.injEq];congr 1;omega
   ·rw[if_neg (by omega),List.getElem?_append_right (by simp;omega)]
    simp only[List.length_map,List.length_range];by_cases h3:j<2*c.W+c.S
    ·rw[if_pos (by omega),List.getElem?_map,List.getElem?_range (by omega)]
     simp only[Option.map_some,Option.some.injEq];congr 2;omega
    ·rw[if_neg (by omega),List.getElem?_eq_none (by simp;omega)]
theorem Z7{c:Cn}{m m':Mm}{i:Nat}{v:Int}(hi:i<nC c)(h:(aC c m')[i]?=some v)(ho:∀j,j≠i->(aC c m')[j]?=(aC c m)[j]?):(aC c m).set i v=aC c m':=by
 apply List.ext_getElem?;intro j;rw[List.getElem?_set,nE];by_cases e:i=j
 ·subst e;rw[if_pos rfl,if_pos hi,h]
 ·rw[if_neg e,ho j (Ne.symm e)]
structure lJ(c:Cn)(m:Mm):Prop where
 cf:fI (iM c)
 sl:∀i,i<c.S->Facts (m.sl i)
 qu:dZ m.qu
theorem lJ.ok{c:Cn}{m:Mm}(h:lJ c m):rM (nC c) (aC c m)=true:=by
 have h1:=h.cf.w;have h2:=h.cf.s;have h1:(1:Int)<=c.W/\(c.W:Int)<=8:=h1;have h2:(1:Int)<=c.S/\(c.S:Int)<=16:=h2;exact qi.2 ⟨(nE c m).symm,by unfold nC;omega,by unfold nC;omega⟩
theorem Io{c:Cn}{m:Mm}{i:Nat}{v:Int}(h:(aC c m)[i]?=some v):xL (nC c) (aC c m) i=v/\qo (nC c) i=true:=by
 have hi:i<nC c:=by rw[<-nE c m];exact(List.getElem?_eq_some_iff.1 h).1
 have hr:qo (nC c) (i:Int)=true:=by unfold qo;simp;omega
 refine⟨?_,hr⟩;unfold xL;rw[if_pos hr,Int.toNat_natCast,List.getD_eq_getElem?_getD,h];rfl
theorem DC{c:Cn}{m m':Mm}{i:Nat}{v:Int}(hi:i<nC c)(h:(aC c m')[i]?=some v)(ho:∀j,j≠i->(aC c m')[j]?=(aC c m)[j]?):vv (nC c) (aC c m) i v=aC c m':=by
 have hr:qo (nC c) (i:Int)=true:=by unfold qo;simp;omega
 unfold vv;rw[if_pos hr,Int.toNat_natCast];exact Z7 hi h ho
def GA(l:List Bool)(good bad:Int)(R:Go.Sx.Rows):List Go.Sx.ag:=
 [.cells true true [.pointer (some ⟨1,0,none⟩),.int .i64 good,.int .i64 bad],.cells true true [match l with|[]=>.slice none 0 0|_::_=>.slice (some ⟨2,0,some 1⟩) l.length 0,.int .i64 1000],match l with|[]=>.dead|_::_=>.rows true true 1 l.length R]
def WrR(l:List Bool)(R:Go.Sx.Rows):Prop:=R.ks=[.bo]/\∀i,i<l.length->R.gb i 0=l.getD i false
def rC(a:wZ)(F:Nat->Prop)(b:Nat)(w:World):Prop:=
 match a with
 | .mem c m=>lJ c m/\∃cp t,JH 0 (gq (nC c) cp t (aC c m)) F b w
 | .kL l=>∃good bad R,WrR l R/\JH 0 (GA l good bad R) F b w
 | .oL _ _ _ _=>False
 | .hld _ _ _ _=>False
theorem Iq(a:wZ)(F:Nat->Prop)(b:Nat)(w w':World)(h:rC a F b w)(hs:w.heap.size<=w'.heap.size)(hw:∀j,F j->w'.heap[j]?=w.heap[j]?):rC a F b w':=by
 cases a with
 |mem c m=>obtain⟨h1,cp,t,h2⟩:=h;exact⟨h1,cp,t,h2.st hs hw⟩
 |kL l=>obtain⟨g,b',R,h1,h2⟩:=h;exact⟨g,b',R,h1,h2.st hs hw⟩
 |oL c s A e=>exact h
 |hld _ _ _ _=>exact h
def nD:Kj:=⟨rC,Iq⟩
theorem nO{f:FuncId}{c:Cn}{m m':Mm}{rest pE:List Value}{v v2:Value}{Q:Prop}{k:Nat}(hp:rest.all aN=true)(hv:aN v=true)
  (hra:∀(σ:Nat->Option Pl) (args':Array Value),dY σ (.pointer (some ⟨k,0,none⟩)::pE).toArray args'->Q/\∃p,σ k=some p/\args'=(.pointer (some ⟨p.b,p.o+0,none⟩)::rest).toArray)
  (h2:Q->∀(σ:Nat->Option Pl),lJ c m->VR σ v2 v)
  (hF:Q->lJ c m->lJ c m') (hraw:Q->lJ c m->∀(cp:Nat) (t:Int),∃t',∀(X:Nat->Prop) (w0:World),(∀k,KT k->X k)->eB X w0->TT w0->dK Tryz.prog X w0 0 f (.pointer (some ⟨0,0,none⟩)::rest) (gq (nC c) cp t (aC c m)) (v,gq (nC c) cp t' (aC c m')))
  {X:Nat->Prop} {w0:World} (h0:∀k,KT k->X k) (hB:eB X w0) (hT:TT w0) {lh:List Go.Sx.ag} (hk:lh.getD k .dead=.abs true (.mem c m)):
  dK Tryz.prog X w0 nD f (.pointer (some ⟨k,0,none⟩)::pE) lh (v2,lh.set k (.abs true (.mem c m'))):=by
 by_cases hf:lJ c m
 ·refine FL lg hp hv hra (fun q σ=>h2 q σ hf) (fun q F b w hJ=> ?_) h0 hB hT hk
  obtain⟨hfi,cp,t,hJ⟩:=hJ;obtain⟨t',hc⟩:=hraw q hf cp t;exact⟨_,_,hJ,rfl,hc,fun F' w' hj=>⟨hF q hfi,cp,t',hj⟩⟩
 ·have hkl:k<lh.length:=by
   rcases Nat.lt_or_ge k lh.length with h|h
   ·exact h
   ·rw[List.getD_eq_getElem?_getD,List.getElem?_eq_none h]at hk;cases hk
  refine⟨bu.set _ _ (by rw[hk];rfl),fun σ w args' hr hargs=> ?_⟩
  obtain⟨_,p,hp,_⟩:=hra σ args' hargs;obtain⟨F,_,_,a3,_⟩:=hr.ab;have:=a3 k p hp;rw[hk]at this;exact absurd this.1 hf
theorem qY{a b:Nat}(h:a<b):Nat.blt a b=true:=by rw[Nat.blt_eq];exact h
theorem NS{a b:Nat}(h:¬a<b):Nat.blt a b=false:=by rw[<-Bool.not_eq_true,Nat.blt_eq];exact h
theorem eD{σ:Nat->Option Pl}{x:Value}{r:List Value}{a:Array Value}(h:dY σ (x::r).toArray a):∃y b,a=(y::b).toArray/\VR σ x y/\dY σ r.toArray b.toArray:=by
 obtain⟨l,rfl⟩:∃l:List Value,a=l.toArray:=⟨a.toList,by simp⟩
 cases l with
 |nil=>exact absurd h.1 (by simp)
 |cons y b=>
  refine⟨y,b,rfl,h.2 0 x y rfl rfl,by have:=h.1;simpa using this,fun i u v hu hv=>h.2 (i+1) u v (by simpa using hu) (by simpa using hv)⟩
theorem kY{σ:Nat->Option Pl}{b:List Value}(h:dY σ ([]:List Value).toArray b.toArray):b=[]:=by
 have:=h.1;simp at this;exact List.eq_nil_of_length_eq_zero this.symm
theorem val_inj{s t:aa}(h:s.val=t.val):s=t:=by
 obtain⟨a,b,c,d,e,f,g,i,j⟩:=s;obtain⟨a',b',c',d',e',f',g',i',j'⟩:=t;simp[aa.val]at h;obtain⟨rfl,rfl,rfl,rfl,rfl,rfl,rfl,rfl,rfl⟩:=h;rfl
def qC(s:aa):Value:=.iface 900 s.val
def nI(B i:Nat):Value:=.iface 901 (.agg #[.int .i64 (B:Int),.int .i64 (i:Int)])
theorem zM{σ:Nat->Option Pl}{s:aa}{y:Value}(h:VR σ (qC s) y):Facts s/\y=.int .i64 (bH s):=by
 unfold qC at h;generalize hz:Value.iface 900 s.val=z at h;cases h<;>try cases hz
 rename_i t F;injection hz with _ h2
 obtain rfl:=val_inj h2;exact⟨F,rfl⟩
theorem BU{σ:Nat->Option Pl}{W i:Nat}{y:Value}(h:VR σ (nI W i) y):y=.int .i64 ((W:Int)+(i:Int)):=by
 unfold nI at h;generalize hz:Value.iface 901 (.agg #[.int .i64 (W:Int),.int .i64 (i:Int)])=z at h;cases h;all_goals first|(cases hz;rfl)|cases hz
def XK{α:Type}(v:Value)(F:Nat->Nat->M α):M α:=
 match v with
 | .agg a=>match a.toList with
  |[.int .i64 (.ofNat W),.int .i64 (.ofNat i)]=>F W i
  |_=>.bad
 |_=>.bad
theorem Fz{α:Type}{v:Value}{F:Nat->Nat->M α}{x:α}(h:(XK v F).get=some x):∃W i,Value.iface 901 v=nI W i/\(F W i).get=some x:=by
 unfold XK at h;split at h
 ·rename_i a
  split at h
  ·rename_i W i hl
   refine⟨W,i,?_,h⟩;unfold nI;rw[show a= #[.int .i64 (.ofNat W),.int .i64 (.ofNat i)]from Array.toList_inj.1 hl]
   rfl
  ·cases h
 ·cases h
def FQ{α:Type}(k:Nat)(lh:List Go.Sx.ag)(F:Cn->Mm->M α):M α:=
 match lh.getD k .dead with
 | .abs true (.mem c m)=>F c m
 |_=>.bad
theorem uy{α:Type}{k:Nat}{lh:List Go.Sx.ag}{F:Cn->Mm->M α}{x:α}(h:(FQ k lh F).get=some x):∃c m,lh.getD k .dead=.abs true (.mem c m)/\(F c m).get=some x:=by
 unfold FQ at h;split at h
 ·rename_i c m hk;exact⟨c,m,hk,h⟩
 ·cases h
def pR(k:Nat)(lh:List Go.Sx.ag)(c:Cn)(m:Mm):List Go.Sx.ag:=lh.set k (.abs true (.mem c m))
def tN{α:Type}(c:Cn)(m:Mm)(n:Nat)(F:Int->M α):M α:=
 .br (Nat.beq n 0) (F m.cl) (.br (Nat.beq n 1) (F (au m.qu)) (.br (Nat.beq n 2) (F m.ep) (.br (Nat.blt n (3+c.W)) (F (m.pn (n-3))) (.br (Nat.blt n (3+2*c.W)) (F (m.gr (n-(3+c.W)))) .bad))))
theorem afM{a b:Nat}(h:Nat.blt a b=false):¬a<b:=fun k=>by rw[qY k]at h;cases h
theorem Lc{a b:Nat}(h:Nat.beq a b=false):a≠b:=Nat.ne_of_beq_eq_false h
theorem ZE{α:Type}{c:Cn}{m:Mm}{n:Nat}{F:Int->M α}{r:α}(h:(tN c m n F).get=some r):∃x,(aC c m)[n]?=some x/\(F x).get=some r:=by
 unfold tN at h;rcases M.af h with⟨h0,h⟩|⟨h0,h⟩
 ·exact⟨_,by rw[bO,if_pos (Nat.eq_of_beq_eq_true h0)],h⟩
 ·have h0:=Lc h0
  rcases M.af h with⟨h1,h⟩|⟨h1,h⟩
  ·exact⟨_,by rw[bO,if_neg h0,if_pos (Nat.eq_of_beq_eq_true h1)],h⟩
  ·have h1:=Lc h1
   rcases M.af h with⟨h2,h⟩|⟨h2,h⟩
   ·exact⟨_,by rw[bO,if_neg h0,if_neg h1,if_pos (Nat.eq_of_beq_eq_true h2)],h⟩
   ·have h2:=Lc h2
    rcases M.af h with⟨h3,h⟩|⟨h3,h⟩
    ·exact⟨_,by rw[bO,if_neg h0,if_neg h1,if_neg h2,if_pos (by simpa[Nat.blt_eq]using h3)],h⟩
    ·have h3:=afM h3
     rcases M.af h with⟨h4,h⟩|⟨h4,h⟩
     ·exact⟨_,by rw[bO,if_neg h0,if_neg h1,if_neg h2,if_neg h3,if_pos (by simpa[Nat.blt_eq]using h4)],h⟩
     ·cases h
theorem vY{c:Cn}{m:Mm}{i:Nat}(h:i<c.S):(aC c m)[3+2*c.W+i]?=some (bH (m.sl i)):=by
 rw[bO,if_neg (by omega),if_neg (by omega),if_neg (by omega),if_neg (by omega),if_neg (by omega),if_pos (by omega)]
 congr 3;omega
def FR:bZ:=fun args lh=>match args with
 |[.pointer (some ⟨k,0,none⟩),ix]=>FQ k lh fun c m=>match ix with
  | .int .i64 (.ofNat n)=>tN c m n fun x=>.ret (.int .i64 x,pR k lh c m)
  | .iface 901 v=>XK v fun B i=>.br (Nat.beq B (3+2*c.W)) (.br (Nat.blt i c.S) (.ret (qC (m.sl i),pR k lh c m)) .bad) .bad
  |_=>.bad
 |_=>.bad
theorem OX{c:Cn}{m:Mm}{i:Nat}{x:Int}(hf:lJ c m)(h:(aC c m)[i]?=some x)(cp:Nat)(t:Int):∃t',∀(X:Nat->Prop) (w0:World),(∀k,KT k->X k)->eB X w0->TT w0->
  dK Tryz.prog X w0 0 54 [.pointer (some ⟨0,0,none⟩),.int .i64 (i:Int)] (gq (nC c) cp t (aC c m)) (.int .i64 x,gq (nC c) cp t' (aC c m)):=by
 refine⟨rF (nC c) i t,fun X w0 h0 hB hT=>(soundTT Bp).2 X w0 h0 hB hT _ _ _ ?_⟩
 show(M.br (rM (nC c) (aC c m)) _ _).get=_;rw[M.fe,if_pos hf.ok,(Io h).1];rfl
theorem KC:dP nD KT Tryz.prog TT 54 FR:=by
 refine⟨Bp.1,fun X w0 h0 hB hT args lh r hr=> ?_⟩
 unfold FR at hr;split at hr
 ·rename_i k ix
  obtain⟨c,m,hk,hr2⟩:=uy hr;clear hr;have hr:=hr2;clear hr2;split at hr
  ·rename_i n
   obtain⟨x,hx,hr2⟩:=ZE hr;simp only[M.ah,Option.some.injEq]at hr2;subst hr2;refine nO (Q:=True) (rest:=[.int .i64 (.ofNat n)]) rfl rfl (fun σ args' ha=> ?_) (fun _ σ _=>VR.int _ _) (fun _ h=>h) (fun _ hf cp t=>OX hf hx cp t) h0 hB hT hk
   obtain⟨y,b,rfl,h1,h2⟩:=eD ha;obtain⟨p,hp,rfl⟩:=h1.gL;obtain⟨y2,b2,hb,h3,h4⟩:=eD h2;obtain rfl:b=y2::b2:=by simpa using congrArg Array.toList hb
   rw[h3.aH,kY h4];exact⟨trivial,p,hp,rfl⟩
  ·rename_i v
   obtain⟨W,i,hv,hr2⟩:=Fz hr;clear hr;have hr:=hr2;clear hr2;try dsimp only at hr
   rcases M.af hr with⟨hc,hz⟩|⟨_,hz⟩<;>(clear hr;have hr:=hz;clear hz)
   ·obtain rfl:=Nat.eq_of_beq_eq_true hc
    rcases M.af hr with⟨hi,hr⟩|⟨_,hr⟩
    ·have hi:i<c.S:=by simpa[Nat.blt_eq]using hi
     simp only[M.ah,Option.some.injEq]at hr;subst hr;refine nO (Q:=True) (rest:=[.int .i64 ((3+2*c.W+i:Nat):Int)]) (v:=.int .i64 (bH (m.sl i))) rfl rfl (fun σ args' ha=> ?_) (fun _ σ hf=>VR.word _ (hf.sl i hi)) (fun _ h=>h) (fun _ hf cp t=>OX hf (vY hi) cp t) h0 hB hT hk
     obtain⟨y,b,rfl,h1,h2⟩:=eD ha;obtain⟨p,hp,rfl⟩:=h1.gL;obtain⟨y2,b2,hb,h3,h4⟩:=eD h2;obtain rfl:b=y2::b2:=by simpa using congrArg Array.toList hb
     rw[hv]at h3;rw[BU h3,kY h4];exact⟨trivial,p,hp,rfl⟩
    ·cases hr
   ·cases hr
  ·cases hr
 ·cases hr
end
noncomputable section
open Go.RowKit Go.bn Go.Sx
def pM{α:Type}(c:Cn)(m:Mm)(n:Nat)(v:Int)(F:Mm->M α):M α:=
 .br (Nat.beq n 0) (F {m with cl:=v}) (.br (Nat.blt n 3) .bad (.br (Nat.blt n (3+c.W)) (F (m.pin (n-3) v)) (.br (Nat.blt n (3+2*c.W)) (F (m.nT (n-(3+c.W)) v)) .bad)))
def UT(c:Cn)(m:Mm)(n:Nat)(v:Int):Option Mm:=
 bif Nat.beq n 0 then some {m with cl:=v}else bif Nat.blt n 3 then none else
 bif Nat.blt n (3+c.W)then some (m.pin (n-3) v)else bif Nat.blt n (3+2*c.W)then some (m.nT (n-(3+c.W)) v)else none
theorem aaM{α:Type}{c:Cn}{m:Mm}{n:Nat}{v:Int}{F:Mm->M α}{r:α}(h:(pM c m n v F).get=some r):∃m',UT c m n v=some m'/\(F m').get=some r:=by
 unfold pM at h;unfold UT;rcases M.af h with⟨h0,h⟩|⟨h0,h⟩
 ·rw[h0];exact⟨_,rfl,h⟩
 ·rw[h0]
  rcases M.af h with⟨h1,h⟩|⟨h1,h⟩
  ·cases h
  ·rw[h1]
   rcases M.af h with⟨h2,h⟩|⟨h2,h⟩
   ·rw[h2];exact⟨_,rfl,h⟩
   ·rw[h2]
    rcases M.af h with⟨h3,h⟩|⟨h3,h⟩
    ·rw[h3];exact⟨_,rfl,h⟩
    ·cases h
theorem Tc{c:Cn}{m m':Mm}{n:Nat}{v:Int}(h:UT c m n v=some m'):vv (nC c) (aC c m) n v=aC c m'/\(lJ c m->lJ c m')/\qo (nC c) n=true:=by
 unfold UT at h;have inr:n<nC c->qo (nC c) (n:Int)=true:=fun hn=>by unfold qo;simp;omega
 cases h0:Nat.beq n 0 with
 |true=>
  obtain rfl:=Nat.eq_of_beq_eq_true h0;rw[h0]at h;cases h;have hn:0<nC c:=by unfold nC;omega
  refine⟨DC hn (by rw[bO];rfl) fun j hj=> ?_,fun hf=>⟨hf.cf,hf.sl,hf.qu⟩,inr hn⟩
  rw[bO,bO,if_neg hj,if_neg hj]
 |false=>
  rw[h0]at h;simp only[cond_false]at h;cases h1:Nat.blt n 3 with
  |true=>rw[h1]at h;cases h
  |false=>
   have h1':¬n<3:=fun k=>by rw[qY k]at h1;cases h1
   rw[h1]at h;simp only[cond_false]at h;cases h3:Nat.blt n (3+c.W)with
   |true=>
    have h3':n<3+c.W:=by simpa[Nat.blt_eq]using h3
    rw[h3]at h;cases h;have hn:n<nC c:=by unfold nC;omega
    refine⟨DC hn ?_ fun j hj=> ?_,fun hf=>⟨hf.cf,hf.sl,hf.qu⟩,inr hn⟩
    ·rw[bO,if_neg (by omega),if_neg (by omega),if_neg (by omega),if_pos h3']
     show some (upd m.pn (n-3) v (n-3))=_;unfold upd;rw[if_pos rfl]
    ·rw[bO,bO]
     by_cases k0:j=0
     ·rw[if_pos k0,if_pos k0];rfl
     ·rw[if_neg k0,if_neg k0]
      by_cases k1:j=1
      ·rw[if_pos k1,if_pos k1];rfl
      ·rw[if_neg k1,if_neg k1]
       by_cases k2:j=2
       ·rw[if_pos k2,if_pos k2];rfl
       ·rw[if_neg k2,if_neg k2]
        show(if j<3+c.W then some (upd m.pn (n-3) v (j-3))else _)=_
        unfold upd;rw[if_neg (show¬j-3=n-3 by omega)]
        rfl
   |false=>
    have h3':¬n<3+c.W:=fun k=>by rw[qY k]at h3;cases h3
    rw[h3]at h;simp only[cond_false]at h;cases h4:Nat.blt n (3+2*c.W)with
    |false=>rw[h4]at h;cases h
    |true=>
     have h4':n<3+2*c.W:=by simpa[Nat.blt_eq]using h4
     rw[h4]at h;cases h;have hn:n<nC c:=by unfold nC;omega
     refine⟨DC hn ?_ fun j hj=> ?_,fun hf=>⟨hf.cf,hf.sl,hf.qu⟩,inr hn⟩
     ·rw[bO,if_neg (by omega),if_neg (by omega),if_neg (by omega),if_neg h3',if_pos h4']
      show some (upd m.gr (n-(3+c.W)) v (n-(3+c.W)))=_;unfold upd;rw[if_pos rfl]
     ·rw[bO,bO]
      by_cases k0:j=0
      ·rw[if_pos k0,if_pos k0];rfl
      ·rw[if_neg k0,if_neg k0]
       by_cases k1:j=1
       ·rw[if_pos k1,if_pos k1];rfl
       ·rw[if_neg k1,if_neg k1]
        by_cases k2:j=2
        ·rw[if_pos k2,if_pos k2];rfl
        ·rw[if_neg k2,if_neg k2]
         by_cases k3:j<3+c.W
         ·rw[if_pos k3,if_pos k3];rfl
         ·rw[if_neg k3,if_neg k3]
          show(if j<3+2*c.W then some (upd m.gr (n-(3+c.W)) v (j-(3+c.W)))else _)=_
          unfold upd;rw[if_neg (show¬j-(3+c.W)=n-(3+c.W)by omega)]
          rfl
theorem LC{c:Cn}{m:Mm}{i:Nat}{t:aa}(hi:i<c.S):vv (nC c) (aC c m) ((3+2*c.W+i:Nat):Int) (bH t)=aC c (m.set i t):=by
 refine DC (by unfold nC;omega) ?_ fun j hj=> ?_
 ·rw[vY hi]
  show some (bH (upd m.sl i t i))=_;unfold upd;rw[if_pos rfl]
 ·rw[bO,bO]
  show(if j=0 then some m.cl else if j=1 then some (au m.qu)else if j=2 then some m.ep else if j<3+c.W then some (m.pn (j-3))else if j<3+2*c.W then some (m.gr (j-(3+c.W)))else if j<3+2*c.W+c.S then some (bH (upd m.sl i t (j-(3+2*c.W))))else none)=_
  by_cases k:j<3+2*c.W
  ·by_cases k0:j=0
   ·rw[if_pos k0,if_pos k0]
   ·rw[if_neg k0,if_neg k0]
    by_cases k1:j=1
    ·rw[if_pos k1,if_pos k1]
    ·rw[if_neg k1,if_neg k1]
     by_cases k2:j=2
     ·rw[if_pos k2,if_pos k2]
     ·rw[if_neg k2,if_neg k2]
      by_cases k3:j<3+c.W
      ·rw[if_pos k3,if_pos k3]
      ·rw[if_neg k3,if_neg k3,if_pos k,if_pos k]
  ·unfold upd
   rw[if_neg (show¬j-(3+2*c.W)=i by omega)]
theorem Qn{c:Cn}{m:Mm}{i:Nat}{t:aa}(F:Facts t)(h:lJ c m):lJ c (m.set i t):=⟨h.cf,fun j hj=>by
 show Facts (upd m.sl i t j);unfold upd;split
 ·exact F
 ·exact h.sl j hj,h.qu⟩
def Ct:bZ:=fun args lh=>match args with
 |[.pointer (some ⟨k,0,none⟩),ix,v]=>FQ k lh fun c m=>match ix with
  | .int .i64 (.ofNat n)=>match v with
   | .int .i64 x=>pM c m n x fun m'=>.ret (.bool true,pR k lh c m')
   |_=>.bad
  | .iface 901 u=>match v with
   | .iface 900 tv=>XK u fun B i=>pq tv fun t=>.br (Nat.beq B (3+2*c.W)) (.br (Nat.blt i c.S) (.ret (.bool true,pR k lh c (m.set i t))) .bad) .bad
   |_=>.bad
  |_=>.bad
 |_=>.bad
theorem LF{c:Cn}{m m':Mm}{i:Nat}{v:Int}(hf:lJ c m)(h:vv (nC c) (aC c m) i v=aC c m')(hi:qo (nC c) i=true)(cp:Nat)(t:Int):∃t',∀(X:Nat->Prop) (w0:World),(∀k,KT k->X k)->eB X w0->TT w0->
  dK Tryz.prog X w0 0 55 [.pointer (some ⟨0,0,none⟩),.int .i64 (i:Int),.int .i64 v] (gq (nC c) cp t (aC c m)) (.bool true,gq (nC c) cp t' (aC c m')):=by
 refine⟨rF (nC c) i t,fun X w0 h0 hB hT=>(soundTT ze).2 X w0 h0 hB hT _ _ _ ?_⟩
 show(M.br (rM (nC c) (aC c m)) _ _).get=_;rw[M.fe,if_pos hf.ok,h,hi];rfl
theorem WH{σ:Nat->Option Pl}{k:Nat}{a b:Value}{args':Array Value}(h:dY σ [.pointer (some ⟨k,0,none⟩),a,b].toArray args'):∃p a' b',σ k=some p/\args'=[.pointer (some ⟨p.b,p.o+0,none⟩),a',b'].toArray/\VR σ a a'/\VR σ b b':=by
 obtain⟨y,l,rfl,h1,h2⟩:=eD h;obtain⟨p,hp,rfl⟩:=h1.gL;obtain⟨y2,l2,e2,h3,h4⟩:=eD h2;obtain rfl:l=y2::l2:=by simpa using congrArg Array.toList e2
 obtain⟨y3,l3,e3,h5,h6⟩:=eD h4;obtain rfl:l2=y3::l3:=by simpa using congrArg Array.toList e3
 rw[kY h6];exact⟨p,y2,y3,hp,rfl,h3,h5⟩
theorem adG{σ:Nat->Option Pl}{k:Nat}{a b c:Value}{args':Array Value}(h:dY σ [.pointer (some ⟨k,0,none⟩),a,b,c].toArray args'):∃p a' b' c',σ k=some p/\args'=[.pointer (some ⟨p.b,p.o+0,none⟩),a',b',c'].toArray/\VR σ a a'/\VR σ b b'/\VR σ c c':=by
 obtain⟨y,l,rfl,h1,h2⟩:=eD h;obtain⟨p,hp,rfl⟩:=h1.gL;obtain⟨y2,l2,e2,h3,h4⟩:=eD h2;obtain rfl:l=y2::l2:=by simpa using congrArg Array.toList e2
 obtain⟨y3,l3,e3,h5,h6⟩:=eD h4;obtain rfl:l2=y3::l3:=by simpa using congrArg Array.toList e3
 obtain⟨y4,l4,e4,h7,h8⟩:=eD h6;obtain rfl:l3=y4::l4:=by simpa using congrArg Array.toList e4
 rw[kY h8];exact⟨p,y2,y3,y4,hp,rfl,h3,h5,h7⟩
theorem Ig:dP nD KT Tryz.prog TT 55 Ct:=by
 refine⟨ze.1,fun X w0 h0 hB hT args lh r hr=> ?_⟩
 unfold Ct at hr;split at hr
 ·rename_i k ix v
  obtain⟨c,m,hk,hr2⟩:=uy hr;clear hr;have hr:=hr2;clear hr2;split at hr
  ·rename_i n
   split at hr
   ·rename_i x
    obtain⟨m',hm,hr2⟩:=aaM hr;simp only[M.ah,Option.some.injEq]at hr2;subst hr2;obtain⟨e1,e2,e3⟩:=Tc hm;refine nO (Q:=True) (rest:=[.int .i64 (.ofNat n),.int .i64 x]) rfl rfl (fun σ args' ha=> ?_) (fun _ σ _=>VR.bool _) (fun _=>e2) (fun _ hf cp t=>LF hf e1 e3 cp t) h0 hB hT hk
    obtain⟨p,a',b',hp,rfl,h1,h2⟩:=WH ha;rw[h1.aH,h2.aH];exact⟨trivial,p,hp,rfl⟩
   ·cases hr
  ·rename_i u
   split at hr
   ·rename_i tv
    obtain⟨B,i,hu,hr2⟩:=Fz hr;clear hr;have hr:=hr2;clear hr2;try dsimp only at hr
    obtain⟨t,rfl,hr2⟩:=iq hr;clear hr;have hr:=hr2;clear hr2;try dsimp only at hr
    rcases M.af hr with⟨hc,hz⟩|⟨_,hz⟩<;>(clear hr;have hr:=hz;clear hz)
    ·obtain rfl:=Nat.eq_of_beq_eq_true hc
     rcases M.af hr with⟨hi,hr⟩|⟨_,hr⟩
     ·have hi:i<c.S:=by simpa[Nat.blt_eq]using hi
      simp only[M.ah,Option.some.injEq]at hr;subst hr;refine nO (Q:=Facts t) (rest:=[.int .i64 ((3+2*c.W+i:Nat):Int),.int .i64 (bH t)]) rfl rfl (fun σ args' ha=> ?_) (fun _ σ _=>VR.bool _) (fun F=>Qn F) (fun _ hf cp t=>LF hf (LC hi) (by unfold qo nC;simp;omega) cp t) h0 hB hT hk
      obtain⟨p,a',b',hp,rfl,h1,h2⟩:=WH ha;rw[hu]at h1;obtain⟨F,h3⟩:=zM h2;rw[BU h1,h3];exact⟨F,p,hp,rfl⟩
     ·cases hr
    ·cases hr
   ·cases hr
  ·cases hr
 ·cases hr
def KD:bZ:=fun args lh=>match args with
 |[.pointer (some ⟨k,0,none⟩),ix,old,new]=>FQ k lh fun c m=>match ix with
  | .int .i64 (.ofNat n)=>match old,new with
   | .int .i64 a,.int .i64 b=>
    bif Nat.beq n 0 then .br (m.cl==a) (.ret (.bool true,pR k lh c {m with cl:=b})) (.ret (.bool false,pR k lh c m))else
    bif Nat.beq n 1 then .br (au m.qu==a) (.br (sure (au (gH b)=b/\dZ (gH b))) (.ret (.bool true,pR k lh c {m with qu:=gH b})) .bad) (.ret (.bool false,pR k lh c m))else .bad
   |_,_=>.bad
  | .iface 901 u=>match old,new with
   | .iface 900 sv,.iface 900 tv=>XK u fun B i=>pq sv fun s=>pq tv fun t=>.br (Nat.beq B (3+2*c.W)) (.br (Nat.blt i c.S) (.br (sure (m.sl i=s)) (.ret (.bool true,pR k lh c (m.set i t))) (.ret (.bool false,pR k lh c m))) .bad) .bad
   |_,_=>.bad
  |_=>.bad
 |_=>.bad
theorem Kr{c:Cn}{m m':Mm}{i:Nat}{x a b:Int}{r:Bool}(hf:lJ c m)(hx:(aC c m)[i]?=some x)(hr:(x==a)=r)(h:(if r then vv (nC c) (aC c m) i b else aC c m)=aC c m')(cp:Nat)(t:Int):∃t',∀(X:Nat->Prop) (w0:World),(∀k,KT k->X k)->eB X w0->TT w0->
  dK Tryz.prog X w0 0 168 [.pointer (some ⟨0,0,none⟩),.int .i64 (i:Int),.int .i64 a,.int .i64 b] (gq (nC c) cp t (aC c m)) (.bool r,gq (nC c) cp t' (aC c m')):=by
 refine⟨rF (nC c) i t,fun X w0 h0 hB hT=>(soundTT Cu).2 X w0 h0 hB hT _ _ _ ?_⟩
 show(M.br (rM (nC c) (aC c m)) _ _).get=_;have e:AZ (nC c) (aC c m) i a=r:=by unfold AZ;rw[(Io hx).1,(Io hx).2,hr];rfl
 rw[M.fe,if_pos hf.ok];unfold QI;rw[e,h];rfl
theorem SC{s t:aa}(F:Facts s)(G:Facts t)(h:bH s=bH t):s=t:=by
 have e:∀s:aa,uS s=bH s:=fun s=>by unfold uS UG bH;omega
 obtain⟨x,h1,h2⟩:=xV F;obtain⟨y,h3,h4⟩:=xV G;have k1:encS s=some (uS s):=by rw[sM];unfold encR;rw[if_pos (kN.2 F)]
 have k2:encS t=some (uS t):=by rw[sM];unfold encR;rw[if_pos (kN.2 G)]
 rw[h1]at k1;rw[h3]at k2;rw[Option.some.inj k1,e,h, <-e, <-Option.some.inj k2,h4]at h2;exact(Option.some.inj h2).symm
theorem Ni:dP nD KT Tryz.prog TT 168 KD:=by
 refine⟨Cu.1,fun X w0 h0 hB hT args lh r hr=> ?_⟩
 unfold KD at hr;split at hr
 ·rename_i k ix old new
  obtain⟨c,m,hk,hr2⟩:=uy hr;clear hr;have hr:=hr2;clear hr2;split at hr
  ·rename_i n
   split at hr
   ·rename_i a b
    have go:∀{m':Mm} {x:Int} {r:Bool},(aC c m)[n]?=some x->(x==a)=r->(if r then vv (nC c) (aC c m) n b else aC c m)=aC c m'->(lJ c m->lJ c m')->
      dK Tryz.prog X w0 nD 168 [.pointer (some ⟨k,0,none⟩),.int .i64 (.ofNat n),.int .i64 a,.int .i64 b] lh (.bool r,pR k lh c m'):=by
     intro m' x r hx hxr h hF;refine nO (Q:=True) (rest:=[.int .i64 (.ofNat n),.int .i64 a,.int .i64 b]) rfl rfl (fun σ args' ha=> ?_) (fun _ σ _=>VR.bool _) (fun _=>hF) (fun _ hf cp t=>Kr hf hx hxr h cp t) h0 hB hT hk
     obtain⟨p,a',b',c',hp,rfl,h1,h2,h3⟩:=adG ha;rw[h1.aH,h2.aH,h3.aH];exact⟨trivial,p,hp,rfl⟩
    cases h0':Nat.beq n 0 with
    |true=>
     obtain rfl:=Nat.eq_of_beq_eq_true h0';rw[h0']at hr;rcases M.af hr with⟨hc,hr⟩|⟨hc,hr⟩
     ·simp only[M.ah,Option.some.injEq]at hr;subst hr
      exact go (m':={m with cl:=b}) (by rw[bO];rfl) hc (by rw[if_pos rfl];exact(Tc (c:=c) (m:=m) (n:=0) (v:=b) rfl).1) (fun hf=>⟨hf.cf,hf.sl,hf.qu⟩)
     ·simp only[M.ah,Option.some.injEq]at hr;subst hr
      exact go (m':=m) (by rw[bO];rfl) hc (if_neg (by decide)) id
    |false=>
     rw[h0']at hr;simp only[cond_false]at hr;cases h1':Nat.beq n 1 with
     |false=>rw[h1']at hr;cases hr
     |true=>
      obtain rfl:=Nat.eq_of_beq_eq_true h1';rw[h1']at hr;rcases M.af hr with⟨hc,hr⟩|⟨hc,hr⟩
      ·rcases M.af hr with⟨hs,hr⟩|⟨_,hr⟩
       ·obtain⟨s1,s2⟩:=jv.1 hs
        simp only[M.ah,Option.some.injEq]at hr;subst hr;refine go (m':={m with qu:=gH b}) (by rw[bO];rfl) hc ?_ (fun hf=>⟨hf.cf,hf.sl,s2⟩)
        rw[if_pos rfl];refine DC (by unfold nC;omega) (by rw[bO];show some (au (gH b))=_;rw[s1]) fun j hj=> ?_
        rw[bO,bO,if_neg hj,if_neg hj]
       ·cases hr
      ·simp only[M.ah,Option.some.injEq]at hr;subst hr
       exact go (m':=m) (by rw[bO];rfl) hc (if_neg (by decide)) id
   ·cases hr
  ·rename_i u
   split at hr
   ·rename_i sv tv
    obtain⟨W,i,hu,hr2⟩:=Fz hr;clear hr;have hr:=hr2;clear hr2;try dsimp only at hr
    obtain⟨s,rfl,hr2⟩:=iq hr;clear hr;have hr:=hr2;clear hr2;try dsimp only at hr
    obtain⟨t,rfl,hr2⟩:=iq hr;clear hr;have hr:=hr2;clear hr2;try dsimp only at hr
    rcases M.af hr with⟨hc,hz⟩|⟨_,hz⟩<;>(clear hr;have hr:=hz;clear hz)
    ·obtain rfl:=Nat.eq_of_beq_eq_true hc
     rcases M.af hr with⟨hi,hr⟩|⟨_,hr⟩
     ·have hi:i<c.S:=by simpa[Nat.blt_eq]using hi
      have args:∀(σ:Nat->Option Pl) (args':Array Value),dY σ [.pointer (some ⟨k,0,none⟩),.iface 901 u,.iface 900 s.val,.iface 900 t.val].toArray args'->
        (Facts s/\Facts t)/\∃p,σ k=some p/\args'=[.pointer (some ⟨p.b,p.o+0,none⟩),.int .i64 ((3+2*c.W+i:Nat):Int),.int .i64 (bH s),.int .i64 (bH t)].toArray:=by
       intro σ args' ha;obtain⟨p,a',b',c',hp,rfl,h1,h2,h3⟩:=adG ha;rw[hu]at h1;obtain⟨F,h4⟩:=zM h2;obtain⟨G,h5⟩:=zM h3;rw[BU h1,h4,h5];exact⟨⟨F,G⟩,p,hp,rfl⟩
      rcases M.af hr with⟨hs,hr⟩|⟨hs,hr⟩
      ·have hs:=jv.1 hs
       simp only[M.ah,Option.some.injEq]at hr;subst hr;exact nO (Q:=Facts s/\Facts t) rfl rfl args (fun _ σ _=>VR.bool _) (fun F=>Qn F.2) (fun _ hf cp t'=>Kr (r:=true) hf (vY hi) (by rw[hs];simp) (by rw[if_pos rfl];exact LC hi) cp t') h0 hB hT hk
      ·have hs:¬m.sl i=s:=fun k=>by rw[jh k]at hs;cases hs
       simp only[M.ah,Option.some.injEq]at hr;subst hr;refine nO (Q:=Facts s/\Facts t) rfl rfl args (fun _ σ _=>VR.bool _) (fun _=>id) (fun F hf cp t'=>Kr (r:=false) hf (vY hi) ?_ (if_neg (by decide)) cp t') h0 hB hT hk
       rw[beq_eq_false_iff_ne];exact fun k=>hs (SC (hf.sl i hi) F.1 k)
     ·cases hr
    ·cases hr
   ·cases hr
  ·cases hr
 ·cases hr
def KE:bZ:=fun args lh=>match args with
 |[.pointer (some ⟨k,0,none⟩),.int .i64 (.ofNat 2),.int .i64 d]=>FQ k lh fun c m=>.ret (.int .i64 m.ep,pR k lh c {m with ep:=aR (m.ep+d)})
 |_=>.bad
theorem Nj:dP nD KT Tryz.prog TT 281 KE:=by
 refine⟨Cv.1,fun X w0 h0 hB hT args lh r hr=> ?_⟩
 unfold KE at hr;split at hr
 ·rename_i k d
  obtain⟨c,m,hk,hr2⟩:=uy hr;clear hr;have hr:=hr2;clear hr2;simp only[M.ah,Option.some.injEq]at hr;subst hr;have hx:(aC c m)[2]?=some m.ep:=by rw[bO];rfl
  refine nO (m:=m) (m':={m with ep:=aR (m.ep+d)}) (Q:=True) (rest:=[.int .i64 (.ofNat 2),.int .i64 d]) rfl rfl (fun σ args' ha=> ?_) (fun _ σ _=>VR.int _ _) (fun _ hf=>⟨hf.cf,hf.sl,hf.qu⟩) (fun _ hf cp t=>⟨rF (nC c) 2 t,fun X w0 h0 hB hT=>(soundTT Cv).2 X w0 h0 hB hT _ _ _ ?_⟩) h0 hB hT hk
  ·obtain⟨p,a',b',hp,rfl,h1,h2⟩:=WH ha
   rw[h1.aH,h2.aH];exact⟨trivial,p,hp,rfl⟩
  ·show(M.br (rM (nC c) (aC c m)) _ _).get=_
   have e:Lh (nC c) (aC c m) ((2:Nat):Int) d=aC c {m with ep:=aR (m.ep+d)}:=by
    unfold Lh;rw[(Io hx).1];refine DC (by unfold nC;omega) (by rw[bO];rfl) fun j hj=> ?_
    rw[bO,bO];by_cases k0:j=0
    ·rw[if_pos k0,if_pos k0]
    ·rw[if_neg k0,if_neg k0]
     by_cases k1:j=1
     ·rw[if_pos k1,if_pos k1]
     ·rw[if_neg k1,if_neg k1,if_neg hj,if_neg hj]
   have e2:xL (nC c) (aC c m) ((2:Nat):Int)=m.ep:=(Io hx).1;rw[M.fe,if_pos hf.ok];show some (Value.int .i64 (xL (nC c) (aC c m) ((2:Nat):Int)),gq (nC c) cp (rF (nC c) 2 t) (Lh (nC c) (aC c m) ((2:Nat):Int) d))=_;rw[e,e2]
 ·cases hr
def Cs:bZ:=fun args lh=>match args with
 |[.pointer (some ⟨k,0,none⟩)]=>FQ k lh fun c m=>.ret (.slice (some ⟨lh.length,0,some 1⟩) (3+2*c.W+c.S) 0,pR k lh c m++[Go.Sx.ag.ints true true (aC c m)])
 |_=>.bad
theorem TJ{a:wZ}{F:Nat->Prop}{b:Nat}{w:World}(h:rC a F b w):F b:=by
 have go:∀H,JH 0 H F b w->(H.getD 0 .dead).alive=true->F b:=fun H hj ha=>by
  obtain⟨_,_,σ,_,⟨p,h1,h2,_⟩,h3⟩:=hj;rw[<-h2];exact h3 0 p h1 ha
 cases a with
 |mem c m=>obtain⟨_,cp,t,h2⟩:=h;exact go _ h2 rfl
 |kL l=>obtain⟨_,_,_,_,h2⟩:=h;exact go _ h2 rfl
 |oL c s=>exact h.elim
 |hld _ _ _ _=>exact h.elim
theorem Ie:dP nD KT Tryz.prog TT 30 Cs:=by
 refine⟨za.1,fun X w0 h0 hB hT args lh r hr=> ?_⟩
 unfold Cs at hr;split at hr
 ·rename_i k
  obtain⟨c,m,hk,hr2⟩:=uy hr;simp only[M.ah,Option.some.injEq]at hr2;subst hr2;by_cases hf:lJ c m
  ·refine aeP lg (Q:=True) (rest:=[]) (nb:=.ints true true (aC c m)) (len:=nC c) rfl rfl rfl (fun σ args' ha=> ?_) (fun a F b w h=>TJ h) (fun _ F b w hJ=> ?_) h0 hB hT hk
   ·obtain⟨y,b,rfl,h1,h2⟩:=eD ha
    obtain⟨p,hp,rfl⟩:=h1.gL;rw[kY h2];exact⟨trivial,p,hp,rfl⟩
   ·obtain⟨hfi,cp,t,hJ⟩:=hJ
    refine⟨_,gq (nC c) cp t (aC c m),hJ,rfl,rfl,rfl,rfl,fun X w0 h0 hB hT=>(soundTT za).2 X w0 h0 hB hT _ _ _ ?_,fun F' w' hj=>⟨hfi,cp,t,hj⟩⟩
    show(M.br (rM (nC c) (aC c m)) _ _).get=_;rw[M.fe,if_pos hfi.ok];rfl
  ·have hkl:k<lh.length:=by
    rcases Nat.lt_or_ge k lh.length with h|h
    ·exact h
    ·rw[List.getD_eq_getElem?_getD,List.getElem?_eq_none h]at hk;cases hk
   refine⟨⟨by simp[pR],fun i hi hw=> ?_⟩,fun σ w args' hr hargs=> ?_⟩
   ·rw[bY _ _ _ (by simpa[pR]using hi)]
    by_cases e:i=k
    ·subst e;rw[hk]at hw;cases hw
    ·exact aX _ _ e
   ·obtain⟨y,b,rfl,h1,h2⟩:=eD hargs
    obtain⟨p,hp,rfl⟩:=h1.gL;obtain⟨F,_,_,a3,_⟩:=hr.ab;have:=a3 k p hp;rw[hk]at this;exact absurd this.1 hf
 ·cases hr
end
noncomputable section
open Go.RowKit Go.bn Go.Sx
def WG(f:Nat->Nat)(n:Nat->Nat->Nat):bZ:=fun args lh=>match args with
 |[.agg a,.int .i64 i]=>match a.toList with
  |[.int .i64 (.ofNat W),.int .i64 (.ofNat S),.int .i64 _,.int .i64 _,.int .i64 _]=>.br (Nat.ble W 1000&&Nat.ble S 1000) (.br (uD (n W S:Int) i) (.ret (nI (f W) i.toNat,lh)) (.ret (.int .i64 (-1),lh))) .bad
  |_=>.bad
 |_=>.bad
def XE:bZ:=WG (fun W=>3+2*W) (fun _ S=>S)
def Vp(f:Nat->Nat)(n:Nat->Nat->Nat):bZ:=fun args lh=>match args with
 |[.agg a,.int .i64 i]=>match a.toList with
  |[.int .i64 (.ofNat W),.int .i64 (.ofNat S),.int .i64 _,.int .i64 _,.int .i64 _]=>.br (Nat.ble W 1000&&Nat.ble S 1000) (.br (uD (n W S:Int) i) (.ret (.int .i64 (.ofNat (i.toNat+f W)),lh)) (.ret (.int .i64 (-1),lh))) .bad
  |_=>.bad
 |_=>.bad
def ac4:bZ:=Vp (fun _=>3) (fun W _=>W)
def ads:bZ:=Vp (fun W=>3+W) (fun W _=>W)
def V9:bZ:=fun args lh=>match args with
 |[.iface 900 v]=>pq v fun s=>.ret (.tuple #[s.val,.bool true],lh)
 |args=>Gl args lh
def V4:bZ:=fun args lh=>match args with
 |[v]=>pq v fun s=>.br (sure (Facts s)) (.ret (.tuple #[qC s,.bool true],lh)) .bad
 |_=>.bad
def Ny{α:Type}(k:Nat)(lh:List Go.Sx.ag)(F:List Bool->M α):M α:=
 match lh.getD k .dead with
 | .abs true (.kL l)=>F l
 |_=>.bad
def xD(l:List Bool):Bool:=match l with|[]=>true|b::_=>b
def Bz:bZ:=fun args lh=>match args with
 |[.pointer (some ⟨k,0,none⟩)]=>Ny k lh fun l=>.ret (.bool (xD l),lh.set k (.abs true (.kL l.tail)))
 |_=>.bad
def BA:bZ:=fun args lh=>match args with
 |[.pointer (some ⟨k,0,none⟩),.bool b]=>Ny k lh fun l=>.br (Nat.blt l.length 1000) (.ret (.bool true,lh.set k (.abs true (.kL (l++[b]))))) (.ret (.bool false,lh))
 |_=>.bad
def XY:cK->Nat| .swap=>259| .look=>275| .iI=>279| .jk=>280| .done=>274
structure Ti where
 rd:List Int
 rl:Nat
 last:Option (List Int)
 ll:Nat
 dn:Bool
 n:Int
def Ti.of(t:Tw):Ti:=⟨t.rd.map bH,t.rd.length,t.last.map (List.map bH),(t.last.getD []).length,t.dn,t.n⟩
def JN{α:Type}(lh:List Go.Sx.ag)(v:Value)(F:List Int->M α):M α:=
 match v with
 | .slice none 0 0=>F []
 | .slice (some ⟨k,0,some 1⟩) l 0=>match lh.getD k .dead with
  | .ints true true L=>.br (Nat.beq l L.length) (F L) .bad
  |_=>.bad
 |_=>.bad
def Bj{α:Type}(L:List Int)(F:M α):M α:=.br (Nat.ble L.length 1000) F .bad
def acg:bZ:=fun args lh=>match args with
 |[v]=>JN lh v fun L=>match L with
  |[]=>.bad
  |a::r=>Bj (a::r) (.ret (.slice (some ⟨lh.length,0,some 1⟩) (r.length+1) 0,lh++[Go.Sx.ag.ints true true (a::r)]))
 |_=>.bad
def acd:bZ:=fun args lh=>match args with
 |[v,u]=>JN lh v fun L=>JN lh u fun L2=>Bj L (.ret (.bool (L==L2),lh))
 |_=>.bad
def fH(l:List Int):Nat×Nat×Nat×Nat:=Eh (l.map fun x=>iN (jf x))
def Qz:bZ:=fun args lh=>match args with
 |[v]=>JN lh v fun L=>Bj L (.ret (.agg #[.int .i64 ((fH L).1:Int),.int .i64 ((fH L).2.1:Int),.int .i64 ((fH L).2.2.1:Int),.int .i64 ((fH L).2.2.2:Int)],lh))
 |_=>.bad
def yC(q:Int):Prop:=au (gH q)=q/\dZ (gH q)
def PK:bZ:=fun args lh=>match args with
 |[.int .i64 q]=>.br (sure (yC q)) (.ret (.int .i64 ((gH q).length:Int),lh)) .bad
 |_=>.bad
def PL:bZ:=fun args lh=>match args with
 |[.int .i64 q,.int .i64 (.ofNat w)]=>.br (sure (yC q)) (.ret (.bool (sure (w∈gH q)),lh)) .bad
 |_=>.bad
def KI:bZ:=fun args lh=>match args with
 |[.int .i64 q]=>.br (sure (yC q)) (.br (sure (gH q=[])) (.ret (.tuple #[.int .i64 0,.bool false],lh)) (.ret (.tuple #[.int .i64 ((gH q).headD 0:Int),.bool true],lh))) .bad
 |_=>.bad
def KH:bZ:=fun args lh=>match args with
 |[.int .i64 q,.int .i64 (.ofNat w)]=>.br (sure (yC q/\(gH q).length<15/\w<=14/\w∉gH q)) (.ret (.tuple #[.int .i64 (au (gH q++[w])),.bool true],lh)) .bad
 |_=>.bad
def KJ:bZ:=fun args lh=>match args with
 |[.int .i64 q,.int .i64 (.ofNat w)]=>.br (sure (yC q/\(gH q).Nodup/\w∈gH q)) (.ret (.tuple #[.int .i64 (au ((gH q).erase w)),.bool true],lh)) .bad
 |_=>.bad
def PI:bZ:=fun args lh=>match args with
 |[.int .i64 q]=>.br (sure (yC q)) (.ret (.int .i64 (au (gH q).tail),lh)) .bad
 |_=>.bad
abbrev dI(c:Cn):List Value:=[.int .i64 (c.W:Int),.int .i64 (c.S:Int),.int .i64 c.st,.int .i64 (c.wt:Int),.int .i64 c.u]
abbrev vg(a:Ask):List Value:=[.int .i64 (a.op:Int),.int .i64 a.dl,.bool a.wait,.bool a.force,.int .i64 a.slot,.int .i64 a.gen,.int .i64 a.strm]
def alD(a:bR):List Value:=[.bool false,.int .i64 0,.int .i64 0,.int .i64 0,.int .i64 0,.bool false,.bool false,.int .i64 0,.int .i64 0,.int .i64 0,.int .i64 a.e,.int .i64 a.slot,.int .i64 a.gen,.int .i64 a.strm,
 .int .i64 (a.cnt.1:Int),.int .i64 (a.cnt.2.1:Int),.int .i64 (a.cnt.2.2.1:Int),.int .i64 (a.cnt.2.2.2:Int)]
abbrev pk(k:Nat):Value:=.pointer (some ⟨k,0,none⟩)
abbrev bl(l:List Value):Go.Sx.ag:=.cells true true l
def EW(f:Nat)(l:List Nat):Value:=.func (.func f) #[] (l.map pk).toArray
def mth(f k:Nat):Value:=.func (.func f) #[pk k] #[]
structure Xq where
 c:Cn
 m:Mm
 now:Int
 wo:List Bool
 who:Nat
 x:Wr
 n:Nat
 R:Go.Sx.Rows
 rest:Nat->Option Value
 aj:Int
 at_:Int
structure Ex where
 at_:Int
 ti:Int
 bf:Int
 cell:Value
def EU(c:Cn):Ph->Ex
 | .work (.get t)=>⟨t.look.at_,t.i,0,nI (3+2*c.W) t.rt.i⟩
 | .work (.give g)=>⟨0,0,0,nI (3+2*c.W) g.rt.i⟩
 | .work (.aS r)=>⟨r.look.at_,0,0,nI (3+2*c.W) r.rt.i⟩
 | .ax t _ _=>⟨t.look.at_,0,t.other,nI (3+2*c.W) t.rt.i⟩
 |_=>⟨0,0,0,undef⟩
def fdV(c:Cn)(w:Nat)(f:Fd)(x:Ex):Go.Sx.ag:=bl (dI c++[.int .i64 (f.kd:Int),(match f.kd with|6=>.int .i64 (w:Int)|_=>.int .i64 f.ow),.int .i64 x.at_]++(match f.fd with|some x=>[qC x,.bool true]|none=>[undef,.bool false]))
def XX(c:Cn)(k:Nat)(r:Rt)(x:Ex):Go.Sx.ag:=bl [x.cell,(match r.st with| .swap| .look| .iI=>qC r.wd|_=>undef),(match r.st with| .iI=>.int .i64 r.ep|_=>undef),mth (XY r.st) k,.bool r.sw,undef]
def Oe:gm->Nat| .closed=>0| .own=>1| .gp=>2| .any=>3| .anyS=>4| .move=>5| .dD=>6| .free=>7| .dQ=>8| .bM=>9| .check=>10| .back=>11| .go=>12| .grant=>13| .eG=>14| .done=>15
def vB(b:Bool)(v:Value):Value:=bif b then v else undef
def tkH(c:Cn)(w:Nat)(t:Tk)(iW:Nat)(x:Ex):List Go.Sx.ag:=
 let n:=Oe t.st
 let lk:=Nat.ble 1 n&&Nat.ble n 8
 let go:=Nat.beq n 12
 [bl (dI c++[.int .i64 (w:Int),.int .i64 (n:Int),vB lk (pk (iW+1)),vB (Nat.beq n 5||Nat.beq n 6||Nat.ble 9 n) (.int .i64 x.ti),vB (Nat.beq n 9||Nat.beq n 14) (qC t.wd),
  vB (Nat.beq n 5||Nat.beq n 6||Nat.beq n 10||Nat.beq n 11||go) (.int .i64 t.gen),vB (Nat.beq n 5||Nat.beq n 6) (.bool t.ps),vB go (pk (iW+1)),undef])]++
 bif lk then [fdV c w t.look x]else bif go then [XX c (iW+1) t.rt x]else []
def gvN:pg->Nat| .closed=>0| .look=>1| .rest=>2| .go=>3| .done=>4
def gvH(c:Cn)(w:Nat)(g:Gv)(iW:Nat)(x:Ex):List Go.Sx.ag:=
 let n:=gvN g.st
 let go:=Nat.beq n 3
 [bl (dI c++[.int .i64 (w:Int),.int .i64 g.i,.int .i64 g.gen,.bool g.dc,.int .i64 (n:Int),.int .i64 g.cl,vB (Nat.beq n 2) (qC g.wd),vB go (pk (iW+1)),undef])]++
 bif go then [XX c (iW+1) g.rt x]else []
def smN:wV->Nat| .closed=>0| .look=>1| .swap=>2| .done=>3
def smH(c:Cn)(w:Nat)(s:Sm)(iW:Nat):List Go.Sx.ag:=
 let n:=smN s.st
 let sw:=Nat.beq n 2
 [bl (dI c++[.int .i64 (w:Int),.int .i64 s.i,.int .i64 s.gen,.int .i64 (n:Int),vB sw (qC s.wd),vB sw (qC s.nx),vB sw (.int .i64 s.num),
  (bif s.op then EW 161 [iW+1,iW+2]else EW 162 [iW+1,iW+2]),undef])]++
 bif s.op then [bl [.int .i64 (w:Int)],bl (dI c)]else [bl [.int .i64 (w:Int)],bl [.int .i64 s.n]]
def quF:JK->Nat| .come=>243| .push=>268| .closed=>278| .look=>131| .drop=>207| .head=>226| .pop=>260| .tell=>276| .done=>0
def quV(c:Cn)(w:Nat)(k:Nat)(q:Qu):Go.Sx.ag:=bl (dI c++[.int .i64 (w:Int),.int .i64 (au q.ln),.int .i64 (q.first:Int),mth (quF q.st) k,.int .i64 q.why,undef])
def BO:mO->Nat| .ep=>0| .pin=>1| .cl=>2| .dL=>3| .go=>4| .old=>5| .pins=>6| .clear=>7| .line=>8| .some=>9| .keep=>10| .pop=>11| .grant=>12| .back=>13| .dR=>14| .eO=>15| .again=>16| .done=>17
def Xp(c:Cn)(w:Nat)(t:Td)(iW:Nat)(x:Ex):List Go.Sx.ag:=
 let n:=BO t.st
 let lk:=(Nat.ble 3 n&&Nat.ble n 7)||Nat.beq n 9||Nat.beq n 10
 let go:=Nat.beq n 4
 [bl (dI c++[.int .i64 (w:Int),.int .i64 (n:Int),.int .i64 t.ep,.int .i64 t.cl,.int .i64 (au t.qu),vB lk (pk (iW+1)),.int .i64 (t.i:Int),vB (Nat.beq n 6||Nat.beq n 7||Nat.beq n 10||Nat.beq n 14) (qC t.wd),.int .i64 x.bf,.int .i64 (t.head:Int),vB go (pk (iW+2))])]++
 (bif lk then [fdV c w t.look x]else [])++bif go then [XX c (iW+2) t.rt x]else []
def Oo(t:Ti)(k:Nat):Value×List Go.Sx.ag:=match t.rd with|[]=>(.slice none 0 0,[])|a::r=>(.slice (some ⟨k,0,some 1⟩) t.rl 0,[Go.Sx.ag.ints true true (a::r)])
def GQ(t:Ti)(k:Nat):Value×List Go.Sx.ag:=match t.last with|none=>(.slice none 0 0,[])|some l=>(.slice (some ⟨k,0,some 1⟩) t.ll 0,[Go.Sx.ag.ints true true l])
def SK(c:Cn)(t:Ti)(iW:Nat):List Go.Sx.ag:=
 [bl (dI c++[(Oo t (iW+1)).1,(GQ t (iW+1+(Oo t 0).2.length)).1,.int .i64 t.n,.bool t.dn])]++(Oo t 0).2++(GQ t 0).2
def twH(c:Cn)(t:Tw)(iW:Nat):List Go.Sx.ag:=SK c (Ti.of t) iW
def rpN:MO->Nat| .look=>0| .ask=>1| .mark=>2| .dB=>3
def rpH(c:Cn)(w:Nat)(r:Rp)(iW:Nat)(x:Ex):List Go.Sx.ag:=
 let rt:=Nat.beq (rpN r.st) 3
 [bl [.int .i64 (rpN r.st:Int),.int .i64 r.many,pk (iW+1),vB rt (pk (iW+2))],fdV c w r.look x]++bif rt then [XX c (iW+2) r.rt x]else []
def Dg(w:Nat):List Go.Sx.ag:=[bl [pk 9],bl [pk 0],bl [.int .i64 (w:Int)]]
def gW(n:Nat):List Value:=List.replicate n undef
def kD(st:Nat)(x:Wr)(half:Bool)(word wk tw qu td pks tmd:Value)(an:List Value):List Value:=
 .int .i64 (st:Int)::(vg x.ask++[.bool half,word,.int .i64 x.grant,wk,tw,qu,td,pks,tmd]++an)
def mZ(c:Cn)(w:Nat)(x:Wr)(e:Ex):List Value×List Go.Sx.ag:=
 match x.ph with
 | .rest=>(kD 0 x false undef undef undef undef undef undef undef (gW 18),[])
 | .pin none=>(kD 1 x false undef undef undef undef undef undef undef (gW 18),[])
 | .pin (some e)=>(kD 1 x true (.int .i64 e) undef undef undef undef undef undef (gW 18),[])
 | .work (.get t)=>(kD 2 x false undef (EW 122 [6,7,8]) undef undef undef undef undef (gW 18),Dg w++tkH c w t 9 e)
 | .work (.give g)=>(kD 2 x false undef (EW 155 [6,7,8]) undef undef undef undef undef (gW 18),Dg w++gvH c w g 9 e)
 | .work (.strm g)=>(kD 2 x false undef (EW 158 [6,7,8]) undef undef undef undef undef (gW 18),Dg w++smH c w g 9)
 | .work (.aS r)=>(kD 2 x false undef (EW 164 [6,7,8]) undef undef undef undef undef (gW 18),Dg w++rpH c w r 9 e)
 | .work (.close none)=>(kD 2 x false undef (EW 172 [6,7,8,9]) undef undef undef undef undef (gW 18),[bl [.pointer none],bl [pk 0],bl [.int .i64 (w:Int)],bl [.bool x.ask.force]])
 | .work (.close (some q))=>(kD 2 x false undef (EW 172 [6,7,8,9]) undef undef undef undef undef (gW 18),[bl [pk 10],bl [pk 0],bl [.int .i64 (w:Int)],bl [.bool x.ask.force],quV c 0 10 q])
 | .work (.stats t)=>(kD 2 x false undef (EW 175 [6,7,8]) undef undef undef undef undef (gW 18),Dg w++twH c t 9)
 | .counts t=>(kD 3 x false undef undef (pk 6) undef undef undef undef (gW 18),twH c t 6)
 | .enters q=>(kD 4 x false undef undef undef (pk 6) undef undef undef (gW 18),[quV c w 6 q])
 | .ax t none a=>(kD 5 x false undef undef undef undef (pk 6) (.bool false) undef (alD a),Xp c w t 6 e)
 | .ax t (some b) _=>(kD 5 x false undef undef undef undef (pk 6) (.bool true) (.bool b) (gW 18),Xp c w t 6 e)
 | .parked b=>(kD 6 x false undef undef undef undef undef undef (.bool b) (gW 18),[])
 | .wakes none=>(kD 7 x false undef undef undef undef undef undef undef (gW 18),[])
 | .wakes (some g)=>(kD 7 x true (.int .i64 g) undef undef undef undef undef undef (gW 18),[])
 | .leaves q=>(kD 8 x false undef undef undef (pk 6) undef undef undef (gW 18),[quV c w 6 q])
def cZ(c:Cn)(w:Nat)(x:Wr):List Value×List Go.Sx.ag:=mZ c w x (EU c x.ph)
def Al(q:Xq)(ev:Value):List Value:=dI q.c++[pk 1,pk 2,pk 3,ev,.slice (some ⟨5,q.who,some 4⟩) q.c.W q.c.W,.int .i64 q.aj,.int .i64 q.at_]
def Ea(q:Xq)(e:Ex):List Go.Sx.ag:=
 [bl (Al q (.slice (some ⟨4,0,some 1⟩) (q.n+1) 0)),.abs true (.mem q.c q.m),bl [.int .i64 q.now],.abs true (.kL q.wo),.rows true true 18 (q.n+1) q.R,.win true true q.rest (mZ q.c q.who q.x e).1]++(mZ q.c q.who q.x e).2
def fq(q:Xq):List Go.Sx.ag:=Ea q (EU q.c q.x.ph)
def ZC:Go.Sx.ag->List Value
 | .cells _ _ c=>c
 | .win _ _ _ c=>c
 |_=>[]
def ak9:Value->List Nat
 | .pointer (some ⟨k,_,_⟩)=>[k]
 |_=>[]
def KL:Value->Nat
 | .int _ (.ofNat n)=>n
 |_=>1000
def abt:Value->Bool
 | .bool b=>b
 |_=>false
def xM:List Bool->List Value->List Value
 |b::r,v::l=>(bif b then v else undef)::xM r l
 |[],l=>l
 |_::_,[]=>[]
def rep(n:Nat)(b:Bool):List Bool:=List.replicate n b
def at'(l:List Value)(i:Nat):Value:=l.getD i undef
def Zk(kd:Nat)(l:List Value):List Bool:=
 match kd with
 |1=>let n:=KL (at' l 6)
  rep 7 true++[Nat.ble 1 n&&Nat.ble n 8,Nat.beq n 5||Nat.beq n 6||Nat.ble 9 n,Nat.beq n 9||Nat.beq n 14,Nat.beq n 5||Nat.beq n 6||Nat.beq n 10||Nat.beq n 11||Nat.beq n 12,Nat.beq n 5||Nat.beq n 6,Nat.beq n 12,false]
 |2=>rep 8 true++[abt (at' l 9),true]
 |3=>match at' l 3 with
  | .func (.func f) _ _=>[true,Nat.beq f (XY .swap)||Nat.beq f (XY .look)||Nat.beq f (XY .iI),Nat.beq f (XY .iI),true,true,false]
  |_=>[]
 |4=>let n:=KL (at' l 9)
  rep 11 true++[Nat.beq n 2,Nat.beq n 3,false]
 |5=>let n:=KL (at' l 8)
  rep 9 true++[Nat.beq n 2,Nat.beq n 2,Nat.beq n 2,true,false]
 |6=>let n:=KL (at' l 0)
  [true,true,true,Nat.beq n 3]
 |7=>rep 10 true++[false]
 |8=>let n:=KL (at' l 6)
  rep 10 true++[(Nat.ble 3 n&&Nat.ble n 7)||Nat.beq n 9||Nat.beq n 10,true,Nat.beq n 6||Nat.beq n 7||Nat.beq n 10||Nat.beq n 14,true,true,Nat.beq n 4]
 |9=>let n:=KL (at' l 0)
  let h:=abt (at' l 8)
  let p:=abt (at' l 15)
  rep 9 true++[h,true,Nat.beq n 2,Nat.beq n 3,Nat.beq n 4||Nat.beq n 8,Nat.beq n 5,Nat.beq n 5,(Nat.beq n 5&&p)||Nat.beq n 6]++rep 18 (Nat.beq n 5&& !p)
 |_=>rep l.length true
def Am(kd:Nat):Go.Sx.ag->Go.Sx.ag
 | .cells o w c=>.cells o w (xM (Zk kd c) c)
 | .win o w r c=>.win o w r (xM (Zk kd c) c)
 |b=>b
def slK:Value->List (Nat×Nat)
 | .slice (some ⟨k,_,_⟩) _ _=>[(k,0)]
 |_=>[]
def mg(kd:Nat)(v:Value):List (Nat×Nat):=(ak9 v).map fun k=>(k,kd)
def ajs(kd:Nat)(l:List Value):List (Nat×Nat):=
 match kd with
 |1=>mg 2 (at' l 7)++mg 3 (at' l 12)
 |4=>mg 3 (at' l 12)
 |5=>match at' l 12 with
  | .func _ _ c=>c.toList.flatMap (mg 0)
  |_=>[]
 |6=>mg 2 (at' l 2)++mg 3 (at' l 3)
 |8=>mg 2 (at' l 10)++mg 3 (at' l 15)
 |9=>(match at' l 11 with
   | .func (.func f) _ c=>match c.toList with
    |v::r=>mg (bif Nat.beq f 122 then 11 else bif Nat.beq f 155 then 14 else bif Nat.beq f 158 then 15 else
      bif Nat.beq f 164 then 16 else bif Nat.beq f 172 then 17 else 18) v++r.flatMap (mg 0)
    |[]=>[]
   |_=>[])++mg 10 (at' l 12)++mg 7 (at' l 13)++mg 8 (at' l 14)
 |11=>mg 1 (at' l 0)
 |10=>slK (at' l 5)++slK (at' l 6)
 |18=>mg 10 (at' l 0)
 |14=>mg 4 (at' l 0)
 |15=>mg 5 (at' l 0)
 |16=>mg 6 (at' l 0)
 |17=>mg 7 (at' l 0)
 |_=>[]
def bfs(lh:List Go.Sx.ag):Nat->List (Nat×Nat)->List (Nat×Nat)
 |0,_=>[]
 |n+1,[]=>[]
 |n+1,(k,kd)::r=>(k,kd)::bfs lh n (r++ajs kd (ZC (Am kd (lh.getD k .dead))))
def alC(v:Value):Nat:=match v with| .slice (some ⟨k,_,_⟩) _ _=>k|_=>1000
def Af(lh:List Go.Sx.ag):List (Nat×Nat):=
 [(0,0),(1,0),(2,0),(3,0),(alC (at' (ZC (lh.getD 0 .dead)) 8),0)]++bfs lh 20 [(5,9)]
def canon(lh:List Go.Sx.ag):M (List Go.Sx.ag):=
 cond (nodupB ((Af lh).map (·.1))) (.ret ((Af lh).map fun e=>qJ (posOf ((Af lh).map (·.1)) 0) (Am e.2 (lh.getD e.1 .dead)))) .bad
end
noncomputable section
open Go.RowKit Go.bn Go.Sx
noncomputable def acP:List (FuncId×Func):=[(11,Tryz.f11),(17,Tryz.f17),(18,Tryz.f18),(23,Tryz.f23),(34,Tryz.f34),(35,Tryz.f35),(36,Tryz.f36),(38,Tryz.f38),(39,Tryz.f39),(42,Tryz.f42),(43,Tryz.f43),(49,Tryz.f49),(50,Tryz.f50),(53,Tryz.f53),(62,Tryz.f62),(63,Tryz.f63),(64,Tryz.f64),(65,Tryz.f65),(66,Tryz.f66),(67,Tryz.f67),(68,Tryz.f68),(69,Tryz.f69),(70,Tryz.f70),(71,Tryz.f71),(72,Tryz.f72),(81,Tryz.f81),(83,Tryz.f83),(84,Tryz.f84),(85,Tryz.f85),(86,Tryz.f86),(88,Tryz.f88),(89,Tryz.f89),(90,Tryz.f90),(91,Tryz.f91),(92,Tryz.f92),(93,Tryz.f93),(94,Tryz.f94),(95,Tryz.f95),(102,Tryz.f102),(103,Tryz.f103),(104,Tryz.f104),(105,Tryz.f105),(106,Tryz.f106),(107,Tryz.f107),(108,Tryz.f108),(109,Tryz.f109),(110,Tryz.f110),(111,Tryz.f111),(112,Tryz.f112),(113,Tryz.f113),(114,Tryz.f114),(115,Tryz.f115),(116,Tryz.f116),(117,Tryz.f117),(118,Tryz.f118),(122,Tryz.f122),(123,Tryz.f123),(125,Tryz.f125),(126,Tryz.f126),(127,Tryz.f127),(128,Tryz.f128),(129,Tryz.f129),(130,Tryz.f130),(131,Tryz.f131),(155,Tryz.f155),(156,Tryz.f156),(157,Tryz.f157),(158,Tryz.f158),(159,Tryz.f159),(160,Tryz.f160),(161,Tryz.f161),(162,Tryz.f162),(163,Tryz.f163),(164,Tryz.f164),(165,Tryz.f165),(166,Tryz.f166),(167,Tryz.f167),(169,Tryz.f169),(170,Tryz.f170),(171,Tryz.f171),(172,Tryz.f172),(173,Tryz.f173),(174,Tryz.f174),(175,Tryz.f175),(185,Tryz.f185),(186,Tryz.f186),(187,Tryz.f187),(188,Tryz.f188),(189,Tryz.f189),(190,Tryz.f190),(191,Tryz.f191),(192,Tryz.f192),(193,Tryz.f193),(194,Tryz.f194),(195,Tryz.f195),(196,Tryz.f196),(197,Tryz.f197),(198,Tryz.f198),(199,Tryz.f199),(200,Tryz.f200),(201,Tryz.f201),(202,Tryz.f202),(203,Tryz.f203),(204,Tryz.f204),(206,Tryz.f206),(207,Tryz.f207),(216,Tryz.f216),(217,Tryz.f217),(218,Tryz.f218),(219,Tryz.f219),(220,Tryz.f220),(221,Tryz.f221),(222,Tryz.f222),(223,Tryz.f223),(225,Tryz.f225),(226,Tryz.f226),(227,Tryz.f227),(228,Tryz.f228),(229,Tryz.f229),(230,Tryz.f230),(231,Tryz.f231),(232,Tryz.f232),(233,Tryz.f233),(234,Tryz.f234),(235,Tryz.f235),(236,Tryz.f236),(237,Tryz.f237),(238,Tryz.f238),(239,Tryz.f239),(240,Tryz.f240),(241,Tryz.f241),(242,Tryz.f242),(243,Tryz.f243),(244,Tryz.f244),(245,Tryz.f245),(246,Tryz.f246),(247,Tryz.f247),(248,Tryz.f248),(249,Tryz.f249),(251,Tryz.f251),(256,Tryz.f256),(257,Tryz.f257),(259,Tryz.f259),(260,Tryz.f260),(261,Tryz.f261),(262,Tryz.f262),(263,Tryz.f263),(264,Tryz.f264),(265,Tryz.f265),(266,Tryz.f266),(268,Tryz.f268),(269,Tryz.f269),(273,Tryz.f273),(274,Tryz.f274),(275,Tryz.f275),(276,Tryz.f276),(278,Tryz.f278),(279,Tryz.f279),(280,Tryz.f280)]
noncomputable def wkO:List (FuncId×bZ):=[(73,V9),(75,V4),(74,Ak),(87,II),(258,WY),(52,XE),(82,ac4),(80,ads),(54,FR),(55,Ct),(168,KD),(281,KE),(30,Cs),(124,Bz),(37,BA),(119,acd),(120,acg),(176,Qz),(267,PK),(205,PL),(250,KI),(277,KH),(254,KJ),(252,PI)]
noncomputable def qO:Env:=Po nD Tryz.prog acP [GZ] wkO []
end
noncomputable section
open Go.RowKit Go.bn Go.Sx
theorem Z9:∀e∈acP,iL Tryz.prog e.1 e.2:=
 fk Tryz.func11<|fk Tryz.func17<|fk Tryz.func18<|fk Tryz.func23<|fk Tryz.func34<|fk Tryz.func35<|fk Tryz.func36<|fk Tryz.func38<|fk Tryz.func39<|fk Tryz.func42<|fk Tryz.func43<|fk Tryz.func49<|fk Tryz.func50<|fk Tryz.func53<|fk Tryz.func62<|fk Tryz.func63<|fk Tryz.func64<|fk Tryz.func65<|fk Tryz.func66<|fk Tryz.func67<|fk Tryz.func68<|fk Tryz.func69<|fk Tryz.func70<|fk Tryz.func71<|fk Tryz.func72<|fk Tryz.func81<|fk Tryz.func83<|fk Tryz.func84<|fk Tryz.func85<|fk Tryz.func86<|fk Tryz.func88<|fk Tryz.func89<|fk Tryz.func90<|fk Tryz.func91<|fk Tryz.func92<|fk Tryz.func93<|fk Tryz.func94<|fk Tryz.func95<|fk Tryz.func102<|fk Tryz.func103<|fk Tryz.func104<|fk Tryz.func105<|fk Tryz.func106<|fk Tryz.func107<|fk Tryz.func108<|fk Tryz.func109<|fk Tryz.func110<|fk Tryz.func111<|fk Tryz.func112<|fk Tryz.func113<|fk Tryz.func114<|fk Tryz.func115<|fk Tryz.func116<|fk Tryz.func117<|fk Tryz.func118<|fk Tryz.func122<|fk Tryz.func123<|fk Tryz.func125<|fk Tryz.func126<|fk Tryz.func127<|fk Tryz.func128<|fk Tryz.func129<|fk Tryz.func130<|fk Tryz.func131<|fk Tryz.func155<|fk Tryz.func156<|fk Tryz.func157<|fk Tryz.func158<|fk Tryz.func159<|fk Tryz.func160<|fk Tryz.func161<|fk Tryz.func162<|fk Tryz.func163<|fk Tryz.func164<|fk Tryz.func165<|fk Tryz.func166<|fk Tryz.func167<|fk Tryz.func169<|fk Tryz.func170<|fk Tryz.func171<|fk Tryz.func172<|fk Tryz.func173<|fk Tryz.func174<|fk Tryz.func175<|fk Tryz.func185<|fk Tryz.func186<|fk Tryz.func187<|fk Tryz.func188<|fk Tryz.func189<|fk Tryz.func190<|fk Tryz.func191<|fk Tryz.func192<|fk Tryz.func193<|fk Tryz.func194<|fk Tryz.func195<|fk Tryz.func196<|fk Tryz.func197<|fk Tryz.func198<|fk Tryz.func199<|fk Tryz.func200<|fk Tryz.func201<|fk Tryz.func202<|fk Tryz.func203<|fk Tryz.func204<|fk Tryz.func206<|fk Tryz.func207<|fk Tryz.func216<|fk Tryz.func217<|fk Tryz.func218<|fk Tryz.func219<|fk Tryz.func220<|fk Tryz.func221<|fk Tryz.func222<|fk Tryz.func223<|fk Tryz.func225<|fk Tryz.func226<|fk Tryz.func227<|fk Tryz.func228<|fk Tryz.func229<|fk Tryz.func230<|fk Tryz.func231<|fk Tryz.func232<|fk Tryz.func233<|fk Tryz.func234<|fk Tryz.func235<|fk Tryz.func236<|fk Tryz.func237<|fk Tryz.func238<|fk Tryz.func239<|fk Tryz.func240<|fk Tryz.func241<|fk Tryz.func242<|fk Tryz.func243<|fk Tryz.func244<|fk Tryz.func245<|fk Tryz.func246<|fk Tryz.func247<|fk Tryz.func248<|fk Tryz.func249<|fk Tryz.func251<|fk Tryz.func256<|fk Tryz.func257<|fk Tryz.func259<|fk Tryz.func260<|fk Tryz.func261<|fk Tryz.func262<|fk Tryz.func263<|fk Tryz.func264<|fk Tryz.func265<|fk Tryz.func266<|fk Tryz.func268<|fk Tryz.func269<|fk Tryz.func273<|fk Tryz.func274<|fk Tryz.func275<|fk Tryz.func276<|fk Tryz.func278<|fk Tryz.func279<|fk Tryz.func280<|jL rfl
end
noncomputable section
open Go.RowKit Go.bn Go.Sx
variable{α:Type}
def jM(c:Cn)(i:Int)(F:Nat->M α)(no:M α):M α:=.br (Nat.ble c.S 1000) (.br (uD (c.S:Int) i) (F i.toNat) no) .bad
def ve(c:Cn)(m:Mm)(i:Nat)(s t:aa)(yes no:Mm->M α):M α:=.br (Nat.blt i c.S) (.br (sure (m.sl i=s)) (yes (m.set i t)) (no m)) .bad
def tJ(c:Cn)(m:Mm)(i:Nat)(F:aa->M α):M α:=.br (Nat.blt i c.S) (F (m.sl i)) .bad
def og(s:aa)(k own more:Int)(no:M α)(F:aa->M α):M α:=.br (!(az s k own more).isSome) no (.br (sure (Facts (iN (az s k own more)))) (F (iN (az s k own more))) .bad)
def MF(f:Fd):Int:=(f.at_:Int)
def SG(f:Fd):Int:=aR ((f.at_:Int)+1)
def xh(c:Cn)(m:Mm)(f:Fd)(found all more:Fd->Int->M α):M α:=
 .br (decide (MF f>=(c.S:Int))) (all f (MF f)) (jM c (MF f) (fun i=>tJ c m i fun s=>.br (kI s (f.kd:Int) f.ow) (found {f with fd:=some s} (MF f))
  (.br (decide (SG f>=(c.S:Int))) (all {f with at_:=f.at_+1} (SG f)) (more {f with at_:=f.at_+1} (SG f)))) .bad)
def EP(f:Fd)(F:Fd->Int->M α):M α:=match f.fd with
 |some _=>F {f with fd:=none,at_:=f.at_+1} (SG f)
 |none=>F f (MF f)
def uV(c:Cn)(i:Int)(F:Nat->Value->M α):M α:=jM c i (fun j=>F j (nI (3+2*c.W) j)) (F i.toNat (.int .i64 (-1)))
def Tg(c:Cn)(m:Mm)(r:Rt)(dn go:Rt->Mm->M α):M α:=
 match r.st with
 | .swap=>og r.wd 11 0 4095 (dn {r with st:=.done} m) fun n=>ve c m r.i r.wd n (fun m=>go {r with wd:=n,st:=.look,sw:=true} m) (fun m=>dn {r with st:=.done} m)
 | .look=>go {r with ep:=m.ep,st:=.iI} m
 | .iI=>og r.wd 17 0 r.ep (go {r with st:=.jk} m) fun n=>ve c m r.i r.wd n (fun m=>go {r with st:=.jk} m) (fun m=>go {r with st:=.jk} m)
 | .jk=>dn {r with st:=.done} {m with ep:=aR (m.ep+1)}
 | .done=>dn r m
abbrev RQ:=Xq×Ex
def Xq.ex(q:Xq):Ex:=EU q.c q.x.ph
def Xq.to(q:Xq)(m:Mm)(p:Ph):Xq:={q with m:=m,x:=q.x.to p}
def Xq.fin(q:Xq)(m:Mm)(a:bR):Xq:={q with m:=m,x:=q.x.end_ a}
def rq(q:Xq):M RQ:=.ret (q,q.ex)
def yo(q:Xq)(a:Int):M RQ:=.ret (q,{q.ex with at_:=a})
def qI(q:Xq)(v:Value):M RQ:=.ret (q,{q.ex with cell:=v})
def tV(c:Cn)(w:Nat)(m:Mm)(t:Tk)(i:Nat)(wd:aa)(d:Int)(yes:Tk->Mm->M α)(no:Mm->M α):M α:=
 og wd d w 0 (no m) fun n=>jM c (i:Int) (fun _=>ve c m i wd n (fun m=>yes {t with i:=i,wd:=n,gen:=n.gen} m) no) .bad
def lG(q:Xq)(t:Tk)(g:Bool):M RQ:=
 let c:=q.c;let w:=q.who;let m:=q.m
 let go:Tk->Mm->M RQ:=fun t m=>rq (q.to m (.work (.get t)))
 let rR:Tk->Int->M RQ:=fun t a=>yo (q.to m (.work (.get t))) a
 let er:Int->Mm->M RQ:=fun e m=>rq (q.fin m (.err e))
 match t.st with
 | .closed=>.br (m.cl != 0) (er 5 m) (go (t.search .own 0 w) m)
 | .own=>xh c m t.look (fun f a=>rR {t with look:=f,st:=.gp} a) (fun f _=>go (({t with look:=f}:Tk).search .any 1 w) m) (fun f a=>rR {t with look:=f} a)
 | .gp=>tV c w m t t.look.at_ t.look.wd 3 (fun t m=>go {t with st:=.check} m) (fun m=>go {t with look:=t.look.again,st:=.own} m)
 | .any=>xh c m t.look (fun f a=>rR {t with look:=f,st:=.anyS} a) (fun f _=>go (({t with look:=f}:Tk).search .free 2 w) m) (fun f a=>rR {t with look:=f} a)
 | .anyS=>tV c w m t t.look.at_ t.look.wd 3 (fun t' m=>.br (t.look.wd.own != (w:Int)) (go (({t' with ps:=false}:Tk).search .move 0 t.look.wd.own) m) (go {t' with st:=.check} m)) (fun m=>go {t with look:=t.look.again,st:=.any} m)
 | .move=>xh c m t.look (fun f a=>.br t.ps (EP f fun f a=>rR {t with ps:=false,look:=f} a) (rR {t with ps:=true,look:=f,st:=.dD} a)) (fun f _=>go {t with look:=f,st:=.check} m) (fun f a=>rR {t with look:=f} a)
 | .dD=>
  let on:Mm->M RQ:=fun m=>EP t.look fun f a=>yo (q.to m (.work (.get {t with look:=f,st:=.move}))) a
  og t.look.wd 9 w 0 (on m) fun n=>jM c (t.look.at_:Int) (fun _=>ve c m t.look.at_ t.look.wd n on on) .bad
 | .free=>xh c m t.look (fun f a=>rR {t with look:=f,st:=.dQ} a) (fun f _=>.br q.x.ask.wait (rq (q.to m (.enters Qu.enter))) (rq (q.to m (.counts Tw.new)))) (fun f a=>rR {t with look:=f} a)
 | .dQ=>tV c w m t t.look.at_ t.look.wd 0 (fun t m=>go {t with st:=.bM} m) (fun m=>go {t with look:=t.look.again,st:=.free} m)
 | .bM=>.br g (tV c w m t t.i t.wd 1 (fun t m=>.br g (go {t with st:=.check} m) (er 6 m)) (fun m=>er 6 m)) (tV c w m t t.i t.wd 2 (fun t m=>.br g (go {t with st:=.check} m) (er 6 m)) (fun m=>er 6 m))
 | .check=>.br (m.cl==0) (rq (q.fin m ⟨0,t.i,t.gen,0,0,0,0,0⟩)) (go {t with st:=.back} m)
 | .back=>jM c (t.i:Int) (fun _=>tJ c m t.i fun s=>.br (s.st != 3) (er 5 m) (.br (s.own != (w:Int)) (er 5 m) (.br (s.gen != t.gen) (er 5 m) (uV c (t.i:Int) fun i v=>qI (q.to m (.work (.get {t with rt:=Rt.new t.i s,st:=.go}))) v)))) .bad
 | .go=>Tg c m t.rt (fun r m=>.br r.sw (er 5 m) (go {t with rt:=r,st:=.back} m)) (fun r m=>go {t with rt:=r} m)
 | .grant=>jM c (t.i:Int) (fun _=>tJ c m t.i fun s=>go {t with wd:=s,st:=.eG} m) .bad
 | .eG=>og t.wd 16 w 0 (er 5 m) fun n=>tV c w m t t.i t.wd 16 (fun t m=>.br (n.st==3) (go {t with st:=.check} m) (go {t with st:=.bM} m)) (fun m=>go {t with st:=.grant} m)
 | .done=>.bad
def NQ(q:Xq)(g:Gv):M RQ:=
 let c:=q.c;let w:=q.who;let m:=q.m
 let go:Gv->Mm->M RQ:=fun g m=>rq (q.to m (.work (.give g)))
 let fin:Int->Mm->M RQ:=fun e m=>rq (q.fin m (.err e))
 match g.st with
 | .closed=>.br (m.cl==2) (fin 5 m) (go {g with cl:=m.cl,st:=.look} m)
 | .look=>jM c g.i (fun i=>tJ c m i fun s=>.br (s.st != 3) (fin 2 m) (.br (s.own != (w:Int)) (fin 2 m) (.br (s.gen != g.gen) (fin 2 m)
   (let t:=uV c g.i fun i v=>qI (q.to m (.work (.give {g with wd:=s,rt:=Rt.new i s,st:=.go}))) v;
    let r:=M.br g.dc t (.br s.brk t (.br (decide (s.uses>=c.u)) t (.br (g.cl != 0) t (go {g with wd:=s,st:=.rest} m))));
    M.br (s.str != 0) (.br (!g.dc) (fin 8 m) r) r)))) (fin 2 m)
 | .rest=>og g.wd 4 w 0 (go {g with st:=.look} m) fun n=>jM c g.i (fun i=>ve c m i g.wd n (fun m=>fin 0 m) (fun m=>go {g with st:=.look} m)) .bad
 | .go=>Tg c m g.rt (fun r m=>.br r.sw (fin 0 m) (go {g with rt:=r,st:=.look} m)) (fun r m=>go {g with rt:=r} m)
 | .done=>.bad
def Nz(q:Xq)(s:Sm):M RQ:=
 let c:=q.c;let w:=q.who;let m:=q.m
 let go:Sm->Mm->M RQ:=fun s m=>rq (q.to m (.work (.strm s)))
 let fin:Int->Int->Mm->M RQ:=fun e n m=>rq (q.fin m ⟨e,0,0,n,0,0,0,0⟩)
 match s.st with
 | .closed=>.br (m.cl==2) (fin 5 0 m) (go {s with st:=.look} m)
 | .look=>jM c s.i (fun i=>tJ c m i fun x=>.br (x.st != 3) (fin 2 0 m) (.br (x.own != (w:Int)) (fin 2 0 m) (.br (x.gen != s.gen) (fin 2 0 m)
   (match s.op with
   |true=>.br x.brk (fin 9 0 m) (.br (!(az x 14 w c.st).isSome) (fin 10 0 m) (.br (sure (Facts (iN (az x 14 w c.st)))) (.br (vW (sX x.str (iN (az x 14 w c.st)).str)) (go {s with wd:=x,nx:=iN (az x 14 w c.st),num:=BF (sX x.str (iN (az x 14 w c.st)).str),st:=.swap} m) .bad) .bad))
   |false=>.br (!(az x 15 w s.n).isSome) (fin 11 0 m) (.br (sure (Facts (iN (az x 15 w s.n)))) (.br (vW (sX x.str (iN (az x 15 w s.n)).str)) (go {s with wd:=x,nx:=iN (az x 15 w s.n),num:=BF (sX x.str (iN (az x 15 w s.n)).str),st:=.swap} m) .bad) .bad))))) (fin 2 0 m)
 | .swap=>jM c s.i (fun i=>ve c m i s.wd s.nx (fun m=>fin 0 s.num m) (fun m=>go {s with st:=.look} m)) .bad
 | .done=>.bad
structure EK(σ β:Type) where
 go:σ->Mm->M β
 fin:Int->σ->Mm->M β
def Il(q:Int)(F:List Nat->M α):M α:=.br (sure (yC q)) (F (gH q)) .bad
def xX(m:Mm)(a b:Int)(yes no:Mm->M α):M α:=.br (au m.qu==a) (.br (sure (au (gH b)=b/\dZ (gH b))) (yes {m with qu:=gH b}) .bad) (no m)
def vU(c:Cn)(b:Nat)(i:Int)(F:Nat->M α):M α:=.br (Nat.ble c.W 1000&&Nat.ble c.S 1000) (.br (uD (c.W:Int) i) (F (i.toNat+b)) .bad) .bad
def Ye(c:Cn)(w:Nat)(m:Mm)(q:Qu)(K:EK Qu α):M α:=
 match q.st with
 | .come=>Il (au m.qu) fun l=>.br (decide ((l.length:Int)>=(c.wt:Int))) (K.fin 7 q m) (Il (au m.qu) fun l=>.br (sure (w∈l)) (K.fin 7 q m) (K.go {q with ln:=m.qu,st:=.push} m))
 | .push=>.br (sure (yC (au q.ln)/\(gH (au q.ln)).length<15/\w<=14/\w∉gH (au q.ln))) (xX m (au q.ln) (au (gH (au q.ln)++[w])) (fun m=>K.go {q with st:=.closed} m) (fun m=>K.go {q with st:=.come} m)) .bad
 | .closed=>.br (m.cl==0) (K.fin 0 q m) (K.go {q with why:=5,st:=.look} m)
 | .look=>Il (au m.qu) fun l=>.br (!sure (w∈l)) (K.fin 8 q m) (K.go {q with ln:=m.qu,st:=.drop} m)
 | .drop=>.br (sure (yC (au q.ln)/\(gH (au q.ln)).Nodup/\w∈gH (au q.ln))) (xX m (au q.ln) (au ((gH (au q.ln)).erase w)) (fun m=>K.fin q.why q m) (fun m=>K.go {q with st:=.look} m)) .bad
 | .head=>Il (au m.qu) fun l=>.br (sure (l=[])) (K.fin 0 q m) (K.go {q with ln:=m.qu,first:=l.headD 0,st:=.pop} m)
 | .pop=>Il (au q.ln) fun l=>xX m (au q.ln) (au l.tail) (fun m=>K.go {q with st:=.tell} m) (fun m=>K.go {q with st:=.head} m)
 | .tell=>vU c (3+c.W) (q.first:Int) fun n=>pM c m n (-1) fun m=>K.go {q with st:=.head} m
 | .done=>.bad
def rY(c:Cn)(m:Mm)(t:Td)(d own:Int)(yes no:Mm->M α):M α:=og t.wd d own 0 (no m) fun n=>jM c (t.i:Int) (fun i=>ve c m i t.wd n yes no) .bad
def BJ(c:Cn)(m:Mm)(t:Td)(found:Td->Int->M α)(all more:Td->Int->M α):M α:=
 xh c m t.look (fun f a=>found {t with look:=f,i:=f.at_,wd:=f.wd} a) (fun f a=>all {t with look:=f} a) (fun f a=>more {t with look:=f} a)
def Cq(w:Nat)(o:Int)(F:Int->M α):M α:=.br (aR (o+1)==(w:Int)) (F (aR (aR (o+1)+1))) (F (aR (o+1)))
def tdQ(q:Xq)(t:Td)(p:Option Bool)(an:bR)(dn:Mm->M RQ):M RQ:=
 let c:=q.c;let w:=q.who;let m:=q.m
 let go:Td->Mm->M RQ:=fun t m=>rq (q.to m (.ax t p an))
 let rR:Td->Mm->Int->M RQ:=fun t m a=>yo (q.to m (.ax t p an)) a
 let on:Mm->M RQ:=fun m=>EP t.look fun f a=>rR {t with look:=f,st:=.old} m a
 match t.st with
 | .ep=>go {t with ep:=m.ep,st:=.pin} m
 | .pin=>vU c 3 (w:Int) fun n=>pM c m n (aR (t.ep+1)) fun m=>go {t with st:=.cl} m
 | .cl=>go {t with cl:=m.cl,look:=Fd.new 4 m.cl,st:=.dL} m
 | .dL=>BJ c m t (fun t a=>uV c (t.i:Int) fun i v=>.ret (q.to m (.ax {t with rt:=Rt.new i t.wd,st:=.go} p an),{Xq.ex (q.to m (.ax {t with rt:=Rt.new i t.wd,st:=.go} p an))with at_:=a,cell:=v})) (fun t _=>go {t with look:=Fd.new 5 w,st:=.old} m) (fun t a=>rR t m a)
 | .go=>Tg c m t.rt (fun r m=>go {t with rt:=r,look:=t.look.again,st:=.dL} m) (fun r m=>go {t with rt:=r} m)
 | .old=>BJ c m t (fun t a=>Cq w (-1) fun o=>
    let g:mO->M RQ:=fun s=>.ret (q.to m (.ax {t with other:=o.toNat,st:=s} p an),{Xq.ex (q.to m (.ax {t with other:=o.toNat,st:=s} p an))with at_:=a,bf:=o});
    M.br (!decide (o<(c.W:Int))) (g .clear) (g .pins))
   (fun t a=>.br (t.cl != 0) (rR {t with st:=.eO} m a) (rR {t with st:=.line} m a)) (fun t a=>rR t m a)
 | .pins=>vU c 3 (t.other:Int) fun n=>tN c m n fun x=>
   let nx:=Cq w (t.other:Int) fun o=>
    (let g:mO->M RQ:=fun s=>.ret (q.to m (.ax {t with other:=o.toNat,st:=s} p an),{Xq.ex (q.to m (.ax {t with other:=o.toNat,st:=s} p an))with bf:=o});
    M.br (!decide (o<(c.W:Int))) (g .clear) (g .pins));
   M.br (decide (x<1)) nx (.br (decide (aR (x-1)<=t.wd.ep)) (on m) nx)
 | .clear=>rY c m t 12 w on on
 | .line=>Il (au m.qu) fun l=>.br (sure (l=[])) (go {t with qu:=m.qu,st:=.eO} m) (go {t with qu:=m.qu,head:=l.headD 0,look:=Fd.new 3 w,st:=.some} m)
 | .some=>BJ c m t (fun t a=>rR {t with st:=.keep} m a) (fun t a=>rR {t with st:=.eO} m a) (fun t a=>rR t m a)
 | .keep=>.br (t.wd.st==2) (rY c m t 5 t.head (fun m=>go {t with st:=.pop} m) (fun m=>go {t with look:=t.look.again,st:=.some} m))
   (rY c m t 7 t.head (fun m=>go {t with st:=.pop} m) (fun m=>go {t with look:=t.look.again,st:=.some} m))
 | .pop=>Il (au t.qu) fun l=>xX m (au t.qu) (au l.tail) (fun m=>go {t with st:=.grant} m) (fun m=>go {t with st:=.back} m)
 | .grant=>vU c (3+c.W) (t.head:Int) fun n=>pM c m n (aR ((t.i:Int)+1)) fun m=>go {t with st:=.line} m
 | .back=>jM c (t.i:Int) (fun i=>tJ c m i fun s=>.br (s.st==4) (go {t with wd:=s,st:=.dR} m) (.br (s.st==5) (go {t with wd:=s,st:=.dR} m) (go {t with wd:=s,st:=.line} m))) .bad
 | .dR=>.br (t.wd.st==4) (rY c m t 6 w (fun m=>go {t with st:=.cl} m) (fun m=>go {t with st:=.back} m)) (rY c m t 8 w (fun m=>go {t with st:=.cl} m) (fun m=>go {t with st:=.back} m))
 | .eO=>vU c 3 (w:Int) fun n=>pM c m n 0 fun m=>go {t with st:=.again} m
 | .again=>.br (m.ep==t.ep) (dn m) (go {t with st:=.ep} m)
 | .done=>.bad
def ND(q:Xq)(r:Rp):M RQ:=
 match r.st with
 | .look=>xh q.c q.m r.look (fun f a=>yo (q.to q.m (.work (.aS {r with look:=f,st:=.ask}))) a) (fun _ _=>rq (q.fin q.m ⟨0,r.many,0,0,0,0,0,0⟩)) (fun f a=>yo (q.to q.m (.work (.aS {r with look:=f}))) a)
 | .ask=>
  let q':={q with wo:=q.wo.tail};
  let no:=uV q.c (r.look.at_:Int) fun i v=>qI (q'.to q.m (.work (.aS {r with rt:=Rt.new i r.look.wd,st:=.dB}))) v;
  M.br (xD q.wo) (.br (!r.look.wd.fO) (.br (!r.look.wd.brk) (rq (q'.to q.m (.work (.aS {r with st:=.mark})))) no) no) no
 | .mark=>let go:Mm->M RQ:=fun m=>EP r.look fun f a=>yo (q.to m (.work (.aS {r with look:=f,st:=.look}))) a;
  og r.look.wd 10 q.who 0 (go q.m) fun n=>jM q.c (r.look.at_:Int) (fun i=>ve q.c q.m i r.look.wd n go go) .bad
 | .dB=>Tg q.c q.m r.rt (fun t m=>.br t.sw (EP r.look fun f a=>yo (q.to m (.work (.aS {r with rt:=t,many:=aR (r.many+1),look:=f,st:=.look}))) a) (EP r.look fun f a=>yo (q.to m (.work (.aS {r with rt:=t,look:=f,st:=.look}))) a))
   (fun t m=>rq (q.to m (.work (.aS {r with rt:=t}))))
def QS(q:Xq)(m:Mm):M RQ:=
 let go:Wk->M RQ:=fun k=>rq (q.to m (.work k));
 let a:=q.x.ask;
 match a.op with
 |0=>.br (decide (q.x.grant>0)) (.ret (q.to m (.work (.get (Tk.granted (aR (q.x.grant-1)).toNat))),{Xq.ex (q.to m (.work (.get (Tk.granted (aR (q.x.grant-1)).toNat))))with ti:=aR (q.x.grant-1)})) (go (.get Tk.new))
 |1=>go (.give (Gv.new a.slot a.gen false))
 |2=>go (.give (Gv.new a.slot a.gen true))
 |3=>go (.strm (Sm.new true a.slot a.gen 0))
 |4=>go (.strm (Sm.new false a.slot a.gen a.strm))
 |5=>go (.aS ⟨.look,Fd.new 6 0,0,Rt.new 0 aa.zero⟩)
 |6=>go (.close none)
 |7=>go (.stats Tw.new)
 |_=>.bad
def D8(q:Xq)(u:Qu):M RQ:=
 Ye q.c q.who q.m u {go:=fun u m=>rq (q.to m (.leaves u)),fin:=fun e _ m=>.br (e==8) (rq (q.to m (.parked false))) (rq (q.fin m (.err e)))}
def wN:List Go.Sx.Kd:=[.bo,.it .i64,.it .i64,.it .i64,.it .i64,.bo,.bo,.it .i64,.it .i64,.it .i64,.it .i64,.it .i64,.it .i64,.it .i64,.it .i64,.it .i64,.it .i64,.it .i64]
def evV(w:Nat)(at_:Int)(k:Ask)(a:bR):List Value:=[.bool true,.int .i64 (w:Int),.int .i64 at_]++vg k++[.int .i64 a.e,.int .i64 a.slot,.int .i64 a.gen,.int .i64 a.strm,
 .int .i64 (a.cnt.1:Int),.int .i64 (a.cnt.2.1:Int),.int .i64 (a.cnt.2.2.1:Int),.int .i64 (a.cnt.2.2.2:Int)]
def Dy(q:Xq)(t:Td)(p:Option Bool)(a:bR):M RQ:=
 tdQ q t p a fun m=>match p with
  |some b=>rq (q.to m (.parked b))
  |none=>.br (Nat.beq (q.n+1) (q.n+1)) (.br (fG (q.n+2)&&mh q.R.ks wN) (rq {q.to m .rest with n:=q.n+1,R:=eY (q.n+1) (evV q.who q.aj q.x.ask a) q.R}) .bad) .bad
def GG(q:Xq):Option Int->M RQ
 |none=>vU q.c (3+q.c.W) (q.who:Int) fun n=>tN q.c q.m n fun x=>rq (q.to q.m (.wakes (some x)))
 |some g=>vU q.c (3+q.c.W) (q.who:Int) fun n=>pM q.c q.m n 0 fun m=>.br (decide (g<0)) (rq (q.fin m (.err 5))) (rq {q.to m (.pin none)with x:={(q.x.to (.pin none))with grant:=g}})
def Xq.tick(q:Xq):Xq:={q with aj:=aR (q.aj+1),at_:=q.aj}
def IC(q:Xq)(F:Int->M α):M α:=
 vU q.c (3+q.c.W) (q.who:Int) fun n=>.br (gu (Int.ofNat n) (3+2*q.c.W+q.c.S)) (F (q.m.gr q.who)) .bad
def fK(q:Xq):M (Bool×RQ):=
 let y:RQ->M (Bool×RQ):=fun r=>M.ret (true,r)
 let no:M (Bool×RQ):=.ret (false,(q,q.ex))
 match q.x.ph with
 | .rest=>no
 | .pin none=>.bind (rq (q.to q.m (.pin (some q.m.ep)))) y
 | .pin (some e)=>vU q.c 3 (q.who:Int) fun n=>pM q.c q.m n (aR (e+1)) fun m=>.bind (QS q m) y
 | .work (.get t)=>match t.st with
  | .bM=>.bind (lG {q with wo:=q.wo.tail} t (xD q.wo)) y
  |_=>.bind (lG q t false) y
 | .work (.give g)=>.bind (NQ q g) y
 | .work (.strm s)=>.bind (Nz q s) y
 | .work (.close none)=>let g:Mm->M (Bool×RQ):=fun m=>.bind (rq (q.to m (.work (.close (some Qu.drain))))) y
  .br q.x.ask.force (g {q.m with cl:=2}) (.br (q.m.cl==0) (g {q.m with cl:=1}) (g q.m))
 | .work (.close (some u))=>.bind (Ye q.c 0 q.m u {go:=fun u m=>rq (q.to m (.work (.close (some u)))),fin:=fun _ _ m=>rq (q.fin m (.err 0))}) y
 | .work (.aS r)=>.bind (ND q r) y
 | .work (.stats t)=>.bad
 | .counts t=>.bad
 | .enters u=>.bind (Ye q.c q.who q.m u {go:=fun u m=>rq (q.to m (.enters u)),fin:=fun e _ m=>let agG:=rq (q.to m (.ax Td.new (some (e==0)) (.err 0))); .br (e != 0) (.br (e != 8) (rq (q.fin m (.err e))) agG) agG}) y
 | .ax t p a=>.bind (Dy q t p a) y
 | .parked b=>
  let wake:=.bind (GG (q.to q.m (.wakes none)) none) y;
  let leave:=.bind (D8 q Qu.leave) y;
  let may:=IC q fun g=>.br (g != 0) wake leave;
  IC q fun g=>M.br (g != 0) may (.br b (.br (!decide (q.now>=q.x.ask.dl)) no may) no)
 | .wakes h=>.bind (GG q h) y
 | .leaves u=>.bind (D8 q u) y
def heapT(q:Xq)(st:Bool)(t:Ti):List Go.Sx.ag:=
 [bl (Al q (.slice (some ⟨4,0,some 1⟩) (q.n+1) 0)),.abs true (.mem q.c q.m),bl [.int .i64 q.now],.abs true (.kL q.wo),.rows true true 18 (q.n+1) q.R,
  .win true true q.rest (bif st then kD 2 q.x false undef (EW 175 [6,7,8]) undef undef undef undef undef (gW 18)else kD 3 q.x false undef undef (pk 6) undef undef undef undef (gW 18))]++
  bif st then Dg q.who++SK q.c t 9 else SK q.c t 6
def wJ(l:List Int)(n:Nat)(F:M α):M α:=.br (Nat.beq n l.length) F .bad
def laQ(t:Ti)(F:M α):M α:=match t.last with|none=>F|some l=>wJ l t.ll F
def tF(t:Ti)(G:M α->M α)(F:M α):M α:=match t.rd with|[]=>F|_::_=>G F
def Xl(t:Ti):Nat:=match t.rd with|[]=>0|_::_=>t.rl
def Xj(t:Ti):Nat:=match t.rd with|[]=>1|_::_=>t.rl+1
def Xi(m:Mm)(t:Ti):List Int:=t.rd++[bH (m.sl (Xl t))]
def Xg(m:Mm)(t:Ti)(d:Bool):Ti:=⟨[],0,some (Xi m t),(Xi m t).tail.length+1,d,aR (t.n+1)⟩
def tiQ(neg:Bool)(c:Cn)(m:Mm)(t:Ti)(no:Ti->M α)(yes:List Int->M α):M α:=
 let r:=Xi m t;
 let aby:M α->M α:=tF t (wJ r (Xj t));
 let ald:M α->M α:=tF t (wJ r (r.tail.length+1));
 let y:Bool->M α:=fun d=>M.br (!d) (yes []) (ald (Bj r (yes r)));
 let b:Bool->M α:=fun d=>bif neg then .br (!d) (no (Xg m t d)) (y d)else .br d (y d) (no (Xg m t d));
 jM c (Xl t:Int) (fun _=>tJ c m (Xl t) fun _=>tF t (fun F=>wJ t.rd t.rl (.br (fG (t.rl+1)) F .bad)) (.br (decide ((Xj t:Int)<(c.S:Int))) (no {t with rd:=r,rl:=Xj t})
  (.br (decide (t.n>0)) (aby (laQ t (Bj r (aby (Bj r (b (r==t.last.getD []))))))) (aby (Bj r (no (Xg m t false))))))) .bad
def OB(q:Xq)(t:Ti):M (List Go.Sx.ag):=
 tiQ false q.c q.m t (fun t=>.ret (heapT q.tick true t)) fun r=>(match r with|[]=>id|_::r'=>tF t (wJ r (r'.length+1)))<|Bj r<|.ret (fq (q.fin q.m ⟨0,0,0,0,fH r⟩).tick)
def Lf(l:List Int)(yes no:M α):M α:=
 match l with
 |[]=>no
 |x::l=>.br (jf x).isSome (.br (kI (iN (jf x)) 3 0) yes (Lf l yes no)) (Lf l yes no)
def K6(q:Xq)(t:Ti):M (List Go.Sx.ag):=
 tiQ true q.c q.m t (fun t=>.ret (heapT q.tick false t)) fun r=>Lf r (.ret (fq (q.to q.m (.work (.get Tk.new))).tick)) (.ret (fq (q.fin q.m (.err 3)).tick))
def bI(q:Xq)(ev:Value)(eb:Go.Sx.ag)(wc:List Value)(tl:List Go.Sx.ag):List Go.Sx.ag:=
 [bl (Al q ev),.abs true (.mem q.c q.m),bl [.int .i64 q.now],.abs true (.kL q.wo),eb,.win true true q.rest wc]++tl
def Iw(q:Xq):List Go.Sx.ag:=bI q (.slice none 0 0) .dead (cZ q.c q.who q.x).1 (cZ q.c q.who q.x).2
def UC(q:Xq)(n:Int):Bool×Xq:=(true,{q with now:=aR (q.now+if aR (1099511627776-q.now)<if 0>n then 0 else n then aR (1099511627776-q.now)else if 0>n then 0 else n)})
def IL(q:Xq)(b:Bool):M (Bool×Xq):=.br (Nat.blt q.wo.length 1000) (.ret (true,{q with wo:=q.wo++[b]})) (.ret (false,q))
def Zp(w:Nat)(at_:Int)(k:Ask):List Value:=[.bool false,.int .i64 (w:Int),.int .i64 at_]++vg k++[.int .i64 0,.int .i64 0,.int .i64 0,.int .i64 0,.int .i64 0,.int .i64 0,.int .i64 0,.int .i64 0]
def ah5(q:Xq)(a:Ask):Wr:=⟨.pin none,a,0⟩
end
noncomputable section
open Go.RowKit Go.bn Go.Sx
theorem CU:∀(f:List Bool) (l:List Value) (i:Nat) (v:Value),(xM f l)[i]?=some v->∃u,l[i]?=some u/\(v=u\/v=undef)
 |[],l,i,v,h=>⟨v,h,.inl rfl⟩
 |_::_,[],i,v,h=>by cases h
 |b::f,x::l,0,v,h=>by
  unfold xM at h;simp only[List.getElem?_cons_zero,Option.some.injEq]at h;refine⟨x,rfl,?_⟩;cases b with
  |true=>exact .inl h.symm
  |false=>exact .inr h.symm
 |b::f,x::l,i+1,v,h=>by
  unfold xM at h;simp only[List.getElem?_cons_succ]at h ⊢;exact CU f l i v h
theorem Mh:∀(f:List Bool) (l:List Value),(xM f l).length=l.length
 |[],l=>rfl
 |_::_,[]=>rfl
 |b::f,x::l=>by
  unfold xM;simp only[List.length_cons,Mh f l]
theorem Ii(kd:Nat)(b:Go.Sx.ag):(Am kd b).owned=b.owned:=by cases b<;>rfl
theorem Vv(kd:Nat)(b:Go.Sx.ag):(Am kd b).alive=b.alive:=by cases b<;>rfl
theorem abj(kd:Nat)(b:Go.Sx.ag):(Am kd b).aM=b.aM:=by cases b<;>rfl
theorem ae4{n:Nat->Prop}{σ:Nat->Option Pl}{kd:Nat}{b:Go.Sx.ag}{p:Pl}{w:World}(h:BR n σ b p w):BR n σ (Am kd b) p w:=by
 refine⟨fun ho=>h.1 (by rw[<-Ii kd];exact ho),?_⟩
 have h2:=h.2;cases b with
 |cells o wr c=>
  intro i v hv;obtain⟨u,hu,e⟩:=CU _ _ i v hv;obtain⟨v',h3,h4⟩:=h2 i u hu;rcases e with rfl|rfl
  ·exact⟨v',h3,h4⟩
  ·exact⟨v',h3,.any _⟩
 |win o wr r c=>
  obtain⟨h3,h4,h5⟩:=h2;refine⟨by rw[Mh];exact h3,fun i v hv=> ?_,h5⟩
  obtain⟨u,hu,e⟩:=CU _ _ i v hv;obtain⟨v',h3,h4⟩:=h4 i u hu;rcases e with rfl|rfl
  ·exact⟨v',h3,h4⟩
  ·exact⟨v',h3,.any _⟩
 |_=>exact h2
theorem Su{n:Nat->Prop}{w0 w:World}{G:Kj}{σ:Nat->Option Pl}{lh l:List Go.Sx.ag}(h:HR n w0 G σ lh w)(hc:(canon lh).get=some l):HR n w0 G (pull ((Af lh).map (·.1)) σ) l w:=by
 unfold canon at hc;generalize hρ:(Af lh).map (·.1)=ρ at hc ⊢
 have abL:∀j,ρ[j]?=(Af lh)[j]?.map (fun e:Nat×Nat=>e.1):=fun j=>by rw[<-hρ,List.getElem?_map]
 cases hn:nodupB ρ with
 |false=>rw[hn]at hc;cases hc
 |true=>
  rw[hn]at hc;simp only[cond_true,M.ah,Option.some.injEq]at hc;have hnd:=xI ρ hn
  have hat:∀j k,ρ[j]?=some k->∃kd,l.getD j .dead=qJ (posOf ρ 0) (Am kd (lh.getD k .dead)):=fun j k hj=>by
   rw[abL]at hj;cases he:(Af lh)[j]? with
   |none=>rw[he]at hj;cases hj
   |some e=>
    rw[he]at hj;cases hj;refine⟨e.2,?_⟩;rw[<-hc,List.getD_eq_getElem?_getD,List.getElem?_map,he];rfl
  have inj:∀i j k,ρ[i]?=some k->ρ[j]?=some k->i=j:=fun i j k hi hj=>xH hnd hi hj
  have hown:∀j k,ρ[j]?=some k->(l.getD j .dead).owned=(lh.getD k .dead).owned/\(l.getD j .dead).alive=(lh.getD k .dead).alive/\(l.getD j .dead).aM=(lh.getD k .dead).aM:=fun j k hj=>by
   obtain⟨kd,e⟩:=hat j k hj;rw[e,lV,jJ,lW,Ii,Vv,abj];exact⟨rfl,rfl,rfl⟩
  refine⟨h.hn,h.below,?_,fun j p hj=> ?_,fun j p hj=> ?_,fun j j' p p' hj hj' ho ha hb=> ?_,fun j p hj=> ?_⟩
  ·obtain⟨F,f1,f2,f3,f4⟩:=h.ab
   refine⟨F,f1,f2,fun j p hj=> ?_,fun j j' p p' a a' hj hj' ha ha' hb=> ?_⟩
   ·obtain⟨k,hk,hp⟩:=dG hj
    rw[(hown j k hk).2.2];exact f3 k p hp
   ·obtain⟨k,hk,hp⟩:=dG hj
    obtain⟨k',hk',hp'⟩:=dG hj';rw[(hown j k hk).2.2]at ha;rw[(hown j' k' hk').2.2]at ha';have:=f4 k k' p p' a a' hp hp' ha ha' hb;subst this;exact inj j j' k hk hk'
  ·obtain⟨k,hk,_⟩:=dG hj
   rw[<-hc,List.length_map];have:=(List.getElem?_eq_some_iff.1 hk).1;rw[<-hρ,List.length_map]at this;exact this
  ·obtain⟨k,hk,hp⟩:=dG hj
   exact h.lt k p hp
  ·obtain⟨k,hk,hp⟩:=dG hj
   obtain⟨k',hk',hp'⟩:=dG hj';rw[(hown j k hk).1]at ho;rw[(hown j' k' hk').2.1]at ha;have:=h.inj k k' p p' hp hp' ho ha hb;subst this;exact inj j j' k hk hk'
  ·obtain⟨k,hk,hp⟩:=dG hj
   obtain⟨kd,e⟩:=hat j k hk;rw[e];exact(ae4 (h.blk k p hp)).renamed (wD ρ σ)
end
noncomputable section
open Go.RowKit Go.bn Go.Sx
theorem O7{args:List Value}(h2:args.all eX=true):args.all Go.Sx.plain=true:=by
 rw[List.all_eq_true]at h2 ⊢;intro v hv;have:=h2 v hv;unfold eX at this;split at this
 ·exact this
 ·cases v<;>first|exact this|rfl|(simp[Go.Sx.plain,aN]at this ⊢)
theorem nL{G:Kj}{f:FuncId}{args Ep:List Value}{v v0:Value}{Q:Prop}{X:Nat->Prop}{w0:World}{lh:List Go.Sx.ag}
  (hra:∀(σ:Nat->Option Pl) (args':Array Value),dY σ args.toArray args'->Q/\args'=Ep.toArray) (hp:Ep.all eX=true) (hv:Go.Sx.plain v0=true) (hne:v0≠undef)
  (hraw:Q->∀(X:Nat->Prop) (w0:World),(∀k,KT k->X k)->eB X w0->TT w0->dK Tryz.prog X w0 0 f Ep [] (v0,[])) (h2:Q->∀σ:Nat->Option Pl,VR σ v v0)
  (h0:∀k,KT k->X k) (hB:eB X w0) (hT:TT w0):dK Tryz.prog X w0 G f args lh (v,lh):=by
 refine⟨bu.refl _,fun σ w args' hr hargs=> ?_⟩
 obtain⟨q,rfl⟩:=hra σ args' hargs;have hk2:=lg X w0 w h0 hT hr.below;refine((hraw q (· <w.heap.size) w hk2.lt (Gr w) hk2).2 _ w _ Fx (dY.plain Ep (O7 hp))).mono fun e w' hh=> ?_
 obtain⟨v',rfl,σ',_,kS,hr'⟩:=hh;rw[VR.kP kS hv hne];exact⟨v0,rfl,σ,Ext.refl _ _,h2 q σ,hr.kept hr'.below.below⟩
theorem NF{G:Kj}{f:FuncId}{F:bZ}(h:JJ KT Tryz.prog TT f F)(hp:∀args lh r,(F args lh).get=some r->r.2=lh/\args.all eX=true/\Go.Sx.plain r.1=true/\r.1≠undef/\(F args []).get=some (r.1,[])):dP G KT Tryz.prog TT f F:=by
 refine⟨h.1,fun X w0 h0 hB hT args lh r hr=> ?_⟩
 obtain⟨e1,e2,e3,e4,e5⟩:=hp args lh r hr;obtain⟨v,bV⟩:=r;simp only at e1 e3 e4 e5;subst e1;exact nL (Q:=True) (fun σ args' ha=>⟨trivial,ha.jS e2⟩) e2 e3 e4 (fun _ X w0 h0 hB hT=>h.2 X w0 h0 hB hT _ _ _ e5) (fun _ σ=>VR.plain σ e3) h0 hB hT
theorem agT{G:Kj}:dP G KT Tryz.prog TT 74 Ak:=NF (soundTT Aj) fun args lh r hr=>by
 unfold Ak at hr ⊢;split at hr
 ·obtain⟨s,rfl,h2⟩:=iq hr
  simp only[M.ah,Option.some.injEq]at h2;subst h2;exact⟨rfl,MG _ _ _ _,kG _,Ef _,rfl⟩
 ·cases hr
theorem ahO{G:Kj}:dP G KT Tryz.prog TT 87 II:=NF (soundTT VS) fun args lh r hr=>by
 unfold II at hr ⊢;split at hr
 ·obtain⟨s,rfl,h2⟩:=iq hr
  simp only[M.ah,Option.some.injEq]at h2;subst h2;exact⟨rfl,MH _ _ _,rfl,by simp[undef],rfl⟩
 ·cases hr
theorem akV{G:Kj}:dP G KT Tryz.prog TT 258 WY:=NF aag fun args lh r hr=>by
 unfold WY at hr ⊢;split at hr
 ·rename_i x
  rcases M.af hr with⟨hc,hr⟩|⟨_,hr⟩
  ·simp only[M.ah,Option.some.injEq]at hr;subst hr
   refine⟨rfl,rfl,rfl,by simp[undef],?_⟩
   show(M.br (vW x) _ _).get=_;rw[M.fe,if_pos hc];rfl
  ·cases hr
 ·cases hr
theorem Xt(s:aa):uS s=bH s:=by unfold uS UG bH;omega
theorem Gj{s:aa}(F:Facts s):encS s=some (bH s):=by
 rw[sM];unfold encR;rw[if_pos (kN.2 F),Xt]
theorem AR{s:aa}(F:Facts s):jf (bH s)=some s:=by
 obtain⟨x,h1,h2⟩:=xV F;rw[Gj F]at h1;rw[Option.some.inj h1];exact h2
theorem Hr(s:aa):eX s.val=true:=by simp[aa.val,eX,aN]
theorem args1{σ:Nat->Option Pl}{a:Value}{args':Array Value}(h:dY σ [a].toArray args'):∃a',args'=[a'].toArray/\VR σ a a':=by
 obtain⟨y,l,rfl,h1,h2⟩:=eD h;rw[kY h2];exact⟨y,rfl,h1⟩
theorem ahV{G:Kj}:dP G KT Tryz.prog TT 73 V9:=by
 refine⟨uH.1,fun X w0 h0 hB hT args lh r hr=> ?_⟩
 unfold V9 at hr;split at hr
 ·rename_i v
  obtain⟨s,rfl,h2⟩:=iq hr;simp only[M.ah,Option.some.injEq]at h2;subst h2;refine nL (Q:=Facts s) (Ep:=[.int .i64 (bH s)]) (v0:=gP (jf (bH s))) (fun σ args' ha=> ?_) rfl (kG _) (Ef _) (fun _ X w0 h0 hB hT=>(soundTT uH).2 X w0 h0 hB hT _ _ _ rfl) (fun F σ=> ?_) h0 hB hT
  ·obtain⟨a',rfl,h1⟩:=args1 ha
   obtain⟨F,rfl⟩:=zM h1;exact⟨F,rfl⟩
  ·rw[AR F]
   have h:=VR.plain σ (kG (some s));exact h
 ·rename_i args'
  have hd:dP G KT Tryz.prog TT 73 Gl:=NF (soundTT uH) fun args lh r hr=>by
   unfold Gl at hr ⊢;split at hr
   ·simp only[M.ah,Option.some.injEq]at hr;subst hr
    exact⟨rfl,rfl,kG _,Ef _,rfl⟩
   ·cases hr
  exact hd.2 X w0 h0 hB hT _ _ _ hr
theorem ahT{G:Kj}:dP G KT Tryz.prog TT 75 V4:=by
 refine⟨xU.1,fun X w0 h0 hB hT args lh r hr=> ?_⟩
 unfold V4 at hr;split at hr
 ·rename_i v
  obtain⟨s,rfl,h2⟩:=iq hr;rcases M.af h2 with⟨hF,h2⟩|⟨_,h2⟩
  ·have F:=jv.1 hF
   simp only[M.ah,Option.some.injEq]at h2;subst h2
   refine nL (Q:=True) (Ep:=[s.val]) (v0:=FK (encS s)) (fun σ args' ha=>⟨trivial,ha.jS (by simp[Hr])⟩) (by simp[Hr]) (Ht _) (aeM _)
    (fun _ X w0 h0 hB hT=>(soundTT xU).2 X w0 h0 hB hT _ _ _ (by
     unfold Qv;show(pq s.val _).get=_;obtain⟨a,b,c,d,e,f,g,h,i⟩:=s;rfl)) (fun _ σ=> ?_) h0 hB hT
   rw[Gj F];refine VR.tuple rfl fun i x y hx hy=> ?_
   match i with
   |0=>simp at hx hy;subst hx hy;exact VR.word s F
   |1=>simp at hx hy;subst hx hy;exact VR.bool _
   |i+2=>simp at hx
  ·cases h2
 ·cases hr
noncomputable def adF:List (FuncId×Func):=[(82,Tryz.f82),(80,Tryz.f80),(52,Tryz.f52)]
theorem acC:∀e∈adF,iL Tryz.prog e.1 e.2:=
 fk Tryz.func82<|fk Tryz.func80<|fk Tryz.func52<|jL rfl
noncomputable def JF:Env:=tH Tryz.prog adF [] [] []
theorem acD(X:Nat->Prop)(w0:World)(h0:X 0)(hB:eB X w0)(hT:cB w0):iA JF X w0:=l5 (fun e he=>by cases he) (by kernel_rfl) acC jI iO h0 hB hT
theorem UL(c:Cf)(i:Int):(iR JF 40 52 [c.val,.int .i64 i] []).get=two c.s i (aR (aR (3+aR (2*c.w))+i)):=by kernel_rfl
theorem Yi(c:Cf)(i:Int):(iR JF 40 82 [c.val,.int .i64 i] []).get=two c.w i (aR (3+i)):=by kernel_rfl
theorem Y5(c:Cf)(i:Int):(iR JF 40 80 [c.val,.int .i64 i] []).get=two c.w i (aR (aR (3+c.w)+i)):=by kernel_rfl
noncomputable def AY(g:Cf->Int->Int):bZ:=fun args lh=>match args with|[c,.int .i64 i]=>AU c fun c=>.ret (.int .i64 (g c i),lh)|_=>.bad
noncomputable def jG(m:Cf->Int)(b:Cf->Int)(c:Cf)(i:Int):Int:=if uD (m c) i then aR (b c+i)else -1
theorem AX{f:FuncId}{fn:Func}(hf:iL Tryz.prog f fn){m b:Cf->Int}{x:Cf->Int->Int}(ht:∀c i,(iR JF 40 f [c.val,.int .i64 i] []).get=two (m c) i (x c i))(hx:∀c i,x c i=aR (b c+i)):Sound Tryz.prog cB f (AY (jG m b)):=by
 refine Sound.pQ hf rfl rfl acD 40 fun args lh r hr=> ?_
 unfold AY at hr;split at hr
 ·rename_i i
  obtain⟨c,rfl,h2⟩:=oq hr;simp only[M.ah,Option.some.injEq]at h2;subst h2;exact⟨rfl,qz c _ rfl,rfl,by simp[undef],(ht c i).trans (N8 _ _ _ _ (hx c i))⟩
 ·cases hr
theorem Ru:Sound Tryz.prog cB 52 (AY (jG (·.s) fun c=>3+2*c.w)):=AX ⟨Tryz.func52,by kernel_rfl,by kernel_rfl⟩ UL fun c i=>by
 obtain⟨a,ha⟩:=jW (2*c.w);obtain⟨b,hb⟩:=jW (3+aR (2*c.w));exact tT (q:=a+b) (by omega)
theorem Vb:Sound Tryz.prog cB 82 (AY (jG (·.w) fun c=>3)):=AX ⟨Tryz.func82,by kernel_rfl,by kernel_rfl⟩ Yi fun c i=>rfl
theorem VN:Sound Tryz.prog cB 80 (AY (jG (·.w) fun c=>3+c.w)):=AX ⟨Tryz.func80,by kernel_rfl,by kernel_rfl⟩ Y5 fun c i=>by
 obtain⟨b,hb⟩:=jW (3+c.w);exact tT (q:=b) (by omega)
theorem ah3{G:Kj}{f:FuncId}{fB:Nat->Nat}{n:Nat->Nat->Nat}{m b:Cf->Int}(h:Sound Tryz.prog cB f (AY (jG m b)))(hm:∀W S:Nat,∀x y z,m ⟨W,S,x,y,z⟩=(n W S:Int))(hb:∀W S:Nat,∀x y z,b ⟨W,S,x,y,z⟩=(fB W:Int))
  (hbig:∀W S:Nat,W<=1000->S<=1000->n W S<=1000/\fB W<=3000):dP G KT Tryz.prog TT f (WG fB n):=by
 refine⟨h.1,fun X w0 h0 hB hT args lh r hr=> ?_⟩
 unfold WG at hr;split at hr
 ·rename_i a i
  split at hr
  ·rename_i W S x y z hl
   have ea:a= #[.int .i64 (.ofNat W),.int .i64 (.ofNat S),.int .i64 x,.int .i64 y,.int .i64 z]:=Array.toList_inj.1 hl;have ec:Value.agg a=Cf.val ⟨(W:Int),(S:Int),x,y,z⟩:=by rw[ea];rfl
   have ap:[Value.agg a,.int .i64 i].all eX=true:=by rw[ec];exact qz _ _ rfl
   have raw:∀(X:Nat->Prop) (w0:World),(∀k,KT k->X k)->eB X w0->TT w0->dK Tryz.prog X w0 0 f [.agg a,.int .i64 i] [] (.int .i64 (jG m b ⟨(W:Int),(S:Int),x,y,z⟩ i),[]):=fun X w0 h0 hB hT=>by
    rw[ec];exact (soundTT h).2 X w0 h0 hB hT _ _ _ rfl
   rcases M.af hr with⟨hs,hr⟩|⟨_,hr⟩
   ·rw[Bool.and_eq_true]at hs
    obtain⟨k1,k2⟩:=hbig W S (Nat.le_of_ble_eq_true hs.1) (Nat.le_of_ble_eq_true hs.2);rcases M.af hr with⟨hi,hr⟩|⟨hi,hr⟩
    ·simp only[M.ah,Option.some.injEq]at hr;subst hr
     refine nL (Q:=True) (fun σ args' ha=>⟨trivial,ha.jS ap⟩) ap rfl (by simp[undef]) (fun _=>raw) (fun _ σ=> ?_) h0 hB hT
     have hi2:0<=i/\i<(n W S:Int):=by unfold uD at hi;simpa using hi
     have e:jG m b ⟨(W:Int),(S:Int),x,y,z⟩ i=(fB W:Int)+(i.toNat:Int):=by
      unfold jG;rw[hm,hb,if_pos hi,fA ⟨by omega,by omega⟩,Int.toNat_of_nonneg hi2.1]
     rw[e];exact VR.zW _ _
    ·simp only[M.ah,Option.some.injEq]at hr;subst hr
     refine nL (Q:=True) (fun σ args' ha=>⟨trivial,ha.jS ap⟩) ap rfl (by simp[undef]) (fun _=>raw) (fun _ σ=> ?_) h0 hB hT
     have e:jG m b ⟨(W:Int),(S:Int),x,y,z⟩ i= -1:=by
      unfold jG;rw[hm,if_neg (by rw[hi];decide)]
     rw[e];exact VR.int _ _
   ·cases hr
  ·cases hr
 ·cases hr
theorem ac8{G:Kj}{f:FuncId}{fB:Nat->Nat}{n:Nat->Nat->Nat}{m b:Cf->Int}(h:Sound Tryz.prog cB f (AY (jG m b)))(hm:∀W S:Nat,∀x y z,m ⟨W,S,x,y,z⟩=(n W S:Int))(hb:∀W S:Nat,∀x y z,b ⟨W,S,x,y,z⟩=(fB W:Int))
  (hbig:∀W S:Nat,W<=1000->S<=1000->n W S<=1000/\fB W<=3000):dP G KT Tryz.prog TT f (Vp fB n):=by
 refine⟨h.1,fun X w0 h0 hB hT args lh r hr=> ?_⟩
 unfold Vp at hr;split at hr
 ·rename_i a i
  split at hr
  ·rename_i W S x y z hl
   have ea:a= #[.int .i64 (.ofNat W),.int .i64 (.ofNat S),.int .i64 x,.int .i64 y,.int .i64 z]:=Array.toList_inj.1 hl;have ec:Value.agg a=Cf.val ⟨(W:Int),(S:Int),x,y,z⟩:=by rw[ea];rfl
   have ap:[Value.agg a,.int .i64 i].all eX=true:=by rw[ec];exact qz _ _ rfl
   have raw:∀(X:Nat->Prop) (w0:World),(∀k,KT k->X k)->eB X w0->TT w0->dK Tryz.prog X w0 0 f [.agg a,.int .i64 i] [] (.int .i64 (jG m b ⟨(W:Int),(S:Int),x,y,z⟩ i),[]):=fun X w0 h0 hB hT=>by
    rw[ec];exact (soundTT h).2 X w0 h0 hB hT _ _ _ rfl
   rcases M.af hr with⟨hs,hr⟩|⟨_,hr⟩
   ·rw[Bool.and_eq_true]at hs
    obtain⟨k1,k2⟩:=hbig W S (Nat.le_of_ble_eq_true hs.1) (Nat.le_of_ble_eq_true hs.2);rcases M.af hr with⟨hi,hr⟩|⟨hi,hr⟩
    ·simp only[M.ah,Option.some.injEq]at hr;subst hr
     refine nL (Q:=True) (fun σ args' ha=>⟨trivial,ha.jS ap⟩) ap rfl (by simp[undef]) (fun _=>raw) (fun _ σ=> ?_) h0 hB hT
     have hi2:0<=i/\i<(n W S:Int):=by unfold uD at hi;simpa using hi
     have e:jG m b ⟨(W:Int),(S:Int),x,y,z⟩ i=((i.toNat+fB W:Nat):Int):=by
      unfold jG;rw[hm,hb,if_pos hi,fA ⟨by omega,by omega⟩];omega
     rw[e];exact VR.int _ _
    ·simp only[M.ah,Option.some.injEq]at hr;subst hr
     refine nL (Q:=True) (fun σ args' ha=>⟨trivial,ha.jS ap⟩) ap rfl (by simp[undef]) (fun _=>raw) (fun _ σ=> ?_) h0 hB hT
     have e:jG m b ⟨(W:Int),(S:Int),x,y,z⟩ i= -1:=by
      unfold jG;rw[hm,if_neg (by rw[hi];decide)]
     rw[e];exact VR.int _ _
   ·cases hr
  ·cases hr
 ·cases hr
theorem aes{G:Kj}:dP G KT Tryz.prog TT 52 XE:=ah3 Ru (fun W S x y z=>rfl) (fun W S x y z=>by show(3+2*(W:Int):Int)=((3+2*W:Nat):Int);omega) fun W S h k=>⟨k,by omega⟩
theorem agx{G:Kj}:dP G KT Tryz.prog TT 82 ac4:=ac8 Vb (fun W S x y z=>rfl) (fun W S x y z=>rfl) fun W S h k=>⟨h,by omega⟩
theorem ahK{G:Kj}:dP G KT Tryz.prog TT 80 ads:=ac8 VN (fun W S x y z=>rfl) (fun W S x y z=>by show(3+(W:Int):Int)=((3+W:Nat):Int);omega) fun W S h k=>⟨h,by omega⟩
end
noncomputable section
open Go.RowKit Go.bn Go.Sx
def iK(kind who:Int)(a:Ask)(n:Int)(good:Bool):Value:=.agg (.int .i64 kind:: .int .i64 who::(vg a++[.int .i64 n,.bool good])).toArray
def o5(kind who:Int)(a:Ask)(n:Int)(good:Bool)(lh:List Go.Sx.ag):M (Value×List Go.Sx.ag):=
 .bind (call qO 80 18 [pk 0,iK kind who a n good] lh) fun r=>.bind (canon r.2) fun l=>.ret (r.1,l)
def FJ(q:Xq):M (Value×List Go.Sx.ag):=.bind (fK q) fun r=>.ret (.bool r.1,Ea r.2.1.tick r.2.2)
def Dz(q:Xq)(t:Ti):M (Value×List Go.Sx.ag):=.bind (OB q t) fun l=>.ret (.bool true,l)
def K9(q:Xq)(t:Ti):M (Value×List Go.Sx.ag):=.bind (K6 q t) fun l=>.ret (.bool true,l)
def oI(f:Fd)(kd:Nat):Prop:=f.kd=kd/\f.fd=none
def vF(f:Fd)(kd:Nat):Prop:=f.kd=kd/\∃x,f.fd=some x
def o8(x:Wr):Prop:=
 match x.ph with
 | .pin (some _)=>x.ask.op<8
 | .work (.get t)=>match t.st with
  | .own=>oI t.look 0| .gp=>vF t.look 0| .any=>oI t.look 1| .anyS=>vF t.look 1| .move=>oI t.look 0| .dD=>vF t.look 0| .free=>oI t.look 2| .dQ=>vF t.look 2
  | .go=>t.rt.st≠.done| .done=>False|_=>True
 | .work (.give g)=>match g.st with| .go=>g.rt.st≠.done| .done=>False|_=>True
 | .work (.strm s)=>s.st≠.done
 | .work (.close (some u))=>match u.st with| .head| .pop| .tell=>True|_=>False
 | .work (.aS r)=>match r.st with| .look=>oI r.look 6| .ask| .mark=>vF r.look 6| .dB=>vF r.look 6/\r.rt.st≠.done
 | .enters u=>match u.st with| .come| .push| .closed| .look| .drop=>True|_=>False
 | .leaves u=>match u.st with| .look| .drop=>True|_=>False
 | .ax t _ _=>match t.st with
  | .dL=>oI t.look 4| .go=>vF t.look 4/\t.rt.st≠.done| .old=>oI t.look 5| .pins| .clear=>vF t.look 5| .some=>oI t.look 3| .keep=>vF t.look 3| .done=>False|_=>True
 | .work (.stats _)| .counts _=>False
 |_=>True
end
end bq
end Go.Proofs.YteaflphddciglaaGreatDoor
