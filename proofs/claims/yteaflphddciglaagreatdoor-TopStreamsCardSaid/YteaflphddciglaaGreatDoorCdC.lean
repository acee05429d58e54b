/- Group CdC: laws of the proof, joined. No condition of its own. -/
import Derived.Test.YteaflphddciglaaGreatDoorCdB
set_option linter.unusedVariables false
set_option linter.unusedSimpArgs false
namespace Go.Proofs.YteaflphddciglaaGreatDoor
namespace bq
section
instance alB (kd:Nat) (ow:Int) (s:aa):Decidable (fits kd ow s):=by
 unfold fits jg j6 VF;split<;>infer_instance
instance alI (S:Nat) (f:Fd):Decidable (f.all S):=by unfold Fd.all;infer_instance
instance ajP (a b:Int):Decidable (oC a b):=by unfold oC;infer_instance
instance alH (s:Ms) (w:Nat):Decidable (aQ s w):=by
 unfold aQ;split<;>infer_instance
def Fd.kT(S:Nat)(m:Mm)(f:Fd):Fd:=
 if f.fd.isSome\/S<=f.at_ then f else if fits f.kd f.ow (m.sl f.at_)then{f with fd:=some (m.sl f.at_)}else{f with at_:=f.at_+1}
def Tk.kT(w S:Nat)(m:Mm)(good:Bool)(t:Tk):Tk×Mm:=
 match t.st with
 | .closed=>if m.cl≠0 then(t.fin 5,m)else(t.search .own 0 w,m)
 | .own=>let f:=t.look.kT S m;let t:={t with look:=f}
  if f.fd.isSome then({t with st:=.gp},m)else if f.all S then(t.search .any 1 w,m)else(t,m)
 | .gp=>match t.swap w m t.look.at_ t.look.wd 3 with
  |some (t,m)=>({t with st:=.check},m)
  |none=>({t with look:=t.look.again,st:=.own},m)
 | .any=>let f:=t.look.kT S m;let t:={t with look:=f}
  if f.fd.isSome then({t with st:=.anyS},m)else if f.all S then(t.search .free 2 w,m)else(t,m)
 | .anyS=>match t.swap w m t.look.at_ t.look.wd 3 with
  |some (t',m)=>if t.look.wd.own=w then({t' with st:=.check},m)else({t' with ps:=false}.search .move 0 t.look.wd.own,m)
  |none=>({t with look:=t.look.again,st:=.any},m)
 | .move=>let f:=t.look.kT S m;let t:={t with look:=f}
  if f.fd.isSome then(if t.ps then({t with ps:=false,look:=f.go},m)else({t with ps:=true,st:=.dD},m))else if f.all S then({t with st:=.check},m)else(t,m)
 | .dD=>
  let t':={t with look:=t.look.go,st:=.move}
  match az t.look.wd 9 w 0 with
  |some n=>if m.sl t.look.at_=t.look.wd then(t',m.set t.look.at_ n)else(t',m)
  |none=>(t',m)
 | .free=>let f:=t.look.kT S m;let t:={t with look:=f}
  if f.fd.isSome then({t with st:=.dQ},m)else if f.all S then(t.fin 3,m)else(t,m)
 | .dQ=>match t.swap w m t.look.at_ t.look.wd 0 with
  |some (t,m)=>({t with st:=.bM},m)
  |none=>({t with look:=t.look.again,st:=.free},m)
 | .bM=>match t.swap w m t.i t.wd (if good then 1 else 2)with
  |some (t,m)=>if good then({t with st:=.check},m)else(t.fin 6,m)
  |none=>(t.fin 6,m)
 | .check=>if m.cl=0 then(t.fin 0,m)else({t with st:=.back},m)
 | .back=>if(m.sl t.i).st=3/\(m.sl t.i).own=w/\(m.sl t.i).gen=t.gen then({t with rt:=Rt.new t.i (m.sl t.i),st:=.go},m)else(t.fin 5,m)
 | .go=>let r:=t.rt.step m;let t:={t with rt:=r.1}
  if r.1.st=.done then(if r.1.sw then(t.fin 5,r.2)else({t with st:=.back},r.2))else(t,r.2)
 | .grant=>({t with wd:=m.sl t.i,st:=.eG},m)
 | .eG=>match az t.wd 16 w 0 with
  |none=>(t.fin 5,m)
  |some n=>if m.sl t.i=t.wd then({t with wd:=n,gen:=n.gen,st:=if n.st=3 then .check else .bM},m.set t.i n)else({t with st:=.grant},m)
 | .done=>(t,m)
def Td.G5(S:Nat)(m:Mm)(t:Td):Td:=
 let f:=t.look.kT S m
 match f.fd with
 | .some x=>{t with look:=f,i:=f.at_,wd:=x}
 | .none=>{t with look:=f}
def Td.kT(c:Cn)(w:Nat)(m:Mm)(t:Td):Td×Mm:=
 match t.st with
 | .ep=>({t with ep:=m.ep,st:=.pin},m)
 | .pin=>({t with st:=.cl},m.pin w (aR (t.ep+1)))
 | .cl=>({t with cl:=m.cl,look:=Fd.new 4 m.cl,st:=.dL},m)
 | .dL=>let t:=t.G5 c.S m
  if t.look.fd.isSome then({t with rt:=Rt.new t.i t.wd,st:=.go},m)else if t.look.all c.S then({t with look:=Fd.new 5 w,st:=.old},m)else(t,m)
 | .go=>let r:=t.rt.step m;let t:={t with rt:=r.1}
  if r.1.st=.done then({t with look:=t.look.again,st:=.dL},r.2)else(t,r.2)
 | .old=>let t:=t.G5 c.S m
  if t.look.fd.isSome then(let o:=jq w 0;({t with other:=o,st:=if o<c.W then .pins else .clear},m))else if t.look.all c.S then({t with st:=if t.cl≠0 then .eO else .line},m)else(t,m)
 | .pins=>if oC (m.pn t.other) t.wd.ep then({t with look:=t.look.go,st:=.old},m)else
   let o:=jq w (t.other+1)
   ({t with other:=o,st:=if o<c.W then .pins else .clear},m)
 | .clear=>({t with look:=t.look.go,st:=.old},(t.swap m 12 w).getD m)
 | .line=>match m.qu with
  |[]=>({t with qu:=[],st:=.eO},m)
  |a::r=>({t with qu:=a::r,head:=a,look:=Fd.new 3 w,st:=.some},m)
 | .some=>let t:=t.G5 c.S m
  if t.look.fd.isSome then({t with st:=.keep},m)else if t.look.all c.S then({t with st:=.eO},m)else(t,m)
 | .keep=>match t.swap m (if t.wd.st=2 then 5 else 7) t.head with
  | .some m=>({t with st:=.pop},m)
  | .none=>({t with look:=t.look.again,st:=.some},m)
 | .pop=>if m.qu=t.qu then({t with st:=.grant},{m with qu:=m.qu.tail})else({t with st:=.back},m)
 | .grant=>({t with st:=.line},m.nT t.head (t.i+1))
 | .back=>let t:={t with wd:=m.sl t.i}
  ({t with st:=if t.wd.st=4\/t.wd.st=5 then .dR else .line},m)
 | .dR=>match t.swap m (if t.wd.st=4 then 6 else 8) w with
  | .some m=>({t with st:=.cl},m)
  | .none=>({t with st:=.back},m)
 | .eO=>({t with st:=.again},m.pin w 0)
 | .again=>({t with st:=if m.ep=t.ep then .done else .ep},m)
 | .done=>(t,m)
def BB(c:Cn)(w:Nat)(s:Ms)(x:Wr):Wk->Ms
 | .get t=>
  let d:=t.st=.bM
  let n:=s.next
  let s:=if d then{s with wo:=n.2}else s
  let r:=t.kT w c.S s.m (decide d&&n.1)
  let s:=s.mem r.2
  if r.1.st=.done then
   (if r.1.e=3 then(if x.ask.wait then s.put w (x.to (.enters Qu.enter))else s.put w (x.to (.counts Tw.new)))
    else if r.1.e=0 then s.put w (x.end_ ⟨0,r.1.i,r.1.gen,0,0,0,0,0⟩)else s.put w (x.end_ (.err r.1.e)))
  else s.put w (x.to (.work (.get r.1)))
 | .give g=>
  let r:=g.step c w s.m
  let s:=s.mem r.2
  if r.1.st=.done then s.put w (x.end_ (.err r.1.e))else s.put w (x.to (.work (.give r.1)))
 | .strm g=>
  let r:=g.step c w s.m
  let s:=s.mem r.2
  if r.1.st=.done then s.put w (x.end_ ⟨r.1.e,0,0,if r.1.e=0 then r.1.num else 0,0,0,0,0⟩)else s.put w (x.to (.work (.strm r.1)))
 | .close none=>
  let m:=if x.ask.force then{s.m with cl:=2}else if s.m.cl=0 then{s.m with cl:=1}else s.m
  (s.mem m).put w (x.to (.work (.close (some Qu.drain))))
 | .close (some q)=>
  let r:=q.step c w s.m
  let s:=s.mem r.2
  if r.1.st=.done then s.put w (x.end_ (.err 0))else s.put w (x.to (.work (.close (some r.1))))
 | .stats t=>
  let t:=t.step c.S s.m
  if t.dn then s.put w (x.end_ ⟨0,0,0,0,Eh (t.last.getD [])⟩)else s.put w (x.to (.work (.stats t)))
 | .aS r=>
  match r.st with
  | .look=>
   let f:=r.look.kT c.S s.m
   if f.fd.isSome then s.put w (x.to (.work (.aS {r with look:=f,st:=.ask})))else if f.all c.S then s.put w (x.end_ ⟨0,r.many,0,0,0,0,0,0⟩)else s.put w (x.to (.work (.aS {r with look:=f})))
  | .ask=>
   let n:=s.next
   let s:={s with wo:=n.2}
   if n.1=true/\r.look.wd.fO=false/\r.look.wd.brk=false then s.put w (x.to (.work (.aS {r with st:=.mark})))else s.put w (x.to (.work (.aS {r with rt:=Rt.new r.look.at_ r.look.wd,st:=.dB})))
  | .mark=>
   let x':=x.to (.work (.aS {r with look:=r.look.go,st:=.look}))
   match az r.look.wd 10 w 0 with
   |some n=>if s.m.sl r.look.at_=r.look.wd then(s.mem (s.m.set r.look.at_ n)).put w x' else s.put w x'
   |none=>s.put w x'
  | .dB=>
   let q:=r.rt.step s.m
   let s:=s.mem q.2
   if q.1.st=.done then s.put w (x.to (.work (.aS {r with rt:=q.1,many:=if q.1.sw then aR (r.many+1)else r.many,look:=r.look.go,st:=.look})))else s.put w (x.to (.work (.aS {r with rt:=q.1})))
def Gy(c:Cn)(s:Ms)(w:Nat):Ms:=
 let x:=s.ws w
 match x.ph with
 | .rest=>s
 | .pin none=>s.put w (x.to (.pin (some s.m.ep)))
 | .pin (some e)=>(s.mem (s.m.pin w (aR (e+1)))).put w (x.to (.work (bE x)))
 | .work k=>BB c w s x k
 | .counts t=>
  let t:=t.step c.S s.m
  if t.dn then(if∃y∈t.last.getD [],fits 3 w y then s.put w (x.to (.work (.get Tk.new)))else s.put w (x.end_ (.err 3)))else s.put w (x.to (.counts t))
 | .enters q=>
  let r:=q.step c w s.m
  let s:=s.mem r.2
  if r.1.st=.done then(if r.1.e=0\/r.1.e=8 then s.put w (x.to (.ax Td.new (some (decide (r.1.e=0))) (.err 0)))else s.put w (x.end_ (.err r.1.e)))else s.put w (x.to (.enters r.1))
 | .ax t p a=>
  let r:=t.kT c w s.m
  let s:=s.mem r.2
  if r.1.st=.done then(match p with
   |some b=>s.put w (x.to (.parked b))
   |none=>{s.put w (x.to .rest)with ev:=⟨true,w,x.ask,a⟩::s.ev})else s.put w (x.to (.ax r.1 p a))
 | .parked _=>if s.m.gr w≠0 then dh w s x none else aV c w s x Qu.leave
 | .wakes h=>dh w s x h
 | .leaves q=>aV c w s x q
theorem Gg: @Fd.step= @Fd.kT:=by
 funext S m f;unfold Fd.step Fd.kT;congr
theorem aam: @Tk.step= @Tk.kT:=by
 funext w S m good t;unfold Tk.step Tk.kT;rw[Gg];congr;all_goals (funext;dsimp only;repeat' split)
 all_goals rfl
theorem aat: @Td.fu= @Td.G5:=by
 funext S m t;unfold Td.fu Td.G5;rw[Gg];congr
theorem aas: @Td.step= @Td.kT:=by
 funext c w m t;unfold Td.step Td.kT;rw[aat];congr;all_goals (funext;dsimp only;repeat' split)
 all_goals rfl
theorem Uv: @ak= @BB:=by
 funext c w s x k;unfold ak BB;rw[Gg,aam];congr;all_goals (funext;dsimp only;repeat' split)
 all_goals first|rfl|(simp_all;done)|(subst_vars;simp_all;done)
theorem adL: @ai= @Gy:=by
 funext c s w;unfold ai Gy;rw[Uv,aas];congr;all_goals (funext;dsimp only;repeat' split)
 all_goals first|rfl|(simp_all;done)|(subst_vars;simp_all;done)|(simp_all;rename_i a _ b;obtain⟨y,h1,h2⟩:=b;exact absurd h2 (a y h1))
def NG(c:Cn)(s:Ms):Option Ms:=if aQ s 0 then some (Gy c s 0)else if aQ s 1 then some (Gy c s 1)else none
def oJ(c:Cn):Nat->Ms->Option Ms
 |0,_=>none
 |n+1,s=>match NG c s with|none=>some s|some s'=>oJ c n s'
theorem XV{c:Cn}(hW:c.W=2){s s' z:Ms}{n:Nat}(h:oJ c n s=some z)(r:uP c s s'):∃m,oJ c m s'=some z:=by
 induction r with
 |refl=>exact⟨n,h⟩
 |@step s1 v _ hv hno hc ih=>
  obtain⟨m,hm⟩:=ih
  have hp:NG c s1=some (ai c s1 v):=by
   rw[adL];unfold NG;match v,hv,hno,hc with
   |0,_,_,hc=>rw[if_pos hc]
   |1,_,hno,hc=>rw[if_neg (hno 0 (by decide)),if_pos hc]
   |v+2,hv,_,_=>omega
  match m,hm with
  |0,hm=>cases hm
  |m+1,hm=>
   unfold oJ at hm;rw[hp]at hm;exact⟨m,hm⟩
theorem XU{c:Cn}(hW:c.W=2){s s' z:Ms}{n:Nat}(h:oJ c n s=some z)(r:uP c s s')(hs:Still c s'):s'=z:=by
 obtain⟨m,hm⟩:=XV hW h r;match m,hm with
 |0,hm=>cases hm
 |m+1,hm=>
  unfold oJ NG at hm;rw[if_neg (hs 0 (by omega)),if_neg (hs 1 (by omega))]at hm
  exact Option.some.inj hm
def cA:Cn:=⟨2,1,0,1,9⟩
def xA1:En:=⟨0,0,0,⟨0,false,false,0,0,0,0⟩,0,false⟩
def Sz:En:=⟨0,1,0,⟨0,true,false,9,0,0,0⟩,0,false⟩
def Sy:En:=⟨0,0,2,⟨0,false,false,0,0,1,0⟩,0,false⟩
def U3:Ph->Bool
 | .rest=>true
 |_=>false
theorem X7{p:Ph}:U3 p=true↔p=.rest:=by cases p<;>simp[U3]
def Vt(s:Ms)(w:Nat):Bool:=U3 (s.ws w).ph&&Nat.blt s.ev.length 1999
def ahZ:Bool:=
 match oJ cA 400 (ko Ms.zero xA1)with
 |none=>false
 |some z1=>Vt z1 1&&match oJ cA 400 (ko z1 Sz)with
  |none=>false
  |some z2=>(Vt z2 0&&decide (rJ (z2.ws 1).ph=6))&&match oJ cA 400 (ko z2 Sy)with
   |none=>false
   |some z3=>decide (rJ (z3.ws 1).ph=0)&&match z3.ev with
    |[y,_,_,_,_,_]=>decide (y.ans.e=0)
    |_=>false
end
noncomputable section
open Go.RowKit Go.bn Go.Sx Yq
theorem Vq(c:Cn):fT (iM c)=nC c:=by
 unfold fT iM nC;show(3+2*(c.W:Int)+(c.S:Int)).toNat=_;omega
theorem VW{s:aa}(F:Facts s):Gx (bH s)/\0<=bH s:=by
 obtain⟨x,h1,_⟩:=xV F;have e:=Gj F;obtain⟨_,h2,h3⟩:=Ee s (bH s) e;exact⟨⟨by omega,by omega⟩,h2⟩
theorem aaK{c:Cn}{m:Mm}(hR:fI (iM c)){i:Nat}(hi:i<c.S)(F:Facts (m.sl i)):rH (iM c) (aC c m) i=m.sl i:=by
 have hw:=hR.w;have hs:=hR.s;unfold iM at hw hs;simp only at hw hs
 have e:cellC (iM c) (i:Int)=((3+2*c.W+i:Nat):Int):=by
  unfold cellC uD iM;simp only;rw[if_pos (by simp;omega),fA ⟨by omega,by omega⟩]
  omega
 unfold rH;rw[e,Int.toNat_natCast,List.getD_eq_getElem?_getD,vY hi,Option.getD_some,afC _ (VW F).1,AR F];rfl
def aaF(s:aa):List Value:=[.int .i64 s.st,.int .i64 s.own,.int .i64 s.str,.bool s.brk,.bool s.fO,.int .i64 s.uses,.int .i64 s.gen,.int .i64 s.ep,.int .i64 s.cz]
theorem Ro{c:Cn}{m:Mm}(hR:fI (iM c))(hF:∀i,i<c.S->Facts (m.sl i)){g cap:Nat}(w:World)(hT:cB w)(hg:g<w.heap.size)(hc:∀k x,(aC c m)[k]?=some x->w.cell? ⟨g,k,none⟩=some (.int .i64 x)):
  Calls Tryz.prog 12 #[.agg (dI c).toArray,.slice (some ⟨g,0,none⟩) (nC c) cap] w fun r w'=>(∃gs o cp,r=.returned (.slice (some ⟨gs,o,none⟩) c.S cp)/\gs<w'.heap.size/\w.heap.size<=gs/\∀i j u,i<c.S->(aaF (m.sl i))[j]?=some u->w'.cell? ⟨gs,o+(i*9+j),none⟩=some u)/\Below w.heap.size w w':=by
 have hw:=hR.w;have hs:=hR.s;unfold iM at hw hs;simp only at hw hs;have hB:eB (· <w.heap.size) w:=fun k hk=>hk
 have q:(OE [(iM c).val,.slice (some ⟨0,0,none⟩) (nC c) cap] [.ints false false (aC c m)]).get=some (iJ 1 (iM c).s.toNat,[.ints false false (aC c m),.rows true true 9 (iM c).s.toNat (rG (rH (iM c) (aC c m)))]):=by
  have k:(oQ (iM c)&&rM (nC c) (aC c m)&&Nat.beq (nC c) (fT (iM c)))=true:=by
   rw[Vq,Nat.beq_refl,vI.2 hR,qi.2 ⟨(nE c m).symm,by unfold nC;omega,by unfold nC;omega⟩]
   rfl
  show(M.br (oQ (iM c)&&rM (nC c) (aC c m)&&Nat.beq (nC c) (fT (iM c))) _ _).get=_;rw[k];rfl
 have h2:=(Rn.2 (· <w.heap.size) w hT.lt hB hT _ _ _ q).2
 have hr:HR (· <w.heap.size) w 0 (fun k=>if k=0 then some ⟨g,0,1,0⟩else none) [.ints false false (aC c m)] w:=by
  have on:∀k p,(if k=0 then some (⟨g,0,1,0⟩:Pl)else none)=some p->k=0/\p=⟨g,0,1,0⟩:=fun k p h=>by
   by_cases h0:k=0
   ·rw[if_pos h0]at h;exact⟨h0,(Option.some.inj h).symm⟩
   ·rw[if_neg h0]at h;cases h
  refine⟨hB,Kept.refl _ _,iB.no fun k p h=> ?_,fun k p h=> ?_,fun k p h=> ?_,fun k k' p p' h h' ho _ _=> ?_,fun k p h=> ?_⟩
  ·obtain⟨rfl,_⟩:=on k p h;exact .inr rfl
  ·obtain⟨rfl,_⟩:=on k p h;exact Nat.zero_lt_one
  ·obtain⟨rfl,rfl⟩:=on k p h;exact hg
  ·obtain⟨rfl,_⟩:=on k p h;cases ho
  ·obtain⟨rfl,rfl⟩:=on k p h
   exact⟨fun ho=>(by cases ho),rfl,fun i x hx=>by rw[Nat.zero_add];exact hc i x hx⟩
 refine(h2 _ w #[.agg (dI c).toArray,.slice (some ⟨g,0,none⟩) (nC c) cap] hr ⟨rfl,fun i x y hx hy=> ?_⟩).mono fun r w' hh=> ?_
 ·match i with
  |0=>simp at hx hy;subst hx hy;exact VR.plain _ (by simp[Go.Sx.plain,Go.Sx.aN,QG])
  |1=>simp at hx hy;subst hx hy;exact VR.slice (p:=⟨g,0,1,0⟩) (off:=0) rfl
  |i+2=>simp at hx
 ·obtain⟨v',rfl,σ',_,kS,hr'⟩:=hh
  obtain⟨p,hp,_,rfl⟩:=VR.yL kS;have hb:=hr'.blk 1 p hp;obtain⟨ho,hwd,hcell⟩:=hb;have hS:(iM c).s.toNat=c.S:=by show((c.S:Int)).toNat=c.S;omega
  refine⟨⟨p.b,p.o,p.cap,by rw[hS],hr'.lt 1 p hp,Nat.le_of_not_lt (ho rfl).1,fun i j u hi hu=> ?_⟩,hr'.below.below⟩
  have hj:j<9:=(List.getElem?_eq_some_iff.1 hu).1;obtain⟨v',hv',ahg⟩:=hcell i j (by rw[hS];exact hi) hj
  rw[hv']
  have e:∀s:aa,s=rH (iM c) (aC c m) i->(((rG (rH (iM c) (aC c m))).at i j).val)=(aaF s).getD j undef:=by
   intro s hs;subst hs;match j,hj with
   |0,_|1,_|2,_|3,_|4,_|5,_|6,_|7,_|8,_=>rfl
  rw[e _ (aaK hR hi (hF i hi)).symm,List.getD_eq_getElem?_getD,hu,Option.getD_some]at ahg
  have p1:aN u=true:=by
   match j,hj,hu with
   |0,_,hu|1,_,hu|2,_,hu|3,_,hu|4,_,hu|5,_,hu|6,_,hu|7,_,hu|8,_,hu=>cases hu;rfl
  rw[ahg.aD p1]
end
noncomputable section
open Go.RowKit Go.bn Go.Sx Yq
attribute [local go_sem ↓] Go.wp_at_zero Go.wp_at_succ
theorem ahY:ahZ=true:=by kernel_rfl
theorem Pq{c:Cn}{z:Ms}{x:En}{w:Nat}(hx:x.kind=0)(hw:x.who=(w:Int))(hlt:w<c.W)(ho:0<=x.op/\x.op<8)(h:Vt z w=true):dX c z x=(true,ko z x):=by
 unfold Vt at h;rw[Bool.and_eq_true]at h;have e:x.who.toNat=w:=by rw[hw];exact Int.toNat_natCast w
 have m:Ih c z x:=⟨⟨by rw[hw];omega,by rw[hw];omega⟩,by rw[e];exact X7.1 h.1,by have:=Nat.le_of_ble_eq_true h.2;omega,ho.1,ho.2⟩
 unfold dX;rw[if_pos hx,if_pos m]
theorem Sa:∃z1 z2 z3,dX cA Ms.zero xA1=(true,ko Ms.zero xA1)/\oJ cA 400 (ko Ms.zero xA1)=some z1/\dX cA z1 Sz=(true,ko z1 Sz)/\oJ cA 400 (ko z1 Sz)=some z2/\rJ (z2.ws 1).ph=6/\dX cA z2 Sy=(true,ko z2 Sy)/\
  oJ cA 400 (ko z2 Sy)=some z3/\rJ (z3.ws 1).ph=0/\z3.ev.length=6/\∃y,z3.ev[0]?=some y/\y.ans.e=0:=by
 have h:=ahY;unfold ahZ at h;cases h1:oJ cA 400 (ko Ms.zero xA1)with
 |none=>rw[h1]at h;cases h
 |some z1=>
  rw[h1]at h;simp only[Bool.and_eq_true]at h;obtain⟨m1,h⟩:=h;cases h2:oJ cA 400 (ko z1 Sz)with
  |none=>rw[h2]at h;cases h
  |some z2=>
   rw[h2]at h;simp only[Bool.and_eq_true,decide_eq_true_eq]at h;obtain⟨⟨m2,p2⟩,h⟩:=h;cases h3:oJ cA 400 (ko z2 Sy)with
   |none=>rw[h3]at h;cases h
   |some z3=>
    rw[h3]at h;simp only[Bool.and_eq_true,decide_eq_true_eq]at h;obtain⟨p3,h⟩:=h;refine⟨z1,z2,z3,Pq (w:=0) rfl rfl (by decide) ⟨by decide,by decide⟩ rfl,rfl,Pq (w:=1) rfl rfl (by decide) ⟨by decide,by decide⟩ m1,h2,p2,Pq (w:=0) rfl rfl (by decide) ⟨by decide,by decide⟩ m2,h3,p3,?_⟩
    split at h
    ·rename_i y _ _ _ _ _ he
     rw[he];exact⟨rfl,y,rfl,of_decide_eq_true h⟩
    ·cases h
def Aw(z:Ms)(K:Int)(bx b:Nat)(w1 W:World):Prop:=∃e,e<=K/\Live cA z e (· <w1.heap.size) b W/\All cA z/\bx<w1.heap.size/\W.heap[bx]?=some (.cells #[.int .i64 2,.int .i64 1,.int .i64 0,.int .i64 1,.int .i64 9] 30 (0,0))/\Below w1.heap.size w1 W
variable{z z':Ms} {K:Int} {bx b:Nat} {w1 W:World}
theorem Aw.cells(h:Aw z K bx b w1 W):W.cell? ⟨bx,0,none⟩=some (.int .i64 2)/\W.cell? ⟨bx,1,none⟩=some (.int .i64 1)/\W.cell? ⟨bx,2,none⟩=some (.int .i64 0)/\W.cell? ⟨bx,3,none⟩=some (.int .i64 1)/\W.cell? ⟨bx,4,none⟩=some (.int .i64 9):=by
 obtain⟨e,_,_,_,_,hb,_⟩:=h;refine⟨?_,?_,?_,?_,?_⟩<;>(rw[cell_of hb];rfl)
theorem Aw.MC(H:∀v,v<2->fZ 2 v)(h:Aw z K bx b w1 W)(hK:K<=1000000000)(x:En)(hx:wY cA x)(hd:dX cA z x=(true,z')):
  Calls Tryz.prog jV [.pointer (some ⟨b,0,none⟩),uZ x].toArray W fun r w'=>r=.returned (.bool true)/\Aw z' (K+1) bx b w1 w':=by
 obtain⟨e,he,L,A,hx1,hb,hB⟩:=h;refine(L.MC H (by omega) x hx).mono fun r w' hh=> ?_
 rw[hd]at hh;obtain⟨rfl,k,L'⟩:=hh;have A':=QX A (by decide) (by decide) x
 rw[hd]at A';exact⟨rfl,e+1,by omega,L',A',hx1,(k.block bx hx1).trans hb,hB.trans k.below⟩
theorem Aw.settled(H:∀v,v<2->fZ 2 v)(h:Aw z K bx b w1 W)(hK:K<=900000000)(hr:oJ cA 400 z=some z'):
  Calls Tryz.prog 19 #[.pointer (some ⟨b,0,none⟩),.agg #[.int .i64 2,.int .i64 1,.int .i64 0,.int .i64 1,.int .i64 9],.slice none 0 0] W fun r w'=>r=.returned (.bool true)/\Aw z' (K+2000000) bx b w1 w':=by
 obtain⟨e,he,L,A,hx1,hb,hB⟩:=h;have q:=EB (c:=cA) (A:=none) (n:=0) (cap:=0) H (by decide) (by decide) (by decide) W A L (by omega) ⟨fun k hk=>absurd hk (Nat.not_lt_zero k)⟩
 refine Calls.mono q fun r w' hh=> ?_
 obtain⟨rfl,k,s',e',A',st,_,r0,L',he'⟩:=hh;obtain rfl:=XU rfl hr (r0 rfl) st;exact⟨rfl,e',by omega,L',A',hx1,(k.block bx hx1).trans hb,hB.trans k.below⟩
theorem Aw.state(h:Aw z K bx b w1 W){n:Int}(hn:rJ (z.ws 1).ph=n):Calls Tryz.prog 23 #[.pointer (some ⟨b,0,none⟩),.int .i64 1] W fun r w'=>r=.returned (.int .i64 n)/\Below W.heap.size W w'/\Aw z K bx b w1 w':=by
 obtain⟨e,he,L,A,hx1,hb,hB⟩:=h;refine Calls.mono (L.state (v:=1) (by decide)) fun r w' hh=> ?_
 obtain⟨rfl,k,L'⟩:=hh;rw[hn];exact⟨rfl,k,e,he,L'.mono (fun j hj=>.inl hj) L.kt,A,hx1,(k.block bx (gQ hb)).trans hb,hB.trans (k.mono hB.size)⟩
theorem Aw.events(h:Aw z K bx b w1 W)(hK:K<=1000000000)(hl:z.ev.length=6)(hy:∃y,z.ev[0]?=some y/\y.ans.e=0):Calls Tryz.prog 17 #[.pointer (some ⟨b,0,none⟩)] W fun r w'=>∃g cap,r=.returned (.slice (some ⟨g,0,none⟩) 6 cap)/\w'.cell? ⟨g,100,none⟩=some (.int .i64 0)/\W.heap.size<=g/\g<w'.heap.size/\Aw z K bx b w1 w':=by
 obtain⟨e,he,L,A,hx1,hb,hB⟩:=h;refine(L.events (by omega)).mono fun r w' hh=> ?_
 obtain⟨v',A',rfl,ho,k,L'⟩:=hh;have E:=K3 ho;have hne:z.ev≠[]:=fun q=>by rw[q]at hl;cases hl
 obtain⟨g,cap,hv,_,hg,hg2,hc⟩:=E.row hne;obtain⟨x,a,hx,hcc⟩:=hc 5 (by rw[hl];decide)
 obtain⟨y,hy0,hye⟩:=hy;rw[hl]at hx hv;obtain rfl:x=y:=Option.some.inj (hx.symm.trans hy0);have c0:=hcc 10 (.int .i64 x.ans.e) rfl;rw[hye]at c0;exact⟨g,cap,by rw[hv],c0,hg,hg2,e,he,L'.mono (fun j hj=>.inl hj) L.kt,A,hx1,(k.block bx (gQ hb)).trans hb,hB.trans (k.mono (by have:=hB.size;omega))⟩
theorem aeC:fI (iM cA):=by constructor<;>decide
set_option maxHeartbeats 4000000 in
theorem ZO(H:∀v,v<2->fZ 2 v)(w:World)(hT:TT w):Calls Tryz.prog 7 #[] w fun r w'=>r=.returned (.bool true)/\Below w.heap.size w w':=by
 obtain⟨z1,z2,z3,d1,r1,d2,r2,p2,d3,r3,p3,hl,hy⟩:=Sa;have l2:=hT.lt 2 (.inr rfl);have hT1:∀o,TT (w.alloc o):=fun o=>nG hT ((Below.refl _ w).alloc (Nat.le_refl _) o) l2
 have hnew:∀W,TT W->Calls Tryz.prog 26 #[.agg #[.int .i64 2,.int .i64 1,.int .i64 0,.int .i64 1,.int .i64 9]] W fun r w'=>∃b,r=.returned (.tuple #[.pointer (some ⟨b,0,none⟩),.int .i64 0])/\Below W.heap.size W w'/\Live cA Ms.zero 0 (· <W.heap.size) b w':=fun W hW=>PN (c:=cA) aeC (by decide) (by decide) W hW
 have hd:∀{z z':Ms} {K:Int} {bx b:Nat} {w1 W:World} (h:Aw z K bx b w1 W) (hK:K<=1000000000) (x:En) (hx:wY cA x) (hd:dX cA z x=(true,z')),Calls Tryz.prog jV [.pointer (some ⟨b,0,none⟩),uZ x].toArray W fun r w'=>r=.returned (.bool true)/\Aw z' (K+1) bx b w1 w':=fun h hK x hx hd=>Aw.MC H h hK x hx hd
 go_enter Tryz.func7,Tryz.ntmps7
 go_upto_region 2 with(fail)
 refine jY fun W1 hW1=> ?_
 have FY:W1.heap[w.heap.size]?=some (.cells #[.int .i64 2,.int .i64 1,.int .i64 0,.int .i64 1,.int .i64 9] 30 (0,0)):=by rw[hW1];simp[qU,Array.getElem?_push]
 have hb1:Below w.heap.size w W1:=by rw[hW1];exact(Below.refl _ w).alloc (Nat.le_refl _) _
 have hs1:W1.heap.size=w.heap.size+1:=by rw[hW1];simp
 have rQ:TT W1:=by rw[hW1];exact hT1 _
 have hN:=hnew W1 rQ;have HB:=Lib.hid (And.intro hb1 hs1);clear hW1 hT1 hnew hb1;have c0:W1.cell? ⟨w.heap.size,0,none⟩=some (.int .i64 2):=by rw[cell_of FY];rfl
 have c1:W1.cell? ⟨w.heap.size,1,none⟩=some (.int .i64 1):=by rw[cell_of FY];rfl
 have c2:W1.cell? ⟨w.heap.size,2,none⟩=some (.int .i64 0):=by rw[cell_of FY];rfl
 have c3:W1.cell? ⟨w.heap.size,3,none⟩=some (.int .i64 1):=by rw[cell_of FY];rfl
 have c4:W1.cell? ⟨w.heap.size,4,none⟩=some (.int .i64 9):=by rw[cell_of FY];rfl
 go_upto_region 3 with(go_at_call 26;refine hN.mono ?_;rintro r w2 ⟨b,rfl,hb2,L2⟩)
 have a0:Aw Ms.zero 0 w.heap.size b W1 w2:=⟨0,Int.le_refl 0,L2,all_zero,by omega,(hb2.block _ (by omega)).trans FY,hb2⟩
 have A0:=Lib.hid a0;clear hb2 L2 c0 c1 c2 c3 c4 a0 FY hs1;have q1:Calls Tryz.prog 18 #[.pointer (some ⟨b,0,none⟩),.agg #[.int .i64 0,.int .i64 0,.int .i64 0,.int .i64 0,.bool false,.bool false,.int .i64 0,.int .i64 0,.int .i64 0,.int .i64 0,.bool false]] w2 fun r w'=>r=.returned (.bool true)/\Aw _ (0+1) w.heap.size b W1 w':=hd A0.out (by decide) xA1 ⟨⟨by decide,by decide⟩,⟨by decide,by decide⟩,by decide⟩ d1
 go_upto_region 6 with(go_at_call 18;refine q1.mono ?_;rintro r w3 ⟨rfl,a1⟩)
 obtain⟨c0,c1,c2,c3,c4⟩:=a1.cells;have q2:=a1.settled H (by decide) r1
 go_upto_region 7 with(go_at_call 19;refine q2.mono ?_;rintro r w4 ⟨rfl,a2⟩)
 clear c0 c1 c2 c3 c4 q1 q2;have q3:Calls Tryz.prog 18 #[.pointer (some ⟨b,0,none⟩),.agg #[.int .i64 0,.int .i64 1,.int .i64 0,.int .i64 9,.bool true,.bool false,.int .i64 0,.int .i64 0,.int .i64 0,.int .i64 0,.bool false]] w4 fun r w'=>r=.returned (.bool true)/\Aw _ (0+1+2000000+1) w.heap.size b W1 w':=hd a2 (by decide) Sz ⟨⟨by decide,by decide⟩,⟨by decide,by decide⟩,by decide⟩ d2
 go_upto_region 8 with(go_at_call 18;refine q3.mono ?_;rintro r w5 ⟨rfl,a3⟩)
 obtain⟨c0,c1,c2,c3,c4⟩:=a3.cells;have q4:=a3.settled H (by decide) r2
 go_upto_region 9 with(go_at_call 19;refine q4.mono ?_;rintro r w6 ⟨rfl,a4⟩)
 clear c0 c1 c2 c3 c4 q3 q4;have q5:=a4.state p2;go_upto_region 10 with(go_at_call 23;refine q5.mono ?_;rintro r w7 ⟨rfl,_,a5⟩)
 have q6:Calls Tryz.prog 18 #[.pointer (some ⟨b,0,none⟩),.agg #[.int .i64 0,.int .i64 0,.int .i64 2,.int .i64 0,.bool false,.bool false,.int .i64 0,.int .i64 1,.int .i64 0,.int .i64 0,.bool false]] w7 fun r w'=>r=.returned (.bool true)/\Aw _ (0+1+2000000+1+2000000+1) w.heap.size b W1 w':=hd a5 (by decide) Sy ⟨⟨by decide,by decide⟩,⟨by decide,by decide⟩,by decide⟩ d3
 go_upto_region 11 with(go_at_call 18;refine q6.mono ?_;rintro r w8 ⟨rfl,a6⟩)
 obtain⟨c0,c1,c2,c3,c4⟩:=a6.cells;have q7:=a6.settled H (by decide) r3
 go_upto_region 12 with(go_at_call 19;refine q7.mono ?_;rintro r w9 ⟨rfl,a7⟩)
 clear c0 c1 c2 c3 c4 q5 q6 q7;have q8:=a7.events (by decide) hl hy
 go_upto_region 13 with(go_at_call 17;refine q8.mono ?_;rintro r w10 ⟨g,cap,rfl,hcl,_,hg,a8⟩)
 have q9:=a8.state p3;go_wp2_with (go_at_call 23;refine q9.mono ?_;rintro r w11 ⟨rfl,alu,a9⟩;have hc2:=(alu.cell (p:=⟨g,100,none⟩) hg).trans hcl)
 go_ret
 obtain⟨_,_,_,_,_,_,hB⟩:=a9;exact⟨rfl,HB.out.1.trans (hB.mono (by have:=HB.out.2;omega))⟩
end
noncomputable section
open Go.RowKit Go.bn Go.Sx Yq
attribute [local go_sem ↓] Go.wp_at_zero Go.wp_at_succ
structure Nq(f:Nat->Bool)(q:Nat)(nn mm p:Int):Prop where
 n:nn=jN f q
 m:mm=qP f q
 p:p=2^q
theorem Uk(f:Nat->Bool):∀q,0<=jN f q/\jN f q<2^q/\qP f q<=q
 |0=>⟨Int.le_refl 0,by show(0:Int)<2^0;decide,Nat.le_refl 0⟩
 |q+1=>by
  obtain⟨h1,h2,h3⟩:=Uk f q;have e:(2:Int)^(q+1)=2*2^q:=by rw[Int.pow_succ];omega
  unfold jN qP;rw[e];split<;>(refine⟨by omega,by omega,by omega⟩)
theorem wF:∀q,q<=8->(1:Int)<=2^q/\(2:Int)^q<=256:=by
 intro q hq;match q,hq with
 |0,_|1,_|2,_|3,_|4,_|5,_|6,_|7,_|8,_=>exact⟨by decide,by decide⟩
theorem Nq.bd{f:Nat->Bool}{q:Nat}{nn mm p:Int}(h:Nq f q nn mm p)(hq:q<=8):(0<=nn/\nn<=255)/\(0<=mm/\mm<=8)/\1<=p/\p<=256:=by
 obtain⟨b1,b2,b3⟩:=Uk f q;obtain⟨p1,p2⟩:=wF q hq;rw[h.n,h.m,h.p];exact⟨⟨b1,by omega⟩,⟨by omega,by omega⟩,p1,p2⟩
theorem Nq.zero(f:Nat->Bool):Nq f 0 0 0 1:=⟨rfl,rfl,rfl⟩
theorem pow2(q:Nat):(2:Int)^(q+1)=2*2^q:=by rw[Int.pow_succ];omega
theorem Nq.yes{f:Nat->Bool}{q:Nat}{nn mm p:Int}(h:Nq f q nn mm p)(hf:f q=true):Nq f (q+1) (nn+p) (mm+1) (2*p):=by
 refine⟨?_,?_,by rw[pow2,h.p]⟩
 ·unfold jN;rw[hf,if_pos rfl,h.n,h.p]
 ·unfold qP;rw[hf,if_pos rfl,h.m];rfl
theorem Nq.no{f:Nat->Bool}{q:Nat}{nn mm p:Int}(h:Nq f q nn mm p)(hf:f q=false):Nq f (q+1) nn mm (2*p):=by
 refine⟨?_,?_,by rw[pow2,h.p]⟩
 ·unfold jN;rw[hf,h.n];simp
 ·unfold qP;rw[hf,h.m];simp
theorem Dq.below{w w':World}{A:Option Addr}{n:Nat}(h:Dq w A n)(hb:Below w.heap.size w w'):Dq w' A n:=⟨fun k hk=>by
 obtain⟨g,off,u0,u1,u2,u3,u4,u5,e,hg,hu,t0,t1,t2,t3,t4,t5⟩:=h.at_ k hk;exact⟨g,off,u0,u1,u2,u3,u4,u5,e,Nat.lt_of_lt_of_le hg hb.size,hu,(hb.cell (p:=⟨g,_,none⟩) hg).trans t0,(hb.cell (p:=⟨g,_,none⟩) hg).trans t1,(hb.cell (p:=⟨g,_,none⟩) hg).trans t2,(hb.cell (p:=⟨g,_,none⟩) hg).trans t3,(hb.cell (p:=⟨g,_,none⟩) hg).trans t4,(hb.cell (p:=⟨g,_,none⟩) hg).trans t5⟩⟩
structure TsW(c:Cn)(s:Ms)(h:Hd)(bx g gs o bh bw bs:Nat)(sv:Nat->Option Nat)(W:World):Prop where
 cl:W.cell? ⟨g,0,none⟩=some (.int .i64 s.m.cl)
 st:W.cell? ⟨bx,2,none⟩=some (.int .i64 c.st)
 h0:W.cell? ⟨bh,0,none⟩=some (.slice (some ⟨bw,0,none⟩) c.S c.S)
 h2:W.cell? ⟨bh,2,none⟩=some (.slice (some ⟨bs,0,none⟩) c.S c.S)
 who:∀k,k<c.S->W.cell? ⟨bw,k,none⟩=some (.int .i64 (h.who k:Int))
 str:∀k,k<c.S->h.who k≠0->∃bk,W.cell? ⟨bs,k,none⟩=some (.slice (some ⟨bk,0,none⟩) 8 8)/\∀q,q<8->W.cell? ⟨bk,q,none⟩=some (.bool (h.st k q))
 slt:∀k,k<c.S->W.cell? ⟨gs,o+(k*9+2),none⟩=some (.int .i64 (s.m.sl k).str)
theorem af3{c:Cn}{s:Ms}{h:Hd}{bx g gs o bh bw bg bs:Nat}{sv:Nat->Option Nat}{P:Nat->Prop}{W:World}(H:ic c P h bh bw bg bs sv W)(cl:W.cell? ⟨g,0,none⟩=some (.int .i64 s.m.cl))(st:W.cell? ⟨bx,2,none⟩=some (.int .i64 c.st))
  (sc:∀i j u,i<c.S->(aaF (s.m.sl i))[j]?=some u->W.cell? ⟨gs,o+(i*9+j),none⟩=some u):TsW c s h bx g gs o bh bw bs sv W:=by
 refine⟨cl,st,by rw[cell_of H.hb];rfl,by rw[cell_of H.hb];rfl,fun k hk=>H.who.cell hk,fun k hk hw=> ?_,fun k hk=>sc k 2 _ hk rfl⟩
 cases hs:sv k with
 |none=>exact absurd (H.nil k hk hs) hw
 |some bk=>
  have e:=H.str.cell hk;rw[hs]at e;exact⟨bk,e,fun q hq=>(H.row k bk hk hs).cell hq⟩
theorem Rm{c:Cn}{s:Ms}(A:All c s)(st:Still c s)(ht:0<=c.st):∃h,eU c s.ev=some h/\(s.m.cl≠2->∀i,i<c.S->h.who i≠0->(s.m.sl i).str=jN (h.st i) 8/\(qP (h.st i) 8:Int)<=c.st):=by
 obtain⟨h,S⟩:=A.safe;refine⟨h,S.tell,fun hc=> ?_⟩
 obtain⟨h',e',l⟩:=Rl A st hc ht;rw[S.tell]at e';obtain rfl:=Option.some.inj e';exact l
set_option maxHeartbeats 8000000 in
theorem Ot{a1 a2 a3 a4 a5:Int}(h1:U8 a1)(h2:U8 a2)(h3:U8 a3)(h4:U8 a4)(h5:U8 a5)(HW:∀W v,1<=W->W<=4->v<W->fZ W v){A A':Option Addr}{n cap n' cap':Nat}(w:World)(hT:TT w)(hA:Dq w A n)(hO:oP (· <w.heap.size) w A' n'):
  Calls Tryz.prog 3 #[.agg #[.int .u8 a1,.int .u8 a2,.int .u8 a3,.int .u8 a4,.int .u8 a5],.slice A n cap,.slice A' n' cap'] w fun r w'=>r=.returned (.bool true)/\Below w.heap.size w w':=by
 obtain⟨hR,uF,hS5⟩:=Df h1 h2 h3 h4 h5;obtain⟨c,hc⟩:∃c,c=Jy a1 a2 a3 a4 a5:=⟨_,rfl⟩;rw[<-hc]at hR uF hS5;have l2:=hT.lt 2 (.inr rfl);have hB0:∀o,Below w.heap.size w (w.alloc o):=fun o=>(Below.refl _ w).alloc (Nat.le_refl _) o
 have haw:∀o,Calls Tryz.prog 7 #[] (w.alloc o) fun r w'=>r=.returned (.bool true)/\Below (w.heap.size+1) (w.alloc o) w':=fun o=>by
  have q:=ZO (fun v hv=>HW 2 v (by decide) (by decide) hv) (w.alloc o) (nG hT (hB0 o) l2)
  rw[show(w.alloc o).heap.size=w.heap.size+1 by simp]at q
  exact q
 have ahr:∀W,Calls Tryz.prog 8 #[.slice A n cap,.slice A' n' cap'] W fun r w'=>aid n n' r/\Below W.heap.size W w':=fun W=>afz W
 have HA:=Lib.hid (And.intro hA (And.intro hO hT));have HC:=Lib.hid (And.intro hc (And.intro hR hB0));have HU:=Lib.hid (And.intro h1 (And.intro h2 (And.intro h3 (And.intro h4 h5))));clear hA hO hc hT hB0 hR h1 h2 h3 h4 h5;go_enter Tryz.func3,Tryz.ntmps3
 go_upto_region 3 with(first
  |(go_at_call 7;refine(haw _).mono ?_;rintro r w1 ⟨rfl,hb1⟩)
  |(go_at_call 8;refine(ahr _).mono ?_;rintro r w2 ⟨⟨x,rfl,hx⟩,hb2⟩))
 have hG1:w1.heap[w.heap.size]?=some (.cells #[.int .u8 a1,.int .u8 a2,.int .u8 a3,.int .u8 a4,.int .u8 a5] 23 (0,0)):=by
  rw[hb1.block _ (Nat.lt_succ_self _)];simp[qU,Array.getElem?_push]
 have hG2:=(hb2.block _ (gQ hG1)).trans hG1;have hB2:Below w.heap.size w w2:=((HC.out.2.2 _).trans (hb1.mono (Nat.le_succ _))).trans (hb2.mono (Nat.le_of_lt (gQ hG1)));have HB2:=Lib.hid hB2;have g0:w2.cell? ⟨w.heap.size,0,none⟩=some (.int .u8 a1):=by rw[cell_of hG2];rfl
 have g1:w2.cell? ⟨w.heap.size,1,none⟩=some (.int .u8 a2):=by rw[cell_of hG2];rfl
 have g2:w2.cell? ⟨w.heap.size,2,none⟩=some (.int .u8 a3):=by rw[cell_of hG2];rfl
 have g3:w2.cell? ⟨w.heap.size,3,none⟩=some (.int .u8 a4):=by rw[cell_of hG2];rfl
 have g4:w2.cell? ⟨w.heap.size,4,none⟩=some (.int .u8 a5):=by rw[cell_of hG2];rfl
 clear hb1 hb2 hG1 hG2 haw ahr hB2;cases x with
 |false=>
  go_wp2
  refine bodyPost_ret (v:=.bool true) (by simp[results,Tryz.f3,go_sem]) rfl ?_
  exact⟨rfl,HB2.out⟩
 |true=>
  obtain⟨hn,hn'⟩:=hx rfl;have rQ:TT w2:=nG HA.out.2.2 HB2.out l2
  have hw1:1<=c.W:=by
   have:=HC.out.2.1.w;unfold iM at this;simp only at this;omega
  have hst:0<=c.st:=HC.out.2.1.st.1;have hO2:oP (· <w2.heap.size) w2 A' n':=(HA.out.2.1.of_below (fun j hj=>hj) HB2.out).mono fun j hj=>Nat.lt_of_lt_of_le hj HB2.out.size
  have hrest:=aaV HU.out.1 HU.out.2.1 HU.out.2.2.1 HU.out.2.2.2.1 HU.out.2.2.2.2 HC.out.1 (fun v hv=>HW c.W v hw1 uF hv) (cap:=cap) (cap':=cap') hn hn' w2 rQ (HA.out.1.below HB2.out) hO2
  clear hx hO2;go_upto_region 6 with(go_at_call 9;refine hrest.mono ?_;rintro r w3 ⟨b,rfl,hb3,hl3⟩)
  clear g0 g1 g2 g3 g4 hrest;obtain⟨s,e,Qc,hWh,hSt,hL,he⟩:=hl3;refine jY fun W3 hW3=> ?_
  have hL3:Live c s e (· <w2.heap.size) b W3:=by
   rw[hW3];exact(Live.below hL ((Below.refl _ w3).alloc (Nat.le_refl _) _)).mono (fun j hj=>.inl hj) hL.kt
  have wM:W3.heap[w3.heap.size]?=some (.cells (dI c).toArray 30 (0,0)):=by rw[hW3];simp[qU,Array.getElem?_push]
  have hB3:Below w.heap.size w W3:=by
   rw[hW3];exact(HB2.out.trans (hb3.mono HB2.out.size)).trans ((Below.refl _ w3).alloc (by have:=hb3.size;have:=HB2.out.size;omega) _)
  have c0:W3.cell? ⟨w3.heap.size,0,none⟩=some (.int .i64 (c.W:Int)):=by rw[cell_of wM];rfl
  have c1:W3.cell? ⟨w3.heap.size,1,none⟩=some (.int .i64 (c.S:Int)):=by rw[cell_of wM];rfl
  have c2:W3.cell? ⟨w3.heap.size,2,none⟩=some (.int .i64 c.st):=by rw[cell_of wM];rfl
  have c3:W3.cell? ⟨w3.heap.size,3,none⟩=some (.int .i64 (c.wt:Int)):=by rw[cell_of wM];rfl
  have c4:W3.cell? ⟨w3.heap.size,4,none⟩=some (.int .i64 c.u):=by rw[cell_of wM];rfl
  clear hW3 hb3 hL rQ;obtain⟨h,adp,KP⟩:=Rm Qc hSt hst;have hle:=VD uF hS5 adp hWh W3 hL3 (by omega)
  have HL:=Lib.hid KP;have HS:=Lib.hid (And.intro Qc (And.intro hL3 (And.intro wM hB3)));clear KP Qc hSt adp hWh hL3 wM hB3 hst;go_upto_region 9 with(go_at_call 10;refine hle.mono ?_;rintro r w4 ⟨bh,bw,bg,bs,sv,rfl,hb4,hH⟩)
  clear hle c0 c1 c2 c3 c4;have hL4:Live c s e (· <w2.heap.size) b w4:=(Live.below HS.out.2.1 hb4).mono (fun j hj=>.inl hj) HS.out.2.1.kt
  have hwd:=hL4.wds;have HH:=Lib.hid (And.intro hH (And.intro hb4 hL4));clear hH hb4 hL4;go_upto_region 12 with(go_at_call 11;refine hwd.mono ?_;rintro r w5 ⟨g,cap5,rfl,hg1,hg2,hcells,hb5,hL5⟩)
  have hsl:=Ro HC.out.2.1 HS.out.1.inv.m.1 (cap:=cap5) w5 hL5.tt.1 hg2 hcells;have Bt:Below W3.heap.size W3 w5:=HH.out.2.1.trans (hb5.mono HH.out.2.1.size);have Qb:w5.heap[w3.heap.size]?=some (.cells (dI c).toArray 30 (0,0)):=(Bt.block _ (gQ HS.out.2.2.1)).trans HS.out.2.2.1;have c0:w5.cell? ⟨w3.heap.size,0,none⟩=some (.int .i64 (c.W:Int)):=by rw[cell_of Qb];rfl
  have c1:w5.cell? ⟨w3.heap.size,1,none⟩=some (.int .i64 (c.S:Int)):=by rw[cell_of Qb];rfl
  have c2:w5.cell? ⟨w3.heap.size,2,none⟩=some (.int .i64 c.st):=by rw[cell_of Qb];rfl
  have c3:w5.cell? ⟨w3.heap.size,3,none⟩=some (.int .i64 (c.wt:Int)):=by rw[cell_of Qb];rfl
  have c4:w5.cell? ⟨w3.heap.size,4,none⟩=some (.int .i64 c.u):=by rw[cell_of Qb];rfl
  have H5:=Lib.hid (And.intro hcells (And.intro hb5 (And.intro Bt (And.intro Qb hg2))));clear hcells hb5 hL5 Bt Qb hwd hg1 hg2;go_upto_region 13 with(go_at_call 12;refine hsl.mono ?_;rintro r w6 ⟨⟨gs,o,cp,rfl,hgs,hgs0,hsc⟩,hb6⟩)
  clear hsl c0 c1 c2 c3 c4
  have hT6:TsW c s h w3.heap.size g gs o bh bw bs sv w6:=by
   refine af3 ((HH.out.1.below H5.out.2.1).below hb6) ?_ ?_ hsc
   ·exact(hb6.cell (p:=⟨g,0,none⟩) H5.out.2.2.2.2).trans (H5.out.1 0 _ rfl)
   ·rw[hb6.cell (p:=⟨w3.heap.size,2,none⟩) (gQ H5.out.2.2.2.1),cell_of H5.out.2.2.2.1];rfl
  have hBx:Below w.heap.size w w6:=(HS.out.2.2.2.trans (H5.out.2.2.1.mono HS.out.2.2.2.size)).trans (hb6.mono (by have:=HS.out.2.2.2.size;have:=H5.out.2.2.1.size;omega))
  have HBx:=Lib.hid hBx;have HT:=Lib.hid hT6;have hS1:(c.S:Int)<=5:=by omega
  clear hgs hgs0 hsc hb6 hT6 hBx H5 HH HS;go_wp2
  go_loopw [14] (fun i wr=>∃k:Nat,k<=c.S/\i=.int .i64 (k:Int)/\wr=w6) (fun i _=>c.S-(intOf i).toNat)
  case atStart=>exact⟨0,Nat.zero_le _,rfl,rfl⟩
  case round=>
   obtain⟨k,hk,rfl,hwr⟩:=hrel;subst hwr;refine jY fun Wo hWo=> ?_
   subst hWo;have q0:=HT.out.cl;have qs:=HT.out.st;have hn0:(0:Int)<(nC c:Int):=by unfold nC;omega
   by_cases hlt:k<c.S
   ·have hi1:(k:Int)<(c.S:Int):=Int.ofNat_lt.2 hlt
    have qh0:=HT.out.h0;have qh2:=HT.out.h2;by_cases hcl:s.m.cl=2
    ·rw[hcl]at q0
     go_wp2
     refine bodyPost_ret (v:=.bool true) (by simp[results,Tryz.f3,go_sem]) rfl ?_
     exact⟨rfl,HBx.out⟩
    ·have KP:=HL.out hcl k hlt
     have qw:=HT.out.who k hlt;have ql:=HT.out.slt k hlt;rw[<-Nat.add_assoc]at ql;generalize s.m.cl=cl at q0 hcl;by_cases hw:h.who k=0
     ·rw[hw]at qw
      have qw2:Wo.cell? ⟨bw,k,none⟩=some (.int .i64 0):=qw;clear qw KP ql;go_wp2
      go_roundw
      case rel=>exact⟨k+1,hlt,by go_num,by first|rfl|trivial⟩
      case measure=>simp[intOf];omega
     ·obtain⟨e1,e2⟩:=KP hw
      obtain⟨bk,qb,qq⟩:=HT.out.str k hlt hw;obtain⟨p,hp⟩:∃p:Int,p=(h.who k:Int):=⟨_,rfl⟩;rw[<-hp]at qw;have hp0:¬p=0:=by omega
      obtain⟨f,hf⟩:∃f,f=h.st k:=⟨_,rfl⟩;rw[<-hf]at e1 e2 qq;obtain⟨sz,hsz⟩:∃sz:Int,sz=(c.S:Int):=⟨_,rfl⟩;rw[<-hsz]at hi1 hS1;have HE:=Lib.hid (And.intro e1 (And.intro e2 (And.intro qq hsz)));clear e1 e2 qq hp hf KP hw;go_wp2
      go_loopw [15,16,17,18] (fun v15 v16 v17 v18 wi=>∃(q:Nat) (nn mm p:Int),q<=8/\v18=.int .i64 (q:Int)/\v15=.int .i64 nn/\v16=.int .i64 mm/\v17=.int .i64 p/\Nq f q nn mm p/\wi=Wo)
       (fun _ _ _ v18 _=>8-(intOf v18).toNat)
      case atStart=>exact⟨0,0,0,1,by decide,rfl,rfl,rfl,rfl,Nq.zero f,rfl⟩
      case round=>
       obtain⟨q,nn,mm,p2,hq,rfl,rfl,rfl,rfl,hN,hwi⟩:=hrel;subst hwi;obtain⟨⟨n0,n1⟩,⟨m0,m1⟩,p0,p1⟩:=hN.bd hq;by_cases hq8:q<8
       ·have hqi:(q:Int)<8:=by omega
        have qf:=HE.out.2.2.1 q hq8;have HNN:=Lib.hid hN;clear hN;cases hf:f q with
        |true=>
         rw[hf]at qf;have Y2:=HNN.out.yes hf;have HY:=Lib.hid Y2;clear Y2 hf;go_wp2
         go_roundw
         case rel=>exact⟨q+1,nn+p2,mm+1,2*p2,hq8,by go_num,by go_num,by go_num,by go_num,HY.out,by first|rfl|trivial⟩
         case measure=>simp[intOf];omega
        |false=>
         rw[hf]at qf;have Y2:=HNN.out.no hf;have HY:=Lib.hid Y2;clear Y2 hf;go_wp2
         go_roundw
         case rel=>exact⟨q+1,nn,mm,2*p2,hq8,by go_num,by go_num,by go_num,by go_num,HY.out,by first|rfl|trivial⟩
         case measure=>simp[intOf];omega
       ·have hq9:q=8:=by omega
        subst hq9;have en:=hN.n;have em:=hN.m;rw[<-HE.out.1]at en;have em2:mm<=c.st:=by rw[em];exact HE.out.2.1
        rw[<-en]at ql;have hno:¬c.st<mm:=by omega
        clear hN en em hq8;go_wp2
        go_roundw
        case rel=>exact⟨k+1,hlt,by go_num,by first|rfl|trivial⟩
        case measure=>simp[intOf];omega
   ·have hkk:k=c.S:=Nat.le_antisymm hk (Nat.le_of_not_lt hlt)
    have hi1:¬(k:Int)<(c.S:Int):=by rw[hkk];exact Int.lt_irrefl _
    go_wp2
    refine bodyPost_ret (v:=.bool true) (by simp[results,Tryz.f3,go_sem]) rfl ?_
    exact⟨rfl,HBx.out⟩
end
end bq
end Go.Proofs.YteaflphddciglaaGreatDoor
