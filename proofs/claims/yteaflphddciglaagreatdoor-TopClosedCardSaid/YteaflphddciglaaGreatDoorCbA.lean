/- Laws of the proof, joined. No condition of its own. -/
import Derived.Test.YteaflphddciglaaGreatDoorCaI
set_option linter.all false
def fp:=@Int.natCast_nonneg
def fT:=@congrArg
def j7:=@Nat.mul_le_mul_left
def qt:=@List.mem_of_mem_tail
def qP:=@List.map_append
def su:=@Decidable.not_not
def tj:=@Nat.mul_add
namespace Go.Proofs.YteaflphddciglaaGreatDoor
namespace bq
noncomputable section
open Classical
def upd{α:Type}(f:Nat->α)(i:Nat)(v:α):Nat->α:=λj=>if j=i then v else f j
def Mm.set(m:Mm)(i:Nat)(s:aa):Mm:={m with sl:=upd m.sl i s}
def Mm.pin(m:Mm)(w:Nat)(v:Int):Mm:={m with pn:=upd m.pn w v}
def Mm.nT(m:Mm)(w:Nat)(v:Int):Mm:={m with gr:=upd m.gr w v}
def VF(s:aa):Prop:=s.st=2
def jg(s:aa):Prop:=s.st=2/\s.brk=false
def j6(s:aa):Prop:=s.st=0
def fits(kd:Nat)(ow:Int)(s:aa):Prop:=
 match kd with
 |0=>jg s/\s.own=ow
 |1=>jg s
 |2=>j6 s
 |3=>jg s\/j6 s
 |4=>(s.st=2/\(s.brk=true\/ow=1\/ow=2))\/(s.st=3/\ow=2)
 |5=>s.st=6
 |6=>VF s
 |_=>False
def Fd.new(kd:Nat)(ow:Int):Fd:=⟨kd,ow,0,none⟩
def Fd.step(S:Nat)(m:Mm)(f:Fd):Fd:=
 if f.fd.isSome\/S<=f.at_ then f else if fits f.kd f.ow (m.sl f.at_)then{f with fd:=some (m.sl f.at_)}else{f with at_:=f.at_+1}
def Fd.all(S:Nat)(f:Fd):Prop:=f.fd=none/\S<=f.at_
def Fd.again(f:Fd):Fd:={f with fd:=none}
def Fd.go(f:Fd):Fd:=if f.fd.isSome then{f with fd:=none,at_:=f.at_+1}else f
def Fd.wd(f:Fd):aa:=f.fd.getD aa.zero
def Rt.new(i:Nat)(wd:aa):Rt:=⟨i,wd,0,.swap,false⟩
def Rt.step(m:Mm)(r:Rt):Rt×Mm:=
 match r.st with
 | .swap=>match az r.wd 11 0 4095 with
  |some n=>if m.sl r.i=r.wd then({r with wd:=n,st:=.look,sw:=true},m.set r.i n)else({r with st:=.done},m)
  |none=>({r with st:=.done},m)
 | .look=>({r with ep:=m.ep,st:=.iI},m)
 | .iI=>match az r.wd 17 0 r.ep with
  |some n=>if m.sl r.i=r.wd then({r with st:=.jk},m.set r.i n)else({r with st:=.jk},m)
  |none=>({r with st:=.jk},m)
 | .jk=>({r with st:=.done},{m with ep:=aR (m.ep+1)})
 | .done=>(r,m)
def Tk.new:Tk:=⟨.closed,Fd.new 0 0,0,aa.zero,0,false,Rt.new 0 aa.zero,0⟩
def Tk.granted(i:Nat):Tk:={Tk.new with st:=.grant,i:=i}
def Tk.fin(t:Tk)(e:Int):Tk:={t with e:=e,st:=.done}
def Tk.search(t:Tk)(st:gm)(kd:Nat)(ow:Int):Tk:={t with look:=Fd.new kd ow,st:=st}
def Tk.swap(w:Nat)(m:Mm)(t:Tk)(i:Nat)(wd:aa)(d:Int):Option (Tk×Mm):=
 match az wd d w 0 with
 |some n=>if m.sl i=wd then some ({t with i:=i,wd:=n,gen:=n.gen},m.set i n)else none
 |none=>none
def Tk.step(w S:Nat)(m:Mm)(good:Bool)(t:Tk):Tk×Mm:=
 match t.st with
 | .closed=>if m.cl≠0 then(t.fin 5,m)else(t.search .own 0 w,m)
 | .own=>let f:=t.look.step S m;let t:={t with look:=f}
  if f.fd.isSome then({t with st:=.gp},m)else if f.all S then(t.search .any 1 w,m)else(t,m)
 | .gp=>match t.swap w m t.look.at_ t.look.wd 3 with
  |some (t,m)=>({t with st:=.check},m)
  |none=>({t with look:=t.look.again,st:=.own},m)
 | .any=>let f:=t.look.step S m;let t:={t with look:=f}
  if f.fd.isSome then({t with st:=.anyS},m)else if f.all S then(t.search .free 2 w,m)else(t,m)
 | .anyS=>match t.swap w m t.look.at_ t.look.wd 3 with
  |some (t',m)=>if t.look.wd.own=w then({t' with st:=.check},m)else({t' with ps:=false}.search .move 0 t.look.wd.own,m)
  |none=>({t with look:=t.look.again,st:=.any},m)
 | .move=>let f:=t.look.step S m;let t:={t with look:=f}
  if f.fd.isSome then(if t.ps then({t with ps:=false,look:=f.go},m)else({t with ps:=true,st:=.dD},m))else if f.all S then({t with st:=.check},m)else(t,m)
 | .dD=>
  let t':={t with look:=t.look.go,st:=.move}
  match az t.look.wd 9 w 0 with
  |some n=>if m.sl t.look.at_=t.look.wd then(t',m.set t.look.at_ n)else(t',m)
  |none=>(t',m)
 | .free=>let f:=t.look.step S m;let t:={t with look:=f}
  if f.fd.isSome then({t with st:=.dQ},m)else if f.all S then(t.fin 3,m)else(t,m)
 | .dQ=>match t.swap w m t.look.at_ t.look.wd 0 with
  |some (t,m)=>({t with st:=.bM},m)
  |none=>({t with look:=t.look.again,st:=.free},m)
 | .bM=>match t.swap w m t.i t.wd (if good then 1 else 2)with
  |some (t,m)=>if good then({t with st:=.check},m)else(t.fin 6,m)
  |none=>(t.fin 6,m)
 | .check=>if m.cl=0 then(t.fin 0,m)else({t with st:=.back},m)
 | .back=>if(m.sl t.i).st=3/\(m.sl t.i).own=w/\(m.sl t.i).gen=t.gen then({t with rt:=Rt.new t.i (m.sl t.i),st:=.go},m)else(t.fin 5,m)
 | .go=>let r:=t.rt.step m;let t:={t with rt:=r.1}
  if r.1.st=.done then(if r.1.sw then(t.fin 5,r.2)else({t with st:=.back},r.2))else(t,r.2)
 | .grant=>({t with wd:=m.sl t.i,st:=.eG},m)
 | .eG=>match az t.wd 16 w 0 with
  |none=>(t.fin 5,m)
  |some n=>if m.sl t.i=t.wd then({t with wd:=n,gen:=n.gen,st:=if n.st=3 then .check else .bM},m.set t.i n)else({t with st:=.grant},m)
 | .done=>(t,m)
def Gv.new(i gen:Int)(dc:Bool):Gv:=⟨i,gen,dc,.closed,0,aa.zero,Rt.new 0 aa.zero,0⟩
def Gv.fin(g:Gv)(e:Int):Gv:={g with e:=e,st:=.done}
def Gv.step(c:Cn)(w:Nat)(m:Mm)(g:Gv):Gv×Mm:=
 match g.st with
 | .closed=>if m.cl=2 then({g with cl:=m.cl}.fin 5,m)else({g with cl:=m.cl,st:=.look},m)
 | .look=>if 0<=g.i/\g.i<c.S then
   let s:=m.sl g.i.toNat;let g:={g with wd:=s}
   if¬(s.st=3/\s.own=w/\s.gen=g.gen)then(g.fin 2,m)else if s.str≠0/\g.dc=false then(g.fin 8,m)else
   if g.dc=true\/s.brk=true\/c.u<=s.uses\/¬(g.cl=(0:Int))then({g with rt:=Rt.new g.i.toNat s,st:=.go},m)else({g with st:=.rest},m)
  else(g.fin 2,m)
 | .rest=>match az g.wd 4 w 0 with
  |some n=>if m.sl g.i.toNat=g.wd then(g.fin 0,m.set g.i.toNat n)else({g with st:=.look},m)
  |none=>({g with st:=.look},m)
 | .go=>let r:=g.rt.step m;let g:={g with rt:=r.1}
  if r.1.st=.done then(if r.1.sw then(g.fin 0,r.2)else({g with st:=.look},r.2))else(g,r.2)
 | .done=>(g,m)
def Sm.new(op:Bool)(i gen n:Int):Sm:=⟨op,i,gen,n,.closed,aa.zero,aa.zero,0,0⟩
def Sm.fin(s:Sm)(e:Int):Sm:={s with e:=e,st:=.done}
def Sm.next(c:Cn)(w:Nat)(s:Sm)(x:aa):Option aa:=if s.op then az x 14 w c.st else az x 15 w s.n
def Sm.step(c:Cn)(w:Nat)(m:Mm)(s:Sm):Sm×Mm:=
 match s.st with
 | .closed=>if m.cl=2 then(s.fin 5,m)else({s with st:=.look},m)
 | .look=>if 0<=s.i/\s.i<c.S then
   let x:=m.sl s.i.toNat;let s:={s with wd:=x}
   if¬(x.st=3/\x.own=w/\x.gen=s.gen)then(s.fin 2,m)else if s.op=true/\x.brk=true then(s.fin 9,m)else
   match s.next c w x with
   |none=>(s.fin (if s.op then 10 else 11),m)
   |some y=>({s with nx:=y,num:=if s.op then bA x.str else s.n,st:=.swap},m)
  else(s.fin 2,m)
 | .swap=>if m.sl s.i.toNat=s.wd then(s.fin 0,m.set s.i.toNat s.nx)else({s with st:=.look},m)
 | .done=>(s,m)
def Tw.new:Tw:=⟨[],none,false,0⟩
def Tw.step(S:Nat)(m:Mm)(t:Tw):Tw:=
 if t.dn then t else
 let r:=t.rd++[m.sl t.rd.length]
 if r.length<S then{t with rd:=r}else⟨[],some r,decide (t.last=some r),t.n+1⟩
def Qu.enter:Qu:=⟨.come,[],0,0,0⟩
def Qu.leave:Qu:=⟨.look,[],0,4,0⟩
def Qu.drain:Qu:=⟨.head,[],0,0,0⟩
def Qu.fin(q:Qu)(e:Int):Qu:={q with e:=e,st:=.done}
def Qu.step(c:Cn)(w:Nat)(m:Mm)(q:Qu):Qu×Mm:=
 match q.st with
 | .come=>let q:={q with ln:=m.qu}
  if c.wt<=m.qu.length\/w∈m.qu then(q.fin 7,m)else({q with st:=.push},m)
 | .push=>if m.qu=q.ln then({q with st:=.closed},{m with qu:=m.qu++[w]})else({q with st:=.come},m)
 | .closed=>if m.cl=0 then(q.fin 0,m)else({q with why:=5,st:=.look},m)
 | .look=>let q:={q with ln:=m.qu}
  if w∈m.qu then({q with st:=.drop},m)else(q.fin 8,m)
 | .drop=>if m.qu=q.ln then(q.fin q.why,{m with qu:=m.qu.erase w})else({q with st:=.look},m)
 | .head=>match m.qu with
  |[]=>({q with ln:=[]}.fin 0,m)
  |a::r=>({q with ln:=a::r,first:=a,st:=.pop},m)
 | .pop=>if m.qu=q.ln then({q with st:=.tell},{m with qu:=m.qu.tail})else({q with st:=.head},m)
 | .tell=>({q with st:=.head},m.nT q.first (-1))
 | .done=>(q,m)
def Td.new:Td:=⟨.ep,0,0,[],Fd.new 0 0,0,aa.zero,0,0,Rt.new 0 aa.zero⟩
def jq(w o:Nat):Nat:=if o=w then o+1 else o
def oC(word:Int)(ep:Int):Prop:=1<=word/\word-1<=ep
def Td.fu(S:Nat)(m:Mm)(t:Td):Td:=
 let f:=t.look.step S m
 match f.fd with
 | .some x=>{t with look:=f,i:=f.at_,wd:=x}
 | .none=>{t with look:=f}
def Td.swap(m:Mm)(t:Td)(d own:Int):Option Mm:=
 match az t.wd d own 0 with
 | .some n=>if m.sl t.i=t.wd then .some (m.set t.i n)else .none
 | .none=>.none
def Td.step(c:Cn)(w:Nat)(m:Mm)(t:Td):Td×Mm:=
 match t.st with
 | .ep=>({t with ep:=m.ep,st:=.pin},m)
 | .pin=>({t with st:=.cl},m.pin w (aR (t.ep+1)))
 | .cl=>({t with cl:=m.cl,look:=Fd.new 4 m.cl,st:=.dL},m)
 | .dL=>let t:=t.fu c.S m
  if t.look.fd.isSome then({t with rt:=Rt.new t.i t.wd,st:=.go},m)else if t.look.all c.S then({t with look:=Fd.new 5 w,st:=.old},m)else(t,m)
 | .go=>let r:=t.rt.step m;let t:={t with rt:=r.1}
  if r.1.st=.done then({t with look:=t.look.again,st:=.dL},r.2)else(t,r.2)
 | .old=>let t:=t.fu c.S m
  if t.look.fd.isSome then(let o:=jq w 0;({t with other:=o,st:=if o<c.W then .pins else .clear},m))else if t.look.all c.S then({t with st:=if t.cl≠0 then .eO else .line},m)else(t,m)
 | .pins=>if oC (m.pn t.other) t.wd.ep then({t with look:=t.look.go,st:=.old},m)else
   let o:=jq w (t.other+1)
   ({t with other:=o,st:=if o<c.W then .pins else .clear},m)
 | .clear=>({t with look:=t.look.go,st:=.old},(t.swap m 12 w).getD m)
 | .line=>match m.qu with
  |[]=>({t with qu:=[],st:=.eO},m)
  |a::r=>({t with qu:=a::r,head:=a,look:=Fd.new 3 w,st:=.some},m)
 | .some=>let t:=t.fu c.S m
  if t.look.fd.isSome then({t with st:=.keep},m)else if t.look.all c.S then({t with st:=.eO},m)else(t,m)
 | .keep=>match t.swap m (if t.wd.st=2 then 5 else 7) t.head with
  | .some m=>({t with st:=.pop},m)
  | .none=>({t with look:=t.look.again,st:=.some},m)
 | .pop=>if m.qu=t.qu then({t with st:=.grant},{m with qu:=m.qu.tail})else({t with st:=.back},m)
 | .grant=>({t with st:=.line},m.nT t.head (t.i+1))
 | .back=>let t:={t with wd:=m.sl t.i}
  ({t with st:=if t.wd.st=4\/t.wd.st=5 then .dR else .line},m)
 | .dR=>match t.swap m (if t.wd.st=4 then 6 else 8) w with
  | .some m=>({t with st:=.cl},m)
  | .none=>({t with st:=.back},m)
 | .eO=>({t with st:=.again},m.pin w 0)
 | .again=>({t with st:=if m.ep=t.ep then .done else .ep},m)
 | .done=>(t,m)
def bR.err(e:Int):bR:=⟨e,0,0,0,0,0,0,0⟩
def Ms.next(s:Ms):Bool×List Bool:=match s.wo with|[]=>(true,[])|b::r=>(b,r)
def Wr.to(x:Wr)(p:Ph):Wr:={x with ph:=p}
def Wr.end_(x:Wr)(a:bR):Wr:=x.to (.ax Td.new none a)
def Ms.put(s:Ms)(w:Nat)(x:Wr):Ms:={s with ws:=upd s.ws w x}
def Ms.mem(s:Ms)(m:Mm):Ms:={s with m:=m}
def Eh(l:List aa):Nat×Nat×Nat×Nat:=
 ((l.filter λs=>decide (s.st=2)).length,(l.filter λs=>decide (s.st=3)).length,(l.filter λs=>decide (s.st=0)).length,(l.filter λs=>decide (s.st≠0/\s.st≠2/\s.st≠3)).length)
def bE(x:Wr):Wk:=
 match x.ask.op with
 |0=>.get (if x.grant>0 then Tk.granted (x.grant-1).toNat else Tk.new)
 |1=>.give (Gv.new x.ask.slot x.ask.gen false)
 |2=>.give (Gv.new x.ask.slot x.ask.gen true)
 |3=>.bg (Sm.new true x.ask.slot x.ask.gen 0)
 |4=>.bg (Sm.new false x.ask.slot x.ask.gen x.ask.bg)
 |5=>.aS ⟨.look,Fd.new 6 0,0,Rt.new 0 aa.zero⟩
 |6=>.close none
 |_=>.stats Tw.new
def ak(c:Cn)(w:Nat)(s:Ms)(x:Wr):Wk->Ms
 | .get t=>
  let d:=t.st=.bM
  let n:=s.next
  let s:=if d then{s with wo:=n.2}else s
  let r:=t.step w c.S s.m (decide d&&n.1)
  let s:=s.mem r.2
  if r.1.st=.done then
   (if r.1.e=3 then(if x.ask.wait then s.put w (x.to (.enters Qu.enter))else s.put w (x.to (.counts Tw.new)))
    else if r.1.e=0 then s.put w (x.end_ ⟨0,r.1.i,r.1.gen,0,0,0,0,0⟩)else s.put w (x.end_ (.err r.1.e)))
  else s.put w (x.to (.work (.get r.1)))
 | .give g=>
  let r:=g.step c w s.m
  let s:=s.mem r.2
  if r.1.st=.done then s.put w (x.end_ (.err r.1.e))else s.put w (x.to (.work (.give r.1)))
 | .bg g=>
  let r:=g.step c w s.m
  let s:=s.mem r.2
  if r.1.st=.done then s.put w (x.end_ ⟨r.1.e,0,0,if r.1.e=0 then r.1.num else 0,0,0,0,0⟩)else s.put w (x.to (.work (.bg r.1)))
 | .close none=>
  let m:=if x.ask.force then{s.m with cl:=2}else if s.m.cl=0 then{s.m with cl:=1}else s.m
  (s.mem m).put w (x.to (.work (.close (some Qu.drain))))
 | .close (some q)=>
  let r:=q.step c w s.m
  let s:=s.mem r.2
  if r.1.st=.done then s.put w (x.end_ (.err 0))else s.put w (x.to (.work (.close (some r.1))))
 | .stats t=>
  let t:=t.step c.S s.m
  if t.dn then s.put w (x.end_ ⟨0,0,0,0,Eh (t.last.getD [])⟩)else s.put w (x.to (.work (.stats t)))
 | .aS r=>
  match r.st with
  | .look=>
   let f:=r.look.step c.S s.m
   if f.fd.isSome then s.put w (x.to (.work (.aS {r with look:=f,st:=.ask})))else if f.all c.S then s.put w (x.end_ ⟨0,r.many,0,0,0,0,0,0⟩)else s.put w (x.to (.work (.aS {r with look:=f})))
  | .ask=>
   let n:=s.next
   let s:={s with wo:=n.2}
   if n.1=true/\r.look.wd.fO=false/\r.look.wd.brk=false then s.put w (x.to (.work (.aS {r with st:=.mark})))else s.put w (x.to (.work (.aS {r with rt:=Rt.new r.look.at_ r.look.wd,st:=.dB})))
  | .mark=>
   let x':=x.to (.work (.aS {r with look:=r.look.go,st:=.look}))
   match az r.look.wd 10 w 0 with
   |some n=>if s.m.sl r.look.at_=r.look.wd then(s.mem (s.m.set r.look.at_ n)).put w x' else s.put w x'
   |none=>s.put w x'
  | .dB=>
   let q:=r.rt.step s.m
   let s:=s.mem q.2
   if q.1.st=.done then s.put w (x.to (.work (.aS {r with rt:=q.1,many:=if q.1.sw then aR (r.many+1)else r.many,look:=r.look.go,st:=.look})))else s.put w (x.to (.work (.aS {r with rt:=q.1})))
def aV(c:Cn)(w:Nat)(s:Ms)(x:Wr)(q:Qu):Ms:=
 let r:=q.step c w s.m
 let s:=s.mem r.2
 if r.1.st=.done then(if r.1.e=8 then s.put w (x.to (.parked false))else s.put w (x.end_ (.err r.1.e)))else s.put w (x.to (.leaves r.1))
def dh(w:Nat)(s:Ms)(x:Wr):Option Int->Ms
 |none=>s.put w (x.to (.wakes (some (s.m.gr w))))
 |some g=>
  let s:=s.mem (s.m.nT w 0)
  if g<0 then s.put w (x.end_ (.err 5))else s.put w {x with grant:=g,ph:=.pin none}
def aQ(s:Ms)(w:Nat):Prop:=
 match(s.ws w).ph with
 | .rest=>False
 | .parked t=>s.m.gr w≠0\/t=true/\(s.ws w).ask.dl<=s.now
 |_=>True
def ai(c:Cn)(s:Ms)(w:Nat):Ms:=
 let x:=s.ws w
 match x.ph with
 | .rest=>s
 | .pin none=>s.put w (x.to (.pin (some s.m.ep)))
 | .pin (some e)=>(s.mem (s.m.pin w (aR (e+1)))).put w (x.to (.work (bE x)))
 | .work k=>ak c w s x k
 | .counts t=>
  let t:=t.step c.S s.m
  if t.dn then(if∃y∈t.last.getD [],fits 3 w y then s.put w (x.to (.work (.get Tk.new)))else s.put w (x.end_ (.err 3)))else s.put w (x.to (.counts t))
 | .enters q=>
  let r:=q.step c w s.m
  let s:=s.mem r.2
  if r.1.st=.done then(if r.1.e=0\/r.1.e=8 then s.put w (x.to (.ax Td.new (some (decide (r.1.e=0))) (.err 0)))else s.put w (x.end_ (.err r.1.e)))else s.put w (x.to (.enters r.1))
 | .ax t p a=>
  let r:=t.step c w s.m
  let s:=s.mem r.2
  if r.1.st=.done then(match p with
   |some b=>s.put w (x.to (.parked b))
   |none=>{s.put w (x.to .rest)with ev:=⟨true,w,x.ask,a⟩::s.ev})else s.put w (x.to (.ax r.1 p a))
 | .parked _=>if s.m.gr w≠0 then dh w s x none else aV c w s x Qu.leave
 | .wakes h=>dh w s x h
 | .leaves q=>aV c w s x q
theorem wG{x n}{d own more}(h:az x d own more=some n):∃r,uT x d own more=some r/\n={r with cz:=(x.cz+1)%32768}/\Facts x/\0<=own/\own<=15:=by
 obtain⟨F,h0,h1,r,hr,rfl⟩:=LX h;grind
theorem eT{x n}{d own more}(h:az x d own more=some n):
  (d=0->x.st=0/\n.st=1)/\(d=1->x.st=1/\n.st=3)/\(d=2->x.st=1/\n.st=0)/\(d=3->x.st=2/\n.st=3)/\(d=4->x.st=3/\n.st=2)/\(d=5->x.st=2/\n.st=4)/\
  (d=6->x.st=4/\n.st=2)/\(d=7->x.st=0/\n.st=5)/\(d=8->x.st=5/\n.st=0)/\(d=9->x.st=2/\n.st=2)/\(d=10->x.st=2/\n.st=2)/\(d=11->(x.st=2\/x.st=3)/\n.st=6)/\
  (d=12->x.st=6/\n.st=0)/\(d=14->x.st=3/\n.st=3)/\(d=15->x.st=3/\n.st=3)/\(d=16->(x.st=4/\n.st=3)\/(x.st=5/\n.st=1))/\(d=17->x.st=6/\n.st=6):=by
 obtain⟨r,hr,rfl,_⟩:=wG h;refine⟨?_,?_,?_,?_,?_,?_,?_,?_,?_,?_,?_,?_,?_,?_,?_,?_,?_⟩<;>(intro hd;subst hd)
 .have hr:row0 x own=some r:=hr
  unfold row0 at hr;split at hr<;>cases hr;exact⟨‹_›,rfl⟩
 .have hr:yB x own=some r:=hr
  unfold yB at hr;split at hr<;>cases hr;rename_i hh;exact⟨hh.1,rfl⟩
 .have hr:Ce x own=some r:=hr
  unfold Ce at hr;split at hr<;>cases hr;rename_i hh;exact⟨hh.1,rfl⟩
 .have hr:uU x own=some r:=hr
  unfold uU at hr;split at hr<;>cases hr;rename_i hh;exact⟨hh.1,rfl⟩
 .have hr:yA x own=some r:=hr
  unfold yA at hr;split at hr<;>cases hr;rename_i hh;exact⟨hh.1,rfl⟩
 .have hr:yz x own=some r:=hr
  unfold yz at hr;split at hr<;>cases hr;rename_i hh;exact⟨hh.1,rfl⟩
 .have hr:yx x own=some r:=hr
  unfold yx at hr;split at hr<;>cases hr;exact⟨‹_›,rfl⟩
 .have hr:yu x own=some r:=hr
  unfold yu at hr;split at hr<;>cases hr;exact⟨‹_›,rfl⟩
 .have hr:oK x=some r:=hr
  unfold oK at hr;split at hr<;>cases hr;exact⟨‹_›,rfl⟩
 .have hr:Cc x own=some r:=hr
  unfold Cc at hr;split at hr<;>cases hr;rename_i hh;exact⟨hh,hh⟩
 .have hr:xu x=some r:=hr
  unfold xu at hr;split at hr<;>cases hr;rename_i hh;exact⟨hh.1,hh.1⟩
 .have hr:tq x more=some r:=hr
  unfold tq at hr;split at hr<;>cases hr;rename_i hh;exact⟨hh.1,rfl⟩
 .have hr:xq x=some r:=hr
  unfold xq at hr;split at hr<;>cases hr;exact⟨‹_›,rfl⟩
 .have hr:aZ x own more=some r:=hr
  unfold aZ at hr;split at hr<;>cases hr;rename_i hh;exact⟨hh.1,hh.1⟩
 .have hr:vH x own more=some r:=hr
  unfold vH at hr;split at hr<;>cases hr;rename_i hh;exact⟨hh.1,hh.1⟩
 .have hr:sZ x own=some r:=hr
  unfold sZ at hr;split at hr
  .cases hr;rename_i hh;exact .inl ⟨hh.1,rfl⟩
  .split at hr<;>cases hr
   rename_i hh;exact .inr ⟨hh.1,rfl⟩
 .have hr:xk x more=some r:=hr
  unfold xk at hr;split at hr<;>cases hr;rename_i hh;exact⟨hh.1,hh.1⟩
theorem xC{x}(F:Facts x){d own more}(h0:0<=own)(h1:own<=15){r}(hr:uT x d own more=some r):(az x d own more).isSome=true:=by
 grind [aeW]
theorem Yw{x}(F:Facts x)(h:x.st=2\/x.st=3):(az x 11 0 4095).isSome=true:=by
 refine xC F (by decide) (by decide) (r:={dU x 6 0 with ep:=4095}) ?_;show tq x 4095=_;grind [tq]
theorem Pj{x}(F:Facts x)(h:jg x){w}(h0:0<=w)(h1:w<=15):(az x 3 w 0).isSome=true:=by
 refine xC F h0 h1 (r:=fM x w) ?_;show uU x w=_;unfold uU;rw[if_pos (show x.st=2/\x.brk=false from h)]
theorem aeV{x}(F:Facts x)(h:j6 x){w}(h0:0<=w)(h1:w<=15):(az x 0 w 0).isSome=true:=by
 refine xC F h0 h1 (r:=dU x 1 w) ?_;show row0 x w=_;unfold row0;rw[if_pos (show x.st=0 from h)]
theorem aeU{x}(F:Facts x)(h:jg x\/j6 x){w}(h0:0<=w)(h1:w<=15):(az x (if x.st=2 then 5 else 7) w 0).isSome=true:=by
 by_cases h2:x.st=2
 .rw[if_pos h2]
  have hb:jg x:=by
   grind [j6]
  refine xC F h0 h1 (r:={x with st:=4,own:=w,fO:=false}) ?_;show yz x w=_;unfold yz;rw[if_pos (show x.st=2/\x.brk=false from hb)]
 .rw[if_neg h2]
  have hb:x.st=0:=by
   rcases h with h|h
   .exact absurd h.1 h2
   .exact h
  refine xC F h0 h1 (r:=dU x 5 w) ?_;show yu x w=_;grind [yu]
theorem Yv{x}(F:Facts x)(h:x.st=4\/x.st=5){w}(h0:0<=w)(h1:w<=15):(az x (if x.st=4 then 6 else 8) w 0).isSome=true:=by
 by_cases h2:x.st=4
 .rw[if_pos h2]
  refine xC F h0 h1 (r:={x with st:=2,own:=w}) ?_;show yx x w=_;grind [yx]
 .rw[if_neg h2]
  refine xC F h0 h1 (r:=dU x 0 0) ?_;show oK x=_;grind [oK]
theorem aeT{x}(F:Facts x){w}(h:x.st=3/\x.own=w/\x.str=0)(h0:0<=w)(h1:w<=15):(az x 4 w 0).isSome=true:=by
 refine xC F h0 h1 (r:={x with st:=2}) ?_;show yA x w=_;grind [yA]
def cI(c:Cn):Nat:=6+2*c.W
def lE(c:Cn):Nat:=3+2*c.W
def cS(c:Cn)(s:aa):Nat:=if s.st=6 then 1 else if s.st=2\/s.st=3\/s.st=4 then cI c else 0
def j4(f:Nat->Nat):Nat->Nat
 |0=>0
 |n+1=>j4 f n+f n
theorem GR{f g}:∀n,(∀i,i<n->f i=g i)->j4 f n=j4 g n
 |0,_=>rfl
 |n+1,h=>by unfold j4;rw[GR n (λi hi=>h i (by omega)),h n (by omega)]
theorem Oq{f g}{k}:∀n,k<n->(∀i,i≠k->f i=g i)->j4 f n+g k=j4 g n+f k
 |0,h,_=>by omega
 |n+1,h,hf=>by
  unfold j4;by_cases e:k=n
  .grind [GR]
  .have:=Oq n (by omega) hf
   grind
def wt(c:Cn)(m:Mm):Nat:=j4 (λi=>cS c (m.sl i)) c.S+lE c*m.qu.length
def zA(c:Cn)(m m':Mm):Nat:=2*c.W*(if m'.ep=m.ep then 0 else 1)+2*c.W*(if m'.qu=m.qu then 0 else 1)
def fJ(c:Cn)(m:Mm)(b:Nat)(m':Mm)(b':Nat):Prop:=b'+wt c m'+zA c m m'+1<=b+wt c m
theorem afS(c)(m){i}(hi:i<c.S)(s):wt c (m.set i s)+cS c (m.sl i)=wt c m+cS c s:=by
 unfold wt Mm.set;have:=Oq (f:=λj=>cS c ((upd m.sl i s) j)) (g:=λj=>cS c (m.sl j)) c.S hi λj hj=>by
  grind [upd]
 grind [upd]
theorem afI(c)(m)(i)(s):zA c m (m.set i s)=0:=by
 unfold zA Mm.set;simp
theorem gG{c}{m}{i}(hi:i<c.S){x n}(hx:m.sl i=x){b b'}(h:b'+cS c n+1<=b+cS c x):fJ c m b (m.set i n) b':=by
 grind [fJ,afS,afI]
theorem FU{c}{m}{w}{v}{b b'}(h:b'+1<=b):fJ c m b (m.pin w v) b':=by
 unfold fJ zA wt Mm.pin;simp;omega
theorem Aq{c}{m}{w}{v}{b b'}(h:b'+1<=b):fJ c m b (m.nT w v) b':=by
 unfold fJ zA wt Mm.nT;simp;omega
theorem afb{c}{m}{b b'}(h:b'+2*c.W+1<=b):fJ c m b {m with ep:=aR (m.ep+1)} b':=by
 grind [fJ,zA,wt]
theorem PE{c}{m}(h0:m.qu≠[]){b b'}(h:b'+2*c.W+1<=b+lE c):fJ c m b {m with qu:=m.qu.tail} b':=by
 obtain⟨a,r,hr⟩:∃a r,m.qu=a::r:=by
  cases hq:m.qu with
  |nil=>exact absurd hq h0
  |cons a r=>grind
 have e:¬r=a::r:=λe=>by have:=fT List.length e;simp at this
 unfold fJ zA wt;simp only[hr,List.tail_cons,if_neg e,if_true,ct];grind
theorem Md{c}{m}{w}(h0:w∈m.qu){b b'}(h:b'+2*c.W+1<=b+lE c):fJ c m b {m with qu:=m.qu.erase w} b':=by
 have hl:=List.length_erase_of_mem h0;have hp:=List.length_pos_of_mem h0;have e:¬m.qu.erase w=m.qu:=λe=>by grind
 unfold fJ zA wt;simp only[if_neg e,if_true,hl];have:lE c*m.qu.length=lE c*(m.qu.length-1)+lE c:=by
  conv=>lhs;rw[show m.qu.length=(m.qu.length-1)+1 by omega]
  grind
 omega
theorem YM{c}{m}{w}{b b'}(h:b'+lE c+2*c.W+1<=b):fJ c m b {m with qu:=m.qu++[w]} b':=by
 have e:¬m.qu++[w]=m.qu:=λe=>by simp_all
 unfold fJ zA wt;simp only[if_neg e,if_true,cE,List.length_singleton];grind
theorem KY{S}{m}{f:Fd}(h:f.fd=none):f.step S m=if S<=f.at_ then f else if fits f.kd f.ow (m.sl f.at_)then{f with fd:=some (m.sl f.at_)}else{f with at_:=f.at_+1}:=by
 unfold Fd.step;rw[h];by_cases h1:S<=f.at_
 .rw[if_pos (.inr h1),if_pos h1]
 .rw[if_neg (by simp;omega),if_neg h1]
theorem nU{S}{m}{f:Fd}(h:f.fd=none):
  (f.at_<S/\fits f.kd f.ow (m.sl f.at_)/\f.step S m={f with fd:=some (m.sl f.at_)})\/
  ((f.step S m).fd=none/\(f.step S m).all S/\(f.step S m).kd=f.kd/\(f.step S m).ow=f.ow)\/
  ((f.step S m).fd=none/\¬(f.step S m).all S/\f.at_+1<S/\f.step S m={f with at_:=f.at_+1}/\¬fits f.kd f.ow (m.sl f.at_)):=by
 rw[KY h];by_cases h1:S<=f.at_
 .rw[if_pos h1]
  exact .inr (.inl ⟨h,⟨h,h1⟩,rfl,rfl⟩)
 .rw[if_neg h1]
  by_cases h2:fits f.kd f.ow (m.sl f.at_)
  .rw[if_pos h2]
   exact .inl ⟨by omega,h2,rfl⟩
  .rw[if_neg h2]
   by_cases h3:S<=f.at_+1
   .exact .inr (.inl ⟨h,⟨h,h3⟩,rfl,rfl⟩)
   .exact .inr (.inr ⟨h,λhh=>h3 hh.2,by omega,rfl,h2⟩)
def gT(c:Cn)(r:Rt):Nat:=match r.st with| .look| .iI=>4+2*c.W| .jk=>3+2*c.W|_=>0
def xx(m:Mm)(r:Rt):Nat:=match r.st with| .swap=>if m.sl r.i=r.wd then 0 else 1| .look=>2| .iI=>1|_=>0
structure pY(c:Cn)(r:Rt):Prop where
 i:r.i<c.S
 st:r.st≠.done
 sw:r.st=.swap->(az r.wd 11 0 4095).isSome=true/\r.sw=false
theorem NB{c}{i}{x}(hi:i<c.S)(F:Facts x)(h:x.st=2\/x.st=3):pY c (Rt.new i x):=⟨hi,cK.noConfusion,λ_=>⟨Yw F h,rfl⟩⟩
theorem vO{c}{m}{r}(h:pY c r):
  (r.step m).1.i=r.i/\((r.step m).1.st≠.done->pY c (r.step m).1/\(r.step m).1.st≠.swap)/\
  (((r.step m).2=m/\(r.step m).1.st≠.done/\xx m (r.step m).1+1<=xx m r/\r.st≠.swap/\gT c (r.step m).1<=gT c r)\/
   ((r.step m).2=m/\(r.step m).1.st=.done/\(r.step m).1.sw=false/\r.st=.swap/\m.sl r.i≠r.wd)\/
   (∀b b',b'<=b+(if(r.step m).2.ep=m.ep then 0 else 2)->fJ c m (b+gT c r) (r.step m).2 (b'+gT c (r.step m).1))):=by
 obtain⟨i,wd,ep,st,sw⟩:=r;obtain⟨hi,hst,hsw⟩:=h;simp only at hi hst hsw;cases st with
 |swap=>
  obtain⟨hn,hs⟩:=hsw rfl;subst hs;obtain⟨n,hn⟩:=cP.1 hn;have e:(⟨i,wd,ep,.swap,false⟩:Rt).step m=if m.sl i=wd then(⟨i,n,ep,.look,true⟩,m.set i n)else(⟨i,wd,ep,.done,false⟩,m):=by
   unfold Rt.step;simp only[hn]
  rw[e];by_cases hm:m.sl i=wd
  .rw[if_pos hm]
   have h2:=(eT hn).2.2.2.2.2.2.2.2.2.2.2.1 rfl;refine⟨rfl,λ_=>⟨⟨hi,cK.noConfusion,λe=>by cases e⟩,cK.noConfusion⟩,.inr (.inr λb b' hb=>gG hi hm ?_)⟩;have:b'<=b:=by simpa[Mm.set]using hb
   have e1:cS c n=1:=by unfold cS;rw[if_pos h2.2]
   have e2:cS c wd=cI c:=by
    unfold cS;rw[if_neg (by omega),if_pos (by omega)]
   rw[e1,e2];unfold gT cI;simp only;omega
  .rw[if_neg hm]
   exact⟨rfl,λhh=>absurd rfl hh,.inr (.inl ⟨rfl,rfl,rfl,rfl,hm⟩)⟩
 |look=>
  show _/\_/\_;have e:(⟨i,wd,ep,.look,sw⟩:Rt).step m=(⟨i,wd,m.ep,.iI,sw⟩,m):=rfl;rw[e];exact⟨rfl,λ_=>⟨⟨hi,cK.noConfusion,λe=>by cases e⟩,cK.noConfusion⟩,.inl ⟨rfl,cK.noConfusion,by unfold xx;simp,cK.noConfusion,by unfold gT;simp⟩⟩
 |iI=>
  cases hn:az wd 17 0 ep with
  |none=>
   have e:(⟨i,wd,ep,.iI,sw⟩:Rt).step m=(⟨i,wd,ep,.jk,sw⟩,m):=by unfold Rt.step;simp only[hn]
   rw[e];exact⟨rfl,λ_=>⟨⟨hi,cK.noConfusion,λe=>by cases e⟩,cK.noConfusion⟩,.inl ⟨rfl,cK.noConfusion,by unfold xx;simp,cK.noConfusion,by unfold gT;simp⟩⟩
  |some n=>
   have e:(⟨i,wd,ep,.iI,sw⟩:Rt).step m=if m.sl i=wd then(⟨i,wd,ep,.jk,sw⟩,m.set i n)else(⟨i,wd,ep,.jk,sw⟩,m):=by unfold Rt.step;simp only[hn]
   rw[e];by_cases hm:m.sl i=wd
   .rw[if_pos hm]
    have h2:=(eT hn).2.2.2.2.2.2.2.2.2.2.2.2.2.2.2.2 rfl;refine⟨rfl,λ_=>⟨⟨hi,cK.noConfusion,λe=>by cases e⟩,cK.noConfusion⟩,.inr (.inr λb b' hb=>gG hi hm ?_)⟩;have:b'<=b:=by simpa[Mm.set]using hb
    have e1:cS c n=1:=by unfold cS;rw[if_pos h2.2]
    have e2:cS c wd=1:=by unfold cS;rw[if_pos h2.1]
    rw[e1,e2];unfold gT;simp only;omega
   .rw[if_neg hm]
    exact⟨rfl,λ_=>⟨⟨hi,cK.noConfusion,λe=>by cases e⟩,cK.noConfusion⟩,.inl ⟨rfl,cK.noConfusion,by unfold xx;simp,cK.noConfusion,by unfold gT;simp⟩⟩
 |jk=>
  have e:(⟨i,wd,ep,.jk,sw⟩:Rt).step m=(⟨i,wd,ep,.done,sw⟩,{m with ep:=aR (m.ep+1)}):=rfl;rw[e];refine⟨rfl,λhh=>absurd rfl hh,.inr (.inr λb b' hb=>afb ?_)⟩;have e:¬aR (m.ep+1)=m.ep:=by obtain⟨q,hq⟩:=jW (m.ep+1);omega
  rw[if_neg e]at hb;unfold gT;simp only;omega
 |done=>exact absurd rfl hst
def lR(c:Cn):Nat:=c.S+3
def oR(c:Cn)(a:Nat):Nat:=(c.S-a)*(c.W+4)+lR c+1
def wR(c:Cn)(a:Nat):Nat:=(c.S-a)+oR c 0+1
def xw(c:Cn)(m:Mm)(t:Td):Nat:=
 match t.st with
 | .ep=>1
 | .pin=>0
 | .cl=>wR c 0+1
 | .dL=>wR c t.look.at_
 | .go=>match t.rt.st with| .swap=>if m.sl t.rt.i=t.rt.wd then 0 else wR c t.look.at_+1| .look=>2| .iI=>1|_=>0
 | .old=>oR c t.look.at_
 | .pins=>(c.S-t.look.at_)*(c.W+4)+lR c-t.other
 | .clear=>(c.S-t.look.at_)*(c.W+4)+lR c-c.W-2
 | .line=>lR c
 | .some=>(c.S-t.look.at_)+2
 | .keep=>if m.sl t.i=t.wd then 0 else(c.S-t.look.at_)+3
 | .pop=>if m.qu=t.qu then 0 else lR c+3
 | .grant=>0
 | .back=>lR c+2
 | .dR=>if m.sl t.i=t.wd then 0 else lR c+3
 | .eO=>0
 | .again=>2
 | .done=>0
def rT(c:Cn)(m:Mm)(t:Td):Nat:=
 (match t.st with
 | .ep| .pin=>3
 | .cl| .dL| .old| .pins| .clear| .line=>2
 | .go=>2+gT c t.rt
 | .some| .keep=>if m.qu=t.qu then 2 else 4
 | .pop=>if m.qu=t.qu then 1 else 3
 | .grant| .back| .dR=>3
 | .eO=>2
 | .again=>1
 | .done=>0)+(match t.st with
 | .ep| .done=>0
 |_=>if m.ep=t.ep then 0 else 2)
def pX(c:Cn)(t:Td):Prop:=
 match t.st with
 | .dL=>t.look.fd=none/\t.look.kd=4
 | .old=>t.look.fd=none
 | .go=>pY c t.rt/\t.look.at_<c.S/\t.look.kd=4
 | .pins=>t.look.fd.isSome=true/\t.look.at_<c.S/\t.i=t.look.at_/\t.other<c.W
 | .clear=>t.look.fd.isSome=true/\t.look.at_<c.S/\t.i=t.look.at_
 | .some=>t.look.fd=none/\t.qu≠[]/\t.head<=15/\t.look.kd=3
 | .keep=>t.look.at_<c.S/\t.i=t.look.at_/\t.qu≠[]/\t.head<=15/\t.look.kd=3/\(az t.wd (if t.wd.st=2 then 5 else 7) t.head 0).isSome=true
 | .pop=>t.i<c.S/\t.qu≠[]
 | .grant=>t.i<c.S
 | .back=>t.i<c.S
 | .dR=>t.i<c.S/\∀w:Nat,w<=15->(az t.wd (if t.wd.st=4 then 6 else 8) w 0).isSome=true
 |_=>True
def bQ(c:Cn)(m:Mm):Prop:=(∀i,i<c.S->Facts (m.sl i))/\(∀a∈m.qu,a<c.W)
def Out(m m':Mm)(r r' b b':Nat)(c:Cn):Prop:=(m'=m/\r'+1<=r/\b'<=b)\/fJ c m b m' b'
theorem jQ{S}{m}{t:Td}(h:(t.look.step S m).fd=none):t.fu S m={t with look:=t.look.step S m}:=by
 unfold Td.fu;simp only[h]
theorem jP{S}{m}{t:Td}{x}{f}(hf:t.look.step S m=f)(h:f.fd=some x):t.fu S m={t with look:=f,i:=f.at_,wd:=x}:=by
 unfold Td.fu;simp only[hf,h]
theorem agR{c:Cn}{a}(h:a<c.S):c.W+4<=(c.S-a)*(c.W+4):=by
 have:1*(c.W+4)<=(c.S-a)*(c.W+4):=dq _ (by omega);omega
theorem Ky{c:Cn}{a}(h:a<c.S):(c.S-(a+1))*(c.W+4)+(c.W+4)=(c.S-a)*(c.W+4):=by
 rw[show c.S-a=(c.S-(a+1))+1 by omega,kj,Nat.one_mul]
theorem ai8{c:Cn}{a}:(c.S-a)*(c.W+4)<=c.S*(c.W+4):=dq _ (by omega)
theorem nN{c}{m}(M:bQ c m){i}{x n}{d own more}(hn:az x d own more=some n):bQ c (m.set i n):=by
 refine⟨λj hj=> ?_,M.2⟩;show Facts (upd m.sl i n j);unfold upd;by_cases e:j=i
 .rw[if_pos e];exact(H8 hn).1
 .rw[if_neg e];exact M.1 j hj
theorem Ty{c}{m}(M:bQ c m):bQ c {m with qu:=m.qu.tail}:=⟨M.1,λa ha=>M.2 a (qt ha)⟩
theorem DJ{c}{m}{r:Rt}(M:bQ c m):bQ c (r.step m).2:=by
 unfold Rt.step;split
 .split
  .split
   .exact nN M ‹_›
   .exact M
  .exact M
 .exact M
 .split
  .split
   .exact nN M ‹_›
   .exact M
  .exact M
 .exact M
 .exact M
theorem J8{c}{m m'}{t:Td}{d own}(M:bQ c m)(h:t.swap m d own=some m'):bQ c m':=by
 unfold Td.swap at h;split at h
 .split at h
  .cases h;exact nN M ‹_›
  .cases h
 .cases h
theorem aiJ{c}{m}{t:Td}{w}(M:bQ c m):bQ c (t.step c w m).2:=by
 unfold Td.step;split
 .exact M
 .exact M
 .exact M
 .dsimp only;split
  .exact M
  .split<;>exact M
 .dsimp only;split<;>exact DJ M
 .dsimp only;split
  .exact M
  .split<;>exact M
 .split<;>exact M
 .dsimp only
  cases h:t.swap m 12 w with
  |none=>exact M
  |some m'=>exact J8 M h
 .split<;>exact M
 .dsimp only;split
  .exact M
  .split<;>exact M
 .split
  .exact J8 M ‹_›
  .exact M
 .split
  .exact Ty M
  .exact M
 .exact M
 .exact M
 .split
  .exact J8 M ‹_›
  .exact M
 .exact M
 .exact M
 .exact M
theorem J9{m}{t:Td}{d own}{n}(h:az t.wd d own 0=some n)(e:m.sl t.i=t.wd):t.swap m d own=some (m.set t.i n):=by
 grind [Td.swap]
theorem Fv{m}{t:Td}{d own}(e:m.sl t.i≠t.wd):t.swap m d own=none:=by
 grind [Td.swap]
def Good(c:Cn)(w:Nat)(m:Mm)(t:Td):Prop:=
 pX c (t.step c w m).1/\Out m (t.step c w m).2 (xw c m t) (xw c m (t.step c w m).1) (rT c m t) (rT c (t.step c w m).2 (t.step c w m).1) c
theorem mV{c}{w}{m m'}{t t'}(e:t.step c w m=(t',m'))(T:pX c t')(O:Out m m' (xw c m t) (xw c m t') (rT c m t) (rT c m' t') c):Good c w m t:=by
 grind [Good]
theorem eH{c}{w}{m}{t t'}(e:t.step c w m=(t',m))(T:pX c t')(r:xw c m t'+1<=xw c m t)(b:rT c m t'<=rT c m t):Good c w m t:=mV e T (.inl ⟨rfl,r,b⟩)
variable{c:Cn} {w:Nat} {m:Mm} {ep cl:Int} {qu:List Nat} {look:Fd} {i:Nat} {wd:aa} {other head:Nat} {rt:Rt}
theorem aiN:Good c w m ⟨.ep,ep,cl,qu,look,i,wd,other,head,rt⟩:=by
 refine eH rfl trivial ?_ ?_
 .show 0+1<=1
  omega
 .show 3+(if m.ep=m.ep then 0 else 2)<=3+0
  grind
theorem aga:Good c w m ⟨.pin,ep,cl,qu,look,i,wd,other,head,rt⟩:=by
 refine mV rfl trivial (.inr (FU ?_));show 2+(if m.ep=ep then 0 else 2)+1<=3+(if m.ep=ep then 0 else 2);omega
theorem aiO:Good c w m ⟨.cl,ep,cl,qu,look,i,wd,other,head,rt⟩:=by
 refine eH rfl ⟨rfl,rfl⟩ ?_ (aq _);show wR c 0+1<=wR c 0+1;omega
theorem Fu(f)(h:look.step c.S m=f):(⟨.dL,ep,cl,qu,look,i,wd,other,head,rt⟩:Td).step c w m=
  match f.fd with
  |some x=>(⟨.go,ep,cl,qu,f,f.at_,x,other,head,Rt.new f.at_ x⟩,m)
  |none=>if f.all c.S then(⟨.old,ep,cl,qu,Fd.new 5 w,i,wd,other,head,rt⟩,m)else(⟨.dL,ep,cl,qu,f,i,wd,other,head,rt⟩,m):=by
 unfold Td.step;cases hf:f.fd with
 |some x=>
  rw[jP h hf];grind
 |none=>
  grind [jQ]
theorem aar(M:bQ c m)(hf:look.fd=none)(hk:look.kd=4):Good c w m ⟨.dL,ep,cl,qu,look,i,wd,other,head,rt⟩:=by
 have e:=Fu (c:=c) (w:=w) (m:=m) (ep:=ep) (cl:=cl) (qu:=qu) (look:=look) (i:=i) (wd:=wd) (other:=other) (head:=head) (rt:=rt);rcases nU hf with⟨h1,h2,h3⟩|⟨h1,h2,h3,h4⟩|⟨h1,h2,h3,h4,h5⟩
 .have e:=e _ h3
  have hst:(m.sl look.at_).st=2\/(m.sl look.at_).st=3:=by
   rw[hk]at h2;rcases h2 with h2|h2
   .exact .inl h2.1
   .exact .inr h2.1
  refine eH e ⟨NB h1 (M.1 _ h1) hst,h1,hk⟩ ?_ (aq _);show(if m.sl look.at_=m.sl look.at_ then 0 else wR c look.at_+1)+1<=wR c look.at_;grind [wR]
 .have e:=e _ rfl
  rw[h1]at e;rw[if_pos h2]at e;refine eH e rfl ?_ (aq _);show oR c 0+1<=c.S-look.at_+oR c 0+1;omega
 .have e:=e _ rfl
  rw[h1]at e;rw[if_neg h2,h4]at e;refine eH e ⟨hf,hk⟩ ?_ (aq _);show c.S-(look.at_+1)+oR c 0+1+1<=c.S-look.at_+oR c 0+1;omega
theorem go_eq:(⟨.go,ep,cl,qu,look,i,wd,other,head,rt⟩:Td).step c w m=
  if(rt.step m).1.st=.done then(⟨.dL,ep,cl,qu,look.again,i,wd,other,head,(rt.step m).1⟩,(rt.step m).2)else(⟨.go,ep,cl,qu,look,i,wd,other,head,(rt.step m).1⟩,(rt.step m).2):=rfl
theorem aiM(h1:pY c rt)(h2:look.at_<c.S)(h3:look.kd=4):Good c w m ⟨.go,ep,cl,qu,look,i,wd,other,head,rt⟩:=by
 obtain⟨g1,g2,g3⟩:=vO (m:=m) h1;have e:=go_eq (c:=c) (w:=w) (m:=m) (ep:=ep) (cl:=cl) (qu:=qu) (look:=look) (i:=i) (wd:=wd) (other:=other) (head:=head) (rt:=rt);by_cases hd:(rt.step m).1.st=.done
 .rw[if_pos hd]at e
  have hb:gT c (rt.step m).1=0:=by unfold gT;rw[hd]
  have hb2:gT c rt<=2+gT c rt:=by omega
  rcases g3 with⟨-,k, -⟩|⟨k1,k2,k3,k4,k5⟩|k
  .exact absurd hd k
  .rw[k1]at e
   refine eH e ⟨rfl,h3⟩ ?_ ?_
   .have:xw c m ⟨.go,ep,cl,qu,look,i,wd,other,head,rt⟩=wR c look.at_+1:=by
     unfold xw;rw[k4];exact if_neg k5
    rw[this];exact aq _
   .show 2+(if m.ep=ep then 0 else 2)<=2+gT c rt+(if m.ep=ep then 0 else 2)
    omega
  .refine mV e ⟨rfl,h3⟩ (.inr ?_)
   have:=k (2+(if m.ep=ep then 0 else 2)) (2+(if(rt.step m).2.ep=ep then 0 else 2)) ?_
   .rw[hb]at this
    show fJ c m (2+gT c rt+(if m.ep=ep then 0 else 2)) _ (2+(if(rt.step m).2.ep=ep then 0 else 2));rwa[show 2+gT c rt+(if m.ep=ep then 0 else 2)=2+(if m.ep=ep then 0 else 2)+gT c rt by omega]
   .by_cases hh:(rt.step m).2.ep=m.ep
    .rw[if_pos hh,hh];omega
    .split<;>split<;>omega
 .rw[if_neg hd]at e
  have e2:∀m' r,rT c m' ⟨.go,ep,cl,qu,look,i,wd,other,head,r⟩=2+gT c r+(if m'.ep=ep then 0 else 2):=λ_ _=>rfl;rcases g3 with⟨k1,k2,k3,k4,k5⟩|⟨k1,k2,k3,k4,k5⟩|k
  .rw[k1]at e
   refine eH e ⟨(g2 hd).1,h2,h3⟩ ?_ ?_
   .have e3:∀r:Rt,r.st≠.swap->xw c m ⟨.go,ep,cl,qu,look,i,wd,other,head,r⟩=xx m r:=by
     intro r hr;unfold xw xx;cases h:r.st with
     |swap=>exact absurd h hr
     |_=>rfl
    rw[e3 _ k4,e3 _ (g2 hd).2];exact k3
   .rw[e2,e2];omega
  .exact absurd k2 hd
  .refine mV e ⟨(g2 hd).1,h2,h3⟩ (.inr ?_)
   have:=k (2+(if m.ep=ep then 0 else 2)) (2+(if(rt.step m).2.ep=ep then 0 else 2)) ?_
   .rw[e2,e2]
    rwa[show 2+gT c rt+(if m.ep=ep then 0 else 2)=2+(if m.ep=ep then 0 else 2)+gT c rt by omega,show 2+gT c (rt.step m).1+(if(rt.step m).2.ep=ep then 0 else 2)=2+(if(rt.step m).2.ep=ep then 0 else 2)+gT c (rt.step m).1 by omega]
   .by_cases hh:(rt.step m).2.ep=m.ep
    .rw[if_pos hh,hh];omega
    .split<;>split<;>omega
theorem Pf(f)(h:look.step c.S m=f):(⟨.old,ep,cl,qu,look,i,wd,other,head,rt⟩:Td).step c w m=
  match f.fd with
  |some x=>(⟨if jq w 0<c.W then .pins else .clear,ep,cl,qu,f,f.at_,x,jq w 0,head,rt⟩,m)
  |none=>if f.all c.S then(⟨if cl≠0 then .eO else .line,ep,cl,qu,f,i,wd,other,head,rt⟩,m)else(⟨.old,ep,cl,qu,f,i,wd,other,head,rt⟩,m):=by
 unfold Td.step;cases hf:f.fd with
 |some x=>
  rw[jP h hf];grind
 |none=>
  grind [jQ]
theorem agb(hf:look.fd=none):Good c w m ⟨.old,ep,cl,qu,look,i,wd,other,head,rt⟩:=by
 have e:=Pf (c:=c) (w:=w) (m:=m) (ep:=ep) (cl:=cl) (qu:=qu) (look:=look) (i:=i) (wd:=wd) (other:=other) (head:=head) (rt:=rt);rcases nU hf with⟨h1,h2,h3⟩|⟨h1,h2,h3,h4⟩|⟨h1,h2,h3,h4,h5⟩
 .have e:=e _ h3
  by_cases hn:jq w 0<c.W
  .rw[if_pos hn]at e
   refine eH e ⟨rfl,h1,rfl,hn⟩ ?_ (aq _);show(c.S-look.at_)*(c.W+4)+lR c-jq w 0+1<=(c.S-look.at_)*(c.W+4)+lR c+1;omega
  .rw[if_neg hn]at e
   refine eH e ⟨rfl,h1,rfl⟩ ?_ (aq _);show(c.S-look.at_)*(c.W+4)+lR c-c.W-2+1<=(c.S-look.at_)*(c.W+4)+lR c+1;omega
 .have e:=e _ rfl
  rw[h1]at e;rw[if_pos h2]at e;by_cases hc:cl≠0
  .rw[if_pos hc]at e
   refine eH e trivial ?_ (aq _);show 0+1<=oR c look.at_;unfold oR;omega
  .rw[if_neg hc]at e
   refine eH e trivial ?_ (aq _);show lR c+1<=oR c look.at_;unfold oR;omega
 .have e:=e _ rfl
  rw[h1]at e;rw[if_neg h2,h4]at e;refine eH e hf ?_ (aq _);show oR c (look.at_+1)+1<=oR c look.at_;unfold oR;have:=Ky (c:=c) (a:=look.at_) (by omega);omega
theorem aed(h1:look.fd.isSome=true)(h2:look.at_<c.S)(h3:i=look.at_)(h4:other<c.W):Good c w m ⟨.pins,ep,cl,qu,look,i,wd,other,head,rt⟩:=by
 have e:(⟨.pins,ep,cl,qu,look,i,wd,other,head,rt⟩:Td).step c w m=(if oC (m.pn other) wd.ep then((⟨.old,ep,cl,qu,look.go,i,wd,other,head,rt⟩:Td),m)else
  ((⟨if jq w (other+1)<c.W then .pins else .clear,ep,cl,qu,look,i,wd,jq w (other+1),head,rt⟩:Td),m)):=rfl
 have hs:=Ky h2;have hg:look.go={look with fd:=none,at_:=look.at_+1}:=by grind [Fd.go]
 by_cases hb:oC (m.pn other) wd.ep
 .rw[if_pos hb,hg]at e
  refine eH e rfl ?_ (aq _);show oR c (look.at_+1)+1<=(c.S-look.at_)*(c.W+4)+lR c-other;unfold oR;omega
 .rw[if_neg hb]at e
  have hn1:other+1<=jq w (other+1):=by unfold jq;split<;>omega
  by_cases hn:jq w (other+1)<c.W
  .rw[if_pos hn]at e
   refine eH e ⟨h1,h2,h3,hn⟩ ?_ (aq _);show(c.S-look.at_)*(c.W+4)+lR c-jq w (other+1)+1<=(c.S-look.at_)*(c.W+4)+lR c-other;omega
  .rw[if_neg hn]at e
   refine eH e ⟨h1,h2,h3⟩ ?_ (aq _);show(c.S-look.at_)*(c.W+4)+lR c-c.W-2+1<=(c.S-look.at_)*(c.W+4)+lR c-other;omega
theorem aaw(h1:look.fd.isSome=true)(h2:look.at_<c.S)(h3:i=look.at_):Good c w m ⟨.clear,ep,cl,qu,look,i,wd,other,head,rt⟩:=by
 subst h3;have hs:=Ky h2;have hg:look.go={look with fd:=none,at_:=look.at_+1}:=by grind [Fd.go]
 have e:(⟨.clear,ep,cl,qu,look,look.at_,wd,other,head,rt⟩:Td).step c w m=((⟨.old,ep,cl,qu,look.go,look.at_,wd,other,head,rt⟩:Td),((⟨.clear,ep,cl,qu,look,look.at_,wd,other,head,rt⟩:Td).swap m 12 w).getD m):=rfl;rw[hg]at e;have quiet:((⟨.clear,ep,cl,qu,look,look.at_,wd,other,head,rt⟩:Td).swap m 12 w)=none->Good c w m ⟨.clear,ep,cl,qu,look,look.at_,wd,other,head,rt⟩:=by
  intro hh;rw[hh]at e;refine eH e rfl ?_ (aq _);show oR c (look.at_+1)+1<=(c.S-look.at_)*(c.W+4)+lR c-c.W-2;unfold oR;omega
 by_cases hm:m.sl look.at_=wd
 .cases hn:az wd 12 w 0 with
  |none=>exact quiet (by unfold Td.swap;simp only[hn])
  |some n=>
   rw[J9 (t:=⟨.clear,ep,cl,qu,look,look.at_,wd,other,head,rt⟩) hn hm]at e;have h2':=(eT hn).2.2.2.2.2.2.2.2.2.2.2.2.1 rfl;refine mV e rfl (.inr (gG h2 hm ?_));have e1:cS c n=0:=by unfold cS;rw[if_neg (by omega),if_neg (by omega)]
   have e2:cS c wd=1:=by unfold cS;rw[if_pos h2'.1]
   rw[e1,e2];exact aq _
 grind [Fv]
theorem aee(hc:c.W<=15)(M:bQ c m):Good c w m ⟨.line,ep,cl,qu,look,i,wd,other,head,rt⟩:=by
 cases hq:m.qu with
 |nil=>
  have e:(⟨.line,ep,cl,qu,look,i,wd,other,head,rt⟩:Td).step c w m=((⟨.eO,ep,cl,[],look,i,wd,other,head,rt⟩:Td),m):=by
   grind [Td.step]
  refine eH e trivial ?_ (aq _);show 0+1<=lR c;unfold lR;omega
 |cons a r=>
  have e:(⟨.line,ep,cl,qu,look,i,wd,other,head,rt⟩:Td).step c w m=((⟨.some,ep,cl,a::r,Fd.new 3 w,i,wd,other,a,rt⟩:Td),m):=by
   grind [Td.step]
  have ha:=M.2 a (by grind);refine eH e ⟨rfl,List.cons_ne_nil _ _,by grind,rfl⟩ ?_ ?_
  .show c.S-0+2+1<=lR c
   unfold lR;omega
  .show(if m.qu=a::r then 2 else 4)+_<=2+_
   rw[if_pos hq];exact aq _
theorem Ke(f)(h:look.step c.S m=f):(⟨.some,ep,cl,qu,look,i,wd,other,head,rt⟩:Td).step c w m=
  match f.fd with
  |some x=>(⟨.keep,ep,cl,qu,f,f.at_,x,other,head,rt⟩,m)
  |none=>if f.all c.S then(⟨.eO,ep,cl,qu,f,i,wd,other,head,rt⟩,m)else(⟨.some,ep,cl,qu,f,i,wd,other,head,rt⟩,m):=by
 unfold Td.step;cases hf:f.fd with
 |some x=>
  rw[jP h hf];grind
 |none=>
  grind [jQ]
theorem aec(M:bQ c m)(hf:look.fd=none)(hq:qu≠[])(hh:head<=15)(hk:look.kd=3):Good c w m ⟨.some,ep,cl,qu,look,i,wd,other,head,rt⟩:=by
 have e:=Ke (c:=c) (w:=w) (m:=m) (ep:=ep) (cl:=cl) (qu:=qu) (look:=look) (i:=i) (wd:=wd) (other:=other) (head:=head) (rt:=rt);rcases nU hf with⟨h1,h2,h3⟩|⟨h1,h2,h3,h4⟩|⟨h1,h2,h3,h4,h5⟩
 .have e:=e _ h3
  rw[hk]at h2;refine eH e ⟨h1,rfl,hq,hh,hk,aeU (M.1 _ h1) h2 (fp _) (by show(head:Int)<=15;omega)⟩ ?_ (aq _);show(if m.sl look.at_=m.sl look.at_ then 0 else _)+1<=c.S-look.at_+2;grind
 .have e:=e _ rfl
  rw[h1]at e;rw[if_pos h2]at e;refine eH e trivial ?_ ?_
  .show 0+1<=c.S-look.at_+2
   omega
  .show 2+(if m.ep=ep then 0 else 2)<=(if m.qu=qu then 2 else 4)+(if m.ep=ep then 0 else 2)
   have:2<=(if m.qu=qu then 2 else 4):=by split<;>omega
   omega
 .have e:=e _ rfl
  rw[h1]at e;rw[if_neg h2,h4]at e;refine eH e ⟨hf,hq,hh,hk⟩ ?_ (aq _);show c.S-(look.at_+1)+2+1<=c.S-look.at_+2;omega
theorem aef(h1:look.at_<c.S)(h2:i=look.at_)(h3:qu≠[])(h4:head<=15)(h5:look.kd=3)(h6:(az wd (if wd.st=2 then 5 else 7) head 0).isSome=true):Good c w m ⟨.keep,ep,cl,qu,look,i,wd,other,head,rt⟩:=by
 subst h2;have e:(⟨.keep,ep,cl,qu,look,look.at_,wd,other,head,rt⟩:Td).step c w m=match(⟨.keep,ep,cl,qu,look,look.at_,wd,other,head,rt⟩:Td).swap m (if wd.st=2 then 5 else 7) head with
  |some m=>(⟨.pop,ep,cl,qu,look,look.at_,wd,other,head,rt⟩,m)
  |none=>(⟨.some,ep,cl,qu,look.again,look.at_,wd,other,head,rt⟩,m):=rfl
 by_cases hm:m.sl look.at_=wd
 .obtain⟨n,hn⟩:=cP.1 h6
  rw[J9 (t:=⟨.keep,ep,cl,qu,look,look.at_,wd,other,head,rt⟩) hn hm]at e;refine mV e ⟨h1,h3⟩ (.inr (gG h1 hm ?_));have e1:cS c n<=cS c wd:=by
   by_cases hs:wd.st=2
   .rw[if_pos hs]at hn
    have:=(eT hn).2.2.2.2.2.1 rfl;grind [cS]
   .rw[if_neg hs]at hn
    have:=(eT hn).2.2.2.2.2.2.2.1 rfl;unfold cS;rw[if_neg (by omega),if_neg (by omega)];exact cL _
  show(if m.qu=qu then 1 else 3)+(if m.ep=ep then 0 else 2)+cS c n+1<=(if m.qu=qu then 2 else 4)+(if m.ep=ep then 0 else 2)+cS c wd;split<;>omega
 .rw[Fv hm]at e
  refine eH e ⟨rfl,h3,h4,h5⟩ ?_ (aq _);show c.S-look.at_+2+1<=(if m.sl look.at_=wd then 0 else c.S-look.at_+3);rw[if_neg hm];exact aq _
theorem af'(h1:i<c.S)(h2:qu≠[]):Good c w m ⟨.pop,ep,cl,qu,look,i,wd,other,head,rt⟩:=by
 have e:(⟨.pop,ep,cl,qu,look,i,wd,other,head,rt⟩:Td).step c w m=if m.qu=qu then(⟨.grant,ep,cl,qu,look,i,wd,other,head,rt⟩,{m with qu:=m.qu.tail})else(⟨.back,ep,cl,qu,look,i,wd,other,head,rt⟩,m):=rfl
 by_cases hq:m.qu=qu
 .rw[if_pos hq]at e
  refine mV e h1 (.inr (PE (by rw[hq];exact h2) ?_));show 3+(if m.ep=ep then 0 else 2)+2*c.W+1<=(if m.qu=qu then 1 else 3)+(if m.ep=ep then 0 else 2)+lE c;grind [lE]
 .rw[if_neg hq]at e
  refine eH e h1 ?_ ?_
  .show lR c+2+1<=(if m.qu=qu then 0 else lR c+3)
   grind
  .show 3+_<=(if m.qu=qu then 1 else 3)+_
   grind
theorem aav:Good c w m ⟨.grant,ep,cl,qu,look,i,wd,other,head,rt⟩:=by
 refine mV rfl trivial (.inr (Aq ?_));show 2+(if m.ep=ep then 0 else 2)+1<=3+(if m.ep=ep then 0 else 2);omega
theorem aeg(M:bQ c m)(h1:i<c.S):Good c w m ⟨.back,ep,cl,qu,look,i,wd,other,head,rt⟩:=by
 have e:(⟨.back,ep,cl,qu,look,i,wd,other,head,rt⟩:Td).step c w m=(⟨if(m.sl i).st=4\/(m.sl i).st=5 then .dR else .line,ep,cl,qu,look,i,m.sl i,other,head,rt⟩,m):=rfl;by_cases h:(m.sl i).st=4\/(m.sl i).st=5
 .rw[if_pos h]at e
  refine eH e ⟨h1,λw hw=>Yv (M.1 _ h1) h (by omega) (by omega)⟩ ?_ (aq _);show(if m.sl i=m.sl i then 0 else lR c+3)+1<=lR c+2;grind
 .rw[if_neg h]at e
  refine eH e trivial ?_ ?_
  .show lR c+1<=lR c+2
   omega
  .show 2+(if m.ep=ep then 0 else 2)<=3+(if m.ep=ep then 0 else 2)
   split<;>omega
theorem Xo(hw:w<=15)(h1:i<c.S)(h2:∀w:Nat,w<=15->(az wd (if wd.st=4 then 6 else 8) w 0).isSome=true):Good c w m ⟨.dR,ep,cl,qu,look,i,wd,other,head,rt⟩:=by
 have e:(⟨.dR,ep,cl,qu,look,i,wd,other,head,rt⟩:Td).step c w m=match(⟨.dR,ep,cl,qu,look,i,wd,other,head,rt⟩:Td).swap m (if wd.st=4 then 6 else 8) w with
  |some m=>(⟨.cl,ep,cl,qu,look,i,wd,other,head,rt⟩,m)
  |none=>(⟨.back,ep,cl,qu,look,i,wd,other,head,rt⟩,m):=rfl
 by_cases hm:m.sl i=wd
 .obtain⟨n,hn⟩:=cP.1 (h2 w hw)
  rw[J9 (t:=⟨.dR,ep,cl,qu,look,i,wd,other,head,rt⟩) hn hm]at e;refine mV e trivial (.inr (gG h1 hm ?_));have e1:cS c n<=cS c wd:=by
   by_cases hs:wd.st=4
   .rw[if_pos hs]at hn
    have:=(eT hn).2.2.2.2.2.2.1 rfl;grind [cS]
   .rw[if_neg hs]at hn
    have:=(eT hn).2.2.2.2.2.2.2.2.1 rfl;unfold cS;rw[if_neg (by omega),if_neg (by omega)];exact cL _
  show 2+(if m.ep=ep then 0 else 2)+cS c n+1<=3+(if m.ep=ep then 0 else 2)+cS c wd;split<;>omega
 .rw[Fv hm]at e
  refine eH e h1 ?_ (aq _);show lR c+2+1<=(if m.sl i=wd then 0 else lR c+3);rw[if_neg hm];exact aq _
theorem aaq:Good c w m ⟨.eO,ep,cl,qu,look,i,wd,other,head,rt⟩:=by
 refine mV rfl trivial (.inr (FU ?_));show 1+(if m.ep=ep then 0 else 2)+1<=2+(if m.ep=ep then 0 else 2);omega
theorem aax:Good c w m ⟨.again,ep,cl,qu,look,i,wd,other,head,rt⟩:=by
 have e:(⟨.again,ep,cl,qu,look,i,wd,other,head,rt⟩:Td).step c w m=((⟨if m.ep=ep then .done else .ep,ep,cl,qu,look,i,wd,other,head,rt⟩:Td),m):=rfl;by_cases h:m.ep=ep
 .rw[if_pos h]at e
  refine eH e trivial ?_ ?_
  .show 0+1<=2
   omega
  .show 0+0<=1+(if m.ep=ep then 0 else 2)
   omega
 .rw[if_neg h]at e
  refine eH e trivial ?_ ?_
  .show 1+1<=2
   omega
  .show 3+0<=1+(if m.ep=ep then 0 else 2)
   grind
theorem aeb{c}{m}{t}{w}(hw:w<=15)(hc:c.W<=15)(M:bQ c m)(T:pX c t)(hd:t.st≠.done):Good c w m t:=by
 obtain⟨st,ep,cl,qu,look,i,wd,other,head,rt⟩:=t;cases st with
 |ep=>exact aiN
 |pin=>exact aga
 |cl=>exact aiO
 |dL=>exact aar M T.1 T.2
 |go=>exact aiM T.1 T.2.1 T.2.2
 |old=>exact agb T
 |pins=>exact aed T.1 T.2.1 T.2.2.1 T.2.2.2
 |clear=>exact aaw T.1 T.2.1 T.2.2
 |line=>exact aee hc M
 |some=>exact aec M T.1 T.2.1 T.2.2.1 T.2.2.2
 |keep=>exact aef T.1 T.2.1 T.2.2.1 T.2.2.2.1 T.2.2.2.2.1 T.2.2.2.2.2
 |pop=>exact af' T.1 T.2
 |grant=>exact aav
 |back=>exact aeg M T
 |dR=>exact Xo hw T.1 T.2
 |eO=>exact aaq
 |again=>exact aax
 |done=>grind
end
noncomputable section
open Classical
def Has(c:Cn)(m:Mm):Prop:=∃j,j<c.S/\(jg (m.sl j)\/j6 (m.sl j))
def acL(c:Cn)(m:Mm)(a:Nat):Prop:=∃j,j<c.S/\a<=j/\jg (m.sl j)
def yI(c:Cn)(m:Mm)(a:Nat):Prop:=∃j,j<c.S/\a<=j/\j6 (m.sl j)
def Bv(c:Cn)(m:Mm)(a:Nat):Prop:=acL c m a\/yI c m 0
def T0(c:Cn):Nat:=3*(c.S+1)+2
def K0(c:Cn):Nat:=2*c.S+4+T0 c
def Ch(c:Cn)(m:Mm)(a:Nat):Nat:=2*(c.S+1)+(c.S-a)+1+if Has c m then 0 else K0 c
def Ci(c:Cn)(m:Mm)(a:Nat):Nat:=(c.S+1)+(c.S-a)+1+if Bv c m a then 0 else K0 c
def xy(c:Cn)(m:Mm)(a:Nat):Nat:=(c.S-a)+1+if yI c m a then 0 else K0 c
def vz(c:Cn)(m:Mm)(t:Tk):Nat:=
 match t.st with
 | .closed=>T0 c+if Has c m then 0 else K0 c
 | .own=>Ch c m t.look.at_
 | .gp=>if m.sl t.look.at_=t.look.wd then 0 else Ch c m t.look.at_+1
 | .any=>Ci c m t.look.at_
 | .anyS=>if m.sl t.look.at_=t.look.wd then 0 else Ci c m t.look.at_+1
 | .free=>xy c m t.look.at_
 | .dQ=>if m.sl t.look.at_=t.look.wd then 0 else xy c m t.look.at_+1
 | .move=>3
 | .check=>2
 | .back=>1
 | .go=>match t.rt.st with| .swap=>if m.sl t.rt.i=t.rt.wd then 0 else 2| .look=>2| .iI=>1|_=>0
 | .grant=>1
 | .eG=>if m.sl t.i=t.wd then 0 else 2
 |_=>0
def bP(c:Cn):Nat:=cI c+c.S+8
def bG(c:Cn):Nat:=lE c+2*c.W+6+bP c
def uL(c:Cn)(t:Tk):Nat:=
 match t.st with
 | .closed| .own| .gp| .any| .anyS| .free| .dQ=>bG c
 | .move| .dD=>(c.S-t.look.at_)+4
 | .check| .back=>4
 | .go=>4+gT c t.rt
 | .bM=>cI c+5
 | .grant| .eG=>cI c+6
 | .done=>0
def pW(c:Cn)(w:Nat)(t:Tk):Prop:=
 match t.st with
 | .closed=>True
 | .own=>t.look.fd=none/\t.look.kd=0
 | .any=>t.look.fd=none/\t.look.kd=1
 | .free=>t.look.fd=none/\t.look.kd=2
 | .gp=>t.look.at_<c.S/\t.look.kd=0/\(az t.look.wd 3 w 0).isSome=true
 | .anyS=>t.look.at_<c.S/\t.look.kd=1/\(az t.look.wd 3 w 0).isSome=true
 | .dQ=>t.look.at_<c.S/\t.look.kd=2/\(az t.look.wd 0 w 0).isSome=true
 | .move=>t.look.fd=none/\t.i<c.S
 | .dD=>t.look.at_<c.S/\t.i<c.S/\t.look.fd.isSome=true
 | .check| .back| .bM| .grant| .eG=>t.i<c.S
 | .go=>pY c t.rt/\t.i<c.S
 | .done=>True
def iy(c:Cn)(w:Nat)(m:Mm)(g:Bool)(t:Tk):Prop:=
 ((t.step w c.S m g).1.st=.done->((t.step w c.S m g).1.e=3/\(t.step w c.S m g).2=m/\uL c t=bG c/\K0 c+1<=vz c m t)\/((t.step w c.S m g).1.e≠3/\fJ c m (uL c t) (t.step w c.S m g).2 3))/\
 ((t.step w c.S m g).1.st≠.done->pW c w (t.step w c.S m g).1/\Out m (t.step w c.S m g).2 (vz c m t) (vz c m (t.step w c.S m g).1) (uL c t) (uL c (t.step w c.S m g).1) c)
theorem dH{c}{m}{b b'}(h:b'+1<=b):fJ c m b m b':=by
 unfold fJ zA;simp;omega
theorem adr{c}{w}{m m'}{g}{t t'}(e:t.step w c.S m g=(t',m'))(hd:t'.st≠.done)(T:pW c w t')(O:Out m m' (vz c m t) (vz c m t') (uL c t) (uL c t') c):iy c w m g t:=by
 grind [iy]
theorem lF{c}{w}{m}{g}{t t'}(e:t.step w c.S m g=(t',m))(hd:t'.st≠.done)(T:pW c w t')(r:vz c m t'+1<=vz c m t)(b:uL c t'<=uL c t):iy c w m g t:=adr e hd T (.inl ⟨rfl,r,b⟩)
theorem sI{c}{w}{m m'}{g}{t t'}(e:t.step w c.S m g=(t',m'))(hd:t'.st≠.done)(T:pW c w t')(b:fJ c m (uL c t) m' (uL c t')):iy c w m g t:=adr e hd T (.inr b)
theorem FZ{c}{w}{m m'}{g}{t t'}(e:t.step w c.S m g=(t',m'))(hd:t'.st=.done)(h3:t'.e≠3)(b:fJ c m (uL c t) m' 3):iy c w m g t:=by
 grind [iy]
theorem alz{c}{w}{m}{g}{t t'}(e:t.step w c.S m g=(t',m))(hd:t'.st=.done)(h3:t'.e=3)(b:uL c t=bG c)(r:K0 c+1<=vz c m t):iy c w m g t:=by
 grind [iy]
theorem E9{w:Nat}{m}{t:Tk}{i}{wd}{d}{n}(h:az wd d w 0=some n)(e:m.sl i=wd):t.swap w m i wd d=some ({t with i:=i,wd:=n,gen:=n.gen},m.set i n):=by
 grind [Tk.swap]
theorem BH{w}{m}{t:Tk}{i}{wd}{d}(e:m.sl i≠wd):t.swap w m i wd d=none:=by
 grind [Tk.swap]
theorem lQ{w}{m}{t:Tk}{i}{wd}{d}:t.swap w m i wd d=none\/∃n,az wd d w 0=some n/\m.sl i=wd/\t.swap w m i wd d=some ({t with i:=i,wd:=n,gen:=n.gen},m.set i n):=by
 grind [Tk.swap]
theorem ajG(c)(s):cS c s<=cI c:=by
 grind [cS,cI]
theorem kJ{c}{s}(h:s.st=2\/s.st=3\/s.st=4):cS c s=cI c:=by
 grind [cS]
theorem Gq{c}{s}(h:s.st=0\/s.st=1\/s.st=5):cS c s=0:=by
 grind [cS]
variable{c:Cn} {w:Nat} {m:Mm} {g:Bool} {look:Fd} {i:Nat} {wd:aa} {gen:Int} {ps:Bool} {rt:Rt} {e:Int}
theorem BL:iy c w m g ⟨.closed,look,i,wd,gen,ps,rt,e⟩:=by
 have h:(⟨.closed,look,i,wd,gen,ps,rt,e⟩:Tk).step w c.S m g=if m.cl≠0 then(⟨.done,look,i,wd,gen,ps,rt,5⟩,m)else(⟨.own,Fd.new 0 w,i,wd,gen,ps,rt,e⟩,m):=rfl
 by_cases hc:m.cl≠0
 .rw[if_pos hc]at h
  refine FZ h rfl (show(5:Int)≠3 by decide) (dH ?_);show 3+1<=bG c;unfold bG;omega
 .rw[if_neg hc]at h
  refine lF h gm.noConfusion ⟨rfl,rfl⟩ ?_ (aq _);show 2*(c.S+1)+(c.S-0)+1+(if Has c m then 0 else K0 c)+1<=T0 c+(if Has c m then 0 else K0 c);unfold T0;omega
theorem Co(f)(h:look.step c.S m=f):(⟨.own,look,i,wd,gen,ps,rt,e⟩:Tk).step w c.S m g=
  if f.fd.isSome then(⟨.gp,f,i,wd,gen,ps,rt,e⟩,m)else if f.all c.S then(⟨.any,Fd.new 1 w,i,wd,gen,ps,rt,e⟩,m)else(⟨.own,f,i,wd,gen,ps,rt,e⟩,m):=by
 subst h;rfl
theorem any_eq(f)(h:look.step c.S m=f):(⟨.any,look,i,wd,gen,ps,rt,e⟩:Tk).step w c.S m g=
  if f.fd.isSome then(⟨.anyS,f,i,wd,gen,ps,rt,e⟩,m)else if f.all c.S then(⟨.free,Fd.new 2 w,i,wd,gen,ps,rt,e⟩,m)else(⟨.any,f,i,wd,gen,ps,rt,e⟩,m):=by
 subst h;rfl
theorem free_eq(f)(h:look.step c.S m=f):(⟨.free,look,i,wd,gen,ps,rt,e⟩:Tk).step w c.S m g=
  if f.fd.isSome then(⟨.dQ,f,i,wd,gen,ps,rt,e⟩,m)else if f.all c.S then(⟨.done,f,i,wd,gen,ps,rt,3⟩,m)else(⟨.free,f,i,wd,gen,ps,rt,e⟩,m):=by
 subst h;rfl
theorem Oc(hw:w<=15)(M:bQ c m)(hf:look.fd=none)(hk:look.kd=0):iy c w m g ⟨.own,look,i,wd,gen,ps,rt,e⟩:=by
 rcases nU (S:=c.S) hf with⟨h1,h2,h3⟩|⟨h1,h2,h3,h4⟩|⟨h1,h2,h3,h4,h5⟩
 .have h:=Co (w:=w) (i:=i) (wd:=wd) (gen:=gen) (ps:=ps) (rt:=rt) (e:=e) (g:=g) _ h3
  rw[hk]at h2;have h2:=h2.1;refine lF h gm.noConfusion ⟨h1,hk,Pj (M.1 _ h1) h2 (fp _) (by omega)⟩ ?_ (aq _);show(if m.sl look.at_=m.sl look.at_ then 0 else _)+1<=Ch c m look.at_;grind [Ch]
 .have h:=Co (c:=c) (m:=m) (w:=w) (i:=i) (wd:=wd) (gen:=gen) (ps:=ps) (rt:=rt) (e:=e) (g:=g) (look:=look) _ rfl
  rw[h1,if_neg (by decide),if_pos h2]at h;refine lF h gm.noConfusion ⟨rfl,rfl⟩ ?_ (aq _);show(c.S+1)+(c.S-0)+1+(if Bv c m 0 then 0 else K0 c)+1<=2*(c.S+1)+(c.S-look.at_)+1+if Has c m then 0 else K0 c
  have:(if Bv c m 0 then 0 else K0 c)<=(if Has c m then 0 else K0 c):=by
   by_cases hh:Has c m
   .obtain⟨j,hj,hj2⟩:=hh
    rw[if_pos (hj2.elim (λh=>.inl ⟨j,hj,cL _,h⟩) (λh=>.inr ⟨j,hj,cL _,h⟩))];exact cL _
   .split<;>omega
  omega
 .have h:=Co (c:=c) (m:=m) (w:=w) (i:=i) (wd:=wd) (gen:=gen) (ps:=ps) (rt:=rt) (e:=e) (g:=g) (look:=look) _ rfl
  rw[h1,if_neg (by decide),if_neg h2,h4]at h;refine lF h gm.noConfusion ⟨hf,hk⟩ ?_ (aq _);show 2*(c.S+1)+(c.S-(look.at_+1))+1+(if Has c m then 0 else K0 c)+1<=2*(c.S+1)+(c.S-look.at_)+1+(if Has c m then 0 else K0 c);omega
theorem ajw{a}(h:¬jg (m.sl a)):acL c m (a+1)↔acL c m a:=by
 constructor
 .rintro⟨j,h1,h2,h3⟩;exact⟨j,h1,by omega,h3⟩
 .rintro⟨j,h1,h2,h3⟩
  have:j≠a:=λe=>h (e▸h3);exact⟨j,h1,by omega,h3⟩
theorem ajx{a}(h:¬j6 (m.sl a)):yI c m (a+1)↔yI c m a:=by
 constructor
 .rintro⟨j,h1,h2,h3⟩;exact⟨j,h1,by omega,h3⟩
 .rintro⟨j,h1,h2,h3⟩
  have:j≠a:=λe=>h (e▸h3);exact⟨j,h1,by omega,h3⟩
theorem Zm{S}{m}{f:Fd}(h:f.fd=none)(h2:(f.step S m).all S):∀j,j<S->f.at_<=j->¬fits f.kd f.ow (m.sl j):=by
 rw[KY h]at h2;by_cases h1:S<=f.at_
 .omega
 .rw[if_neg h1]at h2
  by_cases h3:fits f.kd f.ow (m.sl f.at_)
  .rw[if_pos h3]at h2;cases h2.1
  .have:=h2.2
   grind
theorem Od(hw:w<=15)(M:bQ c m)(hf:look.fd=none)(hk:look.kd=1):iy c w m g ⟨.any,look,i,wd,gen,ps,rt,e⟩:=by
 rcases nU (S:=c.S) hf with⟨h1,h2,h3⟩|⟨h1,h2,h3,h4⟩|⟨h1,h2,h3,h4,h5⟩
 .have h:=any_eq (w:=w) (i:=i) (wd:=wd) (gen:=gen) (ps:=ps) (rt:=rt) (e:=e) (g:=g) _ h3
  rw[hk]at h2;refine lF h gm.noConfusion ⟨h1,hk,Pj (M.1 _ h1) h2 (fp _) (by omega)⟩ ?_ (aq _);show(if m.sl look.at_=m.sl look.at_ then 0 else _)+1<=Ci c m look.at_;grind [Ci]
 .have h:=any_eq (c:=c) (m:=m) (w:=w) (i:=i) (wd:=wd) (gen:=gen) (ps:=ps) (rt:=rt) (e:=e) (g:=g) (look:=look) _ rfl
  rw[h1,if_neg (by decide),if_pos h2]at h;refine lF h gm.noConfusion ⟨rfl,rfl⟩ ?_ (aq _);show(c.S-0)+1+(if yI c m 0 then 0 else K0 c)+1<=(c.S+1)+(c.S-look.at_)+1+if Bv c m look.at_ then 0 else K0 c
  have hn:=Zm hf h2;rw[hk]at hn;have:(if yI c m 0 then 0 else K0 c)<=(if Bv c m look.at_ then 0 else K0 c):=by
   by_cases hh:Bv c m look.at_
   .rcases hh with⟨j,hj,hj2,hj3⟩|hh
    .exact absurd hj3 (hn j hj hj2)
    .rw[if_pos hh];exact cL _
   .split<;>omega
  omega
 .have h:=any_eq (c:=c) (m:=m) (w:=w) (i:=i) (wd:=wd) (gen:=gen) (ps:=ps) (rt:=rt) (e:=e) (g:=g) (look:=look) _ rfl
  rw[h1,if_neg (by decide),if_neg h2,h4]at h;refine lF h gm.noConfusion ⟨hf,hk⟩ ?_ (aq _);show(c.S+1)+(c.S-(look.at_+1))+1+(if Bv c m (look.at_+1)then 0 else K0 c)+1<=(c.S+1)+(c.S-look.at_)+1+(if Bv c m look.at_ then 0 else K0 c);rw[hk]at h5;have:Bv c m (look.at_+1)↔Bv c m look.at_:=by unfold Bv;rw[ajw h5]
  rw[propext this];omega
theorem JQ(hw:w<=15)(M:bQ c m)(hf:look.fd=none)(hk:look.kd=2):iy c w m g ⟨.free,look,i,wd,gen,ps,rt,e⟩:=by
 rcases nU (S:=c.S) hf with⟨h1,h2,h3⟩|⟨h1,h2,h3,h4⟩|⟨h1,h2,h3,h4,h5⟩
 .have h:=free_eq (w:=w) (i:=i) (wd:=wd) (gen:=gen) (ps:=ps) (rt:=rt) (e:=e) (g:=g) _ h3
  rw[hk]at h2;refine lF h gm.noConfusion ⟨h1,hk,aeV (M.1 _ h1) h2 (fp _) (by omega)⟩ ?_ (aq _);show(if m.sl look.at_=m.sl look.at_ then 0 else _)+1<=xy c m look.at_;grind [xy]
 .have h:=free_eq (c:=c) (m:=m) (w:=w) (i:=i) (wd:=wd) (gen:=gen) (ps:=ps) (rt:=rt) (e:=e) (g:=g) (look:=look) _ rfl
  rw[h1,if_neg (by decide),if_pos h2]at h;refine alz h rfl rfl rfl ?_;show K0 c+1<=(c.S-look.at_)+1+if yI c m look.at_ then 0 else K0 c
  have hn:=Zm hf h2;rw[hk]at hn;rw[if_neg (λ⟨j,hj,hj2,hj3⟩=>hn j hj hj2 hj3)];omega
 .have h:=free_eq (c:=c) (m:=m) (w:=w) (i:=i) (wd:=wd) (gen:=gen) (ps:=ps) (rt:=rt) (e:=e) (g:=g) (look:=look) _ rfl
  rw[h1,if_neg (by decide),if_neg h2,h4]at h;refine lF h gm.noConfusion ⟨hf,hk⟩ ?_ (aq _);show(c.S-(look.at_+1))+1+(if yI c m (look.at_+1)then 0 else K0 c)+1<=(c.S-look.at_)+1+(if yI c m look.at_ then 0 else K0 c);rw[hk]at h5;rw[propext (ajx h5)];omega
theorem JO(h1:look.at_<c.S)(hk:look.kd=0)(hn:(az look.wd 3 w 0).isSome=true):iy c w m g ⟨.gp,look,i,wd,gen,ps,rt,e⟩:=by
 have h:(⟨.gp,look,i,wd,gen,ps,rt,e⟩:Tk).step w c.S m g=match(⟨.gp,look,i,wd,gen,ps,rt,e⟩:Tk).swap w m look.at_ look.wd 3 with
  |some (t,m)=>({t with st:=.check},m)
  |none=>(⟨.own,look.again,i,wd,gen,ps,rt,e⟩,m):=rfl
 obtain⟨n,hn⟩:=cP.1 hn;by_cases hm:m.sl look.at_=look.wd
 .rw[E9 hn hm]at h
  have hs:=(eT hn).2.2.2.1 rfl;refine sI h gm.noConfusion h1 (gG h1 hm ?_);rw[kJ (by omega),kJ (by omega)];show 4+cI c+1<=bG c+cI c;unfold bG;omega
 .rw[BH hm]at h
  refine lF h gm.noConfusion ⟨rfl,hk⟩ ?_ (aq _);show Ch c m look.at_+1<=if m.sl look.at_=look.wd then 0 else Ch c m look.at_+1
  grind
theorem JU(h1:look.at_<c.S)(hk:look.kd=1)(hn:(az look.wd 3 w 0).isSome=true):iy c w m g ⟨.anyS,look,i,wd,gen,ps,rt,e⟩:=by
 have h:(⟨.anyS,look,i,wd,gen,ps,rt,e⟩:Tk).step w c.S m g=match(⟨.anyS,look,i,wd,gen,ps,rt,e⟩:Tk).swap w m look.at_ look.wd 3 with
  |some (t',m)=>if look.wd.own=w then({t' with st:=.check},m)else({t' with ps:=false,look:=Fd.new 0 look.wd.own,st:=.move},m)
  |none=>(⟨.any,look.again,i,wd,gen,ps,rt,e⟩,m):=rfl
 obtain⟨n,hn⟩:=cP.1 hn;by_cases hm:m.sl look.at_=look.wd
 .rw[E9 hn hm]at h
  dsimp only at h;have hs:=(eT hn).2.2.2.1 rfl;by_cases ho:look.wd.own=w
  .rw[if_pos ho]at h
   refine sI h gm.noConfusion h1 (gG h1 hm ?_);rw[kJ (by omega),kJ (by omega)];show 4+cI c+1<=bG c+cI c;unfold bG;omega
  .rw[if_neg ho]at h
   refine sI h gm.noConfusion ⟨rfl,h1⟩ (gG h1 hm ?_);rw[kJ (by omega),kJ (by omega)];show c.S-0+4+cI c+1<=bG c+cI c;unfold bG bP;omega
 .rw[BH hm]at h
  refine lF h gm.noConfusion ⟨rfl,hk⟩ ?_ (aq _);show Ci c m look.at_+1<=if m.sl look.at_=look.wd then 0 else Ci c m look.at_+1
  rw[if_neg hm];exact aq _
theorem Fe(h1:look.at_<c.S)(hk:look.kd=2)(hn:(az look.wd 0 w 0).isSome=true):iy c w m g ⟨.dQ,look,i,wd,gen,ps,rt,e⟩:=by
 have h:(⟨.dQ,look,i,wd,gen,ps,rt,e⟩:Tk).step w c.S m g=match(⟨.dQ,look,i,wd,gen,ps,rt,e⟩:Tk).swap w m look.at_ look.wd 0 with
  |some (t,m)=>({t with st:=.bM},m)
  |none=>(⟨.free,look.again,i,wd,gen,ps,rt,e⟩,m):=rfl
 obtain⟨n,hn⟩:=cP.1 hn;by_cases hm:m.sl look.at_=look.wd
 .rw[E9 hn hm]at h
  have hs:=(eT hn).1 rfl;refine sI h gm.noConfusion h1 (gG h1 hm ?_);rw[Gq (by omega),Gq (by omega)];show cI c+5+0+1<=bG c+0;unfold bG bP;omega
 .rw[BH hm]at h
  refine lF h gm.noConfusion ⟨rfl,hk⟩ ?_ (aq _);show xy c m look.at_+1<=if m.sl look.at_=look.wd then 0 else xy c m look.at_+1
  grind
theorem yZ(f)(h:look.step c.S m=f):(⟨.move,look,i,wd,gen,ps,rt,e⟩:Tk).step w c.S m g=
  if f.fd.isSome then(if ps then(⟨.move,f.go,i,wd,gen,false,rt,e⟩,m)else(⟨.dD,f,i,wd,gen,true,rt,e⟩,m))else if f.all c.S then(⟨.check,f,i,wd,gen,ps,rt,e⟩,m)else(⟨.move,f,i,wd,gen,ps,rt,e⟩,m):=by
 subst h;rfl
theorem JP(hf:look.fd=none)(hi:i<c.S):iy c w m g ⟨.move,look,i,wd,gen,ps,rt,e⟩:=by
 rcases nU (S:=c.S) (m:=m) hf with⟨h1,h2,h3⟩|⟨h1,h2,h3,h4⟩|⟨h1,h2,h3,h4,h5⟩
 .have h:=yZ (w:=w) (i:=i) (wd:=wd) (gen:=gen) (ps:=ps) (rt:=rt) (e:=e) (g:=g) _ h3
  cases ps with
  |true=>
   refine sI h gm.noConfusion ⟨rfl,hi⟩ (dH ?_);show c.S-(look.at_+1)+4+1<=c.S-look.at_+4;omega
  |false=>
   refine lF h gm.noConfusion ⟨h1,hi,rfl⟩ ?_ (aq _);show 0+1<=3;omega
 .have h:=yZ (c:=c) (m:=m) (w:=w) (i:=i) (wd:=wd) (gen:=gen) (ps:=ps) (rt:=rt) (e:=e) (g:=g) (look:=look) _ rfl
  rw[h1,if_neg (by decide),if_pos h2]at h;refine lF h gm.noConfusion hi ?_ ?_
  .show 2+1<=3
   omega
  .show 4<=c.S-look.at_+4
   omega
 .have h:=yZ (c:=c) (m:=m) (w:=w) (i:=i) (wd:=wd) (gen:=gen) (ps:=ps) (rt:=rt) (e:=e) (g:=g) (look:=look) _ rfl
  rw[h1,if_neg (by decide),if_neg h2,h4]at h;refine sI h gm.noConfusion ⟨hf,hi⟩ (dH ?_);show c.S-(look.at_+1)+4+1<=c.S-look.at_+4;omega
theorem Fa(h1:look.at_<c.S)(hi:i<c.S)(hf:look.fd.isSome=true):iy c w m g ⟨.dD,look,i,wd,gen,ps,rt,e⟩:=by
 have h:(⟨.dD,look,i,wd,gen,ps,rt,e⟩:Tk).step w c.S m g=match az look.wd 9 w 0 with
  |some n=>if m.sl look.at_=look.wd then(⟨.move,look.go,i,wd,gen,ps,rt,e⟩,m.set look.at_ n)else(⟨.move,look.go,i,wd,gen,ps,rt,e⟩,m)
  |none=>(⟨.move,look.go,i,wd,gen,ps,rt,e⟩,m):=rfl
 have hg:look.go={look with fd:=none,at_:=look.at_+1}:=by grind [Fd.go]
 rw[hg]at h;have still:(⟨.dD,look,i,wd,gen,ps,rt,e⟩:Tk).step w c.S m g=(⟨.move,{look with fd:=none,at_:=look.at_+1},i,wd,gen,ps,rt,e⟩,m)->iy c w m g ⟨.dD,look,i,wd,gen,ps,rt,e⟩:=by
  intro h;refine sI h gm.noConfusion ⟨rfl,hi⟩ (dH ?_);show c.S-(look.at_+1)+4+1<=c.S-look.at_+4;omega
 cases hn:az look.wd 9 w 0 with
 |none=>grind
 |some n=>
  rw[hn]at h;dsimp only at h;by_cases hm:m.sl look.at_=look.wd
  .rw[if_pos hm]at h
   have hs:=(eT hn).2.2.2.2.2.2.2.2.2.1 rfl;refine sI h gm.noConfusion ⟨rfl,hi⟩ (gG h1 hm ?_);rw[kJ (by omega),kJ (by omega)];show c.S-(look.at_+1)+4+cI c+1<=c.S-look.at_+4+cI c;omega
  grind
theorem JR(hi:i<c.S):iy c w m g ⟨.bM,look,i,wd,gen,ps,rt,e⟩:=by
 have h:(⟨.bM,look,i,wd,gen,ps,rt,e⟩:Tk).step w c.S m g=match(⟨.bM,look,i,wd,gen,ps,rt,e⟩:Tk).swap w m i wd (if g then 1 else 2)with
  |some (t,m)=>if g then({t with st:=.check},m)else(t.fin 6,m)
  |none=>(⟨.done,look,i,wd,gen,ps,rt,6⟩,m):=rfl
 rcases lQ with h0|⟨n,hn,hm,h0⟩
 .rw[h0]at h
  refine FZ h rfl (show(6:Int)≠3 by decide) (dH ?_);show 3+1<=cI c+5;omega
 .rw[h0]at h
  cases g with
  |true=>
   have hs:=(eT hn).2.1 rfl;refine sI h gm.noConfusion hi (gG hi hm ?_);rw[kJ (by omega),Gq (by omega)];show 4+cI c+1<=cI c+5+0;omega
  |false=>
   have hs:=(eT hn).2.2.1 rfl;refine FZ h rfl (show(6:Int)≠3 by decide) (gG hi hm ?_);rw[Gq (by omega),Gq (by omega)];show 3+0+1<=cI c+5+0;omega
theorem Ff(hi:i<c.S):iy c w m g ⟨.check,look,i,wd,gen,ps,rt,e⟩:=by
 have h:(⟨.check,look,i,wd,gen,ps,rt,e⟩:Tk).step w c.S m g=if m.cl=0 then(⟨.done,look,i,wd,gen,ps,rt,0⟩,m)else(⟨.back,look,i,wd,gen,ps,rt,e⟩,m):=rfl
 by_cases hc:m.cl=0
 .rw[if_pos hc]at h
  refine FZ h rfl (show(0:Int)≠3 by decide) (dH (aq _))
 .rw[if_neg hc]at h
  exact lF h gm.noConfusion hi (aq _) (aq _)
theorem JS(M:bQ c m)(hi:i<c.S):iy c w m g ⟨.back,look,i,wd,gen,ps,rt,e⟩:=by
 have h:(⟨.back,look,i,wd,gen,ps,rt,e⟩:Tk).step w c.S m g=if(m.sl i).st=3/\(m.sl i).own=w/\(m.sl i).gen=gen then(⟨.go,look,i,wd,gen,ps,Rt.new i (m.sl i),e⟩,m)else(⟨.done,look,i,wd,gen,ps,rt,5⟩,m):=rfl
 by_cases hc:(m.sl i).st=3/\(m.sl i).own=w/\(m.sl i).gen=gen
 .rw[if_pos hc]at h
  refine lF h gm.noConfusion ⟨NB hi (M.1 _ hi) (.inr hc.1),hi⟩ ?_ (aq _);show(if m.sl i=m.sl i then 0 else 2)+1<=1;grind
 .rw[if_neg hc]at h
  exact FZ h rfl (show(5:Int)≠3 by decide) (dH (aq _))
theorem aiI(h1:pY c rt)(hi:i<c.S):iy c w m g ⟨.go,look,i,wd,gen,ps,rt,e⟩:=by
 have h:(⟨.go,look,i,wd,gen,ps,rt,e⟩:Tk).step w c.S m g=if(rt.step m).1.st=.done then(if(rt.step m).1.sw then(⟨.done,look,i,wd,gen,ps,(rt.step m).1,5⟩,(rt.step m).2)else(⟨.back,look,i,wd,gen,ps,(rt.step m).1,e⟩,(rt.step m).2))else(⟨.go,look,i,wd,gen,ps,(rt.step m).1,e⟩,(rt.step m).2):=rfl
 obtain⟨g1,g2,g3⟩:=vO h1;by_cases hd:(rt.step m).1.st=.done
 .rw[if_pos hd]at h
  have hb:gT c (rt.step m).1=0:=by unfold gT;rw[hd]
  rcases g3 with⟨-,k, -⟩|⟨k1,k2,k3,k4,k5⟩|k
  .exact absurd hd k
  .rw[k3,if_neg (by decide),k1]at h
   refine lF h gm.noConfusion hi ?_ ?_
   .grind [vz]
   .show 4<=4+gT c rt
    omega
  .have k4:=k 4 4 (by omega)
   rw[hb]at k4;by_cases hs:(rt.step m).1.sw=true
   .rw[if_pos hs]at h
    refine FZ h rfl (show(5:Int)≠3 by decide) ?_;have k3:=k 4 3 (by omega);rw[hb]at k3;exact k3
   .rw[if_neg hs]at h
    exact sI h gm.noConfusion hi k4
 .rw[if_neg hd]at h
  rcases g3 with⟨k1,k2,k3,k4,k5⟩|⟨k1,k2,k3,k4,k5⟩|k
  .rw[k1]at h
   refine lF h gm.noConfusion ⟨(g2 hd).1,hi⟩ ?_ ?_
   .have e3:∀r:Rt,r.st≠.swap->vz c m ⟨.go,look,i,wd,gen,ps,r,e⟩=xx m r:=by
     intro r hr;unfold vz xx;cases h:r.st with
     |swap=>exact absurd h hr
     |_=>rfl
    rw[e3 _ k4,e3 _ (g2 hd).2];exact k3
   .show 4+gT c (rt.step m).1<=4+gT c rt
    omega
  .exact absurd k2 hd
  .exact sI h gm.noConfusion ⟨(g2 hd).1,hi⟩ (k 4 4 (by omega))
theorem Fb(hi:i<c.S):iy c w m g ⟨.grant,look,i,wd,gen,ps,rt,e⟩:=by
 have h:(⟨.grant,look,i,wd,gen,ps,rt,e⟩:Tk).step w c.S m g=(⟨.eG,look,i,m.sl i,gen,ps,rt,e⟩,m):=rfl;refine lF h gm.noConfusion hi ?_ (aq _);show(if m.sl i=m.sl i then 0 else 2)+1<=1;grind
theorem BK(hi:i<c.S):iy c w m g ⟨.eG,look,i,wd,gen,ps,rt,e⟩:=by
 have h:(⟨.eG,look,i,wd,gen,ps,rt,e⟩:Tk).step w c.S m g=match az wd 16 w 0 with
  |none=>(⟨.done,look,i,wd,gen,ps,rt,5⟩,m)
  |some n=>if m.sl i=wd then(⟨if n.st=3 then .check else .bM,look,i,n,n.gen,ps,rt,e⟩,m.set i n)else(⟨.grant,look,i,wd,gen,ps,rt,e⟩,m):=rfl
 cases hn:az wd 16 w 0 with
 |none=>
  rw[hn]at h;refine FZ h rfl (show(5:Int)≠3 by decide) (dH ?_);show 3+1<=cI c+6;omega
 |some n=>
  rw[hn]at h;dsimp only at h;by_cases hm:m.sl i=wd
  .rw[if_pos hm]at h
   have hs:=(eT hn).2.2.2.2.2.2.2.2.2.2.2.2.2.2.2.1 rfl;rcases hs with hs|hs
   .rw[if_pos hs.2]at h
    refine sI h gm.noConfusion hi (gG hi hm ?_);rw[kJ (by omega),kJ (by omega)];show 4+cI c+1<=cI c+6+cI c;omega
   .rw[if_neg (by omega)]at h
    refine sI h gm.noConfusion hi (gG hi hm ?_);rw[Gq (by omega),Gq (by omega)];show cI c+5+0+1<=cI c+6+0;omega
  .rw[if_neg hm]at h
   refine lF h gm.noConfusion hi ?_ (aq _);show 1+1<=if m.sl i=wd then 0 else 2
   grind
theorem ad9{t}(hw:w<=15)(M:bQ c m)(T:pW c w t)(hd:t.st≠.done):iy c w m g t:=by
 obtain⟨st,look,i,wd,gen,ps,rt,e⟩:=t;cases st with
 |closed=>exact BL
 |own=>exact Oc hw M T.1 T.2
 |gp=>exact JO T.1 T.2.1 T.2.2
 |any=>exact Od hw M T.1 T.2
 |anyS=>exact JU T.1 T.2.1 T.2.2
 |move=>exact JP T.1 T.2
 |dD=>exact Fa T.1 T.2.1 T.2.2
 |free=>exact JQ hw M T.1 T.2
 |dQ=>exact Fe T.1 T.2.1 T.2.2
 |bM=>exact JR T
 |check=>exact Ff T
 |back=>exact JS M T
 |go=>exact aiI T.1 T.2
 |grant=>exact Fb T
 |eG=>exact BK T
 |done=>grind
theorem aiF{t:Tk}(M:bQ c m):bQ c (t.step w c.S m g).2:=by
 grind [Tk.step,lQ,nN,DJ]
end
noncomputable section
open Classical
def Gd(c:Cn)(m m':Mm)(dn ok:Prop)(r r' b b' en:Nat):Prop:=(dn->fJ c m b m' en)/\(¬dn->ok/\Out m m' r r' b b' c)
def LH(m:Mm)(r:Rt):Nat:=match r.st with| .swap=>if m.sl r.i=r.wd then 0 else 2| .look=>2| .iI=>1|_=>0
theorem Yd{m}{r}(h:r.st≠.swap):LH m r=xx m r:=by
 grind [LH,xx]
def LG(m:Mm)(g:Gv):Nat:=
 match g.st with
 | .closed=>2
 | .look=>1
 | .rest=>if m.sl g.i.toNat=g.wd then 0 else 2
 | .go=>LH m g.rt
 | .done=>0
def JD(c:Cn)(g:Gv):Nat:=match g.st with| .go=>4+gT c g.rt|_=>4
def yJ(c:Cn)(w:Nat)(g:Gv):Prop:=
 match g.st with
 | .rest=>g.i.toNat<c.S/\(az g.wd 4 w 0).isSome=true
 | .go=>pY c g.rt
 |_=>True
def Bh(c:Cn)(w:Nat)(m:Mm)(g:Gv):Prop:=
 Gd c m (g.step c w m).2 ((g.step c w m).1.st=.done) (yJ c w (g.step c w m).1) (LG m g) (LG m (g.step c w m).1) (JD c g) (JD c (g.step c w m).1) 3
theorem KU{c}{w}{m}{g g'}(e:g.step c w m=(g',m))(hd:g'.st≠.done)(T:yJ c w g')(r:LG m g'+1<=LG m g)(b:JD c g'<=JD c g):Bh c w m g:=by
 unfold Bh;rw[e];exact⟨λh=>absurd h hd,λ_=>⟨T,.inl ⟨rfl,r,b⟩⟩⟩
theorem ahL{c}{w}{m m'}{g g'}(e:g.step c w m=(g',m'))(hd:g'.st≠.done)(T:yJ c w g')(b:fJ c m (JD c g) m' (JD c g')):Bh c w m g:=by
 unfold Bh;rw[e];exact⟨λh=>absurd h hd,λ_=>⟨T,.inr b⟩⟩
theorem KV{c}{w}{m m'}{g g'}(e:g.step c w m=(g',m'))(hd:g'.st=.done)(b:fJ c m (JD c g) m' 3):Bh c w m g:=by
 unfold Bh;rw[e];exact⟨λ_=>b,λh=>absurd hd h⟩
theorem afs{c}{w}{m}{g}(hw:w<=15)(M:bQ c m)(T:yJ c w g)(hd:g.st≠.done):Bh c w m g:=by
 obtain⟨i,gen,dc,st,cl,wd,rt,e⟩:=g;cases st with
 |closed=>
  have h:(⟨i,gen,dc,.closed,cl,wd,rt,e⟩:Gv).step c w m=if m.cl=2 then(⟨i,gen,dc,.done,m.cl,wd,rt,5⟩,m)else(⟨i,gen,dc,.look,m.cl,wd,rt,e⟩,m):=rfl
  by_cases hc:m.cl=2
  .rw[if_pos hc]at h
   exact KV h rfl (dH (aq _))
  .rw[if_neg hc]at h
   exact KU h pg.noConfusion trivial (aq _) (aq _)
 |look=>
  have h:(⟨i,gen,dc,.look,cl,wd,rt,e⟩:Gv).step c w m=if 0<=i/\i<c.S then
    (if¬((m.sl i.toNat).st=3/\(m.sl i.toNat).own=w/\(m.sl i.toNat).gen=gen)then(⟨i,gen,dc,.done,cl,m.sl i.toNat,rt,2⟩,m)else if(m.sl i.toNat).str≠0/\dc=false then(⟨i,gen,dc,.done,cl,m.sl i.toNat,rt,8⟩,m)else
    if dc=true\/(m.sl i.toNat).brk=true\/c.u<=(m.sl i.toNat).uses\/¬(cl=(0:Int))then(⟨i,gen,dc,.go,cl,m.sl i.toNat,Rt.new i.toNat (m.sl i.toNat),e⟩,m)else(⟨i,gen,dc,.rest,cl,m.sl i.toNat,rt,e⟩,m))
   else(⟨i,gen,dc,.done,cl,wd,rt,2⟩,m):=rfl
  by_cases hi:0<=i/\i<c.S
  .rw[if_pos hi]at h
   have hs:i.toNat<c.S:=by omega
   by_cases h1:¬((m.sl i.toNat).st=3/\(m.sl i.toNat).own=w/\(m.sl i.toNat).gen=gen)
   .rw[if_pos h1]at h
    exact KV h rfl (dH (aq _))
   .rw[if_neg h1]at h
    have h1:=su.1 h1;by_cases h2:(m.sl i.toNat).str≠0/\dc=false
    .rw[if_pos h2]at h
     exact KV h rfl (dH (aq _))
    .rw[if_neg h2]at h
     by_cases h3:dc=true\/(m.sl i.toNat).brk=true\/c.u<=(m.sl i.toNat).uses\/¬(cl=(0:Int))
     .rw[if_pos h3]at h
      refine KU h pg.noConfusion (NB hs (M.1 _ hs) (.inr h1.1)) ?_ (aq _);show(if m.sl i.toNat=m.sl i.toNat then 0 else 2)+1<=1;rw[if_pos rfl];exact aq _
     .rw[if_neg h3]at h
      have h4:dc=false:=by
       cases dc with
       |false=>rfl
       |true=>exact absurd (.inl rfl) h3
      have h5:(m.sl i.toNat).str=0:=Decidable.byContradiction λhh=>h2 ⟨hh,h4⟩;refine KU h pg.noConfusion ⟨hs,aeT (M.1 _ hs) ⟨h1.1,h1.2.1,h5⟩ (fp _) (by omega)⟩ ?_ (aq _);show(if m.sl i.toNat=m.sl i.toNat then 0 else 2)+1<=1;rw[if_pos rfl];exact aq _
  .rw[if_neg hi]at h
   exact KV h rfl (dH (aq _))
 |rest=>
  obtain⟨hs,hn⟩:=T;have hn:(az wd 4 w 0).isSome=true:=hn;have hs:i.toNat<c.S:=hs;obtain⟨n,hn⟩:=cP.1 hn;have h:(⟨i,gen,dc,.rest,cl,wd,rt,e⟩:Gv).step c w m=match az wd 4 w 0 with
   |some n=>if m.sl i.toNat=wd then(⟨i,gen,dc,.done,cl,wd,rt,0⟩,m.set i.toNat n)else(⟨i,gen,dc,.look,cl,wd,rt,e⟩,m)
   |none=>(⟨i,gen,dc,.look,cl,wd,rt,e⟩,m):=rfl
  rw[hn]at h;dsimp only at h;by_cases hm:m.sl i.toNat=wd
  .rw[if_pos hm]at h
   have k:=(eT hn).2.2.2.2.1 rfl;refine KV h rfl (gG hs hm ?_);rw[kJ (s:=n) (by omega),kJ (s:=wd) (by omega)];show 3+cI c+1<=4+cI c;omega
  .rw[if_neg hm]at h
   refine KU h pg.noConfusion trivial ?_ (aq _);show 1+1<=if m.sl i.toNat=wd then 0 else 2
   rw[if_neg hm];exact aq _
 |go=>
  have T:pY c rt:=T;have h:(⟨i,gen,dc,.go,cl,wd,rt,e⟩:Gv).step c w m=if(rt.step m).1.st=.done then(if(rt.step m).1.sw then(⟨i,gen,dc,.done,cl,wd,(rt.step m).1,0⟩,(rt.step m).2)else(⟨i,gen,dc,.look,cl,wd,(rt.step m).1,e⟩,(rt.step m).2))else(⟨i,gen,dc,.go,cl,wd,(rt.step m).1,e⟩,(rt.step m).2):=rfl
  obtain⟨g1,g2,g3⟩:=vO (m:=m) T;by_cases hd:(rt.step m).1.st=.done
  .rw[if_pos hd]at h
   have hb:gT c (rt.step m).1=0:=by unfold gT;rw[hd]
   rcases g3 with⟨-,k, -⟩|⟨k1,k2,k3,k4,k5⟩|k
   .exact absurd hd k
   .rw[k3,if_neg (by decide),k1]at h
    refine KU h pg.noConfusion trivial ?_ ?_
    .have:LG m ⟨i,gen,dc,.go,cl,wd,rt,e⟩=2:=by
      unfold LG LH;rw[k4];exact if_neg k5
     rw[this];exact aq _
    .show 4<=4+gT c rt
     omega
   .by_cases hs:(rt.step m).1.sw=true
    .rw[if_pos hs]at h
     refine KV h rfl ?_;have k3:=k 4 3 (by omega);rw[hb]at k3;exact k3
    .rw[if_neg hs]at h
     have k4:=k 4 4 (by omega);rw[hb]at k4;exact ahL h pg.noConfusion trivial k4
  .rw[if_neg hd]at h
   rcases g3 with⟨k1,k2,k3,k4,k5⟩|⟨k1,k2,k3,k4,k5⟩|k
   .rw[k1]at h
    refine KU h pg.noConfusion (g2 hd).1 ?_ ?_
    .show LH m (rt.step m).1+1<=LH m rt
     rw[Yd k4,Yd (g2 hd).2];exact k3
    .show 4+gT c (rt.step m).1<=4+gT c rt
     omega
   .exact absurd k2 hd
   .exact ahL h pg.noConfusion (g2 hd).1 (k 4 4 (by omega))
 |done=>exact absurd rfl hd
theorem ajA{c}{w}{m}{g:Gv}(M:bQ c m):bQ c (g.step c w m).2:=by
 grind [Gv.step,nN,DJ]
def Tj(m:Mm)(s:Sm):Nat:=
 match s.st with
 | .closed=>2
 | .look=>1
 | .swap=>if m.sl s.i.toNat=s.wd then 0 else 2
 | .done=>0
def Bc(c:Cn)(w:Nat)(s:Sm):Prop:=
 match s.st with
 | .swap=>s.i.toNat<c.S/\s.next c w s.wd=some s.nx
 |_=>True
def GoodS(c:Cn)(w:Nat)(m:Mm)(s:Sm):Prop:=
 Gd c m (s.step c w m).2 ((s.step c w m).1.st=.done) (Bc c w (s.step c w m).1) (Tj m s) (Tj m (s.step c w m).1) 4 4 3
theorem abW{c}{w}{m}{g g'}(e:g.step c w m=(g',m))(hd:g'.st≠.done)(T:Bc c w g')(r:Tj m g'+1<=Tj m g):GoodS c w m g:=by
 unfold GoodS;rw[e];exact⟨λh=>absurd h hd,λ_=>⟨T,.inl ⟨rfl,r,aq _⟩⟩⟩
theorem KR{c}{w}{m m'}{g g'}(e:g.step c w m=(g',m'))(hd:g'.st=.done)(b:fJ c m 4 m' 3):GoodS c w m g:=by
 unfold GoodS;rw[e];exact⟨λ_=>b,λh=>absurd hd h⟩
theorem aiS{c}{w}{s:Sm}{x n}(h:s.next c w x=some n):x.st=3/\n.st=3:=by
 grind [Sm.next,eT]
theorem aeq{c}{w}{m}{s}(T:Bc c w s)(hd:s.st≠.done):GoodS c w m s:=by
 obtain⟨op,i,gen,n,st,wd,nx,num,e⟩:=s;cases st with
 |closed=>
  have h:(⟨op,i,gen,n,.closed,wd,nx,num,e⟩:Sm).step c w m=if m.cl=2 then(⟨op,i,gen,n,.done,wd,nx,num,5⟩,m)else(⟨op,i,gen,n,.look,wd,nx,num,e⟩,m):=rfl
  by_cases hc:m.cl=2
  .rw[if_pos hc]at h
   exact KR h rfl (dH (aq _))
  .rw[if_neg hc]at h
   exact abW h wV.noConfusion trivial (aq _)
 |look=>
  have h:(⟨op,i,gen,n,.look,wd,nx,num,e⟩:Sm).step c w m=if 0<=i/\i<c.S then
    (if¬((m.sl i.toNat).st=3/\(m.sl i.toNat).own=w/\(m.sl i.toNat).gen=gen)then(⟨op,i,gen,n,.done,m.sl i.toNat,nx,num,2⟩,m)else if op=true/\(m.sl i.toNat).brk=true then(⟨op,i,gen,n,.done,m.sl i.toNat,nx,num,9⟩,m)else
    match(⟨op,i,gen,n,.look,m.sl i.toNat,nx,num,e⟩:Sm).next c w (m.sl i.toNat)with
    |none=>(⟨op,i,gen,n,.done,m.sl i.toNat,nx,num,if op then 10 else 11⟩,m)
    |some y=>(⟨op,i,gen,n,.swap,m.sl i.toNat,y,if op then bA (m.sl i.toNat).str else n,e⟩,m))
   else(⟨op,i,gen,n,.done,wd,nx,num,2⟩,m):=rfl
  by_cases hi:0<=i/\i<c.S
  .rw[if_pos hi]at h
   have hs:i.toNat<c.S:=by omega
   by_cases h1:¬((m.sl i.toNat).st=3/\(m.sl i.toNat).own=w/\(m.sl i.toNat).gen=gen)
   .rw[if_pos h1]at h
    exact KR h rfl (dH (aq _))
   .rw[if_neg h1]at h
    by_cases h2:op=true/\(m.sl i.toNat).brk=true
    .rw[if_pos h2]at h
     exact KR h rfl (dH (aq _))
    .rw[if_neg h2]at h
     cases hn:(⟨op,i,gen,n,.look,m.sl i.toNat,nx,num,e⟩:Sm).next c w (m.sl i.toNat)with
     |none=>
      rw[hn]at h;exact KR h rfl (dH (aq _))
     |some y=>
      rw[hn]at h;refine abW h wV.noConfusion ⟨hs,hn⟩ ?_;show(if m.sl i.toNat=m.sl i.toNat then 0 else 2)+1<=1;rw[if_pos rfl];exact aq _
  .rw[if_neg hi]at h
   exact KR h rfl (dH (aq _))
 |swap=>
  obtain⟨hs,hn⟩:=T;have k:=aiS hn;have k1:wd.st=3:=k.1;have k2:nx.st=3:=k.2;have h:(⟨op,i,gen,n,.swap,wd,nx,num,e⟩:Sm).step c w m=if m.sl i.toNat=wd then(⟨op,i,gen,n,.done,wd,nx,num,0⟩,m.set i.toNat nx)else(⟨op,i,gen,n,.look,wd,nx,num,e⟩,m):=rfl
  by_cases hm:m.sl i.toNat=wd
  .rw[if_pos hm]at h
   refine KR h rfl (gG hs hm ?_);rw[kJ (by omega),kJ (by omega)];omega
  .rw[if_neg hm]at h
   refine abW h wV.noConfusion trivial ?_;show 1+1<=if m.sl i.toNat=wd then 0 else 2
   rw[if_neg hm];exact aq _
 |done=>exact absurd rfl hd
theorem aiV{c}{w}{m}{s}(M:bQ c m)(T:Bc c w s):bQ c (s.step c w m).2:=by
 obtain⟨op,i,gen,n,st,wd,nx,num,e⟩:=s;unfold Sm.step;split
 .split<;>exact M
 .grind
 .rename_i hst
  subst hst;split
  .have hn:=T.2
   grind [Sm.next,nN]
  .exact M
 .exact M
def pre(m:Mm)(k:Nat):List aa:=(List.range k).map m.sl
def Cl(m:Mm)(t:Tw):Prop:=t.rd=pre m t.rd.length
def um(c:Cn)(m:Mm)(t:Tw):Nat:=if Cl m t then(if t.last=some (pre m c.S)then c.S-t.rd.length else 2*c.S-t.rd.length)else 3*c.S+1-t.rd.length
def Bb(c:Cn)(t:Tw):Prop:=t.dn=false/\t.rd.length<c.S
theorem O4(m)(k):pre m (k+1)=pre m k++[m.sl k]:=by
 unfold pre;rw[List.range_succ,qP];rfl
theorem ZB(m)(l)(d)(n):Cl m ⟨[],l,d,n⟩:=rfl
theorem SI{c}{m}{t}(T:Bb c t):
  (Cl m t->Cl m (t.step c.S m)/\((t.step c.S m).dn=true->(t.step c.S m).last=some (pre m c.S)))/\
  ((t.step c.S m).dn=false->Bb c (t.step c.S m)/\um c m (t.step c.S m)+1<=um c m t):=by
 obtain⟨rd,last,dn,nn⟩:=t;obtain⟨h1,h2⟩:=T;have h1:dn=false:=h1;subst h1;have h2:rd.length<c.S:=h2;have e:(⟨rd,last,false,nn⟩:Tw).step c.S m=if(rd++[m.sl rd.length]).length<c.S then⟨rd++[m.sl rd.length],last,false,nn⟩else⟨[],some (rd++[m.sl rd.length]),decide (last=some (rd++[m.sl rd.length])),nn+1⟩:=rfl
 have hl:(rd++[m.sl rd.length]).length=rd.length+1:=by simp
 have hcl:Cl m ⟨rd,last,false,nn⟩->rd++[m.sl rd.length]=pre m (rd.length+1):=by
  intro h;rw[O4];have:rd=pre m rd.length:=h;rw[<-this]
 by_cases h3:(rd++[m.sl rd.length]).length<c.S
 .rw[if_pos h3]at e
  have e0:Cl m ⟨rd,last,false,nn⟩->Cl m ⟨rd++[m.sl rd.length],last,false,nn⟩:=by
   intro h;show rd++[m.sl rd.length]=pre m (rd++[m.sl rd.length]).length;rw[hl];exact hcl h
  have e1:Cl m ⟨rd++[m.sl rd.length],last,false,nn⟩->Cl m ⟨rd,last,false,nn⟩:=by
   intro h;have h:rd++[m.sl rd.length]=pre m (rd++[m.sl rd.length]).length:=h;rw[hl,O4]at h;show rd=pre m rd.length;exact List.append_inj_left' h rfl
  rw[e];refine⟨λh=>⟨e0 h,λhh=>by cases hh⟩,λ_=>⟨⟨rfl,h3⟩,?_⟩⟩;unfold um;rw[propext ⟨e1,e0⟩];dsimp only;by_cases hc:Cl m ⟨rd,last,false,nn⟩
  .rw[if_pos hc,if_pos hc]
   split<;>omega
  .rw[if_neg hc,if_neg hc]
   omega
 .rw[if_neg h3]at e
  rw[e];refine⟨λh=>⟨ZB _ _ _ _,λhh=> ?_⟩,λhh=>⟨⟨hh,by show 0<c.S;omega⟩,?_⟩⟩
  .rw[hcl h,show rd.length+1=c.S by omega]
  .have hne:=of_decide_eq_false hh
   unfold um;rw[if_pos (ZB _ _ _ _)];by_cases hc:Cl m ⟨rd,last,false,nn⟩
   .have he:=hcl hc
    rw[show rd.length+1=c.S by omega]at he;rw[he]at hne ⊢;rw[if_pos rfl,if_pos hc,if_neg hne];omega
   .split
    .omega
    .omega
def qK(m:Mm)(q:Qu):Nat:=
 match q.st with
 | .come=>1
 | .push=>if m.qu=q.ln then 0 else 2
 | .closed=>2
 | .look=>1
 | .drop=>if m.qu=q.ln then 0 else 2
 | .head=>1
 | .pop=>if m.qu=q.ln then 0 else 2
 |_=>0
def Um(c:Cn)(q:Qu):Nat:=match q.st with| .come| .push=>lE c+2*c.W+5+bP c|_=>4+bP c
def bDr(q:Qu):Nat:=match q.st with| .tell=>5|_=>4
def Dt(w:Nat)(q:Qu):Prop:=
 match q.st with
 | .come| .closed| .look=>True
 | .push=>w∉q.ln
 | .drop=>w∈q.ln
 |_=>False
def Du(q:Qu):Prop:=
 match q.st with
 | .head| .tell=>True
 | .pop=>q.ln≠[]
 |_=>False
variable{c:Cn} {w:Nat} {m:Mm}
theorem aeE{q}(T:Dt w q):Gd c m (q.step c w m).2 ((q.step c w m).1.st=.done) (Dt w (q.step c w m).1) (qK m q) (qK m (q.step c w m).1) (Um c q) (Um c (q.step c w m).1) (3+bP c):=by
 obtain⟨st,ln,first,why,e⟩:=q;cases st with
 |come=>
  have h:(⟨.come,ln,first,why,e⟩:Qu).step c w m=if c.wt<=m.qu.length\/w∈m.qu then(⟨.done,m.qu,first,why,7⟩,m)else(⟨.push,m.qu,first,why,e⟩,m):=rfl
  rw[h];by_cases hh:c.wt<=m.qu.length\/w∈m.qu
  .rw[if_pos hh]
   refine⟨λ_=>dH ?_,λk=>absurd rfl k⟩;show 3+bP c+1<=lE c+2*c.W+5+bP c;omega
  .rw[if_neg hh]
   refine⟨λk=>(by cases k),λ_=>⟨λk=>hh (.inr k),.inl ⟨rfl,?_,aq _⟩⟩⟩;show(if m.qu=m.qu then 0 else 2)+1<=1;grind
 |push=>
  have h:(⟨.push,ln,first,why,e⟩:Qu).step c w m=if m.qu=ln then(⟨.closed,ln,first,why,e⟩,{m with qu:=m.qu++[w]})else(⟨.come,ln,first,why,e⟩,m):=rfl
  rw[h];by_cases hh:m.qu=ln
  .rw[if_pos hh]
   refine⟨λk=>(by cases k),λ_=>⟨trivial,.inr (YM ?_)⟩⟩;show 4+bP c+lE c+2*c.W+1<=lE c+2*c.W+5+bP c;omega
  .rw[if_neg hh]
   refine⟨λk=>(by cases k),λ_=>⟨trivial,.inl ⟨rfl,?_,aq _⟩⟩⟩;show 1+1<=if m.qu=ln then 0 else 2
   rw[if_neg hh];exact aq _
 |closed=>
  have h:(⟨.closed,ln,first,why,e⟩:Qu).step c w m=if m.cl=0 then(⟨.done,ln,first,why,0⟩,m)else(⟨.look,ln,first,5,e⟩,m):=rfl
  rw[h];by_cases hh:m.cl=0
  .rw[if_pos hh]
   refine⟨λ_=>dH ?_,λk=>absurd rfl k⟩;show 3+bP c+1<=4+bP c;omega
  .rw[if_neg hh]
   exact⟨λk=>(by cases k),λ_=>⟨trivial,.inl ⟨rfl,aq _,aq _⟩⟩⟩
 |look=>
  have h:(⟨.look,ln,first,why,e⟩:Qu).step c w m=if w∈m.qu then(⟨.drop,m.qu,first,why,e⟩,m)else(⟨.done,m.qu,first,why,8⟩,m):=rfl
  rw[h];by_cases hh:w∈m.qu
  .rw[if_pos hh]
   refine⟨λk=>(by cases k),λ_=>⟨hh,.inl ⟨rfl,?_,aq _⟩⟩⟩;show(if m.qu=m.qu then 0 else 2)+1<=1;rw[if_pos rfl];exact aq _
  .rw[if_neg hh]
   refine⟨λ_=>dH ?_,λk=>absurd rfl k⟩;show 3+bP c+1<=4+bP c;omega
 |drop=>
  have h:(⟨.drop,ln,first,why,e⟩:Qu).step c w m=if m.qu=ln then(⟨.done,ln,first,why,why⟩,{m with qu:=m.qu.erase w})else(⟨.look,ln,first,why,e⟩,m):=rfl
  rw[h];by_cases hh:m.qu=ln
  .rw[if_pos hh]
   refine⟨λ_=>Md (by rw[hh];exact T) ?_,λk=>absurd rfl k⟩;show 3+bP c+2*c.W+1<=4+bP c+lE c;unfold lE;omega
  .rw[if_neg hh]
   refine⟨λk=>(by cases k),λ_=>⟨trivial,.inl ⟨rfl,?_,aq _⟩⟩⟩;show 1+1<=if m.qu=ln then 0 else 2
   rw[if_neg hh];exact aq _
 |_=>exact absurd T (by intro h;exact h)
theorem aeF{q}(T:Du q):Gd c m (q.step c w m).2 ((q.step c w m).1.st=.done) (Du (q.step c w m).1) (qK m q) (qK m (q.step c w m).1) (bDr q) (bDr (q.step c w m).1) 3:=by
 obtain⟨st,ln,first,why,e⟩:=q;cases st with
 |head=>
  cases hq:m.qu with
  |nil=>
   have h:(⟨.head,ln,first,why,e⟩:Qu).step c w m=(⟨.done,[],first,why,0⟩,m):=by unfold Qu.step;rw[hq];rfl
   rw[h];exact⟨λ_=>dH (aq _),λk=>absurd rfl k⟩
  |cons a r=>
   have h:(⟨.head,ln,first,why,e⟩:Qu).step c w m=(⟨.pop,a::r,a,why,e⟩,m):=by grind [Qu.step]
   rw[h];refine⟨λk=>(by cases k),λ_=>⟨List.cons_ne_nil _ _,.inl ⟨rfl,?_,aq _⟩⟩⟩;show(if m.qu=a::r then 0 else 2)+1<=1;grind
 |pop=>
  have h:(⟨.pop,ln,first,why,e⟩:Qu).step c w m=if m.qu=ln then(⟨.tell,ln,first,why,e⟩,{m with qu:=m.qu.tail})else(⟨.head,ln,first,why,e⟩,m):=rfl
  rw[h];by_cases hh:m.qu=ln
  .rw[if_pos hh]
   refine⟨λk=>(by cases k),λ_=>⟨trivial,.inr (PE (by rw[hh];exact T) ?_)⟩⟩;show 5+2*c.W+1<=4+lE c;unfold lE;omega
  .rw[if_neg hh]
   refine⟨λk=>(by cases k),λ_=>⟨trivial,.inl ⟨rfl,?_,aq _⟩⟩⟩;show 1+1<=if m.qu=ln then 0 else 2
   rw[if_neg hh];exact aq _
 |tell=>
  exact⟨λk=>(by cases k),λ_=>⟨trivial,.inr (Aq (aq _))⟩⟩
 |_=>exact absurd T (by intro h;exact h)
def Dr(w:Nat)(q:Qu):Prop:=(q.st=.look\/q.st=.drop/\w∈q.ln)/\q.why=4
theorem Kt{q}(T:Dr w q):
  ((q.step c w m).1.st=.done->((q.step c w m).1.e=8/\(q.step c w m).2=m/\q.st=.look)\/((q.step c w m).1.e=4/\fJ c m (bP c) (q.step c w m).2 3))/\
  ((q.step c w m).1.st≠.done->Dr w (q.step c w m).1/\(q.step c w m).2=m/\qK m (q.step c w m).1+1<=qK m q/\(q.st=.look->qK m (q.step c w m).1=0)):=by
 obtain⟨st,ln,first,why,e⟩:=q;obtain⟨hs,hw⟩:=T;subst hw;rcases hs with hs|⟨hs,hl⟩
 .subst hs
  have h:(⟨.look,ln,first,4,e⟩:Qu).step c w m=if w∈m.qu then(⟨.drop,m.qu,first,4,e⟩,m)else(⟨.done,m.qu,first,4,8⟩,m):=rfl
  rw[h];by_cases hh:w∈m.qu
  .rw[if_pos hh]
   have h0:qK m ⟨.drop,m.qu,first,4,e⟩=0:=if_pos rfl;refine⟨λk=>(by cases k),λ_=>⟨⟨.inr ⟨rfl,hh⟩,rfl⟩,rfl,?_,λ_=>h0⟩⟩;rw[h0];exact aq _
  grind
 .subst hs
  have h:(⟨.drop,ln,first,4,e⟩:Qu).step c w m=if m.qu=ln then(⟨.done,ln,first,4,4⟩,{m with qu:=m.qu.erase w})else(⟨.look,ln,first,4,e⟩,m):=rfl
  rw[h];by_cases hh:m.qu=ln
  .rw[if_pos hh]
   refine⟨λ_=>.inr ⟨rfl,Md (by rw[hh];exact hl) ?_⟩,λk=>absurd rfl k⟩;unfold lE bP cI;omega
  .rw[if_neg hh]
   refine⟨λk=>(by cases k),λ_=>⟨⟨.inl rfl,rfl⟩,rfl,?_,λk=>(by cases k)⟩⟩;show 1+1<=if m.qu=ln then 0 else 2
   rw[if_neg hh];exact aq _
theorem aeZ(hw:w<c.W)(M:bQ c m):bQ c {m with qu:=m.qu++[w]}:=by
 refine⟨M.1,λa ha=> ?_⟩;rw[eS,cY]at ha;rcases ha with h|h
 .exact M.2 a h
 grind
theorem abe(M:bQ c m):bQ c {m with qu:=m.qu.erase w}:=⟨M.1,λa ha=>M.2 a (List.mem_of_mem_erase ha)⟩
theorem U5{q:Qu}(hw:w<c.W)(M:bQ c m):bQ c (q.step c w m).2:=by
 unfold Qu.step;split
 .grind
 .grind [aeZ]
 .split<;>exact M
 .grind
 .split
  .exact abe M
  .exact M
 .split<;>exact M
 .split
  .exact Ty M
  .exact M
 .exact M
 .exact M
end
noncomputable section
open Classical
def bRp(c:Cn)(r:Rp):Nat:=(c.S-r.look.at_)+4+(match r.st with| .dB=>gT c r.rt|_=>0)
def rRp(m:Mm)(r:Rp):Nat:=match r.st with| .look=>3| .ask=>2| .mark=>0| .dB=>xx m r.rt
def Q5(c:Cn)(r:Rp):Prop:=
 match r.st with
 | .look=>r.look.fd=none/\r.look.kd=6
 | .ask=>r.look.fd.isSome=true/\r.look.kd=6/\r.look.at_<c.S/\Facts r.look.wd/\r.look.wd.st=2
 | .mark=>r.look.fd.isSome=true/\r.look.kd=6/\r.look.at_<c.S
 | .dB=>r.look.fd.isSome=true/\r.look.kd=6/\r.look.at_<c.S/\pY c r.rt
def JC(c:Cn)(k:Wk):Nat:=
 match k with
 | .get t=>uL c t
 | .give g=>JD c g
 | .bg _=>4
 | .close none=>5
 | .close (some q)=>bDr q
 | .stats _=>4
 | .aS r=>bRp c r
def Yc(c:Cn)(m:Mm)(k:Wk):Nat:=
 match k with
 | .get t=>vz c m t
 | .give g=>LG m g
 | .bg s=>Tj m s
 | .close none=>0
 | .close (some q)=>qK m q
 | .stats t=>um c m t
 | .aS r=>rRp m r
def Ba(c:Cn)(w:Nat)(k:Wk):Prop:=
 match k with
 | .get t=>pW c w t/\t.st≠.done
 | .give g=>yJ c w g/\g.st≠.done
 | .bg s=>Bc c w s/\s.st≠.done
 | .close none=>True
 | .close (some q)=>Du q
 | .stats t=>Bb c t
 | .aS r=>Q5 c r
def pB(c:Cn)(p:Option Bool):Nat:=match p with|some _=>bP c|none=>0
def gY(c:Cn)(m:Mm)(x:Wr):Nat:=
 match x.ph with
 | .rest=>0
 | .pin _=>1+JC c (bE x)
 | .work k=>JC c k
 | .counts _=>bG c
 | .enters q=>Um c q
 | .ax t p _=>rT c m t+pB c p
 | .parked _| .wakes _| .leaves _=>bP c
def kR(c:Cn)(m:Mm)(x:Wr):Nat:=
 match x.ph with
 | .rest=>0
 | .pin none=>1
 | .pin (some _)=>0
 | .work k=>Yc c m k
 | .counts t=>if Cl m t then um c m t+1+(if Has c m then T0 c+1 else 0)else um c m t+2+T0 c+K0 c
 | .enters q=>qK m q
 | .ax t _ _=>xw c m t
 | .parked b=>if b=true then 3 else 1
 | .wakes _=>0
 | .leaves q=>qK m q+2
def jO(c:Cn)(w:Nat)(x:Wr):Prop:=
 match x.ph with
 | .rest=>True
 | .pin _=>x.grant<=c.S
 | .work k=>Ba c w k
 | .counts t=>Bb c t
 | .enters q=>Dt w q
 | .ax t _ _=>pX c t/\t.st≠.done
 | .parked _=>True
 | .wakes h=>∃g:Int,h=some g/\g≠0/\g<=c.S
 | .leaves q=>Dr w q
def fF(c:Cn)(m:Mm):Prop:=∀i,m.gr i<=c.S
def jr(c:Cn)(s:Ms)(w:Nat)(s':Ms):Prop:=
 bQ c s'.m/\fF c s'.m/\jO c w (s'.ws w)/\(∀j,j≠w->s'.ws j=s.ws j)/\
 Out s.m s'.m (kR c s.m (s.ws w)) (kR c s.m (s'.ws w)) (gY c s.m (s.ws w)) (gY c s'.m (s'.ws w)) c
theorem mo{c}{s s'}{w}{m'}{x'}(hm:s'.m=m')(hx:s'.ws=upd s.ws w x')(M:bQ c m')(G:fF c m')(X:jO c w x')
  (O:Out s.m m' (kR c s.m (s.ws w)) (kR c s.m x') (gY c s.m (s.ws w)) (gY c m' x') c):jr c s w s':=by
 unfold jr;rw[hx];grind [upd]
theorem pF{c}{m}{r r' b b'}(hr:r'+1<=r)(hb:b'<=b):Out m m r r' b b' c:=.inl ⟨rfl,hr,hb⟩
theorem lZ{c}{m m'}{r r' b b'}(h:fJ c m b m' b'):Out m m' r r' b b' c:=.inr h
variable{c:Cn} {w:Nat} {s s':Ms} {m:Mm} {x:Wr}
theorem wQ{k}(h:x.ph=.work k):gY c m x=JC c k:=by unfold gY;rw[h]
theorem yV{k}(h:x.ph=.work k):kR c m x=Yc c m k:=by unfold kR;rw[h]
theorem nR{m'}{a}(hm:s'.m=m')(hx:s'.ws=upd s.ws w ((s.ws w).end_ a))(M:bQ c m')(G:fF c m')(L:fJ c s.m (gY c s.m (s.ws w)) m' 3):jr c s w s':=
 mo hm hx M G ⟨trivial,mO.noConfusion⟩ (lZ L)
theorem gV{m'}{k}(hm:s'.m=m')(hx:s'.ws=upd s.ws w ((s.ws w).to (.work k)))(M:bQ c m')(G:fF c m')(X:Ba c w k)
  (O:Out s.m m' (kR c s.m (s.ws w)) (Yc c s.m k) (gY c s.m (s.ws w)) (JC c k) c):jr c s w s':=mo hm hx M G X O
theorem DK{m}{r:Rt}(G:fF c m):fF c (r.step m).2:=by
 unfold Rt.step;split
 .split
  .split<;>exact G
  .exact G
 .exact G
 .split
  .split<;>exact G
  .exact G
 .exact G
 .exact G
theorem aiH{g}{t:Tk}(G:fF c m):fF c (t.step w c.S m g).2:=by
 have sw:∀{t t':Tk} {i wd d m'},t.swap w m i wd d=some (t',m')->fF c m':=by
  intro t t' i wd d m' h;rcases lQ (w:=w) (m:=m) (t:=t) (i:=i) (wd:=wd) (d:=d)with h0|⟨n,hn,hm,h0⟩
  .rw[h0]at h;cases h
  .rw[h0]at h;cases h;exact G
 unfold Tk.step;split
 .split<;>exact G
 .dsimp only;split
  .exact G
  .split<;>exact G
 .split
  .exact sw ‹_›
  .exact G
 .dsimp only;split
  .exact G
  .split<;>exact G
 .split
  .split<;>exact sw ‹_›
  .exact G
 .dsimp only;split
  .split<;>exact G
  .split<;>exact G
 .split
  .split<;>exact G
  .exact G
 .dsimp only;split
  .exact G
  .split<;>exact G
 .split
  .exact sw ‹_›
  .exact G
 .split
  .split<;>exact sw ‹_›
  .exact G
 .split<;>exact G
 .split<;>exact G
 .dsimp only;split
  .split<;>exact DK G
  .exact DK G
 .exact G
 .split
  .exact G
  .split<;>exact G
 .exact G
theorem ajB{g:Gv}(G:fF c m):fF c (g.step c w m).2:=by
 unfold Gv.step;split
 .split<;>exact G
 .grind
 .split
  .split<;>exact G
  .exact G
 .grind [DK]
 .exact G
theorem aiW{g:Sm}(G:fF c m):fF c (g.step c w m).2:=by
 unfold Sm.step;split
 .split<;>exact G
 .grind
 .split<;>exact G
 .exact G
theorem Qe{a}{v:Int}(G:fF c m)(h:v<=c.S):fF c (m.nT a v):=by
 intro i;show upd m.gr a v i<=c.S;unfold upd;split
 .exact h
 .exact G i
theorem U7{q:Qu}(G:fF c m):fF c (q.step c w m).2:=by
 unfold Qu.step;split
 .grind
 .split<;>exact G
 .split<;>exact G
 .grind
 .split<;>exact G
 .split<;>exact G
 .split<;>exact G
 .exact Qe G (by omega)
 .exact G
theorem Ka{m m'}{t:Td}{d own}(G:fF c m)(h:t.swap m d own=some m'):fF c m':=by
 unfold Td.swap at h;split at h
 .split at h
  .cases h;exact G
  .cases h
 .cases h
theorem aiL{t}(G:fF c m)(T:pX c t):fF c (t.step c w m).2:=by
 obtain⟨st,ep,cl,qu,look,i,wd,other,head,rt⟩:=t;cases st with
 |ep=>exact G
 |pin=>exact G
 |cl=>exact G
 |dL=>grind [Td.step]
 |go=>grind [Td.step,DK]
 |old=>grind [Td.step]
 |pins=>unfold Td.step;dsimp only;split<;>exact G
 |clear=>
  show fF c (((⟨.clear,ep,cl,qu,look,i,wd,other,head,rt⟩:Td).swap m 12 w).getD m);cases h:(⟨.clear,ep,cl,qu,look,i,wd,other,head,rt⟩:Td).swap m 12 w with
  |none=>exact G
  |some m'=>exact Ka G h
 |line=>unfold Td.step;dsimp only;split<;>exact G
 |some=>unfold Td.step;dsimp only;split
        .exact G
        .split<;>exact G
 |keep=>unfold Td.step;dsimp only;split
        .exact Ka G ‹_›
        .exact G
 |pop=>unfold Td.step;dsimp only;split<;>exact G
 |grant=>
  have T:i<c.S:=T;exact Qe (v:=(i:Int)+1) G (by omega)
 |back=>exact G
 |dR=>unfold Td.step;dsimp only;split
      .exact Ka G ‹_›
      .exact G
 |eO=>exact G
 |again=>exact G
 |done=>exact G
end
noncomputable section
open Classical
variable{c:Cn} {w:Nat} {s:Ms}
theorem adA:Cl s.m Tw.new:=rfl
theorem ai3{x:Wr}:kR c s.m (x.to (.counts Tw.new))<=K0 c:=by
 show(if Cl s.m Tw.new then um c s.m Tw.new+1+(if Has c s.m then T0 c+1 else 0)else um c s.m Tw.new+2+T0 c+K0 c)<=K0 c;rw[if_pos adA];have:um c s.m Tw.new<=2*c.S:=by
  unfold um;rw[if_pos adA];grind
 grind [K0]
theorem afU{t}(hw:w<=15)(hS:1<=c.S)(hp:(s.ws w).ph=.work (.get t))(M:bQ c s.m)(G:fF c s.m)(T:pW c w t)(hd:t.st≠.done):jr c s w (ak c w s (s.ws w) (.get t)):=by
 have hb:=wQ (c:=c) (m:=s.m) hp;have hr:=yV (c:=c) (m:=s.m) hp;obtain⟨s1,h1,h2,h3⟩:∃s1:Ms,s1.m=s.m/\s1.ws=s.ws/\ak c w s (s.ws w) (.get t)=(
   let r:=t.step w c.S s.m (decide (t.st=.bM)&&s.next.1)
   if r.1.st=.done then
    (if r.1.e=3 then(if(s.ws w).ask.wait then(s1.mem r.2).put w ((s.ws w).to (.enters Qu.enter))else(s1.mem r.2).put w ((s.ws w).to (.counts Tw.new)))
     else if r.1.e=0 then(s1.mem r.2).put w ((s.ws w).end_ ⟨0,r.1.i,r.1.gen,0,0,0,0,0⟩)else(s1.mem r.2).put w ((s.ws w).end_ (.err r.1.e)))
   else(s1.mem r.2).put w ((s.ws w).to (.work (.get r.1)))):=by
  grind [ak]
 rw[h3];dsimp only;have M':=aiF (w:=w) (g:=decide (t.st=.bM)&&s.next.1) (t:=t) M;have G':=aiH (w:=w) (g:=decide (t.st=.bM)&&s.next.1) (t:=t) G;obtain⟨g1,g2⟩:=ad9 (g:=decide (t.st=.bM)&&s.next.1) hw M T hd;generalize t.step w c.S s.m (decide (t.st=.bM)&&s.next.1)=r at*;have hws:∀x',((s1.mem r.2).put w x').ws=upd s.ws w x':=λx'=>by show upd s1.ws w x'=_;rw[h2]
 by_cases hdn:r.1.st=.done
 .rw[if_pos hdn]
  rcases g1 hdn with⟨k1,k2,k3,k4⟩|⟨k1,k2⟩
  .rw[if_pos k1]
   split
   .refine mo rfl (hws _) M' G' trivial (lZ ?_)
    rw[hb,k2];refine dH ?_;show lE c+2*c.W+5+bP c+1<=uL c t;rw[k3];unfold bG;omega
   .refine mo rfl (hws _) M' G' ⟨rfl,by show 0<c.S;omega⟩ ?_
    rw[k2,hb,hr];refine pF ?_ ?_
    .have:=ai3 (c:=c) (s:=s) (x:=s.ws w)
     show _+1<=vz c s.m t;omega
    .show bG c<=uL c t
     omega
  .rw[if_neg k1]
   have L:fJ c s.m (gY c s.m (s.ws w)) r.2 3:=by rw[hb];exact k2
   split
   .exact nR rfl (hws _) M' G' L
   .exact nR rfl (hws _) M' G' L
 .rw[if_neg hdn]
  obtain⟨k1,k2⟩:=g2 hdn;refine gV rfl (hws _) M' G' ⟨k1,hdn⟩ ?_;rw[hb,hr];exact k2
theorem adP{g}(hw:w<=15)(hp:(s.ws w).ph=.work (.give g))(M:bQ c s.m)(G:fF c s.m)(T:yJ c w g)(hd:g.st≠.done):jr c s w (ak c w s (s.ws w) (.give g)):=by
 have hb:=wQ (c:=c) (m:=s.m) hp;have hr:=yV (c:=c) (m:=s.m) hp;have M':=ajA (w:=w) (g:=g) M;have G':=ajB (w:=w) (g:=g) G;obtain⟨g1,g2⟩:=afs hw M T hd;unfold ak;dsimp only;generalize g.step c w s.m=r at*;by_cases hdn:r.1.st=.done
 .rw[if_pos hdn]
  refine nR rfl rfl M' G' ?_;rw[hb];exact g1 hdn
 .rw[if_neg hdn]
  obtain⟨k1,k2⟩:=g2 hdn;refine gV rfl rfl M' G' ⟨k1,hdn⟩ ?_;rw[hb,hr];exact k2
theorem adM{g}(hp:(s.ws w).ph=.work (.bg g))(M:bQ c s.m)(G:fF c s.m)(T:Bc c w g)(hd:g.st≠.done):jr c s w (ak c w s (s.ws w) (.bg g)):=by
 have hb:=wQ (c:=c) (m:=s.m) hp;have hr:=yV (c:=c) (m:=s.m) hp;have M':=aiV M T;have G':=aiW (w:=w) (g:=g) G;obtain⟨g1,g2⟩:=aeq T hd;unfold ak;dsimp only;generalize g.step c w s.m=r at*;by_cases hdn:r.1.st=.done
 .rw[if_pos hdn]
  refine nR rfl rfl M' G' ?_;rw[hb];exact g1 hdn
 .rw[if_neg hdn]
  obtain⟨k1,k2⟩:=g2 hdn;refine gV rfl rfl M' G' ⟨k1,hdn⟩ ?_;rw[hb,hr];exact k2
theorem afc{m}{v}{b b'}(h:b'+1<=b):fJ c m b {m with cl:=v} b':=by
 unfold fJ zA wt;simp;omega
theorem Z0(hp:(s.ws w).ph=.work (.close none))(M:bQ c s.m)(G:fF c s.m):jr c s w (ak c w s (s.ws w) (.close none)):=by
 have hb:=wQ (c:=c) (m:=s.m) hp;unfold ak;dsimp only;have key:∀v,fJ c s.m 5 {s.m with cl:=v} 4:=λv=>afc (aq _);split
 .refine gV rfl rfl M G trivial (lZ ?_)
  rw[hb];exact key 2
 .split
  .refine gV rfl rfl M G trivial (lZ ?_)
   rw[hb];exact key 1
  .refine gV rfl rfl M G trivial (lZ ?_)
   rw[hb];exact dH (aq _)
theorem ZZ{q}(hw:w<c.W)(hp:(s.ws w).ph=.work (.close (some q)))(M:bQ c s.m)(G:fF c s.m)(T:Du q):jr c s w (ak c w s (s.ws w) (.close (some q))):=by
 have hb:=wQ (c:=c) (m:=s.m) hp;have hr:=yV (c:=c) (m:=s.m) hp;have M':=U5 (q:=q) hw M;have G':=U7 (w:=w) (q:=q) G;obtain⟨g1,g2⟩:=aeF T;unfold ak;dsimp only;generalize q.step c w s.m=r at*;by_cases hdn:r.1.st=.done
 .rw[if_pos hdn]
  refine nR rfl rfl M' G' ?_;rw[hb];exact g1 hdn
 .rw[if_neg hdn]
  obtain⟨k1,k2⟩:=g2 hdn;refine gV rfl rfl M' G' k1 ?_;rw[hb,hr];exact k2
theorem ZY{t}(hp:(s.ws w).ph=.work (.stats t))(M:bQ c s.m)(G:fF c s.m)(T:Bb c t):jr c s w (ak c w s (s.ws w) (.stats t)):=by
 have hb:=wQ (c:=c) (m:=s.m) hp;have hr:=yV (c:=c) (m:=s.m) hp;obtain⟨g1,g2⟩:=SI T;unfold ak;dsimp only;generalize t.step c.S s.m=r at*;by_cases hdn:r.dn=true
 .rw[if_pos hdn]
  refine nR rfl rfl M G ?_;rw[hb];exact dH (aq _)
 .rw[if_neg hdn]
  obtain⟨k1,k2⟩:=g2 (by simpa using hdn);refine gV rfl rfl M G k1 ?_;rw[hb,hr];exact pF k2 (aq _)
theorem adO{r}(hp:(s.ws w).ph=.work (.aS r))(M:bQ c s.m)(G:fF c s.m)(T:Q5 c r):jr c s w (ak c w s (s.ws w) (.aS r)):=by
 have hb:=wQ (c:=c) (m:=s.m) hp;have hr:=yV (c:=c) (m:=s.m) hp;obtain⟨st,look,many,rt⟩:=r;cases st with
 |look=>
  obtain⟨hf,hk⟩:=T;have hf:look.fd=none:=hf;have hk:look.kd=6:=hk;have h:ak c w s (s.ws w) (.aS ⟨.look,look,many,rt⟩)=if(look.step c.S s.m).fd.isSome then s.put w ((s.ws w).to (.work (.aS ⟨.ask,look.step c.S s.m,many,rt⟩)))else if(look.step c.S s.m).all c.S then s.put w ((s.ws w).end_ ⟨0,many,0,0,0,0,0,0⟩)else s.put w ((s.ws w).to (.work (.aS ⟨.look,look.step c.S s.m,many,rt⟩))):=rfl
  rw[h];rcases nU (S:=c.S) (m:=s.m) hf with⟨h1,h2,h3⟩|⟨h1,h2,h3,h4⟩|⟨h1,h2,h3,h4,h5⟩
  .rw[h3,if_pos (by rfl)]
   rw[hk]at h2;refine gV rfl rfl M G ⟨rfl,hk,h1,M.1 _ h1,h2⟩ ?_;rw[hb,hr];exact pF (aq _) (aq _)
  .rw[h1,if_neg (by decide),if_pos h2]
   refine nR rfl rfl M G ?_;rw[hb];refine dH ?_;show 3+1<=c.S-look.at_+4+0;omega
  .rw[h1,if_neg (by decide),if_neg h2,h4]
   refine gV rfl rfl M G ⟨hf,hk⟩ ?_;rw[hb,hr];refine lZ (dH ?_);show c.S-(look.at_+1)+4+0+1<=c.S-look.at_+4+0;omega
 |ask=>
  obtain⟨h1,h2,h3,h4,h5⟩:=T;have h:ak c w s (s.ws w) (.aS ⟨.ask,look,many,rt⟩)=if s.next.1=true/\look.wd.fO=false/\look.wd.brk=false then({s with wo:=s.next.2}:Ms).put w ((s.ws w).to (.work (.aS ⟨.mark,look,many,rt⟩)))else({s with wo:=s.next.2}:Ms).put w ((s.ws w).to (.work (.aS ⟨.dB,look,many,Rt.new look.at_ look.wd⟩))):=rfl
  rw[h];split
  .refine gV rfl rfl M G ⟨h1,h2,h3⟩ ?_
   rw[hb,hr];exact pF (show 0+1<=2 by omega) (aq _)
  .refine gV rfl rfl M G ⟨h1,h2,h3,NB h3 h4 (.inl h5)⟩ ?_
   rw[hb,hr];refine pF ?_ (aq _);show(if s.m.sl look.at_=look.wd then 0 else 1)+1<=2;split<;>omega
 |mark=>
  obtain⟨h1,h2,h3⟩:=T;have h1:look.fd.isSome=true:=h1;have h3:look.at_<c.S:=h3;have hg:look.go={look with fd:=none,at_:=look.at_+1}:=by unfold Fd.go;rw[if_pos h1]
  have h:ak c w s (s.ws w) (.aS ⟨.mark,look,many,rt⟩)=match az look.wd 10 w 0 with
   |some n=>if s.m.sl look.at_=look.wd then(s.mem (s.m.set look.at_ n)).put w ((s.ws w).to (.work (.aS ⟨.look,look.go,many,rt⟩)))else s.put w ((s.ws w).to (.work (.aS ⟨.look,look.go,many,rt⟩)))
   |none=>s.put w ((s.ws w).to (.work (.aS ⟨.look,look.go,many,rt⟩))):=rfl
  rw[h,hg];have still:jr c s w (s.put w ((s.ws w).to (.work (.aS ⟨.look,{look with fd:=none,at_:=look.at_+1},many,rt⟩)))):=by
   refine gV rfl rfl M G ⟨rfl,h2⟩ ?_;rw[hb,hr];refine lZ (dH ?_);show c.S-(look.at_+1)+4+0+1<=c.S-look.at_+4+0;omega
  cases hn:az look.wd 10 w 0 with
  |none=>exact still
  |some n=>
   dsimp only;by_cases hm:s.m.sl look.at_=look.wd
   .rw[if_pos hm]
    refine gV rfl rfl (nN M hn) G ⟨rfl,h2⟩ ?_;rw[hb,hr];refine lZ (gG h3 hm ?_);have k:=(eT hn).2.2.2.2.2.2.2.2.2.2.1 rfl;rw[kJ (s:=n) (by omega),kJ (s:=look.wd) (by omega)];show c.S-(look.at_+1)+4+0+cI c+1<=c.S-look.at_+4+0+cI c;omega
   .rw[if_neg hm];exact still
 |dB=>
  obtain⟨h1,h2,h3,h4⟩:=T;have h1:look.fd.isSome=true:=h1;have h3:look.at_<c.S:=h3;have h4:pY c rt:=h4;have hg:look.go={look with fd:=none,at_:=look.at_+1}:=by unfold Fd.go;rw[if_pos h1]
  have h:ak c w s (s.ws w) (.aS ⟨.dB,look,many,rt⟩)=if(rt.step s.m).1.st=.done then(s.mem (rt.step s.m).2).put w ((s.ws w).to (.work (.aS ⟨.look,look.go,if(rt.step s.m).1.sw then aR (many+1)else many,(rt.step s.m).1⟩)))else(s.mem (rt.step s.m).2).put w ((s.ws w).to (.work (.aS ⟨.dB,look,many,(rt.step s.m).1⟩))):=rfl
  obtain⟨g1,g2,g3⟩:=vO (m:=s.m) h4;have M':=DJ (r:=rt) M;have G':=DK (r:=rt) G;rw[h,hg];by_cases hd:(rt.step s.m).1.st=.done
  .rw[if_pos hd]
   have hb0:gT c (rt.step s.m).1=0:=by unfold gT;rw[hd]
   refine gV rfl rfl M' G' ⟨rfl,h2⟩ ?_;rw[hb,hr];refine lZ ?_;show fJ c s.m (c.S-look.at_+4+gT c rt) (rt.step s.m).2 (c.S-(look.at_+1)+4+0);rcases g3 with⟨-,k, -⟩|⟨k1,k2,k3,k4,k5⟩|k
   .exact absurd hd k
   .rw[k1]
    refine dH ?_;omega
   .have:=k (c.S-look.at_+4) (c.S-(look.at_+1)+4) (by omega)
    rw[hb0]at this;exact this
  .rw[if_neg hd]
   refine gV rfl rfl M' G' ⟨h1,h2,h3,(g2 hd).1⟩ ?_;rw[hb,hr];rcases g3 with⟨k1,k2,k3,k4,k5⟩|⟨k1,k2,k3,k4,k5⟩|k
   .rw[k1]
    refine pF k3 ?_;show c.S-look.at_+4+gT c (rt.step s.m).1<=c.S-look.at_+4+gT c rt;omega
   .exact absurd k2 hd
   .exact lZ (k (c.S-look.at_+4) (c.S-look.at_+4) (by omega))
theorem adN{k}(hw:w<c.W)(hW:c.W<=15)(hS:1<=c.S)(hp:(s.ws w).ph=.work k)(M:bQ c s.m)(G:fF c s.m)(T:Ba c w k):jr c s w (ak c w s (s.ws w) k):=by
 cases k with
 |get t=>exact afU (by omega) hS hp M G T.1 T.2
 |give g=>exact adP (by omega) hp M G T.1 T.2
 |bg g=>exact adM hp M G T.1 T.2
 |close d=>
  cases d with
  |none=>exact Z0 hp M G
  |some q=>exact ZZ hw hp M G T
 |stats t=>exact ZY hp M G T
 |aS r=>exact adO hp M G T
theorem aaB{x:Wr}(hS:1<=c.S)(h:x.grant<=c.S):Ba c w (bE x):=by
 unfold bE;split
 .split
  .exact⟨by show(x.grant-1).toNat<c.S;omega,gm.noConfusion⟩
  .exact⟨trivial,gm.noConfusion⟩
 .exact⟨trivial,pg.noConfusion⟩
 .exact⟨trivial,pg.noConfusion⟩
 .exact⟨trivial,wV.noConfusion⟩
 .exact⟨trivial,wV.noConfusion⟩
 .exact⟨rfl,rfl⟩
 .trivial
 .exact⟨rfl,hS⟩
theorem aek{x}(h:0<x.grant):JC c (bE x)+2<=bP c:=by
 unfold bE bP;split
 .rw[if_pos h]
  show cI c+6+2<=cI c+c.S+8;omega
 .show 4+2<=cI c+c.S+8
  omega
 .show 4+2<=cI c+c.S+8
  omega
 .show 4+2<=cI c+c.S+8
  omega
 .show 4+2<=cI c+c.S+8
  omega
 .show c.S-0+4+0+2<=cI c+c.S+8
  grind
 .show 5+2<=cI c+c.S+8
  omega
 .show 4+2<=cI c+c.S+8
  omega
theorem ail{h}(hS:1<=c.S)(hp:(s.ws w).ph=.pin h)(M:bQ c s.m)(G:fF c s.m)(X:(s.ws w).grant<=c.S):jr c s w (ai c s w):=by
 have hb:gY c s.m (s.ws w)=1+JC c (bE (s.ws w)):=by unfold gY;rw[hp]
 cases h with
 |none=>
  have h:ai c s w=s.put w ((s.ws w).to (.pin (some s.m.ep))):=by grind [ai]
  have hr:kR c s.m (s.ws w)=1:=by unfold kR;rw[hp]
  rw[h];refine mo rfl rfl M G X ?_;rw[hb,hr];exact pF (aq _) (aq _)
 |some e=>
  have h:ai c s w=(s.mem (s.m.pin w (aR (e+1)))).put w ((s.ws w).to (.work (bE (s.ws w)))):=by grind [ai]
  rw[h];refine gV rfl rfl M G (aaB hS X) (lZ ?_);refine FU ?_;omega
theorem afq:(∃y∈pre s.m c.S,fits 3 w y)↔Has c s.m:=by
 constructor
 .rintro⟨y,hy,hf⟩
  obtain⟨j,hj,rfl⟩:=kx.1 hy;exact⟨j,eA.1 hj,hf⟩
 .rintro⟨j,hj,hf⟩
  exact⟨s.m.sl j,kx.2 ⟨j,eA.2 hj,rfl⟩,hf⟩
theorem aae{t}(hp:(s.ws w).ph=.counts t)(M:bQ c s.m)(G:fF c s.m)(T:Bb c t):jr c s w (ai c s w):=by
 have hb:gY c s.m (s.ws w)=bG c:=by unfold gY;rw[hp]
 have hr:kR c s.m (s.ws w)=if Cl s.m t then um c s.m t+1+(if Has c s.m then T0 c+1 else 0)else um c s.m t+2+T0 c+K0 c:=by unfold kR;rw[hp]
 have h:ai c s w=if(t.step c.S s.m).dn then(if∃y∈(t.step c.S s.m).last.getD [],fits 3 w y then s.put w ((s.ws w).to (.work (.get Tk.new)))else s.put w ((s.ws w).end_ (.err 3)))else s.put w ((s.ws w).to (.counts (t.step c.S s.m))):=by grind [ai]
 obtain⟨g1,g2⟩:=SI T;rw[h];generalize t.step c.S s.m=r at*;by_cases hdn:r.dn=true
 .rw[if_pos hdn]
  by_cases hy:∃y∈r.last.getD [],fits 3 w y
  .rw[if_pos hy]
   refine gV rfl rfl M G ⟨trivial,gm.noConfusion⟩ ?_;rw[hb,hr];refine pF ?_ (aq _);show(T0 c+if Has c s.m then 0 else K0 c)+1<=_;by_cases hc:Cl s.m t
   .have k:=(g1 hc).2 hdn
    rw[k]at hy;have hh:=afq.1 hy;rw[if_pos hc,if_pos hh,if_pos hh];omega
   .rw[if_neg hc]
    have:(if Has c s.m then 0 else K0 c)<=K0 c:=by split<;>omega
    omega
  .rw[if_neg hy]
   refine nR rfl rfl M G ?_;rw[hb];refine dH ?_;unfold bG;omega
 .rw[if_neg hdn]
  obtain⟨k1,k2⟩:=g2 (by simpa using hdn);refine mo rfl rfl M G k1 ?_;rw[hb,hr];refine pF ?_ (aq _);show(if Cl s.m r then um c s.m r+1+(if Has c s.m then T0 c+1 else 0)else um c s.m r+2+T0 c+K0 c)+1<=_;by_cases hc:Cl s.m t
  .rw[if_pos hc,if_pos (g1 hc).1]
   omega
  .have:(if Has c s.m then T0 c+1 else 0)<=T0 c+1:=by split<;>omega
   split<;>omega
theorem aad{q}(hw:w<c.W)(hp:(s.ws w).ph=.enters q)(M:bQ c s.m)(G:fF c s.m)(T:Dt w q):jr c s w (ai c s w):=by
 have hb:gY c s.m (s.ws w)=Um c q:=by unfold gY;rw[hp]
 have hr:kR c s.m (s.ws w)=qK s.m q:=by unfold kR;rw[hp]
 have h:ai c s w=if(q.step c w s.m).1.st=.done then(if(q.step c w s.m).1.e=0\/(q.step c w s.m).1.e=8 then(s.mem (q.step c w s.m).2).put w ((s.ws w).to (.ax Td.new (some (decide ((q.step c w s.m).1.e=0))) (.err 0)))else(s.mem (q.step c w s.m).2).put w ((s.ws w).end_ (.err (q.step c w s.m).1.e)))else(s.mem (q.step c w s.m).2).put w ((s.ws w).to (.enters (q.step c w s.m).1)):=by grind [ai]
 have M':=U5 (q:=q) hw M;have G':=U7 (w:=w) (q:=q) G;obtain⟨g1,g2⟩:=aeE T;rw[h];generalize q.step c w s.m=r at*;by_cases hdn:r.1.st=.done
 .rw[if_pos hdn]
  have L:=g1 hdn;split
  .refine mo rfl rfl M' G' ⟨trivial,mO.noConfusion⟩ (lZ ?_)
   rw[hb];exact L
  .refine nR rfl rfl M' G' ?_
   rw[hb];have L':fJ c s.m (Um c q) r.2 3:=by unfold fJ at L ⊢;omega
   exact L'
 .rw[if_neg hdn]
  obtain⟨k1,k2⟩:=g2 hdn;refine mo rfl rfl M' G' k1 ?_;rw[hb,hr];exact k2
theorem aeL{m m'}{r r' b b' k}(h:Out m m' r r' b b' c):Out m m' r r' (b+k) (b'+k) c:=by
 rcases h with⟨h1,h2,h3⟩|h
 .exact .inl ⟨h1,h2,by omega⟩
 .refine .inr ?_
  grind [fJ]
theorem SY{t}(h:(t.step c w s.m).1.st=.done)(hd:t.st≠.done):(t.step c w s.m).2=s.m/\1<=rT c s.m t:=by
 obtain⟨st,ep,cl,qu,look,i,wd,other,head,rt⟩:=t;cases st with
 |ep=>cases h
 |pin=>cases h
 |cl=>cases h
 |dL=>grind [Td.step,Td.fu]
 |go=>grind [Td.step]
 |old=>grind [Td.step,Td.fu]
 |pins=>exact absurd h (by unfold Td.step;dsimp only;split;exact mO.noConfusion;split<;>exact mO.noConfusion)
 |clear=>cases h
 |line=>exact absurd h (by unfold Td.step;dsimp only;split<;>exact mO.noConfusion)
 |some=>exact absurd h (by unfold Td.step;dsimp only;split;exact mO.noConfusion;split;exact mO.noConfusion;unfold Td.fu;dsimp only;split<;>exact mO.noConfusion)
 |keep=>exact absurd h (by unfold Td.step;dsimp only;split<;>exact mO.noConfusion)
 |pop=>exact absurd h (by unfold Td.step;dsimp only;split<;>exact mO.noConfusion)
 |grant=>cases h
 |back=>exact absurd h (by unfold Td.step;dsimp only;split<;>exact mO.noConfusion)
 |dR=>exact absurd h (by unfold Td.step;dsimp only;split<;>exact mO.noConfusion)
 |eO=>cases h
 |again=>exact⟨rfl,by show 1<=1+_;omega⟩
 |done=>exact absurd rfl hd
theorem aac{t}{p}{a}(hw:w<c.W)(hW:c.W<=15)(hp:(s.ws w).ph=.ax t p a)(M:bQ c s.m)(G:fF c s.m)(T:pX c t)(hd:t.st≠.done):jr c s w (ai c s w):=by
 have hb:gY c s.m (s.ws w)=rT c s.m t+pB c p:=by unfold gY;rw[hp]
 have hr:kR c s.m (s.ws w)=xw c s.m t:=by unfold kR;rw[hp]
 have M':=aiJ (w:=w) (t:=t) M;have G':=aiL (w:=w) G T;obtain⟨g1,g2⟩:=aeb (w:=w) (by omega) hW M T hd;by_cases hdn:(t.step c w s.m).1.st=.done
 .obtain⟨k1,k2⟩:=SY hdn hd
  cases p with
  |some b=>
   have h:ai c s w=if(t.step c w s.m).1.st=.done then(s.mem (t.step c w s.m).2).put w ((s.ws w).to (.parked b))else(s.mem (t.step c w s.m).2).put w ((s.ws w).to (.ax (t.step c w s.m).1 (some b) a)):=by unfold ai;dsimp only;rw[hp]
   rw[h,if_pos hdn];refine mo rfl rfl M' G' trivial (lZ ?_);rw[hb,k1];refine dH ?_;show bP c+1<=rT c s.m t+bP c;omega
  |none=>
   have h:ai c s w=if(t.step c w s.m).1.st=.done then{(s.mem (t.step c w s.m).2).put w ((s.ws w).to .rest)with ev:=⟨true,w,(s.ws w).ask,a⟩::s.ev}else(s.mem (t.step c w s.m).2).put w ((s.ws w).to (.ax (t.step c w s.m).1 none a)):=by unfold ai;dsimp only;rw[hp];rfl
   rw[h,if_pos hdn];refine mo rfl rfl M' G' trivial (lZ ?_);rw[hb,k1];refine dH ?_;show 0+1<=rT c s.m t+0;omega
 .have h:ai c s w=(s.mem (t.step c w s.m).2).put w ((s.ws w).to (.ax (t.step c w s.m).1 p a)):=by
   unfold ai;dsimp only;rw[hp];cases p<;>(dsimp only;rw[if_neg hdn])
  rw[h];refine mo rfl rfl M' G' ⟨g1,hdn⟩ ?_;rw[hb,hr];exact aeL g2
theorem ad7{h}(hp:(s.ws w).ph=.wakes h)(M:bQ c s.m)(G:fF c s.m)(X:∃g,h=some g/\g≠0/\g<=c.S):jr c s w (ai c s w):=by
 obtain⟨g,rfl,h1,h2⟩:=X;have hb:gY c s.m (s.ws w)=bP c:=by unfold gY;rw[hp]
 have h:ai c s w=if g<0 then(s.mem (s.m.nT w 0)).put w ((s.ws w).end_ (.err 5))else(s.mem (s.m.nT w 0)).put w {s.ws w with grant:=g,ph:=.pin none}:=by unfold ai;dsimp only;rw[hp];rfl
 have G':fF c (s.m.nT w 0):=Qe G (by omega);rw[h];by_cases hg:g<0
 .rw[if_pos hg]
  refine nR rfl rfl M G' ?_;rw[hb];refine Aq ?_;unfold bP;omega
 .rw[if_neg hg]
  refine mo rfl rfl M G' h2 (lZ ?_);rw[hb];refine Aq ?_;show 1+JC c (bE {s.ws w with grant:=g,ph:=.pin none})+1<=bP c;have:=aek (c:=c) (x:={s.ws w with grant:=g,ph:=.pin none}) (by show 0<g;omega);omega
theorem PR{q}{R}(hw:w<c.W)(M:bQ c s.m)(G:fF c s.m)(T:Dr w q)(hb:gY c s.m (s.ws w)=bP c)(hr:kR c s.m (s.ws w)=R)
  (h1:q.st=.look->3<=R) (h2:q.st≠.look->R=qK s.m q+2):jr c s w (aV c w s (s.ws w) q):=by
 have M':=U5 (q:=q) hw M;have G':=U7 (w:=w) (q:=q) G;obtain⟨g1,g2⟩:=Kt T;unfold aV;generalize q.step c w s.m=r at*;by_cases hdn:r.1.st=.done
 .rw[if_pos hdn]
  rcases g1 hdn with⟨k1,k2,k3⟩|⟨k1,k2⟩
  .rw[if_pos k1]
   refine mo rfl rfl M' G' trivial ?_;rw[hb,hr,k2];refine pF ?_ (aq _);have:=h1 k3;show 1+1<=R;omega
  .rw[if_neg (by omega)]
   refine nR rfl rfl M' G' ?_;rw[hb];exact k2
 .rw[if_neg hdn]
  obtain⟨k1,k2,k3,k4⟩:=g2 hdn;refine mo rfl rfl M' G' k1 ?_;rw[hb,hr,k2];refine pF ?_ (aq _);show qK s.m r.1+2+1<=R;by_cases hl:q.st=.look;all_goals grind
theorem BD(hw:w<c.W)(hW:c.W<=15)(hS:1<=c.S)(M:bQ c s.m)(G:fF c s.m)(X:jO c w (s.ws w))(hc:aQ s w):jr c s w (ai c s w):=by
 unfold jO at X;unfold aQ at hc;cases hp:(s.ws w).ph with
 |rest=>grind
 |pin h=>grind [ail]
 |work k=>
  grind [ai,adN]
 |counts t=>grind [aae]
 |enters q=>grind [aad]
 |ax t p a=>grind [aac]
 |parked b=>
  rw[hp]at hc;have hb:gY c s.m (s.ws w)=bP c:=by unfold gY;rw[hp]
  have hr:kR c s.m (s.ws w)=if b=true then 3 else 1:=by unfold kR;rw[hp]
  have h:ai c s w=if s.m.gr w≠0 then dh w s (s.ws w) none else aV c w s (s.ws w) Qu.leave:=by unfold ai;dsimp only;rw[hp]
  rw[h];by_cases hg:s.m.gr w≠0
  .rw[if_pos hg]
   refine mo rfl rfl M G ⟨_,rfl,hg,G w⟩ ?_;rw[hb,hr];refine pF ?_ (aq _);show 0+1<=if b=true then 3 else 1
   split<;>omega
  .rw[if_neg hg]
   have hb':b=true:=by
    rcases hc with hc|hc
    .exact absurd hc hg
    .exact hc.1
   subst hb';exact PR hw M G ⟨.inl rfl,rfl⟩ hb hr (λ_=>aq _) (λk=>absurd rfl k)
 |wakes h=>rw[hp]at X;exact ad7 hp M G X
 |leaves q=>
  rw[hp]at X;have hb:gY c s.m (s.ws w)=bP c:=by unfold gY;rw[hp]
  have hr:kR c s.m (s.ws w)=qK s.m q+2:=by unfold kR;rw[hp]
  have h:ai c s w=aV c w s (s.ws w) q:=by unfold ai;dsimp only;rw[hp]
  rw[h];refine PR hw M G X hb hr (λk=> ?_) (λ_=>rfl);have:qK s.m q=1:=by unfold qK;rw[k]
  omega
end
noncomputable section
open Classical
def Rx(c:Cn):Nat:=c.S*(c.W+4)+12*c.S+40
theorem agu(m)(r):LH m r<=2:=by
 grind [LH]
theorem agr(m)(r):xx m r<=2:=by
 grind [xx]
theorem aiK(c)(m)(t):xw c m t<=Rx c:=by
 have e:wR c 0=c.S+(c.S*(c.W+4)+(c.S+3)+1)+1:=by grind [wR,oR,lR]
 have h1:∀a,(c.S-a)*(c.W+4)<=c.S*(c.W+4):=λa=>ai8;have h2:∀a,wR c a<=wR c 0:=λa=>by unfold wR;omega
 have h4:=h1 t.look.at_;grind [xw,Rx,oR,lR]
theorem ahb(c):T0 c+K0 c=8*c.S+14:=by unfold K0 T0;omega
theorem aiG(c)(m)(t):vz c m t<=Rx c:=by
 grind [Ch,T0,Ci,xy,vz,Rx,ahb]
theorem acT(c)(m)(t):um c m t<=3*c.S+1:=by
 grind [um]
theorem U6(m)(q):qK m q<=2:=by
 grind [qK]
theorem aij(c)(m)(k):Yc c m k<=Rx c:=by
 unfold Yc;split
 .exact aiG _ _ _
 .rename_i g
  have:=agu m g.rt;unfold LG Rx;split
  .omega
  .omega
  .split<;>omega
  .omega
  .omega
 .unfold Tj Rx
  split
  .omega
  .omega
  .split<;>omega
  .omega
 .omega
 .have:=U6 m ‹Qu›;unfold Rx;omega
 .have:=acT c m ‹Tw›;unfold Rx;omega
 grind [rRp,Rx,agr]
theorem acN(c)(m)(x):kR c m x<=Rx c:=by
 unfold kR;split
 .omega
 .unfold Rx;omega
 .omega
 .exact aij _ _ _
 .rename_i t _
  have:=acT c m t;have k:=ahb c;unfold Rx;split
  .split<;>omega
  .omega
 .have:=U6 m ‹Qu›;unfold Rx;omega
 .exact aiK _ _ _
 .unfold Rx;split<;>omega
 .omega
 grind [Rx,U6]
def JL(c:Cn)(s:Ms):Nat:=j4 (λi=>gY c s.m (s.ws i)) c.W+wt c s.m
def MP(c:Cn)(s:Ms):Nat:=j4 (λi=>kR c s.m (s.ws i)) c.W
def yj(c:Cn)(s:Ms):Nat:=(c.W*Rx c+1)*JL c s+MP c s
structure Inv(c:Cn)(s:Ms):Prop where
 m:bQ c s.m
 g:fF c s.m
 w:∀i,i<c.W->jO c i (s.ws i)
theorem yO{f}{k}:∀n,(∀i,i<n->f i<=k)->j4 f n<=n*k
 |0,_=>by unfold j4;omega
 |n+1,h=>by
  have:=yO n λi hi=>h i (by omega);grind [j4]
theorem yN{f g}{k d}:∀n,k<n->(∀i,i<n->i≠k->f i<=g i+d)->j4 f n+g k+d<=j4 g n+f k+n*d
 |0,h,_=>by omega
 |n+1,h,hf=>by
  unfold j4;rw[kj,Nat.one_mul];by_cases e:k=n
  .subst e
   have:j4 f k<=j4 g k+k*d:=by
    have:∀j,j<=k->j4 f j<=j4 g j+j*d:=by
     intro j;induction j with
     |zero=>grind [j4]
     |succ j ih=>
      intro hj;have:=hf j (by omega) (by omega);unfold j4;rw[kj,Nat.one_mul];omega
    grind
   omega
  .have:=yN n (by omega) fun i hi hk=>hf i (by omega) hk
   have:=hf n (by omega) (λh=>e h.symm);omega
theorem ak6(c)(m m')(t):rT c m' t<=rT c m t+(if m'.ep=m.ep then 0 else 2)+(if m'.qu=m.qu then 0 else 2):=by
 have a:(match t.st with| .ep| .done=>0|_=>if m'.ep=t.ep then 0 else 2)<=(match t.st with| .ep| .done=>0|_=>if m.ep=t.ep then 0 else 2)+(if m'.ep=m.ep then 0 else 2):=by
  have:(if m'.ep=t.ep then 0 else 2)<=(if m.ep=t.ep then 0 else 2)+(if m'.ep=m.ep then 0 else 2):=by
   by_cases h:m'.ep=m.ep
   .rw[if_pos h,h];exact aq _
   .split<;>split<;>omega
  split
  .omega
  .omega
  .exact this
 have q:∀u v:Nat,u<=v->v<=u+2->(if m'.qu=t.qu then u else v)<=(if m.qu=t.qu then u else v)+(if m'.qu=m.qu then 0 else 2):=by
  intro u v h1 h2;by_cases h:m'.qu=m.qu
  .rw[if_pos h,h];exact aq _
  .split<;>split<;>omega
 have q1:=q 2 4 (by omega) (by omega);have q2:=q 1 3 (by omega) (by omega);unfold rT;obtain⟨st,ep,cl,qu,look,i,wd,other,head,rt⟩:=t;dsimp only at a q1 q2 ⊢;cases st<;>dsimp only at a ⊢ <;>omega
theorem akT(c)(m m')(x):gY c m' x<=gY c m x+((if m'.ep=m.ep then 0 else 2)+(if m'.qu=m.qu then 0 else 2)):=by
 cases hp:x.ph with
 |ax t p a=>
  have h:∀m,gY c m x=rT c m t+pB c p:=λm=>by unfold gY;rw[hp]
  rw[h,h];have:=ak6 c m m' t;omega
 |_=>
  grind [gY]
variable{c:Cn} {w:Nat} {s:Ms}
theorem aa5(hw:w<c.W)(hW:c.W<=15)(hS:1<=c.S)(I:Inv c s)(hc:aQ s w):Inv c (ai c s w)/\yj c (ai c s w)+1<=yj c s:=by
 obtain⟨g1,g2,g3,g4,g5⟩:=BD hw hW hS I.m I.g (I.w w hw) hc;generalize ai c s w=s' at*;refine⟨⟨g1,g2,λi hi=> ?_⟩,?_⟩
 .by_cases e:i=w
  .subst e;exact g3
  .rw[g4 i e];exact I.w i hi
 .unfold yj
  rcases g5 with⟨k1,k2,k3⟩|k
  .have b:JL c s'<=JL c s:=by
    unfold JL;have:=yN (f:=λi=>gY c s'.m (s'.ws i)) (g:=λi=>gY c s.m (s.ws i)) (d:=0) c.W hw λi hi hk=>by
     rw[g4 i hk,k1];exact aq _
    rw[k1]at this k3 ⊢;omega
   have r:MP c s'+1<=MP c s:=by
    unfold MP;have:=yN (f:=λi=>kR c s'.m (s'.ws i)) (g:=λi=>kR c s.m (s.ws i)) (d:=0) c.W hw λi hi hk=>by
     rw[g4 i hk,k1];exact aq _
    rw[k1]at this ⊢;omega
   have:=j7 (c.W*Rx c+1) b;omega
  .have b:JL c s'+1<=JL c s:=by
    unfold JL;have h:=yN (f:=λi=>gY c s'.m (s'.ws i)) (g:=λi=>gY c s.m (s.ws i)) c.W hw λi hi hk=>by
     rw[g4 i hk];exact akT _ _ _ _
    have e:zA c s.m s'.m=c.W*((if s'.m.ep=s.m.ep then 0 else 2)+(if s'.m.qu=s.m.qu then 0 else 2)):=by
     unfold zA;split<;>split<;>omega
    unfold fJ at k;omega
   have r:MP c s'<=c.W*Rx c:=by
    exact yO _ λi hi=>acN _ _ _
   have:=j7 (c.W*Rx c+1) b;rw[tj,lr]at this;omega
end
noncomputable section
open Classical
def ng(t:Tk):Prop:=t.st=.closed\/t.st=.own\/t.st=.gp\/t.st=.any\/t.st=.anyS\/t.st=.free\/t.st=.dQ
def rp(x:Wr):Nat:=
 match x.ph with
 | .rest=>0
 | .pin _=>if x.ask.op=0/\x.grant<=0 then 3 else 1
 | .work (.get t)=>if ng t then 3 else 1
 | .work _=>1
 | .counts _=>3
 | .enters _=>3
 | .ax _ none _=>1
 | .ax _ (some b) _=>if b=true then 3 else 2
 | .parked b=>if b=true then 2 else 1
 | .wakes _=>1
 | .leaves _=>2
def still(x:Wr):Prop:=match x.ph with| .rest=>True| .parked _=>True|_=>False
variable{c:Cn} {w:Nat} {s:Ms} {m:Mm} {g:Bool}
theorem ad'{t}(h:¬ng t)(hd:t.st≠.done):¬ng (t.step w c.S m g).1/\(t.step w c.S m g).1.e≠3\/¬ng (t.step w c.S m g).1/\(t.step w c.S m g).1.st≠.done:=by
 obtain⟨st,look,i,wd,gen,ps,rt,e⟩:=t;have no:∀{t:Tk},t.st=.move\/t.st=.dD\/t.st=.check\/t.st=.back\/t.st=.go\/t.st=.bM\/t.st=.grant\/t.st=.eG\/t.st=.done->¬ng t:=by
  grind [ng]
 cases st with
 |closed=>grind [ng]
 |own=>exact absurd (by unfold ng;simp) h
 |gp=>exact absurd (by unfold ng;simp) h
 |any=>exact absurd (by unfold ng;simp) h
 |anyS=>exact absurd (by unfold ng;simp) h
 |free=>exact absurd (by unfold ng;simp) h
 |dQ=>exact absurd (by unfold ng;simp) h
 |move=>
  refine .inr ?_;unfold Tk.step;dsimp only;split
  .split
   .exact⟨no (by simp),gm.noConfusion⟩
   .exact⟨no (by simp),gm.noConfusion⟩
  .split
   .exact⟨no (by simp),gm.noConfusion⟩
   .exact⟨no (by simp),gm.noConfusion⟩
 |dD=>
  refine .inr ?_;unfold Tk.step;dsimp only;split
  .split
   .exact⟨no (by simp),gm.noConfusion⟩
   .exact⟨no (by simp),gm.noConfusion⟩
  .exact⟨no (by simp),gm.noConfusion⟩
 |bM=>
  rcases lQ (w:=w) (m:=m) (t:=⟨.bM,look,i,wd,gen,ps,rt,e⟩) (i:=i) (wd:=wd) (d:=if g then 1 else 2)with h0|⟨n,hn,hm,h0⟩
  .refine .inl ?_
   unfold Tk.step;dsimp only;rw[h0];exact⟨no (by simp[Tk.fin]),by simp[Tk.fin]⟩
  .unfold Tk.step
   dsimp only;rw[h0];dsimp only;cases g with
   |true=>exact .inr ⟨no (by simp),by simp⟩
   |false=>exact .inl ⟨no (by simp[Tk.fin]),by simp[Tk.fin]⟩
 |check=>
  unfold Tk.step;dsimp only;split
  .exact .inl ⟨no (by simp[Tk.fin]),by simp[Tk.fin]⟩
  .exact .inr ⟨no (by simp),by simp⟩
 |back=>
  unfold Tk.step;dsimp only;split
  .exact .inr ⟨no (by simp),by simp⟩
  .exact .inl ⟨no (by simp[Tk.fin]),by simp[Tk.fin]⟩
 |go=>
  unfold Tk.step;dsimp only;split
  .split
   .exact .inl ⟨no (by simp[Tk.fin]),by simp[Tk.fin]⟩
   .exact .inr ⟨no (by simp),by simp⟩
  .exact .inr ⟨no (by simp),by simp⟩
 |grant=>exact .inr ⟨no (by simp[Tk.step]),by simp[Tk.step]⟩
 |eG=>
  unfold Tk.step;dsimp only;split
  .exact .inl ⟨no (by simp[Tk.fin]),by simp[Tk.fin]⟩
  .split
   .refine .inr ⟨no ?_,?_⟩
    .split<;>simp
    .split<;>simp
   .exact .inr ⟨no (by simp),by simp⟩
 |done=>exact absurd rfl hd
theorem bD(s:Ms)(x):(s.put w x).ws w=x:=by exact if_pos rfl
theorem Ca(x:Wr)(a):rp (x.end_ a)=1/\¬still (x.end_ a):=⟨rfl,λh=>h⟩
def Bd(s:Ms)(w:Nat)(s':Ms):Prop:=rp (s'.ws w)<=rp (s.ws w)/\(still (s'.ws w)->rp (s'.ws w)+1<=rp (s.ws w))
theorem ro{s s'}{x'}(h:s'.ws w=x')(hr:rp x'<=rp (s.ws w))(hs:¬still x'):Bd s w s':=by
 grind [Bd]
theorem UZ{s s'}{x'}(h:s'.ws w=x')(hr:rp x'+1<=rp (s.ws w)):Bd s w s':=by
 grind [Bd]
theorem uh(x:Wr)(t):rp (x.to (.work (.get t)))=if ng t then 3 else 1:=rfl
theorem aez{k}(hp:(s.ws w).ph=.work k)(T:Ba c w k):Bd s w (ak c w s (s.ws w) k):=by
 have one:∀k:Wk,1<=rp ((s.ws w).to (.work k)):=by
  intro k;cases k with
  |get t=>grind [uh]
  |_=>exact aq _
 have one':1<=rp (s.ws w):=by
  have:rp (s.ws w)=rp ((s.ws w).to (.work k)):=by
   unfold rp;rw[hp];rfl
  rw[this];exact one k
 have fin:∀(s':Ms) (a:bR),Bd s w (s'.put w ((s.ws w).end_ a)):=λs' a=>ro (bD _ _) one' (λh=>h);have bf:∀(s':Ms) (k:Wk),(∀t,k≠.get t)->Bd s w (s'.put w ((s.ws w).to (.work k))):=by
  intro s' k hk;refine ro (bD _ _) ?_ (λh=>h);cases k with
  |get t=>exact absurd rfl (hk t)
  |_=>exact one'
 cases k with
 |get t=>
  have hr:rp (s.ws w)=if ng t then 3 else 1:=by unfold rp;rw[hp]
  have h3:rp (s.ws w)<=3:=by rw[hr];split<;>omega
  unfold ak;dsimp only;generalize (if t.st=gm.bM then({s with wo:=s.next.2}:Ms)else s)=s1;by_cases hs:ng t
  .rw[if_pos hs]at hr
   split
   .split
    .split
     .exact ro (bD _ _) (by rw[hr];exact aq 3) (λh=>h)
     .exact ro (bD _ _) (by rw[hr];exact aq 3) (λh=>h)
    .split
     .exact fin _ _
     .exact fin _ _
   .refine ro (bD _ _) ?_ (fun h=>h)
    rw[hr,uh];split<;>omega
  .have k:=ad' (c:=c) (w:=w) (m:=s1.m) (g:=decide (t.st=.bM)&&s.next.1) hs T.2
   generalize t.step w c.S s1.m (decide (t.st=.bM)&&s.next.1)=r at*;rw[if_neg hs]at hr;have kn:¬ng r.1:=k.elim (·.1) (·.1)
   split
   .have ke:r.1.e≠3:=by
     rcases k with k|k
     .exact k.2
     .exact absurd ‹_› k.2
    rw[if_neg ke];split
    .exact fin _ _
    .exact fin _ _
   .refine ro (bD _ _) ?_ (fun h=>h)
    rw[hr,uh,if_neg kn];exact aq _
 |give g=>
  unfold ak;dsimp only;split
  .exact fin _ _
  .exact bf _ _ (λ_ h=>by cases h)
 |bg g=>
  unfold ak;dsimp only;split
  .exact fin _ _
  .exact bf _ _ (λ_ h=>by cases h)
 |close d=>
  cases d with
  |none=>
   unfold ak;dsimp only;exact bf _ _ (λ_ h=>by cases h)
  |some q=>
   unfold ak;dsimp only;split
   .exact fin _ _
   .exact bf _ _ (λ_ h=>by cases h)
 |stats t=>
  unfold ak;dsimp only;split
  .exact fin _ _
  .exact bf _ _ (λ_ h=>by cases h)
 |aS r=>
  unfold ak;dsimp only;split
  .split
   .exact bf _ _ (λ_ h=>by cases h)
   .split
    .exact fin _ _
    .exact bf _ _ (λ_ h=>by cases h)
  .split
   .exact bf _ _ (λ_ h=>by cases h)
   .exact bf _ _ (λ_ h=>by cases h)
  .split
   .split
    .exact bf _ _ (λ_ h=>by cases h)
    .exact bf _ _ (λ_ h=>by cases h)
   .exact bf _ _ (λ_ h=>by cases h)
  .split
   .exact bf _ _ (λ_ h=>by cases h)
   .exact bf _ _ (λ_ h=>by cases h)
theorem aeA(X:jO c w (s.ws w))(hc:aQ s w):Bd s w (ai c s w):=by
 unfold jO at X;unfold aQ at hc;cases hp:(s.ws w).ph with
 |rest=>grind
 |pin h=>
  have hr:rp (s.ws w)=if(s.ws w).ask.op=0/\(s.ws w).grant<=0 then 3 else 1:=by unfold rp;rw[hp]
  cases h with
  |none=>
   have h:ai c s w=s.put w ((s.ws w).to (.pin (some s.m.ep))):=by unfold ai;dsimp only;rw[hp]
   rw[h];refine ro (bD _ _) ?_ (λh=>h);rw[hr];exact aq _
  |some e=>
   have h:ai c s w=(s.mem (s.m.pin w (aR (e+1)))).put w ((s.ws w).to (.work (bE (s.ws w)))):=by unfold ai;dsimp only;rw[hp]
   rw[h];refine ro (bD _ _) ?_ (λh=>h);rw[hr];unfold bE;split
   .rename_i h0
    by_cases hg:(s.ws w).grant>0
    .rw[if_pos hg,uh,if_neg (by unfold ng Tk.granted;simp)]
     split<;>omega
    .rw[if_neg hg,if_pos ⟨h0,by omega⟩,uh]
     split<;>omega
   .show 1<=_
    split<;>omega
   .show 1<=_
    split<;>omega
   .show 1<=_
    split<;>omega
   .show 1<=_
    split<;>omega
   .show 1<=_
    split<;>omega
   .show 1<=_
    split<;>omega
   .show 1<=_
    split<;>omega
 |work k=>
  rw[hp]at X;have h:ai c s w=ak c w s (s.ws w) k:=by unfold ai;dsimp only;rw[hp]
  rw[h];exact aez hp X
 |counts t=>
  have hr:rp (s.ws w)=3:=by unfold rp;rw[hp]
  have h:ai c s w=if(t.step c.S s.m).dn then(if∃y∈(t.step c.S s.m).last.getD [],fits 3 w y then s.put w ((s.ws w).to (.work (.get Tk.new)))else s.put w ((s.ws w).end_ (.err 3)))else s.put w ((s.ws w).to (.counts (t.step c.S s.m))):=by unfold ai;dsimp only;rw[hp]
  rw[h];split
  .split
   .refine ro (bD _ _) ?_ (fun h=>h)
    rw[hr,uh];split<;>omega
   .exact ro (bD _ _) (by rw[hr,(Ca _ _).1];decide) (λh=>h)
  .exact ro (bD _ _) (by rw[hr];exact aq 3) (λh=>h)
 |enters q=>
  have hr:rp (s.ws w)=3:=by unfold rp;rw[hp]
  have h:ai c s w=if(q.step c w s.m).1.st=.done then(if(q.step c w s.m).1.e=0\/(q.step c w s.m).1.e=8 then(s.mem (q.step c w s.m).2).put w ((s.ws w).to (.ax Td.new (some (decide ((q.step c w s.m).1.e=0))) (.err 0)))else(s.mem (q.step c w s.m).2).put w ((s.ws w).end_ (.err (q.step c w s.m).1.e)))else(s.mem (q.step c w s.m).2).put w ((s.ws w).to (.enters (q.step c w s.m).1)):=by unfold ai;dsimp only;rw[hp]
  rw[h];split
  .split
   .refine ro (bD _ _) ?_ (fun h=>h)
    rw[hr];show(if decide ((q.step c w s.m).1.e=0)=true then 3 else 2)<=3;split<;>omega
   .exact ro (bD _ _) (by rw[hr,(Ca _ _).1];decide) (λh=>h)
  .exact ro (bD _ _) (by rw[hr];exact aq 3) (λh=>h)
 |ax t p a=>
  cases p with
  |some b=>
   have hr:rp (s.ws w)=if b=true then 3 else 2:=by unfold rp;rw[hp]
   have h:ai c s w=if(t.step c w s.m).1.st=.done then(s.mem (t.step c w s.m).2).put w ((s.ws w).to (.parked b))else(s.mem (t.step c w s.m).2).put w ((s.ws w).to (.ax (t.step c w s.m).1 (some b) a)):=by unfold ai;dsimp only;rw[hp]
   rw[h];split
   .refine UZ (bD _ _) ?_
    rw[hr];show(if b=true then 2 else 1)+1<=_;split<;>omega
   .refine ro (bD _ _) ?_ (fun h=>h)
    rw[hr];exact aq _
  |none=>
   have hr:rp (s.ws w)=1:=by unfold rp;rw[hp]
   have h:ai c s w=if(t.step c w s.m).1.st=.done then{(s.mem (t.step c w s.m).2).put w ((s.ws w).to .rest)with ev:=⟨true,w,(s.ws w).ask,a⟩::s.ev}else(s.mem (t.step c w s.m).2).put w ((s.ws w).to (.ax (t.step c w s.m).1 none a)):=by unfold ai;dsimp only;rw[hp];rfl
   rw[h];split
   .refine UZ (x':=(s.ws w).to .rest) (by show upd s.ws w _ w=_;unfold upd;exact if_pos rfl) ?_
    rw[hr];exact aq _
   .refine ro (bD _ _) ?_ (fun h=>h)
    rw[hr];exact aq _
 |parked b=>
  rw[hp]at hc;have hr:rp (s.ws w)=if b=true then 2 else 1:=by unfold rp;rw[hp]
  have h:ai c s w=if s.m.gr w≠0 then s.put w ((s.ws w).to (.wakes (some (s.m.gr w))))else aV c w s (s.ws w) Qu.leave:=by unfold ai;dsimp only;rw[hp];rfl
  rw[h];by_cases hg:s.m.gr w≠0
  .rw[if_pos hg]
   refine ro (bD _ _) ?_ (λh=>h);rw[hr];show 1<=_;split<;>omega
  .rw[if_neg hg]
   have hb':b=true:=by
    rcases hc with hc|hc
    .exact absurd hc hg
    .exact hc.1
   subst hb';rw[if_pos rfl]at hr;unfold aV;dsimp only;split
   .split
    .refine UZ (bD _ _) ?_
     rw[hr];exact aq _
    .exact ro (bD _ _) (by rw[hr,(Ca _ _).1];decide) (λh=>h)
   .exact ro (bD _ _) (by rw[hr];exact aq 2) (λh=>h)
 |wakes h=>
  rw[hp]at X;obtain⟨g,rfl,h1,h2⟩:=X;have hr:rp (s.ws w)=1:=by unfold rp;rw[hp]
  have h:ai c s w=if g<0 then(s.mem (s.m.nT w 0)).put w ((s.ws w).end_ (.err 5))else(s.mem (s.m.nT w 0)).put w {s.ws w with grant:=g,ph:=.pin none}:=by unfold ai;dsimp only;rw[hp];rfl
  rw[h];split
  .exact ro (bD _ _) (by rw[hr,(Ca _ _).1];decide) (λh=>h)
  .refine ro (bD _ _) ?_ (fun h=>h)
   rw[hr];show(if(s.ws w).ask.op=0/\g<=0 then 3 else 1)<=1;rw[if_neg (by omega)];exact aq _
 |leaves q=>
  have hr:rp (s.ws w)=2:=by unfold rp;rw[hp]
  have h:ai c s w=aV c w s (s.ws w) q:=by unfold ai;dsimp only;rw[hp]
  rw[h];unfold aV;dsimp only;split
  .split
   .refine UZ (bD _ _) ?_
    rw[hr];exact aq _
   .exact ro (bD _ _) (by rw[hr,(Ca _ _).1];decide) (λh=>h)
  .exact ro (bD _ _) (by rw[hr];exact aq 2) (λh=>h)
theorem ai1(x):rp x<=3:=by
 grind [rp]
end
noncomputable section
open Classical
variable{c:Cn} {w:Nat} {s:Ms} {m:Mm} {g:Bool}
inductive wW(w:Nat)(l:List Nat):List Nat->Prop
 |same:wW w l l
 |tail:wW w l l.tail
 |drop:wW w l (l.erase w)
 |push:w∉l->wW w l (l++[w])
theorem DI{r:Rt}:(r.step m).2.qu=m.qu:=by
 unfold Rt.step;split
 .split
  .split<;>rfl
  .rfl
 .rfl
 .split
  .split<;>rfl
  .rfl
 .rfl
 .rfl
theorem aiD{t:Tk}:(t.step w c.S m g).2.qu=m.qu:=by
 have sw:∀{t t':Tk} {i wd d m'},t.swap w m i wd d=some (t',m')->m'.qu=m.qu:=by
  intro t t' i wd d m' h;rcases lQ with h0|⟨n,hn,hm,h0⟩
  .rw[h0]at h;cases h
  .rw[h0]at h;cases h;rfl
 unfold Tk.step;split
 .split<;>rfl
 .dsimp only;split
  .rfl
  .split<;>rfl
 .split
  .exact sw ‹_›
  .rfl
 .dsimp only;split
  .rfl
  .split<;>rfl
 .split
  .split<;>exact sw ‹_›
  .rfl
 .dsimp only;split
  .split<;>rfl
  .split<;>rfl
 .split
  .split<;>rfl
  .rfl
 .dsimp only;split
  .rfl
  .split<;>rfl
 .split
  .exact sw ‹_›
  .rfl
 .split
  .split<;>exact sw ‹_›
  .rfl
 .split<;>rfl
 .split<;>rfl
 .dsimp only;split
  .split<;>exact DI
  .exact DI
 .rfl
 .split
  .rfl
  .split<;>rfl
 .rfl
theorem ajy{g:Gv}:(g.step c w m).2.qu=m.qu:=by
 unfold Gv.step;split
 .split<;>rfl
 .grind
 .split
  .split<;>rfl
  .rfl
 .dsimp only;split
  .split<;>exact DI
  .exact DI
 .rfl
theorem aiT{g:Sm}:(g.step c w m).2.qu=m.qu:=by
 unfold Sm.step;split
 .split<;>rfl
 .grind
 .split<;>rfl
 .rfl
theorem zZ{q:Qu}(h:q.st=.push->w∉q.ln):wW w m.qu (q.step c w m).2.qu:=by
 unfold Qu.step;split
 .split<;>exact .same
 .split
  .rename_i h1 h2
   have:=h h1;rw[<-h2]at this;exact .push this
  .exact .same
 .split<;>exact .same
 .split<;>exact .same
 .split
  .exact .drop
  .exact .same
 .split<;>exact .same
 .split
  .exact .tail
  .exact .same
 .exact .same
 .exact .same
theorem J7{m'}{t:Td}{d own}(h:t.swap m d own=some m'):m'.qu=m.qu:=by
 unfold Td.swap at h;split at h
 .split at h
  .cases h;rfl
  .cases h
 .cases h
theorem lq{l l'}(h:l'=l):wW w l l':=by rw[h];exact .same
theorem acY{t:Td}:wW w m.qu (t.step c w m).2.qu:=by
 unfold Td.step;split
 .exact .same
 .exact .same
 .exact .same
 .dsimp only;split
  .exact .same
  .split<;>exact .same
 .dsimp only;split<;>exact lq DI
 .dsimp only;split
  .exact .same
  .split<;>exact .same
 .split<;>exact .same
 .cases h:t.swap m 12 w with
  |none=>exact .same
  |some m'=>exact lq (J7 h)
 .split<;>exact .same
 .dsimp only;split
  .exact .same
  .split<;>exact .same
 .split
  .exact lq (J7 ‹_›)
  .exact .same
 .split
  .exact .tail
  .exact .same
 .exact .same
 .exact .same
 .split
  .exact lq (J7 ‹_›)
  .exact .same
 .exact .same
 .exact .same
 .exact .same
theorem aii{k}(T:Ba c w k):wW w s.m.qu (ak c w s (s.ws w) k).m.qu:=by
 cases k with
 |get t=>
  unfold ak;dsimp only;have h0:(if t.st=gm.bM then({s with wo:=s.next.2}:Ms)else s).m=s.m:=by split<;>rfl
  rw[h0];have k:=aiD (c:=c) (w:=w) (m:=s.m) (g:=decide (t.st=.bM)&&s.next.1) (t:=t);split
  .split
   .split<;>exact lq k
   .split<;>exact lq k
  .exact lq k
 |give g=>
  unfold ak;dsimp only;split<;>exact lq ajy
 |bg g=>
  unfold ak;dsimp only;split<;>exact lq aiT
 |close d=>
  cases d with
  |none=>
   unfold ak;dsimp only;refine lq ?_;split
   .rfl
   .split<;>rfl
  |some q=>
   unfold ak;dsimp only;have:q.st=.push->w∉q.ln:=λh=>by
    have T:Du q:=T;unfold Du at T;rw[h]at T;exact T.elim
   split<;>exact zZ this
 |stats t=>
  unfold ak;dsimp only;split<;>exact .same
 |aS r=>
  unfold ak;dsimp only;split
  .split
   .exact .same
   .split<;>exact .same
  .split<;>exact .same
  .split
   .split<;>exact .same
   .exact .same
  .split<;>exact lq DI
theorem akU(X:jO c w (s.ws w)):wW w s.m.qu (ai c s w).m.qu:=by
 unfold jO at X;unfold ai;dsimp only;cases hp:(s.ws w).ph with
 |rest=>exact .same
 |pin h=>cases h<;>exact .same
 |work k=>grind [aii]
 |counts t=>
  dsimp only;split
  .split<;>exact .same
  .exact .same
 |enters q=>
  rw[hp]at X;have:q.st=.push->w∉q.ln:=λh=>by
   have T:Dt w q:=X;unfold Dt at T;rw[h]at T;exact T
  dsimp only;split
  .split<;>exact zZ this
  .exact zZ this
 |ax t p a=>
  dsimp only;split
  .cases p<;>exact acY
  .exact acY
 |parked b=>
  dsimp only;split
  .exact .same
  .unfold aV
   dsimp only;split
   .split<;>exact zZ (λh=>by cases h)
   .exact zZ (λh=>by cases h)
 |wakes h=>
  cases h with
  |none=>exact .same
  |some g=>
   show wW w s.m.qu (if g<0 then(s.mem (s.m.nT w 0)).put w ((s.ws w).end_ (.err 5))else(s.mem (s.m.nT w 0)).put w {s.ws w with grant:=g,ph:=.pin none}:Ms).m.qu;split<;>exact .same
 |leaves q=>
  rw[hp]at X;have T:=X;have:q.st=.push->w∉q.ln:=λh=>by
   rcases T.1 with h1|h1
   .rw[h]at h1;cases h1
   .rw[h]at h1;cases h1.1
  unfold aV;dsimp only;split
  .split<;>exact zZ this
  .exact zZ this
theorem ai4{l l'}(h:wW w l l')(n:l.Nodup):l'.Nodup:=by
 cases h with
 |same=>exact n
 |tail=>grind
 |drop=>exact n.erase _
 |push h=>
  grind
theorem Ib:∀(W) (l:List Nat),l.Nodup->(∀a∈l,a<W)->l.length<=W
 |0,[],_,_=>aq _
 |0,a::r,_,h=>by grind [List.mem_cons_self]
 |W+1,l,n,h=>by
  have k:=Ib W (l.erase W) (n.erase W) λa ha=>by
   grind
  grind
theorem ah0{x}(X:jO c w x):gY c m x<=bG c+1:=by
 have rt:∀r,gT c r<=4+2*c.W:=λr=>by unfold gT;split<;>omega
 have tk:∀t,uL c t<=bG c:=λt=>by
  have:=rt t.rt;unfold uL bG bP cI;split<;>omega
 have wk:∀k,JC c k<=bG c:=λk=>by
  unfold JC;split
  .exact tk _
  .rename_i g
   have:=rt g.rt;unfold JD bG bP cI;split<;>omega
  .unfold bG;omega
  .unfold bG bP;omega
  .unfold bDr bG bP;split<;>omega
  .unfold bG;omega
  .rename_i r
   have:=rt r.rt;unfold bRp bG bP cI;split<;>omega
 unfold gY;split
 .omega
 .have:=wk (bE x);omega
 .have:=wk ‹Wk›;omega
 .omega
 .unfold Um bG
  split<;>omega
 .rename_i t p a _
  have:=rt t.rt;have h2:pB c p<=bP c:=by unfold pB;split<;>omega
  have h3:rT c m t<=8+2*c.W:=by
   obtain⟨st,ep,cl,qu,look,i,wd,other,head,rt⟩:=t;have h4:(if m.ep=ep then 0 else 2)<=2:=by split<;>omega
   have h5:(if m.qu=qu then 2 else 4)<=4:=by split<;>omega
   have h6:(if m.qu=qu then 1 else 3)<=3:=by split<;>omega
   unfold rT;cases st<;>dsimp only at this ⊢ <;>omega
  unfold bG lE;omega
 .unfold bG;omega
 .unfold bG;omega
 .unfold bG;omega
theorem Yj(I:Inv c s)(n:s.m.qu.Nodup)(h1:1<=c.W)(h2:c.W<=4)(h3:1<=c.S)(h4:c.S<=5):yj c s<=10000*c.W*(c.S+c.W):=by
 have hb:JL c s<=c.W*(bG c+1)+(c.S*cI c+lE c*c.W):=by
  unfold JL wt;have a1:=yO (f:=λi=>gY c s.m (s.ws i)) c.W λi hi=>ah0 (I.w i hi);have a2:=yO (f:=λi=>cS c (s.m.sl i)) c.S λi hi=>ajG c _;have a3:=j7 (lE c) (Ib c.W s.m.qu n I.m.2);omega
 have hr:MP c s<=c.W*Rx c:=by
  exact yO _ λi hi=>acN _ _ _
 have hm:=j7 (c.W*Rx c+1) hb;refine eM (show yj c s<=(c.W*Rx c+1)*(c.W*(bG c+1)+(c.S*cI c+lE c*c.W))+c.W*Rx c by unfold yj;omega) ?_;unfold Rx bG bP cI lE;obtain⟨W,S,st,wt,u⟩:=c;dsimp only at h1 h2 h3 h4 ⊢;rcases(by omega:W=1\/W=2\/W=3\/W=4)with rfl|rfl|rfl|rfl<;>
 rcases(by omega:S=1\/S=2\/S=3\/S=4\/S=5)with rfl|rfl|rfl|rfl|rfl<;>decide
