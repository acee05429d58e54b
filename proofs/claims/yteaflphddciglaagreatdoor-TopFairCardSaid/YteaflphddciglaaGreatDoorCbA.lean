import Derived.Test.YteaflphddciglaaGreatDoorCaI
set_option linter.all false
def tI:=@congrArg
def fp:=@Int.natCast_nonneg
def j7:=@Nat.mul_le_mul_left
def qP:=@List.map_append
def qt:=@List.mem_of_mem_tail
def vf:=@Decidable.not_not
def tj:=@Nat.mul_add
namespace Go.Proofs.YteaflphddciglaaGreatDoor
namespace bq
noncomputable section
open Classical
def upd{α:Type}(f:Nat->α)(i:Nat)(v:α):Nat->α:=λj=>if j=i then v else f j
def Mm.set(m:Mm)(i:Nat)(s:aa):Mm:={m with sl:=upd m.sl i s}
def Mm.pin(m:Mm)(w:Nat)(v:Int):Mm:={m with pn:=upd m.pn w v}
def Mm.nT(m:Mm)(w:Nat)(v:Int):Mm:={m with gr:=upd m.gr w v}
def VF(s:aa):Prop:=s.st=2
def jg(s:aa):Prop:=s.st=2/\s.brk=false
def j6(s:aa):Prop:=s.st=0
def fits(k:Nat)(o:Int)(s:aa):Prop:=
 match k with
 |0=>jg s/\s.own=o
 |1=>jg s
 |2=>j6 s
 |3=>jg s\/j6 s
 |4=>(s.st=2/\(s.brk=true\/o=1\/o=2))\/(s.st=3/\o=2)
 |5=>s.st=6
 |6=>VF s
 |_=>False
def Fd.new(k:Nat)(o:Int):Fd:=⟨k,o,0,none⟩
def Fd.step(S:Nat)(m:Mm)(f:Fd):Fd:=
 if f.fd.isSome\/S<=f.at_ then f else if fits f.kd f.ow (m.sl f.at_)then{f with fd:=some (m.sl f.at_)}else{f with at_:=f.at_+1}
def Fd.all(S:Nat)(f:Fd):Prop:=f.fd=none/\S<=f.at_
def Fd.again(f:Fd):Fd:={f with fd:=none}
def Fd.go(f:Fd):Fd:=if f.fd.isSome then{f with fd:=none,at_:=f.at_+1}else f
def Fd.wd(f:Fd):aa:=f.fd.getD aa.zero
def Rt.new(i:Nat)(w:aa):Rt:=⟨i,w,0,.swap,false⟩
def Rt.step(m:Mm)(r:Rt):Rt×Mm:=
 match r.st with
 | .swap=>match az r.wd 11 0 4095 with
  |some n=>if m.sl r.i=r.wd then({r with wd:=n,st:=.look,sw:=true},m.set r.i n)else({r with st:=.done},m)
  |none=>({r with st:=.done},m)
 | .look=>({r with ep:=m.ep,st:=.iI},m)
 | .iI=>match az r.wd 17 0 r.ep with
  |some n=>if m.sl r.i=r.wd then({r with st:=.jk},m.set r.i n)else({r with st:=.jk},m)
  |none=>({r with st:=.jk},m)
 | .jk=>({r with st:=.done},{m with ep:=aR (m.ep+1)})
 | .done=>(r,m)
def Tk.new:Tk:=⟨.closed,Fd.new 0 0,0,aa.zero,0,false,Rt.new 0 aa.zero,0⟩
def Tk.granted(i:Nat):Tk:={Tk.new with st:=.grant,i:=i}
def Tk.fin(t:Tk)(e:Int):Tk:={t with e:=e,st:=.done}
def Tk.search(t:Tk)(s:gm)(k:Nat)(o:Int):Tk:={t with look:=Fd.new k o,st:=s}
def Tk.swap(w:Nat)(m:Mm)(t:Tk)(i:Nat)(a:aa)(d:Int):Option (Tk×Mm):=
 match az a d w 0 with
 |some n=>if m.sl i=a then some ({t with i:=i,wd:=n,gen:=n.gen},m.set i n)else none
 |none=>none
def Tk.step(w S:Nat)(m:Mm)(o:Bool)(t:Tk):Tk×Mm:=
 match t.st with
 | .closed=>if m.cl≠0 then(t.fin 5,m)else(t.search .own 0 w,m)
 | .own=>let f:=t.look.step S m;let t:={t with look:=f}
  if f.fd.isSome then({t with st:=.gp},m)else if f.all S then(t.search .any 1 w,m)else(t,m)
 | .gp=>match t.swap w m t.look.at_ t.look.wd 3 with
  |some (t,m)=>({t with st:=.check},m)
  |none=>({t with look:=t.look.again,st:=.own},m)
 | .any=>let f:=t.look.step S m;let t:={t with look:=f}
  if f.fd.isSome then({t with st:=.anyS},m)else if f.all S then(t.search .free 2 w,m)else(t,m)
 | .anyS=>match t.swap w m t.look.at_ t.look.wd 3 with
  |some (a,m)=>if t.look.wd.own=w then({a with st:=.check},m)else({a with ps:=false}.search .move 0 t.look.wd.own,m)
  |none=>({t with look:=t.look.again,st:=.any},m)
 | .move=>let f:=t.look.step S m;let t:={t with look:=f}
  if f.fd.isSome then(if t.ps then({t with ps:=false,look:=f.go},m)else({t with ps:=true,st:=.dD},m))else if f.all S then({t with st:=.check},m)else(t,m)
 | .dD=>
  let a:={t with look:=t.look.go,st:=.move}
  match az t.look.wd 9 w 0 with
  |some n=>if m.sl t.look.at_=t.look.wd then(a,m.set t.look.at_ n)else(a,m)
  |none=>(a,m)
 | .free=>let f:=t.look.step S m;let t:={t with look:=f}
  if f.fd.isSome then({t with st:=.dQ},m)else if f.all S then(t.fin 3,m)else(t,m)
 | .dQ=>match t.swap w m t.look.at_ t.look.wd 0 with
  |some (t,m)=>({t with st:=.bM},m)
  |none=>({t with look:=t.look.again,st:=.free},m)
 | .bM=>match t.swap w m t.i t.wd (if o then 1 else 2)with
  |some (t,m)=>if o then({t with st:=.check},m)else(t.fin 6,m)
  |none=>(t.fin 6,m)
 | .check=>if m.cl=0 then(t.fin 0,m)else({t with st:=.back},m)
 | .back=>if(m.sl t.i).st=3/\(m.sl t.i).own=w/\(m.sl t.i).gen=t.gen then({t with rt:=Rt.new t.i (m.sl t.i),st:=.go},m)else(t.fin 5,m)
 | .go=>let r:=t.rt.step m;let t:={t with rt:=r.1}
  if r.1.st=.done then(if r.1.sw then(t.fin 5,r.2)else({t with st:=.back},r.2))else(t,r.2)
 | .grant=>({t with wd:=m.sl t.i,st:=.eG},m)
 | .eG=>match az t.wd 16 w 0 with
  |none=>(t.fin 5,m)
  |some n=>if m.sl t.i=t.wd then({t with wd:=n,gen:=n.gen,st:=if n.st=3 then .check else .bM},m.set t.i n)else({t with st:=.grant},m)
 | .done=>(t,m)
def Gv.new(i e:Int)(d:Bool):Gv:=⟨i,e,d,.closed,0,aa.zero,Rt.new 0 aa.zero,0⟩
def Gv.fin(g:Gv)(e:Int):Gv:={g with e:=e,st:=.done}
def Gv.step(c:Cn)(w:Nat)(m:Mm)(g:Gv):Gv×Mm:=
 match g.st with
 | .closed=>if m.cl=2 then({g with cl:=m.cl}.fin 5,m)else({g with cl:=m.cl,st:=.look},m)
 | .look=>if 0<=g.i/\g.i<c.S then
   let s:=m.sl g.i.toNat;let g:={g with wd:=s}
   if¬(s.st=3/\s.own=w/\s.gen=g.gen)then(g.fin 2,m)else if s.str≠0/\g.dc=false then(g.fin 8,m)else
   if g.dc=true\/s.brk=true\/c.u<=s.uses\/¬(g.cl=(0:Int))then({g with rt:=Rt.new g.i.toNat s,st:=.go},m)else({g with st:=.rest},m)
  else(g.fin 2,m)
 | .rest=>match az g.wd 4 w 0 with
  |some n=>if m.sl g.i.toNat=g.wd then(g.fin 0,m.set g.i.toNat n)else({g with st:=.look},m)
  |none=>({g with st:=.look},m)
 | .go=>let r:=g.rt.step m;let g:={g with rt:=r.1}
  if r.1.st=.done then(if r.1.sw then(g.fin 0,r.2)else({g with st:=.look},r.2))else(g,r.2)
 | .done=>(g,m)
def Sm.new(o:Bool)(i e n:Int):Sm:=⟨o,i,e,n,.closed,aa.zero,aa.zero,0,0⟩
def Sm.fin(s:Sm)(e:Int):Sm:={s with e:=e,st:=.done}
def Sm.next(c:Cn)(w:Nat)(s:Sm)(x:aa):Option aa:=if s.op then az x 14 w c.st else az x 15 w s.n
def Sm.step(c:Cn)(w:Nat)(m:Mm)(s:Sm):Sm×Mm:=
 match s.st with
 | .closed=>if m.cl=2 then(s.fin 5,m)else({s with st:=.look},m)
 | .look=>if 0<=s.i/\s.i<c.S then
   let x:=m.sl s.i.toNat;let s:={s with wd:=x}
   if¬(x.st=3/\x.own=w/\x.gen=s.gen)then(s.fin 2,m)else if s.op=true/\x.brk=true then(s.fin 9,m)else
   match s.next c w x with
   |none=>(s.fin (if s.op then 10 else 11),m)
   |some y=>({s with nx:=y,num:=if s.op then bA x.str else s.n,st:=.swap},m)
  else(s.fin 2,m)
 | .swap=>if m.sl s.i.toNat=s.wd then(s.fin 0,m.set s.i.toNat s.nx)else({s with st:=.look},m)
 | .done=>(s,m)
def Tw.new:Tw:=⟨[],none,false,0⟩
def Tw.step(S:Nat)(m:Mm)(t:Tw):Tw:=
 if t.dn then t else
 let r:=t.rd++[m.sl t.rd.length]
 if r.length<S then{t with rd:=r}else⟨[],some r,decide (t.last=some r),t.n+1⟩
def Qu.enter:Qu:=⟨.come,[],0,0,0⟩
def Qu.leave:Qu:=⟨.look,[],0,4,0⟩
def Qu.drain:Qu:=⟨.head,[],0,0,0⟩
def Qu.fin(q:Qu)(e:Int):Qu:={q with e:=e,st:=.done}
def Qu.step(c:Cn)(w:Nat)(m:Mm)(q:Qu):Qu×Mm:=
 match q.st with
 | .come=>let q:={q with ln:=m.qu}
  if c.wt<=m.qu.length\/w∈m.qu then(q.fin 7,m)else({q with st:=.push},m)
 | .push=>if m.qu=q.ln then({q with st:=.closed},{m with qu:=m.qu++[w]})else({q with st:=.come},m)
 | .closed=>if m.cl=0 then(q.fin 0,m)else({q with why:=5,st:=.look},m)
 | .look=>let q:={q with ln:=m.qu}
  if w∈m.qu then({q with st:=.drop},m)else(q.fin 8,m)
 | .drop=>if m.qu=q.ln then(q.fin q.why,{m with qu:=m.qu.erase w})else({q with st:=.look},m)
 | .head=>match m.qu with
  |[]=>({q with ln:=[]}.fin 0,m)
  |a::r=>({q with ln:=a::r,first:=a,st:=.pop},m)
 | .pop=>if m.qu=q.ln then({q with st:=.tell},{m with qu:=m.qu.tail})else({q with st:=.head},m)
 | .tell=>({q with st:=.head},m.nT q.first (-1))
 | .done=>(q,m)
def Td.new:Td:=⟨.ep,0,0,[],Fd.new 0 0,0,aa.zero,0,0,Rt.new 0 aa.zero⟩
def jq(w o:Nat):Nat:=if o=w then o+1 else o
def oC(w:Int)(e:Int):Prop:=1<=w/\w-1<=e
def Td.fu(S:Nat)(m:Mm)(t:Td):Td:=
 let f:=t.look.step S m
 match f.fd with
 | .some x=>{t with look:=f,i:=f.at_,wd:=x}
 | .none=>{t with look:=f}
def Td.swap(m:Mm)(t:Td)(d own:Int):Option Mm:=
 match az t.wd d own 0 with
 | .some n=>if m.sl t.i=t.wd then .some (m.set t.i n)else .none
 | .none=>.none
def Td.step(c:Cn)(w:Nat)(m:Mm)(t:Td):Td×Mm:=
 match t.st with
 | .ep=>({t with ep:=m.ep,st:=.pin},m)
 | .pin=>({t with st:=.cl},m.pin w (aR (t.ep+1)))
 | .cl=>({t with cl:=m.cl,look:=Fd.new 4 m.cl,st:=.dL},m)
 | .dL=>let t:=t.fu c.S m
  if t.look.fd.isSome then({t with rt:=Rt.new t.i t.wd,st:=.go},m)else if t.look.all c.S then({t with look:=Fd.new 5 w,st:=.old},m)else(t,m)
 | .go=>let r:=t.rt.step m;let t:={t with rt:=r.1}
  if r.1.st=.done then({t with look:=t.look.again,st:=.dL},r.2)else(t,r.2)
 | .old=>let t:=t.fu c.S m
  if t.look.fd.isSome then(let o:=jq w 0;({t with other:=o,st:=if o<c.W then .pins else .clear},m))else if t.look.all c.S then({t with st:=if t.cl≠0 then .eO else .line},m)else(t,m)
 | .pins=>if oC (m.pn t.other) t.wd.ep then({t with look:=t.look.go,st:=.old},m)else
   let o:=jq w (t.other+1)
   ({t with other:=o,st:=if o<c.W then .pins else .clear},m)
 | .clear=>({t with look:=t.look.go,st:=.old},(t.swap m 12 w).getD m)
 | .line=>match m.qu with
  |[]=>({t with qu:=[],st:=.eO},m)
  |a::r=>({t with qu:=a::r,head:=a,look:=Fd.new 3 w,st:=.some},m)
 | .some=>let t:=t.fu c.S m
  if t.look.fd.isSome then({t with st:=.keep},m)else if t.look.all c.S then({t with st:=.eO},m)else(t,m)
 | .keep=>match t.swap m (if t.wd.st=2 then 5 else 7) t.head with
  | .some m=>({t with st:=.pop},m)
  | .none=>({t with look:=t.look.again,st:=.some},m)
 | .pop=>if m.qu=t.qu then({t with st:=.grant},{m with qu:=m.qu.tail})else({t with st:=.back},m)
 | .grant=>({t with st:=.line},m.nT t.head (t.i+1))
 | .back=>let t:={t with wd:=m.sl t.i}
  ({t with st:=if t.wd.st=4\/t.wd.st=5 then .dR else .line},m)
 | .dR=>match t.swap m (if t.wd.st=4 then 6 else 8) w with
  | .some m=>({t with st:=.cl},m)
  | .none=>({t with st:=.back},m)
 | .eO=>({t with st:=.again},m.pin w 0)
 | .again=>({t with st:=if m.ep=t.ep then .done else .ep},m)
 | .done=>(t,m)
def bR.err(e:Int):bR:=⟨e,0,0,0,0,0,0,0⟩
def Ms.next(s:Ms):Bool×List Bool:=match s.wo with|[]=>(true,[])|b::r=>(b,r)
def Wr.to(x:Wr)(p:Ph):Wr:={x with ph:=p}
def Wr.end_(x:Wr)(a:bR):Wr:=x.to (.ax Td.new none a)
def Ms.put(s:Ms)(w:Nat)(x:Wr):Ms:={s with ws:=upd s.ws w x}
def Ms.mem(s:Ms)(m:Mm):Ms:={s with m:=m}
def Eh(l:List aa):Nat×Nat×Nat×Nat:=
 ((l.filter λs=>decide (s.st=2)).length,(l.filter λs=>decide (s.st=3)).length,(l.filter λs=>decide (s.st=0)).length,(l.filter λs=>decide (s.st≠0/\s.st≠2/\s.st≠3)).length)
def bE(x:Wr):Wk:=
 match x.ask.op with
 |0=>.get (if x.grant>0 then Tk.granted (x.grant-1).toNat else Tk.new)
 |1=>.give (Gv.new x.ask.slot x.ask.gen false)
 |2=>.give (Gv.new x.ask.slot x.ask.gen true)
 |3=>.bg (Sm.new true x.ask.slot x.ask.gen 0)
 |4=>.bg (Sm.new false x.ask.slot x.ask.gen x.ask.bg)
 |5=>.aS ⟨.look,Fd.new 6 0,0,Rt.new 0 aa.zero⟩
 |6=>.close none
 |_=>.stats Tw.new
def ak(c:Cn)(w:Nat)(s:Ms)(x:Wr):Wk->Ms
 | .get t=>
  let d:=t.st=.bM
  let n:=s.next
  let s:=if d then{s with wo:=n.2}else s
  let r:=t.step w c.S s.m (decide d&&n.1)
  let s:=s.mem r.2
  if r.1.st=.done then
   (if r.1.e=3 then(if x.ask.wait then s.put w (x.to (.enters Qu.enter))else s.put w (x.to (.counts Tw.new)))
    else if r.1.e=0 then s.put w (x.end_ ⟨0,r.1.i,r.1.gen,0,0,0,0,0⟩)else s.put w (x.end_ (.err r.1.e)))
  else s.put w (x.to (.work (.get r.1)))
 | .give g=>
  let r:=g.step c w s.m
  let s:=s.mem r.2
  if r.1.st=.done then s.put w (x.end_ (.err r.1.e))else s.put w (x.to (.work (.give r.1)))
 | .bg g=>
  let r:=g.step c w s.m
  let s:=s.mem r.2
  if r.1.st=.done then s.put w (x.end_ ⟨r.1.e,0,0,if r.1.e=0 then r.1.num else 0,0,0,0,0⟩)else s.put w (x.to (.work (.bg r.1)))
 | .close none=>
  let m:=if x.ask.force then{s.m with cl:=2}else if s.m.cl=0 then{s.m with cl:=1}else s.m
  (s.mem m).put w (x.to (.work (.close (some Qu.drain))))
 | .close (some q)=>
  let r:=q.step c w s.m
  let s:=s.mem r.2
  if r.1.st=.done then s.put w (x.end_ (.err 0))else s.put w (x.to (.work (.close (some r.1))))
 | .stats t=>
  let t:=t.step c.S s.m
  if t.dn then s.put w (x.end_ ⟨0,0,0,0,Eh (t.last.getD [])⟩)else s.put w (x.to (.work (.stats t)))
 | .aS r=>
  match r.st with
  | .look=>
   let f:=r.look.step c.S s.m
   if f.fd.isSome then s.put w (x.to (.work (.aS {r with look:=f,st:=.ask})))else if f.all c.S then s.put w (x.end_ ⟨0,r.many,0,0,0,0,0,0⟩)else s.put w (x.to (.work (.aS {r with look:=f})))
  | .ask=>
   let n:=s.next
   let s:={s with wo:=n.2}
   if n.1=true/\r.look.wd.fO=false/\r.look.wd.brk=false then s.put w (x.to (.work (.aS {r with st:=.mark})))else s.put w (x.to (.work (.aS {r with rt:=Rt.new r.look.at_ r.look.wd,st:=.dB})))
  | .mark=>
   let a:=x.to (.work (.aS {r with look:=r.look.go,st:=.look}))
   match az r.look.wd 10 w 0 with
   |some n=>if s.m.sl r.look.at_=r.look.wd then(s.mem (s.m.set r.look.at_ n)).put w a else s.put w a
   |none=>s.put w a
  | .dB=>
   let q:=r.rt.step s.m
   let s:=s.mem q.2
   if q.1.st=.done then s.put w (x.to (.work (.aS {r with rt:=q.1,many:=if q.1.sw then aR (r.many+1)else r.many,look:=r.look.go,st:=.look})))else s.put w (x.to (.work (.aS {r with rt:=q.1})))
def aV(c:Cn)(w:Nat)(s:Ms)(x:Wr)(q:Qu):Ms:=
 let r:=q.step c w s.m
 let s:=s.mem r.2
 if r.1.st=.done then(if r.1.e=8 then s.put w (x.to (.parked false))else s.put w (x.end_ (.err r.1.e)))else s.put w (x.to (.leaves r.1))
def dh(w:Nat)(s:Ms)(x:Wr):Option Int->Ms
 |none=>s.put w (x.to (.wakes (some (s.m.gr w))))
 |some g=>
  let s:=s.mem (s.m.nT w 0)
  if g<0 then s.put w (x.end_ (.err 5))else s.put w {x with grant:=g,ph:=.pin none}
def aQ(s:Ms)(w:Nat):Prop:=
 match(s.ws w).ph with
 | .rest=>False
 | .parked t=>s.m.gr w≠0\/t=true/\(s.ws w).ask.dl<=s.now
 |_=>True
def ai(c:Cn)(s:Ms)(w:Nat):Ms:=
 let x:=s.ws w
 match x.ph with
 | .rest=>s
 | .pin none=>s.put w (x.to (.pin (some s.m.ep)))
 | .pin (some e)=>(s.mem (s.m.pin w (aR (e+1)))).put w (x.to (.work (bE x)))
 | .work k=>ak c w s x k
 | .counts t=>
  let t:=t.step c.S s.m
  if t.dn then(if∃y∈t.last.getD [],fits 3 w y then s.put w (x.to (.work (.get Tk.new)))else s.put w (x.end_ (.err 3)))else s.put w (x.to (.counts t))
 | .enters q=>
  let r:=q.step c w s.m
  let s:=s.mem r.2
  if r.1.st=.done then(if r.1.e=0\/r.1.e=8 then s.put w (x.to (.ax Td.new (some (decide (r.1.e=0))) (.err 0)))else s.put w (x.end_ (.err r.1.e)))else s.put w (x.to (.enters r.1))
 | .ax t p a=>
  let r:=t.step c w s.m
  let s:=s.mem r.2
  if r.1.st=.done then(match p with
   |some b=>s.put w (x.to (.parked b))
   |none=>{s.put w (x.to .rest)with ev:=⟨true,w,x.ask,a⟩::s.ev})else s.put w (x.to (.ax r.1 p a))
 | .parked _=>if s.m.gr w≠0 then dh w s x none else aV c w s x Qu.leave
 | .wakes h=>dh w s x h
 | .leaves q=>aV c w s x q
def wG{x n}{d own more}(h:az x d own more=some n):∃r,uT x d own more=some r/\n={r with cz:=(x.cz+1)%32768}/\Facts x/\0<=own/\own<=15:=by
 obtain⟨F,a,b,r,c,rfl⟩:=LX h;grind
theorem eT{x n}{d own more}(h:az x d own more=some n):
  (d=0->x.st=0/\n.st=1)/\(d=1->x.st=1/\n.st=3)/\(d=2->x.st=1/\n.st=0)/\(d=3->x.st=2/\n.st=3)/\(d=4->x.st=3/\n.st=2)/\(d=5->x.st=2/\n.st=4)/\
  (d=6->x.st=4/\n.st=2)/\(d=7->x.st=0/\n.st=5)/\(d=8->x.st=5/\n.st=0)/\(d=9->x.st=2/\n.st=2)/\(d=10->x.st=2/\n.st=2)/\(d=11->(x.st=2\/x.st=3)/\n.st=6)/\
  (d=12->x.st=6/\n.st=0)/\(d=14->x.st=3/\n.st=3)/\(d=15->x.st=3/\n.st=3)/\(d=16->(x.st=4/\n.st=3)\/(x.st=5/\n.st=1))/\(d=17->x.st=6/\n.st=6):=by
 obtain⟨r,a,rfl,_⟩:=wG h;refine⟨?_,?_,?_,?_,?_,?_,?_,?_,?_,?_,?_,?_,?_,?_,?_,?_,?_⟩<;>(intro c;subst c)
 .have a:row0 x own=some r:=a
  unfold row0 at a;split at a<;>cases a;exact⟨‹_›,rfl⟩
 .have a:yB x own=some r:=a
  unfold yB at a;split at a<;>cases a;rename_i b;exact⟨b.1,rfl⟩
 .have a:Ce x own=some r:=a
  unfold Ce at a;split at a<;>cases a;rename_i b;exact⟨b.1,rfl⟩
 .have a:uU x own=some r:=a
  unfold uU at a;split at a<;>cases a;rename_i b;exact⟨b.1,rfl⟩
 .have a:yA x own=some r:=a
  unfold yA at a;split at a<;>cases a;rename_i b;exact⟨b.1,rfl⟩
 .have a:yz x own=some r:=a
  unfold yz at a;split at a<;>cases a;rename_i b;exact⟨b.1,rfl⟩
 .have a:yx x own=some r:=a
  unfold yx at a;split at a<;>cases a;exact⟨‹_›,rfl⟩
 .have a:yu x own=some r:=a
  unfold yu at a;split at a<;>cases a;exact⟨‹_›,rfl⟩
 .have a:oK x=some r:=a
  unfold oK at a;split at a<;>cases a;exact⟨‹_›,rfl⟩
 .have a:Cc x own=some r:=a
  unfold Cc at a;split at a<;>cases a;rename_i b;exact⟨b,b⟩
 .have a:xu x=some r:=a
  unfold xu at a;split at a<;>cases a;rename_i b;exact⟨b.1,b.1⟩
 .have a:tq x more=some r:=a
  unfold tq at a;split at a<;>cases a;rename_i b;exact⟨b.1,rfl⟩
 .have a:xq x=some r:=a
  unfold xq at a;split at a<;>cases a;exact⟨‹_›,rfl⟩
 .have a:aZ x own more=some r:=a
  unfold aZ at a;split at a<;>cases a;rename_i b;exact⟨b.1,b.1⟩
 .have a:vH x own more=some r:=a
  unfold vH at a;split at a<;>cases a;rename_i b;exact⟨b.1,b.1⟩
 .have a:sZ x own=some r:=a
  unfold sZ at a;split at a
  .cases a;rename_i b;exact .inl ⟨b.1,rfl⟩
  .split at a<;>cases a
   rename_i b;exact .inr ⟨b.1,rfl⟩
 .have a:xk x more=some r:=a
  unfold xk at a;split at a<;>cases a;rename_i b;exact⟨b.1,b.1⟩
def xC{x}(F:Facts x){d own more}(h:0<=own)(a:own<=15){r}(b:uT x d own more=some r):(az x d own more).isSome=true:=by
 grind [aeW]
def Yw{x}(F:Facts x)(h:x.st=2\/x.st=3):(az x 11 0 4095).isSome=true:=by
 refine xC F (by decide) (by decide) (r:={dU x 6 0 with ep:=4095}) ?_;show tq x 4095=_;grind [tq]
def Pj{x}(F:Facts x)(h:jg x){w}(a:0<=w)(b:w<=15):(az x 3 w 0).isSome=true:=by
 refine xC F a b (r:=fM x w) ?_;show uU x w=_;unfold uU;rw[tz (show x.st=2/\x.brk=false from h)]
def aeV{x}(F:Facts x)(h:j6 x){w}(a:0<=w)(b:w<=15):(az x 0 w 0).isSome=true:=by
 refine xC F a b (r:=dU x 1 w) ?_;show row0 x w=_;unfold row0;rw[tz (show x.st=0 from h)]
def aeU{x}(F:Facts x)(h:jg x\/j6 x){w}(b:0<=w)(c:w<=15):(az x (if x.st=2 then 5 else 7) w 0).isSome=true:=by
 by_cases a:x.st=2
 .rw[tz a]
  have d:jg x:=by
   grind [j6]
  refine xC F b c (r:={x with st:=4,own:=w,fO:=false}) ?_;show yz x w=_;unfold yz;rw[tz (show x.st=2/\x.brk=false from d)]
 .rw[ck a]
  have d:x.st=0:=by
   rcases h with h|h
   .exact tA h.1 a
   .exact h
  refine xC F b c (r:=dU x 5 w) ?_;show yu x w=_;grind [yu]
def Yv{x}(F:Facts x)(h:x.st=4\/x.st=5){w}(a:0<=w)(b:w<=15):(az x (if x.st=4 then 6 else 8) w 0).isSome=true:=by
 by_cases c:x.st=4
 .rw[tz c]
  refine xC F a b (r:={x with st:=2,own:=w}) ?_;show yx x w=_;grind [yx]
 .rw[ck c]
  refine xC F a b (r:=dU x 0 0) ?_;show oK x=_;grind [oK]
def aeT{x}(F:Facts x){w}(h:x.st=3/\x.own=w/\x.str=0)(a:0<=w)(b:w<=15):(az x 4 w 0).isSome=true:=by
 refine xC F a b (r:={x with st:=2}) ?_;show yA x w=_;grind [yA]
def cI(c:Cn):Nat:=6+2*c.W
def lE(c:Cn):Nat:=3+2*c.W
def cS(c:Cn)(s:aa):Nat:=if s.st=6 then 1 else if s.st=2\/s.st=3\/s.st=4 then cI c else 0
def j4(f:Nat->Nat):Nat->Nat
 |0=>0
 |n+1=>j4 f n+f n
theorem GR{f g}:∀n,(∀i,i<n->f i=g i)->j4 f n=j4 g n
 |0,_=>rfl
 |n+1,h=>by unfold j4;rw[GR n (λi a=>h i (by omega)),h n (by omega)]
theorem Oq{f g}{k}:∀n,k<n->(∀i,i≠k->f i=g i)->j4 f n+g k=j4 g n+f k
 |0,h,_=>by omega
 |n+1,h,a=>by
  unfold j4;by_cases e:k=n
  .grind [GR]
  .have:=Oq n (by omega) a
   grind
def wt(c:Cn)(m:Mm):Nat:=j4 (λi=>cS c (m.sl i)) c.S+lE c*m.qu.length
def zA(c:Cn)(m a:Mm):Nat:=2*c.W*(if a.ep=m.ep then 0 else 1)+2*c.W*(if a.qu=m.qu then 0 else 1)
def fJ(c:Cn)(m:Mm)(b:Nat)(a:Mm)(d:Nat):Prop:=d+wt c a+zA c m a+1<=b+wt c m
theorem afS(c)(m){i}(h:i<c.S)(s):wt c (m.set i s)+cS c (m.sl i)=wt c m+cS c s:=by
 unfold wt Mm.set;have:=Oq (f:=λj=>cS c ((upd m.sl i s) j)) (g:=λj=>cS c (m.sl j)) c.S h λj a=>by
  grind [upd]
 grind [upd]
theorem afI(c)(m)(i)(s):zA c m (m.set i s)=0:=by
 unfold zA Mm.set;simp
def gG{c}{m}{i}(d:i<c.S){x n}(e:m.sl i=x){b a}(h:a+cS c n+1<=b+cS c x):fJ c m b (m.set i n) a:=by
 grind [fJ,afS,afI]
def FU{c}{m}{w}{v}{b a}(h:a+1<=b):fJ c m b (m.pin w v) a:=by
 unfold fJ zA wt Mm.pin;simp;omega
def Aq{c}{m}{w}{v}{b a}(h:a+1<=b):fJ c m b (m.nT w v) a:=by
 unfold fJ zA wt Mm.nT;simp;omega
def afb{c}{m}{b a}(h:a+2*c.W+1<=b):fJ c m b {m with ep:=aR (m.ep+1)} a:=by
 grind [fJ,zA,wt]
def PE{c}{m}(f:m.qu≠[]){b d}(h:d+2*c.W+1<=b+lE c):fJ c m b {m with qu:=m.qu.tail} d:=by
 obtain⟨a,r,i⟩:∃a r,m.qu=a::r:=by
  cases q:m.qu with
  |nil=>exact tA q f
  |cons a r=>grind
 have e:¬r=a::r:=λe=>by have:=tI List.length e;simp at this
 unfold fJ zA wt;simp only[i,List.tail_cons,ck e,if_true,ct];grind
def Md{c}{m}{w}(a:w∈m.qu){b d}(h:d+2*c.W+1<=b+lE c):fJ c m b {m with qu:=m.qu.erase w} d:=by
 have l:=List.length_erase_of_mem a;have p:=List.length_pos_of_mem a;have e:¬m.qu.erase w=m.qu:=λe=>by grind
 unfold fJ zA wt;simp only[ck e,if_true,l];have:lE c*m.qu.length=lE c*(m.qu.length-1)+lE c:=by
  conv=>lhs;rw[show m.qu.length=(m.qu.length-1)+1 by omega]
  grind
 omega
def YM{c}{m}{w}{b a}(h:a+lE c+2*c.W+1<=b):fJ c m b {m with qu:=m.qu++[w]} a:=by
 have e:¬m.qu++[w]=m.qu:=λe=>by simp_all
 unfold fJ zA wt;simp only[ck e,if_true,cE,List.length_singleton];grind
def KY{S}{m}{f:Fd}(h:f.fd=none):f.step S m=if S<=f.at_ then f else if fits f.kd f.ow (m.sl f.at_)then{f with fd:=some (m.sl f.at_)}else{f with at_:=f.at_+1}:=by
 unfold Fd.step;rw[h];by_cases a:S<=f.at_
 .rw[tz (.inr a),tz a]
 .rw[ck (by simp;omega),ck a]
def nU{S}{m}{f:Fd}(h:f.fd=none):
  (f.at_<S/\fits f.kd f.ow (m.sl f.at_)/\f.step S m={f with fd:=some (m.sl f.at_)})\/
  ((f.step S m).fd=none/\(f.step S m).all S/\(f.step S m).kd=f.kd/\(f.step S m).ow=f.ow)\/
  ((f.step S m).fd=none/\¬(f.step S m).all S/\f.at_+1<S/\f.step S m={f with at_:=f.at_+1}/\¬fits f.kd f.ow (m.sl f.at_)):=by
 rw[KY h];by_cases b:S<=f.at_
 .rw[tz b]
  exact .inr (.inl ⟨h,⟨h,b⟩,rfl,rfl⟩)
 .rw[ck b]
  by_cases a:fits f.kd f.ow (m.sl f.at_)
  .rw[tz a]
   exact .inl ⟨by omega,a,rfl⟩
  .rw[ck a]
   by_cases c:S<=f.at_+1
   .exact .inr (.inl ⟨h,⟨h,c⟩,rfl,rfl⟩)
   .exact .inr (.inr ⟨h,λd=>c d.2,by omega,rfl,a⟩)
def gT(c:Cn)(r:Rt):Nat:=match r.st with| .look| .iI=>4+2*c.W| .jk=>3+2*c.W|_=>0
def xx(m:Mm)(r:Rt):Nat:=match r.st with| .swap=>if m.sl r.i=r.wd then 0 else 1| .look=>2| .iI=>1|_=>0
structure pY(c:Cn)(r:Rt):Prop where
 i:r.i<c.S
 st:r.st≠.done
 sw:r.st=.swap->(az r.wd 11 0 4095).isSome=true/\r.sw=false
def NB{c}{i}{x}(a:i<c.S)(F:Facts x)(h:x.st=2\/x.st=3):pY c (Rt.new i x):=⟨a,cK.noConfusion,λ_=>⟨Yw F h,rfl⟩⟩
def vO{c}{m}{r}(h:pY c r):
  (r.step m).1.i=r.i/\((r.step m).1.st≠.done->pY c (r.step m).1/\(r.step m).1.st≠.swap)/\
  (((r.step m).2=m/\(r.step m).1.st≠.done/\xx m (r.step m).1+1<=xx m r/\r.st≠.swap/\gT c (r.step m).1<=gT c r)\/
   ((r.step m).2=m/\(r.step m).1.st=.done/\(r.step m).1.sw=false/\r.st=.swap/\m.sl r.i≠r.wd)\/
   (∀b k,k<=b+(if(r.step m).2.ep=m.ep then 0 else 2)->fJ c m (b+gT c r) (r.step m).2 (k+gT c (r.step m).1))):=by
 obtain⟨i,w,p,A,s⟩:=r;obtain⟨a,l,o⟩:=h;simp only at a l o;cases A with
 |swap=>
  obtain⟨d,B⟩:=o rfl;subst B;obtain⟨n,d⟩:=cP.1 d;have e:(⟨i,w,p,.swap,false⟩:Rt).step m=if m.sl i=w then(⟨i,n,p,.look,true⟩,m.set i n)else(⟨i,w,p,.done,false⟩,m):=by
   unfold Rt.step;simp only[d]
  rw[e];by_cases f:m.sl i=w
  .rw[tz f]
   have v:=(eT d).2.2.2.2.2.2.2.2.2.2.2.1 rfl;refine⟨rfl,λ_=>⟨⟨a,cK.noConfusion,λe=>by cases e⟩,cK.noConfusion⟩,.inr (.inr λb k u=>gG a f ?_)⟩;have:k<=b:=by simpa[Mm.set]using u
   have x:cS c n=1:=by unfold cS;rw[tz v.2]
   have y:cS c w=cI c:=by
    unfold cS;rw[ck (by omega),tz (by omega)]
   rw[x,y];unfold gT cI;simp only;omega
  .rw[ck f]
   exact⟨rfl,λz=>tA rfl z,.inr (.inl ⟨rfl,rfl,rfl,rfl,f⟩)⟩
 |look=>
  show _/\_/\_;have e:(⟨i,w,p,.look,s⟩:Rt).step m=(⟨i,w,m.ep,.iI,s⟩,m):=rfl;rw[e];exact⟨rfl,λ_=>⟨⟨a,cK.noConfusion,λe=>by cases e⟩,cK.noConfusion⟩,.inl ⟨rfl,cK.noConfusion,by unfold xx;simp,cK.noConfusion,by unfold gT;simp⟩⟩
 |iI=>
  cases d:az w 17 0 p with
  |none=>
   have e:(⟨i,w,p,.iI,s⟩:Rt).step m=(⟨i,w,p,.jk,s⟩,m):=by unfold Rt.step;simp only[d]
   rw[e];exact⟨rfl,λ_=>⟨⟨a,cK.noConfusion,λe=>by cases e⟩,cK.noConfusion⟩,.inl ⟨rfl,cK.noConfusion,by unfold xx;simp,cK.noConfusion,by unfold gT;simp⟩⟩
  |some n=>
   have e:(⟨i,w,p,.iI,s⟩:Rt).step m=if m.sl i=w then(⟨i,w,p,.jk,s⟩,m.set i n)else(⟨i,w,p,.jk,s⟩,m):=by unfold Rt.step;simp only[d]
   rw[e];by_cases f:m.sl i=w
   .rw[tz f]
    have v:=(eT d).2.2.2.2.2.2.2.2.2.2.2.2.2.2.2.2 rfl;refine⟨rfl,λ_=>⟨⟨a,cK.noConfusion,λe=>by cases e⟩,cK.noConfusion⟩,.inr (.inr λb k u=>gG a f ?_)⟩;have:k<=b:=by simpa[Mm.set]using u
    have x:cS c n=1:=by unfold cS;rw[tz v.2]
    have y:cS c w=1:=by unfold cS;rw[tz v.1]
    rw[x,y];unfold gT;simp only;omega
   .rw[ck f]
    exact⟨rfl,λ_=>⟨⟨a,cK.noConfusion,λe=>by cases e⟩,cK.noConfusion⟩,.inl ⟨rfl,cK.noConfusion,by unfold xx;simp,cK.noConfusion,by unfold gT;simp⟩⟩
 |jk=>
  have e:(⟨i,w,p,.jk,s⟩:Rt).step m=(⟨i,w,p,.done,s⟩,{m with ep:=aR (m.ep+1)}):=rfl;rw[e];refine⟨rfl,λz=>tA rfl z,.inr (.inr λb k u=>afb ?_)⟩;have e:¬aR (m.ep+1)=m.ep:=by obtain⟨q,C⟩:=jW (m.ep+1);omega
  rw[ck e]at u;unfold gT;simp only;omega
 |done=>exact tA rfl l
def lR(c:Cn):Nat:=c.S+3
def oR(c:Cn)(a:Nat):Nat:=(c.S-a)*(c.W+4)+lR c+1
def wR(c:Cn)(a:Nat):Nat:=(c.S-a)+oR c 0+1
def xw(c:Cn)(m:Mm)(t:Td):Nat:=
 match t.st with
 | .ep=>1
 | .pin=>0
 | .cl=>wR c 0+1
 | .dL=>wR c t.look.at_
 | .go=>match t.rt.st with| .swap=>if m.sl t.rt.i=t.rt.wd then 0 else wR c t.look.at_+1| .look=>2| .iI=>1|_=>0
 | .old=>oR c t.look.at_
 | .pins=>(c.S-t.look.at_)*(c.W+4)+lR c-t.other
 | .clear=>(c.S-t.look.at_)*(c.W+4)+lR c-c.W-2
 | .line=>lR c
 | .some=>(c.S-t.look.at_)+2
 | .keep=>if m.sl t.i=t.wd then 0 else(c.S-t.look.at_)+3
 | .pop=>if m.qu=t.qu then 0 else lR c+3
 | .grant=>0
 | .back=>lR c+2
 | .dR=>if m.sl t.i=t.wd then 0 else lR c+3
 | .eO=>0
 | .again=>2
 | .done=>0
def rT(c:Cn)(m:Mm)(t:Td):Nat:=
 (match t.st with
 | .ep| .pin=>3
 | .cl| .dL| .old| .pins| .clear| .line=>2
 | .go=>2+gT c t.rt
 | .some| .keep=>if m.qu=t.qu then 2 else 4
 | .pop=>if m.qu=t.qu then 1 else 3
 | .grant| .back| .dR=>3
 | .eO=>2
 | .again=>1
 | .done=>0)+(match t.st with
 | .ep| .done=>0
 |_=>if m.ep=t.ep then 0 else 2)
def pX(c:Cn)(t:Td):Prop:=
 match t.st with
 | .dL=>t.look.fd=none/\t.look.kd=4
 | .old=>t.look.fd=none
 | .go=>pY c t.rt/\t.look.at_<c.S/\t.look.kd=4
 | .pins=>t.look.fd.isSome=true/\t.look.at_<c.S/\t.i=t.look.at_/\t.other<c.W
 | .clear=>t.look.fd.isSome=true/\t.look.at_<c.S/\t.i=t.look.at_
 | .some=>t.look.fd=none/\t.qu≠[]/\t.head<=15/\t.look.kd=3
 | .keep=>t.look.at_<c.S/\t.i=t.look.at_/\t.qu≠[]/\t.head<=15/\t.look.kd=3/\(az t.wd (if t.wd.st=2 then 5 else 7) t.head 0).isSome=true
 | .pop=>t.i<c.S/\t.qu≠[]
 | .grant=>t.i<c.S
 | .back=>t.i<c.S
 | .dR=>t.i<c.S/\∀w:Nat,w<=15->(az t.wd (if t.wd.st=4 then 6 else 8) w 0).isSome=true
 |_=>True
def bQ(c:Cn)(m:Mm):Prop:=(∀i,i<c.S->Facts (m.sl i))/\(∀a∈m.qu,a<c.W)
def Out(m a:Mm)(r e b d:Nat)(c:Cn):Prop:=(a=m/\e+1<=r/\d<=b)\/fJ c m b a d
theorem jQ{S}{m}{t:Td}(h:(t.look.step S m).fd=none):t.fu S m={t with look:=t.look.step S m}:=by
 unfold Td.fu;simp only[h]
def jP{S}{m}{t:Td}{x}{f}(a:t.look.step S m=f)(h:f.fd=some x):t.fu S m={t with look:=f,i:=f.at_,wd:=x}:=by
 unfold Td.fu;simp only[a,h]
def agR{c:Cn}{a}(h:a<c.S):c.W+4<=(c.S-a)*(c.W+4):=by
 have:1*(c.W+4)<=(c.S-a)*(c.W+4):=dq _ (by omega);omega
def Ky{c:Cn}{a}(h:a<c.S):(c.S-(a+1))*(c.W+4)+(c.W+4)=(c.S-a)*(c.W+4):=by
 rw[show c.S-a=(c.S-(a+1))+1 by omega,kj,Nat.one_mul]
def ai8{c:Cn}{a}:(c.S-a)*(c.W+4)<=c.S*(c.W+4):=dq _ (by omega)
theorem nN{c}{m}(M:bQ c m){i}{x n}{d own more}(h:az x d own more=some n):bQ c (m.set i n):=by
 refine⟨λj a=> ?_,M.2⟩;show Facts (upd m.sl i n j);unfold upd;by_cases e:j=i
 .rw[tz e];exact(H8 h).1
 .rw[ck e];exact M.1 j a
def Ty{c}{m}(M:bQ c m):bQ c {m with qu:=m.qu.tail}:=⟨M.1,λa h=>M.2 a (qt h)⟩
theorem DJ{c}{m}{r:Rt}(M:bQ c m):bQ c (r.step m).2:=by
 unfold Rt.step;split
 .split
  .split
   .exact nN M ‹_›
   .exact M
  .exact M
 .exact M
 .split
  .split
   .exact nN M ‹_›
   .exact M
  .exact M
 .exact M
 .exact M
def J8{c}{m a}{t:Td}{d own}(M:bQ c m)(h:t.swap m d own=some a):bQ c a:=by
 unfold Td.swap at h;split at h
 .split at h
  .cases h;exact nN M ‹_›
  .cases h
 .cases h
def aiJ{c}{m}{t:Td}{w}(M:bQ c m):bQ c (t.step c w m).2:=by
 unfold Td.step;split
 .exact M
 .exact M
 .exact M
 .dsimp only;split
  .exact M
  .split<;>exact M
 .dsimp only;split<;>exact DJ M
 .dsimp only;split
  .exact M
  .split<;>exact M
 .split<;>exact M
 .dsimp only
  cases h:t.swap m 12 w with
  |none=>exact M
  |some a=>exact J8 M h
 .split<;>exact M
 .dsimp only;split
  .exact M
  .split<;>exact M
 .split
  .exact J8 M ‹_›
  .exact M
 .split
  .exact Ty M
  .exact M
 .exact M
 .exact M
 .split
  .exact J8 M ‹_›
  .exact M
 .exact M
 .exact M
 .exact M
def J9{m}{t:Td}{d own}{n}(h:az t.wd d own 0=some n)(e:m.sl t.i=t.wd):t.swap m d own=some (m.set t.i n):=by
 grind [Td.swap]
theorem Fv{m}{t:Td}{d own}(e:m.sl t.i≠t.wd):t.swap m d own=none:=by
 grind [Td.swap]
def Good(c:Cn)(w:Nat)(m:Mm)(t:Td):Prop:=
 pX c (t.step c w m).1/\Out m (t.step c w m).2 (xw c m t) (xw c m (t.step c w m).1) (rT c m t) (rT c (t.step c w m).2 (t.step c w m).1) c
def mV{c}{w}{m b}{t a}(e:t.step c w m=(a,b))(T:pX c a)(O:Out m b (xw c m t) (xw c m a) (rT c m t) (rT c b a) c):Good c w m t:=by
 grind [Good]
def eH{c}{w}{m}{t a}(e:t.step c w m=(a,m))(T:pX c a)(r:xw c m a+1<=xw c m t)(b:rT c m a<=rT c m t):Good c w m t:=mV e T (.inl ⟨rfl,r,b⟩)
variable{c:Cn} {w:Nat} {m:Mm} {ep cl:Int} {qu:List Nat} {look:Fd} {i:Nat} {wd:aa} {other head:Nat} {rt:Rt}
def aiN:Good c w m ⟨.ep,ep,cl,qu,look,i,wd,other,head,rt⟩:=by
 refine eH rfl trivial ?_ ?_
 .show 0+1<=1
  omega
 .show 3+(if m.ep=m.ep then 0 else 2)<=3+0
  grind
def aga:Good c w m ⟨.pin,ep,cl,qu,look,i,wd,other,head,rt⟩:=by
 refine mV rfl trivial (.inr (FU ?_));show 2+(if m.ep=ep then 0 else 2)+1<=3+(if m.ep=ep then 0 else 2);omega
def aiO:Good c w m ⟨.cl,ep,cl,qu,look,i,wd,other,head,rt⟩:=by
 refine eH rfl ⟨rfl,rfl⟩ ?_ (aq _);show wR c 0+1<=wR c 0+1;omega
def Fu(f)(h:look.step c.S m=f):(⟨.dL,ep,cl,qu,look,i,wd,other,head,rt⟩:Td).step c w m=
  match f.fd with
  |some x=>(⟨.go,ep,cl,qu,f,f.at_,x,other,head,Rt.new f.at_ x⟩,m)
  |none=>if f.all c.S then(⟨.old,ep,cl,qu,Fd.new 5 w,i,wd,other,head,rt⟩,m)else(⟨.dL,ep,cl,qu,f,i,wd,other,head,rt⟩,m):=by
 unfold Td.step;cases a:f.fd with
 |some x=>
  rw[jP h a];grind
 |none=>
  grind [jQ]
def aar(M:bQ c m)(f:look.fd=none)(k:look.kd=4):Good c w m ⟨.dL,ep,cl,qu,look,i,wd,other,head,rt⟩:=by
 have e:=Fu (c:=c) (w:=w) (m:=m) (ep:=ep) (cl:=cl) (qu:=qu) (look:=look) (i:=i) (wd:=wd) (other:=other) (head:=head) (rt:=rt);rcases nU f with⟨a,h,b⟩|⟨a,h,b,d⟩|⟨a,h,b,d,l⟩
 .have e:=e _ b
  have s:(m.sl look.at_).st=2\/(m.sl look.at_).st=3:=by
   rw[k]at h;rcases h with h|h
   .exact .inl h.1
   .exact .inr h.1
  refine eH e ⟨NB a (M.1 _ a) s,a,k⟩ ?_ (aq _);show(if m.sl look.at_=m.sl look.at_ then 0 else wR c look.at_+1)+1<=wR c look.at_;grind [wR]
 .have e:=e _ rfl
  rw[a]at e;rw[tz h]at e;refine eH e rfl ?_ (aq _);show oR c 0+1<=c.S-look.at_+oR c 0+1;omega
 .have e:=e _ rfl
  rw[a]at e;rw[ck h,d]at e;refine eH e ⟨f,k⟩ ?_ (aq _);show c.S-(look.at_+1)+oR c 0+1+1<=c.S-look.at_+oR c 0+1;omega
def go_eq:(⟨.go,ep,cl,qu,look,i,wd,other,head,rt⟩:Td).step c w m=
  if(rt.step m).1.st=.done then(⟨.dL,ep,cl,qu,look.again,i,wd,other,head,(rt.step m).1⟩,(rt.step m).2)else(⟨.go,ep,cl,qu,look,i,wd,other,head,(rt.step m).1⟩,(rt.step m).2):=rfl
def aiM(z:pY c rt)(u:look.at_<c.S)(b:look.kd=4):Good c w m ⟨.go,ep,cl,qu,look,i,wd,other,head,rt⟩:=by
 obtain⟨D,o,v⟩:=vO (m:=m) z;have e:=go_eq (c:=c) (w:=w) (m:=m) (ep:=ep) (cl:=cl) (qu:=qu) (look:=look) (i:=i) (wd:=wd) (other:=other) (head:=head) (rt:=rt);by_cases d:(rt.step m).1.st=.done
 .rw[tz d]at e
  have A:gT c (rt.step m).1=0:=by unfold gT;rw[d]
  have B:gT c rt<=2+gT c rt:=by omega
  rcases v with⟨-,k, -⟩|⟨f,p,q,l,s⟩|k
  .exact tA d k
  .rw[f]at e
   refine eH e ⟨rfl,b⟩ ?_ ?_
   .have:xw c m ⟨.go,ep,cl,qu,look,i,wd,other,head,rt⟩=wR c look.at_+1:=by
     unfold xw;rw[l];exact ck s
    rw[this];exact aq _
   .show 2+(if m.ep=ep then 0 else 2)<=2+gT c rt+(if m.ep=ep then 0 else 2)
    omega
  .refine mV e ⟨rfl,b⟩ (.inr ?_)
   have:=k (2+(if m.ep=ep then 0 else 2)) (2+(if(rt.step m).2.ep=ep then 0 else 2)) ?_
   .rw[A]at this
    show fJ c m (2+gT c rt+(if m.ep=ep then 0 else 2)) _ (2+(if(rt.step m).2.ep=ep then 0 else 2));rwa[show 2+gT c rt+(if m.ep=ep then 0 else 2)=2+(if m.ep=ep then 0 else 2)+gT c rt by omega]
   .by_cases a:(rt.step m).2.ep=m.ep
    .rw[tz a,a];omega
    .split<;>split<;>omega
 .rw[ck d]at e
  have n:∀x r,rT c x ⟨.go,ep,cl,qu,look,i,wd,other,head,r⟩=2+gT c r+(if x.ep=ep then 0 else 2):=λ_ _=>rfl;rcases v with⟨f,p,q,l,s⟩|⟨f,p,q,l,s⟩|k
  .rw[f]at e
   refine eH e ⟨(o d).1,u,b⟩ ?_ ?_
   .have y:∀r:Rt,r.st≠.swap->xw c m ⟨.go,ep,cl,qu,look,i,wd,other,head,r⟩=xx m r:=by
     intro r C;unfold xw xx;cases h:r.st with
     |swap=>exact tA h C
     |_=>rfl
    rw[y _ l,y _ (o d).2];exact q
   .rw[n,n];omega
  .exact tA p d
  .refine mV e ⟨(o d).1,u,b⟩ (.inr ?_)
   have:=k (2+(if m.ep=ep then 0 else 2)) (2+(if(rt.step m).2.ep=ep then 0 else 2)) ?_
   .rw[n,n]
    rwa[show 2+gT c rt+(if m.ep=ep then 0 else 2)=2+(if m.ep=ep then 0 else 2)+gT c rt by omega,show 2+gT c (rt.step m).1+(if(rt.step m).2.ep=ep then 0 else 2)=2+(if(rt.step m).2.ep=ep then 0 else 2)+gT c (rt.step m).1 by omega]
   .by_cases a:(rt.step m).2.ep=m.ep
    .rw[tz a,a];omega
    .split<;>split<;>omega
def Pf(f)(h:look.step c.S m=f):(⟨.old,ep,cl,qu,look,i,wd,other,head,rt⟩:Td).step c w m=
  match f.fd with
  |some x=>(⟨if jq w 0<c.W then .pins else .clear,ep,cl,qu,f,f.at_,x,jq w 0,head,rt⟩,m)
  |none=>if f.all c.S then(⟨if cl≠0 then .eO else .line,ep,cl,qu,f,i,wd,other,head,rt⟩,m)else(⟨.old,ep,cl,qu,f,i,wd,other,head,rt⟩,m):=by
 unfold Td.step;cases a:f.fd with
 |some x=>
  rw[jP h a];grind
 |none=>
  grind [jQ]
def agb(f:look.fd=none):Good c w m ⟨.old,ep,cl,qu,look,i,wd,other,head,rt⟩:=by
 have e:=Pf (c:=c) (w:=w) (m:=m) (ep:=ep) (cl:=cl) (qu:=qu) (look:=look) (i:=i) (wd:=wd) (other:=other) (head:=head) (rt:=rt);rcases nU f with⟨h,b,d⟩|⟨h,b,d,k⟩|⟨h,b,d,k,o⟩
 .have e:=e _ d
  by_cases n:jq w 0<c.W
  .rw[tz n]at e
   refine eH e ⟨rfl,h,rfl,n⟩ ?_ (aq _);show(c.S-look.at_)*(c.W+4)+lR c-jq w 0+1<=(c.S-look.at_)*(c.W+4)+lR c+1;omega
  .rw[ck n]at e
   refine eH e ⟨rfl,h,rfl⟩ ?_ (aq _);show(c.S-look.at_)*(c.W+4)+lR c-c.W-2+1<=(c.S-look.at_)*(c.W+4)+lR c+1;omega
 .have e:=e _ rfl
  rw[h]at e;rw[tz b]at e;by_cases l:cl≠0
  .rw[tz l]at e
   refine eH e trivial ?_ (aq _);show 0+1<=oR c look.at_;unfold oR;omega
  .rw[ck l]at e
   refine eH e trivial ?_ (aq _);show lR c+1<=oR c look.at_;unfold oR;omega
 .have e:=e _ rfl
  rw[h]at e;rw[ck b,k]at e;refine eH e f ?_ (aq _);show oR c (look.at_+1)+1<=oR c look.at_;unfold oR;have:=Ky (c:=c) (a:=look.at_) (by omega);omega
def aed(a:look.fd.isSome=true)(h:look.at_<c.S)(b:i=look.at_)(l:other<c.W):Good c w m ⟨.pins,ep,cl,qu,look,i,wd,other,head,rt⟩:=by
 have e:(⟨.pins,ep,cl,qu,look,i,wd,other,head,rt⟩:Td).step c w m=(if oC (m.pn other) wd.ep then((⟨.old,ep,cl,qu,look.go,i,wd,other,head,rt⟩:Td),m)else
  ((⟨if jq w (other+1)<c.W then .pins else .clear,ep,cl,qu,look,i,wd,jq w (other+1),head,rt⟩:Td),m)):=rfl
 have s:=Ky h;have f:look.go={look with fd:=none,at_:=look.at_+1}:=by grind [Fd.go]
 by_cases d:oC (m.pn other) wd.ep
 .rw[tz d,f]at e
  refine eH e rfl ?_ (aq _);show oR c (look.at_+1)+1<=(c.S-look.at_)*(c.W+4)+lR c-other;unfold oR;omega
 .rw[ck d]at e
  have k:other+1<=jq w (other+1):=by unfold jq;split<;>omega
  by_cases n:jq w (other+1)<c.W
  .rw[tz n]at e
   refine eH e ⟨a,h,b,n⟩ ?_ (aq _);show(c.S-look.at_)*(c.W+4)+lR c-jq w (other+1)+1<=(c.S-look.at_)*(c.W+4)+lR c-other;omega
  .rw[ck n]at e
   refine eH e ⟨a,h,b⟩ ?_ (aq _);show(c.S-look.at_)*(c.W+4)+lR c-c.W-2+1<=(c.S-look.at_)*(c.W+4)+lR c-other;omega
def aaw(r:look.fd.isSome=true)(b:look.at_<c.S)(f:i=look.at_):Good c w m ⟨.clear,ep,cl,qu,look,i,wd,other,head,rt⟩:=by
 subst f;have s:=Ky b;have k:look.go={look with fd:=none,at_:=look.at_+1}:=by grind [Fd.go]
 have e:(⟨.clear,ep,cl,qu,look,look.at_,wd,other,head,rt⟩:Td).step c w m=((⟨.old,ep,cl,qu,look.go,look.at_,wd,other,head,rt⟩:Td),((⟨.clear,ep,cl,qu,look,look.at_,wd,other,head,rt⟩:Td).swap m 12 w).getD m):=rfl;rw[k]at e;have q:((⟨.clear,ep,cl,qu,look,look.at_,wd,other,head,rt⟩:Td).swap m 12 w)=none->Good c w m ⟨.clear,ep,cl,qu,look,look.at_,wd,other,head,rt⟩:=by
  intro l;rw[l]at e;refine eH e rfl ?_ (aq _);show oR c (look.at_+1)+1<=(c.S-look.at_)*(c.W+4)+lR c-c.W-2;unfold oR;omega
 by_cases d:m.sl look.at_=wd
 .cases h:az wd 12 w 0 with
  |none=>exact q (by unfold Td.swap;simp only[h])
  |some n=>
   rw[J9 (t:=⟨.clear,ep,cl,qu,look,look.at_,wd,other,head,rt⟩) h d]at e;have a:=(eT h).2.2.2.2.2.2.2.2.2.2.2.2.1 rfl;refine mV e rfl (.inr (gG b d ?_));have o:cS c n=0:=by unfold cS;rw[ck (by omega),ck (by omega)]
   have p:cS c wd=1:=by unfold cS;rw[tz a.1]
   rw[o,p];exact aq _
 grind [Fv]
def aee(b:c.W<=15)(M:bQ c m):Good c w m ⟨.line,ep,cl,qu,look,i,wd,other,head,rt⟩:=by
 cases h:m.qu with
 |nil=>
  have e:(⟨.line,ep,cl,qu,look,i,wd,other,head,rt⟩:Td).step c w m=((⟨.eO,ep,cl,[],look,i,wd,other,head,rt⟩:Td),m):=by
   grind [Td.step]
  refine eH e trivial ?_ (aq _);show 0+1<=lR c;unfold lR;omega
 |cons a r=>
  have e:(⟨.line,ep,cl,qu,look,i,wd,other,head,rt⟩:Td).step c w m=((⟨.some,ep,cl,a::r,Fd.new 3 w,i,wd,other,a,rt⟩:Td),m):=by
   grind [Td.step]
  have d:=M.2 a (by grind);refine eH e ⟨rfl,List.cons_ne_nil _ _,by grind,rfl⟩ ?_ ?_
  .show c.S-0+2+1<=lR c
   unfold lR;omega
  .show(if m.qu=a::r then 2 else 4)+_<=2+_
   rw[tz h];exact aq _
def Ke(f)(h:look.step c.S m=f):(⟨.some,ep,cl,qu,look,i,wd,other,head,rt⟩:Td).step c w m=
  match f.fd with
  |some x=>(⟨.keep,ep,cl,qu,f,f.at_,x,other,head,rt⟩,m)
  |none=>if f.all c.S then(⟨.eO,ep,cl,qu,f,i,wd,other,head,rt⟩,m)else(⟨.some,ep,cl,qu,f,i,wd,other,head,rt⟩,m):=by
 unfold Td.step;cases a:f.fd with
 |some x=>
  rw[jP h a];grind
 |none=>
  grind [jQ]
def aec(M:bQ c m)(f:look.fd=none)(q:qu≠[])(d:head<=15)(k:look.kd=3):Good c w m ⟨.some,ep,cl,qu,look,i,wd,other,head,rt⟩:=by
 have e:=Ke (c:=c) (w:=w) (m:=m) (ep:=ep) (cl:=cl) (qu:=qu) (look:=look) (i:=i) (wd:=wd) (other:=other) (head:=head) (rt:=rt);rcases nU f with⟨h,a,b⟩|⟨h,a,b,l⟩|⟨h,a,b,l,n⟩
 .have e:=e _ b
  rw[k]at a;refine eH e ⟨h,rfl,q,d,k,aeU (M.1 _ h) a (fp _) (by show(head:Int)<=15;omega)⟩ ?_ (aq _);show(if m.sl look.at_=m.sl look.at_ then 0 else _)+1<=c.S-look.at_+2;grind
 .have e:=e _ rfl
  rw[h]at e;rw[tz a]at e;refine eH e trivial ?_ ?_
  .show 0+1<=c.S-look.at_+2
   omega
  .show 2+(if m.ep=ep then 0 else 2)<=(if m.qu=qu then 2 else 4)+(if m.ep=ep then 0 else 2)
   have:2<=(if m.qu=qu then 2 else 4):=by split<;>omega
   omega
 .have e:=e _ rfl
  rw[h]at e;rw[ck a,l]at e;refine eH e ⟨f,q,d,k⟩ ?_ (aq _);show c.S-(look.at_+1)+2+1<=c.S-look.at_+2;omega
def aef(b:look.at_<c.S)(f:i=look.at_)(d:qu≠[])(k:head<=15)(l:look.kd=3)(o:(az wd (if wd.st=2 then 5 else 7) head 0).isSome=true):Good c w m ⟨.keep,ep,cl,qu,look,i,wd,other,head,rt⟩:=by
 subst f;have e:(⟨.keep,ep,cl,qu,look,look.at_,wd,other,head,rt⟩:Td).step c w m=match(⟨.keep,ep,cl,qu,look,look.at_,wd,other,head,rt⟩:Td).swap m (if wd.st=2 then 5 else 7) head with
  |some m=>(⟨.pop,ep,cl,qu,look,look.at_,wd,other,head,rt⟩,m)
  |none=>(⟨.some,ep,cl,qu,look.again,look.at_,wd,other,head,rt⟩,m):=rfl
 by_cases a:m.sl look.at_=wd
 .obtain⟨n,h⟩:=cP.1 o
  rw[J9 (t:=⟨.keep,ep,cl,qu,look,look.at_,wd,other,head,rt⟩) h a]at e;refine mV e ⟨b,d⟩ (.inr (gG b a ?_));have p:cS c n<=cS c wd:=by
   by_cases s:wd.st=2
   .rw[tz s]at h
    have:=(eT h).2.2.2.2.2.1 rfl;grind [cS]
   .rw[ck s]at h
    have:=(eT h).2.2.2.2.2.2.2.1 rfl;unfold cS;rw[ck (by omega),ck (by omega)];exact tE _
  show(if m.qu=qu then 1 else 3)+(if m.ep=ep then 0 else 2)+cS c n+1<=(if m.qu=qu then 2 else 4)+(if m.ep=ep then 0 else 2)+cS c wd;split<;>omega
 .rw[Fv a]at e
  refine eH e ⟨rfl,d,k,l⟩ ?_ (aq _);show c.S-look.at_+2+1<=(if m.sl look.at_=wd then 0 else c.S-look.at_+3);rw[ck a];exact aq _
def af'(a:i<c.S)(b:qu≠[]):Good c w m ⟨.pop,ep,cl,qu,look,i,wd,other,head,rt⟩:=by
 have e:(⟨.pop,ep,cl,qu,look,i,wd,other,head,rt⟩:Td).step c w m=if m.qu=qu then(⟨.grant,ep,cl,qu,look,i,wd,other,head,rt⟩,{m with qu:=m.qu.tail})else(⟨.back,ep,cl,qu,look,i,wd,other,head,rt⟩,m):=rfl
 by_cases h:m.qu=qu
 .rw[tz h]at e
  refine mV e a (.inr (PE (by rw[h];exact b) ?_));show 3+(if m.ep=ep then 0 else 2)+2*c.W+1<=(if m.qu=qu then 1 else 3)+(if m.ep=ep then 0 else 2)+lE c;grind [lE]
 .rw[ck h]at e
  refine eH e a ?_ ?_
  .show lR c+2+1<=(if m.qu=qu then 0 else lR c+3)
   grind
  .show 3+_<=(if m.qu=qu then 1 else 3)+_
   grind
def aav:Good c w m ⟨.grant,ep,cl,qu,look,i,wd,other,head,rt⟩:=by
 refine mV rfl trivial (.inr (Aq ?_));show 2+(if m.ep=ep then 0 else 2)+1<=3+(if m.ep=ep then 0 else 2);omega
def aeg(M:bQ c m)(a:i<c.S):Good c w m ⟨.back,ep,cl,qu,look,i,wd,other,head,rt⟩:=by
 have e:(⟨.back,ep,cl,qu,look,i,wd,other,head,rt⟩:Td).step c w m=(⟨if(m.sl i).st=4\/(m.sl i).st=5 then .dR else .line,ep,cl,qu,look,i,m.sl i,other,head,rt⟩,m):=rfl;by_cases h:(m.sl i).st=4\/(m.sl i).st=5
 .rw[tz h]at e
  refine eH e ⟨a,λw b=>Yv (M.1 _ a) h (by omega) (by omega)⟩ ?_ (aq _);show(if m.sl i=m.sl i then 0 else lR c+3)+1<=lR c+2;grind
 .rw[ck h]at e
  refine eH e trivial ?_ ?_
  .show lR c+1<=lR c+2
   omega
  .show 2+(if m.ep=ep then 0 else 2)<=3+(if m.ep=ep then 0 else 2)
   split<;>omega
def Xo(d:w<=15)(b:i<c.S)(f:∀w:Nat,w<=15->(az wd (if wd.st=4 then 6 else 8) w 0).isSome=true):Good c w m ⟨.dR,ep,cl,qu,look,i,wd,other,head,rt⟩:=by
 have e:(⟨.dR,ep,cl,qu,look,i,wd,other,head,rt⟩:Td).step c w m=match(⟨.dR,ep,cl,qu,look,i,wd,other,head,rt⟩:Td).swap m (if wd.st=4 then 6 else 8) w with
  |some m=>(⟨.cl,ep,cl,qu,look,i,wd,other,head,rt⟩,m)
  |none=>(⟨.back,ep,cl,qu,look,i,wd,other,head,rt⟩,m):=rfl
 by_cases a:m.sl i=wd
 .obtain⟨n,h⟩:=cP.1 (f w d)
  rw[J9 (t:=⟨.dR,ep,cl,qu,look,i,wd,other,head,rt⟩) h a]at e;refine mV e trivial (.inr (gG b a ?_));have k:cS c n<=cS c wd:=by
   by_cases s:wd.st=4
   .rw[tz s]at h
    have:=(eT h).2.2.2.2.2.2.1 rfl;grind [cS]
   .rw[ck s]at h
    have:=(eT h).2.2.2.2.2.2.2.2.1 rfl;unfold cS;rw[ck (by omega),ck (by omega)];exact tE _
  show 2+(if m.ep=ep then 0 else 2)+cS c n+1<=3+(if m.ep=ep then 0 else 2)+cS c wd;split<;>omega
 .rw[Fv a]at e
  refine eH e b ?_ (aq _);show lR c+2+1<=(if m.sl i=wd then 0 else lR c+3);rw[ck a];exact aq _
def aaq:Good c w m ⟨.eO,ep,cl,qu,look,i,wd,other,head,rt⟩:=by
 refine mV rfl trivial (.inr (FU ?_));show 1+(if m.ep=ep then 0 else 2)+1<=2+(if m.ep=ep then 0 else 2);omega
def aax:Good c w m ⟨.again,ep,cl,qu,look,i,wd,other,head,rt⟩:=by
 have e:(⟨.again,ep,cl,qu,look,i,wd,other,head,rt⟩:Td).step c w m=((⟨if m.ep=ep then .done else .ep,ep,cl,qu,look,i,wd,other,head,rt⟩:Td),m):=rfl;by_cases h:m.ep=ep
 .rw[tz h]at e
  refine eH e trivial ?_ ?_
  .show 0+1<=2
   omega
  .show 0+0<=1+(if m.ep=ep then 0 else 2)
   omega
 .rw[ck h]at e
  refine eH e trivial ?_ ?_
  .show 1+1<=2
   omega
  .show 3+0<=1+(if m.ep=ep then 0 else 2)
   grind
def aeb{c}{m}{t}{w}(h:w<=15)(a:c.W<=15)(M:bQ c m)(T:pX c t)(d:t.st≠.done):Good c w m t:=by
 obtain⟨s,ep,cl,qu,look,i,wd,other,head,rt⟩:=t;cases s with
 |ep=>exact aiN
 |pin=>exact aga
 |cl=>exact aiO
 |dL=>exact aar M T.1 T.2
 |go=>exact aiM T.1 T.2.1 T.2.2
 |old=>exact agb T
 |pins=>exact aed T.1 T.2.1 T.2.2.1 T.2.2.2
 |clear=>exact aaw T.1 T.2.1 T.2.2
 |line=>exact aee a M
 |some=>exact aec M T.1 T.2.1 T.2.2.1 T.2.2.2
 |keep=>exact aef T.1 T.2.1 T.2.2.1 T.2.2.2.1 T.2.2.2.2.1 T.2.2.2.2.2
 |pop=>exact af' T.1 T.2
 |grant=>exact aav
 |back=>exact aeg M T
 |dR=>exact Xo h T.1 T.2
 |eO=>exact aaq
 |again=>exact aax
 |done=>grind
end
noncomputable section
open Classical
def Has(c:Cn)(m:Mm):Prop:=∃j,j<c.S/\(jg (m.sl j)\/j6 (m.sl j))
def acL(c:Cn)(m:Mm)(a:Nat):Prop:=∃j,j<c.S/\a<=j/\jg (m.sl j)
def yI(c:Cn)(m:Mm)(a:Nat):Prop:=∃j,j<c.S/\a<=j/\j6 (m.sl j)
def Bv(c:Cn)(m:Mm)(a:Nat):Prop:=acL c m a\/yI c m 0
def T0(c:Cn):Nat:=3*(c.S+1)+2
def K0(c:Cn):Nat:=2*c.S+4+T0 c
def Ch(c:Cn)(m:Mm)(a:Nat):Nat:=2*(c.S+1)+(c.S-a)+1+if Has c m then 0 else K0 c
def Ci(c:Cn)(m:Mm)(a:Nat):Nat:=(c.S+1)+(c.S-a)+1+if Bv c m a then 0 else K0 c
def xy(c:Cn)(m:Mm)(a:Nat):Nat:=(c.S-a)+1+if yI c m a then 0 else K0 c
def vz(c:Cn)(m:Mm)(t:Tk):Nat:=
 match t.st with
 | .closed=>T0 c+if Has c m then 0 else K0 c
 | .own=>Ch c m t.look.at_
 | .gp=>if m.sl t.look.at_=t.look.wd then 0 else Ch c m t.look.at_+1
 | .any=>Ci c m t.look.at_
 | .anyS=>if m.sl t.look.at_=t.look.wd then 0 else Ci c m t.look.at_+1
 | .free=>xy c m t.look.at_
 | .dQ=>if m.sl t.look.at_=t.look.wd then 0 else xy c m t.look.at_+1
 | .move=>3
 | .check=>2
 | .back=>1
 | .go=>match t.rt.st with| .swap=>if m.sl t.rt.i=t.rt.wd then 0 else 2| .look=>2| .iI=>1|_=>0
 | .grant=>1
 | .eG=>if m.sl t.i=t.wd then 0 else 2
 |_=>0
def bP(c:Cn):Nat:=cI c+c.S+8
def bG(c:Cn):Nat:=lE c+2*c.W+6+bP c
def uL(c:Cn)(t:Tk):Nat:=
 match t.st with
 | .closed| .own| .gp| .any| .anyS| .free| .dQ=>bG c
 | .move| .dD=>(c.S-t.look.at_)+4
 | .check| .back=>4
 | .go=>4+gT c t.rt
 | .bM=>cI c+5
 | .grant| .eG=>cI c+6
 | .done=>0
def pW(c:Cn)(w:Nat)(t:Tk):Prop:=
 match t.st with
 | .closed=>True
 | .own=>t.look.fd=none/\t.look.kd=0
 | .any=>t.look.fd=none/\t.look.kd=1
 | .free=>t.look.fd=none/\t.look.kd=2
 | .gp=>t.look.at_<c.S/\t.look.kd=0/\(az t.look.wd 3 w 0).isSome=true
 | .anyS=>t.look.at_<c.S/\t.look.kd=1/\(az t.look.wd 3 w 0).isSome=true
 | .dQ=>t.look.at_<c.S/\t.look.kd=2/\(az t.look.wd 0 w 0).isSome=true
 | .move=>t.look.fd=none/\t.i<c.S
 | .dD=>t.look.at_<c.S/\t.i<c.S/\t.look.fd.isSome=true
 | .check| .back| .bM| .grant| .eG=>t.i<c.S
 | .go=>pY c t.rt/\t.i<c.S
 | .done=>True
def iy(c:Cn)(w:Nat)(m:Mm)(g:Bool)(t:Tk):Prop:=
 ((t.step w c.S m g).1.st=.done->((t.step w c.S m g).1.e=3/\(t.step w c.S m g).2=m/\uL c t=bG c/\K0 c+1<=vz c m t)\/((t.step w c.S m g).1.e≠3/\fJ c m (uL c t) (t.step w c.S m g).2 3))/\
 ((t.step w c.S m g).1.st≠.done->pW c w (t.step w c.S m g).1/\Out m (t.step w c.S m g).2 (vz c m t) (vz c m (t.step w c.S m g).1) (uL c t) (uL c (t.step w c.S m g).1) c)
def dH{c}{m}{b a}(h:a+1<=b):fJ c m b m a:=by
 unfold fJ zA;simp;omega
def adr{c}{w}{m b}{g}{t a}(e:t.step w c.S m g=(a,b))(h:a.st≠.done)(T:pW c w a)(O:Out m b (vz c m t) (vz c m a) (uL c t) (uL c a) c):iy c w m g t:=by
 grind [iy]
def lF{c}{w}{m}{g}{t a}(e:t.step w c.S m g=(a,m))(h:a.st≠.done)(T:pW c w a)(r:vz c m a+1<=vz c m t)(b:uL c a<=uL c t):iy c w m g t:=adr e h T (.inl ⟨rfl,r,b⟩)
def sI{c}{w}{m d}{g}{t a}(e:t.step w c.S m g=(a,d))(h:a.st≠.done)(T:pW c w a)(b:fJ c m (uL c t) d (uL c a)):iy c w m g t:=adr e h T (.inr b)
def FZ{c}{w}{m d}{g}{t a}(e:t.step w c.S m g=(a,d))(h:a.st=.done)(f:a.e≠3)(b:fJ c m (uL c t) d 3):iy c w m g t:=by
 grind [iy]
def alz{c}{w}{m}{g}{t a}(e:t.step w c.S m g=(a,m))(h:a.st=.done)(d:a.e=3)(b:uL c t=bG c)(r:K0 c+1<=vz c m t):iy c w m g t:=by
 grind [iy]
def E9{w:Nat}{m}{t:Tk}{i}{a}{d}{n}(h:az a d w 0=some n)(e:m.sl i=a):t.swap w m i a d=some ({t with i:=i,wd:=n,gen:=n.gen},m.set i n):=by
 grind [Tk.swap]
def BH{w}{m}{t:Tk}{i}{a}{d}(e:m.sl i≠a):t.swap w m i a d=none:=by
 grind [Tk.swap]
theorem lQ{w}{m}{t:Tk}{i}{wd}{d}:t.swap w m i wd d=none\/∃n,az wd d w 0=some n/\m.sl i=wd/\t.swap w m i wd d=some ({t with i:=i,wd:=n,gen:=n.gen},m.set i n):=by
 grind [Tk.swap]
def ajG(c)(s):cS c s<=cI c:=by
 grind [cS,cI]
def kJ{c}{s}(h:s.st=2\/s.st=3\/s.st=4):cS c s=cI c:=by
 grind [cS]
def Gq{c}{s}(h:s.st=0\/s.st=1\/s.st=5):cS c s=0:=by
 grind [cS]
variable{c:Cn} {w:Nat} {m:Mm} {g:Bool} {look:Fd} {i:Nat} {wd:aa} {gen:Int} {ps:Bool} {rt:Rt} {e:Int}
def BL:iy c w m g ⟨.closed,look,i,wd,gen,ps,rt,e⟩:=by
 have h:(⟨.closed,look,i,wd,gen,ps,rt,e⟩:Tk).step w c.S m g=if m.cl≠0 then(⟨.done,look,i,wd,gen,ps,rt,5⟩,m)else(⟨.own,Fd.new 0 w,i,wd,gen,ps,rt,e⟩,m):=rfl
 by_cases a:m.cl≠0
 .rw[tz a]at h
  refine FZ h rfl (show(5:Int)≠3 by decide) (dH ?_);show 3+1<=bG c;unfold bG;omega
 .rw[ck a]at h
  refine lF h gm.noConfusion ⟨rfl,rfl⟩ ?_ (aq _);show 2*(c.S+1)+(c.S-0)+1+(if Has c m then 0 else K0 c)+1<=T0 c+(if Has c m then 0 else K0 c);unfold T0;omega
def Co(f)(h:look.step c.S m=f):(⟨.own,look,i,wd,gen,ps,rt,e⟩:Tk).step w c.S m g=
  if f.fd.isSome then(⟨.gp,f,i,wd,gen,ps,rt,e⟩,m)else if f.all c.S then(⟨.any,Fd.new 1 w,i,wd,gen,ps,rt,e⟩,m)else(⟨.own,f,i,wd,gen,ps,rt,e⟩,m):=by
 subst h;rfl
def any_eq(f)(h:look.step c.S m=f):(⟨.any,look,i,wd,gen,ps,rt,e⟩:Tk).step w c.S m g=
  if f.fd.isSome then(⟨.anyS,f,i,wd,gen,ps,rt,e⟩,m)else if f.all c.S then(⟨.free,Fd.new 2 w,i,wd,gen,ps,rt,e⟩,m)else(⟨.any,f,i,wd,gen,ps,rt,e⟩,m):=by
 subst h;rfl
def free_eq(f)(h:look.step c.S m=f):(⟨.free,look,i,wd,gen,ps,rt,e⟩:Tk).step w c.S m g=
  if f.fd.isSome then(⟨.dQ,f,i,wd,gen,ps,rt,e⟩,m)else if f.all c.S then(⟨.done,f,i,wd,gen,ps,rt,3⟩,m)else(⟨.free,f,i,wd,gen,ps,rt,e⟩,m):=by
 subst h;rfl
def Oc(q:w<=15)(M:bQ c m)(l:look.fd=none)(k:look.kd=0):iy c w m g ⟨.own,look,i,wd,gen,ps,rt,e⟩:=by
 rcases nU (S:=c.S) l with⟨b,a,d⟩|⟨b,a,d,n⟩|⟨b,a,d,n,r⟩
 .have h:=Co (w:=w) (i:=i) (wd:=wd) (gen:=gen) (ps:=ps) (rt:=rt) (e:=e) (g:=g) _ d
  rw[k]at a;have a:=a.1;refine lF h gm.noConfusion ⟨b,k,Pj (M.1 _ b) a (fp _) (by omega)⟩ ?_ (aq _);show(if m.sl look.at_=m.sl look.at_ then 0 else _)+1<=Ch c m look.at_;grind [Ch]
 .have h:=Co (c:=c) (m:=m) (w:=w) (i:=i) (wd:=wd) (gen:=gen) (ps:=ps) (rt:=rt) (e:=e) (g:=g) (look:=look) _ rfl
  rw[b,ck (by decide),tz a]at h;refine lF h gm.noConfusion ⟨rfl,rfl⟩ ?_ (aq _);show(c.S+1)+(c.S-0)+1+(if Bv c m 0 then 0 else K0 c)+1<=2*(c.S+1)+(c.S-look.at_)+1+if Has c m then 0 else K0 c
  have:(if Bv c m 0 then 0 else K0 c)<=(if Has c m then 0 else K0 c):=by
   by_cases p:Has c m
   .obtain⟨j,o,f⟩:=p
    rw[tz (f.elim (λh=>.inl ⟨j,o,tE _,h⟩) (λh=>.inr ⟨j,o,tE _,h⟩))];exact tE _
   .split<;>omega
  omega
 .have h:=Co (c:=c) (m:=m) (w:=w) (i:=i) (wd:=wd) (gen:=gen) (ps:=ps) (rt:=rt) (e:=e) (g:=g) (look:=look) _ rfl
  rw[b,ck (by decide),ck a,n]at h;refine lF h gm.noConfusion ⟨l,k⟩ ?_ (aq _);show 2*(c.S+1)+(c.S-(look.at_+1))+1+(if Has c m then 0 else K0 c)+1<=2*(c.S+1)+(c.S-look.at_)+1+(if Has c m then 0 else K0 c);omega
def ajw{a}(h:¬jg (m.sl a)):acL c m (a+1)↔acL c m a:=by
 constructor
 .rintro⟨j,d,f,b⟩;exact⟨j,d,by omega,b⟩
 .rintro⟨j,d,f,b⟩
  have:j≠a:=λe=>h (e▸b);exact⟨j,d,by omega,b⟩
def ajx{a}(h:¬j6 (m.sl a)):yI c m (a+1)↔yI c m a:=by
 constructor
 .rintro⟨j,d,f,b⟩;exact⟨j,d,by omega,b⟩
 .rintro⟨j,d,f,b⟩
  have:j≠a:=λe=>h (e▸b);exact⟨j,d,by omega,b⟩
def Zm{S}{m}{f:Fd}(h:f.fd=none)(a:(f.step S m).all S):∀j,j<S->f.at_<=j->¬fits f.kd f.ow (m.sl j):=by
 rw[KY h]at a;by_cases b:S<=f.at_
 .omega
 .rw[ck b]at a
  by_cases d:fits f.kd f.ow (m.sl f.at_)
  .rw[tz d]at a;cases a.1
  .have:=a.2
   grind
def Od(u:w<=15)(M:bQ c m)(f:look.fd=none)(k:look.kd=1):iy c w m g ⟨.any,look,i,wd,gen,ps,rt,e⟩:=by
 rcases nU (S:=c.S) f with⟨b,a,d⟩|⟨b,a,d,p⟩|⟨b,a,d,p,q⟩
 .have h:=any_eq (w:=w) (i:=i) (wd:=wd) (gen:=gen) (ps:=ps) (rt:=rt) (e:=e) (g:=g) _ d
  rw[k]at a;refine lF h gm.noConfusion ⟨b,k,Pj (M.1 _ b) a (fp _) (by omega)⟩ ?_ (aq _);show(if m.sl look.at_=m.sl look.at_ then 0 else _)+1<=Ci c m look.at_;grind [Ci]
 .have h:=any_eq (c:=c) (m:=m) (w:=w) (i:=i) (wd:=wd) (gen:=gen) (ps:=ps) (rt:=rt) (e:=e) (g:=g) (look:=look) _ rfl
  rw[b,ck (by decide),tz a]at h;refine lF h gm.noConfusion ⟨rfl,rfl⟩ ?_ (aq _);show(c.S-0)+1+(if yI c m 0 then 0 else K0 c)+1<=(c.S+1)+(c.S-look.at_)+1+if Bv c m look.at_ then 0 else K0 c
  have r:=Zm f a;rw[k]at r;have:(if yI c m 0 then 0 else K0 c)<=(if Bv c m look.at_ then 0 else K0 c):=by
   by_cases l:Bv c m look.at_
   .rcases l with⟨j,s,n,o⟩|l
    .exact tA o (r j s n)
    .rw[tz l];exact tE _
   .split<;>omega
  omega
 .have h:=any_eq (c:=c) (m:=m) (w:=w) (i:=i) (wd:=wd) (gen:=gen) (ps:=ps) (rt:=rt) (e:=e) (g:=g) (look:=look) _ rfl
  rw[b,ck (by decide),ck a,p]at h;refine lF h gm.noConfusion ⟨f,k⟩ ?_ (aq _);show(c.S+1)+(c.S-(look.at_+1))+1+(if Bv c m (look.at_+1)then 0 else K0 c)+1<=(c.S+1)+(c.S-look.at_)+1+(if Bv c m look.at_ then 0 else K0 c);rw[k]at q;have:Bv c m (look.at_+1)↔Bv c m look.at_:=by unfold Bv;rw[ajw q]
  rw[propext this];omega
def JQ(s:w<=15)(M:bQ c m)(f:look.fd=none)(k:look.kd=2):iy c w m g ⟨.free,look,i,wd,gen,ps,rt,e⟩:=by
 rcases nU (S:=c.S) f with⟨b,a,d⟩|⟨b,a,d,o⟩|⟨b,a,d,o,p⟩
 .have h:=free_eq (w:=w) (i:=i) (wd:=wd) (gen:=gen) (ps:=ps) (rt:=rt) (e:=e) (g:=g) _ d
  rw[k]at a;refine lF h gm.noConfusion ⟨b,k,aeV (M.1 _ b) a (fp _) (by omega)⟩ ?_ (aq _);show(if m.sl look.at_=m.sl look.at_ then 0 else _)+1<=xy c m look.at_;grind [xy]
 .have h:=free_eq (c:=c) (m:=m) (w:=w) (i:=i) (wd:=wd) (gen:=gen) (ps:=ps) (rt:=rt) (e:=e) (g:=g) (look:=look) _ rfl
  rw[b,ck (by decide),tz a]at h;refine alz h rfl rfl rfl ?_;show K0 c+1<=(c.S-look.at_)+1+if yI c m look.at_ then 0 else K0 c
  have q:=Zm f a;rw[k]at q;rw[ck (λ⟨j,r,l,n⟩=>q j r l n)];omega
 .have h:=free_eq (c:=c) (m:=m) (w:=w) (i:=i) (wd:=wd) (gen:=gen) (ps:=ps) (rt:=rt) (e:=e) (g:=g) (look:=look) _ rfl
  rw[b,ck (by decide),ck a,o]at h;refine lF h gm.noConfusion ⟨f,k⟩ ?_ (aq _);show(c.S-(look.at_+1))+1+(if yI c m (look.at_+1)then 0 else K0 c)+1<=(c.S-look.at_)+1+(if yI c m look.at_ then 0 else K0 c);rw[k]at p;rw[propext (ajx p)];omega
def JO(d:look.at_<c.S)(k:look.kd=0)(a:(az look.wd 3 w 0).isSome=true):iy c w m g ⟨.gp,look,i,wd,gen,ps,rt,e⟩:=by
 have h:(⟨.gp,look,i,wd,gen,ps,rt,e⟩:Tk).step w c.S m g=match(⟨.gp,look,i,wd,gen,ps,rt,e⟩:Tk).swap w m look.at_ look.wd 3 with
  |some (t,m)=>({t with st:=.check},m)
  |none=>(⟨.own,look.again,i,wd,gen,ps,rt,e⟩,m):=rfl
 obtain⟨n,a⟩:=cP.1 a;by_cases b:m.sl look.at_=look.wd
 .rw[E9 a b]at h
  have s:=(eT a).2.2.2.1 rfl;refine sI h gm.noConfusion d (gG d b ?_);rw[kJ (by omega),kJ (by omega)];show 4+cI c+1<=bG c+cI c;unfold bG;omega
 .rw[BH b]at h
  refine lF h gm.noConfusion ⟨rfl,k⟩ ?_ (aq _);show Ch c m look.at_+1<=if m.sl look.at_=look.wd then 0 else Ch c m look.at_+1
  grind
def JU(b:look.at_<c.S)(k:look.kd=1)(d:(az look.wd 3 w 0).isSome=true):iy c w m g ⟨.anyS,look,i,wd,gen,ps,rt,e⟩:=by
 have h:(⟨.anyS,look,i,wd,gen,ps,rt,e⟩:Tk).step w c.S m g=match(⟨.anyS,look,i,wd,gen,ps,rt,e⟩:Tk).swap w m look.at_ look.wd 3 with
  |some (f,m)=>if look.wd.own=w then({f with st:=.check},m)else({f with ps:=false,look:=Fd.new 0 look.wd.own,st:=.move},m)
  |none=>(⟨.any,look.again,i,wd,gen,ps,rt,e⟩,m):=rfl
 obtain⟨n,d⟩:=cP.1 d;by_cases a:m.sl look.at_=look.wd
 .rw[E9 d a]at h
  dsimp only at h;have s:=(eT d).2.2.2.1 rfl;by_cases o:look.wd.own=w
  .rw[tz o]at h
   refine sI h gm.noConfusion b (gG b a ?_);rw[kJ (by omega),kJ (by omega)];show 4+cI c+1<=bG c+cI c;unfold bG;omega
  .rw[ck o]at h
   refine sI h gm.noConfusion ⟨rfl,b⟩ (gG b a ?_);rw[kJ (by omega),kJ (by omega)];show c.S-0+4+cI c+1<=bG c+cI c;unfold bG bP;omega
 .rw[BH a]at h
  refine lF h gm.noConfusion ⟨rfl,k⟩ ?_ (aq _);show Ci c m look.at_+1<=if m.sl look.at_=look.wd then 0 else Ci c m look.at_+1
  rw[ck a];exact aq _
def Fe(d:look.at_<c.S)(k:look.kd=2)(a:(az look.wd 0 w 0).isSome=true):iy c w m g ⟨.dQ,look,i,wd,gen,ps,rt,e⟩:=by
 have h:(⟨.dQ,look,i,wd,gen,ps,rt,e⟩:Tk).step w c.S m g=match(⟨.dQ,look,i,wd,gen,ps,rt,e⟩:Tk).swap w m look.at_ look.wd 0 with
  |some (t,m)=>({t with st:=.bM},m)
  |none=>(⟨.free,look.again,i,wd,gen,ps,rt,e⟩,m):=rfl
 obtain⟨n,a⟩:=cP.1 a;by_cases b:m.sl look.at_=look.wd
 .rw[E9 a b]at h
  have s:=(eT a).1 rfl;refine sI h gm.noConfusion d (gG d b ?_);rw[Gq (by omega),Gq (by omega)];show cI c+5+0+1<=bG c+0;unfold bG bP;omega
 .rw[BH b]at h
  refine lF h gm.noConfusion ⟨rfl,k⟩ ?_ (aq _);show xy c m look.at_+1<=if m.sl look.at_=look.wd then 0 else xy c m look.at_+1
  grind
def yZ(f)(h:look.step c.S m=f):(⟨.move,look,i,wd,gen,ps,rt,e⟩:Tk).step w c.S m g=
  if f.fd.isSome then(if ps then(⟨.move,f.go,i,wd,gen,false,rt,e⟩,m)else(⟨.dD,f,i,wd,gen,true,rt,e⟩,m))else if f.all c.S then(⟨.check,f,i,wd,gen,ps,rt,e⟩,m)else(⟨.move,f,i,wd,gen,ps,rt,e⟩,m):=by
 subst h;rfl
def JP(k:look.fd=none)(b:i<c.S):iy c w m g ⟨.move,look,i,wd,gen,ps,rt,e⟩:=by
 rcases nU (S:=c.S) (m:=m) k with⟨a,d,f⟩|⟨a,d,f,l⟩|⟨a,d,f,l,n⟩
 .have h:=yZ (w:=w) (i:=i) (wd:=wd) (gen:=gen) (ps:=ps) (rt:=rt) (e:=e) (g:=g) _ f
  cases ps with
  |true=>
   refine sI h gm.noConfusion ⟨rfl,b⟩ (dH ?_);show c.S-(look.at_+1)+4+1<=c.S-look.at_+4;omega
  |false=>
   refine lF h gm.noConfusion ⟨a,b,rfl⟩ ?_ (aq _);show 0+1<=3;omega
 .have h:=yZ (c:=c) (m:=m) (w:=w) (i:=i) (wd:=wd) (gen:=gen) (ps:=ps) (rt:=rt) (e:=e) (g:=g) (look:=look) _ rfl
  rw[a,ck (by decide),tz d]at h;refine lF h gm.noConfusion b ?_ ?_
  .show 2+1<=3
   omega
  .show 4<=c.S-look.at_+4
   omega
 .have h:=yZ (c:=c) (m:=m) (w:=w) (i:=i) (wd:=wd) (gen:=gen) (ps:=ps) (rt:=rt) (e:=e) (g:=g) (look:=look) _ rfl
  rw[a,ck (by decide),ck d,l]at h;refine sI h gm.noConfusion ⟨k,b⟩ (dH ?_);show c.S-(look.at_+1)+4+1<=c.S-look.at_+4;omega
def Fa(f:look.at_<c.S)(a:i<c.S)(l:look.fd.isSome=true):iy c w m g ⟨.dD,look,i,wd,gen,ps,rt,e⟩:=by
 have h:(⟨.dD,look,i,wd,gen,ps,rt,e⟩:Tk).step w c.S m g=match az look.wd 9 w 0 with
  |some n=>if m.sl look.at_=look.wd then(⟨.move,look.go,i,wd,gen,ps,rt,e⟩,m.set look.at_ n)else(⟨.move,look.go,i,wd,gen,ps,rt,e⟩,m)
  |none=>(⟨.move,look.go,i,wd,gen,ps,rt,e⟩,m):=rfl
 have k:look.go={look with fd:=none,at_:=look.at_+1}:=by grind [Fd.go]
 rw[k]at h;have still:(⟨.dD,look,i,wd,gen,ps,rt,e⟩:Tk).step w c.S m g=(⟨.move,{look with fd:=none,at_:=look.at_+1},i,wd,gen,ps,rt,e⟩,m)->iy c w m g ⟨.dD,look,i,wd,gen,ps,rt,e⟩:=by
  intro h;refine sI h gm.noConfusion ⟨rfl,a⟩ (dH ?_);show c.S-(look.at_+1)+4+1<=c.S-look.at_+4;omega
 cases b:az look.wd 9 w 0 with
 |none=>grind
 |some n=>
  rw[b]at h;dsimp only at h;by_cases d:m.sl look.at_=look.wd
  .rw[tz d]at h
   have s:=(eT b).2.2.2.2.2.2.2.2.2.1 rfl;refine sI h gm.noConfusion ⟨rfl,a⟩ (gG f d ?_);rw[kJ (by omega),kJ (by omega)];show c.S-(look.at_+1)+4+cI c+1<=c.S-look.at_+4+cI c;omega
  grind
def JR(a:i<c.S):iy c w m g ⟨.bM,look,i,wd,gen,ps,rt,e⟩:=by
 have h:(⟨.bM,look,i,wd,gen,ps,rt,e⟩:Tk).step w c.S m g=match(⟨.bM,look,i,wd,gen,ps,rt,e⟩:Tk).swap w m i wd (if g then 1 else 2)with
  |some (t,m)=>if g then({t with st:=.check},m)else(t.fin 6,m)
  |none=>(⟨.done,look,i,wd,gen,ps,rt,6⟩,m):=rfl
 rcases lQ with b|⟨n,d,f,b⟩
 .rw[b]at h
  refine FZ h rfl (show(6:Int)≠3 by decide) (dH ?_);show 3+1<=cI c+5;omega
 .rw[b]at h
  cases g with
  |true=>
   have s:=(eT d).2.1 rfl;refine sI h gm.noConfusion a (gG a f ?_);rw[kJ (by omega),Gq (by omega)];show 4+cI c+1<=cI c+5+0;omega
  |false=>
   have s:=(eT d).2.2.1 rfl;refine FZ h rfl (show(6:Int)≠3 by decide) (gG a f ?_);rw[Gq (by omega),Gq (by omega)];show 3+0+1<=cI c+5+0;omega
def Ff(b:i<c.S):iy c w m g ⟨.check,look,i,wd,gen,ps,rt,e⟩:=by
 have h:(⟨.check,look,i,wd,gen,ps,rt,e⟩:Tk).step w c.S m g=if m.cl=0 then(⟨.done,look,i,wd,gen,ps,rt,0⟩,m)else(⟨.back,look,i,wd,gen,ps,rt,e⟩,m):=rfl
 by_cases a:m.cl=0
 .rw[tz a]at h
  refine FZ h rfl (show(0:Int)≠3 by decide) (dH (aq _))
 .rw[ck a]at h
  exact lF h gm.noConfusion b (aq _) (aq _)
def JS(M:bQ c m)(a:i<c.S):iy c w m g ⟨.back,look,i,wd,gen,ps,rt,e⟩:=by
 have h:(⟨.back,look,i,wd,gen,ps,rt,e⟩:Tk).step w c.S m g=if(m.sl i).st=3/\(m.sl i).own=w/\(m.sl i).gen=gen then(⟨.go,look,i,wd,gen,ps,Rt.new i (m.sl i),e⟩,m)else(⟨.done,look,i,wd,gen,ps,rt,5⟩,m):=rfl
 by_cases b:(m.sl i).st=3/\(m.sl i).own=w/\(m.sl i).gen=gen
 .rw[tz b]at h
  refine lF h gm.noConfusion ⟨NB a (M.1 _ a) (.inr b.1),a⟩ ?_ (aq _);show(if m.sl i=m.sl i then 0 else 2)+1<=1;grind
 .rw[ck b]at h
  exact FZ h rfl (show(5:Int)≠3 by decide) (dH (aq _))
def aiI(x:pY c rt)(f:i<c.S):iy c w m g ⟨.go,look,i,wd,gen,ps,rt,e⟩:=by
 have h:(⟨.go,look,i,wd,gen,ps,rt,e⟩:Tk).step w c.S m g=if(rt.step m).1.st=.done then(if(rt.step m).1.sw then(⟨.done,look,i,wd,gen,ps,(rt.step m).1,5⟩,(rt.step m).2)else(⟨.back,look,i,wd,gen,ps,(rt.step m).1,e⟩,(rt.step m).2))else(⟨.go,look,i,wd,gen,ps,(rt.step m).1,e⟩,(rt.step m).2):=rfl
 obtain⟨z,n,p⟩:=vO x;by_cases d:(rt.step m).1.st=.done
 .rw[tz d]at h
  have q:gT c (rt.step m).1=0:=by unfold gT;rw[d]
  rcases p with⟨-,k, -⟩|⟨l,o,a,b,s⟩|k
  .exact tA d k
  .rw[a,ck (by decide),l]at h
   refine lF h gm.noConfusion f ?_ ?_
   .grind [vz]
   .show 4<=4+gT c rt
    omega
  .have b:=k 4 4 (by omega)
   rw[q]at b;by_cases u:(rt.step m).1.sw=true
   .rw[tz u]at h
    refine FZ h rfl (show(5:Int)≠3 by decide) ?_;have a:=k 4 3 (by omega);rw[q]at a;exact a
   .rw[ck u]at h
    exact sI h gm.noConfusion f b
 .rw[ck d]at h
  rcases p with⟨l,o,a,b,s⟩|⟨l,o,a,b,s⟩|k
  .rw[l]at h
   refine lF h gm.noConfusion ⟨(n d).1,f⟩ ?_ ?_
   .have v:∀r:Rt,r.st≠.swap->vz c m ⟨.go,look,i,wd,gen,ps,r,e⟩=xx m r:=by
     intro r y;unfold vz xx;cases h:r.st with
     |swap=>exact tA h y
     |_=>rfl
    rw[v _ b,v _ (n d).2];exact a
   .show 4+gT c (rt.step m).1<=4+gT c rt
    omega
  .exact tA o d
  .exact sI h gm.noConfusion ⟨(n d).1,f⟩ (k 4 4 (by omega))
def Fb(a:i<c.S):iy c w m g ⟨.grant,look,i,wd,gen,ps,rt,e⟩:=by
 have h:(⟨.grant,look,i,wd,gen,ps,rt,e⟩:Tk).step w c.S m g=(⟨.eG,look,i,m.sl i,gen,ps,rt,e⟩,m):=rfl;refine lF h gm.noConfusion a ?_ (aq _);show(if m.sl i=m.sl i then 0 else 2)+1<=1;grind
def BK(a:i<c.S):iy c w m g ⟨.eG,look,i,wd,gen,ps,rt,e⟩:=by
 have h:(⟨.eG,look,i,wd,gen,ps,rt,e⟩:Tk).step w c.S m g=match az wd 16 w 0 with
  |none=>(⟨.done,look,i,wd,gen,ps,rt,5⟩,m)
  |some n=>if m.sl i=wd then(⟨if n.st=3 then .check else .bM,look,i,n,n.gen,ps,rt,e⟩,m.set i n)else(⟨.grant,look,i,wd,gen,ps,rt,e⟩,m):=rfl
 cases d:az wd 16 w 0 with
 |none=>
  rw[d]at h;refine FZ h rfl (show(5:Int)≠3 by decide) (dH ?_);show 3+1<=cI c+6;omega
 |some n=>
  rw[d]at h;dsimp only at h;by_cases b:m.sl i=wd
  .rw[tz b]at h
   have s:=(eT d).2.2.2.2.2.2.2.2.2.2.2.2.2.2.2.1 rfl;rcases s with s|s
   .rw[tz s.2]at h
    refine sI h gm.noConfusion a (gG a b ?_);rw[kJ (by omega),kJ (by omega)];show 4+cI c+1<=cI c+6+cI c;omega
   .rw[ck (by omega)]at h
    refine sI h gm.noConfusion a (gG a b ?_);rw[Gq (by omega),Gq (by omega)];show cI c+5+0+1<=cI c+6+0;omega
  .rw[ck b]at h
   refine lF h gm.noConfusion a ?_ (aq _);show 1+1<=if m.sl i=wd then 0 else 2
   grind
def ad9{t}(h:w<=15)(M:bQ c m)(T:pW c w t)(d:t.st≠.done):iy c w m g t:=by
 obtain⟨s,look,i,wd,gen,ps,rt,e⟩:=t;cases s with
 |closed=>exact BL
 |own=>exact Oc h M T.1 T.2
 |gp=>exact JO T.1 T.2.1 T.2.2
 |any=>exact Od h M T.1 T.2
 |anyS=>exact JU T.1 T.2.1 T.2.2
 |move=>exact JP T.1 T.2
 |dD=>exact Fa T.1 T.2.1 T.2.2
 |free=>exact JQ h M T.1 T.2
 |dQ=>exact Fe T.1 T.2.1 T.2.2
 |bM=>exact JR T
 |check=>exact Ff T
 |back=>exact JS M T
 |go=>exact aiI T.1 T.2
 |grant=>exact Fb T
 |eG=>exact BK T
 |done=>grind
def aiF{t:Tk}(M:bQ c m):bQ c (t.step w c.S m g).2:=by
 grind [Tk.step,lQ,nN,DJ]
end
noncomputable section
open Classical
def Gd(c:Cn)(m a:Mm)(d o:Prop)(r e b f n:Nat):Prop:=(d->fJ c m b a n)/\(¬d->o/\Out m a r e b f c)
def LH(m:Mm)(r:Rt):Nat:=match r.st with| .swap=>if m.sl r.i=r.wd then 0 else 2| .look=>2| .iI=>1|_=>0
def Yd{m}{r}(h:r.st≠.swap):LH m r=xx m r:=by
 grind [LH,xx]
def LG(m:Mm)(g:Gv):Nat:=
 match g.st with
 | .closed=>2
 | .look=>1
 | .rest=>if m.sl g.i.toNat=g.wd then 0 else 2
 | .go=>LH m g.rt
 | .done=>0
def JD(c:Cn)(g:Gv):Nat:=match g.st with| .go=>4+gT c g.rt|_=>4
def yJ(c:Cn)(w:Nat)(g:Gv):Prop:=
 match g.st with
 | .rest=>g.i.toNat<c.S/\(az g.wd 4 w 0).isSome=true
 | .go=>pY c g.rt
 |_=>True
def Bh(c:Cn)(w:Nat)(m:Mm)(g:Gv):Prop:=
 Gd c m (g.step c w m).2 ((g.step c w m).1.st=.done) (yJ c w (g.step c w m).1) (LG m g) (LG m (g.step c w m).1) (JD c g) (JD c (g.step c w m).1) 3
def KU{c}{w}{m}{g a}(e:g.step c w m=(a,m))(d:a.st≠.done)(T:yJ c w a)(r:LG m a+1<=LG m g)(b:JD c a<=JD c g):Bh c w m g:=by
 unfold Bh;rw[e];exact⟨λh=>tA h d,λ_=>⟨T,.inl ⟨rfl,r,b⟩⟩⟩
def ahL{c}{w}{m d}{g a}(e:g.step c w m=(a,d))(f:a.st≠.done)(T:yJ c w a)(b:fJ c m (JD c g) d (JD c a)):Bh c w m g:=by
 unfold Bh;rw[e];exact⟨λh=>tA h f,λ_=>⟨T,.inr b⟩⟩
def KV{c}{w}{m a}{g d}(e:g.step c w m=(d,a))(f:d.st=.done)(b:fJ c m (JD c g) a 3):Bh c w m g:=by
 unfold Bh;rw[e];exact⟨λ_=>b,λh=>tA f h⟩
def afs{c}{w}{m}{g}(N:w<=15)(M:bQ c m)(T:yJ c w g)(o:g.st≠.done):Bh c w m g:=by
 obtain⟨i,a,d,I,l,b,r,e⟩:=g;cases I with
 |closed=>
  have h:(⟨i,a,d,.closed,l,b,r,e⟩:Gv).step c w m=if m.cl=2 then(⟨i,a,d,.done,m.cl,b,r,5⟩,m)else(⟨i,a,d,.look,m.cl,b,r,e⟩,m):=rfl
  by_cases E:m.cl=2
  .rw[tz E]at h
   exact KV h rfl (dH (aq _))
  .rw[ck E]at h
   exact KU h pg.noConfusion trivial (aq _) (aq _)
 |look=>
  have h:(⟨i,a,d,.look,l,b,r,e⟩:Gv).step c w m=if 0<=i/\i<c.S then
    (if¬((m.sl i.toNat).st=3/\(m.sl i.toNat).own=w/\(m.sl i.toNat).gen=a)then(⟨i,a,d,.done,l,m.sl i.toNat,r,2⟩,m)else if(m.sl i.toNat).str≠0/\d=false then(⟨i,a,d,.done,l,m.sl i.toNat,r,8⟩,m)else
    if d=true\/(m.sl i.toNat).brk=true\/c.u<=(m.sl i.toNat).uses\/¬(l=(0:Int))then(⟨i,a,d,.go,l,m.sl i.toNat,Rt.new i.toNat (m.sl i.toNat),e⟩,m)else(⟨i,a,d,.rest,l,m.sl i.toNat,r,e⟩,m))
   else(⟨i,a,d,.done,l,b,r,2⟩,m):=rfl
  by_cases F:0<=i/\i<c.S
  .rw[tz F]at h
   have f:i.toNat<c.S:=by omega
   by_cases p:¬((m.sl i.toNat).st=3/\(m.sl i.toNat).own=w/\(m.sl i.toNat).gen=a)
   .rw[tz p]at h
    exact KV h rfl (dH (aq _))
   .rw[ck p]at h
    have p:=vf.1 p;by_cases z:(m.sl i.toNat).str≠0/\d=false
    .rw[tz z]at h
     exact KV h rfl (dH (aq _))
    .rw[ck z]at h
     by_cases A:d=true\/(m.sl i.toNat).brk=true\/c.u<=(m.sl i.toNat).uses\/¬(l=(0:Int))
     .rw[tz A]at h
      refine KU h pg.noConfusion (NB f (M.1 _ f) (.inr p.1)) ?_ (aq _);show(if m.sl i.toNat=m.sl i.toNat then 0 else 2)+1<=1;rw[tz rfl];exact aq _
     .rw[ck A]at h
      have J:d=false:=by
       cases d with
       |false=>rfl
       |true=>exact tA (.inl rfl) A
      have K:(m.sl i.toNat).str=0:=Decidable.byContradiction λL=>z ⟨L,J⟩;refine KU h pg.noConfusion ⟨f,aeT (M.1 _ f) ⟨p.1,p.2.1,K⟩ (fp _) (by omega)⟩ ?_ (aq _);show(if m.sl i.toNat=m.sl i.toNat then 0 else 2)+1<=1;rw[tz rfl];exact aq _
  .rw[ck F]at h
   exact KV h rfl (dH (aq _))
 |rest=>
  obtain⟨f,v⟩:=T;have v:(az b 4 w 0).isSome=true:=v;have f:i.toNat<c.S:=f;obtain⟨n,v⟩:=cP.1 v;have h:(⟨i,a,d,.rest,l,b,r,e⟩:Gv).step c w m=match az b 4 w 0 with
   |some n=>if m.sl i.toNat=b then(⟨i,a,d,.done,l,b,r,0⟩,m.set i.toNat n)else(⟨i,a,d,.look,l,b,r,e⟩,m)
   |none=>(⟨i,a,d,.look,l,b,r,e⟩,m):=rfl
  rw[v]at h;dsimp only at h;by_cases x:m.sl i.toNat=b
  .rw[tz x]at h
   have k:=(eT v).2.2.2.2.1 rfl;refine KV h rfl (gG f x ?_);rw[kJ (s:=n) (by omega),kJ (s:=b) (by omega)];show 3+cI c+1<=4+cI c;omega
  .rw[ck x]at h
   refine KU h pg.noConfusion trivial ?_ (aq _);show 1+1<=if m.sl i.toNat=b then 0 else 2
   rw[ck x];exact aq _
 |go=>
  have T:pY c r:=T;have h:(⟨i,a,d,.go,l,b,r,e⟩:Gv).step c w m=if(r.step m).1.st=.done then(if(r.step m).1.sw then(⟨i,a,d,.done,l,b,(r.step m).1,0⟩,(r.step m).2)else(⟨i,a,d,.look,l,b,(r.step m).1,e⟩,(r.step m).2))else(⟨i,a,d,.go,l,b,(r.step m).1,e⟩,(r.step m).2):=rfl
  obtain⟨O,B,G⟩:=vO (m:=m) T;by_cases o:(r.step m).1.st=.done
  .rw[tz o]at h
   have H:gT c (r.step m).1=0:=by unfold gT;rw[o]
   rcases G with⟨-,k, -⟩|⟨y,C,q,u,D⟩|k
   .exact tA o k
   .rw[q,ck (by decide),y]at h
    refine KU h pg.noConfusion trivial ?_ ?_
    .have:LG m ⟨i,a,d,.go,l,b,r,e⟩=2:=by
      unfold LG LH;rw[u];exact ck D
     rw[this];exact aq _
    .show 4<=4+gT c r
     omega
   .by_cases f:(r.step m).1.sw=true
    .rw[tz f]at h
     refine KV h rfl ?_;have q:=k 4 3 (by omega);rw[H]at q;exact q
    .rw[ck f]at h
     have u:=k 4 4 (by omega);rw[H]at u;exact ahL h pg.noConfusion trivial u
  .rw[ck o]at h
   rcases G with⟨y,C,q,u,D⟩|⟨y,C,q,u,D⟩|k
   .rw[y]at h
    refine KU h pg.noConfusion (B o).1 ?_ ?_
    .show LH m (r.step m).1+1<=LH m r
     rw[Yd u,Yd (B o).2];exact q
    .show 4+gT c (r.step m).1<=4+gT c r
     omega
   .exact tA C o
   .exact ahL h pg.noConfusion (B o).1 (k 4 4 (by omega))
 |done=>exact tA rfl o
def ajA{c}{w}{m}{g:Gv}(M:bQ c m):bQ c (g.step c w m).2:=by
 grind [Gv.step,nN,DJ]
def Tj(m:Mm)(s:Sm):Nat:=
 match s.st with
 | .closed=>2
 | .look=>1
 | .swap=>if m.sl s.i.toNat=s.wd then 0 else 2
 | .done=>0
def Bc(c:Cn)(w:Nat)(s:Sm):Prop:=
 match s.st with
 | .swap=>s.i.toNat<c.S/\s.next c w s.wd=some s.nx
 |_=>True
def GoodS(c:Cn)(w:Nat)(m:Mm)(s:Sm):Prop:=
 Gd c m (s.step c w m).2 ((s.step c w m).1.st=.done) (Bc c w (s.step c w m).1) (Tj m s) (Tj m (s.step c w m).1) 4 4 3
def abW{c}{w}{m}{g a}(e:g.step c w m=(a,m))(d:a.st≠.done)(T:Bc c w a)(r:Tj m a+1<=Tj m g):GoodS c w m g:=by
 unfold GoodS;rw[e];exact⟨λh=>tA h d,λ_=>⟨T,.inl ⟨rfl,r,aq _⟩⟩⟩
def KR{c}{w}{m a}{g d}(e:g.step c w m=(d,a))(f:d.st=.done)(b:fJ c m 4 a 3):GoodS c w m g:=by
 unfold GoodS;rw[e];exact⟨λ_=>b,λh=>tA f h⟩
def aiS{c}{w}{s:Sm}{x n}(h:s.next c w x=some n):x.st=3/\n.st=3:=by
 grind [Sm.next,eT]
def aeq{c}{w}{m}{s}(T:Bc c w s)(z:s.st≠.done):GoodS c w m s:=by
 obtain⟨o,i,a,n,A,d,x,u,e⟩:=s;cases A with
 |closed=>
  have h:(⟨o,i,a,n,.closed,d,x,u,e⟩:Sm).step c w m=if m.cl=2 then(⟨o,i,a,n,.done,d,x,u,5⟩,m)else(⟨o,i,a,n,.look,d,x,u,e⟩,m):=rfl
  by_cases p:m.cl=2
  .rw[tz p]at h
   exact KR h rfl (dH (aq _))
  .rw[ck p]at h
   exact abW h wV.noConfusion trivial (aq _)
 |look=>
  have h:(⟨o,i,a,n,.look,d,x,u,e⟩:Sm).step c w m=if 0<=i/\i<c.S then
    (if¬((m.sl i.toNat).st=3/\(m.sl i.toNat).own=w/\(m.sl i.toNat).gen=a)then(⟨o,i,a,n,.done,m.sl i.toNat,x,u,2⟩,m)else if o=true/\(m.sl i.toNat).brk=true then(⟨o,i,a,n,.done,m.sl i.toNat,x,u,9⟩,m)else
    match(⟨o,i,a,n,.look,m.sl i.toNat,x,u,e⟩:Sm).next c w (m.sl i.toNat)with
    |none=>(⟨o,i,a,n,.done,m.sl i.toNat,x,u,if o then 10 else 11⟩,m)
    |some y=>(⟨o,i,a,n,.swap,m.sl i.toNat,y,if o then bA (m.sl i.toNat).str else n,e⟩,m))
   else(⟨o,i,a,n,.done,d,x,u,2⟩,m):=rfl
  by_cases q:0<=i/\i<c.S
  .rw[tz q]at h
   have l:i.toNat<c.S:=by omega
   by_cases r:¬((m.sl i.toNat).st=3/\(m.sl i.toNat).own=w/\(m.sl i.toNat).gen=a)
   .rw[tz r]at h
    exact KR h rfl (dH (aq _))
   .rw[ck r]at h
    by_cases v:o=true/\(m.sl i.toNat).brk=true
    .rw[tz v]at h
     exact KR h rfl (dH (aq _))
    .rw[ck v]at h
     cases b:(⟨o,i,a,n,.look,m.sl i.toNat,x,u,e⟩:Sm).next c w (m.sl i.toNat)with
     |none=>
      rw[b]at h;exact KR h rfl (dH (aq _))
     |some y=>
      rw[b]at h;refine abW h wV.noConfusion ⟨l,b⟩ ?_;show(if m.sl i.toNat=m.sl i.toNat then 0 else 2)+1<=1;rw[tz rfl];exact aq _
  .rw[ck q]at h
   exact KR h rfl (dH (aq _))
 |swap=>
  obtain⟨l,b⟩:=T;have k:=aiS b;have B:d.st=3:=k.1;have C:x.st=3:=k.2;have h:(⟨o,i,a,n,.swap,d,x,u,e⟩:Sm).step c w m=if m.sl i.toNat=d then(⟨o,i,a,n,.done,d,x,u,0⟩,m.set i.toNat x)else(⟨o,i,a,n,.look,d,x,u,e⟩,m):=rfl
  by_cases f:m.sl i.toNat=d
  .rw[tz f]at h
   refine KR h rfl (gG l f ?_);rw[kJ (by omega),kJ (by omega)];omega
  .rw[ck f]at h
   refine abW h wV.noConfusion trivial ?_;show 1+1<=if m.sl i.toNat=d then 0 else 2
   rw[ck f];exact aq _
 |done=>exact tA rfl z
def aiV{c}{w}{m}{s}(M:bQ c m)(T:Bc c w s):bQ c (s.step c w m).2:=by
 obtain⟨o,i,a,n,b,d,x,u,e⟩:=s;unfold Sm.step;split
 .split<;>exact M
 .grind
 .rename_i h
  subst h;split
  .have f:=T.2
   grind [Sm.next,nN]
  .exact M
 .exact M
def pre(m:Mm)(k:Nat):List aa:=(List.range k).map m.sl
def Cl(m:Mm)(t:Tw):Prop:=t.rd=pre m t.rd.length
def um(c:Cn)(m:Mm)(t:Tw):Nat:=if Cl m t then(if t.last=some (pre m c.S)then c.S-t.rd.length else 2*c.S-t.rd.length)else 3*c.S+1-t.rd.length
def Bb(c:Cn)(t:Tw):Prop:=t.dn=false/\t.rd.length<c.S
def O4(m)(k):pre m (k+1)=pre m k++[m.sl k]:=by
 unfold pre;rw[List.range_succ,qP];rfl
def ZB(m)(l)(d)(n):Cl m ⟨[],l,d,n⟩:=rfl
def SI{c}{m}{t}(T:Bb c t):
  (Cl m t->Cl m (t.step c.S m)/\((t.step c.S m).dn=true->(t.step c.S m).last=some (pre m c.S)))/\
  ((t.step c.S m).dn=false->Bb c (t.step c.S m)/\um c m (t.step c.S m)+1<=um c m t):=by
 obtain⟨r,l,u,n⟩:=t;obtain⟨i,o⟩:=T;have i:u=false:=i;subst i;have o:r.length<c.S:=o;have e:(⟨r,l,false,n⟩:Tw).step c.S m=if(r++[m.sl r.length]).length<c.S then⟨r++[m.sl r.length],l,false,n⟩else⟨[],some (r++[m.sl r.length]),decide (l=some (r++[m.sl r.length])),n+1⟩:=rfl
 have p:(r++[m.sl r.length]).length=r.length+1:=by simp
 have a:Cl m ⟨r,l,false,n⟩->r++[m.sl r.length]=pre m (r.length+1):=by
  intro h;rw[O4];have:r=pre m r.length:=h;rw[<-this]
 by_cases k:(r++[m.sl r.length]).length<c.S
 .rw[tz k]at e
  have q:Cl m ⟨r,l,false,n⟩->Cl m ⟨r++[m.sl r.length],l,false,n⟩:=by
   intro h;show r++[m.sl r.length]=pre m (r++[m.sl r.length]).length;rw[p];exact a h
  have v:Cl m ⟨r++[m.sl r.length],l,false,n⟩->Cl m ⟨r,l,false,n⟩:=by
   intro h;have h:r++[m.sl r.length]=pre m (r++[m.sl r.length]).length:=h;rw[p,O4]at h;show r=pre m r.length;exact List.append_inj_left' h rfl
  rw[e];refine⟨λh=>⟨q h,λd=>by cases d⟩,λ_=>⟨⟨rfl,k⟩,?_⟩⟩;unfold um;rw[propext ⟨v,q⟩];dsimp only;by_cases b:Cl m ⟨r,l,false,n⟩
  .rw[tz b,tz b]
   split<;>omega
  .rw[ck b,ck b]
   omega
 .rw[ck k]at e
  rw[e];refine⟨λh=>⟨ZB _ _ _ _,λd=> ?_⟩,λd=>⟨⟨d,by show 0<c.S;omega⟩,?_⟩⟩
  .rw[a h,show r.length+1=c.S by omega]
  .have f:=of_decide_eq_false d
   unfold um;rw[tz (ZB _ _ _ _)];by_cases b:Cl m ⟨r,l,false,n⟩
   .have s:=a b
    rw[show r.length+1=c.S by omega]at s;rw[s]at f ⊢;rw[tz rfl,tz b,ck f];omega
   .split
    .omega
    .omega
def qK(m:Mm)(q:Qu):Nat:=
 match q.st with
 | .come=>1
 | .push=>if m.qu=q.ln then 0 else 2
 | .closed=>2
 | .look=>1
 | .drop=>if m.qu=q.ln then 0 else 2
 | .head=>1
 | .pop=>if m.qu=q.ln then 0 else 2
 |_=>0
def Um(c:Cn)(q:Qu):Nat:=match q.st with| .come| .push=>lE c+2*c.W+5+bP c|_=>4+bP c
def bDr(q:Qu):Nat:=match q.st with| .tell=>5|_=>4
def Dt(w:Nat)(q:Qu):Prop:=
 match q.st with
 | .come| .closed| .look=>True
 | .push=>w∉q.ln
 | .drop=>w∈q.ln
 |_=>False
def Du(q:Qu):Prop:=
 match q.st with
 | .head| .tell=>True
 | .pop=>q.ln≠[]
 |_=>False
variable{c:Cn} {w:Nat} {m:Mm}
def aeE{q}(T:Dt w q):Gd c m (q.step c w m).2 ((q.step c w m).1.st=.done) (Dt w (q.step c w m).1) (qK m q) (qK m (q.step c w m).1) (Um c q) (Um c (q.step c w m).1) (3+bP c):=by
 obtain⟨s,l,first,a,e⟩:=q;cases s with
 |come=>
  have h:(⟨.come,l,first,a,e⟩:Qu).step c w m=if c.wt<=m.qu.length\/w∈m.qu then(⟨.done,m.qu,first,a,7⟩,m)else(⟨.push,m.qu,first,a,e⟩,m):=rfl
  rw[h];by_cases b:c.wt<=m.qu.length\/w∈m.qu
  .rw[tz b]
   refine⟨λ_=>dH ?_,λk=>tA rfl k⟩;show 3+bP c+1<=lE c+2*c.W+5+bP c;omega
  .rw[ck b]
   refine⟨λk=>(by cases k),λ_=>⟨λk=>b (.inr k),.inl ⟨rfl,?_,aq _⟩⟩⟩;show(if m.qu=m.qu then 0 else 2)+1<=1;grind
 |push=>
  have h:(⟨.push,l,first,a,e⟩:Qu).step c w m=if m.qu=l then(⟨.closed,l,first,a,e⟩,{m with qu:=m.qu++[w]})else(⟨.come,l,first,a,e⟩,m):=rfl
  rw[h];by_cases b:m.qu=l
  .rw[tz b]
   refine⟨λk=>(by cases k),λ_=>⟨trivial,.inr (YM ?_)⟩⟩;show 4+bP c+lE c+2*c.W+1<=lE c+2*c.W+5+bP c;omega
  .rw[ck b]
   refine⟨λk=>(by cases k),λ_=>⟨trivial,.inl ⟨rfl,?_,aq _⟩⟩⟩;show 1+1<=if m.qu=l then 0 else 2
   rw[ck b];exact aq _
 |closed=>
  have h:(⟨.closed,l,first,a,e⟩:Qu).step c w m=if m.cl=0 then(⟨.done,l,first,a,0⟩,m)else(⟨.look,l,first,5,e⟩,m):=rfl
  rw[h];by_cases b:m.cl=0
  .rw[tz b]
   refine⟨λ_=>dH ?_,λk=>tA rfl k⟩;show 3+bP c+1<=4+bP c;omega
  .rw[ck b]
   exact⟨λk=>(by cases k),λ_=>⟨trivial,.inl ⟨rfl,aq _,aq _⟩⟩⟩
 |look=>
  have h:(⟨.look,l,first,a,e⟩:Qu).step c w m=if w∈m.qu then(⟨.drop,m.qu,first,a,e⟩,m)else(⟨.done,m.qu,first,a,8⟩,m):=rfl
  rw[h];by_cases b:w∈m.qu
  .rw[tz b]
   refine⟨λk=>(by cases k),λ_=>⟨b,.inl ⟨rfl,?_,aq _⟩⟩⟩;show(if m.qu=m.qu then 0 else 2)+1<=1;rw[tz rfl];exact aq _
  .rw[ck b]
   refine⟨λ_=>dH ?_,λk=>tA rfl k⟩;show 3+bP c+1<=4+bP c;omega
 |drop=>
  have h:(⟨.drop,l,first,a,e⟩:Qu).step c w m=if m.qu=l then(⟨.done,l,first,a,a⟩,{m with qu:=m.qu.erase w})else(⟨.look,l,first,a,e⟩,m):=rfl
  rw[h];by_cases b:m.qu=l
  .rw[tz b]
   refine⟨λ_=>Md (by rw[b];exact T) ?_,λk=>tA rfl k⟩;show 3+bP c+2*c.W+1<=4+bP c+lE c;unfold lE;omega
  .rw[ck b]
   refine⟨λk=>(by cases k),λ_=>⟨trivial,.inl ⟨rfl,?_,aq _⟩⟩⟩;show 1+1<=if m.qu=l then 0 else 2
   rw[ck b];exact aq _
 |_=>exact tA T (by intro h;exact h)
def aeF{q}(T:Du q):Gd c m (q.step c w m).2 ((q.step c w m).1.st=.done) (Du (q.step c w m).1) (qK m q) (qK m (q.step c w m).1) (bDr q) (bDr (q.step c w m).1) 3:=by
 obtain⟨s,l,first,b,e⟩:=q;cases s with
 |head=>
  cases f:m.qu with
  |nil=>
   have h:(⟨.head,l,first,b,e⟩:Qu).step c w m=(⟨.done,[],first,b,0⟩,m):=by unfold Qu.step;rw[f];rfl
   rw[h];exact⟨λ_=>dH (aq _),λk=>tA rfl k⟩
  |cons a r=>
   have h:(⟨.head,l,first,b,e⟩:Qu).step c w m=(⟨.pop,a::r,a,b,e⟩,m):=by grind [Qu.step]
   rw[h];refine⟨λk=>(by cases k),λ_=>⟨List.cons_ne_nil _ _,.inl ⟨rfl,?_,aq _⟩⟩⟩;show(if m.qu=a::r then 0 else 2)+1<=1;grind
 |pop=>
  have h:(⟨.pop,l,first,b,e⟩:Qu).step c w m=if m.qu=l then(⟨.tell,l,first,b,e⟩,{m with qu:=m.qu.tail})else(⟨.head,l,first,b,e⟩,m):=rfl
  rw[h];by_cases d:m.qu=l
  .rw[tz d]
   refine⟨λk=>(by cases k),λ_=>⟨trivial,.inr (PE (by rw[d];exact T) ?_)⟩⟩;show 5+2*c.W+1<=4+lE c;unfold lE;omega
  .rw[ck d]
   refine⟨λk=>(by cases k),λ_=>⟨trivial,.inl ⟨rfl,?_,aq _⟩⟩⟩;show 1+1<=if m.qu=l then 0 else 2
   rw[ck d];exact aq _
 |tell=>
  exact⟨λk=>(by cases k),λ_=>⟨trivial,.inr (Aq (aq _))⟩⟩
 |_=>exact tA T (by intro h;exact h)
def Dr(w:Nat)(q:Qu):Prop:=(q.st=.look\/q.st=.drop/\w∈q.ln)/\q.why=4
def Kt{q}(T:Dr w q):
  ((q.step c w m).1.st=.done->((q.step c w m).1.e=8/\(q.step c w m).2=m/\q.st=.look)\/((q.step c w m).1.e=4/\fJ c m (bP c) (q.step c w m).2 3))/\
  ((q.step c w m).1.st≠.done->Dr w (q.step c w m).1/\(q.step c w m).2=m/\qK m (q.step c w m).1+1<=qK m q/\(q.st=.look->qK m (q.step c w m).1=0)):=by
 obtain⟨n,l,first,d,e⟩:=q;obtain⟨s,f⟩:=T;subst f;rcases s with s|⟨s,i⟩
 .subst s
  have h:(⟨.look,l,first,4,e⟩:Qu).step c w m=if w∈m.qu then(⟨.drop,m.qu,first,4,e⟩,m)else(⟨.done,m.qu,first,4,8⟩,m):=rfl
  rw[h];by_cases a:w∈m.qu
  .rw[tz a]
   have b:qK m ⟨.drop,m.qu,first,4,e⟩=0:=tz rfl;refine⟨λk=>(by cases k),λ_=>⟨⟨.inr ⟨rfl,a⟩,rfl⟩,rfl,?_,λ_=>b⟩⟩;rw[b];exact aq _
  grind
 .subst s
  have h:(⟨.drop,l,first,4,e⟩:Qu).step c w m=if m.qu=l then(⟨.done,l,first,4,4⟩,{m with qu:=m.qu.erase w})else(⟨.look,l,first,4,e⟩,m):=rfl
  rw[h];by_cases a:m.qu=l
  .rw[tz a]
   refine⟨λ_=>.inr ⟨rfl,Md (by rw[a];exact i) ?_⟩,λk=>tA rfl k⟩;unfold lE bP cI;omega
  .rw[ck a]
   refine⟨λk=>(by cases k),λ_=>⟨⟨.inl rfl,rfl⟩,rfl,?_,λk=>(by cases k)⟩⟩;show 1+1<=if m.qu=l then 0 else 2
   rw[ck a];exact aq _
theorem aeZ(d:w<c.W)(M:bQ c m):bQ c {m with qu:=m.qu++[w]}:=by
 refine⟨M.1,λa b=> ?_⟩;rw[eS,cY]at b;rcases b with h|h
 .exact M.2 a h
 grind
def abe(M:bQ c m):bQ c {m with qu:=m.qu.erase w}:=⟨M.1,λa h=>M.2 a (List.mem_of_mem_erase h)⟩
def U5{q:Qu}(h:w<c.W)(M:bQ c m):bQ c (q.step c w m).2:=by
 unfold Qu.step;split
 .grind
 .grind [aeZ]
 .split<;>exact M
 .grind
 .split
  .exact abe M
  .exact M
 .split<;>exact M
 .split
  .exact Ty M
  .exact M
 .exact M
 .exact M
end
noncomputable section
open Classical
def bRp(c:Cn)(r:Rp):Nat:=(c.S-r.look.at_)+4+(match r.st with| .dB=>gT c r.rt|_=>0)
def rRp(m:Mm)(r:Rp):Nat:=match r.st with| .look=>3| .ask=>2| .mark=>0| .dB=>xx m r.rt
def Q5(c:Cn)(r:Rp):Prop:=
 match r.st with
 | .look=>r.look.fd=none/\r.look.kd=6
 | .ask=>r.look.fd.isSome=true/\r.look.kd=6/\r.look.at_<c.S/\Facts r.look.wd/\r.look.wd.st=2
 | .mark=>r.look.fd.isSome=true/\r.look.kd=6/\r.look.at_<c.S
 | .dB=>r.look.fd.isSome=true/\r.look.kd=6/\r.look.at_<c.S/\pY c r.rt
def JC(c:Cn)(k:Wk):Nat:=
 match k with
 | .get t=>uL c t
 | .give g=>JD c g
 | .bg _=>4
 | .close none=>5
 | .close (some q)=>bDr q
 | .stats _=>4
 | .aS r=>bRp c r
def Yc(c:Cn)(m:Mm)(k:Wk):Nat:=
 match k with
 | .get t=>vz c m t
 | .give g=>LG m g
 | .bg s=>Tj m s
 | .close none=>0
 | .close (some q)=>qK m q
 | .stats t=>um c m t
 | .aS r=>rRp m r
def Ba(c:Cn)(w:Nat)(k:Wk):Prop:=
 match k with
 | .get t=>pW c w t/\t.st≠.done
 | .give g=>yJ c w g/\g.st≠.done
 | .bg s=>Bc c w s/\s.st≠.done
 | .close none=>True
 | .close (some q)=>Du q
 | .stats t=>Bb c t
 | .aS r=>Q5 c r
def pB(c:Cn)(p:Option Bool):Nat:=match p with|some _=>bP c|none=>0
def gY(c:Cn)(m:Mm)(x:Wr):Nat:=
 match x.ph with
 | .rest=>0
 | .pin _=>1+JC c (bE x)
 | .work k=>JC c k
 | .counts _=>bG c
 | .enters q=>Um c q
 | .ax t p _=>rT c m t+pB c p
 | .parked _| .wakes _| .leaves _=>bP c
def kR(c:Cn)(m:Mm)(x:Wr):Nat:=
 match x.ph with
 | .rest=>0
 | .pin none=>1
 | .pin (some _)=>0
 | .work k=>Yc c m k
 | .counts t=>if Cl m t then um c m t+1+(if Has c m then T0 c+1 else 0)else um c m t+2+T0 c+K0 c
 | .enters q=>qK m q
 | .ax t _ _=>xw c m t
 | .parked b=>if b=true then 3 else 1
 | .wakes _=>0
 | .leaves q=>qK m q+2
def jO(c:Cn)(w:Nat)(x:Wr):Prop:=
 match x.ph with
 | .rest=>True
 | .pin _=>x.grant<=c.S
 | .work k=>Ba c w k
 | .counts t=>Bb c t
 | .enters q=>Dt w q
 | .ax t _ _=>pX c t/\t.st≠.done
 | .parked _=>True
 | .wakes h=>∃g:Int,h=some g/\g≠0/\g<=c.S
 | .leaves q=>Dr w q
def fF(c:Cn)(m:Mm):Prop:=∀i,m.gr i<=c.S
def jr(c:Cn)(s:Ms)(w:Nat)(a:Ms):Prop:=
 bQ c a.m/\fF c a.m/\jO c w (a.ws w)/\(∀j,j≠w->a.ws j=s.ws j)/\
 Out s.m a.m (kR c s.m (s.ws w)) (kR c s.m (a.ws w)) (gY c s.m (s.ws w)) (gY c a.m (a.ws w)) c
def mo{c}{s a}{w}{m}{x}(b:a.m=m)(h:a.ws=upd s.ws w x)(M:bQ c m)(G:fF c m)(X:jO c w x)
  (O:Out s.m m (kR c s.m (s.ws w)) (kR c s.m x) (gY c s.m (s.ws w)) (gY c m x) c):jr c s w a:=by
 unfold jr;rw[h];grind [upd]
def pF{c}{m}{r a b d}(h:a+1<=r)(e:d<=b):Out m m r a b d c:=.inl ⟨rfl,h,e⟩
def lZ{c}{m a}{r e b d}(h:fJ c m b a d):Out m a r e b d c:=.inr h
variable{c:Cn} {w:Nat} {s b:Ms} {m:Mm} {x:Wr}
def wQ{k}(h:x.ph=.work k):gY c m x=JC c k:=by unfold gY;rw[h]
def yV{k}(h:x.ph=.work k):kR c m x=Yc c m k:=by unfold kR;rw[h]
def nR{d}{a}(h:b.m=d)(e:b.ws=upd s.ws w ((s.ws w).end_ a))(M:bQ c d)(G:fF c d)(L:fJ c s.m (gY c s.m (s.ws w)) d 3):jr c s w b:=
 mo h e M G ⟨trivial,mO.noConfusion⟩ (lZ L)
def gV{a}{k}(h:b.m=a)(d:b.ws=upd s.ws w ((s.ws w).to (.work k)))(M:bQ c a)(G:fF c a)(X:Ba c w k)
  (O:Out s.m a (kR c s.m (s.ws w)) (Yc c s.m k) (gY c s.m (s.ws w)) (JC c k) c):jr c s w b:=mo h d M G X O
theorem DK{m}{r:Rt}(G:fF c m):fF c (r.step m).2:=by
 unfold Rt.step;split
 .split
  .split<;>exact G
  .exact G
 .exact G
 .split
  .split<;>exact G
  .exact G
 .exact G
 .exact G
def aiH{g}{t:Tk}(G:fF c m):fF c (t.step w c.S m g).2:=by
 have a:∀{t l:Tk} {i e d f},t.swap w m i e d=some (l,f)->fF c f:=by
  intro t l i e d f h;rcases lQ (w:=w) (m:=m) (t:=t) (i:=i) (wd:=e) (d:=d)with k|⟨n,o,p,k⟩
  .rw[k]at h;cases h
  .rw[k]at h;cases h;exact G
 unfold Tk.step;split
 .split<;>exact G
 .dsimp only;split
  .exact G
  .split<;>exact G
 .split
  .exact a ‹_›
  .exact G
 .dsimp only;split
  .exact G
  .split<;>exact G
 .split
  .split<;>exact a ‹_›
  .exact G
 .dsimp only;split
  .split<;>exact G
  .split<;>exact G
 .split
  .split<;>exact G
  .exact G
 .dsimp only;split
  .exact G
  .split<;>exact G
 .split
  .exact a ‹_›
  .exact G
 .split
  .split<;>exact a ‹_›
  .exact G
 .split<;>exact G
 .split<;>exact G
 .dsimp only;split
  .split<;>exact DK G
  .exact DK G
 .exact G
 .split
  .exact G
  .split<;>exact G
 .exact G
def ajB{g:Gv}(G:fF c m):fF c (g.step c w m).2:=by
 unfold Gv.step;split
 .split<;>exact G
 .grind
 .split
  .split<;>exact G
  .exact G
 .grind [DK]
 .exact G
def aiW{g:Sm}(G:fF c m):fF c (g.step c w m).2:=by
 unfold Sm.step;split
 .split<;>exact G
 .grind
 .split<;>exact G
 .exact G
def Qe{a}{v:Int}(G:fF c m)(h:v<=c.S):fF c (m.nT a v):=by
 intro i;show upd m.gr a v i<=c.S;unfold upd;split
 .exact h
 .exact G i
def U7{q:Qu}(G:fF c m):fF c (q.step c w m).2:=by
 unfold Qu.step;split
 .grind
 .split<;>exact G
 .split<;>exact G
 .grind
 .split<;>exact G
 .split<;>exact G
 .split<;>exact G
 .exact Qe G (by omega)
 .exact G
def Ka{m a}{t:Td}{d own}(G:fF c m)(h:t.swap m d own=some a):fF c a:=by
 unfold Td.swap at h;split at h
 .split at h
  .cases h;exact G
  .cases h
 .cases h
def aiL{t}(G:fF c m)(T:pX c t):fF c (t.step c w m).2:=by
 obtain⟨a,ep,cl,q,look,i,d,o,e,r⟩:=t;cases a with
 |ep=>exact G
 |pin=>exact G
 |cl=>exact G
 |dL=>grind [Td.step]
 |go=>grind [Td.step,DK]
 |old=>grind [Td.step]
 |pins=>unfold Td.step;dsimp only;split<;>exact G
 |clear=>
  show fF c (((⟨.clear,ep,cl,q,look,i,d,o,e,r⟩:Td).swap m 12 w).getD m);cases h:(⟨.clear,ep,cl,q,look,i,d,o,e,r⟩:Td).swap m 12 w with
  |none=>exact G
  |some f=>exact Ka G h
 |line=>unfold Td.step;dsimp only;split<;>exact G
 |some=>unfold Td.step;dsimp only;split
        .exact G
        .split<;>exact G
 |keep=>unfold Td.step;dsimp only;split
        .exact Ka G ‹_›
        .exact G
 |pop=>unfold Td.step;dsimp only;split<;>exact G
 |grant=>
  have T:i<c.S:=T;exact Qe (v:=(i:Int)+1) G (by omega)
 |back=>exact G
 |dR=>unfold Td.step;dsimp only;split
      .exact Ka G ‹_›
      .exact G
 |eO=>exact G
 |again=>exact G
 |done=>exact G
end
noncomputable section
open Classical
variable{c:Cn} {w:Nat} {s:Ms}
def adA:Cl s.m Tw.new:=rfl
def ai3{x:Wr}:kR c s.m (x.to (.counts Tw.new))<=K0 c:=by
 show(if Cl s.m Tw.new then um c s.m Tw.new+1+(if Has c s.m then T0 c+1 else 0)else um c s.m Tw.new+2+T0 c+K0 c)<=K0 c;rw[tz adA];have:um c s.m Tw.new<=2*c.S:=by
  unfold um;rw[tz adA];grind
 grind [K0]
def afU{t}(o:w<=15)(S:1<=c.S)(p:(s.ws w).ph=.work (.get t))(M:bQ c s.m)(G:fF c s.m)(T:pW c w t)(q:t.st≠.done):jr c s w (ak c w s (s.ws w) (.get t)):=by
 have i:=wQ (c:=c) (m:=s.m) p;have n:=yV (c:=c) (m:=s.m) p
 obtain⟨a,B,u,v⟩:∃a:Ms,a.m=s.m/\a.ws=s.ws/\ak c w s (s.ws w) (.get t)=(
   let r:=t.step w c.S s.m (decide (t.st=.bM)&&s.next.1)
   if r.1.st=.done then
    (if r.1.e=3 then(if(s.ws w).ask.wait then(a.mem r.2).put w ((s.ws w).to (.enters Qu.enter))else(a.mem r.2).put w ((s.ws w).to (.counts Tw.new)))
     else if r.1.e=0 then(a.mem r.2).put w ((s.ws w).end_ ⟨0,r.1.i,r.1.gen,0,0,0,0,0⟩)else(a.mem r.2).put w ((s.ws w).end_ (.err r.1.e)))
   else(a.mem r.2).put w ((s.ws w).to (.work (.get r.1)))):=by
  grind [ak]
 rw[v];dsimp only;have b:=aiF (w:=w) (g:=decide (t.st=.bM)&&s.next.1) (t:=t) M;have e:=aiH (w:=w) (g:=decide (t.st=.bM)&&s.next.1) (t:=t) G;obtain⟨y,z⟩:=ad9 (g:=decide (t.st=.bM)&&s.next.1) o M T q;generalize t.step w c.S s.m (decide (t.st=.bM)&&s.next.1)=r at*;have h:∀l,((a.mem r.2).put w l).ws=upd s.ws w l:=λl=>by show upd a.ws w l=_;rw[u]
 by_cases d:r.1.st=.done
 .rw[tz d]
  rcases y d with⟨f,k,A,C⟩|⟨f,k⟩
  .rw[tz f]
   split
   .refine mo rfl (h _) b e trivial (lZ ?_)
    rw[i,k];refine dH ?_;show lE c+2*c.W+5+bP c+1<=uL c t;rw[A];unfold bG;omega
   .refine mo rfl (h _) b e ⟨rfl,by show 0<c.S;omega⟩ ?_
    rw[k,i,n];refine pF ?_ ?_
    .have:=ai3 (c:=c) (s:=s) (x:=s.ws w)
     show _+1<=vz c s.m t;omega
    .show bG c<=uL c t
     omega
  .rw[ck f]
   have L:fJ c s.m (gY c s.m (s.ws w)) r.2 3:=by rw[i];exact k
   split
   .exact nR rfl (h _) b e L
   .exact nR rfl (h _) b e L
 .rw[ck d]
  obtain⟨f,k⟩:=z d;refine gV rfl (h _) b e ⟨f,d⟩ ?_;rw[i,n];exact k
def adP{g}(e:w<=15)(p:(s.ws w).ph=.work (.give g))(M:bQ c s.m)(G:fF c s.m)(T:yJ c w g)(f:g.st≠.done):jr c s w (ak c w s (s.ws w) (.give g)):=by
 have b:=wQ (c:=c) (m:=s.m) p;have i:=yV (c:=c) (m:=s.m) p;have a:=ajA (w:=w) (g:=g) M;have d:=ajB (w:=w) (g:=g) G;obtain⟨k,l⟩:=afs e M T f;unfold ak;dsimp only;generalize g.step c w s.m=r at*;by_cases h:r.1.st=.done
 .rw[tz h]
  refine nR rfl rfl a d ?_;rw[b];exact k h
 .rw[ck h]
  obtain⟨n,o⟩:=l h;refine gV rfl rfl a d ⟨n,h⟩ ?_;rw[b,i];exact o
def adM{g}(p:(s.ws w).ph=.work (.bg g))(M:bQ c s.m)(G:fF c s.m)(T:Bc c w g)(e:g.st≠.done):jr c s w (ak c w s (s.ws w) (.bg g)):=by
 have b:=wQ (c:=c) (m:=s.m) p;have f:=yV (c:=c) (m:=s.m) p;have a:=aiV M T;have d:=aiW (w:=w) (g:=g) G;obtain⟨i,k⟩:=aeq T e;unfold ak;dsimp only;generalize g.step c w s.m=r at*;by_cases h:r.1.st=.done
 .rw[tz h]
  refine nR rfl rfl a d ?_;rw[b];exact i h
 .rw[ck h]
  obtain⟨l,n⟩:=k h;refine gV rfl rfl a d ⟨l,h⟩ ?_;rw[b,f];exact n
def afc{m}{v}{b a}(h:a+1<=b):fJ c m b {m with cl:=v} a:=by
 unfold fJ zA wt;simp;omega
def Z0(p:(s.ws w).ph=.work (.close none))(M:bQ c s.m)(G:fF c s.m):jr c s w (ak c w s (s.ws w) (.close none)):=by
 have h:=wQ (c:=c) (m:=s.m) p;unfold ak;dsimp only;have k:∀v,fJ c s.m 5 {s.m with cl:=v} 4:=λv=>afc (aq _);split
 .refine gV rfl rfl M G trivial (lZ ?_)
  rw[h];exact k 2
 .split
  .refine gV rfl rfl M G trivial (lZ ?_)
   rw[h];exact k 1
  .refine gV rfl rfl M G trivial (lZ ?_)
   rw[h];exact dH (aq _)
def ZZ{q}(e:w<c.W)(p:(s.ws w).ph=.work (.close (some q)))(M:bQ c s.m)(G:fF c s.m)(T:Du q):jr c s w (ak c w s (s.ws w) (.close (some q))):=by
 have b:=wQ (c:=c) (m:=s.m) p;have f:=yV (c:=c) (m:=s.m) p;have a:=U5 (q:=q) e M;have d:=U7 (w:=w) (q:=q) G;obtain⟨i,k⟩:=aeF T;unfold ak;dsimp only;generalize q.step c w s.m=r at*;by_cases h:r.1.st=.done
 .rw[tz h]
  refine nR rfl rfl a d ?_;rw[b];exact i h
 .rw[ck h]
  obtain⟨l,n⟩:=k h;refine gV rfl rfl a d l ?_;rw[b,f];exact n
def ZY{t}(p:(s.ws w).ph=.work (.stats t))(M:bQ c s.m)(G:fF c s.m)(T:Bb c t):jr c s w (ak c w s (s.ws w) (.stats t)):=by
 have b:=wQ (c:=c) (m:=s.m) p;have a:=yV (c:=c) (m:=s.m) p;obtain⟨f,d⟩:=SI T;unfold ak;dsimp only;generalize t.step c.S s.m=r at*;by_cases h:r.dn=true
 .rw[tz h]
  refine nR rfl rfl M G ?_;rw[b];exact dH (aq _)
 .rw[ck h]
  obtain⟨k,e⟩:=d (by simpa using h);refine gV rfl rfl M G k ?_;rw[b,a];exact pF e (aq _)
def adO{r}(C:(s.ws w).ph=.work (.aS r))(M:bQ c s.m)(G:fF c s.m)(T:Q5 c r):jr c s w (ak c w s (s.ws w) (.aS r)):=by
 have i:=wQ (c:=c) (m:=s.m) C;have l:=yV (c:=c) (m:=s.m) C;obtain⟨L,look,a,b⟩:=r;cases L with
 |look=>
  obtain⟨u,q⟩:=T;have u:look.fd=none:=u;have q:look.kd=6:=q;have h:ak c w s (s.ws w) (.aS ⟨.look,look,a,b⟩)=if(look.step c.S s.m).fd.isSome then s.put w ((s.ws w).to (.work (.aS ⟨.ask,look.step c.S s.m,a,b⟩)))else if(look.step c.S s.m).all c.S then s.put w ((s.ws w).end_ ⟨0,a,0,0,0,0,0,0⟩)else s.put w ((s.ws w).to (.work (.aS ⟨.look,look.step c.S s.m,a,b⟩))):=rfl
  rw[h];rcases nU (S:=c.S) (m:=s.m) u with⟨d,e,f⟩|⟨d,e,f,o⟩|⟨d,e,f,o,D⟩
  .rw[f,tz (by rfl)]
   rw[q]at e;refine gV rfl rfl M G ⟨rfl,q,d,M.1 _ d,e⟩ ?_;rw[i,l];exact pF (aq _) (aq _)
  .rw[d,ck (by decide),tz e]
   refine nR rfl rfl M G ?_;rw[i];refine dH ?_;show 3+1<=c.S-look.at_+4+0;omega
  .rw[d,ck (by decide),ck e,o]
   refine gV rfl rfl M G ⟨u,q⟩ ?_;rw[i,l];refine lZ (dH ?_);show c.S-(look.at_+1)+4+0+1<=c.S-look.at_+4+0;omega
 |ask=>
  obtain⟨d,e,f,o,D⟩:=T;have h:ak c w s (s.ws w) (.aS ⟨.ask,look,a,b⟩)=if s.next.1=true/\look.wd.fO=false/\look.wd.brk=false then({s with wo:=s.next.2}:Ms).put w ((s.ws w).to (.work (.aS ⟨.mark,look,a,b⟩)))else({s with wo:=s.next.2}:Ms).put w ((s.ws w).to (.work (.aS ⟨.dB,look,a,Rt.new look.at_ look.wd⟩))):=rfl
  rw[h];split
  .refine gV rfl rfl M G ⟨d,e,f⟩ ?_
   rw[i,l];exact pF (show 0+1<=2 by omega) (aq _)
  .refine gV rfl rfl M G ⟨d,e,f,NB f o (.inl D)⟩ ?_
   rw[i,l];refine pF ?_ (aq _);show(if s.m.sl look.at_=look.wd then 0 else 1)+1<=2;split<;>omega
 |mark=>
  obtain⟨d,e,f⟩:=T;have d:look.fd.isSome=true:=d;have f:look.at_<c.S:=f;have x:look.go={look with fd:=none,at_:=look.at_+1}:=by unfold Fd.go;rw[tz d]
  have h:ak c w s (s.ws w) (.aS ⟨.mark,look,a,b⟩)=match az look.wd 10 w 0 with
   |some n=>if s.m.sl look.at_=look.wd then(s.mem (s.m.set look.at_ n)).put w ((s.ws w).to (.work (.aS ⟨.look,look.go,a,b⟩)))else s.put w ((s.ws w).to (.work (.aS ⟨.look,look.go,a,b⟩)))
   |none=>s.put w ((s.ws w).to (.work (.aS ⟨.look,look.go,a,b⟩))):=rfl
  rw[h,x];have still:jr c s w (s.put w ((s.ws w).to (.work (.aS ⟨.look,{look with fd:=none,at_:=look.at_+1},a,b⟩)))):=by
   refine gV rfl rfl M G ⟨rfl,e⟩ ?_;rw[i,l];refine lZ (dH ?_);show c.S-(look.at_+1)+4+0+1<=c.S-look.at_+4+0;omega
  cases E:az look.wd 10 w 0 with
  |none=>exact still
  |some n=>
   dsimp only;by_cases y:s.m.sl look.at_=look.wd
   .rw[tz y]
    refine gV rfl rfl (nN M E) G ⟨rfl,e⟩ ?_;rw[i,l];refine lZ (gG f y ?_);have k:=(eT E).2.2.2.2.2.2.2.2.2.2.1 rfl;rw[kJ (s:=n) (by omega),kJ (s:=look.wd) (by omega)];show c.S-(look.at_+1)+4+0+cI c+1<=c.S-look.at_+4+0+cI c;omega
   .rw[ck y];exact still
 |dB=>
  obtain⟨d,e,f,o⟩:=T;have d:look.fd.isSome=true:=d;have f:look.at_<c.S:=f;have o:pY c b:=o;have x:look.go={look with fd:=none,at_:=look.at_+1}:=by unfold Fd.go;rw[tz d]
  have h:ak c w s (s.ws w) (.aS ⟨.dB,look,a,b⟩)=if(b.step s.m).1.st=.done then(s.mem (b.step s.m).2).put w ((s.ws w).to (.work (.aS ⟨.look,look.go,if(b.step s.m).1.sw then aR (a+1)else a,(b.step s.m).1⟩)))else(s.mem (b.step s.m).2).put w ((s.ws w).to (.work (.aS ⟨.dB,look,a,(b.step s.m).1⟩))):=rfl
  obtain⟨O,N,F⟩:=vO (m:=s.m) o;have H:=DJ (r:=b) M;have I:=DK (r:=b) G;rw[h,x];by_cases p:(b.step s.m).1.st=.done
  .rw[tz p]
   have z:gT c (b.step s.m).1=0:=by unfold gT;rw[p]
   refine gV rfl rfl H I ⟨rfl,e⟩ ?_;rw[i,l];refine lZ ?_;show fJ c s.m (c.S-look.at_+4+gT c b) (b.step s.m).2 (c.S-(look.at_+1)+4+0);rcases F with⟨-,k, -⟩|⟨v,A,B,J,K⟩|k
   .exact tA p k
   .rw[v]
    refine dH ?_;omega
   .have:=k (c.S-look.at_+4) (c.S-(look.at_+1)+4) (by omega)
    rw[z]at this;exact this
  .rw[ck p]
   refine gV rfl rfl H I ⟨d,e,f,(N p).1⟩ ?_;rw[i,l];rcases F with⟨v,A,B,J,K⟩|⟨v,A,B,J,K⟩|k
   .rw[v]
    refine pF B ?_;show c.S-look.at_+4+gT c (b.step s.m).1<=c.S-look.at_+4+gT c b;omega
   .exact tA A p
   .exact lZ (k (c.S-look.at_+4) (c.S-look.at_+4) (by omega))
theorem adN{k}(a:w<c.W)(W:c.W<=15)(S:1<=c.S)(h:(s.ws w).ph=.work k)(M:bQ c s.m)(G:fF c s.m)(T:Ba c w k):jr c s w (ak c w s (s.ws w) k):=by
 cases k with
 |get t=>exact afU (by omega) S h M G T.1 T.2
 |give g=>exact adP (by omega) h M G T.1 T.2
 |bg g=>exact adM h M G T.1 T.2
 |close d=>
  cases d with
  |none=>exact Z0 h M G
  |some q=>exact ZZ a h M G T
 |stats t=>exact ZY h M G T
 |aS r=>exact adO h M G T
def aaB{x:Wr}(S:1<=c.S)(h:x.grant<=c.S):Ba c w (bE x):=by
 unfold bE;split
 .split
  .exact⟨by show(x.grant-1).toNat<c.S;omega,gm.noConfusion⟩
  .exact⟨trivial,gm.noConfusion⟩
 .exact⟨trivial,pg.noConfusion⟩
 .exact⟨trivial,pg.noConfusion⟩
 .exact⟨trivial,wV.noConfusion⟩
 .exact⟨trivial,wV.noConfusion⟩
 .exact⟨rfl,rfl⟩
 .trivial
 .exact⟨rfl,S⟩
def aek{x}(h:0<x.grant):JC c (bE x)+2<=bP c:=by
 unfold bE bP;split
 .rw[tz h]
  show cI c+6+2<=cI c+c.S+8;omega
 .show 4+2<=cI c+c.S+8
  omega
 .show 4+2<=cI c+c.S+8
  omega
 .show 4+2<=cI c+c.S+8
  omega
 .show 4+2<=cI c+c.S+8
  omega
 .show c.S-0+4+0+2<=cI c+c.S+8
  grind
 .show 5+2<=cI c+c.S+8
  omega
 .show 4+2<=cI c+c.S+8
  omega
theorem ail{h}(S:1<=c.S)(p:(s.ws w).ph=.pin h)(M:bQ c s.m)(G:fF c s.m)(X:(s.ws w).grant<=c.S):jr c s w (ai c s w):=by
 have b:gY c s.m (s.ws w)=1+JC c (bE (s.ws w)):=by unfold gY;rw[p]
 cases h with
 |none=>
  have h:ai c s w=s.put w ((s.ws w).to (.pin (some s.m.ep))):=by grind [ai]
  have r:kR c s.m (s.ws w)=1:=by unfold kR;rw[p]
  rw[h];refine mo rfl rfl M G X ?_;rw[b,r];exact pF (aq _) (aq _)
 |some e=>
  have h:ai c s w=(s.mem (s.m.pin w (aR (e+1)))).put w ((s.ws w).to (.work (bE (s.ws w)))):=by grind [ai]
  rw[h];refine gV rfl rfl M G (aaB S X) (lZ ?_);refine FU ?_;omega
def afq:(∃y∈pre s.m c.S,fits 3 w y)↔Has c s.m:=by
 constructor
 .rintro⟨y,b,h⟩
  obtain⟨j,a,rfl⟩:=kx.1 b;exact⟨j,eA.1 a,h⟩
 .rintro⟨j,a,h⟩
  exact⟨s.m.sl j,kx.2 ⟨j,eA.2 a,rfl⟩,h⟩
theorem aae{t}(p:(s.ws w).ph=.counts t)(M:bQ c s.m)(G:fF c s.m)(T:Bb c t):jr c s w (ai c s w):=by
 have e:gY c s.m (s.ws w)=bG c:=by unfold gY;rw[p]
 have f:kR c s.m (s.ws w)=if Cl s.m t then um c s.m t+1+(if Has c s.m then T0 c+1 else 0)else um c s.m t+2+T0 c+K0 c:=by unfold kR;rw[p]
 have h:ai c s w=if(t.step c.S s.m).dn then(if∃y∈(t.step c.S s.m).last.getD [],fits 3 w y then s.put w ((s.ws w).to (.work (.get Tk.new)))else s.put w ((s.ws w).end_ (.err 3)))else s.put w ((s.ws w).to (.counts (t.step c.S s.m))):=by grind [ai]
 obtain⟨i,m⟩:=SI T;rw[h];generalize t.step c.S s.m=r at*;by_cases d:r.dn=true
 .rw[tz d]
  by_cases b:∃y∈r.last.getD [],fits 3 w y
  .rw[tz b]
   refine gV rfl rfl M G ⟨trivial,gm.noConfusion⟩ ?_;rw[e,f];refine pF ?_ (aq _);show(T0 c+if Has c s.m then 0 else K0 c)+1<=_;by_cases a:Cl s.m t
   .have k:=(i a).2 d
    rw[k]at b;have l:=afq.1 b;rw[tz a,tz l,tz l];omega
   .rw[ck a]
    have:(if Has c s.m then 0 else K0 c)<=K0 c:=by split<;>omega
    omega
  .rw[ck b]
   refine nR rfl rfl M G ?_;rw[e];refine dH ?_;unfold bG;omega
 .rw[ck d]
  obtain⟨n,o⟩:=m (by simpa using d);refine mo rfl rfl M G n ?_;rw[e,f];refine pF ?_ (aq _);show(if Cl s.m r then um c s.m r+1+(if Has c s.m then T0 c+1 else 0)else um c s.m r+2+T0 c+K0 c)+1<=_;by_cases a:Cl s.m t
  .rw[tz a,tz (i a).1]
   omega
  .have:(if Has c s.m then T0 c+1 else 0)<=T0 c+1:=by split<;>omega
   split<;>omega
theorem aad{q}(f:w<c.W)(p:(s.ws w).ph=.enters q)(M:bQ c s.m)(G:fF c s.m)(T:Dt w q):jr c s w (ai c s w):=by
 have b:gY c s.m (s.ws w)=Um c q:=by unfold gY;rw[p]
 have i:kR c s.m (s.ws w)=qK s.m q:=by unfold kR;rw[p]
 have h:ai c s w=if(q.step c w s.m).1.st=.done then(if(q.step c w s.m).1.e=0\/(q.step c w s.m).1.e=8 then(s.mem (q.step c w s.m).2).put w ((s.ws w).to (.ax Td.new (some (decide ((q.step c w s.m).1.e=0))) (.err 0)))else(s.mem (q.step c w s.m).2).put w ((s.ws w).end_ (.err (q.step c w s.m).1.e)))else(s.mem (q.step c w s.m).2).put w ((s.ws w).to (.enters (q.step c w s.m).1)):=by grind [ai]
 have a:=U5 (q:=q) f M;have e:=U7 (w:=w) (q:=q) G;obtain⟨k,l⟩:=aeE T;rw[h];generalize q.step c w s.m=r at*;by_cases d:r.1.st=.done
 .rw[tz d]
  have L:=k d;split
  .refine mo rfl rfl a e ⟨trivial,mO.noConfusion⟩ (lZ ?_)
   rw[b];exact L
  .refine nR rfl rfl a e ?_
   rw[b];have m:fJ c s.m (Um c q) r.2 3:=by unfold fJ at L ⊢;omega
   exact m
 .rw[ck d]
  obtain⟨n,o⟩:=l d;refine mo rfl rfl a e n ?_;rw[b,i];exact o
def aeL{m a}{r d b e k}(h:Out m a r d b e c):Out m a r d (b+k) (e+k) c:=by
 rcases h with⟨f,i,l⟩|h
 .exact .inl ⟨f,i,by omega⟩
 .refine .inr ?_
  grind [fJ]
def SY{t}(h:(t.step c w s.m).1.st=.done)(d:t.st≠.done):(t.step c w s.m).2=s.m/\1<=rT c s.m t:=by
 obtain⟨a,ep,cl,q,look,i,b,o,e,r⟩:=t;cases a with
 |ep=>cases h
 |pin=>cases h
 |cl=>cases h
 |dL=>grind [Td.step,Td.fu]
 |go=>grind [Td.step]
 |old=>grind [Td.step,Td.fu]
 |pins=>exact tA h (by unfold Td.step;dsimp only;split;exact mO.noConfusion;split<;>exact mO.noConfusion)
 |clear=>cases h
 |line=>exact tA h (by unfold Td.step;dsimp only;split<;>exact mO.noConfusion)
 |some=>exact tA h (by unfold Td.step;dsimp only;split;exact mO.noConfusion;split;exact mO.noConfusion;unfold Td.fu;dsimp only;split<;>exact mO.noConfusion)
 |keep=>exact tA h (by unfold Td.step;dsimp only;split<;>exact mO.noConfusion)
 |pop=>exact tA h (by unfold Td.step;dsimp only;split<;>exact mO.noConfusion)
 |grant=>cases h
 |back=>exact tA h (by unfold Td.step;dsimp only;split<;>exact mO.noConfusion)
 |dR=>exact tA h (by unfold Td.step;dsimp only;split<;>exact mO.noConfusion)
 |eO=>cases h
 |again=>exact⟨rfl,by show 1<=1+_;omega⟩
 |done=>exact tA rfl d
theorem aac{t}{p}{a}(q:w<c.W)(W:c.W<=15)(e:(s.ws w).ph=.ax t p a)(M:bQ c s.m)(G:fF c s.m)(T:pX c t)(l:t.st≠.done):jr c s w (ai c s w):=by
 have f:gY c s.m (s.ws w)=rT c s.m t+pB c p:=by unfold gY;rw[e]
 have r:kR c s.m (s.ws w)=xw c s.m t:=by unfold kR;rw[e]
 have i:=aiJ (w:=w) (t:=t) M;have k:=aiL (w:=w) G T;obtain⟨n,o⟩:=aeb (w:=w) (by omega) W M T l;by_cases d:(t.step c w s.m).1.st=.done
 .obtain⟨m,u⟩:=SY d l
  cases p with
  |some b=>
   have h:ai c s w=if(t.step c w s.m).1.st=.done then(s.mem (t.step c w s.m).2).put w ((s.ws w).to (.parked b))else(s.mem (t.step c w s.m).2).put w ((s.ws w).to (.ax (t.step c w s.m).1 (some b) a)):=by unfold ai;dsimp only;rw[e]
   rw[h,tz d];refine mo rfl rfl i k trivial (lZ ?_);rw[f,m];refine dH ?_;show bP c+1<=rT c s.m t+bP c;omega
  |none=>
   have h:ai c s w=if(t.step c w s.m).1.st=.done then{(s.mem (t.step c w s.m).2).put w ((s.ws w).to .rest)with ev:=⟨true,w,(s.ws w).ask,a⟩::s.ev}else(s.mem (t.step c w s.m).2).put w ((s.ws w).to (.ax (t.step c w s.m).1 none a)):=by unfold ai;dsimp only;rw[e];rfl
   rw[h,tz d];refine mo rfl rfl i k trivial (lZ ?_);rw[f,m];refine dH ?_;show 0+1<=rT c s.m t+0;omega
 .have h:ai c s w=(s.mem (t.step c w s.m).2).put w ((s.ws w).to (.ax (t.step c w s.m).1 p a)):=by
   unfold ai;dsimp only;rw[e];cases p<;>(dsimp only;rw[ck d])
  rw[h];refine mo rfl rfl i k ⟨n,d⟩ ?_;rw[f,r];exact aeL o
def ad7{h}(p:(s.ws w).ph=.wakes h)(M:bQ c s.m)(G:fF c s.m)(X:∃g,h=some g/\g≠0/\g<=c.S):jr c s w (ai c s w):=by
 obtain⟨g,rfl,f,e⟩:=X;have b:gY c s.m (s.ws w)=bP c:=by unfold gY;rw[p]
 have h:ai c s w=if g<0 then(s.mem (s.m.nT w 0)).put w ((s.ws w).end_ (.err 5))else(s.mem (s.m.nT w 0)).put w {s.ws w with grant:=g,ph:=.pin none}:=by unfold ai;dsimp only;rw[p];rfl
 have a:fF c (s.m.nT w 0):=Qe G (by omega);rw[h];by_cases d:g<0
 .rw[tz d]
  refine nR rfl rfl M a ?_;rw[b];refine Aq ?_;unfold bP;omega
 .rw[ck d]
  refine mo rfl rfl M a e (lZ ?_);rw[b];refine Aq ?_;show 1+JC c (bE {s.ws w with grant:=g,ph:=.pin none})+1<=bP c;have:=aek (c:=c) (x:={s.ws w with grant:=g,ph:=.pin none}) (by show 0<g;omega);omega
def PR{q}{R}(l:w<c.W)(M:bQ c s.m)(G:fF c s.m)(T:Dr w q)(b:gY c s.m (s.ws w)=bP c)(f:kR c s.m (s.ws w)=R)
  (m:q.st=.look->3<=R) (p:q.st≠.look->R=qK s.m q+2):jr c s w (aV c w s (s.ws w) q):=by
 have d:=U5 (q:=q) l M;have e:=U7 (w:=w) (q:=q) G;obtain⟨n,o⟩:=Kt T;unfold aV;generalize q.step c w s.m=r at*;by_cases h:r.1.st=.done
 .rw[tz h]
  rcases n h with⟨a,k,i⟩|⟨a,k⟩
  .rw[tz a]
   refine mo rfl rfl d e trivial ?_;rw[b,f,k];refine pF ?_ (aq _);have:=m i;show 1+1<=R;omega
  .rw[ck (by omega)]
   refine nR rfl rfl d e ?_;rw[b];exact k
 .rw[ck h]
  obtain⟨a,k,i,u⟩:=o h;refine mo rfl rfl d e a ?_;rw[b,f,k];refine pF ?_ (aq _);show qK s.m r.1+2+1<=R;by_cases v:q.st=.look;all_goals grind
def BD(m:w<c.W)(W:c.W<=15)(S:1<=c.S)(M:bQ c s.m)(G:fF c s.m)(X:jO c w (s.ws w))(e:aQ s w):jr c s w (ai c s w):=by
 unfold jO at X;unfold aQ at e;cases d:(s.ws w).ph with
 |rest=>grind
 |pin h=>grind [ail]
 |work k=>
  grind [ai,adN]
 |counts t=>grind [aae]
 |enters q=>grind [aad]
 |ax t p a=>grind [aac]
 |parked b=>
  rw[d]at e;have f:gY c s.m (s.ws w)=bP c:=by unfold gY;rw[d]
  have r:kR c s.m (s.ws w)=if b=true then 3 else 1:=by unfold kR;rw[d]
  have h:ai c s w=if s.m.gr w≠0 then dh w s (s.ws w) none else aV c w s (s.ws w) Qu.leave:=by unfold ai;dsimp only;rw[d]
  rw[h];by_cases i:s.m.gr w≠0
  .rw[tz i]
   refine mo rfl rfl M G ⟨_,rfl,i,G w⟩ ?_;rw[f,r];refine pF ?_ (aq _);show 0+1<=if b=true then 3 else 1
   split<;>omega
  .rw[ck i]
   have l:b=true:=by
    rcases e with e|e
    .exact tA e i
    .exact e.1
   subst l;exact PR m M G ⟨.inl rfl,rfl⟩ f r (λ_=>aq _) (λk=>tA rfl k)
 |wakes h=>rw[d]at X;exact ad7 d M G X
 |leaves q=>
  rw[d]at X;have f:gY c s.m (s.ws w)=bP c:=by unfold gY;rw[d]
  have r:kR c s.m (s.ws w)=qK s.m q+2:=by unfold kR;rw[d]
  have h:ai c s w=aV c w s (s.ws w) q:=by unfold ai;dsimp only;rw[d]
  rw[h];refine PR m M G X f r (λk=> ?_) (λ_=>rfl);have:qK s.m q=1:=by unfold qK;rw[k]
  omega
end
noncomputable section
open Classical
def Rx(c:Cn):Nat:=c.S*(c.W+4)+12*c.S+40
def agu(m)(r):LH m r<=2:=by
 grind [LH]
theorem agr(m)(r):xx m r<=2:=by
 grind [xx]
def aiK(c)(m)(t):xw c m t<=Rx c:=by
 have e:wR c 0=c.S+(c.S*(c.W+4)+(c.S+3)+1)+1:=by grind [wR,oR,lR]
 have h:∀a,(c.S-a)*(c.W+4)<=c.S*(c.W+4):=λa=>ai8;have b:∀a,wR c a<=wR c 0:=λa=>by unfold wR;omega
 have d:=h t.look.at_;grind [xw,Rx,oR,lR]
theorem ahb(c):T0 c+K0 c=8*c.S+14:=by unfold K0 T0;omega
def aiG(c)(m)(t):vz c m t<=Rx c:=by
 grind [Ch,T0,Ci,xy,vz,Rx,ahb]
def acT(c)(m)(t):um c m t<=3*c.S+1:=by
 grind [um]
theorem U6(m)(q):qK m q<=2:=by
 grind [qK]
def aij(c)(m)(k):Yc c m k<=Rx c:=by
 unfold Yc;split
 .exact aiG _ _ _
 .rename_i g
  have:=agu m g.rt;unfold LG Rx;split
  .omega
  .omega
  .split<;>omega
  .omega
  .omega
 .unfold Tj Rx
  split
  .omega
  .omega
  .split<;>omega
  .omega
 .omega
 .have:=U6 m ‹Qu›;unfold Rx;omega
 .have:=acT c m ‹Tw›;unfold Rx;omega
 grind [rRp,Rx,agr]
def acN(c)(m)(x):kR c m x<=Rx c:=by
 unfold kR;split
 .omega
 .unfold Rx;omega
 .omega
 .exact aij _ _ _
 .rename_i t _
  have:=acT c m t;have k:=ahb c;unfold Rx;split
  .split<;>omega
  .omega
 .have:=U6 m ‹Qu›;unfold Rx;omega
 .exact aiK _ _ _
 .unfold Rx;split<;>omega
 .omega
 grind [Rx,U6]
def JL(c:Cn)(s:Ms):Nat:=j4 (λi=>gY c s.m (s.ws i)) c.W+wt c s.m
def MP(c:Cn)(s:Ms):Nat:=j4 (λi=>kR c s.m (s.ws i)) c.W
def yj(c:Cn)(s:Ms):Nat:=(c.W*Rx c+1)*JL c s+MP c s
structure Inv(c:Cn)(s:Ms):Prop where
 m:bQ c s.m
 g:fF c s.m
 w:∀i,i<c.W->jO c i (s.ws i)
theorem yO{f}{k}:∀n,(∀i,i<n->f i<=k)->j4 f n<=n*k
 |0,_=>by unfold j4;omega
 |n+1,h=>by
  have:=yO n λi a=>h i (by omega);grind [j4]
theorem yN{f g}{k d}:∀n,k<n->(∀i,i<n->i≠k->f i<=g i+d)->j4 f n+g k+d<=j4 g n+f k+n*d
 |0,h,_=>by omega
 |n+1,h,a=>by
  unfold j4;rw[kj,Nat.one_mul];by_cases e:k=n
  .subst e
   have:j4 f k<=j4 g k+k*d:=by
    have:∀j,j<=k->j4 f j<=j4 g j+j*d:=by
     intro j;induction j with
     |zero=>grind [j4]
     |succ j c=>
      intro l;have:=a j (by omega) (by omega);unfold j4;rw[kj,Nat.one_mul];omega
    grind
   omega
  .have:=yN n (by omega) fun i m b=>a i (by omega) b
   have:=a n (by omega) (λh=>e h.symm);omega
def ak6(c)(m m')(t):rT c m' t<=rT c m t+(if m'.ep=m.ep then 0 else 2)+(if m'.qu=m.qu then 0 else 2):=by
 have a:(match t.st with| .ep| .done=>0|_=>if m'.ep=t.ep then 0 else 2)<=(match t.st with| .ep| .done=>0|_=>if m.ep=t.ep then 0 else 2)+(if m'.ep=m.ep then 0 else 2):=by
  have:(if m'.ep=t.ep then 0 else 2)<=(if m.ep=t.ep then 0 else 2)+(if m'.ep=m.ep then 0 else 2):=by
   by_cases h:m'.ep=m.ep
   .rw[tz h,h];exact aq _
   .split<;>split<;>omega
  split
  .omega
  .omega
  .exact this
 have q:∀u v:Nat,u<=v->v<=u+2->(if m'.qu=t.qu then u else v)<=(if m.qu=t.qu then u else v)+(if m'.qu=m.qu then 0 else 2):=by
  intro u v f k;by_cases h:m'.qu=m.qu
  .rw[tz h,h];exact aq _
  .split<;>split<;>omega
 have b:=q 2 4 (by omega) (by omega);have d:=q 1 3 (by omega) (by omega);unfold rT;obtain⟨s,p,l,n,look,i,w,o,e,r⟩:=t;dsimp only at a b d ⊢;cases s<;>dsimp only at a ⊢ <;>omega
def akT(c)(m m')(x):gY c m' x<=gY c m x+((if m'.ep=m.ep then 0 else 2)+(if m'.qu=m.qu then 0 else 2)):=by
 cases b:x.ph with
 |ax t p a=>
  have h:∀m,gY c m x=rT c m t+pB c p:=λm=>by unfold gY;rw[b]
  rw[h,h];have:=ak6 c m m' t;omega
 |_=>
  grind [gY]
variable{c:Cn} {w:Nat} {s:Ms}
def aa5(l:w<c.W)(W:c.W<=15)(S:1<=c.S)(I:Inv c s)(q:aQ s w):Inv c (ai c s w)/\yj c (ai c s w)+1<=yj c s:=by
 obtain⟨u,v,x,o,y⟩:=BD l W S I.m I.g (I.w w l) q;generalize ai c s w=a at*;refine⟨⟨u,v,λi m=> ?_⟩,?_⟩
 .by_cases e:i=w
  .subst e;exact x
  .rw[o i e];exact I.w i m
 .unfold yj
  rcases y with⟨p,A,z⟩|k
  .have b:JL c a<=JL c s:=by
    unfold JL;have:=yN (f:=λi=>gY c a.m (a.ws i)) (g:=λi=>gY c s.m (s.ws i)) (d:=0) c.W l λi m n=>by
     rw[o i n,p];exact aq _
    rw[p]at this z ⊢;omega
   have r:MP c a+1<=MP c s:=by
    unfold MP;have:=yN (f:=λi=>kR c a.m (a.ws i)) (g:=λi=>kR c s.m (s.ws i)) (d:=0) c.W l λi m n=>by
     rw[o i n,p];exact aq _
    rw[p]at this ⊢;omega
   have:=j7 (c.W*Rx c+1) b;omega
  .have b:JL c a+1<=JL c s:=by
    unfold JL;have h:=yN (f:=λi=>gY c a.m (a.ws i)) (g:=λi=>gY c s.m (s.ws i)) c.W l λi m n=>by
     rw[o i n];exact akT _ _ _ _
    have e:zA c s.m a.m=c.W*((if a.m.ep=s.m.ep then 0 else 2)+(if a.m.qu=s.m.qu then 0 else 2)):=by
     unfold zA;split<;>split<;>omega
    unfold fJ at k;omega
   have r:MP c a<=c.W*Rx c:=by
    exact yO _ λi m=>acN _ _ _
   have:=j7 (c.W*Rx c+1) b;rw[tj,lr]at this;omega
end
noncomputable section
open Classical
def ng(t:Tk):Prop:=t.st=.closed\/t.st=.own\/t.st=.gp\/t.st=.any\/t.st=.anyS\/t.st=.free\/t.st=.dQ
def rp(x:Wr):Nat:=
 match x.ph with
 | .rest=>0
 | .pin _=>if x.ask.op=0/\x.grant<=0 then 3 else 1
 | .work (.get t)=>if ng t then 3 else 1
 | .work _=>1
 | .counts _=>3
 | .enters _=>3
 | .ax _ none _=>1
 | .ax _ (some b) _=>if b=true then 3 else 2
 | .parked b=>if b=true then 2 else 1
 | .wakes _=>1
 | .leaves _=>2
def still(x:Wr):Prop:=match x.ph with| .rest=>True| .parked _=>True|_=>False
variable{c:Cn} {w:Nat} {s:Ms} {m:Mm} {g:Bool}
def ad'{t}(h:¬ng t)(k:t.st≠.done):¬ng (t.step w c.S m g).1/\(t.step w c.S m g).1.e≠3\/¬ng (t.step w c.S m g).1/\(t.step w c.S m g).1.st≠.done:=by
 obtain⟨l,look,i,f,a,p,r,e⟩:=t;have no:∀{t:Tk},t.st=.move\/t.st=.dD\/t.st=.check\/t.st=.back\/t.st=.go\/t.st=.bM\/t.st=.grant\/t.st=.eG\/t.st=.done->¬ng t:=by
  grind [ng]
 cases l with
 |closed=>grind [ng]
 |own=>exact tA (by unfold ng;simp) h
 |gp=>exact tA (by unfold ng;simp) h
 |any=>exact tA (by unfold ng;simp) h
 |anyS=>exact tA (by unfold ng;simp) h
 |free=>exact tA (by unfold ng;simp) h
 |dQ=>exact tA (by unfold ng;simp) h
 |move=>
  refine .inr ?_;unfold Tk.step;dsimp only;split
  .split
   .exact⟨no (by simp),gm.noConfusion⟩
   .exact⟨no (by simp),gm.noConfusion⟩
  .split
   .exact⟨no (by simp),gm.noConfusion⟩
   .exact⟨no (by simp),gm.noConfusion⟩
 |dD=>
  refine .inr ?_;unfold Tk.step;dsimp only;split
  .split
   .exact⟨no (by simp),gm.noConfusion⟩
   .exact⟨no (by simp),gm.noConfusion⟩
  .exact⟨no (by simp),gm.noConfusion⟩
 |bM=>
  rcases lQ (w:=w) (m:=m) (t:=⟨.bM,look,i,f,a,p,r,e⟩) (i:=i) (wd:=f) (d:=if g then 1 else 2)with b|⟨n,o,q,b⟩
  .refine .inl ?_
   unfold Tk.step;dsimp only;rw[b];exact⟨no (by simp[Tk.fin]),by simp[Tk.fin]⟩
  .unfold Tk.step
   dsimp only;rw[b];dsimp only;cases g with
   |true=>exact .inr ⟨no (by simp),by simp⟩
   |false=>exact .inl ⟨no (by simp[Tk.fin]),by simp[Tk.fin]⟩
 |check=>
  unfold Tk.step;dsimp only;split
  .exact .inl ⟨no (by simp[Tk.fin]),by simp[Tk.fin]⟩
  .exact .inr ⟨no (by simp),by simp⟩
 |back=>
  unfold Tk.step;dsimp only;split
  .exact .inr ⟨no (by simp),by simp⟩
  .exact .inl ⟨no (by simp[Tk.fin]),by simp[Tk.fin]⟩
 |go=>
  unfold Tk.step;dsimp only;split
  .split
   .exact .inl ⟨no (by simp[Tk.fin]),by simp[Tk.fin]⟩
   .exact .inr ⟨no (by simp),by simp⟩
  .exact .inr ⟨no (by simp),by simp⟩
 |grant=>exact .inr ⟨no (by simp[Tk.step]),by simp[Tk.step]⟩
 |eG=>
  unfold Tk.step;dsimp only;split
  .exact .inl ⟨no (by simp[Tk.fin]),by simp[Tk.fin]⟩
  .split
   .refine .inr ⟨no ?_,?_⟩
    .split<;>simp
    .split<;>simp
   .exact .inr ⟨no (by simp),by simp⟩
 |done=>exact tA rfl k
def bD(s:Ms)(x):(s.put w x).ws w=x:=by exact tz rfl
def Ca(x:Wr)(a):rp (x.end_ a)=1/\¬still (x.end_ a):=⟨rfl,λh=>h⟩
def Bd(s:Ms)(w:Nat)(a:Ms):Prop:=rp (a.ws w)<=rp (s.ws w)/\(still (a.ws w)->rp (a.ws w)+1<=rp (s.ws w))
def ro{s a}{x}(h:a.ws w=x)(r:rp x<=rp (s.ws w))(b:¬still x):Bd s w a:=by
 grind [Bd]
def UZ{s a}{x'}(h:a.ws w=x')(r:rp x'+1<=rp (s.ws w)):Bd s w a:=by
 grind [Bd]
theorem uh(x:Wr)(t):rp (x.to (.work (.get t)))=if ng t then 3 else 1:=rfl
def aez{k}(p:(s.ws w).ph=.work k)(T:Ba c w k):Bd s w (ak c w s (s.ws w) k):=by
 have n:∀k:Wk,1<=rp ((s.ws w).to (.work k)):=by
  intro k;cases k with
  |get t=>grind [uh]
  |_=>exact aq _
 have o:1<=rp (s.ws w):=by
  have:rp (s.ws w)=rp ((s.ws w).to (.work k)):=by
   unfold rp;rw[p];rfl
  rw[this];exact n k
 have f:∀(i:Ms) (a:bR),Bd s w (i.put w ((s.ws w).end_ a)):=λi a=>ro (bD _ _) o (λh=>h);have b:∀(i:Ms) (k:Wk),(∀t,k≠.get t)->Bd s w (i.put w ((s.ws w).to (.work k))):=by
  intro i k v;refine ro (bD _ _) ?_ (λh=>h);cases k with
  |get t=>exact tA rfl (v t)
  |_=>exact o
 cases k with
 |get t=>
  have e:rp (s.ws w)=if ng t then 3 else 1:=by unfold rp;rw[p]
  have z:rp (s.ws w)<=3:=by rw[e];split<;>omega
  unfold ak;dsimp only;generalize (if t.st=gm.bM then({s with wo:=s.next.2}:Ms)else s)=u;by_cases l:ng t
  .rw[tz l]at e
   split
   .split
    .split
     .exact ro (bD _ _) (by rw[e];exact aq 3) (λh=>h)
     .exact ro (bD _ _) (by rw[e];exact aq 3) (λh=>h)
    .split
     .exact f _ _
     .exact f _ _
   .refine ro (bD _ _) ?_ (fun h=>h)
    rw[e,uh];split<;>omega
  .have k:=ad' (c:=c) (w:=w) (m:=u.m) (g:=decide (t.st=.bM)&&s.next.1) l T.2
   generalize t.step w c.S u.m (decide (t.st=.bM)&&s.next.1)=r at*;rw[ck l]at e;have x:¬ng r.1:=k.elim (·.1) (·.1)
   split
   .have y:r.1.e≠3:=by
     rcases k with k|k
     .exact k.2
     .exact tA ‹_› k.2
    rw[ck y];split
    .exact f _ _
    .exact f _ _
   .refine ro (bD _ _) ?_ (fun h=>h)
    rw[e,uh,ck x];exact aq _
 |give g=>
  unfold ak;dsimp only;split
  .exact f _ _
  .exact b _ _ (λ_ h=>by cases h)
 |bg g=>
  unfold ak;dsimp only;split
  .exact f _ _
  .exact b _ _ (λ_ h=>by cases h)
 |close d=>
  cases d with
  |none=>
   unfold ak;dsimp only;exact b _ _ (λ_ h=>by cases h)
  |some q=>
   unfold ak;dsimp only;split
   .exact f _ _
   .exact b _ _ (λ_ h=>by cases h)
 |stats t=>
  unfold ak;dsimp only;split
  .exact f _ _
  .exact b _ _ (λ_ h=>by cases h)
 |aS r=>
  unfold ak;dsimp only;split
  .split
   .exact b _ _ (λ_ h=>by cases h)
   .split
    .exact f _ _
    .exact b _ _ (λ_ h=>by cases h)
  .split
   .exact b _ _ (λ_ h=>by cases h)
   .exact b _ _ (λ_ h=>by cases h)
  .split
   .split
    .exact b _ _ (λ_ h=>by cases h)
    .exact b _ _ (λ_ h=>by cases h)
   .exact b _ _ (λ_ h=>by cases h)
  .split
   .exact b _ _ (λ_ h=>by cases h)
   .exact b _ _ (λ_ h=>by cases h)
def aeA(X:jO c w (s.ws w))(f:aQ s w):Bd s w (ai c s w):=by
 unfold jO at X;unfold aQ at f;cases d:(s.ws w).ph with
 |rest=>grind
 |pin h=>
  have r:rp (s.ws w)=if(s.ws w).ask.op=0/\(s.ws w).grant<=0 then 3 else 1:=by unfold rp;rw[d]
  cases h with
  |none=>
   have h:ai c s w=s.put w ((s.ws w).to (.pin (some s.m.ep))):=by unfold ai;dsimp only;rw[d]
   rw[h];refine ro (bD _ _) ?_ (λh=>h);rw[r];exact aq _
  |some e=>
   have h:ai c s w=(s.mem (s.m.pin w (aR (e+1)))).put w ((s.ws w).to (.work (bE (s.ws w)))):=by unfold ai;dsimp only;rw[d]
   rw[h];refine ro (bD _ _) ?_ (λh=>h);rw[r];unfold bE;split
   .rename_i n
    by_cases i:(s.ws w).grant>0
    .rw[tz i,uh,ck (by unfold ng Tk.granted;simp)]
     split<;>omega
    .rw[ck i,tz ⟨n,by omega⟩,uh]
     split<;>omega
   .show 1<=_
    split<;>omega
   .show 1<=_
    split<;>omega
   .show 1<=_
    split<;>omega
   .show 1<=_
    split<;>omega
   .show 1<=_
    split<;>omega
   .show 1<=_
    split<;>omega
   .show 1<=_
    split<;>omega
 |work k=>
  rw[d]at X;have h:ai c s w=ak c w s (s.ws w) k:=by unfold ai;dsimp only;rw[d]
  rw[h];exact aez d X
 |counts t=>
  have r:rp (s.ws w)=3:=by unfold rp;rw[d]
  have h:ai c s w=if(t.step c.S s.m).dn then(if∃y∈(t.step c.S s.m).last.getD [],fits 3 w y then s.put w ((s.ws w).to (.work (.get Tk.new)))else s.put w ((s.ws w).end_ (.err 3)))else s.put w ((s.ws w).to (.counts (t.step c.S s.m))):=by unfold ai;dsimp only;rw[d]
  rw[h];split
  .split
   .refine ro (bD _ _) ?_ (fun h=>h)
    rw[r,uh];split<;>omega
   .exact ro (bD _ _) (by rw[r,(Ca _ _).1];decide) (λh=>h)
  .exact ro (bD _ _) (by rw[r];exact aq 3) (λh=>h)
 |enters q=>
  have r:rp (s.ws w)=3:=by unfold rp;rw[d]
  have h:ai c s w=if(q.step c w s.m).1.st=.done then(if(q.step c w s.m).1.e=0\/(q.step c w s.m).1.e=8 then(s.mem (q.step c w s.m).2).put w ((s.ws w).to (.ax Td.new (some (decide ((q.step c w s.m).1.e=0))) (.err 0)))else(s.mem (q.step c w s.m).2).put w ((s.ws w).end_ (.err (q.step c w s.m).1.e)))else(s.mem (q.step c w s.m).2).put w ((s.ws w).to (.enters (q.step c w s.m).1)):=by unfold ai;dsimp only;rw[d]
  rw[h];split
  .split
   .refine ro (bD _ _) ?_ (fun h=>h)
    rw[r];show(if decide ((q.step c w s.m).1.e=0)=true then 3 else 2)<=3;split<;>omega
   .exact ro (bD _ _) (by rw[r,(Ca _ _).1];decide) (λh=>h)
  .exact ro (bD _ _) (by rw[r];exact aq 3) (λh=>h)
 |ax t p a=>
  cases p with
  |some b=>
   have r:rp (s.ws w)=if b=true then 3 else 2:=by unfold rp;rw[d]
   have h:ai c s w=if(t.step c w s.m).1.st=.done then(s.mem (t.step c w s.m).2).put w ((s.ws w).to (.parked b))else(s.mem (t.step c w s.m).2).put w ((s.ws w).to (.ax (t.step c w s.m).1 (some b) a)):=by unfold ai;dsimp only;rw[d]
   rw[h];split
   .refine UZ (bD _ _) ?_
    rw[r];show(if b=true then 2 else 1)+1<=_;split<;>omega
   .refine ro (bD _ _) ?_ (fun h=>h)
    rw[r];exact aq _
  |none=>
   have r:rp (s.ws w)=1:=by unfold rp;rw[d]
   have h:ai c s w=if(t.step c w s.m).1.st=.done then{(s.mem (t.step c w s.m).2).put w ((s.ws w).to .rest)with ev:=⟨true,w,(s.ws w).ask,a⟩::s.ev}else(s.mem (t.step c w s.m).2).put w ((s.ws w).to (.ax (t.step c w s.m).1 none a)):=by unfold ai;dsimp only;rw[d];rfl
   rw[h];split
   .refine UZ (x':=(s.ws w).to .rest) (by show upd s.ws w _ w=_;unfold upd;exact tz rfl) ?_
    rw[r];exact aq _
   .refine ro (bD _ _) ?_ (fun h=>h)
    rw[r];exact aq _
 |parked b=>
  rw[d]at f;have r:rp (s.ws w)=if b=true then 2 else 1:=by unfold rp;rw[d]
  have h:ai c s w=if s.m.gr w≠0 then s.put w ((s.ws w).to (.wakes (some (s.m.gr w))))else aV c w s (s.ws w) Qu.leave:=by unfold ai;dsimp only;rw[d];rfl
  rw[h];by_cases i:s.m.gr w≠0
  .rw[tz i]
   refine ro (bD _ _) ?_ (λh=>h);rw[r];show 1<=_;split<;>omega
  .rw[ck i]
   have l:b=true:=by
    rcases f with f|f
    .exact tA f i
    .exact f.1
   subst l;rw[tz rfl]at r;unfold aV;dsimp only;split
   .split
    .refine UZ (bD _ _) ?_
     rw[r];exact aq _
    .exact ro (bD _ _) (by rw[r,(Ca _ _).1];decide) (λh=>h)
   .exact ro (bD _ _) (by rw[r];exact aq 2) (λh=>h)
 |wakes h=>
  rw[d]at X;obtain⟨g,rfl,o,u⟩:=X;have r:rp (s.ws w)=1:=by unfold rp;rw[d]
  have h:ai c s w=if g<0 then(s.mem (s.m.nT w 0)).put w ((s.ws w).end_ (.err 5))else(s.mem (s.m.nT w 0)).put w {s.ws w with grant:=g,ph:=.pin none}:=by unfold ai;dsimp only;rw[d];rfl
  rw[h];split
  .exact ro (bD _ _) (by rw[r,(Ca _ _).1];decide) (λh=>h)
  .refine ro (bD _ _) ?_ (fun h=>h)
   rw[r];show(if(s.ws w).ask.op=0/\g<=0 then 3 else 1)<=1;rw[ck (by omega)];exact aq _
 |leaves q=>
  have r:rp (s.ws w)=2:=by unfold rp;rw[d]
  have h:ai c s w=aV c w s (s.ws w) q:=by unfold ai;dsimp only;rw[d]
  rw[h];unfold aV;dsimp only;split
  .split
   .refine UZ (bD _ _) ?_
    rw[r];exact aq _
   .exact ro (bD _ _) (by rw[r,(Ca _ _).1];decide) (λh=>h)
  .exact ro (bD _ _) (by rw[r];exact aq 2) (λh=>h)
def ai1(x):rp x<=3:=by
 grind [rp]
end
noncomputable section
open Classical
variable{c:Cn} {w:Nat} {s:Ms} {m:Mm} {g:Bool}
inductive wW(w:Nat)(l:List Nat):List Nat->Prop
 |same:wW w l l
 |tail:wW w l l.tail
 |drop:wW w l (l.erase w)
 |push:w∉l->wW w l (l++[w])
def DI{r:Rt}:(r.step m).2.qu=m.qu:=by
 unfold Rt.step;split
 .split
  .split<;>rfl
  .rfl
 .rfl
 .split
  .split<;>rfl
  .rfl
 .rfl
 .rfl
def aiD{t:Tk}:(t.step w c.S m g).2.qu=m.qu:=by
 have a:∀{t f:Tk} {i k d b},t.swap w m i k d=some (f,b)->b.qu=m.qu:=by
  intro t f i k d b h;rcases lQ with e|⟨n,l,o,e⟩
  .rw[e]at h;cases h
  .rw[e]at h;cases h;rfl
 unfold Tk.step;split
 .split<;>rfl
 .dsimp only;split
  .rfl
  .split<;>rfl
 .split
  .exact a ‹_›
  .rfl
 .dsimp only;split
  .rfl
  .split<;>rfl
 .split
  .split<;>exact a ‹_›
  .rfl
 .dsimp only;split
  .split<;>rfl
  .split<;>rfl
 .split
  .split<;>rfl
  .rfl
 .dsimp only;split
  .rfl
  .split<;>rfl
 .split
  .exact a ‹_›
  .rfl
 .split
  .split<;>exact a ‹_›
  .rfl
 .split<;>rfl
 .split<;>rfl
 .dsimp only;split
  .split<;>exact DI
  .exact DI
 .rfl
 .split
  .rfl
  .split<;>rfl
 .rfl
def ajy{g:Gv}:(g.step c w m).2.qu=m.qu:=by
 unfold Gv.step;split
 .split<;>rfl
 .grind
 .split
  .split<;>rfl
  .rfl
 .dsimp only;split
  .split<;>exact DI
  .exact DI
 .rfl
def aiT{g:Sm}:(g.step c w m).2.qu=m.qu:=by
 unfold Sm.step;split
 .split<;>rfl
 .grind
 .split<;>rfl
 .rfl
def zZ{q:Qu}(h:q.st=.push->w∉q.ln):wW w m.qu (q.step c w m).2.qu:=by
 unfold Qu.step;split
 .split<;>exact .same
 .split
  .rename_i a b
   have:=h a;rw[<-b]at this;exact .push this
  .exact .same
 .split<;>exact .same
 .split<;>exact .same
 .split
  .exact .drop
  .exact .same
 .split<;>exact .same
 .split
  .exact .tail
  .exact .same
 .exact .same
 .exact .same
def J7{a}{t:Td}{d own}(h:t.swap m d own=some a):a.qu=m.qu:=by
 unfold Td.swap at h;split at h
 .split at h
  .cases h;rfl
  .cases h
 .cases h
def lq{l a}(h:a=l):wW w l a:=by rw[h];exact .same
def acY{t:Td}:wW w m.qu (t.step c w m).2.qu:=by
 unfold Td.step;split
 .exact .same
 .exact .same
 .exact .same
 .dsimp only;split
  .exact .same
  .split<;>exact .same
 .dsimp only;split<;>exact lq DI
 .dsimp only;split
  .exact .same
  .split<;>exact .same
 .split<;>exact .same
 .cases h:t.swap m 12 w with
  |none=>exact .same
  |some a=>exact lq (J7 h)
 .split<;>exact .same
 .dsimp only;split
  .exact .same
  .split<;>exact .same
 .split
  .exact lq (J7 ‹_›)
  .exact .same
 .split
  .exact .tail
  .exact .same
 .exact .same
 .exact .same
 .split
  .exact lq (J7 ‹_›)
  .exact .same
 .exact .same
 .exact .same
 .exact .same
theorem aii{k}(T:Ba c w k):wW w s.m.qu (ak c w s (s.ws w) k).m.qu:=by
 cases k with
 |get t=>
  unfold ak;dsimp only;have a:(if t.st=gm.bM then({s with wo:=s.next.2}:Ms)else s).m=s.m:=by split<;>rfl
  rw[a];have k:=aiD (c:=c) (w:=w) (m:=s.m) (g:=decide (t.st=.bM)&&s.next.1) (t:=t);split
  .split
   .split<;>exact lq k
   .split<;>exact lq k
  .exact lq k
 |give g=>
  unfold ak;dsimp only;split<;>exact lq ajy
 |bg g=>
  unfold ak;dsimp only;split<;>exact lq aiT
 |close d=>
  cases d with
  |none=>
   unfold ak;dsimp only;refine lq ?_;split
   .rfl
   .split<;>rfl
  |some q=>
   unfold ak;dsimp only;have:q.st=.push->w∉q.ln:=λh=>by
    have T:Du q:=T;unfold Du at T;rw[h]at T;exact T.elim
   split<;>exact zZ this
 |stats t=>
  unfold ak;dsimp only;split<;>exact .same
 |aS r=>
  unfold ak;dsimp only;split
  .split
   .exact .same
   .split<;>exact .same
  .split<;>exact .same
  .split
   .split<;>exact .same
   .exact .same
  .split<;>exact lq DI
def akU(X:jO c w (s.ws w)):wW w s.m.qu (ai c s w).m.qu:=by
 unfold jO at X;unfold ai;dsimp only;cases e:(s.ws w).ph with
 |rest=>exact .same
 |pin h=>cases h<;>exact .same
 |work k=>grind [aii]
 |counts t=>
  dsimp only;split
  .split<;>exact .same
  .exact .same
 |enters q=>
  rw[e]at X;have:q.st=.push->w∉q.ln:=λh=>by
   have T:Dt w q:=X;unfold Dt at T;rw[h]at T;exact T
  dsimp only;split
  .split<;>exact zZ this
  .exact zZ this
 |ax t p a=>
  dsimp only;split
  .cases p<;>exact acY
  .exact acY
 |parked b=>
  dsimp only;split
  .exact .same
  .unfold aV
   dsimp only;split
   .split<;>exact zZ (λh=>by cases h)
   .exact zZ (λh=>by cases h)
 |wakes h=>
  cases h with
  |none=>exact .same
  |some g=>
   show wW w s.m.qu (if g<0 then(s.mem (s.m.nT w 0)).put w ((s.ws w).end_ (.err 5))else(s.mem (s.m.nT w 0)).put w {s.ws w with grant:=g,ph:=.pin none}:Ms).m.qu;split<;>exact .same
 |leaves q=>
  rw[e]at X;have T:=X;have:q.st=.push->w∉q.ln:=λh=>by
   rcases T.1 with d|d
   .rw[h]at d;cases d
   .rw[h]at d;cases d.1
  unfold aV;dsimp only;split
  .split<;>exact zZ this
  .exact zZ this
def ai4{l a}(h:wW w l a)(n:l.Nodup):a.Nodup:=by
 cases h with
 |same=>exact n
 |tail=>grind
 |drop=>exact n.erase _
 |push h=>
  grind
theorem Ib:∀(W) (l:List Nat),l.Nodup->(∀a∈l,a<W)->l.length<=W
 |0,[],_,_=>aq _
 |0,a::r,_,h=>by grind [List.mem_cons_self]
 |W+1,l,n,h=>by
  have k:=Ib W (l.erase W) (n.erase W) λa b=>by
   grind
  grind
def ah0{x}(X:jO c w x):gY c m x<=bG c+1:=by
 have b:∀r,gT c r<=4+2*c.W:=λr=>by unfold gT;split<;>omega
 have e:∀t,uL c t<=bG c:=λt=>by
  have:=b t.rt;unfold uL bG bP cI;split<;>omega
 have d:∀k,JC c k<=bG c:=λk=>by
  unfold JC;split
  .exact e _
  .rename_i g
   have:=b g.rt;unfold JD bG bP cI;split<;>omega
  .unfold bG;omega
  .unfold bG bP;omega
  .unfold bDr bG bP;split<;>omega
  .unfold bG;omega
  .rename_i r
   have:=b r.rt;unfold bRp bG bP cI;split<;>omega
 unfold gY;split
 .omega
 .have:=d (bE x);omega
 .have:=d ‹Wk›;omega
 .omega
 .unfold Um bG
  split<;>omega
 .rename_i t p a _
  have:=b t.rt;have n:pB c p<=bP c:=by unfold pB;split<;>omega
  have u:rT c m t<=8+2*c.W:=by
   obtain⟨f,l,v,q,look,i,y,o,h,b⟩:=t;have z:(if m.ep=l then 0 else 2)<=2:=by split<;>omega
   have A:(if m.qu=q then 2 else 4)<=4:=by split<;>omega
   have B:(if m.qu=q then 1 else 3)<=3:=by split<;>omega
   unfold rT;cases f<;>dsimp only at this ⊢ <;>omega
  unfold bG lE;omega
 .unfold bG;omega
 .unfold bG;omega
 .unfold bG;omega
def Yj(I:Inv c s)(n:s.m.qu.Nodup)(a:1<=c.W)(b:c.W<=4)(d:1<=c.S)(e:c.S<=5):yj c s<=10000*c.W*(c.S+c.W):=by
 have k:JL c s<=c.W*(bG c+1)+(c.S*cI c+lE c*c.W):=by
  unfold JL wt;have l:=yO (f:=λi=>gY c s.m (s.ws i)) c.W λi h=>ah0 (I.w i h);have o:=yO (f:=λi=>cS c (s.m.sl i)) c.S λi h=>ajG c _;have p:=j7 (lE c) (Ib c.W s.m.qu n I.m.2);omega
 have r:MP c s<=c.W*Rx c:=by
  exact yO _ λi h=>acN _ _ _
 have q:=j7 (c.W*Rx c+1) k;refine eM (show yj c s<=(c.W*Rx c+1)*(c.W*(bG c+1)+(c.S*cI c+lE c*c.W))+c.W*Rx c by unfold yj;omega) ?_;unfold Rx bG bP cI lE;obtain⟨W,S,v,wt,u⟩:=c;dsimp only at a b d e ⊢;rcases(by omega:W=1\/W=2\/W=3\/W=4)with rfl|rfl|rfl|rfl<;>
 rcases(by omega:S=1\/S=2\/S=3\/S=4\/S=5)with rfl|rfl|rfl|rfl|rfl<;>decide
