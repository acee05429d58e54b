/- Group CdE: laws of the proof, joined. No condition of its own. -/
import Derived.Test.YteaflphddciglaaGreatDoorCcB
set_option linter.unusedVariables false
set_option linter.unusedSimpArgs false
namespace Go.Proofs.YteaflphddciglaaGreatDoor
namespace bq
noncomputable section
open Go.RowKit Go.bn Go.Sx
abbrev WF(W w:Nat)(p:Ph)(f:Ask->Ask):Prop:=∀(S:Nat) (st:Int) (wt:Nat) (u:Int) (m:Mm) (now:Int) (wo:List Bool) (ask:Ask) (gr:Int) (n:Nat) (R:Go.Sx.Rows) (rest:Nat->Option Value) (aj at_:Int) (ea:Ask) (en:Int) (eg:Bool),(o5 1 w ea en eg (fq (⟨⟨W,S,st,wt,u⟩,m,now,wo,w,⟨p,f ask,gr⟩,n,R,rest,aj,at_⟩:Xq))).get=(FJ (⟨⟨W,S,st,wt,u⟩,m,now,wo,w,⟨p,f ask,gr⟩,n,R,rest,aj,at_⟩:Xq)).get
abbrev WQ(W w:Nat)(p:Ph):Prop:=WF W w p fun k=>k
abbrev WP(W w o:Nat)(p:Ph):Prop:=WF W w p fun k=>⟨o,k.wait,k.force,k.dl,k.slot,k.gen,k.strm⟩
abbrev SQ(W w:Nat)(t:Ti):Prop:=∀(S:Nat) (st:Int) (wt:Nat) (u:Int) (m:Mm) (now:Int) (wo:List Bool) (ask:Ask) (gr:Int) (n:Nat) (R:Go.Sx.Rows) (rest:Nat->Option Value) (aj at_:Int) (ea:Ask) (en:Int) (eg:Bool),(o5 1 w ea en eg (heapT (⟨⟨W,S,st,wt,u⟩,m,now,wo,w,⟨.rest,ask,gr⟩,n,R,rest,aj,at_⟩:Xq) true t)).get=(Dz (⟨⟨W,S,st,wt,u⟩,m,now,wo,w,⟨.rest,ask,gr⟩,n,R,rest,aj,at_⟩:Xq) t).get
abbrev CQ(W w S:Nat)(t:Ti):Prop:=∀(st:Int) (wt:Nat) (u:Int) (m:Mm) (now:Int) (wo:List Bool) (ask:Ask) (gr:Int) (n:Nat) (R:Go.Sx.Rows) (rest:Nat->Option Value) (aj at_:Int) (ea:Ask) (en:Int) (eg:Bool),(o5 1 w ea en eg (heapT (⟨⟨W,S,st,wt,u⟩,m,now,wo,w,⟨.rest,ask,gr⟩,n,R,rest,aj,at_⟩:Xq) false t)).get=(K9 (⟨⟨W,S,st,wt,u⟩,m,now,wo,w,⟨.rest,ask,gr⟩,n,R,rest,aj,at_⟩:Xq) t).get
structure wT(W w:Nat):Prop where
 ahX:WQ W w (.work (.close none))
 Wn:∀(ln:List Nat) (first:Nat) (why te:Int),WQ W w (.work (.close (some ⟨.head,ln,first,why,te⟩)))
 ZA:∀(ln:List Nat) (first:Nat) (why te:Int),WQ W w (.work (.close (some ⟨.pop,ln,first,why,te⟩)))
 Wm:∀(ln:List Nat) (first:Nat) (why te:Int),WQ W w (.work (.close (some ⟨.tell,ln,first,why,te⟩)))
 Ns:∀(ln:List Nat) (first:Nat) (why te:Int),WQ W w (.enters ⟨.closed,ln,first,why,te⟩)
 Sg:∀(ln:List Nat) (first:Nat) (why te:Int),WQ W w (.enters ⟨.come,ln,first,why,te⟩)
 Sd:∀(ln:List Nat) (first:Nat) (why te:Int),WQ W w (.enters ⟨.drop,ln,first,why,te⟩)
 Sc:∀(ln:List Nat) (first:Nat) (why te:Int),WQ W w (.enters ⟨.look,ln,first,why,te⟩)
 Sb:∀(ln:List Nat) (first:Nat) (why te:Int),WQ W w (.enters ⟨.push,ln,first,why,te⟩)
 afx:∀(ow:Int) (a0:Nat) (ti:Nat) (aJ:aa) (gen:Int) (ps:Bool) (ri:Nat) (aA:aa) (rep:Int) (rs:cK) (aF:Bool) (te:Int),WQ W w (.work (.get ⟨.any,⟨1,ow,a0,none⟩,ti,aJ,gen,ps,⟨ri,aA,rep,rs,aF⟩,te⟩))
 ab2:∀(ow:Int) (a0:Nat) (x:aa) (ti:Nat) (aJ:aa) (gen:Int) (ps:Bool) (ri:Nat) (aA:aa) (rep:Int) (rs:cK) (aF:Bool) (te:Int),WQ W w (.work (.get ⟨.anyS,⟨1,ow,a0,some x⟩,ti,aJ,gen,ps,⟨ri,aA,rep,rs,aF⟩,te⟩))
 ab1:∀(kd:Nat) (ow:Int) (a0:Nat) (fd:Option aa) (ti:Nat) (aJ:aa) (gen:Int) (ps:Bool) (ri:Nat) (aA:aa) (rep:Int) (rs:cK) (aF:Bool) (te:Int),WQ W w (.work (.get ⟨.back,⟨kd,ow,a0,fd⟩,ti,aJ,gen,ps,⟨ri,aA,rep,rs,aF⟩,te⟩))
 Zd:∀(kd:Nat) (ow:Int) (a0:Nat) (fd:Option aa) (ti:Nat) (aJ:aa) (gen:Int) (ps:Bool) (ri:Nat) (aA:aa) (rep:Int) (rs:cK) (aF:Bool) (te:Int),WQ W w (.work (.get ⟨.check,⟨kd,ow,a0,fd⟩,ti,aJ,gen,ps,⟨ri,aA,rep,rs,aF⟩,te⟩))
 VQ:∀(kd:Nat) (ow:Int) (a0:Nat) (fd:Option aa) (ti:Nat) (aJ:aa) (gen:Int) (ps:Bool) (ri:Nat) (aA:aa) (rep:Int) (rs:cK) (aF:Bool) (te:Int),WQ W w (.work (.get ⟨.closed,⟨kd,ow,a0,fd⟩,ti,aJ,gen,ps,⟨ri,aA,rep,rs,aF⟩,te⟩))
 ab0:∀(kd:Nat) (ow:Int) (a0:Nat) (fd:Option aa) (ti:Nat) (aJ:aa) (gen:Int) (ps:Bool) (ri:Nat) (aA:aa) (rep:Int) (rs:cK) (aF:Bool) (te:Int),WQ W w (.work (.get ⟨.bM,⟨kd,ow,a0,fd⟩,ti,aJ,gen,ps,⟨ri,aA,rep,rs,aF⟩,te⟩))
 abZ:∀(ow:Int) (a0:Nat) (ti:Nat) (aJ:aa) (gen:Int) (ps:Bool) (ri:Nat) (aA:aa) (rep:Int) (rs:cK) (aF:Bool) (te:Int),WQ W w (.work (.get ⟨.free,⟨2,ow,a0,none⟩,ti,aJ,gen,ps,⟨ri,aA,rep,rs,aF⟩,te⟩))
 Zc:∀(ow:Int) (a0:Nat) (x:aa) (ti:Nat) (aJ:aa) (gen:Int) (ps:Bool) (ri:Nat) (aA:aa) (rep:Int) (rs:cK) (aF:Bool) (te:Int),WQ W w (.work (.get ⟨.dQ,⟨2,ow,a0,some x⟩,ti,aJ,gen,ps,⟨ri,aA,rep,rs,aF⟩,te⟩))
 VP:∀(kd:Nat) (ow:Int) (a0:Nat) (fd:Option aa) (ti:Nat) (aJ:aa) (gen:Int) (ps:Bool) (ri:Nat) (aA:aa) (rep:Int) (aF:Bool) (te:Int),WQ W w (.work (.get ⟨.go,⟨kd,ow,a0,fd⟩,ti,aJ,gen,ps,⟨ri,aA,rep,.iI,aF⟩,te⟩))
 R8:∀(kd:Nat) (ow:Int) (a0:Nat) (fd:Option aa) (ti:Nat) (aJ:aa) (gen:Int) (ps:Bool) (ri:Nat) (aA:aa) (rep:Int) (aF:Bool) (te:Int),WQ W w (.work (.get ⟨.go,⟨kd,ow,a0,fd⟩,ti,aJ,gen,ps,⟨ri,aA,rep,.jk,aF⟩,te⟩))
 R7:∀(kd:Nat) (ow:Int) (a0:Nat) (fd:Option aa) (ti:Nat) (aJ:aa) (gen:Int) (ps:Bool) (ri:Nat) (aA:aa) (rep:Int) (aF:Bool) (te:Int),WQ W w (.work (.get ⟨.go,⟨kd,ow,a0,fd⟩,ti,aJ,gen,ps,⟨ri,aA,rep,.look,aF⟩,te⟩))
 R6:∀(kd:Nat) (ow:Int) (a0:Nat) (fd:Option aa) (ti:Nat) (aJ:aa) (gen:Int) (ps:Bool) (ri:Nat) (aA:aa) (rep:Int) (aF:Bool) (te:Int),WQ W w (.work (.get ⟨.go,⟨kd,ow,a0,fd⟩,ti,aJ,gen,ps,⟨ri,aA,rep,.swap,aF⟩,te⟩))
 Zb:∀(kd:Nat) (ow:Int) (a0:Nat) (fd:Option aa) (ti:Nat) (aJ:aa) (gen:Int) (ps:Bool) (ri:Nat) (aA:aa) (rep:Int) (rs:cK) (aF:Bool) (te:Int),WQ W w (.work (.get ⟨.grant,⟨kd,ow,a0,fd⟩,ti,aJ,gen,ps,⟨ri,aA,rep,rs,aF⟩,te⟩))
 VO:∀(kd:Nat) (ow:Int) (a0:Nat) (fd:Option aa) (ti:Nat) (aJ:aa) (gen:Int) (ps:Bool) (ri:Nat) (aA:aa) (rep:Int) (rs:cK) (aF:Bool) (te:Int),WQ W w (.work (.get ⟨.eG,⟨kd,ow,a0,fd⟩,ti,aJ,gen,ps,⟨ri,aA,rep,rs,aF⟩,te⟩))
 abY:∀(ow:Int) (a0:Nat) (ti:Nat) (aJ:aa) (gen:Int) (ps:Bool) (ri:Nat) (aA:aa) (rep:Int) (rs:cK) (aF:Bool) (te:Int),WQ W w (.work (.get ⟨.move,⟨0,ow,a0,none⟩,ti,aJ,gen,ps,⟨ri,aA,rep,rs,aF⟩,te⟩))
 Y9:∀(ow:Int) (a0:Nat) (x:aa) (ti:Nat) (aJ:aa) (gen:Int) (ps:Bool) (ri:Nat) (aA:aa) (rep:Int) (rs:cK) (aF:Bool) (te:Int),WQ W w (.work (.get ⟨.dD,⟨0,ow,a0,some x⟩,ti,aJ,gen,ps,⟨ri,aA,rep,rs,aF⟩,te⟩))
 afw:∀(ow:Int) (a0:Nat) (ti:Nat) (aJ:aa) (gen:Int) (ps:Bool) (ri:Nat) (aA:aa) (rep:Int) (rs:cK) (aF:Bool) (te:Int),WQ W w (.work (.get ⟨.own,⟨0,ow,a0,none⟩,ti,aJ,gen,ps,⟨ri,aA,rep,rs,aF⟩,te⟩))
 abX:∀(ow:Int) (a0:Nat) (x:aa) (ti:Nat) (aJ:aa) (gen:Int) (ps:Bool) (ri:Nat) (aA:aa) (rep:Int) (rs:cK) (aF:Bool) (te:Int),WQ W w (.work (.get ⟨.gp,⟨0,ow,a0,some x⟩,ti,aJ,gen,ps,⟨ri,aA,rep,rs,aF⟩,te⟩))
 R5:∀(gi gen:Int) (dc:Bool) (xR:Int) (aJ:aa) (ri:Nat) (aA:aa) (rep:Int) (rs:cK) (aF:Bool) (te:Int),WQ W w (.work (.give ⟨gi,gen,dc,.closed,xR,aJ,⟨ri,aA,rep,rs,aF⟩,te⟩))
 R3:∀(gi gen:Int) (dc:Bool) (xR:Int) (aJ:aa) (ri:Nat) (aA:aa) (rep:Int) (aF:Bool) (te:Int),WQ W w (.work (.give ⟨gi,gen,dc,.go,xR,aJ,⟨ri,aA,rep,.iI,aF⟩,te⟩))
 Qh:∀(gi gen:Int) (dc:Bool) (xR:Int) (aJ:aa) (ri:Nat) (aA:aa) (rep:Int) (aF:Bool) (te:Int),WQ W w (.work (.give ⟨gi,gen,dc,.go,xR,aJ,⟨ri,aA,rep,.jk,aF⟩,te⟩))
 Qg:∀(gi gen:Int) (dc:Bool) (xR:Int) (aJ:aa) (ri:Nat) (aA:aa) (rep:Int) (aF:Bool) (te:Int),WQ W w (.work (.give ⟨gi,gen,dc,.go,xR,aJ,⟨ri,aA,rep,.look,aF⟩,te⟩))
 Qf:∀(gi gen:Int) (dc:Bool) (xR:Int) (aJ:aa) (ri:Nat) (aA:aa) (rep:Int) (aF:Bool) (te:Int),WQ W w (.work (.give ⟨gi,gen,dc,.go,xR,aJ,⟨ri,aA,rep,.swap,aF⟩,te⟩))
 Y8:∀(gi gen:Int) (dc:Bool) (xR:Int) (aJ:aa) (ri:Nat) (aA:aa) (rep:Int) (rs:cK) (aF:Bool) (te:Int),WQ W w (.work (.give ⟨gi,gen,dc,.look,xR,aJ,⟨ri,aA,rep,rs,aF⟩,te⟩))
 Y7:∀(gi gen:Int) (dc:Bool) (xR:Int) (aJ:aa) (ri:Nat) (aA:aa) (rep:Int) (rs:cK) (aF:Bool) (te:Int),WQ W w (.work (.give ⟨gi,gen,dc,.rest,xR,aJ,⟨ri,aA,rep,rs,aF⟩,te⟩))
 RX:∀(ln:List Nat) (first:Nat) (why te:Int),WQ W w (.leaves ⟨.drop,ln,first,why,te⟩)
 RV:∀(ln:List Nat) (first:Nat) (why te:Int),WQ W w (.leaves ⟨.look,ln,first,why,te⟩)
 RD:∀(pb:Bool),WQ W w (.parked pb)
 ak':WQ W w (.pin none)
 agF:∀(te:Int),WP W w 0 (.pin (some te))
 agE:∀(te:Int),WP W w 1 (.pin (some te))
 agD:∀(te:Int),WP W w 2 (.pin (some te))
 agC:∀(te:Int),WP W w 3 (.pin (some te))
 agB:∀(te:Int),WP W w 4 (.pin (some te))
 agA:∀(te:Int),WP W w 5 (.pin (some te))
 agz:∀(te:Int),WP W w 6 (.pin (some te))
 agy:∀(te:Int),WP W w 7 (.pin (some te))
 aaX:∀(ow:Int) (a0:Nat) (x:aa) (many:Int) (ri:Nat) (aA:aa) (rep:Int) (rs:cK) (aF:Bool),WQ W w (.work (.aS ⟨.ask,⟨6,ow,a0,some x⟩,many,⟨ri,aA,rep,rs,aF⟩⟩))
 Ya:∀(ow:Int) (a0:Nat) (many:Int) (ri:Nat) (aA:aa) (rep:Int) (rs:cK) (aF:Bool),WQ W w (.work (.aS ⟨.look,⟨6,ow,a0,none⟩,many,⟨ri,aA,rep,rs,aF⟩⟩))
 X9:∀(ow:Int) (a0:Nat) (x:aa) (many:Int) (ri:Nat) (aA:aa) (rep:Int) (rs:cK) (aF:Bool),WQ W w (.work (.aS ⟨.mark,⟨6,ow,a0,some x⟩,many,⟨ri,aA,rep,rs,aF⟩⟩))
 He:∀(ow:Int) (a0:Nat) (x:aa) (many:Int) (ri:Nat) (aA:aa) (rep:Int) (aF:Bool),WQ W w (.work (.aS ⟨.dB,⟨6,ow,a0,some x⟩,many,⟨ri,aA,rep,.iI,aF⟩⟩))
 FD:∀(ow:Int) (a0:Nat) (x:aa) (many:Int) (ri:Nat) (aA:aa) (rep:Int) (aF:Bool),WQ W w (.work (.aS ⟨.dB,⟨6,ow,a0,some x⟩,many,⟨ri,aA,rep,.jk,aF⟩⟩))
 FC:∀(ow:Int) (a0:Nat) (x:aa) (many:Int) (ri:Nat) (aA:aa) (rep:Int) (aF:Bool),WQ W w (.work (.aS ⟨.dB,⟨6,ow,a0,some x⟩,many,⟨ri,aA,rep,.look,aF⟩⟩))
 FB:∀(ow:Int) (a0:Nat) (x:aa) (many:Int) (ri:Nat) (aA:aa) (rep:Int) (aF:Bool),WQ W w (.work (.aS ⟨.dB,⟨6,ow,a0,some x⟩,many,⟨ri,aA,rep,.swap,aF⟩⟩))
 rest:WQ W w .rest
 Es:∀(gi gen sn:Int) (aJ nx:aa) (num te:Int),WQ W w (.work (.strm ⟨false,gi,gen,sn,.closed,aJ,nx,num,te⟩))
 GV:∀(gi gen sn:Int) (aJ nx:aa) (num te:Int),WQ W w (.work (.strm ⟨false,gi,gen,sn,.look,aJ,nx,num,te⟩))
 GU:∀(gi gen sn:Int) (aJ nx:aa) (num te:Int),WQ W w (.work (.strm ⟨false,gi,gen,sn,.swap,aJ,nx,num,te⟩))
 Fw:∀(gi gen sn:Int) (aJ nx:aa) (num te:Int),WQ W w (.work (.strm ⟨true,gi,gen,sn,.closed,aJ,nx,num,te⟩))
 Kc:∀(gi gen sn:Int) (aJ nx:aa) (num te:Int),WQ W w (.work (.strm ⟨true,gi,gen,sn,.look,aJ,nx,num,te⟩))
 Kb:∀(gi gen sn:Int) (aJ nx:aa) (num te:Int),WQ W w (.work (.strm ⟨true,gi,gen,sn,.swap,aJ,nx,num,te⟩))
 J6:∀(bT bU:Int) (bS:List Nat) (kd:Nat) (ow:Int) (a0:Nat) (fd:Option aa) (ti:Nat) (aJ:aa) (bf hd:Nat) (ri:Nat) (aA:aa) (rep:Int) (rs:cK) (aF:Bool) (an:bq.bR),WQ W w (.ax ⟨.again,bT,bU,bS,⟨kd,ow,a0,fd⟩,ti,aJ,bf,hd,⟨ri,aA,rep,rs,aF⟩⟩ none an)
 Nc:∀(bT bU:Int) (bS:List Nat) (kd:Nat) (ow:Int) (a0:Nat) (fd:Option aa) (ti:Nat) (aJ:aa) (bf hd:Nat) (ri:Nat) (aA:aa) (rep:Int) (rs:cK) (aF:Bool) (an:bq.bR),WQ W w (.ax ⟨.back,bT,bU,bS,⟨kd,ow,a0,fd⟩,ti,aJ,bf,hd,⟨ri,aA,rep,rs,aF⟩⟩ none an)
 Rk:∀(bT bU:Int) (bS:List Nat) (kd:Nat) (ow:Int) (a0:Nat) (fd:Option aa) (ti:Nat) (aJ:aa) (bf hd:Nat) (ri:Nat) (aA:aa) (rep:Int) (rs:cK) (aF:Bool) (an:bq.bR),WQ W w (.ax ⟨.cl,bT,bU,bS,⟨kd,ow,a0,fd⟩,ti,aJ,bf,hd,⟨ri,aA,rep,rs,aF⟩⟩ none an)
 J5:∀(bT bU:Int) (bS:List Nat) (ow:Int) (a0:Nat) (x:aa) (ti:Nat) (aJ:aa) (bf hd:Nat) (ri:Nat) (aA:aa) (rep:Int) (rs:cK) (aF:Bool) (an:bq.bR),WQ W w (.ax ⟨.clear,bT,bU,bS,⟨5,ow,a0,some x⟩,ti,aJ,bf,hd,⟨ri,aA,rep,rs,aF⟩⟩ none an)
 Rj:∀(bT bU:Int) (bS:List Nat) (kd:Nat) (ow:Int) (a0:Nat) (fd:Option aa) (ti:Nat) (aJ:aa) (bf hd:Nat) (ri:Nat) (aA:aa) (rep:Int) (rs:cK) (aF:Bool) (an:bq.bR),WQ W w (.ax ⟨.ep,bT,bU,bS,⟨kd,ow,a0,fd⟩,ti,aJ,bf,hd,⟨ri,aA,rep,rs,aF⟩⟩ none an)
 GN:∀(bT bU:Int) (bS:List Nat) (ow:Int) (a0:Nat) (x:aa) (ti:Nat) (aJ:aa) (bf hd:Nat) (ri:Nat) (aA:aa) (rep:Int) (aF:Bool) (an:bq.bR),WQ W w (.ax ⟨.go,bT,bU,bS,⟨4,ow,a0,some x⟩,ti,aJ,bf,hd,⟨ri,aA,rep,.iI,aF⟩⟩ none an)
 Fs:∀(bT bU:Int) (bS:List Nat) (ow:Int) (a0:Nat) (x:aa) (ti:Nat) (aJ:aa) (bf hd:Nat) (ri:Nat) (aA:aa) (rep:Int) (aF:Bool) (an:bq.bR),WQ W w (.ax ⟨.go,bT,bU,bS,⟨4,ow,a0,some x⟩,ti,aJ,bf,hd,⟨ri,aA,rep,.jk,aF⟩⟩ none an)
 Fq:∀(bT bU:Int) (bS:List Nat) (ow:Int) (a0:Nat) (x:aa) (ti:Nat) (aJ:aa) (bf hd:Nat) (ri:Nat) (aA:aa) (rep:Int) (aF:Bool) (an:bq.bR),WQ W w (.ax ⟨.go,bT,bU,bS,⟨4,ow,a0,some x⟩,ti,aJ,bf,hd,⟨ri,aA,rep,.look,aF⟩⟩ none an)
 Fp:∀(bT bU:Int) (bS:List Nat) (ow:Int) (a0:Nat) (x:aa) (ti:Nat) (aJ:aa) (bf hd:Nat) (ri:Nat) (aA:aa) (rep:Int) (aF:Bool) (an:bq.bR),WQ W w (.ax ⟨.go,bT,bU,bS,⟨4,ow,a0,some x⟩,ti,aJ,bf,hd,⟨ri,aA,rep,.swap,aF⟩⟩ none an)
 J4:∀(bT bU:Int) (bS:List Nat) (kd:Nat) (ow:Int) (a0:Nat) (fd:Option aa) (ti:Nat) (aJ:aa) (bf hd:Nat) (ri:Nat) (aA:aa) (rep:Int) (rs:cK) (aF:Bool) (an:bq.bR),WQ W w (.ax ⟨.grant,bT,bU,bS,⟨kd,ow,a0,fd⟩,ti,aJ,bf,hd,⟨ri,aA,rep,rs,aF⟩⟩ none an)
 Nb:∀(bT bU:Int) (bS:List Nat) (ow:Int) (a0:Nat) (x:aa) (ti:Nat) (aJ:aa) (bf hd:Nat) (ri:Nat) (aA:aa) (rep:Int) (rs:cK) (aF:Bool) (an:bq.bR),WQ W w (.ax ⟨.keep,bT,bU,bS,⟨3,ow,a0,some x⟩,ti,aJ,bf,hd,⟨ri,aA,rep,rs,aF⟩⟩ none an)
 Na:∀(bT bU:Int) (bS:List Nat) (kd:Nat) (ow:Int) (a0:Nat) (fd:Option aa) (ti:Nat) (aJ:aa) (bf hd:Nat) (ri:Nat) (aA:aa) (rep:Int) (rs:cK) (aF:Bool) (an:bq.bR),WQ W w (.ax ⟨.line,bT,bU,bS,⟨kd,ow,a0,fd⟩,ti,aJ,bf,hd,⟨ri,aA,rep,rs,aF⟩⟩ none an)
 Om:∀(bT bU:Int) (bS:List Nat) (ow:Int) (a0:Nat) (ti:Nat) (aJ:aa) (bf hd:Nat) (ri:Nat) (aA:aa) (rep:Int) (rs:cK) (aF:Bool) (an:bq.bR),WQ W w (.ax ⟨.old,bT,bU,bS,⟨5,ow,a0,none⟩,ti,aJ,bf,hd,⟨ri,aA,rep,rs,aF⟩⟩ none an)
 Ol:∀(bT bU:Int) (bS:List Nat) (kd:Nat) (ow:Int) (a0:Nat) (fd:Option aa) (ti:Nat) (aJ:aa) (bf hd:Nat) (ri:Nat) (aA:aa) (rep:Int) (rs:cK) (aF:Bool) (an:bq.bR),WQ W w (.ax ⟨.pin,bT,bU,bS,⟨kd,ow,a0,fd⟩,ti,aJ,bf,hd,⟨ri,aA,rep,rs,aF⟩⟩ none an)
 M9:∀(bT bU:Int) (bS:List Nat) (ow:Int) (a0:Nat) (x:aa) (ti:Nat) (aJ:aa) (bf hd:Nat) (ri:Nat) (aA:aa) (rep:Int) (rs:cK) (aF:Bool) (an:bq.bR),WQ W w (.ax ⟨.pins,bT,bU,bS,⟨5,ow,a0,some x⟩,ti,aJ,bf,hd,⟨ri,aA,rep,rs,aF⟩⟩ none an)
 Oj:∀(bT bU:Int) (bS:List Nat) (kd:Nat) (ow:Int) (a0:Nat) (fd:Option aa) (ti:Nat) (aJ:aa) (bf hd:Nat) (ri:Nat) (aA:aa) (rep:Int) (rs:cK) (aF:Bool) (an:bq.bR),WQ W w (.ax ⟨.pop,bT,bU,bS,⟨kd,ow,a0,fd⟩,ti,aJ,bf,hd,⟨ri,aA,rep,rs,aF⟩⟩ none an)
 MZ:∀(bT bU:Int) (bS:List Nat) (ow:Int) (a0:Nat) (ti:Nat) (aJ:aa) (bf hd:Nat) (ri:Nat) (aA:aa) (rep:Int) (rs:cK) (aF:Bool) (an:bq.bR),WQ W w (.ax ⟨.some,bT,bU,bS,⟨3,ow,a0,none⟩,ti,aJ,bf,hd,⟨ri,aA,rep,rs,aF⟩⟩ none an)
 J3:∀(bT bU:Int) (bS:List Nat) (ow:Int) (a0:Nat) (ti:Nat) (aJ:aa) (bf hd:Nat) (ri:Nat) (aA:aa) (rep:Int) (rs:cK) (aF:Bool) (an:bq.bR),WQ W w (.ax ⟨.dL,bT,bU,bS,⟨4,ow,a0,none⟩,ti,aJ,bf,hd,⟨ri,aA,rep,rs,aF⟩⟩ none an)
 GM:∀(bT bU:Int) (bS:List Nat) (kd:Nat) (ow:Int) (a0:Nat) (fd:Option aa) (ti:Nat) (aJ:aa) (bf hd:Nat) (ri:Nat) (aA:aa) (rep:Int) (rs:cK) (aF:Bool) (an:bq.bR),WQ W w (.ax ⟨.dR,bT,bU,bS,⟨kd,ow,a0,fd⟩,ti,aJ,bf,hd,⟨ri,aA,rep,rs,aF⟩⟩ none an)
 J2:∀(bT bU:Int) (bS:List Nat) (kd:Nat) (ow:Int) (a0:Nat) (fd:Option aa) (ti:Nat) (aJ:aa) (bf hd:Nat) (ri:Nat) (aA:aa) (rep:Int) (rs:cK) (aF:Bool) (an:bq.bR),WQ W w (.ax ⟨.eO,bT,bU,bS,⟨kd,ow,a0,fd⟩,ti,aJ,bf,hd,⟨ri,aA,rep,rs,aF⟩⟩ none an)
 JZ:∀(bT bU:Int) (bS:List Nat) (kd:Nat) (ow:Int) (a0:Nat) (fd:Option aa) (ti:Nat) (aJ:aa) (bf hd:Nat) (ri:Nat) (aA:aa) (rep:Int) (rs:cK) (aF:Bool) (an:bq.bR) (pb:Bool),WQ W w (.ax ⟨.again,bT,bU,bS,⟨kd,ow,a0,fd⟩,ti,aJ,bf,hd,⟨ri,aA,rep,rs,aF⟩⟩ (some pb) an)
 MX:∀(bT bU:Int) (bS:List Nat) (kd:Nat) (ow:Int) (a0:Nat) (fd:Option aa) (ti:Nat) (aJ:aa) (bf hd:Nat) (ri:Nat) (aA:aa) (rep:Int) (rs:cK) (aF:Bool) (an:bq.bR) (pb:Bool),WQ W w (.ax ⟨.back,bT,bU,bS,⟨kd,ow,a0,fd⟩,ti,aJ,bf,hd,⟨ri,aA,rep,rs,aF⟩⟩ (some pb) an)
 Ri:∀(bT bU:Int) (bS:List Nat) (kd:Nat) (ow:Int) (a0:Nat) (fd:Option aa) (ti:Nat) (aJ:aa) (bf hd:Nat) (ri:Nat) (aA:aa) (rep:Int) (rs:cK) (aF:Bool) (an:bq.bR) (pb:Bool),WQ W w (.ax ⟨.cl,bT,bU,bS,⟨kd,ow,a0,fd⟩,ti,aJ,bf,hd,⟨ri,aA,rep,rs,aF⟩⟩ (some pb) an)
 JY:∀(bT bU:Int) (bS:List Nat) (ow:Int) (a0:Nat) (x:aa) (ti:Nat) (aJ:aa) (bf hd:Nat) (ri:Nat) (aA:aa) (rep:Int) (rs:cK) (aF:Bool) (an:bq.bR) (pb:Bool),WQ W w (.ax ⟨.clear,bT,bU,bS,⟨5,ow,a0,some x⟩,ti,aJ,bf,hd,⟨ri,aA,rep,rs,aF⟩⟩ (some pb) an)
 Rh:∀(bT bU:Int) (bS:List Nat) (kd:Nat) (ow:Int) (a0:Nat) (fd:Option aa) (ti:Nat) (aJ:aa) (bf hd:Nat) (ri:Nat) (aA:aa) (rep:Int) (rs:cK) (aF:Bool) (an:bq.bR) (pb:Bool),WQ W w (.ax ⟨.ep,bT,bU,bS,⟨kd,ow,a0,fd⟩,ti,aJ,bf,hd,⟨ri,aA,rep,rs,aF⟩⟩ (some pb) an)
 GL:∀(bT bU:Int) (bS:List Nat) (ow:Int) (a0:Nat) (x:aa) (ti:Nat) (aJ:aa) (bf hd:Nat) (ri:Nat) (aA:aa) (rep:Int) (aF:Bool) (an:bq.bR) (pb:Bool),WQ W w (.ax ⟨.go,bT,bU,bS,⟨4,ow,a0,some x⟩,ti,aJ,bf,hd,⟨ri,aA,rep,.iI,aF⟩⟩ (some pb) an)
 Fj:∀(bT bU:Int) (bS:List Nat) (ow:Int) (a0:Nat) (x:aa) (ti:Nat) (aJ:aa) (bf hd:Nat) (ri:Nat) (aA:aa) (rep:Int) (aF:Bool) (an:bq.bR) (pb:Bool),WQ W w (.ax ⟨.go,bT,bU,bS,⟨4,ow,a0,some x⟩,ti,aJ,bf,hd,⟨ri,aA,rep,.jk,aF⟩⟩ (some pb) an)
 Fh:∀(bT bU:Int) (bS:List Nat) (ow:Int) (a0:Nat) (x:aa) (ti:Nat) (aJ:aa) (bf hd:Nat) (ri:Nat) (aA:aa) (rep:Int) (aF:Bool) (an:bq.bR) (pb:Bool),WQ W w (.ax ⟨.go,bT,bU,bS,⟨4,ow,a0,some x⟩,ti,aJ,bf,hd,⟨ri,aA,rep,.look,aF⟩⟩ (some pb) an)
 Fg:∀(bT bU:Int) (bS:List Nat) (ow:Int) (a0:Nat) (x:aa) (ti:Nat) (aJ:aa) (bf hd:Nat) (ri:Nat) (aA:aa) (rep:Int) (aF:Bool) (an:bq.bR) (pb:Bool),WQ W w (.ax ⟨.go,bT,bU,bS,⟨4,ow,a0,some x⟩,ti,aJ,bf,hd,⟨ri,aA,rep,.swap,aF⟩⟩ (some pb) an)
 JX:∀(bT bU:Int) (bS:List Nat) (kd:Nat) (ow:Int) (a0:Nat) (fd:Option aa) (ti:Nat) (aJ:aa) (bf hd:Nat) (ri:Nat) (aA:aa) (rep:Int) (rs:cK) (aF:Bool) (an:bq.bR) (pb:Bool),WQ W w (.ax ⟨.grant,bT,bU,bS,⟨kd,ow,a0,fd⟩,ti,aJ,bf,hd,⟨ri,aA,rep,rs,aF⟩⟩ (some pb) an)
 MW:∀(bT bU:Int) (bS:List Nat) (ow:Int) (a0:Nat) (x:aa) (ti:Nat) (aJ:aa) (bf hd:Nat) (ri:Nat) (aA:aa) (rep:Int) (rs:cK) (aF:Bool) (an:bq.bR) (pb:Bool),WQ W w (.ax ⟨.keep,bT,bU,bS,⟨3,ow,a0,some x⟩,ti,aJ,bf,hd,⟨ri,aA,rep,rs,aF⟩⟩ (some pb) an)
 MV:∀(bT bU:Int) (bS:List Nat) (kd:Nat) (ow:Int) (a0:Nat) (fd:Option aa) (ti:Nat) (aJ:aa) (bf hd:Nat) (ri:Nat) (aA:aa) (rep:Int) (rs:cK) (aF:Bool) (an:bq.bR) (pb:Bool),WQ W w (.ax ⟨.line,bT,bU,bS,⟨kd,ow,a0,fd⟩,ti,aJ,bf,hd,⟨ri,aA,rep,rs,aF⟩⟩ (some pb) an)
 Oi:∀(bT bU:Int) (bS:List Nat) (ow:Int) (a0:Nat) (ti:Nat) (aJ:aa) (bf hd:Nat) (ri:Nat) (aA:aa) (rep:Int) (rs:cK) (aF:Bool) (an:bq.bR) (pb:Bool),WQ W w (.ax ⟨.old,bT,bU,bS,⟨5,ow,a0,none⟩,ti,aJ,bf,hd,⟨ri,aA,rep,rs,aF⟩⟩ (some pb) an)
 Oh:∀(bT bU:Int) (bS:List Nat) (kd:Nat) (ow:Int) (a0:Nat) (fd:Option aa) (ti:Nat) (aJ:aa) (bf hd:Nat) (ri:Nat) (aA:aa) (rep:Int) (rs:cK) (aF:Bool) (an:bq.bR) (pb:Bool),WQ W w (.ax ⟨.pin,bT,bU,bS,⟨kd,ow,a0,fd⟩,ti,aJ,bf,hd,⟨ri,aA,rep,rs,aF⟩⟩ (some pb) an)
 MU:∀(bT bU:Int) (bS:List Nat) (ow:Int) (a0:Nat) (x:aa) (ti:Nat) (aJ:aa) (bf hd:Nat) (ri:Nat) (aA:aa) (rep:Int) (rs:cK) (aF:Bool) (an:bq.bR) (pb:Bool),WQ W w (.ax ⟨.pins,bT,bU,bS,⟨5,ow,a0,some x⟩,ti,aJ,bf,hd,⟨ri,aA,rep,rs,aF⟩⟩ (some pb) an)
 Og:∀(bT bU:Int) (bS:List Nat) (kd:Nat) (ow:Int) (a0:Nat) (fd:Option aa) (ti:Nat) (aJ:aa) (bf hd:Nat) (ri:Nat) (aA:aa) (rep:Int) (rs:cK) (aF:Bool) (an:bq.bR) (pb:Bool),WQ W w (.ax ⟨.pop,bT,bU,bS,⟨kd,ow,a0,fd⟩,ti,aJ,bf,hd,⟨ri,aA,rep,rs,aF⟩⟩ (some pb) an)
 MS:∀(bT bU:Int) (bS:List Nat) (ow:Int) (a0:Nat) (ti:Nat) (aJ:aa) (bf hd:Nat) (ri:Nat) (aA:aa) (rep:Int) (rs:cK) (aF:Bool) (an:bq.bR) (pb:Bool),WQ W w (.ax ⟨.some,bT,bU,bS,⟨3,ow,a0,none⟩,ti,aJ,bf,hd,⟨ri,aA,rep,rs,aF⟩⟩ (some pb) an)
 JW:∀(bT bU:Int) (bS:List Nat) (ow:Int) (a0:Nat) (ti:Nat) (aJ:aa) (bf hd:Nat) (ri:Nat) (aA:aa) (rep:Int) (rs:cK) (aF:Bool) (an:bq.bR) (pb:Bool),WQ W w (.ax ⟨.dL,bT,bU,bS,⟨4,ow,a0,none⟩,ti,aJ,bf,hd,⟨ri,aA,rep,rs,aF⟩⟩ (some pb) an)
 GJ:∀(bT bU:Int) (bS:List Nat) (kd:Nat) (ow:Int) (a0:Nat) (fd:Option aa) (ti:Nat) (aJ:aa) (bf hd:Nat) (ri:Nat) (aA:aa) (rep:Int) (rs:cK) (aF:Bool) (an:bq.bR) (pb:Bool),WQ W w (.ax ⟨.dR,bT,bU,bS,⟨kd,ow,a0,fd⟩,ti,aJ,bf,hd,⟨ri,aA,rep,rs,aF⟩⟩ (some pb) an)
 JV:∀(bT bU:Int) (bS:List Nat) (kd:Nat) (ow:Int) (a0:Nat) (fd:Option aa) (ti:Nat) (aJ:aa) (bf hd:Nat) (ri:Nat) (aA:aa) (rep:Int) (rs:cK) (aF:Bool) (an:bq.bR) (pb:Bool),WQ W w (.ax ⟨.eO,bT,bU,bS,⟨kd,ow,a0,fd⟩,ti,aJ,bf,hd,⟨ri,aA,rep,rs,aF⟩⟩ (some pb) an)
 afZ:WQ W w (.wakes none)
 afY:∀(te:Int),WQ W w (.wakes (some te))
 Jt:∀(ll:Nat) (n2:Int),CQ W w 1 ⟨[],0,none,ll,false,n2⟩
 Js:∀(n2:Int) (y0:Int),CQ W w 1 ⟨[],0,(some [y0]),1,false,n2⟩
 Jr:∀(ll:Nat) (n2:Int),CQ W w 2 ⟨[],0,none,ll,false,n2⟩
 Jq:∀(n2:Int) (y0 y1:Int),CQ W w 2 ⟨[],0,(some [y0,y1]),2,false,n2⟩
 Jp:∀(ll:Nat) (n2:Int) (x0:Int),CQ W w 2 ⟨[x0],1,none,ll,false,n2⟩
 Jo:∀(n2:Int) (x0 y0 y1:Int),CQ W w 2 ⟨[x0],1,(some [y0,y1]),2,false,n2⟩
 Jn:∀(ll:Nat) (n2:Int),CQ W w 3 ⟨[],0,none,ll,false,n2⟩
 Jm:∀(n2:Int) (y0 y1 y2:Int),CQ W w 3 ⟨[],0,(some [y0,y1,y2]),3,false,n2⟩
 Jl:∀(ll:Nat) (n2:Int) (x0:Int),CQ W w 3 ⟨[x0],1,none,ll,false,n2⟩
 Jk:∀(n2:Int) (x0 y0 y1 y2:Int),CQ W w 3 ⟨[x0],1,(some [y0,y1,y2]),3,false,n2⟩
 Jj:∀(ll:Nat) (n2:Int) (x0 x1:Int),CQ W w 3 ⟨[x0,x1],2,none,ll,false,n2⟩
 Ji:∀(n2:Int) (x0 x1 y0 y1 y2:Int),CQ W w 3 ⟨[x0,x1],2,(some [y0,y1,y2]),3,false,n2⟩
 Jh:∀(ll:Nat) (n2:Int),CQ W w 4 ⟨[],0,none,ll,false,n2⟩
 Jg:∀(n2:Int) (y0 y1 y2 y3:Int),CQ W w 4 ⟨[],0,(some [y0,y1,y2,y3]),4,false,n2⟩
 Jf:∀(ll:Nat) (n2:Int) (x0:Int),CQ W w 4 ⟨[x0],1,none,ll,false,n2⟩
 Je:∀(n2:Int) (x0 y0 y1 y2 y3:Int),CQ W w 4 ⟨[x0],1,(some [y0,y1,y2,y3]),4,false,n2⟩
 Jd:∀(ll:Nat) (n2:Int) (x0 x1:Int),CQ W w 4 ⟨[x0,x1],2,none,ll,false,n2⟩
 Jc:∀(n2:Int) (x0 x1 y0 y1 y2 y3:Int),CQ W w 4 ⟨[x0,x1],2,(some [y0,y1,y2,y3]),4,false,n2⟩
 Jb:∀(ll:Nat) (n2:Int) (x0 x1 x2:Int),CQ W w 4 ⟨[x0,x1,x2],3,none,ll,false,n2⟩
 Ja:∀(n2:Int) (x0 x1 x2 y0 y1 y2 y3:Int),CQ W w 4 ⟨[x0,x1,x2],3,(some [y0,y1,y2,y3]),4,false,n2⟩
 I9:∀(ll:Nat) (n2:Int),CQ W w 5 ⟨[],0,none,ll,false,n2⟩
 I8:∀(n2:Int) (y0 y1 y2 y3 y4:Int),CQ W w 5 ⟨[],0,(some [y0,y1,y2,y3,y4]),5,false,n2⟩
 I7:∀(ll:Nat) (n2:Int) (x0:Int),CQ W w 5 ⟨[x0],1,none,ll,false,n2⟩
 I6:∀(n2:Int) (x0 y0 y1 y2 y3 y4:Int),CQ W w 5 ⟨[x0],1,(some [y0,y1,y2,y3,y4]),5,false,n2⟩
 I5:∀(ll:Nat) (n2:Int) (x0 x1:Int),CQ W w 5 ⟨[x0,x1],2,none,ll,false,n2⟩
 I4:∀(n2:Int) (x0 x1 y0 y1 y2 y3 y4:Int),CQ W w 5 ⟨[x0,x1],2,(some [y0,y1,y2,y3,y4]),5,false,n2⟩
 I1:∀(ll:Nat) (n2:Int) (x0 x1 x2:Int),CQ W w 5 ⟨[x0,x1,x2],3,none,ll,false,n2⟩
 IZ:∀(n2:Int) (x0 x1 x2 y0 y1 y2 y3 y4:Int),CQ W w 5 ⟨[x0,x1,x2],3,(some [y0,y1,y2,y3,y4]),5,false,n2⟩
 IY:∀(ll:Nat) (n2:Int) (x0 x1 x2 x3:Int),CQ W w 5 ⟨[x0,x1,x2,x3],4,none,ll,false,n2⟩
 IX:∀(n2:Int) (x0 x1 x2 x3 y0 y1 y2 y3 y4:Int),CQ W w 5 ⟨[x0,x1,x2,x3],4,(some [y0,y1,y2,y3,y4]),5,false,n2⟩
 OA:∀(rl ll:Nat) (n2:Int),SQ W w ⟨[],rl,none,ll,false,n2⟩
 Oz:∀(l:List Int) (rl ll:Nat) (n2:Int),SQ W w ⟨[],rl,(some l),ll,false,n2⟩
 Oy:∀(a:Int) (r:List Int) (rl ll:Nat) (n2:Int),SQ W w ⟨(a::r),rl,none,ll,false,n2⟩
 Ox:∀(a:Int) (r l:List Int) (rl ll:Nat) (n2:Int),SQ W w ⟨(a::r),rl,(some l),ll,false,n2⟩
theorem XW{r:cK}(h:r≠.done):r=.swap\/r=.look\/r=.iI\/r=.jk:=by cases r<;>simp_all
theorem walk{W w:Nat}(kk:wT W w)(q:Xq)(hW:q.c.W=W)(hw:q.who=w)(hs:o8 q.x)(ea:Ask)(en:Int)(eg:Bool):(o5 1 w ea en eg (fq q)).get=(FJ q).get:=by
 obtain⟨⟨W1,S,st,wt,u⟩,m,now,wo,who,⟨ph,ask,gr⟩,n,R,rest,aj,at_⟩:=q;obtain rfl:W1=W:=hW;obtain rfl:who=w:=hw;cases ph with
 |rest=>apply kk.rest
 |pin h=>cases h with
  |none=>apply kk.ak'
  |some e=>
   obtain⟨op,wait,force,dl,slot,gen,strm⟩:=ask;have hs:op<8:=hs;match op,hs with
   |0,_=>exact kk.agF e S st wt u m now wo ⟨0,wait,force,dl,slot,gen,strm⟩ gr n R rest aj at_ ea en eg
   |1,_=>exact kk.agE e S st wt u m now wo ⟨0,wait,force,dl,slot,gen,strm⟩ gr n R rest aj at_ ea en eg
   |2,_=>exact kk.agD e S st wt u m now wo ⟨0,wait,force,dl,slot,gen,strm⟩ gr n R rest aj at_ ea en eg
   |3,_=>exact kk.agC e S st wt u m now wo ⟨0,wait,force,dl,slot,gen,strm⟩ gr n R rest aj at_ ea en eg
   |4,_=>exact kk.agB e S st wt u m now wo ⟨0,wait,force,dl,slot,gen,strm⟩ gr n R rest aj at_ ea en eg
   |5,_=>exact kk.agA e S st wt u m now wo ⟨0,wait,force,dl,slot,gen,strm⟩ gr n R rest aj at_ ea en eg
   |6,_=>exact kk.agz e S st wt u m now wo ⟨0,wait,force,dl,slot,gen,strm⟩ gr n R rest aj at_ ea en eg
   |7,_=>exact kk.agy e S st wt u m now wo ⟨0,wait,force,dl,slot,gen,strm⟩ gr n R rest aj at_ ea en eg
 |work k=>cases k with
  |get t=>
   obtain⟨ts,⟨kd,ow,a0,fd⟩,ti,aJ,gen,ps,⟨ri,aA,rep,rs,aF⟩,te⟩:=t;cases ts with
   |closed=>apply kk.VQ
   |own=>obtain⟨h1,h2⟩:=hs;dsimp only at h1 h2;subst h1 h2;apply kk.afw
   |gp=>obtain⟨h1,x,h2⟩:=hs;dsimp only at h1 h2;subst h1 h2;apply kk.abX
   |any=>obtain⟨h1,h2⟩:=hs;dsimp only at h1 h2;subst h1 h2;apply kk.afx
   |anyS=>obtain⟨h1,x,h2⟩:=hs;dsimp only at h1 h2;subst h1 h2;apply kk.ab2
   |move=>obtain⟨h1,h2⟩:=hs;dsimp only at h1 h2;subst h1 h2;apply kk.abY
   |dD=>obtain⟨h1,x,h2⟩:=hs;dsimp only at h1 h2;subst h1 h2;apply kk.Y9
   |free=>obtain⟨h1,h2⟩:=hs;dsimp only at h1 h2;subst h1 h2;apply kk.abZ
   |dQ=>obtain⟨h1,x,h2⟩:=hs;dsimp only at h1 h2;subst h1 h2;apply kk.Zc
   |bM=>apply kk.ab0
   |check=>apply kk.Zd
   |back=>apply kk.ab1
   |go=>
    rcases XW hs with h|h|h|h<;>dsimp only at h<;>subst h
    ·apply kk.R6
    ·apply kk.R7
    ·apply kk.VP
    ·apply kk.R8
   |grant=>apply kk.Zb
   |eG=>apply kk.VO
   |done=>exact absurd hs id
  |give g=>
   obtain⟨gi,gen,dc,gs,xR,aJ,⟨ri,aA,rep,rs,aF⟩,te⟩:=g;cases gs with
   |closed=>apply kk.R5
   |look=>apply kk.Y8
   |rest=>apply kk.Y7
   |go=>
    rcases XW hs with h|h|h|h<;>dsimp only at h<;>subst h
    ·apply kk.Qf
    ·apply kk.Qg
    ·apply kk.R3
    ·apply kk.Qh
   |done=>exact absurd hs id
  |strm s=>
   obtain⟨op,gi,gen,sn,ss,aJ,nx,num,te⟩:=s;cases op<;>cases ss
   ·apply kk.Es
   ·apply kk.GV
   ·apply kk.GU
   ·exact absurd rfl hs
   ·apply kk.Fw
   ·apply kk.Kc
   ·apply kk.Kb
   ·exact absurd rfl hs
  |close d=>cases d with
   |none=>apply kk.ahX
   |some u=>
    obtain⟨us,ln,first,why,te⟩:=u
    cases us<;>first|exact absurd hs id|skip
    ·apply kk.Wn
    ·apply kk.ZA
    ·apply kk.Wm
  |stats t=>exact absurd hs id
  |aS r=>
   obtain⟨ps,⟨kd,ow,a0,fd⟩,many,⟨ri,aA,rep,rs,aF⟩⟩:=r;cases ps with
   |look=>obtain⟨h1,h2⟩:=hs;dsimp only at h1 h2;subst h1 h2;apply kk.Ya
   |ask=>obtain⟨h1,x,h2⟩:=hs;dsimp only at h1 h2;subst h1 h2;apply kk.aaX
   |mark=>obtain⟨h1,x,h2⟩:=hs;dsimp only at h1 h2;subst h1 h2;apply kk.X9
   |dB=>
    obtain⟨⟨h1,x,h2⟩,hs⟩:=hs;dsimp only at h1 h2;subst h1 h2;rcases XW hs with h|h|h|h<;>dsimp only at h<;>subst h
    ·apply kk.FB
    ·apply kk.FC
    ·apply kk.He
    ·apply kk.FD
 |counts t=>exact absurd hs id
 |enters u=>
  obtain⟨us,ln,first,why,te⟩:=u
  cases us<;>first|exact absurd hs id|skip
  ·apply kk.Sg
  ·apply kk.Sb
  ·apply kk.Ns
  ·apply kk.Sc
  ·apply kk.Sd
 |leaves u=>
  obtain⟨us,ln,first,why,te⟩:=u
  cases us<;>first|exact absurd hs id|skip
  ·apply kk.RV
  ·apply kk.RX
 |parked pb=>apply kk.RD
 |wakes h=>cases h with
  |none=>apply kk.afZ
  |some g=>apply kk.afY
 |ax t p an=>
  obtain⟨ts,bT,bU,bS,⟨kd,ow,a0,fd⟩,ti,aJ,bf,hd,⟨ri,aA,rep,rs,aF⟩⟩:=t;cases p with
  |none=>cases ts with
   |ep=>apply kk.Rj
   |pin=>apply kk.Ol
   |cl=>apply kk.Rk
   |dL=>obtain⟨h1,h2⟩:=hs;dsimp only at h1 h2;subst h1 h2;apply kk.J3
   |go=>
    obtain⟨⟨h1,x,h2⟩,hs⟩:=hs;dsimp only at h1 h2;subst h1 h2;rcases XW hs with h|h|h|h<;>dsimp only at h<;>subst h
    ·apply kk.Fp
    ·apply kk.Fq
    ·apply kk.GN
    ·apply kk.Fs
   |old=>obtain⟨h1,h2⟩:=hs;dsimp only at h1 h2;subst h1 h2;apply kk.Om
   |pins=>obtain⟨h1,x,h2⟩:=hs;dsimp only at h1 h2;subst h1 h2;apply kk.M9
   |clear=>obtain⟨h1,x,h2⟩:=hs;dsimp only at h1 h2;subst h1 h2;apply kk.J5
   |line=>apply kk.Na
   |some=>obtain⟨h1,h2⟩:=hs;dsimp only at h1 h2;subst h1 h2;apply kk.MZ
   |keep=>obtain⟨h1,x,h2⟩:=hs;dsimp only at h1 h2;subst h1 h2;apply kk.Nb
   |pop=>apply kk.Oj
   |grant=>apply kk.J4
   |back=>apply kk.Nc
   |dR=>apply kk.GM
   |eO=>apply kk.J2
   |again=>apply kk.J6
   |done=>exact absurd hs id
  |some pb=>cases ts with
   |ep=>apply kk.Rh
   |pin=>apply kk.Oh
   |cl=>apply kk.Ri
   |dL=>obtain⟨h1,h2⟩:=hs;dsimp only at h1 h2;subst h1 h2;apply kk.JW
   |go=>
    obtain⟨⟨h1,x,h2⟩,hs⟩:=hs;dsimp only at h1 h2;subst h1 h2;rcases XW hs with h|h|h|h<;>dsimp only at h<;>subst h
    ·apply kk.Fg
    ·apply kk.Fh
    ·apply kk.GL
    ·apply kk.Fj
   |old=>obtain⟨h1,h2⟩:=hs;dsimp only at h1 h2;subst h1 h2;apply kk.Oi
   |pins=>obtain⟨h1,x,h2⟩:=hs;dsimp only at h1 h2;subst h1 h2;apply kk.MU
   |clear=>obtain⟨h1,x,h2⟩:=hs;dsimp only at h1 h2;subst h1 h2;apply kk.JY
   |line=>apply kk.MV
   |some=>obtain⟨h1,h2⟩:=hs;dsimp only at h1 h2;subst h1 h2;apply kk.MS
   |keep=>obtain⟨h1,x,h2⟩:=hs;dsimp only at h1 h2;subst h1 h2;apply kk.MW
   |pop=>apply kk.Og
   |grant=>apply kk.JX
   |back=>apply kk.MX
   |dR=>apply kk.GJ
   |eO=>apply kk.JV
   |again=>apply kk.JZ
   |done=>exact absurd hs id
theorem afT{W w:Nat}(kk:wT W w)(q:Xq)(t:Ti)(hW:q.c.W=W)(hw:q.who=w)(hd:t.dn=false)(ea:Ask)(en:Int)(eg:Bool):(o5 1 w ea en eg (heapT q true t)).get=(Dz q t).get:=by
 have e1:heapT q true t=heapT {q with x:=⟨.rest,q.x.ask,q.x.grant⟩} true t:=rfl
 have e2:Dz q t=Dz {q with x:=⟨.rest,q.x.ask,q.x.grant⟩} t:=rfl
 rw[e1,e2];obtain⟨⟨W1,S,st,wt,u⟩,m,now,wo,who,⟨ph,ask,gr⟩,n,R,rest,aj,at_⟩:=q;obtain rfl:W1=W:=hW;obtain rfl:who=w:=hw;obtain⟨rd,rl,last,ll,dn,n2⟩:=t;obtain rfl:dn=false:=hd;cases rd<;>cases last
 ·apply kk.OA
 ·apply kk.Oz
 ·apply kk.Oy
 ·apply kk.Ox
theorem adV{W w:Nat}(kk:wT W w)(q:Xq)(t:Ti)(hW:q.c.W=W)(hw:q.who=w)(hd:t.dn=false)(hS:q.c.S<=5)(hr:t.rd.length<q.c.S)(hl:t.rl=t.rd.length)(hl2:t.ll=(t.last.getD []).length)(hl3:t.last=none\/t.ll=q.c.S)(ea:Ask)(en:Int)(eg:Bool):(o5 1 w ea en eg (heapT q false t)).get=(K9 q t).get:=by
 have e1:heapT q false t=heapT {q with x:=⟨.rest,q.x.ask,q.x.grant⟩} false t:=rfl
 have e2:K9 q t=K9 {q with x:=⟨.rest,q.x.ask,q.x.grant⟩} t:=rfl
 rw[e1,e2];obtain⟨⟨W1,S,st,wt,u⟩,m,now,wo,who,⟨ph,ask,gr⟩,n,R,rest,aj,at_⟩:=q;obtain rfl:W1=W:=hW;obtain rfl:who=w:=hw;obtain⟨rd,rl,last,ll,dn,n2⟩:=t;obtain rfl:dn=false:=hd;obtain rfl:rl=rd.length:=hl;have hS:S<=5:=hS;have hr:rd.length<S:=hr
 have key:(last=none)\/∃l,last=some l/\l.length=S/\ll=S:=by
  cases last with
  |none=>exact .inl rfl
  |some l=>
   have h2:ll=l.length:=hl2
   have h3:ll=S:=by
    rcases hl3 with h|h
    ·cases h
    ·exact h
   exact .inr ⟨l,rfl,by omega,h3⟩
 have hs:S=1\/S=2\/S=3\/S=4\/S=5:=by omega
 rcases hs with rfl|rfl|rfl|rfl|rfl
 ·match rd,hr with
  |[],_=>
   rcases key with rfl|⟨l,rfl,hl,rfl⟩
   ·apply kk.Jt
   ·match l,hl with
    |[y0],_=>apply kk.Js
  |x0::r,h=>simp at h<;>omega
 ·match rd,hr with
  |[],_=>
   rcases key with rfl|⟨l,rfl,hl,rfl⟩
   ·apply kk.Jr
   ·match l,hl with
    |[y0,y1],_=>apply kk.Jq
  |[x0],_=>
   rcases key with rfl|⟨l,rfl,hl,rfl⟩
   ·apply kk.Jp
   ·match l,hl with
    |[y0,y1],_=>apply kk.Jo
  |x0::x1::r,h=>simp at h<;>omega
 ·match rd,hr with
  |[],_=>
   rcases key with rfl|⟨l,rfl,hl,rfl⟩
   ·apply kk.Jn
   ·match l,hl with
    |[y0,y1,y2],_=>apply kk.Jm
  |[x0],_=>
   rcases key with rfl|⟨l,rfl,hl,rfl⟩
   ·apply kk.Jl
   ·match l,hl with
    |[y0,y1,y2],_=>apply kk.Jk
  |[x0,x1],_=>
   rcases key with rfl|⟨l,rfl,hl,rfl⟩
   ·apply kk.Jj
   ·match l,hl with
    |[y0,y1,y2],_=>apply kk.Ji
  |x0::x1::x2::r,h=>simp at h<;>omega
 ·match rd,hr with
  |[],_=>
   rcases key with rfl|⟨l,rfl,hl,rfl⟩
   ·apply kk.Jh
   ·match l,hl with
    |[y0,y1,y2,y3],_=>apply kk.Jg
  |[x0],_=>
   rcases key with rfl|⟨l,rfl,hl,rfl⟩
   ·apply kk.Jf
   ·match l,hl with
    |[y0,y1,y2,y3],_=>apply kk.Je
  |[x0,x1],_=>
   rcases key with rfl|⟨l,rfl,hl,rfl⟩
   ·apply kk.Jd
   ·match l,hl with
    |[y0,y1,y2,y3],_=>apply kk.Jc
  |[x0,x1,x2],_=>
   rcases key with rfl|⟨l,rfl,hl,rfl⟩
   ·apply kk.Jb
   ·match l,hl with
    |[y0,y1,y2,y3],_=>apply kk.Ja
  |x0::x1::x2::x3::r,h=>simp at h<;>omega
 ·match rd,hr with
  |[],_=>
   rcases key with rfl|⟨l,rfl,hl,rfl⟩
   ·apply kk.I9
   ·match l,hl with
    |[y0,y1,y2,y3,y4],_=>apply kk.I8
  |[x0],_=>
   rcases key with rfl|⟨l,rfl,hl,rfl⟩
   ·apply kk.I7
   ·match l,hl with
    |[y0,y1,y2,y3,y4],_=>apply kk.I6
  |[x0,x1],_=>
   rcases key with rfl|⟨l,rfl,hl,rfl⟩
   ·apply kk.I5
   ·match l,hl with
    |[y0,y1,y2,y3,y4],_=>apply kk.I4
  |[x0,x1,x2],_=>
   rcases key with rfl|⟨l,rfl,hl,rfl⟩
   ·apply kk.I1
   ·match l,hl with
    |[y0,y1,y2,y3,y4],_=>apply kk.IZ
  |[x0,x1,x2,x3],_=>
   rcases key with rfl|⟨l,rfl,hl,rfl⟩
   ·apply kk.IY
   ·match l,hl with
    |[y0,y1,y2,y3,y4],_=>apply kk.IX
  |x0::x1::x2::x3::x4::r,h=>simp at h<;>omega
theorem wT.walks{W w:Nat}(kk:wT W w):Yq.fZ W w:=⟨fun q hW hw hs ea en eg=>walk kk q hW hw hs ea en eg,fun q t hW hw hd ea en eg=>afT kk q t hW hw hd ea en eg,fun q t hW hw hd hS hr hl hl2 hl3 ea en eg=>adV kk q t hW hw hd hS hr hl hl2 hl3 ea en eg⟩
end
end bq
end Go.Proofs.YteaflphddciglaaGreatDoor
