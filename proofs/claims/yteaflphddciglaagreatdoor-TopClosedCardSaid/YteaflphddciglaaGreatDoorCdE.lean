/- Laws of the proof, joined. No condition of its own. -/
import Derived.Test.YteaflphddciglaaGreatDoorCcB
set_option linter.all false
namespace Go.Proofs.YteaflphddciglaaGreatDoor
namespace bq
noncomputable section
open Go.RowKit Go.bn Go.Sx
abbrev WF(W w:Nat)(p:Ph)(f:Ask->Ask):Prop:=∀S st wt u m now wo ask gr n R rest aj at_ ea en eg,(o5 1 w ea en eg (fq (⟨⟨W,S,st,wt,u⟩,m,now,wo,w,⟨p,f ask,gr⟩,n,R,rest,aj,at_⟩:Xq))).get=(FJ (⟨⟨W,S,st,wt,u⟩,m,now,wo,w,⟨p,f ask,gr⟩,n,R,rest,aj,at_⟩:Xq)).get
abbrev WQ(W w:Nat)(p:Ph):Prop:=WF W w p λk=>k
abbrev WP(W w o:Nat)(p:Ph):Prop:=WF W w p λk=>⟨o,k.wait,k.force,k.dl,k.slot,k.gen,k.bg⟩
abbrev SQ(W w:Nat)(t:Ti):Prop:=∀S st wt u m now wo ask gr n R rest aj at_ ea en eg,(o5 1 w ea en eg (heapT (⟨⟨W,S,st,wt,u⟩,m,now,wo,w,⟨.rest,ask,gr⟩,n,R,rest,aj,at_⟩:Xq) true t)).get=(Dz (⟨⟨W,S,st,wt,u⟩,m,now,wo,w,⟨.rest,ask,gr⟩,n,R,rest,aj,at_⟩:Xq) t).get
abbrev CQ(W w S:Nat)(t:Ti):Prop:=∀st wt u m now wo ask gr n R rest aj at_ ea en eg,(o5 1 w ea en eg (heapT (⟨⟨W,S,st,wt,u⟩,m,now,wo,w,⟨.rest,ask,gr⟩,n,R,rest,aj,at_⟩:Xq) false t)).get=(K9 (⟨⟨W,S,st,wt,u⟩,m,now,wo,w,⟨.rest,ask,gr⟩,n,R,rest,aj,at_⟩:Xq) t).get
structure wT(W w:Nat):Prop where
 ahX:WQ W w (.work (.close none))
 Wn:∀a b c d,WQ W w (.work (.close (some ⟨.head,a,b,c,d⟩)))
 ZA:∀a b c d,WQ W w (.work (.close (some ⟨.pop,a,b,c,d⟩)))
 Wm:∀a b c d,WQ W w (.work (.close (some ⟨.tell,a,b,c,d⟩)))
 Ns:∀a b c d,WQ W w (.enters ⟨.closed,a,b,c,d⟩)
 Sg:∀a b c d,WQ W w (.enters ⟨.come,a,b,c,d⟩)
 Sd:∀a b c d,WQ W w (.enters ⟨.drop,a,b,c,d⟩)
 Sc:∀a b c d,WQ W w (.enters ⟨.look,a,b,c,d⟩)
 Sb:∀a b c d,WQ W w (.enters ⟨.push,a,b,c,d⟩)
 afx:∀a b c d e f g h i j k l,WQ W w (.work (.get ⟨.any,⟨1,a,b,none⟩,c,d,e,f,⟨g,h,i,j,k⟩,l⟩))
 ab2:∀a b c d e f g h i j k l m,WQ W w (.work (.get ⟨.anyS,⟨1,a,b,some c⟩,d,e,f,g,⟨h,i,j,k,l⟩,m⟩))
 ab1:∀a b c d e f g h i j k l m n,WQ W w (.work (.get ⟨.back,⟨a,b,c,d⟩,e,f,g,h,⟨i,j,k,l,m⟩,n⟩))
 Zd:∀a b c d e f g h i j k l m n,WQ W w (.work (.get ⟨.check,⟨a,b,c,d⟩,e,f,g,h,⟨i,j,k,l,m⟩,n⟩))
 VQ:∀a b c d e f g h i j k l m n,WQ W w (.work (.get ⟨.closed,⟨a,b,c,d⟩,e,f,g,h,⟨i,j,k,l,m⟩,n⟩))
 ab0:∀a b c d e f g h i j k l m n,WQ W w (.work (.get ⟨.bM,⟨a,b,c,d⟩,e,f,g,h,⟨i,j,k,l,m⟩,n⟩))
 abZ:∀a b c d e f g h i j k l,WQ W w (.work (.get ⟨.free,⟨2,a,b,none⟩,c,d,e,f,⟨g,h,i,j,k⟩,l⟩))
 Zc:∀a b c d e f g h i j k l m,WQ W w (.work (.get ⟨.dQ,⟨2,a,b,some c⟩,d,e,f,g,⟨h,i,j,k,l⟩,m⟩))
 VP:∀a b c d e f g h i j k l m,WQ W w (.work (.get ⟨.go,⟨a,b,c,d⟩,e,f,g,h,⟨i,j,k,.iI,l⟩,m⟩))
 R8:∀a b c d e f g h i j k l m,WQ W w (.work (.get ⟨.go,⟨a,b,c,d⟩,e,f,g,h,⟨i,j,k,.jk,l⟩,m⟩))
 R7:∀a b c d e f g h i j k l m,WQ W w (.work (.get ⟨.go,⟨a,b,c,d⟩,e,f,g,h,⟨i,j,k,.look,l⟩,m⟩))
 R6:∀a b c d e f g h i j k l m,WQ W w (.work (.get ⟨.go,⟨a,b,c,d⟩,e,f,g,h,⟨i,j,k,.swap,l⟩,m⟩))
 Zb:∀a b c d e f g h i j k l m n,WQ W w (.work (.get ⟨.grant,⟨a,b,c,d⟩,e,f,g,h,⟨i,j,k,l,m⟩,n⟩))
 VO:∀a b c d e f g h i j k l m n,WQ W w (.work (.get ⟨.eG,⟨a,b,c,d⟩,e,f,g,h,⟨i,j,k,l,m⟩,n⟩))
 abY:∀a b c d e f g h i j k l,WQ W w (.work (.get ⟨.move,⟨0,a,b,none⟩,c,d,e,f,⟨g,h,i,j,k⟩,l⟩))
 Y9:∀a b c d e f g h i j k l m,WQ W w (.work (.get ⟨.dD,⟨0,a,b,some c⟩,d,e,f,g,⟨h,i,j,k,l⟩,m⟩))
 afw:∀a b c d e f g h i j k l,WQ W w (.work (.get ⟨.own,⟨0,a,b,none⟩,c,d,e,f,⟨g,h,i,j,k⟩,l⟩))
 abX:∀a b c d e f g h i j k l m,WQ W w (.work (.get ⟨.gp,⟨0,a,b,some c⟩,d,e,f,g,⟨h,i,j,k,l⟩,m⟩))
 R5:∀a b c d e f g h i j k,WQ W w (.work (.give ⟨a,b,c,.closed,d,e,⟨f,g,h,i,j⟩,k⟩))
 R3:∀a b c d e f g h i j,WQ W w (.work (.give ⟨a,b,c,.go,d,e,⟨f,g,h,.iI,i⟩,j⟩))
 Qh:∀a b c d e f g h i j,WQ W w (.work (.give ⟨a,b,c,.go,d,e,⟨f,g,h,.jk,i⟩,j⟩))
 Qg:∀a b c d e f g h i j,WQ W w (.work (.give ⟨a,b,c,.go,d,e,⟨f,g,h,.look,i⟩,j⟩))
 Qf:∀a b c d e f g h i j,WQ W w (.work (.give ⟨a,b,c,.go,d,e,⟨f,g,h,.swap,i⟩,j⟩))
 Y8:∀a b c d e f g h i j k,WQ W w (.work (.give ⟨a,b,c,.look,d,e,⟨f,g,h,i,j⟩,k⟩))
 Y7:∀a b c d e f g h i j k,WQ W w (.work (.give ⟨a,b,c,.rest,d,e,⟨f,g,h,i,j⟩,k⟩))
 RX:∀a b c d,WQ W w (.leaves ⟨.drop,a,b,c,d⟩)
 RV:∀a b c d,WQ W w (.leaves ⟨.look,a,b,c,d⟩)
 RD:∀a,WQ W w (.parked a)
 ak':WQ W w (.pin none)
 agF:∀a,WP W w 0 (.pin (some a))
 agE:∀a,WP W w 1 (.pin (some a))
 agD:∀a,WP W w 2 (.pin (some a))
 agC:∀a,WP W w 3 (.pin (some a))
 agB:∀a,WP W w 4 (.pin (some a))
 agA:∀a,WP W w 5 (.pin (some a))
 agz:∀a,WP W w 6 (.pin (some a))
 agy:∀a,WP W w 7 (.pin (some a))
 aaX:∀a b c d e f g h i,WQ W w (.work (.aS ⟨.ask,⟨6,a,b,some c⟩,d,⟨e,f,g,h,i⟩⟩))
 Ya:∀a b c d e f g h,WQ W w (.work (.aS ⟨.look,⟨6,a,b,none⟩,c,⟨d,e,f,g,h⟩⟩))
 X9:∀a b c d e f g h i,WQ W w (.work (.aS ⟨.mark,⟨6,a,b,some c⟩,d,⟨e,f,g,h,i⟩⟩))
 He:∀a b c d e f g h,WQ W w (.work (.aS ⟨.dB,⟨6,a,b,some c⟩,d,⟨e,f,g,.iI,h⟩⟩))
 FD:∀a b c d e f g h,WQ W w (.work (.aS ⟨.dB,⟨6,a,b,some c⟩,d,⟨e,f,g,.jk,h⟩⟩))
 FC:∀a b c d e f g h,WQ W w (.work (.aS ⟨.dB,⟨6,a,b,some c⟩,d,⟨e,f,g,.look,h⟩⟩))
 FB:∀a b c d e f g h,WQ W w (.work (.aS ⟨.dB,⟨6,a,b,some c⟩,d,⟨e,f,g,.swap,h⟩⟩))
 rest:WQ W w .rest
 Es:∀a b c d e f g,WQ W w (.work (.bg ⟨false,a,b,c,.closed,d,e,f,g⟩))
 GV:∀a b c d e f g,WQ W w (.work (.bg ⟨false,a,b,c,.look,d,e,f,g⟩))
 GU:∀a b c d e f g,WQ W w (.work (.bg ⟨false,a,b,c,.swap,d,e,f,g⟩))
 Fw:∀a b c d e f g,WQ W w (.work (.bg ⟨true,a,b,c,.closed,d,e,f,g⟩))
 Kc:∀a b c d e f g,WQ W w (.work (.bg ⟨true,a,b,c,.look,d,e,f,g⟩))
 Kb:∀a b c d e f g,WQ W w (.work (.bg ⟨true,a,b,c,.swap,d,e,f,g⟩))
 J6:∀a b c d e f g h i j k l m n o p q,WQ W w (.ax ⟨.again,a,b,c,⟨d,e,f,g⟩,h,i,j,k,⟨l,m,n,o,p⟩⟩ none q)
 Nc:∀a b c d e f g h i j k l m n o p q,WQ W w (.ax ⟨.back,a,b,c,⟨d,e,f,g⟩,h,i,j,k,⟨l,m,n,o,p⟩⟩ none q)
 Rk:∀a b c d e f g h i j k l m n o p q,WQ W w (.ax ⟨.cl,a,b,c,⟨d,e,f,g⟩,h,i,j,k,⟨l,m,n,o,p⟩⟩ none q)
 J5:∀a b c d e f g h i j k l m n o p,WQ W w (.ax ⟨.clear,a,b,c,⟨5,d,e,some f⟩,g,h,i,j,⟨k,l,m,n,o⟩⟩ none p)
 Rj:∀a b c d e f g h i j k l m n o p q,WQ W w (.ax ⟨.ep,a,b,c,⟨d,e,f,g⟩,h,i,j,k,⟨l,m,n,o,p⟩⟩ none q)
 GN:∀a b c d e f g h i j k l m n o,WQ W w (.ax ⟨.go,a,b,c,⟨4,d,e,some f⟩,g,h,i,j,⟨k,l,m,.iI,n⟩⟩ none o)
 Fs:∀a b c d e f g h i j k l m n o,WQ W w (.ax ⟨.go,a,b,c,⟨4,d,e,some f⟩,g,h,i,j,⟨k,l,m,.jk,n⟩⟩ none o)
 Fq:∀a b c d e f g h i j k l m n o,WQ W w (.ax ⟨.go,a,b,c,⟨4,d,e,some f⟩,g,h,i,j,⟨k,l,m,.look,n⟩⟩ none o)
 Fp:∀a b c d e f g h i j k l m n o,WQ W w (.ax ⟨.go,a,b,c,⟨4,d,e,some f⟩,g,h,i,j,⟨k,l,m,.swap,n⟩⟩ none o)
 J4:∀a b c d e f g h i j k l m n o p q,WQ W w (.ax ⟨.grant,a,b,c,⟨d,e,f,g⟩,h,i,j,k,⟨l,m,n,o,p⟩⟩ none q)
 Nb:∀a b c d e f g h i j k l m n o p,WQ W w (.ax ⟨.keep,a,b,c,⟨3,d,e,some f⟩,g,h,i,j,⟨k,l,m,n,o⟩⟩ none p)
 Na:∀a b c d e f g h i j k l m n o p q,WQ W w (.ax ⟨.line,a,b,c,⟨d,e,f,g⟩,h,i,j,k,⟨l,m,n,o,p⟩⟩ none q)
 Om:∀a b c d e f g h i j k l m n o,WQ W w (.ax ⟨.old,a,b,c,⟨5,d,e,none⟩,f,g,h,i,⟨j,k,l,m,n⟩⟩ none o)
 Ol:∀a b c d e f g h i j k l m n o p q,WQ W w (.ax ⟨.pin,a,b,c,⟨d,e,f,g⟩,h,i,j,k,⟨l,m,n,o,p⟩⟩ none q)
 M9:∀a b c d e f g h i j k l m n o p,WQ W w (.ax ⟨.pins,a,b,c,⟨5,d,e,some f⟩,g,h,i,j,⟨k,l,m,n,o⟩⟩ none p)
 Oj:∀a b c d e f g h i j k l m n o p q,WQ W w (.ax ⟨.pop,a,b,c,⟨d,e,f,g⟩,h,i,j,k,⟨l,m,n,o,p⟩⟩ none q)
 MZ:∀a b c d e f g h i j k l m n o,WQ W w (.ax ⟨.some,a,b,c,⟨3,d,e,none⟩,f,g,h,i,⟨j,k,l,m,n⟩⟩ none o)
 J3:∀a b c d e f g h i j k l m n o,WQ W w (.ax ⟨.dL,a,b,c,⟨4,d,e,none⟩,f,g,h,i,⟨j,k,l,m,n⟩⟩ none o)
 GM:∀a b c d e f g h i j k l m n o p q,WQ W w (.ax ⟨.dR,a,b,c,⟨d,e,f,g⟩,h,i,j,k,⟨l,m,n,o,p⟩⟩ none q)
 J2:∀a b c d e f g h i j k l m n o p q,WQ W w (.ax ⟨.eO,a,b,c,⟨d,e,f,g⟩,h,i,j,k,⟨l,m,n,o,p⟩⟩ none q)
 JZ:∀a b c d e f g h i j k l m n o p q r,WQ W w (.ax ⟨.again,a,b,c,⟨d,e,f,g⟩,h,i,j,k,⟨l,m,n,o,p⟩⟩ (some r) q)
 MX:∀a b c d e f g h i j k l m n o p q r,WQ W w (.ax ⟨.back,a,b,c,⟨d,e,f,g⟩,h,i,j,k,⟨l,m,n,o,p⟩⟩ (some r) q)
 Ri:∀a b c d e f g h i j k l m n o p q r,WQ W w (.ax ⟨.cl,a,b,c,⟨d,e,f,g⟩,h,i,j,k,⟨l,m,n,o,p⟩⟩ (some r) q)
 JY:∀a b c d e f g h i j k l m n o p q,WQ W w (.ax ⟨.clear,a,b,c,⟨5,d,e,some f⟩,g,h,i,j,⟨k,l,m,n,o⟩⟩ (some q) p)
 Rh:∀a b c d e f g h i j k l m n o p q r,WQ W w (.ax ⟨.ep,a,b,c,⟨d,e,f,g⟩,h,i,j,k,⟨l,m,n,o,p⟩⟩ (some r) q)
 GL:∀a b c d e f g h i j k l m n o p,WQ W w (.ax ⟨.go,a,b,c,⟨4,d,e,some f⟩,g,h,i,j,⟨k,l,m,.iI,n⟩⟩ (some p) o)
 Fj:∀a b c d e f g h i j k l m n o p,WQ W w (.ax ⟨.go,a,b,c,⟨4,d,e,some f⟩,g,h,i,j,⟨k,l,m,.jk,n⟩⟩ (some p) o)
 Fh:∀a b c d e f g h i j k l m n o p,WQ W w (.ax ⟨.go,a,b,c,⟨4,d,e,some f⟩,g,h,i,j,⟨k,l,m,.look,n⟩⟩ (some p) o)
 Fg:∀a b c d e f g h i j k l m n o p,WQ W w (.ax ⟨.go,a,b,c,⟨4,d,e,some f⟩,g,h,i,j,⟨k,l,m,.swap,n⟩⟩ (some p) o)
 JX:∀a b c d e f g h i j k l m n o p q r,WQ W w (.ax ⟨.grant,a,b,c,⟨d,e,f,g⟩,h,i,j,k,⟨l,m,n,o,p⟩⟩ (some r) q)
 MW:∀a b c d e f g h i j k l m n o p q,WQ W w (.ax ⟨.keep,a,b,c,⟨3,d,e,some f⟩,g,h,i,j,⟨k,l,m,n,o⟩⟩ (some q) p)
 MV:∀a b c d e f g h i j k l m n o p q r,WQ W w (.ax ⟨.line,a,b,c,⟨d,e,f,g⟩,h,i,j,k,⟨l,m,n,o,p⟩⟩ (some r) q)
 Oi:∀a b c d e f g h i j k l m n o p,WQ W w (.ax ⟨.old,a,b,c,⟨5,d,e,none⟩,f,g,h,i,⟨j,k,l,m,n⟩⟩ (some p) o)
 Oh:∀a b c d e f g h i j k l m n o p q r,WQ W w (.ax ⟨.pin,a,b,c,⟨d,e,f,g⟩,h,i,j,k,⟨l,m,n,o,p⟩⟩ (some r) q)
 MU:∀a b c d e f g h i j k l m n o p q,WQ W w (.ax ⟨.pins,a,b,c,⟨5,d,e,some f⟩,g,h,i,j,⟨k,l,m,n,o⟩⟩ (some q) p)
 Og:∀a b c d e f g h i j k l m n o p q r,WQ W w (.ax ⟨.pop,a,b,c,⟨d,e,f,g⟩,h,i,j,k,⟨l,m,n,o,p⟩⟩ (some r) q)
 MS:∀a b c d e f g h i j k l m n o p,WQ W w (.ax ⟨.some,a,b,c,⟨3,d,e,none⟩,f,g,h,i,⟨j,k,l,m,n⟩⟩ (some p) o)
 JW:∀a b c d e f g h i j k l m n o p,WQ W w (.ax ⟨.dL,a,b,c,⟨4,d,e,none⟩,f,g,h,i,⟨j,k,l,m,n⟩⟩ (some p) o)
 GJ:∀a b c d e f g h i j k l m n o p q r,WQ W w (.ax ⟨.dR,a,b,c,⟨d,e,f,g⟩,h,i,j,k,⟨l,m,n,o,p⟩⟩ (some r) q)
 JV:∀a b c d e f g h i j k l m n o p q r,WQ W w (.ax ⟨.eO,a,b,c,⟨d,e,f,g⟩,h,i,j,k,⟨l,m,n,o,p⟩⟩ (some r) q)
 afZ:WQ W w (.wakes none)
 afY:∀a,WQ W w (.wakes (some a))
 Jt:∀a b,CQ W w 1 ⟨[],0,none,a,false,b⟩
 Js:∀a b,CQ W w 1 ⟨[],0,(some [b]),1,false,a⟩
 Jr:∀a b,CQ W w 2 ⟨[],0,none,a,false,b⟩
 Jq:∀a b c,CQ W w 2 ⟨[],0,(some [b,c]),2,false,a⟩
 Jp:∀a b c,CQ W w 2 ⟨[c],1,none,a,false,b⟩
 Jo:∀a b c d,CQ W w 2 ⟨[b],1,(some [c,d]),2,false,a⟩
 Jn:∀a b,CQ W w 3 ⟨[],0,none,a,false,b⟩
 Jm:∀a b c d,CQ W w 3 ⟨[],0,(some [b,c,d]),3,false,a⟩
 Jl:∀a b c,CQ W w 3 ⟨[c],1,none,a,false,b⟩
 Jk:∀a b c d e,CQ W w 3 ⟨[b],1,(some [c,d,e]),3,false,a⟩
 Jj:∀a b c d,CQ W w 3 ⟨[c,d],2,none,a,false,b⟩
 Ji:∀a b c d e f,CQ W w 3 ⟨[b,c],2,(some [d,e,f]),3,false,a⟩
 Jh:∀a b,CQ W w 4 ⟨[],0,none,a,false,b⟩
 Jg:∀a b c d e,CQ W w 4 ⟨[],0,(some [b,c,d,e]),4,false,a⟩
 Jf:∀a b c,CQ W w 4 ⟨[c],1,none,a,false,b⟩
 Je:∀a b c d e f,CQ W w 4 ⟨[b],1,(some [c,d,e,f]),4,false,a⟩
 Jd:∀a b c d,CQ W w 4 ⟨[c,d],2,none,a,false,b⟩
 Jc:∀a b c d e f g,CQ W w 4 ⟨[b,c],2,(some [d,e,f,g]),4,false,a⟩
 Jb:∀a b c d e,CQ W w 4 ⟨[c,d,e],3,none,a,false,b⟩
 Ja:∀a b c d e f g h,CQ W w 4 ⟨[b,c,d],3,(some [e,f,g,h]),4,false,a⟩
 I9:∀a b,CQ W w 5 ⟨[],0,none,a,false,b⟩
 I8:∀a b c d e f,CQ W w 5 ⟨[],0,(some [b,c,d,e,f]),5,false,a⟩
 I7:∀a b c,CQ W w 5 ⟨[c],1,none,a,false,b⟩
 I6:∀a b c d e f g,CQ W w 5 ⟨[b],1,(some [c,d,e,f,g]),5,false,a⟩
 I5:∀a b c d,CQ W w 5 ⟨[c,d],2,none,a,false,b⟩
 I4:∀a b c d e f g h,CQ W w 5 ⟨[b,c],2,(some [d,e,f,g,h]),5,false,a⟩
 I1:∀a b c d e,CQ W w 5 ⟨[c,d,e],3,none,a,false,b⟩
 IZ:∀a b c d e f g h i,CQ W w 5 ⟨[b,c,d],3,(some [e,f,g,h,i]),5,false,a⟩
 IY:∀a b c d e f,CQ W w 5 ⟨[c,d,e,f],4,none,a,false,b⟩
 IX:∀a b c d e f g h i j,CQ W w 5 ⟨[b,c,d,e],4,(some [f,g,h,i,j]),5,false,a⟩
 OA:∀a b c,SQ W w ⟨[],a,none,b,false,c⟩
 Oz:∀a b c d,SQ W w ⟨[],b,(some a),c,false,d⟩
 Oy:∀a b c d e,SQ W w ⟨(a::b),c,none,d,false,e⟩
 Ox:∀a b c d e f,SQ W w ⟨(a::b),d,(some c),e,false,f⟩
theorem XW{r:cK}(h:r≠.done):r=.swap\/r=.look\/r=.iI\/r=.jk:=by cases r<;>simp_all
theorem walk{W w:Nat}(kk:wT W w)(q:Xq)(hW:q.c.W=W)(hw:q.who=w)(hs:o8 q.x)(ea:Ask)(en:Int)(eg:Bool):(o5 1 w ea en eg (fq q)).get=(FJ q).get:=by
 obtain⟨⟨W1,S,st,wt,u⟩,m,now,wo,who,⟨ph,ask,gr⟩,n,R,rest,aj,at_⟩:=q;obtain rfl:W1=W:=hW;obtain rfl:who=w:=hw;cases ph with
 |rest=>apply kk.rest
 |pin h=>cases h with
  |none=>apply kk.ak'
  |some e=>
   obtain⟨op,wait,force,dl,slot,gen,bg⟩:=ask;have hs:op<8:=hs;match op,hs with
   |0,_=>exact kk.agF e S st wt u m now wo ⟨0,wait,force,dl,slot,gen,bg⟩ gr n R rest aj at_ ea en eg
   |1,_=>exact kk.agE e S st wt u m now wo ⟨0,wait,force,dl,slot,gen,bg⟩ gr n R rest aj at_ ea en eg
   |2,_=>exact kk.agD e S st wt u m now wo ⟨0,wait,force,dl,slot,gen,bg⟩ gr n R rest aj at_ ea en eg
   |3,_=>exact kk.agC e S st wt u m now wo ⟨0,wait,force,dl,slot,gen,bg⟩ gr n R rest aj at_ ea en eg
   |4,_=>exact kk.agB e S st wt u m now wo ⟨0,wait,force,dl,slot,gen,bg⟩ gr n R rest aj at_ ea en eg
   |5,_=>exact kk.agA e S st wt u m now wo ⟨0,wait,force,dl,slot,gen,bg⟩ gr n R rest aj at_ ea en eg
   |6,_=>exact kk.agz e S st wt u m now wo ⟨0,wait,force,dl,slot,gen,bg⟩ gr n R rest aj at_ ea en eg
   |7,_=>exact kk.agy e S st wt u m now wo ⟨0,wait,force,dl,slot,gen,bg⟩ gr n R rest aj at_ ea en eg
 |work k=>cases k with
  |get t=>
   obtain⟨ts,⟨kd,ow,a0,fd⟩,ti,aJ,gen,ps,⟨ri,aA,rep,rs,aF⟩,te⟩:=t;cases ts with
   |closed=>apply kk.VQ
   |own=>obtain⟨h1,h2⟩:=hs;dsimp only at h1 h2;subst h1 h2;apply kk.afw
   |gp=>obtain⟨h1,x,h2⟩:=hs;dsimp only at h1 h2;subst h1 h2;apply kk.abX
   |any=>obtain⟨h1,h2⟩:=hs;dsimp only at h1 h2;subst h1 h2;apply kk.afx
   |anyS=>obtain⟨h1,x,h2⟩:=hs;dsimp only at h1 h2;subst h1 h2;apply kk.ab2
   |move=>obtain⟨h1,h2⟩:=hs;dsimp only at h1 h2;subst h1 h2;apply kk.abY
   |dD=>obtain⟨h1,x,h2⟩:=hs;dsimp only at h1 h2;subst h1 h2;apply kk.Y9
   |free=>obtain⟨h1,h2⟩:=hs;dsimp only at h1 h2;subst h1 h2;apply kk.abZ
   |dQ=>obtain⟨h1,x,h2⟩:=hs;dsimp only at h1 h2;subst h1 h2;apply kk.Zc
   |bM=>apply kk.ab0
   |check=>apply kk.Zd
   |back=>apply kk.ab1
   |go=>
    rcases XW hs with h|h|h|h<;>dsimp only at h<;>subst h
    .apply kk.R6
    .apply kk.R7
    .apply kk.VP
    .apply kk.R8
   |grant=>apply kk.Zb
   |eG=>apply kk.VO
   |done=>exact absurd hs id
  |give g=>
   obtain⟨gi,gen,dc,gs,xR,aJ,⟨ri,aA,rep,rs,aF⟩,te⟩:=g;cases gs with
   |closed=>apply kk.R5
   |look=>apply kk.Y8
   |rest=>apply kk.Y7
   |go=>
    rcases XW hs with h|h|h|h<;>dsimp only at h<;>subst h
    .apply kk.Qf
    .apply kk.Qg
    .apply kk.R3
    .apply kk.Qh
   |done=>exact absurd hs id
  |bg s=>
   obtain⟨op,gi,gen,sn,ss,aJ,nx,num,te⟩:=s;cases op<;>cases ss
   .apply kk.Es
   .apply kk.GV
   .apply kk.GU
   .exact absurd rfl hs
   .apply kk.Fw
   .apply kk.Kc
   .apply kk.Kb
   .exact absurd rfl hs
  |close d=>cases d with
   |none=>apply kk.ahX
   |some u=>
    obtain⟨us,ln,first,why,te⟩:=u;cases us<;>first|exact absurd hs id|skip
    .apply kk.Wn
    .apply kk.ZA
    .apply kk.Wm
  |stats t=>exact absurd hs id
  |aS r=>
   obtain⟨ps,⟨kd,ow,a0,fd⟩,many,⟨ri,aA,rep,rs,aF⟩⟩:=r;cases ps with
   |look=>obtain⟨h1,h2⟩:=hs;dsimp only at h1 h2;subst h1 h2;apply kk.Ya
   |ask=>obtain⟨h1,x,h2⟩:=hs;dsimp only at h1 h2;subst h1 h2;apply kk.aaX
   |mark=>obtain⟨h1,x,h2⟩:=hs;dsimp only at h1 h2;subst h1 h2;apply kk.X9
   |dB=>
    obtain⟨⟨h1,x,h2⟩,hs⟩:=hs;dsimp only at h1 h2;subst h1 h2;rcases XW hs with h|h|h|h<;>dsimp only at h<;>subst h
    .apply kk.FB
    .apply kk.FC
    .apply kk.He
    .apply kk.FD
 |counts t=>exact absurd hs id
 |enters u=>
  obtain⟨us,ln,first,why,te⟩:=u;cases us<;>first|exact absurd hs id|skip
  .apply kk.Sg
  .apply kk.Sb
  .apply kk.Ns
  .apply kk.Sc
  .apply kk.Sd
 |leaves u=>
  obtain⟨us,ln,first,why,te⟩:=u;cases us<;>first|exact absurd hs id|skip
  .apply kk.RV
  .apply kk.RX
 |parked pb=>apply kk.RD
 |wakes h=>cases h with
  |none=>apply kk.afZ
  |some g=>apply kk.afY
 |ax t p an=>
  obtain⟨ts,bT,bU,bS,⟨kd,ow,a0,fd⟩,ti,aJ,bf,hd,⟨ri,aA,rep,rs,aF⟩⟩:=t;cases p with
  |none=>cases ts with
   |ep=>apply kk.Rj
   |pin=>apply kk.Ol
   |cl=>apply kk.Rk
   |dL=>obtain⟨h1,h2⟩:=hs;dsimp only at h1 h2;subst h1 h2;apply kk.J3
   |go=>
    obtain⟨⟨h1,x,h2⟩,hs⟩:=hs;dsimp only at h1 h2;subst h1 h2;rcases XW hs with h|h|h|h<;>dsimp only at h<;>subst h
    .apply kk.Fp
    .apply kk.Fq
    .apply kk.GN
    .apply kk.Fs
   |old=>obtain⟨h1,h2⟩:=hs;dsimp only at h1 h2;subst h1 h2;apply kk.Om
   |pins=>obtain⟨h1,x,h2⟩:=hs;dsimp only at h1 h2;subst h1 h2;apply kk.M9
   |clear=>obtain⟨h1,x,h2⟩:=hs;dsimp only at h1 h2;subst h1 h2;apply kk.J5
   |line=>apply kk.Na
   |some=>obtain⟨h1,h2⟩:=hs;dsimp only at h1 h2;subst h1 h2;apply kk.MZ
   |keep=>obtain⟨h1,x,h2⟩:=hs;dsimp only at h1 h2;subst h1 h2;apply kk.Nb
   |pop=>apply kk.Oj
   |grant=>apply kk.J4
   |back=>apply kk.Nc
   |dR=>apply kk.GM
   |eO=>apply kk.J2
   |again=>apply kk.J6
   |done=>exact absurd hs id
  |some pb=>cases ts with
   |ep=>apply kk.Rh
   |pin=>apply kk.Oh
   |cl=>apply kk.Ri
   |dL=>obtain⟨h1,h2⟩:=hs;dsimp only at h1 h2;subst h1 h2;apply kk.JW
   |go=>
    obtain⟨⟨h1,x,h2⟩,hs⟩:=hs;dsimp only at h1 h2;subst h1 h2;rcases XW hs with h|h|h|h<;>dsimp only at h<;>subst h
    .apply kk.Fg
    .apply kk.Fh
    .apply kk.GL
    .apply kk.Fj
   |old=>obtain⟨h1,h2⟩:=hs;dsimp only at h1 h2;subst h1 h2;apply kk.Oi
   |pins=>obtain⟨h1,x,h2⟩:=hs;dsimp only at h1 h2;subst h1 h2;apply kk.MU
   |clear=>obtain⟨h1,x,h2⟩:=hs;dsimp only at h1 h2;subst h1 h2;apply kk.JY
   |line=>apply kk.MV
   |some=>obtain⟨h1,h2⟩:=hs;dsimp only at h1 h2;subst h1 h2;apply kk.MS
   |keep=>obtain⟨h1,x,h2⟩:=hs;dsimp only at h1 h2;subst h1 h2;apply kk.MW
   |pop=>apply kk.Og
   |grant=>apply kk.JX
   |back=>apply kk.MX
   |dR=>apply kk.GJ
   |eO=>apply kk.JV
   |again=>apply kk.JZ
   |done=>exact absurd hs id
theorem afT{W w:Nat}(kk:wT W w)(q:Xq)(t:Ti)(hW:q.c.W=W)(hw:q.who=w)(hd:t.dn=false)(ea:Ask)(en:Int)(eg:Bool):(o5 1 w ea en eg (heapT q true t)).get=(Dz q t).get:=by
 have e1:heapT q true t=heapT {q with x:=⟨.rest,q.x.ask,q.x.grant⟩} true t:=rfl;have e2:Dz q t=Dz {q with x:=⟨.rest,q.x.ask,q.x.grant⟩} t:=rfl;rw[e1,e2];obtain⟨⟨W1,S,st,wt,u⟩,m,now,wo,who,⟨ph,ask,gr⟩,n,R,rest,aj,at_⟩:=q;obtain rfl:W1=W:=hW;obtain rfl:who=w:=hw;obtain⟨rd,rl,last,ll,dn,n2⟩:=t;obtain rfl:dn=false:=hd;cases rd<;>cases last
 .apply kk.OA
 .apply kk.Oz
 .apply kk.Oy
 .apply kk.Ox
theorem adV{W w:Nat}(kk:wT W w)(q:Xq)(t:Ti)(hW:q.c.W=W)(hw:q.who=w)(hd:t.dn=false)(hS:q.c.S<=5)(hr:t.rd.length<q.c.S)(hl:t.rl=t.rd.length)(hl2:t.ll=(t.last.getD []).length)(hl3:t.last=none\/t.ll=q.c.S)(ea:Ask)(en:Int)(eg:Bool):(o5 1 w ea en eg (heapT q false t)).get=(K9 q t).get:=by
 have e1:heapT q false t=heapT {q with x:=⟨.rest,q.x.ask,q.x.grant⟩} false t:=rfl;have e2:K9 q t=K9 {q with x:=⟨.rest,q.x.ask,q.x.grant⟩} t:=rfl;rw[e1,e2];obtain⟨⟨W1,S,st,wt,u⟩,m,now,wo,who,⟨ph,ask,gr⟩,n,R,rest,aj,at_⟩:=q;obtain rfl:W1=W:=hW;obtain rfl:who=w:=hw;obtain⟨rd,rl,last,ll,dn,n2⟩:=t;obtain rfl:dn=false:=hd;obtain rfl:rl=rd.length:=hl;have hS:S<=5:=hS;have hr:rd.length<S:=hr;have key:(last=none)\/∃l,last=some l/\l.length=S/\ll=S:=by
  cases last with
  |none=>exact .inl rfl
  |some l=>
   have h2:ll=l.length:=hl2;have h3:ll=S:=by
    rcases hl3 with h|h
    .cases h
    .exact h
   exact .inr ⟨l,rfl,by omega,h3⟩
 have hs:S=1\/S=2\/S=3\/S=4\/S=5:=by omega
 rcases hs with rfl|rfl|rfl|rfl|rfl
 .match rd,hr with
  |[],_=>
   rcases key with rfl|⟨l,rfl,hl,rfl⟩
   .apply kk.Jt
   .match l,hl with
    |[y0],_=>apply kk.Js
  |x0::r,h=>simp at h<;>omega
 .match rd,hr with
  |[],_=>
   rcases key with rfl|⟨l,rfl,hl,rfl⟩
   .apply kk.Jr
   .match l,hl with
    |[y0,y1],_=>apply kk.Jq
  |[x0],_=>
   rcases key with rfl|⟨l,rfl,hl,rfl⟩
   .apply kk.Jp
   .match l,hl with
    |[y0,y1],_=>apply kk.Jo
  |x0::x1::r,h=>simp at h<;>omega
 .match rd,hr with
  |[],_=>
   rcases key with rfl|⟨l,rfl,hl,rfl⟩
   .apply kk.Jn
   .match l,hl with
    |[y0,y1,y2],_=>apply kk.Jm
  |[x0],_=>
   rcases key with rfl|⟨l,rfl,hl,rfl⟩
   .apply kk.Jl
   .match l,hl with
    |[y0,y1,y2],_=>apply kk.Jk
  |[x0,x1],_=>
   rcases key with rfl|⟨l,rfl,hl,rfl⟩
   .apply kk.Jj
   .match l,hl with
    |[y0,y1,y2],_=>apply kk.Ji
  |x0::x1::x2::r,h=>simp at h<;>omega
 .match rd,hr with
  |[],_=>
   rcases key with rfl|⟨l,rfl,hl,rfl⟩
   .apply kk.Jh
   .match l,hl with
    |[y0,y1,y2,y3],_=>apply kk.Jg
  |[x0],_=>
   rcases key with rfl|⟨l,rfl,hl,rfl⟩
   .apply kk.Jf
   .match l,hl with
    |[y0,y1,y2,y3],_=>apply kk.Je
  |[x0,x1],_=>
   rcases key with rfl|⟨l,rfl,hl,rfl⟩
   .apply kk.Jd
   .match l,hl with
    |[y0,y1,y2,y3],_=>apply kk.Jc
  |[x0,x1,x2],_=>
   rcases key with rfl|⟨l,rfl,hl,rfl⟩
   .apply kk.Jb
   .match l,hl with
    |[y0,y1,y2,y3],_=>apply kk.Ja
  |x0::x1::x2::x3::r,h=>simp at h<;>omega
 .match rd,hr with
  |[],_=>
   rcases key with rfl|⟨l,rfl,hl,rfl⟩
   .apply kk.I9
   .match l,hl with
    |[y0,y1,y2,y3,y4],_=>apply kk.I8
  |[x0],_=>
   rcases key with rfl|⟨l,rfl,hl,rfl⟩
   .apply kk.I7
   .match l,hl with
    |[y0,y1,y2,y3,y4],_=>apply kk.I6
  |[x0,x1],_=>
   rcases key with rfl|⟨l,rfl,hl,rfl⟩
   .apply kk.I5
   .match l,hl with
    |[y0,y1,y2,y3,y4],_=>apply kk.I4
  |[x0,x1,x2],_=>
   rcases key with rfl|⟨l,rfl,hl,rfl⟩
   .apply kk.I1
   .match l,hl with
    |[y0,y1,y2,y3,y4],_=>apply kk.IZ
  |[x0,x1,x2,x3],_=>
   rcases key with rfl|⟨l,rfl,hl,rfl⟩
   .apply kk.IY
   .match l,hl with
    |[y0,y1,y2,y3,y4],_=>apply kk.IX
  |x0::x1::x2::x3::x4::r,h=>simp at h<;>omega
theorem wT.walks{W w:Nat}(kk:wT W w):Yq.fZ W w:=⟨λq hW hw hs ea en eg=>walk kk q hW hw hs ea en eg,λq t hW hw hd ea en eg=>afT kk q t hW hw hd ea en eg,λq t hW hw hd hS hr hl hl2 hl3 ea en eg=>adV kk q t hW hw hd hS hr hl hl2 hl3 ea en eg⟩
