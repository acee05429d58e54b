import Derived.Test.YteaflphddciglaaGreatDoorCcB
set_option linter.all false
namespace Go.Proofs.YteaflphddciglaaGreatDoor
namespace bq
noncomputable section
open Go.RowKit Go.bn Go.Sx
abbrev WF(W w:Nat)(p:Ph)(f:Ask->Ask):Prop:=∀S s wt u m o c a d n R r e b h i k,(o5 1 w h i k (fq (⟨⟨W,S,s,wt,u⟩,m,o,c,w,⟨p,f a,d⟩,n,R,r,e,b⟩:Xq))).get=(FJ (⟨⟨W,S,s,wt,u⟩,m,o,c,w,⟨p,f a,d⟩,n,R,r,e,b⟩:Xq)).get
abbrev WQ(W w:Nat)(p:Ph):Prop:=WF W w p λk=>k
abbrev WP(W w o:Nat)(p:Ph):Prop:=WF W w p λk=>⟨o,k.wait,k.force,k.dl,k.slot,k.gen,k.bg⟩
abbrev SQ(W w:Nat)(t:Ti):Prop:=∀S s wt u m o c a d n R r e b f h i,(o5 1 w f h i (heapT (⟨⟨W,S,s,wt,u⟩,m,o,c,w,⟨.rest,a,d⟩,n,R,r,e,b⟩:Xq) true t)).get=(Dz (⟨⟨W,S,s,wt,u⟩,m,o,c,w,⟨.rest,a,d⟩,n,R,r,e,b⟩:Xq) t).get
abbrev CQ(W w S:Nat)(t:Ti):Prop:=∀s wt u m o c a d n R r e b f h i,(o5 1 w f h i (heapT (⟨⟨W,S,s,wt,u⟩,m,o,c,w,⟨.rest,a,d⟩,n,R,r,e,b⟩:Xq) false t)).get=(K9 (⟨⟨W,S,s,wt,u⟩,m,o,c,w,⟨.rest,a,d⟩,n,R,r,e,b⟩:Xq) t).get
structure wT(W w:Nat):Prop where
 ahX:WQ W w (.work (.close none))
 Wn:∀a b c d,WQ W w (.work (.close (some ⟨.head,a,b,c,d⟩)))
 ZA:∀a b c d,WQ W w (.work (.close (some ⟨.pop,a,b,c,d⟩)))
 Wm:∀a b c d,WQ W w (.work (.close (some ⟨.tell,a,b,c,d⟩)))
 Ns:∀a b c d,WQ W w (.enters ⟨.closed,a,b,c,d⟩)
 Sg:∀a b c d,WQ W w (.enters ⟨.come,a,b,c,d⟩)
 Sd:∀a b c d,WQ W w (.enters ⟨.drop,a,b,c,d⟩)
 Sc:∀a b c d,WQ W w (.enters ⟨.look,a,b,c,d⟩)
 Sb:∀a b c d,WQ W w (.enters ⟨.push,a,b,c,d⟩)
 afx:∀a b c d e f g h i j k l,WQ W w (.work (.get ⟨.any,⟨1,a,b,none⟩,c,d,e,f,⟨g,h,i,j,k⟩,l⟩))
 ab2:∀a b c d e f g h i j k l m,WQ W w (.work (.get ⟨.anyS,⟨1,a,b,some c⟩,d,e,f,g,⟨h,i,j,k,l⟩,m⟩))
 ab1:∀a b c d e f g h i j k l m n,WQ W w (.work (.get ⟨.back,⟨a,b,c,d⟩,e,f,g,h,⟨i,j,k,l,m⟩,n⟩))
 Zd:∀a b c d e f g h i j k l m n,WQ W w (.work (.get ⟨.check,⟨a,b,c,d⟩,e,f,g,h,⟨i,j,k,l,m⟩,n⟩))
 VQ:∀a b c d e f g h i j k l m n,WQ W w (.work (.get ⟨.closed,⟨a,b,c,d⟩,e,f,g,h,⟨i,j,k,l,m⟩,n⟩))
 ab0:∀a b c d e f g h i j k l m n,WQ W w (.work (.get ⟨.bM,⟨a,b,c,d⟩,e,f,g,h,⟨i,j,k,l,m⟩,n⟩))
 abZ:∀a b c d e f g h i j k l,WQ W w (.work (.get ⟨.free,⟨2,a,b,none⟩,c,d,e,f,⟨g,h,i,j,k⟩,l⟩))
 Zc:∀a b c d e f g h i j k l m,WQ W w (.work (.get ⟨.dQ,⟨2,a,b,some c⟩,d,e,f,g,⟨h,i,j,k,l⟩,m⟩))
 VP:∀a b c d e f g h i j k l m,WQ W w (.work (.get ⟨.go,⟨a,b,c,d⟩,e,f,g,h,⟨i,j,k,.iI,l⟩,m⟩))
 R8:∀a b c d e f g h i j k l m,WQ W w (.work (.get ⟨.go,⟨a,b,c,d⟩,e,f,g,h,⟨i,j,k,.jk,l⟩,m⟩))
 R7:∀a b c d e f g h i j k l m,WQ W w (.work (.get ⟨.go,⟨a,b,c,d⟩,e,f,g,h,⟨i,j,k,.look,l⟩,m⟩))
 R6:∀a b c d e f g h i j k l m,WQ W w (.work (.get ⟨.go,⟨a,b,c,d⟩,e,f,g,h,⟨i,j,k,.swap,l⟩,m⟩))
 Zb:∀a b c d e f g h i j k l m n,WQ W w (.work (.get ⟨.grant,⟨a,b,c,d⟩,e,f,g,h,⟨i,j,k,l,m⟩,n⟩))
 VO:∀a b c d e f g h i j k l m n,WQ W w (.work (.get ⟨.eG,⟨a,b,c,d⟩,e,f,g,h,⟨i,j,k,l,m⟩,n⟩))
 abY:∀a b c d e f g h i j k l,WQ W w (.work (.get ⟨.move,⟨0,a,b,none⟩,c,d,e,f,⟨g,h,i,j,k⟩,l⟩))
 Y9:∀a b c d e f g h i j k l m,WQ W w (.work (.get ⟨.dD,⟨0,a,b,some c⟩,d,e,f,g,⟨h,i,j,k,l⟩,m⟩))
 afw:∀a b c d e f g h i j k l,WQ W w (.work (.get ⟨.own,⟨0,a,b,none⟩,c,d,e,f,⟨g,h,i,j,k⟩,l⟩))
 abX:∀a b c d e f g h i j k l m,WQ W w (.work (.get ⟨.gp,⟨0,a,b,some c⟩,d,e,f,g,⟨h,i,j,k,l⟩,m⟩))
 R5:∀a b c d e f g h i j k,WQ W w (.work (.give ⟨a,b,c,.closed,d,e,⟨f,g,h,i,j⟩,k⟩))
 R3:∀a b c d e f g h i j,WQ W w (.work (.give ⟨a,b,c,.go,d,e,⟨f,g,h,.iI,i⟩,j⟩))
 Qh:∀a b c d e f g h i j,WQ W w (.work (.give ⟨a,b,c,.go,d,e,⟨f,g,h,.jk,i⟩,j⟩))
 Qg:∀a b c d e f g h i j,WQ W w (.work (.give ⟨a,b,c,.go,d,e,⟨f,g,h,.look,i⟩,j⟩))
 Qf:∀a b c d e f g h i j,WQ W w (.work (.give ⟨a,b,c,.go,d,e,⟨f,g,h,.swap,i⟩,j⟩))
 Y8:∀a b c d e f g h i j k,WQ W w (.work (.give ⟨a,b,c,.look,d,e,⟨f,g,h,i,j⟩,k⟩))
 Y7:∀a b c d e f g h i j k,WQ W w (.work (.give ⟨a,b,c,.rest,d,e,⟨f,g,h,i,j⟩,k⟩))
 RX:∀a b c d,WQ W w (.leaves ⟨.drop,a,b,c,d⟩)
 RV:∀a b c d,WQ W w (.leaves ⟨.look,a,b,c,d⟩)
 RD:∀a,WQ W w (.parked a)
 ak':WQ W w (.pin none)
 agF:∀a,WP W w 0 (.pin (some a))
 agE:∀a,WP W w 1 (.pin (some a))
 agD:∀a,WP W w 2 (.pin (some a))
 agC:∀a,WP W w 3 (.pin (some a))
 agB:∀a,WP W w 4 (.pin (some a))
 agA:∀a,WP W w 5 (.pin (some a))
 agz:∀a,WP W w 6 (.pin (some a))
 agy:∀a,WP W w 7 (.pin (some a))
 aaX:∀a b c d e f g h i,WQ W w (.work (.aS ⟨.ask,⟨6,a,b,some c⟩,d,⟨e,f,g,h,i⟩⟩))
 Ya:∀a b c d e f g h,WQ W w (.work (.aS ⟨.look,⟨6,a,b,none⟩,c,⟨d,e,f,g,h⟩⟩))
 X9:∀a b c d e f g h i,WQ W w (.work (.aS ⟨.mark,⟨6,a,b,some c⟩,d,⟨e,f,g,h,i⟩⟩))
 He:∀a b c d e f g h,WQ W w (.work (.aS ⟨.dB,⟨6,a,b,some c⟩,d,⟨e,f,g,.iI,h⟩⟩))
 FD:∀a b c d e f g h,WQ W w (.work (.aS ⟨.dB,⟨6,a,b,some c⟩,d,⟨e,f,g,.jk,h⟩⟩))
 FC:∀a b c d e f g h,WQ W w (.work (.aS ⟨.dB,⟨6,a,b,some c⟩,d,⟨e,f,g,.look,h⟩⟩))
 FB:∀a b c d e f g h,WQ W w (.work (.aS ⟨.dB,⟨6,a,b,some c⟩,d,⟨e,f,g,.swap,h⟩⟩))
 rest:WQ W w .rest
 Es:∀a b c d e f g,WQ W w (.work (.bg ⟨false,a,b,c,.closed,d,e,f,g⟩))
 GV:∀a b c d e f g,WQ W w (.work (.bg ⟨false,a,b,c,.look,d,e,f,g⟩))
 GU:∀a b c d e f g,WQ W w (.work (.bg ⟨false,a,b,c,.swap,d,e,f,g⟩))
 Fw:∀a b c d e f g,WQ W w (.work (.bg ⟨true,a,b,c,.closed,d,e,f,g⟩))
 Kc:∀a b c d e f g,WQ W w (.work (.bg ⟨true,a,b,c,.look,d,e,f,g⟩))
 Kb:∀a b c d e f g,WQ W w (.work (.bg ⟨true,a,b,c,.swap,d,e,f,g⟩))
 J6:∀a b c d e f g h i j k l m n o p q,WQ W w (.ax ⟨.again,a,b,c,⟨d,e,f,g⟩,h,i,j,k,⟨l,m,n,o,p⟩⟩ none q)
 Nc:∀a b c d e f g h i j k l m n o p q,WQ W w (.ax ⟨.back,a,b,c,⟨d,e,f,g⟩,h,i,j,k,⟨l,m,n,o,p⟩⟩ none q)
 Rk:∀a b c d e f g h i j k l m n o p q,WQ W w (.ax ⟨.cl,a,b,c,⟨d,e,f,g⟩,h,i,j,k,⟨l,m,n,o,p⟩⟩ none q)
 J5:∀a b c d e f g h i j k l m n o p,WQ W w (.ax ⟨.clear,a,b,c,⟨5,d,e,some f⟩,g,h,i,j,⟨k,l,m,n,o⟩⟩ none p)
 Rj:∀a b c d e f g h i j k l m n o p q,WQ W w (.ax ⟨.ep,a,b,c,⟨d,e,f,g⟩,h,i,j,k,⟨l,m,n,o,p⟩⟩ none q)
 GN:∀a b c d e f g h i j k l m n o,WQ W w (.ax ⟨.go,a,b,c,⟨4,d,e,some f⟩,g,h,i,j,⟨k,l,m,.iI,n⟩⟩ none o)
 Fs:∀a b c d e f g h i j k l m n o,WQ W w (.ax ⟨.go,a,b,c,⟨4,d,e,some f⟩,g,h,i,j,⟨k,l,m,.jk,n⟩⟩ none o)
 Fq:∀a b c d e f g h i j k l m n o,WQ W w (.ax ⟨.go,a,b,c,⟨4,d,e,some f⟩,g,h,i,j,⟨k,l,m,.look,n⟩⟩ none o)
 Fp:∀a b c d e f g h i j k l m n o,WQ W w (.ax ⟨.go,a,b,c,⟨4,d,e,some f⟩,g,h,i,j,⟨k,l,m,.swap,n⟩⟩ none o)
 J4:∀a b c d e f g h i j k l m n o p q,WQ W w (.ax ⟨.grant,a,b,c,⟨d,e,f,g⟩,h,i,j,k,⟨l,m,n,o,p⟩⟩ none q)
 Nb:∀a b c d e f g h i j k l m n o p,WQ W w (.ax ⟨.keep,a,b,c,⟨3,d,e,some f⟩,g,h,i,j,⟨k,l,m,n,o⟩⟩ none p)
 Na:∀a b c d e f g h i j k l m n o p q,WQ W w (.ax ⟨.line,a,b,c,⟨d,e,f,g⟩,h,i,j,k,⟨l,m,n,o,p⟩⟩ none q)
 Om:∀a b c d e f g h i j k l m n o,WQ W w (.ax ⟨.old,a,b,c,⟨5,d,e,none⟩,f,g,h,i,⟨j,k,l,m,n⟩⟩ none o)
 Ol:∀a b c d e f g h i j k l m n o p q,WQ W w (.ax ⟨.pin,a,b,c,⟨d,e,f,g⟩,h,i,j,k,⟨l,m,n,o,p⟩⟩ none q)
 M9:∀a b c d e f g h i j k l m n o p,WQ W w (.ax ⟨.pins,a,b,c,⟨5,d,e,some f⟩,g,h,i,j,⟨k,l,m,n,o⟩⟩ none p)
 Oj:∀a b c d e f g h i j k l m n o p q,WQ W w (.ax ⟨.pop,a,b,c,⟨d,e,f,g⟩,h,i,j,k,⟨l,m,n,o,p⟩⟩ none q)
 MZ:∀a b c d e f g h i j k l m n o,WQ W w (.ax ⟨.some,a,b,c,⟨3,d,e,none⟩,f,g,h,i,⟨j,k,l,m,n⟩⟩ none o)
 J3:∀a b c d e f g h i j k l m n o,WQ W w (.ax ⟨.dL,a,b,c,⟨4,d,e,none⟩,f,g,h,i,⟨j,k,l,m,n⟩⟩ none o)
 GM:∀a b c d e f g h i j k l m n o p q,WQ W w (.ax ⟨.dR,a,b,c,⟨d,e,f,g⟩,h,i,j,k,⟨l,m,n,o,p⟩⟩ none q)
 J2:∀a b c d e f g h i j k l m n o p q,WQ W w (.ax ⟨.eO,a,b,c,⟨d,e,f,g⟩,h,i,j,k,⟨l,m,n,o,p⟩⟩ none q)
 JZ:∀a b c d e f g h i j k l m n o p q r,WQ W w (.ax ⟨.again,a,b,c,⟨d,e,f,g⟩,h,i,j,k,⟨l,m,n,o,p⟩⟩ (some r) q)
 MX:∀a b c d e f g h i j k l m n o p q r,WQ W w (.ax ⟨.back,a,b,c,⟨d,e,f,g⟩,h,i,j,k,⟨l,m,n,o,p⟩⟩ (some r) q)
 Ri:∀a b c d e f g h i j k l m n o p q r,WQ W w (.ax ⟨.cl,a,b,c,⟨d,e,f,g⟩,h,i,j,k,⟨l,m,n,o,p⟩⟩ (some r) q)
 JY:∀a b c d e f g h i j k l m n o p q,WQ W w (.ax ⟨.clear,a,b,c,⟨5,d,e,some f⟩,g,h,i,j,⟨k,l,m,n,o⟩⟩ (some q) p)
 Rh:∀a b c d e f g h i j k l m n o p q r,WQ W w (.ax ⟨.ep,a,b,c,⟨d,e,f,g⟩,h,i,j,k,⟨l,m,n,o,p⟩⟩ (some r) q)
 GL:∀a b c d e f g h i j k l m n o p,WQ W w (.ax ⟨.go,a,b,c,⟨4,d,e,some f⟩,g,h,i,j,⟨k,l,m,.iI,n⟩⟩ (some p) o)
 Fj:∀a b c d e f g h i j k l m n o p,WQ W w (.ax ⟨.go,a,b,c,⟨4,d,e,some f⟩,g,h,i,j,⟨k,l,m,.jk,n⟩⟩ (some p) o)
 Fh:∀a b c d e f g h i j k l m n o p,WQ W w (.ax ⟨.go,a,b,c,⟨4,d,e,some f⟩,g,h,i,j,⟨k,l,m,.look,n⟩⟩ (some p) o)
 Fg:∀a b c d e f g h i j k l m n o p,WQ W w (.ax ⟨.go,a,b,c,⟨4,d,e,some f⟩,g,h,i,j,⟨k,l,m,.swap,n⟩⟩ (some p) o)
 JX:∀a b c d e f g h i j k l m n o p q r,WQ W w (.ax ⟨.grant,a,b,c,⟨d,e,f,g⟩,h,i,j,k,⟨l,m,n,o,p⟩⟩ (some r) q)
 MW:∀a b c d e f g h i j k l m n o p q,WQ W w (.ax ⟨.keep,a,b,c,⟨3,d,e,some f⟩,g,h,i,j,⟨k,l,m,n,o⟩⟩ (some q) p)
 MV:∀a b c d e f g h i j k l m n o p q r,WQ W w (.ax ⟨.line,a,b,c,⟨d,e,f,g⟩,h,i,j,k,⟨l,m,n,o,p⟩⟩ (some r) q)
 Oi:∀a b c d e f g h i j k l m n o p,WQ W w (.ax ⟨.old,a,b,c,⟨5,d,e,none⟩,f,g,h,i,⟨j,k,l,m,n⟩⟩ (some p) o)
 Oh:∀a b c d e f g h i j k l m n o p q r,WQ W w (.ax ⟨.pin,a,b,c,⟨d,e,f,g⟩,h,i,j,k,⟨l,m,n,o,p⟩⟩ (some r) q)
 MU:∀a b c d e f g h i j k l m n o p q,WQ W w (.ax ⟨.pins,a,b,c,⟨5,d,e,some f⟩,g,h,i,j,⟨k,l,m,n,o⟩⟩ (some q) p)
 Og:∀a b c d e f g h i j k l m n o p q r,WQ W w (.ax ⟨.pop,a,b,c,⟨d,e,f,g⟩,h,i,j,k,⟨l,m,n,o,p⟩⟩ (some r) q)
 MS:∀a b c d e f g h i j k l m n o p,WQ W w (.ax ⟨.some,a,b,c,⟨3,d,e,none⟩,f,g,h,i,⟨j,k,l,m,n⟩⟩ (some p) o)
 JW:∀a b c d e f g h i j k l m n o p,WQ W w (.ax ⟨.dL,a,b,c,⟨4,d,e,none⟩,f,g,h,i,⟨j,k,l,m,n⟩⟩ (some p) o)
 GJ:∀a b c d e f g h i j k l m n o p q r,WQ W w (.ax ⟨.dR,a,b,c,⟨d,e,f,g⟩,h,i,j,k,⟨l,m,n,o,p⟩⟩ (some r) q)
 JV:∀a b c d e f g h i j k l m n o p q r,WQ W w (.ax ⟨.eO,a,b,c,⟨d,e,f,g⟩,h,i,j,k,⟨l,m,n,o,p⟩⟩ (some r) q)
 afZ:WQ W w (.wakes none)
 afY:∀a,WQ W w (.wakes (some a))
 Jt:∀a b,CQ W w 1 ⟨[],0,none,a,false,b⟩
 Js:∀a b,CQ W w 1 ⟨[],0,(some [b]),1,false,a⟩
 Jr:∀a b,CQ W w 2 ⟨[],0,none,a,false,b⟩
 Jq:∀a b c,CQ W w 2 ⟨[],0,(some [b,c]),2,false,a⟩
 Jp:∀a b c,CQ W w 2 ⟨[c],1,none,a,false,b⟩
 Jo:∀a b c d,CQ W w 2 ⟨[b],1,(some [c,d]),2,false,a⟩
 Jn:∀a b,CQ W w 3 ⟨[],0,none,a,false,b⟩
 Jm:∀a b c d,CQ W w 3 ⟨[],0,(some [b,c,d]),3,false,a⟩
 Jl:∀a b c,CQ W w 3 ⟨[c],1,none,a,false,b⟩
 Jk:∀a b c d e,CQ W w 3 ⟨[b],1,(some [c,d,e]),3,false,a⟩
 Jj:∀a b c d,CQ W w 3 ⟨[c,d],2,none,a,false,b⟩
 Ji:∀a b c d e f,CQ W w 3 ⟨[b,c],2,(some [d,e,f]),3,false,a⟩
 Jh:∀a b,CQ W w 4 ⟨[],0,none,a,false,b⟩
 Jg:∀a b c d e,CQ W w 4 ⟨[],0,(some [b,c,d,e]),4,false,a⟩
 Jf:∀a b c,CQ W w 4 ⟨[c],1,none,a,false,b⟩
 Je:∀a b c d e f,CQ W w 4 ⟨[b],1,(some [c,d,e,f]),4,false,a⟩
 Jd:∀a b c d,CQ W w 4 ⟨[c,d],2,none,a,false,b⟩
 Jc:∀a b c d e f g,CQ W w 4 ⟨[b,c],2,(some [d,e,f,g]),4,false,a⟩
 Jb:∀a b c d e,CQ W w 4 ⟨[c,d,e],3,none,a,false,b⟩
 Ja:∀a b c d e f g h,CQ W w 4 ⟨[b,c,d],3,(some [e,f,g,h]),4,false,a⟩
 I9:∀a b,CQ W w 5 ⟨[],0,none,a,false,b⟩
 I8:∀a b c d e f,CQ W w 5 ⟨[],0,(some [b,c,d,e,f]),5,false,a⟩
 I7:∀a b c,CQ W w 5 ⟨[c],1,none,a,false,b⟩
 I6:∀a b c d e f g,CQ W w 5 ⟨[b],1,(some [c,d,e,f,g]),5,false,a⟩
 I5:∀a b c d,CQ W w 5 ⟨[c,d],2,none,a,false,b⟩
 I4:∀a b c d e f g h,CQ W w 5 ⟨[b,c],2,(some [d,e,f,g,h]),5,false,a⟩
 I1:∀a b c d e,CQ W w 5 ⟨[c,d,e],3,none,a,false,b⟩
 IZ:∀a b c d e f g h i,CQ W w 5 ⟨[b,c,d],3,(some [e,f,g,h,i]),5,false,a⟩
 IY:∀a b c d e f,CQ W w 5 ⟨[c,d,e,f],4,none,a,false,b⟩
 IX:∀a b c d e f g h i j,CQ W w 5 ⟨[b,c,d,e],4,(some [f,g,h,i,j]),5,false,a⟩
 OA:∀a b c,SQ W w ⟨[],a,none,b,false,c⟩
 Oz:∀a b c d,SQ W w ⟨[],b,(some a),c,false,d⟩
 Oy:∀a b c d e,SQ W w ⟨(a::b),c,none,d,false,e⟩
 Ox:∀a b c d e f,SQ W w ⟨(a::b),d,(some c),e,false,f⟩
def XW{r:cK}(h:r≠.done):r=.swap\/r=.look\/r=.iI\/r=.jk:=by cases r<;>simp_all
def walk{W w:Nat}(a:wT W w)(q:Xq)(hW:q.c.W=W)(hw:q.who=w)(f:o8 q.x)(A:Ask)(B:Int)(C:Bool):(o5 1 w A B C (fq q)).get=(FJ q).get:=by
 obtain⟨⟨W1,S,D,wt,u⟩,m,y,E,O,⟨ph,ask,F⟩,n,R,rest,G,z⟩:=q;obtain rfl:W1=W:=hW;obtain rfl:O=w:=hw;cases ph with
 |rest=>apply a.rest
 |pin h=>cases h with
  |none=>apply a.ak'
  |some e=>
   obtain⟨L,i,o,H,l,v,bg⟩:=ask;have f:L<8:=f;match L,f with
   |0,_=>exact a.agF e S D wt u m y E ⟨0,i,o,H,l,v,bg⟩ F n R rest G z A B C
   |1,_=>exact a.agE e S D wt u m y E ⟨0,i,o,H,l,v,bg⟩ F n R rest G z A B C
   |2,_=>exact a.agD e S D wt u m y E ⟨0,i,o,H,l,v,bg⟩ F n R rest G z A B C
   |3,_=>exact a.agC e S D wt u m y E ⟨0,i,o,H,l,v,bg⟩ F n R rest G z A B C
   |4,_=>exact a.agB e S D wt u m y E ⟨0,i,o,H,l,v,bg⟩ F n R rest G z A B C
   |5,_=>exact a.agA e S D wt u m y E ⟨0,i,o,H,l,v,bg⟩ F n R rest G z A B C
   |6,_=>exact a.agz e S D wt u m y E ⟨0,i,o,H,l,v,bg⟩ F n R rest G z A B C
   |7,_=>exact a.agy e S D wt u m y E ⟨0,i,o,H,l,v,bg⟩ F n R rest G z A B C
 |work k=>cases k with
  |get t=>
   obtain⟨N,⟨X,Y,Z,fd⟩,ti,P,v,ps,⟨Q,T,rep,U,V⟩,I⟩:=t;cases N with
   |closed=>apply a.VQ
   |own=>obtain⟨b,c⟩:=f;dsimp only at b c;subst b c;apply a.afw
   |gp=>obtain⟨b,x,c⟩:=f;dsimp only at b c;subst b c;apply a.abX
   |any=>obtain⟨b,c⟩:=f;dsimp only at b c;subst b c;apply a.afx
   |anyS=>obtain⟨b,x,c⟩:=f;dsimp only at b c;subst b c;apply a.ab2
   |move=>obtain⟨b,c⟩:=f;dsimp only at b c;subst b c;apply a.abY
   |dD=>obtain⟨b,x,c⟩:=f;dsimp only at b c;subst b c;apply a.Y9
   |free=>obtain⟨b,c⟩:=f;dsimp only at b c;subst b c;apply a.abZ
   |dQ=>obtain⟨b,x,c⟩:=f;dsimp only at b c;subst b c;apply a.Zc
   |bM=>apply a.ab0
   |check=>apply a.Zd
   |back=>apply a.ab1
   |go=>
    rcases XW f with h|h|h|h<;>dsimp only at h<;>subst h
    .apply a.R6
    .apply a.R7
    .apply a.VP
    .apply a.R8
   |grant=>apply a.Zb
   |eG=>apply a.VO
   |done=>exact tA f id
  |give g=>
   obtain⟨gi,v,dc,gs,xR,P,⟨Q,T,rep,U,V⟩,I⟩:=g;cases gs with
   |closed=>apply a.R5
   |look=>apply a.Y8
   |rest=>apply a.Y7
   |go=>
    rcases XW f with h|h|h|h<;>dsimp only at h<;>subst h
    .apply a.Qf
    .apply a.Qg
    .apply a.R3
    .apply a.Qh
   |done=>exact tA f id
  |bg s=>
   obtain⟨L,gi,v,sn,ss,P,nx,am,I⟩:=s;cases L<;>cases ss
   .apply a.Es
   .apply a.GV
   .apply a.GU
   .exact tA rfl f
   .apply a.Fw
   .apply a.Kc
   .apply a.Kb
   .exact tA rfl f
  |close d=>cases d with
   |none=>apply a.ahX
   |some u=>
    obtain⟨J,ln,first,K,I⟩:=u;cases J<;>first|exact tA f id|skip
    .apply a.Wn
    .apply a.ZA
    .apply a.Wm
  |stats t=>exact tA f id
  |aS r=>
   obtain⟨ps,⟨X,Y,Z,fd⟩,ac,⟨Q,T,rep,U,V⟩⟩:=r;cases ps with
   |look=>obtain⟨b,c⟩:=f;dsimp only at b c;subst b c;apply a.Ya
   |ask=>obtain⟨b,x,c⟩:=f;dsimp only at b c;subst b c;apply a.aaX
   |mark=>obtain⟨b,x,c⟩:=f;dsimp only at b c;subst b c;apply a.X9
   |dB=>
    obtain⟨⟨b,x,c⟩,f⟩:=f;dsimp only at b c;subst b c;rcases XW f with h|h|h|h<;>dsimp only at h<;>subst h
    .apply a.FB
    .apply a.FC
    .apply a.He
    .apply a.FD
 |counts t=>exact tA f id
 |enters u=>
  obtain⟨J,ln,first,K,I⟩:=u;cases J<;>first|exact tA f id|skip
  .apply a.Sg
  .apply a.Sb
  .apply a.Ns
  .apply a.Sc
  .apply a.Sd
 |leaves u=>
  obtain⟨J,ln,first,K,I⟩:=u;cases J<;>first|exact tA f id|skip
  .apply a.RV
  .apply a.RX
 |parked pb=>apply a.RD
 |wakes h=>cases h with
  |none=>apply a.afZ
  |some g=>apply a.afY
 |ax t p an=>
  obtain⟨N,bT,bU,bS,⟨X,Y,Z,fd⟩,ti,P,bf,hd,⟨Q,T,rep,U,V⟩⟩:=t;cases p with
  |none=>cases N with
   |ep=>apply a.Rj
   |pin=>apply a.Ol
   |cl=>apply a.Rk
   |dL=>obtain⟨b,c⟩:=f;dsimp only at b c;subst b c;apply a.J3
   |go=>
    obtain⟨⟨b,x,c⟩,f⟩:=f;dsimp only at b c;subst b c;rcases XW f with h|h|h|h<;>dsimp only at h<;>subst h
    .apply a.Fp
    .apply a.Fq
    .apply a.GN
    .apply a.Fs
   |old=>obtain⟨b,c⟩:=f;dsimp only at b c;subst b c;apply a.Om
   |pins=>obtain⟨b,x,c⟩:=f;dsimp only at b c;subst b c;apply a.M9
   |clear=>obtain⟨b,x,c⟩:=f;dsimp only at b c;subst b c;apply a.J5
   |line=>apply a.Na
   |some=>obtain⟨b,c⟩:=f;dsimp only at b c;subst b c;apply a.MZ
   |keep=>obtain⟨b,x,c⟩:=f;dsimp only at b c;subst b c;apply a.Nb
   |pop=>apply a.Oj
   |grant=>apply a.J4
   |back=>apply a.Nc
   |dR=>apply a.GM
   |eO=>apply a.J2
   |again=>apply a.J6
   |done=>exact tA f id
  |some pb=>cases N with
   |ep=>apply a.Rh
   |pin=>apply a.Oh
   |cl=>apply a.Ri
   |dL=>obtain⟨b,c⟩:=f;dsimp only at b c;subst b c;apply a.JW
   |go=>
    obtain⟨⟨b,x,c⟩,f⟩:=f;dsimp only at b c;subst b c;rcases XW f with h|h|h|h<;>dsimp only at h<;>subst h
    .apply a.Fg
    .apply a.Fh
    .apply a.GL
    .apply a.Fj
   |old=>obtain⟨b,c⟩:=f;dsimp only at b c;subst b c;apply a.Oi
   |pins=>obtain⟨b,x,c⟩:=f;dsimp only at b c;subst b c;apply a.MU
   |clear=>obtain⟨b,x,c⟩:=f;dsimp only at b c;subst b c;apply a.JY
   |line=>apply a.MV
   |some=>obtain⟨b,c⟩:=f;dsimp only at b c;subst b c;apply a.MS
   |keep=>obtain⟨b,x,c⟩:=f;dsimp only at b c;subst b c;apply a.MW
   |pop=>apply a.Og
   |grant=>apply a.JX
   |back=>apply a.MX
   |dR=>apply a.GJ
   |eO=>apply a.JV
   |again=>apply a.JZ
   |done=>exact tA f id
def afT{W w:Nat}(k:wT W w)(q:Xq)(t:Ti)(a:q.c.W=W)(b:q.who=w)(d:t.dn=false)(e:Ask)(c:Int)(f:Bool):(o5 1 w e c f (heapT q true t)).get=(Dz q t).get:=by
 have i:heapT q true t=heapT {q with x:=⟨.rest,q.x.ask,q.x.grant⟩} true t:=rfl;have o:Dz q t=Dz {q with x:=⟨.rest,q.x.ask,q.x.grant⟩} t:=rfl;rw[i,o];obtain⟨⟨p,S,B,wt,u⟩,m,s,C,h,⟨D,v,E⟩,n,R,r,F,y⟩:=q;obtain rfl:p=W:=a;obtain rfl:h=w:=b;obtain⟨z,G,l,H,A,I⟩:=t;obtain rfl:A=false:=d;cases z<;>cases l
 .apply k.OA
 .apply k.Oz
 .apply k.Oy
 .apply k.Ox
def adV{W w:Nat}(b:wT W w)(q:Xq)(t:Ti)(H:q.c.W=W)(I:q.who=w)(J:t.dn=false)(E:q.c.S<=5)(p:t.rd.length<q.c.S)(a:t.rl=t.rd.length)(A:t.ll=(t.last.getD []).length)(B:t.last=none\/t.ll=q.c.S)(K:Ask)(L:Int)(N:Bool):(o5 1 w K L N (heapT q false t)).get=(K9 q t).get:=by
 have O:heapT q false t=heapT {q with x:=⟨.rest,q.x.ask,q.x.grant⟩} false t:=rfl;have P:K9 q t=K9 {q with x:=⟨.rest,q.x.ask,q.x.grant⟩} t:=rfl;rw[O,P];obtain⟨⟨Q,S,st,wt,u⟩,m,T,wo,C,⟨ph,U,gr⟩,n,R,F,aj,V⟩:=q;obtain rfl:Q=W:=H;obtain rfl:C=w:=I;obtain⟨s,X,e,D,Y,n2⟩:=t;obtain rfl:Y=false:=J;obtain rfl:X=s.length:=a;have E:S<=5:=E;have p:s.length<S:=p;have k:(e=none)\/∃l,e=some l/\l.length=S/\D=S:=by
  cases e with
  |none=>exact .inl rfl
  |some l=>
   have h2:D=l.length:=A;have Z:D=S:=by
    rcases B with h|h
    .cases h
    .exact h
   exact .inr ⟨l,rfl,by omega,Z⟩
 have hs:S=1\/S=2\/S=3\/S=4\/S=5:=by omega
 rcases hs with rfl|rfl|rfl|rfl|rfl
 .match s,p with
  |[],_=>
   rcases k with rfl|⟨l,rfl,a,rfl⟩
   .apply b.Jt
   .match l,a with
    |[y],_=>apply b.Js
  |c::r,h=>simp at h<;>omega
 .match s,p with
  |[],_=>
   rcases k with rfl|⟨l,rfl,a,rfl⟩
   .apply b.Jr
   .match l,a with
    |[y,d],_=>apply b.Jq
  |[c],_=>
   rcases k with rfl|⟨l,rfl,a,rfl⟩
   .apply b.Jp
   .match l,a with
    |[y,d],_=>apply b.Jo
  |c::i::r,h=>simp at h<;>omega
 .match s,p with
  |[],_=>
   rcases k with rfl|⟨l,rfl,a,rfl⟩
   .apply b.Jn
   .match l,a with
    |[y,d,f],_=>apply b.Jm
  |[c],_=>
   rcases k with rfl|⟨l,rfl,a,rfl⟩
   .apply b.Jl
   .match l,a with
    |[y,d,f],_=>apply b.Jk
  |[c,i],_=>
   rcases k with rfl|⟨l,rfl,a,rfl⟩
   .apply b.Jj
   .match l,a with
    |[y,d,f],_=>apply b.Ji
  |c::i::v::r,h=>simp at h<;>omega
 .match s,p with
  |[],_=>
   rcases k with rfl|⟨l,rfl,a,rfl⟩
   .apply b.Jh
   .match l,a with
    |[y,d,f,o],_=>apply b.Jg
  |[c],_=>
   rcases k with rfl|⟨l,rfl,a,rfl⟩
   .apply b.Jf
   .match l,a with
    |[y,d,f,o],_=>apply b.Je
  |[c,i],_=>
   rcases k with rfl|⟨l,rfl,a,rfl⟩
   .apply b.Jd
   .match l,a with
    |[y,d,f,o],_=>apply b.Jc
  |[c,i,v],_=>
   rcases k with rfl|⟨l,rfl,a,rfl⟩
   .apply b.Jb
   .match l,a with
    |[y,d,f,o],_=>apply b.Ja
  |c::i::v::G::r,h=>simp at h<;>omega
 .match s,p with
  |[],_=>
   rcases k with rfl|⟨l,rfl,a,rfl⟩
   .apply b.I9
   .match l,a with
    |[y,d,f,o,z],_=>apply b.I8
  |[c],_=>
   rcases k with rfl|⟨l,rfl,a,rfl⟩
   .apply b.I7
   .match l,a with
    |[y,d,f,o,z],_=>apply b.I6
  |[c,i],_=>
   rcases k with rfl|⟨l,rfl,a,rfl⟩
   .apply b.I5
   .match l,a with
    |[y,d,f,o,z],_=>apply b.I4
  |[c,i,v],_=>
   rcases k with rfl|⟨l,rfl,a,rfl⟩
   .apply b.I1
   .match l,a with
    |[y,d,f,o,z],_=>apply b.IZ
  |[c,i,v,G],_=>
   rcases k with rfl|⟨l,rfl,a,rfl⟩
   .apply b.IY
   .match l,a with
    |[y,d,f,o,z],_=>apply b.IX
  |c::i::v::G::x4::r,h=>simp at h<;>omega
def wT.walks{W w:Nat}(k:wT W w):Yq.fZ W w:=⟨λq h a s e n b=>walk k q h a s e n b,λq t h a d e n b=>afT k q t h a d e n b,λq t h a d S r f l c e n b=>adV k q t h a d S r f l c e n b⟩
