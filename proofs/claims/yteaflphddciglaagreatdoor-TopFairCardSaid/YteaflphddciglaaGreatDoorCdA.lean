import Derived.Test.YteaflphddciglaaGreatDoorCcD
import Derived.Deep.CutBlock
import Derived.Test.YteaflphddciglaaGreatDoorCbC
set_option linter.all false
def fN:=@Go.World.cell?_alloc_old
def ga:=@Go.IntWalk.wrap64_in
def oA:=@and_true
def tW:=@Go.Lib.run_eql_slice_nil
def vh:=@Array.size_push
namespace Go.Proofs.YteaflphddciglaaGreatDoor
namespace bq
noncomputable section
open Go.RowKit Go.bn Go.Sx Yq
def U0(c:Cf):(iR sN 40 40 [c.val] []).run (Option Value) none (λr=>some r.1)=
  bif decide (1<=c.w)then bif decide (c.w<=8)then bif decide (1<=c.s)then bif decide (c.s<=16)then bif decide (0<=c.st)then bif decide (c.st<=8)then bif decide (0<=c.wt)then bif decide (c.wt<=8)then bif decide (1<=c.u)then
   some (.bool (decide (c.u<=60)))else some (.bool false)else some (.bool false)else some (.bool false)else some (.bool false)else some (.bool false)else some (.bool false)else some (.bool false)else some (.bool false)else some (.bool false):=by kernel_rfl
def QG(c:Cn):(iM c).val=.agg (dI c).toArray:=rfl
def YX{G:Kj}(w:World):HR (· <w.heap.size) w G (λ_=>none) [] w:=
 ⟨λk a=>a,Kept.refl _ _,iB.no λk p h=>(by cases h),λk p h=>(by cases h),λk p h=>(by cases h),λk b p c h=>(by cases h),λk p h=>(by cases h)⟩
def jR{c:Cn}(h:fI (iM c))(w:World)(T:cB w):Calls Tryz.prog 40 #[.agg (dI c).toArray] w λe d=>e=.returned (.bool true)/\Below w.heap.size w d:=by
 have t:=U0 (iM c);rw[cN h.w.1,cN h.w.2,cN h.s.1,cN h.s.2,cN h.st.1,cN h.st.2,cN h.wt.1,cN h.wt.2,cN h.u.1,cN h.u.2]at t;have B:eB (· <w.heap.size) w:=λk l=>l;have E:=oz (· <w.heap.size) w T.lt B T;rw[M.run_eq]at t;cases a:(iR sN 40 40 [(iM c).val] []).get with
 |none=>rw[a]at t;cases t
 |some r=>
  rw[a]at t;have t:some r.1=some (.bool true):=t;have t:=b9 t;have m:=(A8 E rfl a).2;refine(m (λ_=>none) w #[.agg (dI c).toArray] (YX w) ⟨rfl,λi x y a f=> ?_⟩).mono λe d n=> ?_
  .match i with
   |0=>simp at a f;subst a f;exact VR.plain _ (by simp[Go.Sx.plain,Go.Sx.aN,QG])
   |i+1=>simp at a
  .obtain⟨v,rfl,o,_,S,b⟩:=n
   rw[t]at S;rw[S.aD rfl];exact⟨rfl,b.below.below⟩
def Uw(c:Cn):aC c Mm.zero=List.replicate (3+2*c.W+c.S) 0:=by
 rw[List.eq_replicate_iff];refine⟨nE c Mm.zero,λx a=> ?_⟩;unfold aC at a;simp only[db,eS,kx]at a;rcases a with h|h|h|h|h|h
 .exact h
 .exact h
 .exact h
 .obtain⟨_,_,rfl⟩:=h;rfl
 .obtain⟨_,_,rfl⟩:=h;rfl
 .obtain⟨_,_,rfl⟩:=h
  show bH aa.zero=0;decide
def VX{c:Cn}(h:fI (iM c)):lJ c Mm.zero:=⟨h,λi d=>IP,⟨by decide,λa b=>by cases b⟩⟩
def ajd{c:Cn}{m:Mm}{F:Nat->Prop}{b t:Nat}{r:Int}{w:World}(C:lJ c m)(s:∀j,F j->j<w.heap.size)(y:F b)(z:F t)(n:b≠t)(D:w.cell? ⟨b,0,none⟩=some (.slice (some ⟨t,0,none⟩) (nC c) (nC c)))(E:w.cell? ⟨b,1,none⟩=some (.int .i64 r))
  (A:∀(i:Nat) (x:Int),(aC c m)[i]?=some x->w.cell? ⟨t,i,none⟩=some (.int .i64 x)) (G:∀o,w.frozen? ⟨b,o,none⟩=false) (H:∀o,w.frozen? ⟨t,o,none⟩=false):rC (.mem c m) F b w:=by
 refine⟨C,nC c,r,rfl,s,λk=>match k with|0=>some ⟨b,0,0,0⟩|1=>some ⟨t,0,1,nC c⟩|_=>none,?_,⟨_,rfl,rfl,rfl⟩,λk p a _=> ?_⟩
 .have a:∀(k:Nat) (p:Pl),(match k with|0=>some (⟨b,0,0,0⟩:Pl)|1=>some ⟨t,0,1,nC c⟩|_=>none)=some p->(k=0/\p=⟨b,0,0,0⟩)\/(k=1/\p=⟨t,0,1,nC c⟩):=λk p a=>by
   match k,a with
   |0,a=>exact .inl ⟨rfl,(b9 a).symm⟩
   |1,a=>exact .inr ⟨rfl,(b9 a).symm⟩
  have I:∀(k:Nat) (p:Pl),(match k with|0=>some (⟨b,0,0,0⟩:Pl)|1=>some ⟨t,0,1,nC c⟩|_=>none)=some p->F p.b:=λk p h=>by
   rcases a k p h with⟨_,rfl⟩|⟨_,rfl⟩
   .exact y
   .exact z
  refine⟨sD F w,Kept.refl _ _,iB.no λk p d=> ?_,λk p d=> ?_,λk p d=>s _ (I k p d),λk J p K d l _ _ B=> ?_,λk p d=> ?_⟩
  .rcases a k p d with⟨rfl,_⟩|⟨rfl,_⟩<;>exact .inr rfl
  .rcases a k p d with⟨rfl,_⟩|⟨rfl,_⟩<;>(show _<2;omega)
  .rcases a k p d with⟨rfl,rfl⟩|⟨rfl,rfl⟩<;>rcases a J K l with⟨rfl,rfl⟩|⟨rfl,rfl⟩<;>first|rfl|exact tA B n|exact tA B.symm n
  .have u:¬j5 F w p.b:=fun q=>q.2 (I k p d)
   rcases a k p d with⟨rfl,rfl⟩|⟨rfl,rfl⟩
   .refine⟨fun _=>⟨u,G,fun j e=>tA e (by simp)⟩,fun i v f=> ?_⟩
    match i,f with
    |0,f=>cases f;exact⟨_,D,VR.slice (off:=0) (p:=⟨t,0,1,nC c⟩) rfl⟩
    |1,f=>cases f;exact⟨_,E,.int _ _⟩
   .refine⟨fun _=>⟨u,H,fun j e=> ?_⟩,rfl,fun i x q=>by rw[cg];exact A i x q⟩
    have e:j<nC c:=by simpa using e
    rw[cg,A j _ (tD (by rw[nE];exact e))];rfl
 .match k,a with
  |0,a=>cases a;exact y
  |1,a=>cases a;exact z
def Mc{n:Nat}(b:n<=1048576)(w:World):(Instr.makeSlice 35 (.int .i64 (n:Int)) (.int .i64 (n:Int))).run Tryz.prog w=.ok (.slice (some ⟨w.heap.size,0,none⟩) n n) (w.alloc (.cells (Array.replicate n (.int .i64 0)) 3)):=by
 have h:(Tryz.prog.info? 3).map (λi=>(i.size,i.bytes))=some (1,8):=by kernel_rfl
 cases a:Tryz.prog.info? 3 with
 |none=>rw[a]at h;cases h
 |some i=>
  rw[a]at h;simp only[eR,cq,kB]at h;have:=kU (P:=Tryz.prog) (t:=35) (e:=3) (z:=.int .i64 0) (l:=(n:Int)) (by kernel_rfl) a (λw=>(lU (by kernel_rfl) w).1) rfl h.1 (by omega) (by omega) (by omega) w;rwa[cH]at this
def Wt{c:Cn}(h:fI (iM c))(w:World):Calls Tryz.prog 58 #[.agg (dI c).toArray] w λe d=>e=.returned (.int .i64 (nC c:Int))/\Below w.heap.size w d:=by
 have a:=h.w;have b:=h.s;unfold iM at a b;simp only at a b;have e:3+2*(c.W:Int)+(c.S:Int)=(nC c:Int):=by unfold nC;omega
 have E:=Lib.hid e;clear e;go_enter Tryz.func58,Tryz.ntmps58
 go_wp2;go_ret;refine⟨?_,(Below.refl _ _).alloc (aq _) _⟩;rw[<-E.out];rfl
set_option maxRecDepth 20000 in
def QH{n:Nat}(l:1<=n)(p:n<=4096)(w:World):Calls Tryz.prog 57 #[.int .i64 (n:Int)] w λe c=>∃b t,e=.returned (.tuple #[.pointer (some ⟨b,0,none⟩),.int .i64 0])/\Below w.heap.size w c/\w.heap.size<=b/\w.heap.size<=t/\b<c.heap.size/\t<c.heap.size/\b≠t/\
  c.cell? ⟨b,0,none⟩=some (.slice (some ⟨t,0,none⟩) n n)/\c.cell? ⟨b,1,none⟩=some (.int .i64 0)/\(∀i,i<n->c.cell? ⟨t,i,none⟩=some (.int .i64 0))/\(∀o,c.frozen? ⟨b,o,none⟩=false)/\∀o,c.frozen? ⟨t,o,none⟩=false:=by
 have m:=λW=>Mc (n:=n) (by omega) W
 have f:∀c:World,c=(w.alloc (.cells (Array.replicate n (.int .i64 0)) 3)).alloc (.cells #[.slice (some ⟨w.heap.size,0,none⟩) n n,.int .i64 0] 107)->Below w.heap.size w c/\w.heap.size<=w.heap.size+1/\w.heap.size<=w.heap.size/\w.heap.size+1<c.heap.size/\w.heap.size<c.heap.size/\w.heap.size+1≠w.heap.size/\
   c.cell? ⟨w.heap.size+1,0,none⟩=some (.slice (some ⟨w.heap.size,0,none⟩) n n)/\c.cell? ⟨w.heap.size+1,1,none⟩=some (.int .i64 0)/\(∀i,i<n->c.cell? ⟨w.heap.size,i,none⟩=some (.int .i64 0))/\(∀o,c.frozen? ⟨w.heap.size+1,o,none⟩=false)/\∀o,c.frozen? ⟨w.heap.size,o,none⟩=false:=by
  rintro _ rfl;have h:w.heap.size+1=(w.alloc (.cells (Array.replicate n (.int .i64 0)) 3)).heap.size:=by simp
  have d:=b7 (w.alloc (.cells (Array.replicate n (.int .i64 0)) 3)) (.cells #[.slice (some ⟨w.heap.size,0,none⟩) n n,.int .i64 0] 107) w.heap.size (by simp);refine⟨((Below.refl _ w).alloc (aq _) _).alloc (by simp) _,by omega,aq _,by simp,by simp;omega,by omega,?_,?_,λi k=> ?_,λo=> ?_,λo=> ?_⟩
  .rw[h,dk];rfl
  .rw[h,dk];rfl
  .rw[cM (a:=⟨w.heap.size,i,none⟩) d,dk]
   simp[k]
  .rw[h];exact fX _ _ _ _
  .rw[nh (a:=⟨w.heap.size,o,none⟩) d];exact fX _ _ _ _
 go_enter Tryz.func57,Tryz.ntmps57
 go_wp2
 all_goals go_ret2
 all_goals exact⟨_,_,rfl,f _ rfl⟩
def ae2{c:Cn}(h:fI (iM c))(w:World)(T:cB w):Calls Tryz.prog 41 #[.agg (dI c).toArray] w λe s=>∃u v,e=.returned (.tuple #[.pointer (some ⟨u,0,none⟩),.int .i64 0])/\Below w.heap.size w s/\rC (.mem c Mm.zero) v u s/\∀j,v j->w.heap.size<=j:=by
 have y:1<=nC c/\nC c<=4096:=by
  have z:=h.w;have A:=h.s;unfold iM at z A;simp only at z A;unfold nC;omega
 have C:=λW T=>jR h W T;have N:=λW=>Wt h W;have D:=λW=>QH y.1 y.2 W;have l:∀o,cB (w.alloc o):=λo=>T.mR (n:=(· <w.heap.size)) T.lt (Kept.of_below ((Below.refl _ w).alloc (aq _) o));have E:=Uw c;have m:=VX h;go_enter Tryz.func41,Tryz.ntmps41
 go_wp2_with first
  |(go_at_call 40;refine(C _ (l _)).mono ?_;rintro e F ⟨rfl,a⟩;have Q:=a.size;have R:∀i,i<5->F.cell? ⟨w.heap.size,i,none⟩=(w.alloc (.cells (dI c).toArray 30)).cell? ⟨w.heap.size,i,none⟩:=λi _=>a.cell (p:=⟨w.heap.size,i,none⟩) (by simp))
  |(go_at_call 58;refine(N _).mono ?_;rintro e S ⟨rfl,d⟩)
  |(go_at_call 57;refine(D _).mono ?_;rintro e U ⟨b,t,rfl,f,V,X,Y,Z,G,H,I,J,K,O⟩)
 go_ret2
 have B:Below w.heap.size w (w.alloc (.cells (dI c).toArray 30)):=(Below.refl _ w).alloc (aq _) _;have L:=B.size;have s1:=a.size;have s2:=d.size;have s3:=f.size;have P:=((B.trans (a.mono L)).trans (d.mono (by omega))).trans (f.mono (by omega));refine⟨b,λj=>j=b\/j=t,rfl,P,?_,λj q=>by rcases q with rfl|rfl<;>omega⟩;refine ajd m (λj q=>by rcases q with rfl|rfl<;>omega) (.inl rfl) (.inr rfl) G H I (λi x k=> ?_) K O;rw[E,mY]at k;by_cases r:i<3+2*c.W+c.S
 .rw[tz r]at k;cases k
  exact J i r
 .rw[ck r]at k;cases k
def i0:Value:=.int .i64 0
def f0:Value:=.bool false
def wz:List Value:=[i0,i0,i0,f0,f0,i0,i0,i0,f0,i0,i0,.nilFunc,.pointer none,.pointer none,.pointer none,f0,f0,f0,i0,i0,i0,i0,f0,f0,i0,i0,i0,i0,i0,i0,i0,i0,i0,i0,i0]
def BC(n:Nat):Array Value:=((List.replicate n wz).flatten).toArray
def ae8(w:World):(Instr.makeSlice 81 (.int .i64 1) (.int .i64 1)).run Tryz.prog w=.ok (.slice (some ⟨w.heap.size,0,none⟩) 1 1) (w.alloc (.cells (BC 1) 94)):=by kernel_rfl
def ae7(w:World):(Instr.makeSlice 81 (.int .i64 2) (.int .i64 2)).run Tryz.prog w=.ok (.slice (some ⟨w.heap.size,0,none⟩) 2 2) (w.alloc (.cells (BC 2) 94)):=by kernel_rfl
def ae6(w:World):(Instr.makeSlice 81 (.int .i64 3) (.int .i64 3)).run Tryz.prog w=.ok (.slice (some ⟨w.heap.size,0,none⟩) 3 3) (w.alloc (.cells (BC 3) 94)):=by kernel_rfl
def ae5(w:World):(Instr.makeSlice 81 (.int .i64 4) (.int .i64 4)).run Tryz.prog w=.ok (.slice (some ⟨w.heap.size,0,none⟩) 4 4) (w.alloc (.cells (BC 4) 94)):=by kernel_rfl
def agW{n:Nat}(h:1<=n)(a:n<=4)(w:World):(Instr.makeSlice 81 (.int .i64 (n:Int)) (.int .i64 (n:Int))).run Tryz.prog w=.ok (.slice (some ⟨w.heap.size,0,none⟩) n n) (w.alloc (.cells (BC n) 94)):=by
 rcases(by omega:n=1\/n=2\/n=3\/n=4)with rfl|rfl|rfl|rfl
 .exact ae8 w
 .exact ae7 w
 .exact ae6 w
 .exact ae5 w
theorem flat_get{α:Type}(l:List α):∀(n v i:Nat),v<n->i<l.length->((List.replicate n l).flatten)[v*l.length+i]?=l[i]?
 |0,v,i,h,_=>by omega
 |n+1,0,i,_,a=>by
  rw[List.replicate_succ,List.flatten_cons,Nat.zero_mul,cg,cD a]
 |n+1,v+1,i,h,a=>by
  rw[List.replicate_succ,List.flatten_cons,cx (by rw[kj];omega)];have e:(v+1)*l.length+i-l.length=v*l.length+i:=by rw[kj];omega
  rw[e];exact flat_get l n v i (by omega) a
def adQ{n v i:Nat}(h:v<n)(a:i<35):(BC n)[v*35+i]?=wz[i]?:=by
 unfold BC;rw[iT];exact flat_get wz n v i h a
structure Be(c:Cn)(w2 w':World)(b1 bc bw r bo b:Nat):Prop where
 qZ:Below w2.heap.size w2 w'
 ge:w2.heap.size<=bc/\w2.heap.size<=bw/\w2.heap.size<=r/\w2.heap.size<=bo/\w2.heap.size<=b
 nd:bc≠bw/\bc≠r/\bc≠bo/\bc≠b/\bw≠r/\bw≠bo/\bw≠b/\r≠bo/\r≠b/\bo≠b
 hc:w'.heap[bc]?=some (.cells #[.int .i64 0] 114 (0,0))
 hw:w'.heap[bw]?=some (.cells (BC c.W) 94 (0,0))
 hr:w'.heap[r]?=some (.cells #[.slice none 0 0,.int .i64 1000] 128 (0,0))
 ho:w'.heap[bo]?=some (.cells #[.pointer (some ⟨r,0,none⟩),.int .i64 0,.int .i64 0] 117 (0,0))
 hb:∃t,w'.heap[b]?=some (.cells #[.int .i64 (c.W:Int),.int .i64 (c.S:Int),.int .i64 c.st,.int .i64 (c.wt:Int),.int .i64 c.u,.pointer (some ⟨b1,0,none⟩),.pointer (some ⟨bc,0,none⟩),.pointer (some ⟨bo,0,none⟩),.slice none 0 0,.slice (some ⟨bw,0,none⟩) c.W c.W,.int .i64 0,.int .i64 0] t (0,0))
def cell_of{w:World}{b:Nat}{c:Array Value}{t:TypeId}(h:w.heap[b]?=some (.cells c t (0,0)))(i:Nat):w.cell? ⟨b,i,none⟩=c[i]?:=by simp[World.cell?,h]
def aW{w:World}{b:Nat}{c:Array Value}{t:TypeId}(h:w.heap[b]?=some (.cells c t (0,0)))(i:Nat):w.frozen? ⟨b,i,none⟩=false:=by simp[World.frozen?,h]
def gQ{w:World}{b:Nat}{o:Obj}(h:w.heap[b]?=some o):b<w.heap.size:=(bk.1 h).1
def five{w:World}{b:Nat}{t:TypeId}{x a c d e:Value}(h:w.heap[b]?=some (.cells #[x,a,c,d,e] t (0,0))):w.cell? ⟨b,0,none⟩=some x/\w.cell? ⟨b,1,none⟩=some a/\w.cell? ⟨b,2,none⟩=some c/\w.cell? ⟨b,3,none⟩=some d/\w.cell? ⟨b,4,none⟩=some e:=⟨cell_of h 0,cell_of h 1,cell_of h 2,cell_of h 3,cell_of h 4⟩
def seven{w:World}{b:Nat}{t:TypeId}{x a c d e f i:Value}(h:w.heap[b]?=some (.cells #[x,a,c,d,e,f,i] t (0,0))):w.cell? ⟨b,0,none⟩=some x/\w.cell? ⟨b,1,none⟩=some a/\w.cell? ⟨b,2,none⟩=some c/\w.cell? ⟨b,3,none⟩=some d/\w.cell? ⟨b,4,none⟩=some e/\w.cell? ⟨b,5,none⟩=some f/\w.cell? ⟨b,6,none⟩=some i:=⟨cell_of h 0,cell_of h 1,cell_of h 2,cell_of h 3,cell_of h 4,cell_of h 5,cell_of h 6⟩
def arD{w:World}{b:Nat}{c:Array Value}{t:TypeId}(h:w.heap[b]?=some (.cells c t (0,0))):w.frozen? ⟨b,0,none⟩=false/\w.frozen? ⟨b,1,none⟩=false/\w.frozen? ⟨b,2,none⟩=false/\w.frozen? ⟨b,3,none⟩=false/\w.frozen? ⟨b,4,none⟩=false/\w.frozen? ⟨b,5,none⟩=false/\w.frozen? ⟨b,6,none⟩=false:=⟨aW h 0,aW h 1,aW h 2,aW h 3,aW h 4,aW h 5,aW h 6⟩
def Be.oL{c:Cn}{H q:World}{A y I r o b:Nat}{z:Nat->Prop}(N:Be c H q A y I r o b)(J:rC (.mem c Mm.zero) z A H)(s:∀j,z j->j<H.heap.size):jH c Ms.zero (λ_=>0) 0 (λj=>z j\/j=y\/j=I\/j=r\/j=o\/j=b) b q:=by
 obtain⟨g1,g2,g3,g4,g5⟩:=N.ge;obtain⟨n1,n2,n3,Z,n5,n6,n7,n8,n9,R⟩:=N.nd;obtain⟨tb,K⟩:=N.hb;have C:=TJ J;have l1:=s A C;have hs:=N.qZ.size;have J':rC (.mem c Mm.zero) z A q:=Iq _ _ _ _ _ J hs λj n=>N.qZ.block j (s j n)
 have Jw:rC (.kL []) (fun j=>j=o\/j=r) o q:=(wU.mk (l:=[]) (F:=fun j=>j=o\/j=r) (b:=o) (w:=q) (r:=r) (o1:=0) (sl:=.slice none 0 0) (t:=0) (o2:=0) (cap:=0) (good:=0) (bad:=0)
  (λj n=>by rcases n with rfl|rfl;exact gQ N.ho;exact gQ N.hr) (.inl rfl) (.inr rfl) (λe=>n8 e.symm) (by rw[cell_of N.ho];rfl) (by rw[cell_of N.ho];rfl) (by rw[cell_of N.ho];rfl) (by rw[cell_of N.hr];rfl) (by rw[cell_of N.hr];rfl)
  (aW N.ho) (aW N.hr) (λ_=>rfl) (λh=>tA rfl h)).j
 have hF:∀j,(z j\/j=y\/j=I\/j=r\/j=o\/j=b)->j<q.heap.size:=λj n=>by
  rcases n with h|rfl|rfl|rfl|rfl|rfl
  .exact ba (s j h) hs
  .exact gQ N.hc
  .exact gQ N.hw
  .exact gQ N.hr
  .exact gQ N.ho
  .exact gQ K
 have Y:∀j,H.heap.size<=j->¬z j:=λj n h=>by have:=s j h;omega
 obtain⟨ς,L,s1,S,s3,T⟩:∃ς:Nat->Option Pl,ς 0=some ⟨b,0,0,0⟩/\ς 1=some ⟨A,0,0,0⟩/\ς 2=some ⟨y,0,0,0⟩/\ς 3=some ⟨o,0,0,0⟩/\∀k,4<=k->ς k=none:=
  ⟨λk=>match k with|0=>some ⟨b,0,0,0⟩|1=>some ⟨A,0,0,0⟩|2=>some ⟨y,0,0,0⟩|3=>some ⟨o,0,0,0⟩|_=>none,rfl,rfl,rfl,rfl,λk d=>by
   obtain⟨k,rfl⟩:∃i,k=i+4:=⟨k-4,by omega⟩;rfl⟩
 have own:∀k p,Own3 k->ς k=some p->(k=0/\p=⟨b,0,0,0⟩)\/(k=2/\p=⟨y,0,0,0⟩):=λk p D d=>by
  rcases D with rfl|rfl|rfl
  .rw[L]at d;exact .inl ⟨rfl,(b9 d).symm⟩
  .rw[S]at d;exact .inr ⟨rfl,(b9 d).symm⟩
  .rw[T 4 (aq _)]at d;cases d
 refine⟨0,z,λj=>j=o\/j=r,ς,I,λv k=>if k=0 then some ⟨b,0,0,0⟩else none,⟨hF,⟨_,L,rfl,rfl⟩,⟨_,s1,rfl,C,J'⟩,⟨_,S⟩,⟨_,s3,rfl,.inl rfl,Jw⟩,λ_=>T 4 (aq _),λk d=>T k (by omega),λk p D d=> ?_,λp d=> ?_,λk U p V D Hz d E G=> ?_,λj h=>.inl h,λj h=> ?_,λj h h'=> ?_,⟨.inr (.inr (.inl rfl)),Y _ g2,λh=>h.elim n6 n5⟩,aW N.hw⟩,λv O=>by rw[L];rfl,λv O=> ?_,λv k p O d m=> ?_,λv P k U p V O ac am d E m=> ?_⟩
 .rcases own k p D d with⟨rfl,rfl⟩|⟨rfl,rfl⟩
  .refine⟨.inr (.inr (.inr (.inr (.inr rfl)))),Y _ g5,fun h=>h.elim (fun e=>R e.symm) (fun e=>n9 e.symm),fun e=>n7 e.symm,fun _=>⟨fun h=>h.2 (.inr (.inr (.inr (.inr (.inr rfl))))),aW K,fun j n=>tA n (by simp)⟩,fun i u f=> ?_⟩
   have B:i<12:=(aE.1 f).1;show∃P,q.cell? ⟨b,0+i,none⟩=some P/\_;rw[cg,cell_of K];rcases(by omega:i=0\/i=1\/i=2\/i=3\/i=4\/i=5\/i=6\/i=7\/i=8\/i=9\/i=10\/i=11)with rfl|rfl|rfl|rfl|rfl|rfl|rfl|rfl|rfl|rfl|rfl|rfl
   .cases f;exact⟨_,rfl,.int _ _⟩
   .cases f;exact⟨_,rfl,.int _ _⟩
   .cases f;exact⟨_,rfl,.int _ _⟩
   .cases f;exact⟨_,rfl,.int _ _⟩
   .cases f;exact⟨_,rfl,.int _ _⟩
   .cases f;exact⟨_,rfl,VR.ptr (off:=0) s1⟩
   .cases f;exact⟨_,rfl,VR.ptr (off:=0) S⟩
   .cases f;exact⟨_,rfl,VR.ptr (off:=0) s3⟩
   .cases f;exact⟨_,rfl,.kM _ _⟩
   .cases f;exact⟨_,rfl,.any _⟩
   .cases f;exact⟨_,rfl,.int _ _⟩
   .cases f;exact⟨_,rfl,.int _ _⟩
  .refine⟨.inr (.inl rfl),Y _ g1,fun h=>h.elim n3 n2,n1,fun _=>⟨fun h=>h.2 (.inr (.inl rfl)),aW N.hc,fun j n=>tA n (by simp)⟩,fun i u f=> ?_⟩
   have B:i<1:=(aE.1 f).1;obtain rfl:i=0:=by omega
   cases f;show∃P,q.cell? ⟨y,0+0,none⟩=some P/\_;rw[cg,cell_of N.hc];exact⟨_,rfl,.int _ _⟩
 .rw[L]at d;cases d
  show q.cell? ⟨b,0+9,none⟩=_;rw[cg,cell_of K];rfl
 .rcases own k p D d with⟨rfl,rfl⟩|⟨rfl,rfl⟩<;>rcases own U V Hz E with⟨rfl,rfl⟩|⟨rfl,rfl⟩
  .rfl
  .exact tA G.symm Z
  .exact tA G Z
  .rfl
 .rcases h with rfl|rfl
  .exact .inr (.inr (.inr (.inr (.inl rfl))))
  .exact .inr (.inr (.inr (.inl rfl)))
 .rcases h' with rfl|rfl
  .exact Y _ g4 h
  .exact Y _ g3 h
 .refine⟨fun k h1 _=>ck (by omega),fun k p d=> ?_,fun i x a=> ?_,fun k p d m=> ?_,fun k U p V d _ m=> ?_⟩
  .by_cases h:k=0
   .rw[h];omega
   .simp only[ck h]at d;cases d
  .have B:i<35:=by
    have:=(aE.1 a).1;have:=(uM c v (Ms.zero.ws v)).2.2;omega
   rw[cell_of N.hw,adQ O B];revert a;show(kD 0 (Ms.zero.ws v) false undef undef undef undef undef undef undef (gW 18))[i]?=some x->_;intro a;have W:∀(i:Nat),i<35->∀x,(kD 0 (Ms.zero.ws v) false undef undef undef undef undef undef undef (gW 18))[i]?=some x->∃Q,wz[i]?=some Q/\(x=undef\/(aN x=true/\Q=x)):=by
    intro i B x a;match i,B with
    |0,_=>cases a;exact⟨_,rfl,.inr ⟨rfl,rfl⟩⟩
    |1,_=>cases a;exact⟨_,rfl,.inr ⟨rfl,rfl⟩⟩
    |2,_=>cases a;exact⟨_,rfl,.inr ⟨rfl,rfl⟩⟩
    |3,_=>cases a;exact⟨_,rfl,.inr ⟨rfl,rfl⟩⟩
    |4,_=>cases a;exact⟨_,rfl,.inr ⟨rfl,rfl⟩⟩
    |5,_=>cases a;exact⟨_,rfl,.inr ⟨rfl,rfl⟩⟩
    |6,_=>cases a;exact⟨_,rfl,.inr ⟨rfl,rfl⟩⟩
    |7,_=>cases a;exact⟨_,rfl,.inr ⟨rfl,rfl⟩⟩
    |8,_=>cases a;exact⟨_,rfl,.inr ⟨rfl,rfl⟩⟩
    |9,_=>cases a;exact⟨_,rfl,.inl rfl⟩
    |10,_=>cases a;exact⟨_,rfl,.inr ⟨rfl,rfl⟩⟩
    |11,_=>cases a;exact⟨_,rfl,.inl rfl⟩
    |12,_=>cases a;exact⟨_,rfl,.inl rfl⟩
    |13,_=>cases a;exact⟨_,rfl,.inl rfl⟩
    |14,_=>cases a;exact⟨_,rfl,.inl rfl⟩
    |15,_=>cases a;exact⟨_,rfl,.inl rfl⟩
    |16,_=>cases a;exact⟨_,rfl,.inl rfl⟩
    |17,_=>cases a;exact⟨_,rfl,.inl rfl⟩
    |18,_=>cases a;exact⟨_,rfl,.inl rfl⟩
    |19,_=>cases a;exact⟨_,rfl,.inl rfl⟩
    |20,_=>cases a;exact⟨_,rfl,.inl rfl⟩
    |21,_=>cases a;exact⟨_,rfl,.inl rfl⟩
    |22,_=>cases a;exact⟨_,rfl,.inl rfl⟩
    |23,_=>cases a;exact⟨_,rfl,.inl rfl⟩
    |24,_=>cases a;exact⟨_,rfl,.inl rfl⟩
    |25,_=>cases a;exact⟨_,rfl,.inl rfl⟩
    |26,_=>cases a;exact⟨_,rfl,.inl rfl⟩
    |27,_=>cases a;exact⟨_,rfl,.inl rfl⟩
    |28,_=>cases a;exact⟨_,rfl,.inl rfl⟩
    |29,_=>cases a;exact⟨_,rfl,.inl rfl⟩
    |30,_=>cases a;exact⟨_,rfl,.inl rfl⟩
    |31,_=>cases a;exact⟨_,rfl,.inl rfl⟩
    |32,_=>cases a;exact⟨_,rfl,.inl rfl⟩
    |33,_=>cases a;exact⟨_,rfl,.inl rfl⟩
    |34,_=>cases a;exact⟨_,rfl,.inl rfl⟩
   obtain⟨Q,h1,X⟩:=W i B x a;refine⟨Q,h1,?_⟩;rcases X with rfl|⟨X,rfl⟩
   .exact .any _
   .exact VR.aN _ X
  .simp only[ck (show¬k=0 by omega)]at m;cases m
  .simp only[ck (show¬k=0 by omega)]at m;cases m
 .simp only[ck (show¬k=0 by omega)]at m;cases m
 .simp only[ck (show¬k=0 by omega)]at m;cases m
def Be.drew{c:Cn}{w a:World}{d e f r o b:Nat}(N:Be c w a d e f r o b):Be c w a.drew d e f r o b:=⟨N.qZ.drew,N.ge,N.nd,N.hc,N.hw,N.hr,N.ho,N.hb⟩
def cO{w:World}{k:Nat}{x:Obj}(h:w.heap[k]?=some x)(o:Obj):(w.alloc o).heap[k]?=some x:=(b7 _ _ _ (gQ h)).trans h
def kr{w:World}{k:Nat}(o:Obj)(h:k=w.heap.size):(w.alloc o).heap[k]?=some o:=by rw[h];exact mC w o
def ajb(c:Cn)(w:World)(b:Nat):Be c w (((((w.alloc (.cells #[.int .i64 0] 114)).alloc (.cells #[.slice none 0 0,.int .i64 1000] 128)).alloc (.cells #[.pointer (some ⟨(w.heap.size+1),0,none⟩),.int .i64 0,.int .i64 0] 117)).alloc (.cells (BC c.W) 94)).alloc (.cells #[.int .i64 (c.W:Int),.int .i64 (c.S:Int),.int .i64 c.st,.int .i64 (c.wt:Int),.int .i64 c.u,.pointer (some ⟨b,0,none⟩),.pointer (some ⟨(w.heap.size),0,none⟩),.pointer (some ⟨(w.heap.size+1+1),0,none⟩),.slice none 0 0,.slice (some ⟨(w.heap.size+1+1+1),0,none⟩) c.W c.W,.int .i64 0,.int .i64 0] 83)) b (w.heap.size) (w.heap.size+1+1+1) (w.heap.size+1) (w.heap.size+1+1) (w.heap.size+1+1+1+1):=by
 refine⟨(((((Below.refl _ w).alloc (aq _) _).alloc (by simp) _).alloc (by simp;omega) _).alloc (by simp;omega) _).alloc (by simp;omega) _,by omega,by omega,cO (cO (cO (cO (kr _ (by simp)) _) _) _) _,cO (kr _ (by simp)) _,cO (cO (cO (kr _ (by simp)) _) _) _,cO (cO (kr _ (by simp)) _) _,_,kr _ (by simp)⟩
def aja(c:Cn)(w:World)(b:Nat):Be c w (((((w.alloc (.cells #[.int .i64 0] 114)).alloc (.cells (BC c.W) 94)).alloc (.cells #[.slice none 0 0,.int .i64 1000] 128)).alloc (.cells #[.pointer (some ⟨(w.heap.size+1+1),0,none⟩),.int .i64 0,.int .i64 0] 117)).alloc (.cells #[.int .i64 (c.W:Int),.int .i64 (c.S:Int),.int .i64 c.st,.int .i64 (c.wt:Int),.int .i64 c.u,.pointer (some ⟨b,0,none⟩),.pointer (some ⟨(w.heap.size),0,none⟩),.pointer (some ⟨(w.heap.size+1+1+1),0,none⟩),.slice none 0 0,.slice (some ⟨(w.heap.size+1),0,none⟩) c.W c.W,.int .i64 0,.int .i64 0] 83)) b (w.heap.size) (w.heap.size+1) (w.heap.size+1+1) (w.heap.size+1+1+1) (w.heap.size+1+1+1+1):=by
 refine⟨(((((Below.refl _ w).alloc (aq _) _).alloc (by simp) _).alloc (by simp;omega) _).alloc (by simp;omega) _).alloc (by simp;omega) _,by omega,by omega,cO (cO (cO (cO (kr _ (by simp)) _) _) _) _,cO (cO (cO (kr _ (by simp)) _) _) _,cO (cO (kr _ (by simp)) _) _,cO (kr _ (by simp)) _,_,kr _ (by simp)⟩
def ai'(c:Cn)(w:World)(b:Nat):Be c w (((((w.alloc (.cells (BC c.W) 94)).alloc (.cells #[.int .i64 0] 114)).alloc (.cells #[.slice none 0 0,.int .i64 1000] 128)).alloc (.cells #[.pointer (some ⟨(w.heap.size+1+1),0,none⟩),.int .i64 0,.int .i64 0] 117)).alloc (.cells #[.int .i64 (c.W:Int),.int .i64 (c.S:Int),.int .i64 c.st,.int .i64 (c.wt:Int),.int .i64 c.u,.pointer (some ⟨b,0,none⟩),.pointer (some ⟨(w.heap.size+1),0,none⟩),.pointer (some ⟨(w.heap.size+1+1+1),0,none⟩),.slice none 0 0,.slice (some ⟨(w.heap.size),0,none⟩) c.W c.W,.int .i64 0,.int .i64 0] 83)) b (w.heap.size+1) (w.heap.size) (w.heap.size+1+1) (w.heap.size+1+1+1) (w.heap.size+1+1+1+1):=by
 refine⟨(((((Below.refl _ w).alloc (aq _) _).alloc (by simp) _).alloc (by simp;omega) _).alloc (by simp;omega) _).alloc (by simp;omega) _,by omega,by omega,cO (cO (cO (kr _ (by simp)) _) _) _,cO (cO (cO (cO (kr _ (by simp)) _) _) _) _,cO (cO (kr _ (by simp)) _) _,cO (kr _ (by simp)) _,_,kr _ (by simp)⟩
def QF(w:World):Calls Tryz.prog 42 #[] w λe a=>e=.returned (.pointer (some ⟨w.heap.size,0,none⟩))/\a=w.alloc (.cells #[.int .i64 0] 114):=by
 go_enter Tryz.func42,Tryz.ntmps42
 go_wp2;go_ret;exact⟨rfl,rfl⟩
def Re(w:World):Calls Tryz.prog 43 #[] w λe a=>e=.returned (.pointer (some ⟨w.heap.size+1,0,none⟩))/\a=(w.alloc (.cells #[.slice none 0 0,.int .i64 1000] 128)).alloc (.cells #[.pointer (some ⟨w.heap.size,0,none⟩),.int .i64 0,.int .i64 0] 117):=by
 go_enter Tryz.func43,Tryz.ntmps43
 go_wp2;go_ret;exact⟨rfl,rfl⟩
set_option maxRecDepth 20000 in
def aeY{c:Cn}(h:fI (iM c))(V:c.W<=4)(w:World)(l:cB w):Calls Tryz.prog 26 #[.agg (dI c).toArray] w λe D=>∃F b,e=.returned (.tuple #[.pointer (some ⟨b,0,none⟩),.int .i64 0])/\Below w.heap.size w D/\jH c Ms.zero (λ_=>0) 0 F b D/\∀j,F j->w.heap.size<=j:=by
 have m:=h.w;unfold iM at m;simp only at m;have E:=λW l=>jR h W l;have G:=λW l=>ae2 h W l;have X:=λW=>agW (n:=c.W) (by omega) V W;have T:∀o,cB (w.alloc o):=λo=>l.mR (n:=(· <w.heap.size)) l.lt (Kept.of_below ((Below.refl _ w).alloc (aq _) o))
 go_enter Tryz.func26,Tryz.ntmps26
 go_wp2_with first
  |(go_at_call 40;refine(E _ (T _)).mono ?_;rintro e q ⟨rfl,a⟩;have x:=a.size;have y:∀i,i<5->q.cell? ⟨w.heap.size,i,none⟩=(w.alloc (.cells (dI c).toArray 30)).cell? ⟨w.heap.size,i,none⟩:=λi _=>a.cell (p:=⟨w.heap.size,i,none⟩) (by simp);have Q:cB q:=(T _).mR (n:=(· <(w.alloc (.cells (dI c).toArray 30)).heap.size)) (T _).lt (Kept.of_below a))
  |(go_at_call 41;refine(G _ Q).mono ?_;rintro e d ⟨s,Y,rfl,f,J,z⟩;have I:=f.size;have A:∀i,i<5->d.cell? ⟨w.heap.size,i,none⟩=q.cell? ⟨w.heap.size,i,none⟩:=λi _=>f.cell (p:=⟨w.heap.size,i,none⟩) (by have:=a.size;simp at this;show w.heap.size<q.heap.size;omega))
 have z1:w.heap.size<q.heap.size:=by simp at x;omega
 have u:∀W:World,Below d.heap.size d W->(W.cell? ⟨w.heap.size,0,none⟩=some (.int .i64 (c.W:Int))/\W.cell? ⟨w.heap.size,1,none⟩=some (.int .i64 (c.S:Int))/\W.cell? ⟨w.heap.size,2,none⟩=some (.int .i64 c.st)/\W.cell? ⟨w.heap.size,3,none⟩=some (.int .i64 (c.wt:Int))/\W.cell? ⟨w.heap.size,4,none⟩=some (.int .i64 c.u)/\Below d.heap.size d W):=λW K=>by
  have e:∀i,i<5->W.cell? ⟨w.heap.size,i,none⟩=(dI c)[i]?:=λi L=>by
   rw[K.cell (p:=⟨w.heap.size,i,none⟩) (by show w.heap.size<d.heap.size;omega),A i L,y i L,dk];simp
  exact⟨e 0 (by omega),e 1 (by omega),e 2 (by omega),e 3 (by omega),e 4 (by omega),K⟩
 have KA:=Lib.hid y;have KB:=Lib.hid A;have Z:=Lib.hid x;have K2:=Lib.hid I;have H:=Lib.hid a;have B:=Lib.hid f;clear y A x I a f E G T Q;have C:∀j,Y j->j<d.heap.size:=by obtain⟨_,_,_,hl⟩:=J;exact hl.2.1
 have k:∀(v:World) (O P r R b:Nat),Be c d v s O P r R b->∃F U,Ending.returned (.tuple #[.pointer (some ⟨b,0,none⟩),.int .i64 0])=.returned (.tuple #[.pointer (some ⟨U,0,none⟩),.int .i64 0])/\Below w.heap.size w v/\jH c Ms.zero (λ_=>0) 0 F U v/\∀j,F j->w.heap.size<=j:=λv O P r R b N=>by
  have s0:=Z.out;simp at s0;have s2:=K2.out;refine⟨_,b,rfl,?_,N.oL J C,λj hj=> ?_⟩
  .exact((((Below.refl _ w).alloc (aq _) _).trans (H.out.mono (by simp))).trans (B.out.mono (by omega))).trans (N.qZ.mono (by omega))
  .obtain⟨g1,g2,g3,g4,g5⟩:=N.ge
   rcases hj with h|rfl|rfl|rfl|rfl|rfl
   .have:=z j h;omega
   .omega
   .omega
   .omega
   .omega
   .omega
 go_region_held3 (fun W=>W.cell? ⟨w.heap.size,0,none⟩=some (.int .i64 (c.W:Int))/\W.cell? ⟨w.heap.size,1,none⟩=some (.int .i64 (c.S:Int))/\W.cell? ⟨w.heap.size,2,none⟩=some (.int .i64 c.st)/\W.cell? ⟨w.heap.size,3,none⟩=some (.int .i64 (c.wt:Int))/\W.cell? ⟨w.heap.size,4,none⟩=some (.int .i64 c.u)/\Below d.heap.size d W)
  (first|exact u _ (Below.refl _ _).drew|exact u _ (Below.refl _ _)|(have S:=(‹World.cell? _ _=_/\_/\_/\_/\_/\Below _ _ _›).2.2.2.2.2;first|exact u _ (S.alloc S.size _)|exact u _ ((S.alloc S.size _).alloc (by have:=S.size;simp;omega) _)))
  (first|(go_at_call 42;refine(QF _).mono ?_;rintro e w3 ⟨rfl,rfl⟩)|(go_at_call 43;refine(Re _).mono ?_;rintro e w4 ⟨rfl,rfl⟩))
 all_goals go_wp2
 all_goals go_ret2
 .exact k _ _ _ _ _ _ (ajb c d s).drew
 .exact k _ _ _ _ _ _ (aja c d s).drew
 .exact k _ _ _ _ _ _ (ai' c d s).drew
end
noncomputable section
open Go.RowKit Go.bn Go.Sx Yq
variable{c:Cn} {s:Ms} {A:Nat->Int} {e:Int} {F:Nat->Prop} {b:Nat} {w:World}
def jH.cells(h:jH c s A e F b w):∃S f,w.cell? ⟨b,5,none⟩=some (.pointer (some ⟨S,0,none⟩))/\(∃K,rC (.mem c s.m) K S w)/\w.cell? ⟨b,9,none⟩=some (.slice (some ⟨f,0,none⟩) c.W c.W)/\(∀v,v<c.W->w.cell? ⟨f,v*35,none⟩=some (.int .i64 (rJ (s.ws v).ph)))/\f<w.heap.size/\b<w.heap.size/\
  ((s.ev=[]/\w.cell? ⟨b,8,none⟩=some (.slice none 0 0))\/∃L o l,s.ev≠[]/\w.cell? ⟨b,8,none⟩=some (.slice (some ⟨L,o,none⟩) s.ev.length l)/\s.ev.length<=l/\L<w.heap.size/\∀i j,i<s.ev.length->j<18->∃u,w.cell? ⟨L,o+(i*18+j),none⟩=some u/\u=((aG A s.ev).at i j).val):=by
 obtain⟨m,K,fw,ς,f,τ,J⟩:=h;obtain⟨p0,T,N,p⟩:=J.sh.p0;obtain⟨W,X,O,Y,Z⟩:=J.sh.p1;obtain⟨h1,h2,h3,h4,h5⟩:=J.sh.blk 0 p0 (.inl rfl) T;subst N;have z:=J.sh.wk p0 T;rw[p,cg]at z;have a:∀(i:Nat) (u:Value),(Vs c (dW s.ev.length) e m)[i]?=some u->∃C,w.cell? ⟨p0.b,i,none⟩=some C/\VR ς u C:=λi u hu=>by
  obtain⟨C,B,D⟩:=h5.2 i u hu;rw[p,cg]at B;exact⟨C,B,D⟩
 obtain⟨u1,B,r1⟩:=a 5 _ rfl;obtain⟨q,U,rfl⟩:=r1.gL;rw[X]at U;cases U;rw[O]at B;refine⟨W.b,f,B,⟨K,Z⟩,z,λv hv=> ?_,J.sh.lt _ J.sh.QK.1,J.sh.lt _ h1,?_⟩
 .obtain⟨wc,hw,_⟩:=E5 c v (s.ws v)
  obtain⟨x',D,r2⟩:=(J.pv v hv).win 0 (.int .i64 (rJ (s.ws v).ph)) (by rw[hw];rfl);rw[r2.aH]at D;exact D
 .obtain⟨u8,P,E⟩:=a 8 _ rfl
  cases d:s.ev with
  |nil=>
   rw[d]at E;have:u8=.slice none 0 0:=E.aD rfl;rw[this]at P;exact .inl ⟨rfl,P⟩
  |cons x r=>
   have V:s.ev.length=r.length+1:=by rw[d];rfl
   rw[V]at E;obtain⟨G,e4,Q,rfl⟩:=E.yL;obtain⟨f1,_,_,_,H⟩:=J.sh.blk 4 G (.inr (.inr rfl)) e4;have H:=H.2;show _\/_;have R:shB c s A e m 4=.rows true true 18 (r.length+1) (aG A s.ev):=by
    show fE s.ev.length (aG A s.ev)=_;rw[V];rfl
   rw[R]at H;refine .inr ⟨G.b,G.o,G.cap,by simp,P,Q,J.sh.lt _ f1,λi j hi hj=> ?_⟩;obtain⟨u,k9,I⟩:=H.2 i j hi hj;rw[d]at I;refine⟨u,k9,?_⟩;generalize (aG A (x::r)).at i j=y at I;cases y with
   |int k n=>exact I.aH
   |bool b=>exact I.aD rfl
def Xu(h:jH c s A e F b w){v:Nat}(d:v<c.W)(W:c.W<=4):Calls Tryz.prog 23 #[.pointer (some ⟨b,0,none⟩),.int .i64 (v:Int)] w λr f=>r=.returned (.int .i64 (rJ (s.ws v).ph))/\Below w.heap.size w f:=by
 obtain⟨l,m,_,_,n,a,i,o,_⟩:=h.cells;have p:=a v d;have k:(v:Int)<(c.W:Int):=by omega
 go_enter Tryz.func23,Tryz.ntmps23
 go_wp2;go_ret;exact⟨rfl,Below.refl _ _⟩
set_option maxHeartbeats 2000000 in
set_option maxRecDepth 100000 in
def Wp(b o n c:Nat)(d:List Value)(w:World)(G:d.length=n*1)(H:n<=1000000000)(B:∀j u,d[j]?=some u->w.cell? ⟨b,o+j,none⟩=some u)(I:∀u∈d,u.oneCell'=true):
  Calls Tryz.prog 47 #[.slice (some ⟨b,o,none⟩) n c] w λe C=>∃v,e=.returned v/\C.ownsRow w.heap.size 3 1 v n d/\v≠.slice none 0 0/\Below w.heap.size w C:=by
 have A:=Lib.hid B;clear B;have h:(Tryz.prog.info? 3).map (λi=>(i.zero,i.size,i.bytes))=some (some (.int .i64 0),1,8):=by kernel_rfl
 obtain⟨i0,D,p,z,r⟩:∃i0,Tryz.prog.info? 3=some i0/\i0.zero=some (.int .i64 0)/\i0.size=1/\i0.bytes=8:=by
  cases q:Tryz.prog.info? 3 with
  |none=>rw[q]at h;cases h
  |some i=>
   rw[q]at h;simp only[eR,cq,kB]at h;exact⟨i,rfl,h⟩
 have J:∀w,(Go.sizeOf 3).run Tryz.prog w=.ok 1 w:=λw=>by rw[<-z];exact Go.Sx.run_sizeOf D w
 have K:∀(w:World) (a:Option Addr) (n c x y:Nat),(binOp .eql 35 (.slice a n c) (.slice none x y)).run Tryz.prog w=.ok (.bool a.isNone) w:=λw a n c x y=>tW w _ 3 a n c x y (by kernel_rfl)
 go_enter Tryz.func47,Tryz.ntmps47
 go_wp2_with (at_builtin;refine oT _ rfl _ _ 35 rfl w.heap.size 3 i0 _ 1 8 (by kernel_rfl) D p z r rfl (by decide) _ _ _ rfl (World.ownsRow_made w #[] 0 (aq _) (tE _) (by simp)) ⟨b,o,none⟩ n c d rfl ?qc1 ?qc2 ?qc3 ?qc4 ?qc5 ?qc6 ?_)
 case qc1=>exact G
 case qc2=>
  intro j u E;have e:(⟨b,o,none⟩:Addr).add j=⟨b,o+j,none⟩:=by unfold Addr.add;split<;>simp_all
  rw[e];have L:b<w.heap.size:=by
   have:=A.out j u E;rcases cn b w.heap.size with q|q
   .exact q
   .simp[World.cell?,tR q]at this
  rw[cM (w:=w) (b7 _ _ _ L)];exact A.out j u E
 case qc3=>exact I
 case qc4=>rw[cg];exact eM H (by decide)
 case qc5=>rw[cg];omega
 case qc6=>simp
 intro v O l f m;go_wp2;go_ret;refine⟨v,rfl,by simpa using l,m,?_⟩;exact((Below.refl _ w).alloc (aq _) _).grown f (by simp) (by intro k N;simp[Value.ownBlock]at N;omega)
def evZ:Value:=.agg #[f0,i0,i0,i0,i0,f0,f0,i0,i0,i0,i0,i0,i0,i0,i0,i0,i0,i0]
set_option maxHeartbeats 2000000 in
set_option maxRecDepth 100000 in
def Ws(b o n c:Nat)(d:List Value)(w:World)(G:d.length=n*18)(H:n<=1000000000)(B:∀j u,d[j]?=some u->w.cell? ⟨b,o+j,none⟩=some u)(I:∀u∈d,u.oneCell'=true):
  Calls Tryz.prog 33 #[.slice (some ⟨b,o,none⟩) n c] w λe C=>∃v,e=.returned v/\C.ownsRow w.heap.size 68 18 v n d/\v≠.slice none 0 0/\Below w.heap.size w C:=by
 have A:=Lib.hid B;clear B;have h:(Tryz.prog.info? 68).map (λi=>(i.zero,i.size,i.bytes))=some (some evZ,18,136):=by kernel_rfl
 obtain⟨i0,D,p,z,r⟩:∃i0,Tryz.prog.info? 68=some i0/\i0.zero=some evZ/\i0.size=18/\i0.bytes=136:=by
  cases q:Tryz.prog.info? 68 with
  |none=>rw[q]at h;cases h
  |some i=>
   rw[q]at h;simp only[eR,cq,kB]at h;exact⟨i,rfl,h⟩
 have J:∀w,(Go.sizeOf 68).run Tryz.prog w=.ok 18 w:=λw=>by rw[<-z];exact Go.Sx.run_sizeOf D w
 have K:∀(w:World) (a:Option Addr) (n c x y:Nat),(binOp .eql 53 (.slice a n c) (.slice none x y)).run Tryz.prog w=.ok (.bool a.isNone) w:=λw a n c x y=>tW w _ 68 a n c x y (by kernel_rfl)
 go_enter Tryz.func33,Tryz.ntmps33
 go_wp2_with (at_builtin;refine oT _ rfl _ _ 53 rfl w.heap.size 68 i0 _ 18 136 (by kernel_rfl) D p z r rfl (by decide) _ _ _ rfl (World.ownsRow_made w #[] 0 (aq _) (tE _) (by simp)) ⟨b,o,none⟩ n c d rfl ?qc1 ?qc2 ?qc3 ?qc4 ?qc5 ?qc6 ?_)
 case qc1=>exact G
 case qc2=>
  intro j u E;have e:(⟨b,o,none⟩:Addr).add j=⟨b,o+j,none⟩:=by unfold Addr.add;split<;>simp_all
  rw[e];have L:b<w.heap.size:=by
   have:=A.out j u E;rcases cn b w.heap.size with q|q
   .exact q
   .simp[World.cell?,tR q]at this
  rw[cM (w:=w) (b7 _ _ _ L)];exact A.out j u E
 case qc3=>exact I
 case qc4=>rw[cg];exact eM H (by decide)
 case qc5=>rw[cg];omega
 case qc6=>simp
 intro v O l f m;go_wp2;go_ret;refine⟨v,rfl,by simpa using l,m,?_⟩;exact((Below.refl _ w).alloc (aq _) _).grown f (by simp) (by intro k N;simp[Value.ownBlock]at N;omega)
def Wq(n c:Nat)(w:World):Calls Tryz.prog 33 #[.slice none n c] w λe h=>e=.returned (.slice none 0 0)/\h=w:=by
 have q:∀(w:World) (a:Option Addr) (n c d f:Nat),(binOp .eql 53 (.slice a n c) (.slice none d f)).run Tryz.prog w=.ok (.bool a.isNone) w:=λw a n c d f=>tW w _ 68 a n c d f (by kernel_rfl)
 go_enter Tryz.func33,Tryz.ntmps33
 go_wp2;go_ret;exact⟨rfl,rfl⟩
def YC{m:Mm}{F:Nat->Prop}{b:Nat}{w:World}(h:rC (.mem c m) F b w):∃t o a,w.cell? ⟨b,0,none⟩=some (.slice (some ⟨t,o,none⟩) (nC c) a)/\∀(i:Nat) (x:Int),(aC c m)[i]?=some x->w.cell? ⟨t,o+i,none⟩=some (.int .i64 x):=by
 obtain⟨_,a,d,_,_,σ,r,⟨p,k,l,n⟩,_⟩:=h;obtain⟨z,f,u⟩:=r.jB k (show(gq (nC c) a d (aC c m)).getD 0 .dead=.cells true true [.slice (some ⟨1,0,none⟩) (nC c) a,.int .i64 d]from rfl) (i:=0) rfl;rw[l,n,cg]at f;cases u with
 |slice v=>
  rename_i q;obtain⟨_,y⟩:=r.ints_at v (show(gq (nC c) a d (aC c m)).getD 1 .dead=.ints true true (aC c m)from rfl);exact⟨q.b,q.o,a,f,y⟩
def WO(h:jH c s A e F b w)(S:c.W<=4/\c.S<=5):Calls Tryz.prog 11 #[.pointer (some ⟨b,0,none⟩)] w λr f=>∃v,r=.returned v/\f.ownsRow w.heap.size 3 1 v (nC c) ((aC c s.m).map (.int .i64 ·))/\Below w.heap.size w f:=by
 obtain⟨n,C,D,⟨E,J⟩,G,p,q,H,_⟩:=h.cells;obtain⟨t,o,y,I,z⟩:=YC J
 have i:=Wp t o (nC c) y ((aC c s.m).map (.int .i64 ·)) w (by rw[iz,nE,lr]) (by unfold nC;omega) (λj u a=>by
  rw[cG]at a;cases k:(aC c s.m)[j]? with
  |none=>rw[k]at a;cases a
  |some x=>rw[k]at a;cases a;exact z j x k) (λu a=>by
  rw[kx]at a;obtain⟨x,_,rfl⟩:=a;rfl)
 have l:Calls Tryz.prog 30 #[.pointer (some ⟨n,0,none⟩)] w λr f=>∃v,r=.returned v/\f.ownsRow w.heap.size 3 1 v (nC c) ((aC c s.m).map (.int .i64 ·))/\Below w.heap.size w f:=by
  go_enter Tryz.func30,Tryz.ntmps30
  go_wp2_with (go_at_call 47;refine i.mono ?_;rintro e B ⟨v,rfl,m,K,d⟩)
  go_ret;exact⟨v,rfl,m,d⟩
 go_enter Tryz.func11,Tryz.ntmps11
 go_wp2_with (go_at_call 30;refine l.mono ?_;rintro e B ⟨v,rfl,m,d⟩)
 go_ret;exact⟨v,rfl,m,d⟩
def zy(A:Nat->Int):List Ev->List Value
 |[]=>[]
 |x::r=>zy A r++nA x (A r.length)
def zx(x:Ev)(a:Int):(nA x a).length=18:=rfl
theorem om(A:Nat->Int):∀l:List Ev,(zy A l).length=l.length*18
 |[]=>rfl
 |x::r=>by
  show(zy A r++nA x (A r.length)).length=_;rw[cE,om A r,zx,ct];omega
theorem Ug(A:Nat->Int):∀(l:List Ev) (i j:Nat),i<l.length->j<18->(zy A l)[i*18+j]?=some ((aG A l).at i j).val
 |[],i,j,a,_=>by simp at a
 |x::r,i,j,a,d=>by
  show(zy A r++nA x (A r.length))[i*18+j]?=some ((eY r.length (nA x (A r.length)) (aG A r)).at i j).val;by_cases h:i=r.length
  .subst h
   rw[cx (by rw[om];omega),om,mS];have k:oV ((nA x (A r.length)).getD j undef)=true:=by
    have f:(nA x (A r.length)).all oV=true:=rfl;rw[bp]at f;rw[b8,tD (by rw[zx];exact d)];exact f _ (eC _)
   rw[EI (by rw[Ed];rfl) (by rw[zx];exact d) k,b8,tD (by rw[zx];exact d)];rfl
  .have a:i<r.length:=by simp at a;omega
   rw[cD (by rw[om];omega),EH h,Ug A r i j a d]
theorem Uf(A:Nat->Int):∀(l:List Ev) (u:Value),u∈zy A l->u.oneCell'=true
 |[],u,h=>by cases h
 |x::r,u,h=>by
  rcases eS.1 h with h|h
  .exact Uf A r u h
  .have a:(nA x (A r.length)).all (fun u=>u.oneCell')=true:=rfl
   rw[bp]at a;exact a u h
def VY(h:jH c s A e F b w)(n:s.ev.length<=1000000000):Calls Tryz.prog 17 #[.pointer (some ⟨b,0,none⟩)] w λr l=>∃v,r=.returned v/\l.ownsRow w.heap.size 68 18 v s.ev.length (zy A s.ev)/\Below w.heap.size w l:=by
 obtain⟨G,H,_,_,_,_,_,I,f⟩:=h.cells;rcases f with⟨p,q⟩|⟨x,o,i,y,q,m,z,B⟩
 .have a:=Wq 0 0 w
  go_enter Tryz.func17,Tryz.ntmps17
  go_wp2_with (go_at_call 33;refine a.mono ?_;rintro e C ⟨rfl,rfl⟩)
  go_ret;refine⟨_,rfl,?_,Below.refl _ _⟩;rw[p];exact sq _ _ _ _
 .have a:=Ws x o s.ev.length i (zy A s.ev) w (om A s.ev) n (λj u d=>by
   have J:j<s.ev.length*18:=by rw[<-om A s.ev];exact(aE.1 d).1
   have e:j=j/18*18+j%18:=by omega
   rw[e]at d ⊢;rw[Ug A s.ev _ _ (by omega) (by omega)]at d;obtain⟨K,D,rfl⟩:=B (j/18) (j%18) (by omega) (by omega);rw[D,d]) (Uf A s.ev)
  go_enter Tryz.func17,Tryz.ntmps17
  go_wp2_with (go_at_call 33;refine a.mono ?_;rintro e C ⟨v,rfl,E,L,k⟩)
  go_ret;exact⟨v,rfl,E,k⟩
end
noncomputable section
open Go.RowKit Go.bn Go.Sx Yq
structure Live(c:Cn)(s:Ms)(e:Int)(D:Nat->Prop)(b:Nat)(w:World):Prop where
 good:rE c s e
 tt:TT w
 lt:∀j,D j->j<w.heap.size
 kt:∀k,KT k->D k
 oL:∃A F,jH c s A e F b w/\∀j,D j->¬F j
variable{c:Cn} {s:Ms} {e:Int} {D a:Nat->Prop} {b:Nat} {w d:World}
def Live.mono(h:Live c s e D b w)(i:∀j,a j->D j)(l:∀k,KT k->a k):Live c s e a b w:=by
 obtain⟨A,F,M,m⟩:=h.oL;exact⟨h.good,h.tt,λj f=>h.lt j (i j f),l,A,F,M,λj f=>m j (i j f)⟩
def more(D:Nat->Prop)(w d:World):Nat->Prop:=λj=>D j\/w.heap.size<=j/\j<d.heap.size
def nG{n:Nat}(h:TT w)(f:Below n w d)(l:2<n):TT d:=lg (· <n) w d (λk i=>by rcases i with rfl|rfl<;>omega) h (Kept.of_below f)
def Live.below(h:Live c s e D b w)(i:Below w.heap.size w d):Live c s e (more D w d) b d:=by
 obtain⟨A,F,M,n⟩:=h.oL;have l:=i.size;have o:=h.tt.lt 2 (.inr rfl);refine⟨h.good,nG h.tt i o,λj f=>f.elim (λq=>ba (h.lt j q) l) (·.2),λk p=>.inl (h.kt k p),A,F,M.st l λj f=>i.block j (M.lt j f),λj f m=> ?_⟩;rcases f with q|q
 .exact n j q m
 .have:=M.lt j m;omega
def Live.drew(h:Live c s e D b w):Live c s e D b w.drew:=by
 obtain⟨A,F,M,f⟩:=h.oL;exact⟨h.good,h.tt,h.lt,h.kt,A,F,M.st (aq _) λ_ _=>rfl,f⟩
def Live.MC(H:∀v,v<c.W->fZ c.W v)(h:Live c s e D b w)(m:e<=1000000000)(x:En)(n:wY c x):
  Calls Tryz.prog jV [.pointer (some ⟨b,0,none⟩),uZ x].toArray w λr d=>r=.returned (.bool (dX c s x).1)/\Kept D w d/\Live c (dX c s x).2 (e+1) D b d:=by
 obtain⟨A,F,M,l⟩:=h.oL;refine(ae9 H h.good m M h.tt (λk i=>l k (h.kt k i)) x n).mono λr d o=> ?_;obtain⟨rfl,i,p⟩:=o;have K:Kept D w d:=i.mono λj f=>⟨h.lt j f,l j f⟩;refine⟨rfl,K,afu h.good x,lg D w d h.kt h.tt K,λj f=>ba (h.lt j f) i.size,h.kt,_,_,p,λj f u=> ?_⟩;rcases u with q|q
 .exact l j f q
 .have:=h.lt j f;omega
def Live.state(h:Live c s e D b w){v:Nat}(i:v<c.W):Calls Tryz.prog 23 #[.pointer (some ⟨b,0,none⟩),.int .i64 (v:Int)] w λr d=>r=.returned (.int .i64 (rJ (s.ws v).ph))/\Below w.heap.size w d/\Live c s e (more D w d) b d:=by
 obtain⟨A,F,M,l⟩:=h.oL;refine(Xu M i h.good.W.2).mono λr d k=> ?_;obtain⟨rfl,f⟩:=k;exact⟨rfl,f,h.below f⟩
def Live.words(h:Live c s e D b w):Calls Tryz.prog 11 #[.pointer (some ⟨b,0,none⟩)] w λr d=>∃v,r=.returned v/\d.ownsRow w.heap.size 3 1 v (nC c) ((aC c s.m).map (.int .i64 ·))/\Below w.heap.size w d/\Live c s e (more D w d) b d:=by
 obtain⟨A,F,M,k⟩:=h.oL;refine(WO M ⟨h.good.W.2,h.good.S.2⟩).mono λr d i=> ?_;obtain⟨v,rfl,o,f⟩:=i;exact⟨v,rfl,o,f,h.below f⟩
def Live.events(h:Live c s e D b w)(l:e<=1000000000):Calls Tryz.prog 17 #[.pointer (some ⟨b,0,none⟩)] w λr d=>∃v A,r=.returned v/\d.ownsRow w.heap.size 68 18 v s.ev.length (zy A s.ev)/\Below w.heap.size w d/\Live c s e (more D w d) b d:=by
 obtain⟨A,F,M,m⟩:=h.oL;obtain⟨k,n,_,p⟩:=h.good.nx;refine(VY M (by omega)).mono λr d i=> ?_;obtain⟨v,rfl,o,f⟩:=i;exact⟨v,A,rfl,o,f,h.below f⟩
def Y6(h:fI (iM c))(W:c.W<=4)(S:c.S<=5):rE c Ms.zero 0:=by
 have f:=h.w;have i:=h.s;unfold iM at f i;simp only at f i;exact⟨⟨by omega,W⟩,⟨by omega,S⟩,⟨0,rfl,aeR,aq _⟩,λ_ _ _=>rfl,by decide,by decide⟩
def PN(h:fI (iM c))(W:c.W<=4)(S:c.S<=5)(w:World)(T:TT w):Calls Tryz.prog 26 #[.agg (dI c).toArray] w λr d=>∃b,r=.returned (.tuple #[.pointer (some ⟨b,0,none⟩),.int .i64 0])/\Below w.heap.size w d/\Live c Ms.zero 0 (· <w.heap.size) b d:=by
 refine(aeY h W w T.1).mono λr d l=> ?_;obtain⟨F,b,rfl,f,M,m⟩:=l;have n:=T.lt 2 (.inr rfl);refine⟨b,rfl,f,Y6 h W S,nG T f n,λj i=>ba i f.size,λk o=>T.lt k o,_,F,M,λj i p=>by have:=m j p;omega⟩
end
noncomputable section
open Go.RowKit Go.bn Go.Sx Yq
attribute [local go_sem ↓] Go.wp_at_zero Go.wp_at_succ
theorem Zo(A:Nat->Int):∀(l:List Ev) (k:Nat),k<l.length->∃(x:Ev) (a:Int),l[l.length-1-k]?=some x/\∀j,j<18->(zy A l)[k*18+j]?=(nA x a)[j]?
 |[],k,h=>by simp at h
 |x::r,k,h=>by
  by_cases e:k=r.length
  .subst e
   refine⟨x,A r.length,by simp,λj b=> ?_⟩;show(zy A r++nA x (A r.length))[r.length*18+j]?=_;rw[cx (by rw[om];omega),om,mS]
  .have c:k<r.length:=by simp at h;omega
   obtain⟨y,a,d,f⟩:=Zo A r k c;refine⟨y,a,?_,λj b=> ?_⟩
   .have:(x::r).length-1-k=(r.length-1-k)+1:=by simp;omega
    rw[this,lA];exact d
   .show(zy A r++nA x (A r.length))[k*18+j]?=_
    rw[cD (by rw[om];omega)];exact f j b
structure Dx(w:World)(v:Value)(l:List Ev)(B:Nat):Prop where
 nil:l=[]->v=.slice none 0 0\/∃g cap,v=.slice (some ⟨g,0,none⟩) 0 cap
 row:l≠[]->∃g cap,v=.slice (some ⟨g,0,none⟩) l.length cap/\l.length<=cap/\B<=g/\g<w.heap.size/\∀k,k<l.length->∃(x:Ev) (a:Int),l[l.length-1-k]?=some x/\∀j u,(nA x a)[j]?=some u->w.cell? ⟨g,k*18+j,none⟩=some u
def K3{w:World}{B:Nat}{v:Value}{A:Nat->Int}{l:List Ev}(h:w.ownsRow B 68 18 v l.length (zy A l)):Dx w v l B:=by
 obtain⟨D,h|⟨g,c,i,rfl,m,b,o,d,s,p⟩⟩:=h
 .exact⟨λ_=>.inl h.1,λn=>tA (cR h.2) n⟩
 .refine⟨fun q=>.inr ⟨g,c,by rw[q];rfl⟩,fun n=>⟨g,c,rfl,o,m,(bk.1 b).1,fun k r=> ?_⟩⟩
  obtain⟨x,a,y,z⟩:=Zo A l k r;refine⟨x,a,y,λj u f=> ?_⟩;have C:j<18:=by rw[<-zx x a];exact(aE.1 f).1
  have e:=z j C;rw[f, <-p,fy (by omega)]at e;rw[cell_of b];simpa using e
def Dx.below{w b:World}{v:Value}{l:List Ev}{B:Nat}(h:Dx w v l B)(d:Below w.heap.size w b):Dx b v l B:=
 ⟨h.nil,λn=>by
  obtain⟨g,c,f,i,m,e,o⟩:=h.row n;refine⟨g,c,f,i,m,ba e d.size,λk q=> ?_⟩;obtain⟨x,a,r,s⟩:=o k q;exact⟨x,a,r,λj u y=>(d.cell (p:=⟨g,k*18+j,none⟩) e).trans (s j u y)⟩⟩
def af0{σ:Nat->Option Pl}{a:Array Value}{v:Value}(h:VR σ (.agg a) v)(p:a.toList.all aN=true):v=.agg a:=by
 cases h with
 |agg b x=>
  rename_i c;congr 1;apply Array.ext b.symm;intro i d e;have f:=x i a[i] c[i] (cj e) (cj d);rw[bp]at p;exact f.aD (p _ (by simp))
def Jy(a b c d e:Int):Cn:=⟨(1+a%4).toNat,(1+b%5).toNat,c%4,(d%4).toNat,1+e%4⟩
structure U8(a:Int):Prop where
 lo:0<=a
 hi:a<=255
def Zz{a b c d e:Int}(h:U8 a)(f:U8 b)(i:U8 c)(l:U8 d)(m:U8 e):iM (Jy a b c d e)=Eg a b c d e:=by
 obtain⟨n,_,_⟩:=jl (k:=4) h.lo (by decide) (by decide);obtain⟨o,_,_⟩:=jl (k:=5) f.lo (by decide) (by decide);obtain⟨p,_,_⟩:=jl (k:=4) i.lo (by decide) (by decide);obtain⟨q,_,_⟩:=jl (k:=4) l.lo (by decide) (by decide);obtain⟨r,_,_⟩:=jl (k:=4) m.lo (by decide) (by decide);unfold Eg Jy iM;rw[n,o,p,q,r,fA (x:=1+a%4) ⟨by omega,by omega⟩,fA (x:=1+b%5) ⟨by omega,by omega⟩,fA (x:=1+e%4) ⟨by omega,by omega⟩];simp only[Cf.mk.injEq,oA,true_and];omega
def Df{a b c d e:Int}(h:U8 a)(f:U8 b)(i:U8 c)(k:U8 d)(l:U8 e):fI (iM (Jy a b c d e))/\(Jy a b c d e).W<=4/\(Jy a b c d e).S<=5:=by
 rw[Zz h f i k l];refine⟨(Sn h.lo f.lo i.lo k.lo l.lo).right,?_,?_⟩
 .show(1+a%4).toNat<=4;omega
 .show(1+b%5).toNat<=5;omega
def ack{a b c d e:Int}(n:U8 a)(o:U8 b)(p:U8 c)(q:U8 d)(s:U8 e)(w:World)(T:cB w):
  Calls Tryz.prog 44 #[.agg #[.int .u8 a,.int .u8 b,.int .u8 c,.int .u8 d,.int .u8 e]] w λr l=>r=.returned (.agg (dI (Jy a b c d e)).toArray)/\Below w.heap.size w l:=by
 have B:eB (· <w.heap.size) w:=λk u=>u;have E:=oz (· <w.heap.size) w T.lt B T;have v:=(A8 E rfl (Ju a b c d e)).2;refine(v (λ_=>none) w #[.agg #[.int .u8 a,.int .u8 b,.int .u8 c,.int .u8 d,.int .u8 e]] (YX w) ⟨rfl,λi x y h m=> ?_⟩).mono λr l z=> ?_
 .match i with
  |0=>simp at h m;subst h m;exact VR.plain _ (by simp[Go.Sx.plain,Go.Sx.aN])
  |i+1=>simp at h
 .obtain⟨A,rfl,C,_,S,f⟩:=z
  rw[<-Zz n o p q s]at S;rw[af0 S (by simp[QG,Go.Sx.aN])];exact⟨rfl,f.below.below⟩
set_option maxHeartbeats 1000000 in
def YR{l:List Ev}{v:Value}{B:Nat}(o:Int)(z:l.length<=1000000000)(w:World)(h:Dx w v l B):
  Calls Tryz.prog 60 #[v,.int .i64 o] w λr A=>(∃a b:Int,r=.returned (.tuple #[.int .i64 a,.int .i64 b]))/\Below w.heap.size w A:=by
 obtain⟨P,c,rfl,q⟩:∃P c,v=.slice P l.length c/\∀k,k<l.length->∃g,P=some ⟨g,0,none⟩/\g<w.heap.size/\∃(x:Ev) (a:Int),∀j u,(nA x a)[j]?=some u->w.cell? ⟨g,k*18+j,none⟩=some u:=by
  by_cases s:l=[]
  .subst s
   rcases h.nil rfl with rfl|⟨g,c,rfl⟩
   .exact⟨none,0,rfl,λk e=>by simp at e⟩
   .exact⟨some ⟨g,0,none⟩,c,rfl,λk e=>by simp at e⟩
  .obtain⟨g,c,C,R,S,D,E⟩:=h.row s
   refine⟨_,c,C,λk e=>⟨g,rfl,D,?_⟩⟩;obtain⟨x,a,_,F⟩:=E k e;exact⟨x,a,F⟩
 generalize l.length=n at z q ⊢;clear h;have H:=Lib.hid q;clear q;have T:wrap64 ((n:Int)-1)=(n:Int)-1:=ga _ (by omega)
 go_enter Tryz.func60,Tryz.ntmps60
 go_wp2
 go_loopw [6] (fun i wr=>∃k:Int, -1<=k/\k<n/\i=.int .i64 k/\Below w.heap.size w wr)
  (λi _=>(intOf i+1).toNat)
 case atStart=>exact⟨(n:Int)-1,by omega,by omega,rfl,Below.refl _ _⟩
 case round=>
  obtain⟨k,G,I,rfl,f⟩:=hrel;by_cases s:0<=k
  .obtain⟨m,rfl⟩:∃m:Nat,k=m:=⟨k.toNat,by omega⟩
   obtain⟨g,rfl,J,x,a,y⟩:=H.out m (by omega);have d:∀j u,(nA x a)[j]?=some u->wr.cell? ⟨g,m*18+j,none⟩=some u:=λj u K=>(f.cell (p:=⟨g,m*18+j,none⟩) J).trans (y j u K);have U:wr.cell? ⟨g,m*18,none⟩=some (.bool x.ended):=d 0 _ rfl;have V:wr.cell? ⟨g,m*18+1,none⟩=some (.int .i64 (x.who:Int)):=d 1 _ rfl;have W:wr.cell? ⟨g,m*18+3,none⟩=some (.int .i64 (x.ask.op:Int)):=d 3 _ rfl;have L:wr.cell? ⟨g,m*18+10,none⟩=some (.int .i64 x.ans.e):=d 10 _ rfl;have N:wr.cell? ⟨g,m*18+11,none⟩=some (.int .i64 x.ans.slot):=d 11 _ rfl;have O:wr.cell? ⟨g,m*18+12,none⟩=some (.int .i64 x.ans.gen):=d 12 _ rfl;clear d y;have Q:wrap64 ((m:Int)-1)=(m:Int)-1:=ga _ (by omega);go_wp2
   all_goals first
    |exact⟨⟨(m:Int)-1,by omega,by omega,rfl,f⟩,by simp[intOf]⟩
    |skip
   go_quiet (fail)
   go_wp2
   go_ret2
   exact⟨⟨_,_,rfl⟩,fR f _⟩
  .go_wp2
   go_ret2
   exact⟨⟨0,0,rfl⟩,f⟩
def jY{P:Program}{c:Code}{Q:Exit->Act->World->Prop}{a:Act}{w:World}(h:∀W,W=w->c.wp P Q a W):c.wp P Q a w:=h w rfl
def qU(w:World)(o:Obj):(w.alloc o).heap=w.heap.push o:=rfl
def VJ(w:World)(a b c d:Obj)(q:Nat):(((((w.alloc a).alloc b).alloc c).drewN q).alloc d).heap[w.heap.size]?=some a/\(((((w.alloc a).alloc b).alloc c).drewN q).alloc d).heap[w.heap.size+1+1]?=some c/\(((((w.alloc a).alloc b).alloc c).drewN q).alloc d).heap[w.heap.size+1+1+1]?=some d:=by
 simp only[qU,World.heap_drewN,cQ,vh];refine⟨?_,?_,?_⟩;all_goals repeat first|rw[tz trivial]|rw[ck (by omega)]
def mq(k w o d:Int)(wt f:Bool)(s a b n:Int)(c:Bool):Array Value:= #[.int .i64 k,.int .i64 w,.int .i64 o,.int .i64 d,.bool wt,.bool f,.int .i64 s,.int .i64 a,.int .i64 b,.int .i64 n,.bool c]
structure mG(w0:World)(T Z X:Nat)(ta:Array Value)(xa:Array Value)(w:World):Prop where
 t:w.heap[T]?=some (.cells ta 103 (0,0))
 z:w.heap[Z]?=some (.cells (mq 0 0 0 0 false false 0 0 0 0 false) 57 (0,0))
 x:w.heap[X]?=some (.cells xa 57 (0,0))
 b:Below w0.heap.size w0 w
 n:w0.heap.size<=T/\w0.heap.size<=Z/\w0.heap.size<=X/\T≠X/\Z≠X
def mG.below{a w c:World}{T Z X:Nat}{d x:Array Value}(h:mG a T Z X d x w)(b:Below w.heap.size w c):mG a T Z X d x c:=
 ⟨by rw[b.block T (bk.1 h.t).1];exact h.t,by rw[b.block Z (bk.1 h.z).1];exact h.z,by rw[b.block X (bk.1 h.x).1];exact h.x,h.b.trans (b.mono h.b.size),h.n⟩
theorem mG.set{a w:World}{T Z X:Nat}{b x:Array Value}(h:mG a T Z X b x w)(i:Nat)(v:Value):mG a T Z X b (x.setIfInBounds i v) (w.setCell ⟨X,i,none⟩ v):=
 ⟨by rw[cy _ _ _ _ h.n.2.2.2.1];exact h.t,by rw[cy _ _ _ _ h.n.2.2.2.2];exact h.z,by simp[World.setCell,pT,h.x],h.b.setCell (p:=⟨X,i,none⟩) h.n.2.2.1 v,h.n⟩
def mG.xs{i w:World}{T Z X:Nat}{l:Array Value}{k a o d s b c n:Int}{wt f e:Bool}(h:mG i T Z X l (mq k a o d wt f s b c n e) w):w.cell? ⟨X,0,none⟩=some (.int .i64 k)/\w.cell? ⟨X,1,none⟩=some (.int .i64 a)/\w.cell? ⟨X,2,none⟩=some (.int .i64 o)/\w.cell? ⟨X,3,none⟩=some (.int .i64 d)/\w.cell? ⟨X,4,none⟩=some (.bool wt)/\w.cell? ⟨X,5,none⟩=some (.bool f)/\w.cell? ⟨X,6,none⟩=some (.int .i64 s)/\w.cell? ⟨X,7,none⟩=some (.int .i64 b)/\w.cell? ⟨X,8,none⟩=some (.int .i64 c)/\w.cell? ⟨X,9,none⟩=some (.int .i64 n)/\w.cell? ⟨X,10,none⟩=some (.bool e):=by
 refine⟨?_,?_,?_,?_,?_,?_,?_,?_,?_,?_,?_⟩<;>(rw[cell_of h.x];rfl)
def mG.fx{a w:World}{T Z X:Nat}{b x:Array Value}(h:mG a T Z X b x w):w.frozen? ⟨X,0,none⟩=false/\w.frozen? ⟨X,1,none⟩=false/\w.frozen? ⟨X,2,none⟩=false/\w.frozen? ⟨X,3,none⟩=false/\w.frozen? ⟨X,4,none⟩=false/\w.frozen? ⟨X,5,none⟩=false/\w.frozen? ⟨X,6,none⟩=false/\w.frozen? ⟨X,7,none⟩=false/\w.frozen? ⟨X,8,none⟩=false/\w.frozen? ⟨X,9,none⟩=false/\w.frozen? ⟨X,10,none⟩=false:=
 ⟨aW h.x _,aW h.x _,aW h.x _,aW h.x _,aW h.x _,aW h.x _,aW h.x _,aW h.x _,aW h.x _,aW h.x _,aW h.x _⟩
def mG.zs{a w:World}{T Z X:Nat}{b x:Array Value}(h:mG a T Z X b x w):w.cell? ⟨Z,0,none⟩=some (.int .i64 0)/\w.cell? ⟨Z,1,none⟩=some (.int .i64 0)/\w.cell? ⟨Z,2,none⟩=some (.int .i64 0)/\w.cell? ⟨Z,3,none⟩=some (.int .i64 0)/\w.cell? ⟨Z,4,none⟩=some (.bool false)/\w.cell? ⟨Z,5,none⟩=some (.bool false)/\w.cell? ⟨Z,6,none⟩=some (.int .i64 0)/\w.cell? ⟨Z,7,none⟩=some (.int .i64 0)/\w.cell? ⟨Z,8,none⟩=some (.int .i64 0)/\w.cell? ⟨Z,9,none⟩=some (.int .i64 0)/\w.cell? ⟨Z,10,none⟩=some (.bool false):=by
 refine⟨?_,?_,?_,?_,?_,?_,?_,?_,?_,?_,?_⟩<;>(rw[cell_of h.z];rfl)
def mG.fz{a w:World}{T Z X:Nat}{b x:Array Value}(h:mG a T Z X b x w):w.frozen? ⟨Z,0,none⟩=false/\w.frozen? ⟨Z,1,none⟩=false/\w.frozen? ⟨Z,2,none⟩=false/\w.frozen? ⟨Z,3,none⟩=false/\w.frozen? ⟨Z,4,none⟩=false/\w.frozen? ⟨Z,5,none⟩=false/\w.frozen? ⟨Z,6,none⟩=false/\w.frozen? ⟨Z,7,none⟩=false/\w.frozen? ⟨Z,8,none⟩=false/\w.frozen? ⟨Z,9,none⟩=false/\w.frozen? ⟨Z,10,none⟩=false:=
 ⟨aW h.z _,aW h.z _,aW h.z _,aW h.z _,aW h.z _,aW h.z _,aW h.z _,aW h.z _,aW h.z _,aW h.z _,aW h.z _⟩
def Zr{c:Cn}{kd who o dl sl gn st n:Int}{wt fc gd:Bool}(k:0<=kd/\kd<=5)(w: -1<=who/\who<=c.W)(h:0<=o)(d:dl<=255):∃x:En,Value.agg (mq kd who o dl wt fc sl gn st n gd)=uZ x/\wY c x/\x.a.dl<=255:=by
 refine⟨⟨kd,who,o,⟨0,wt,fc,dl,sl,gn,st⟩,n,gd⟩,?_,⟨k,w,h⟩,d⟩;have e:(o.toNat:Int)=o:=j8 h;show _=Value.agg #[.int .i64 kd,.int .i64 who,.int .i64 (o.toNat:Int),.int .i64 dl,.bool wt,.bool fc,.int .i64 sl,.int .i64 gn,.int .i64 st,.int .i64 n,.bool gd];rw[e];rfl
def heap_put{w:World}{Z:Nat}{c:Array Value}{t:TypeId}(h:w.heap[Z]?=some (.cells c t (0,0)))(i:Nat)(v:Value):(w.setCell ⟨Z,i,none⟩ v).heap[Z]?=some (.cells (c.setIfInBounds i v) t (0,0)):=by simp[World.setCell,pT,h]
def acM{a w:World}{T Z X:Nat}{b x:Array Value}{kd who op dl sl gn st n:Int}{wt fc gd:Bool}(h:mG a T Z X b x w):(((((((((((w.setCell ⟨Z,0,none⟩ (.int .i64 kd)).setCell ⟨Z,1,none⟩ (.int .i64 who)).setCell ⟨Z,2,none⟩ (.int .i64 op)).setCell ⟨Z,3,none⟩ (.int .i64 dl)).setCell ⟨Z,4,none⟩ (.bool wt)).setCell ⟨Z,5,none⟩ (.bool fc)).setCell ⟨Z,6,none⟩ (.int .i64 sl)).setCell ⟨Z,7,none⟩ (.int .i64 gn)).setCell ⟨Z,8,none⟩ (.int .i64 st)).setCell ⟨Z,9,none⟩ (.int .i64 n)).setCell ⟨Z,10,none⟩ (.bool gd)).heap[Z]?=some (.cells (mq kd who op dl wt fc sl gn st n gd) 57 (0,0))/\Below a.heap.size a (((((((((((w.setCell ⟨Z,0,none⟩ (.int .i64 kd)).setCell ⟨Z,1,none⟩ (.int .i64 who)).setCell ⟨Z,2,none⟩ (.int .i64 op)).setCell ⟨Z,3,none⟩ (.int .i64 dl)).setCell ⟨Z,4,none⟩ (.bool wt)).setCell ⟨Z,5,none⟩ (.bool fc)).setCell ⟨Z,6,none⟩ (.int .i64 sl)).setCell ⟨Z,7,none⟩ (.int .i64 gn)).setCell ⟨Z,8,none⟩ (.int .i64 st)).setCell ⟨Z,9,none⟩ (.int .i64 n)).setCell ⟨Z,10,none⟩ (.bool gd)):=by
 constructor
 .have S:=fun{w:World} {c:Array Value} {t:TypeId} (h:w.heap[Z]?=some (.cells c t (0,0))) i v=>(heap_put h i v)
  exact(S (S (S (S (S (S (S (S (S (S (S h.z 0 _) 1 _) 2 _) 3 _) 4 _) 5 _) 6 _) 7 _) 8 _) 9 _) 10 _).trans (by simp[mq])
 .have z:=h.n.2.1
  have S:∀{w:World},Below a.heap.size a w->∀i v,Below a.heap.size a (w.setCell ⟨Z,i,none⟩ v):=λh i v=>h.setCell (p:=⟨Z,i,none⟩) z v;exact S (S (S (S (S (S (S (S (S (S (S h.b 0 _) 1 _) 2 _) 3 _) 4 _) 5 _) 6 _) 7 _) 8 _) 9 _) 10 _
set_option maxHeartbeats 4000000 in
def Zq{c:Cn}(hW:1<=c.W/\c.W<=4){k b p s g n:Int}(h1:U8 k)(h2:U8 b)(h3:U8 p)(h4:U8 s)(m:U8 g)(h6:U8 n){l:List Ev}{v:Value}{B:Nat}(hl:l.length<=1000000000)(w:World)(h:Dx w v l B):
  Calls Tryz.prog 45 #[.agg #[.int .u8 k,.int .u8 b,.int .u8 p,.int .u8 s,.int .u8 g,.int .u8 n],.agg (dI c).toArray,v] w λr w'=>(∃x,r=.returned (uZ x)/\wY c x/\x.a.dl<=255)/\Below w.heap.size w w':=by
 obtain⟨a1,b1⟩:=h1;obtain⟨a2,b2⟩:=h2;obtain⟨a3,b3⟩:=h3;obtain⟨a4,b4⟩:=h4;obtain⟨a5,b5⟩:=m;obtain⟨a6,b6⟩:=h6;obtain⟨W1,W4⟩:=hW;go_enter Tryz.func45,Tryz.ntmps45
 go_wp2_with fail
 go_quiet (fail)
 go_upto_block 0 with(fail)
 obtain⟨a,f⟩:∃y,y=wrap64 (b%((c.W:Int)+1)-b/250):=⟨_,rfl⟩;have hwr: -1<=a/\a<=c.W:=by
  rw[f];have g1:0<=b%((c.W:Int)+1):=rm _ (by omega);have g2:b%((c.W:Int)+1)<(c.W:Int)+1:=oE _ (by omega);rw[ga _ (by omega)];omega
 rw[<-f];refine jY λW0 W=> ?_;have E0:mG w w.heap.size (w.heap.size+1+1) (w.heap.size+1+1+1) #[.int .u8 k,.int .u8 b,.int .u8 p,.int .u8 s,.int .u8 g,.int .u8 n] (mq 0 a 0 0 false false 0 0 0 (n%16) (decide (0<n%3))) W0:=by
  refine⟨by rw[W];exact(VJ ..).1,by rw[W];exact(VJ ..).2.1,by rw[W];exact(VJ ..).2.2,?_,by omega⟩
  .rw[W]
   exact(fR ((((Below.refl _ w).alloc (aq _) _).alloc (by simp) _).alloc (by simp;omega) _) _).alloc (by simp;omega) _
 have HW:=Lib.hid (And.intro f W);clear f W;have d9:W0.cell? ⟨w.heap.size,0,none⟩=some (.int .u8 k):=by rw[cell_of E0.t];rfl
 have dd:W0.cell? ⟨w.heap.size+1+1+1,0,none⟩=some (.int .i64 0):=by rw[cell_of E0.x];rfl
 have u:W0.frozen? ⟨w.heap.size+1+1+1,0,none⟩=false:=aW E0.x 0;have wk:wrap64 (k-250)=k-250:=ga _ (by omega);have HE:=Lib.hid E0;clear E0;go_cut []from 33 to 62 (λw'=>∃i:Int,(0<=i/\i<=5)/\w'=W0.setCell ⟨w.heap.size+1+1+1,0,none⟩ (.int .i64 i))
 case first=>
  go_wp2
  all_goals (go_meet;exact⟨_,by omega,rfl⟩)
 case rest=>
  obtain⟨i,ac,z⟩:=hcut;have E1:=HE.out.set 0 (.int .i64 i);rw[<-z]at E1;have R:mG w w.heap.size (w.heap.size+1+1) (w.heap.size+1+1+1) #[.int .u8 k,.int .u8 b,.int .u8 p,.int .u8 s,.int .u8 g,.int .u8 n] (mq i a 0 0 false false 0 0 0 (n%16) (decide (0<n%3))) wc:=E1;clear E1 d9 dd u wk;have HC:=Lib.hid z;clear z;have t2:wc.cell? ⟨w.heap.size,2,none⟩=some (.int .u8 p):=by rw[cell_of R.t];rfl
  have t3:wc.cell? ⟨w.heap.size,3,none⟩=some (.int .u8 s):=by rw[cell_of R.t];rfl
  have t4:wc.cell? ⟨w.heap.size,4,none⟩=some (.int .u8 g):=by rw[cell_of R.t];rfl
  have t5:wc.cell? ⟨w.heap.size,5,none⟩=some (.int .u8 n):=by rw[cell_of R.t];rfl
  obtain⟨G,H,A,I,J,K,L,N,O,P,S⟩:=R.xs;obtain⟨u,U,Q,T,V,X,Y,Z,TZ,TY,KX⟩:=R.fx;have de:=Lib.hid R;clear R;go_upto_region 15 with(fail)
  refine jY λC D=> ?_;have E2:=((((((de.out.set 2 (.int .i64 (p%9))).set 3 (.int .i64 n)).set 4 (.bool (n%2==1))).set 5 (.bool (n%5==0))).set 6 (.int .i64 (s%6))).set 7 (.int .i64 (g%4))).set 8 (.int .i64 (n%4));rw[<-D]at E2;have Ur:mG w w.heap.size (w.heap.size+1+1) (w.heap.size+1+1+1) #[.int .u8 k,.int .u8 b,.int .u8 p,.int .u8 s,.int .u8 g,.int .u8 n] (mq i a (p%9) n (n%2==1) (n%5==0) (s%6) (g%4) (n%4) (n%16) (decide (0<n%3))) C:=E2;have fh:=Lib.hid D;clear E2 D t2 t3 t4 t5 G H A I J K L N O P S u U Q T V X Y Z TZ TY KX;have t2:C.cell? ⟨w.heap.size,2,none⟩=some (.int .u8 p):=by rw[cell_of Ur.t];rfl
  obtain⟨G,H,A,I,J,K,L,N,O,P,S⟩:=Ur.xs;obtain⟨u,U,Q,T,V,X,Y,Z,TZ,TY,KX⟩:=Ur.fx;have lX:w.heap.size+1+1+1<C.heap.size:=gQ Ur.x;have dp:∀o,(C.alloc o).cell? ⟨w.heap.size,2,none⟩=some (.int .u8 p):=λo=>by rw[fN (h:=mu (show w.heap.size<C.heap.size by omega))];exact t2
  have dt:∀o,(C.alloc o).cell? ⟨w.heap.size+1+1+1,2,none⟩=some (.int .i64 (p%9)):=λo=>by rw[fN (h:=mu lX)];exact A
  have dv:∀o,(C.alloc o).frozen? ⟨w.heap.size+1+1+1,2,none⟩=false:=λo=>by rw[World.frozen?_alloc_old (h:=mu lX)];exact Q
  have am:=Lib.hid Ur;clear Ur;go_upto_if 94 with(fail)
  go_cut []from 95 to 103 (λw'=>∃o:Int,0<=o/\mG w w.heap.size (w.heap.size+1+1) (w.heap.size+1+1+1) #[.int .u8 k,.int .u8 b,.int .u8 p,.int .u8 s,.int .u8 g,.int .u8 n] (mq i a o n (n%2==1) (n%5==0) (s%6) (g%4) (n%4) (n%16) (decide (0<n%3))) w')
  case first=>
   have m:p%5=0\/p%5=1\/p%5=2\/p%5=3\/p%5=4:=by omega
   rcases m with m|m|m|m|m
   all_goals
    go_wp2
    all_goals go_meet
    all_goals first
     |exact⟨p%9,by omega,am.out⟩
     |exact⟨_,by decide,(am.out.set 2 _).below ((Below.refl _ _).alloc (aq _) _)⟩
  case rest=>
   obtain⟨o,ho,E⟩:=hcut;clear t2 dp dt dv G H A I J K L N O P S u U Q T V X Y Z TZ TY KX;have t3:wc.cell? ⟨w.heap.size,3,none⟩=some (.int .u8 s):=by rw[cell_of E.t];rfl
   obtain⟨G,H,A,I,J,K,L,N,O,P,S⟩:=E.xs;obtain⟨u,U,Q,T,V,X,Y,Z,TZ,TY,KX⟩:=E.fx;obtain⟨z0,z1,z2,z3,z4,z5,z6,z7,z8,z9,ao⟩:=E.zs;obtain⟨ar,bi,bm,bv,ca,cb,ce,co,d5,d6,d7⟩:=E.fz;have hL:=YR a hl wc (h.below E.b);have d8:=Lib.hid E;clear E;go_wp2_with (go_at_call 60;refine hL.mono ?_;rintro e w1 ⟨⟨s1,g1,rfl⟩,dT⟩;have E4:=d8.out.below dT;obtain⟨y0,y1,y2,y3,y4,y5,y6,y7,y8,y9,fi⟩:=E4.xs;obtain⟨fl,fv,gt,gv,i4,i5,i6,i7,i8,i9,ie⟩:=E4.fx;obtain⟨u0,u1,u2,u3,u4,u5,u6,u7,u8,u9,ii⟩:=E4.zs;obtain⟨im,io,ip,iu,j2,jp,kc,kh,kl,km,kw⟩:=E4.fz;have eh:=Lib.hid E4;clear E4)
   .obtain⟨q,d⟩:=acM ((eh.out.set 6 (.int .i64 s1)).set 7 (.int .i64 g1)) (kd:=i) (who:=a) (op:=o) (dl:=n) (wt:=n%2==1) (fc:=n%5==0) (sl:=s1) (gn:=g1) (st:=n%4) (n:=n%16) (gd:=decide (0<n%3))
    obtain⟨x,hx,F⟩:=Zr (c:=c) (kd:=i) (who:=a) (o:=o) (dl:=n) (wt:=n%2==1) (fc:=n%5==0) (sl:=s1) (gn:=g1) (st:=n%4) (n:=n%16) (gd:=decide (0<n%3)) ac hwr ho b6;clear hL G H A I J K L N O P S u U Q T V X Y Z TZ TY KX z0 z1 z2 z3 z4 z5 z6 z7 z8 z9 ao ar bi bm bv ca cb ce co d5 d6 d7 t3;revert q d;generalize World.setCell _ ⟨w.heap.size+1+1,10,none⟩ _=W4;intro q d;have q0:=cell_of q 0;have q1:=cell_of q 1;have q2:=cell_of q 2;have q3:=cell_of q 3;have q4:=cell_of q 4;have q5:=cell_of q 5;have q6:=cell_of q 6;have q7:=cell_of q 7;have q8:=cell_of q 8;have q9:=cell_of q 9;have OZ:=cell_of q 10;simp only[mq,iT,jz,lA]at q0 q1 q2 q3 q4 q5 q6 q7 q8 q9 OZ;refine cC (v:=.agg (mq i a o n (n%2==1) (n%5==0) s1 g1 (n%4) (n%16) (decide (0<n%3)))) ?_ rfl ?_
    .simp[results,Tryz.f45,go_sem,q0,q1,q2,q3,q4,q5,q6,q7,q8,q9,OZ,mq]
    .exact⟨⟨x,by rw[hx],F⟩,d⟩
   .obtain⟨q,d⟩:=acM d8.out (kd:=i) (who:=a) (op:=o) (dl:=n) (wt:=n%2==1) (fc:=n%5==0) (sl:=(s%6)) (gn:=(g%4)) (st:=n%4) (n:=n%16) (gd:=decide (0<n%3))
    obtain⟨x,hx,F⟩:=Zr (c:=c) (kd:=i) (who:=a) (o:=o) (dl:=n) (wt:=n%2==1) (fc:=n%5==0) (sl:=(s%6)) (gn:=(g%4)) (st:=n%4) (n:=n%16) (gd:=decide (0<n%3)) ac hwr ho b6;clear hL G H A I J K L N O P S u U Q T V X Y Z TZ TY KX z0 z1 z2 z3 z4 z5 z6 z7 z8 z9 ao ar bi bm bv ca cb ce co d5 d6 d7 t3;revert q d;generalize World.setCell _ ⟨w.heap.size+1+1,10,none⟩ _=W4;intro q d;have q0:=cell_of q 0;have q1:=cell_of q 1;have q2:=cell_of q 2;have q3:=cell_of q 3;have q4:=cell_of q 4;have q5:=cell_of q 5;have q6:=cell_of q 6;have q7:=cell_of q 7;have q8:=cell_of q 8;have q9:=cell_of q 9;have OZ:=cell_of q 10;simp only[mq,iT,jz,lA]at q0 q1 q2 q3 q4 q5 q6 q7 q8 q9 OZ;refine cC (v:=.agg (mq i a o n (n%2==1) (n%5==0) (s%6) (g%4) (n%4) (n%16) (decide (0<n%3)))) ?_ rfl ?_
    .simp[results,Tryz.f45,go_sem,q0,q1,q2,q3,q4,q5,q6,q7,q8,q9,OZ,mq]
    .exact⟨⟨x,by rw[hx],F⟩,d⟩
end
noncomputable section
open Classical Yq
variable{c:Cn} {w:Nat} {s f:Ms} {m l:Mm} {i:Nat} {K:Nat}
def gone(a:Int)(x:aa):Prop:=fits 4 a x
def akq{a:Int}{x:aa}(h:gone a x):x.st=2\/x.st=3:=h.elim (λk=>.inl k.1) λk=>.inr k.1
def SwT(a:Int)(i:Nat)(t:Td):Prop:=match t.st with
 | .ep=>True| .pin=>True| .cl=>True
 | .dL=>t.look.ow=a/\t.look.at_<=i
 | .go=>t.look.ow=a/\t.look.at_<=i
 |_=>False
def SwP(b:Int)(i:Nat)(p:Ph):Prop:=busy p\/∃t q a,p=.ax t q a/\SwT b i t
def SwA(c:Cn)(s:Ms):Prop:=∀i,i<c.S->gone s.m.cl (s.m.sl i)->∃v,SwP s.m.cl i (s.ws v).ph
def SwI(c:Cn)(s:Ms):Prop:=s.m.cl≠0->SwA c s
def apu{b:Int}{p:Ph}(h:BzP p):SwP b i p:=by
 rcases h with h|⟨q,a,h⟩
 .exact .inl h
 .exact .inr ⟨_,q,a,h,trivial⟩
def aon{t:Td}:(t.step c w m).2.cl=m.cl:=by
 have a:=λd own l h=> @ac3 m l t d own h;have u:=(@Ps m t.rt);obtain⟨v,p,b,q,look,j,k,o,e,r⟩:=t;cases v with
 |go=>
  unfold Td.step;dsimp only;have x:=u.cl;split<;>exact x
 |clear=>
  show((Td.swap m ⟨.clear,p,b,q,look,j,k,o,e,r⟩ 12 w).getD m).cl=m.cl;cases h:Td.swap m ⟨.clear,p,b,q,look,j,k,o,e,r⟩ 12 w with
  |none=>rfl
  |some n=>exact(a _ _ _ h).cl
 |keep=>
  unfold Td.step;dsimp only;split
  .rename_i n h;exact(a _ _ _ h).cl
  .rfl
 |dR=>
  unfold Td.step;dsimp only;split
  .rename_i n h;exact(a _ _ _ h).cl
  .rfl
 |_=>
  unfold Td.step;dsimp only;repeat' split
  all_goals rfl
theorem M3{q:Qu}{x:Wr}:(aV c w s x q).m.cl=s.m.cl/\(aV c w s x q).m.sl=s.m.sl:=by
 grind [aV,Ms.put,Ms.mem,Qu.step,Mm.nT]
def ar0{t:Td}{cl:Int}(T:pX c t)(h:SwT cl i t)(E:i<c.S)(y:gone cl (m.sl i))(e:m.cl=cl):SwT cl i (t.step c w m).1:=by
 obtain⟨z,ep,U,p,look,j,r,o,a,v⟩:=t;cases z with
 |ep=>trivial
 |pin=>trivial
 |cl=>exact⟨e,tE _⟩
 |dL=>
  obtain⟨F,A⟩:look.fd=none/\look.kd=4:=T;obtain⟨b,d⟩:look.ow=cl/\look.at_<=i:=h;obtain⟨B,_⟩:=eQ;have C:(Td.fu c.S m ⟨.dL,ep,U,p,look,j,r,o,a,v⟩).look=look.step c.S m:=by
   unfold Td.fu;dsimp only;split<;>rfl
  have k:(look.step c.S m).ow=look.ow:=by unfold Fd.step;grind
  have n:(look.step c.S m).at_<=i:=by
   unfold Fd.step;split
   .exact d
   .split
    .exact d
    .rename_i D
     show look.at_+1<=i
     have:look.at_≠i:=λq=>D (by
      rw[A,b,q];exact y)
     omega
  unfold Td.step;dsimp only;rw[<-C]at k n;generalize Td.fu c.S m ⟨.dL,ep,U,p,look,j,r,o,a,v⟩=u at*;split
  .exact⟨k.trans b,n⟩
  .split
   .rename_i x
    have x:u.look.fd=none/\c.S<=u.look.at_:=x;omega
   .unfold SwT;rw[B];exact⟨k.trans b,n⟩
 |go=>
  obtain⟨b,d⟩:look.ow=cl/\look.at_<=i:=h;unfold Td.step;dsimp only;split<;>exact⟨b,d⟩
 |_=>exact h.elim
theorem akQ(h:¬busy (s.ws w).ph):(ai c s w).m.cl=s.m.cl:=by
 cases e:(s.ws w).ph with
 |rest=>grind [ai]
 |ax t p a=>
  have k:=aon (c:=c) (w:=w) (m:=s.m) (t:=t);cases d:t.step c w s.m with
  |mk n l=>
   rw[ui e d];rw[d]at k;split
   .cases p<;>exact k
   .exact k
 |parked b=>
  unfold ai;dsimp only;rw[e];dsimp only;split
  .rfl
  .exact M3.1
 |leaves q=>grind [ai,M3]
 |_=>rw[e]at h;exact tA trivial h
def aqz{t:Td}{x:Int}(p:¬gone x (m.sl i))(a:gone x ((t.step c w m).2.sl i)):SwT x i (t.step c w m).1:=by
 have A:=λd own l h=> @agt m l t d own h;have u:∀{d own more:Int} {n:aa} {k:Nat} {y:Mm},nz m y k d own more n->gone x (y.sl i)->gone x n:=by
  intro d own more n k y e h;rw[e.2]at h;grind [upd]
 obtain⟨G,B,U,C,look,j,D,o,v,z⟩:=t;cases G with
 |go=>
  exfalso;have b:gone x ((z.step m).2.sl i):=by
   unfold Td.step at a;dsimp only at a;split at a<;>exact a
  rcases agU (m:=m) (r:=z)with q|q|q|q|q
  .obtain⟨H,E⟩:=q
   rcases E with⟨n,e,_⟩|⟨F,_⟩
   .have:=u e b
    have q:=(qf e.1).2.2.2.2.2.2.2.2.2.2.2.1 rfl;have:=akq this;omega
   .rw[F]at b;exact p b
  .rw[q.2.1]at b;exact p b
  .obtain⟨H,E,F,I⟩:=q
   rcases I with⟨n,e,_⟩|⟨J,_⟩
   .have:=u e b
    have q:=(qf e.1).2.2.2.2.2.2.2.2.2.2.2.2.2.2.2.2 rfl;have:=akq this;omega
   .rw[J]at b;exact p b
  .rw[q.2.2.1]at b;exact p b
  .rw[q.2.2]at b;exact p b
 |clear=>
  exfalso;have b:gone x (((Td.swap m ⟨.clear,B,U,C,look,j,D,o,v,z⟩ 12 w).getD m).sl i):=a;cases h:Td.swap m ⟨.clear,B,U,C,look,j,D,o,v,z⟩ 12 w with
  |none=>rw[h]at b;exact p b
  |some y=>
   rw[h]at b;obtain⟨n,e⟩:=A _ _ _ h;have:=u e b;have q:=(qf e.1).2.2.2.2.2.2.2.2.2.2.2.2.1 rfl;have:=akq this;omega
 |keep=>
  exfalso;unfold Td.step at a;dsimp only at a;split at a
  .rename_i y h
   obtain⟨n,e⟩:=A _ _ _ h;have:=u e a;have q:=qf e.1;have:=akq this;split at e
   .omega
   .omega
  .exact p a
 |dR=>
  unfold Td.step at a ⊢;dsimp only at a ⊢;split at a
  .first|trivial|(rw[h])
  .exact tA a p
 |_=>
  exfalso;unfold Td.step at a;dsimp only at a;repeat' split at a
  all_goals exact p a
def ao1(I:SwA c s)(A:All c s)(H:w<c.W)(o:∀j,j≠w->(ai c s w).ws j=s.ws j):SwA c (ai c s w):=by
 intro i D y;by_cases z:busy (s.ws w).ph
 .exact⟨w,apu (aj2 z)⟩
 .have d:(ai c s w).m.cl=s.m.cl->(ai c s w).m.sl=s.m.sl->(∀t q a,(s.ws w).ph≠.ax t q a)->∃v,SwP (ai c s w).m.cl i ((ai c s w).ws v).ph:=by
   intro J L N;rw[J]at y ⊢;rw[L]at y;obtain⟨v,k⟩:=I i D y;have:v≠w:=λe=>by
    rw[e]at k;rcases k with k|⟨t,q,a,k,_⟩
    .exact z k
    .exact N t q a k
   grind
  cases n:(s.ws w).ph with
  |rest=>
   have e:ai c s w=s:=by unfold ai;dsimp only;rw[n]
   exact d (by rw[e]) (by rw[e]) (λt q a h=>by rw[n]at h;cases h)
  |parked b=>
   by_cases B:s.m.gr w≠0
   .have e:ai c s w=(s.mem s.m).put w ((s.ws w).to (.wakes (some (s.m.gr w)))):=by unfold ai;dsimp only;rw[n];dsimp only;rw[tz B];rfl
    exact⟨w,by rw[e,ae];exact .inl trivial⟩
   .have e:ai c s w=aV c w s (s.ws w) Qu.leave:=by unfold ai;dsimp only;rw[n];dsimp only;rw[ck B]
    exact d (by rw[e];exact M3.1) (by rw[e];exact M3.2) (λt q a h=>by rw[n]at h;cases h)
  |leaves q=>
   have e:ai c s w=aV c w s (s.ws w) q:=by unfold ai;dsimp only;rw[n]
   exact d (by rw[e];exact M3.1) (by rw[e];exact M3.2) (λt q a h=>by rw[n]at h;cases h)
  |ax t p a=>
   have T:pX c t:=by
    have X:=A.inv.w w H;unfold jO at X;rw[n]at X;exact X.1
   cases r:t.step c w s.m with
   |mk E l=>
    have F:=ui n r;have G:(ai c s w).m=l:=by
     rw[F];split
     .cases p<;>rfl
     .rfl
    have u:l.cl=s.m.cl:=by have:=aon (c:=c) (w:=w) (m:=s.m) (t:=t);rw[r]at this;exact this
    have C:SwT s.m.cl i E->∃v,SwP (ai c s w).m.cl i ((ai c s w).ws v).ph:=by
     intro k;have O:E.st≠.done:=λh=>by unfold SwT at k;rw[h]at k;exact k
     rw[ck O]at F;refine⟨w,?_⟩;rw[G,u,F,ae];exact .inr ⟨E,p,a,rfl,k⟩
    rw[G,u]at y;by_cases x:gone s.m.cl (s.m.sl i)
    .obtain⟨v,k⟩:=I i D x
     by_cases e:v=w
     .subst e
      rcases k with k|⟨Q,R,S,k,P⟩
      .exact tA k z
      .rw[n]at k
       cases k;have:=ar0 (w:=v) T P D x rfl;rw[r]at this;exact C this
     .exact⟨v,by rw[o v e,G,u];exact k⟩
    .have:=aqz x (by rw[r];exact y)
     rw[r]at this;exact C this
  |_=>rw[n]at z;exact tA trivial z
def ao0(I:SwI c s)(A:All c s)(a:w<c.W)(o:∀j,j≠w->(ai c s w).ws j=s.ws j):SwI c (ai c s w):=by
 intro b;by_cases h:s.m.cl≠0
 .exact ao1 (I h) A a o
 .intro i e n
  have d:busy (s.ws w).ph:=cv λk=>b (by
   grind [akQ])
  exact⟨w,apu (aj2 d)⟩
def aqJ(I:SwI c s)(A:All c s)(D:DoC c s f):SwI c f:=by
 have F:=apF D;have d:f.m.cl=s.m.cl/\∀i,(f.m.sl i).st=(s.m.sl i).st:=by
  cases D with
  |same o p=>grind
  |ask u a y z o p=>grind
  |brk j n r o p=>
   rw[o];refine⟨rfl,λi=> ?_⟩;show(upd s.m.sl j n i).st=_;grind [upd,alS]
 intro q i x b;rw[d.1]at q b ⊢;have b:gone s.m.cl (s.m.sl i):=by
  have e:=d.2 i;have:=A.cl;unfold Lj at this;unfold gone fits at b ⊢;rw[e]at b;rcases b with⟨g,_⟩|g
  .exact .inl ⟨g,.inr (by omega)⟩
  .exact .inr g
 obtain⟨v,k⟩:=I q i x b;refine⟨v,?_⟩;rcases F.ph v with h|⟨r,h⟩
 .rw[h];exact k
 .rw[h];exact .inl trivial
def aoZ:SwI c Ms.zero:=λh=>tA rfl h
end
noncomputable section
open Classical Yq
variable{c:Cn} {w:Nat} {s:Ms}
structure XtS(c:Cn)(s:Ms):Prop where
 safe:∃h,bJ c s h
 sw:SwI c s
def aqy:XtS c Ms.zero:=⟨aov,aoZ⟩
def anS(X:XtS c s)(A:All c s)(a:w<c.W)(W:c.W<=15)(b:1<=c.S)(d:aQ s w):XtS c (ai c s w):=by
 obtain⟨⟨h,S⟩,e⟩:=X;exact⟨XP S a A.inv.m (A.inv.w w a) (A.wd w a),ao0 e A a (BD a W b A.inv.m A.inv.g (A.inv.w w a) d).2.2.2.1⟩
def arZ(X:XtS c s)(A:All c s)(W:c.W<=15)(S:1<=c.S)(x:En):XtS c (dX c s x).2:=by
 by_cases k:x.kind=1
 .by_cases h:inW c x.who/\aQ s x.who.toNat
  .have e:(dX c s x).2=ai c s x.who.toNat:=by
    unfold dX;rw[ck (by omega),tz k,tz h]
   rw[e];have:=h.1;unfold inW at this;exact anS X A (by omega) W S h.2
  .have e:(dX c s x).2=s:=by
    unfold dX;rw[ck (by omega),tz k,ck h]
   rw[e];exact X
 .exact⟨aqA A X.safe x,aqJ X.sw A (aks x k)⟩
end
noncomputable section
open Go.RowKit Go.bn Go.Sx Yq
attribute [local go_sem ↓] Go.wp_at_zero Go.wp_at_succ
variable{c:Cn} {s:Ms} {e:Int} {B b:Nat} {w w':World}
abbrev Lb(c:Cn)(s:Ms)(e:Int)(B b:Nat)(w:World):Prop:=Live c s e (· <B) b w
def Lb.back{D:Nat->Prop}(a:Lb c s e B b w)(h:Live c s e D b w')(d:∀j,j<B->D j):Lb c s e B b w':=Live.mono h d a.kt
def Lb.below(h:Lb c s e B b w)(a:Below w.heap.size w w'):Lb c s e B b w':=Lb.back h (Live.below h a) λj d=>.inl d
def Lb.drew(h:Lb c s e B b w):Lb c s e B b w.drew:=Live.drew h
def Lb.size(h:Lb c s e B b w):B<=w.heap.size:=by
 rcases cn w.heap.size B with q|q
 .exact tA (h.lt _ q) (m8 _)
 .exact q
def Lb.ev(h:Lb c s e B b w)(d:e<=1000000000):Calls Tryz.prog 17 #[.pointer (some ⟨b,0,none⟩)] w λr w'=>∃v,r=.returned v/\Dx w' v s.ev w.heap.size/\Below w.heap.size w w'/\Lb c s e B b w':=by
 refine(Live.events h d).mono λr w' f=> ?_;obtain⟨v,A,rfl,o,a,l⟩:=f;exact⟨v,rfl,K3 o,a,Lb.below h a⟩
def Lb.evs(h:Lb c s e B b w)(a:e<=1000000000):s.ev.length<=1000000000:=by
 obtain⟨k,d,_,l⟩:=h.good.nx;omega
def Lb.MC(H:∀v,v<c.W->fZ c.W v)(h:Lb c s e B b w)(d:e<=1000000000)(x:En)(f:wY c x):Calls Tryz.prog jV #[.pointer (some ⟨b,0,none⟩),uZ x] w λr w'=>r=.returned (.bool (dX c s x).1)/\Below B w w'/\Lb c (dX c s x).2 (e+1) B b w':=by
 refine(Live.MC H h d x f).mono λr w' a=> ?_;exact⟨a.1,a.2.1.below,a.2.2⟩
def tch(B a n:Nat):Nat->Prop:=λj=>j<a\/B<=j/\j<n
def Lb.touch{f:Nat}(h:Lb c s e B b w)(i:f<=B)(o:2<f)(a:Kept (tch B f w.heap.size) w w'):Lb c s e f b w':=by
 obtain⟨A,F,M,l⟩:=h.oL;have n:∀k,KT k->k<f:=λk a=>by rcases a with rfl|rfl<;>omega
 refine⟨h.good,lg _ _ _ (λk a=>.inl (n k a)) h.tt a,λj d=>ba (h.lt j (ba d i)) a.size,n,A,F,M.st a.size λj d=>a.block j (.inr ⟨pL (l j · d),M.lt j d⟩),λj d m=>l j (ba d i) m⟩
def WL(c:Cn)(s:Ms)(w:Nat):(ai c s w).ev=s.ev\/∃x:Ev,x.who=w/\(ai c s w).ev=x::s.ev:=by
 have or:∀d:Ms,d.ev=s.ev/\d.now=s.now->(d.ev=s.ev\/∃x:Ev,x.who=w/\d.ev=x::s.ev):=λd h=>.inl h.1;unfold ai;dsimp only;cases(s.ws w).ph with
 |rest=>exact or _ ⟨rfl,rfl⟩
 |pin h=>cases h<;>exact or _ ⟨rfl,rfl⟩
 |work k=>exact or _ (NZ _ _ _ _)
 |counts t=>dsimp only;(repeat' split)<;>exact or _ ⟨rfl,rfl⟩
 |enters q=>dsimp only;(repeat' split)<;>exact or _ ⟨rfl,rfl⟩
 |ax t p a=>
  dsimp only;split
  .cases p with
   |some b=>exact or _ ⟨rfl,rfl⟩
   |none=>exact .inr ⟨_,rfl,rfl⟩
  .exact or _ ⟨rfl,rfl⟩
 |parked b=>dsimp only;split<;>first|exact or _ (zP _ _ _ _)|exact or _ (xK _ _ _ _)
 |wakes h=>exact or _ (zP _ _ _ _)
 |leaves q=>exact or _ (xK _ _ _ _)
def Wh(c:Cn)(s:Ms):Prop:=∀x,x∈s.ev->x.who<c.W
def Wh.same{s a:Ms}(h:Wh c s)(e:a.ev=s.ev):Wh c a:=λx d=>h x (by rw[<-e];exact d)
def Wh.cons{s a:Ms}{y:Ev}(h:Wh c s)(f:y.who<c.W)(e:a.ev=y::s.ev):Wh c a:=λx d=>by
 rw[e]at d;rcases db.1 d with rfl|q
 .exact f
 .exact h x q
def SF{v:Nat}(h:Wh c s)(a:v<c.W):Wh c (ai c s v):=by
 rcases WL c s v with q|⟨x,d,q⟩
 .exact h.same q
 .exact h.cons (by omega) q
def aik(h:Wh c s)(x:En):Wh c (dX c s x).2:=by
 unfold dX;repeat' split
 all_goals first|exact h|skip
 .rename_i m
  obtain⟨⟨a,d⟩,_⟩:=m;exact h.cons (y:=⟨false,x.who.toNat,{x.a with op:=x.op.toNat},bR.zero⟩) (by show x.who.toNat<c.W;omega) rfl
 .rename_i m
  obtain⟨⟨a,d⟩,_⟩:=m;exact SF h (by omega)
def adS:Wh c Ms.zero:=λx h=>by cases h
def Wg(c:Cn)(n:Int)(s:Ms):Prop:=(Wh c s/\XtS c s)/\∃K:Nat,(K:Int)<=n/\GyS c s K
def Lv(c:Cn)(n:Int)(B b:Nat)(w:World):Prop:=∃s e,(All c s/\Wg c n s)/\Lb c s e B b w/\e<=n
def an3{n a:Int}(h:Wg c n s)(d:n<=a):Wg c a s:=⟨h.1,h.2.choose,by have:=h.2.choose_spec.1;omega,h.2.choose_spec.2⟩
def apW{n:Int}(h:Wg c n s)(W:c.W<=14)(S:1<=c.S)(f:n<=1000000000)(x:En)(d:x.a.dl<=255):Wg c (n+1) (dX c s x).2:=by
 obtain⟨a,K,i,G⟩:=h;exact⟨⟨aik a.1 x,arZ a.2 G.x.nx.all (by omega) S x⟩,K+1,by omega,amf G W S (by omega) x d⟩
structure Dq(w:World)(A:Option Addr)(n:Nat):Prop where
 at_:∀k,k<n->∃(g off:Nat) (a0 a1 a2 a3 a4 a5:Int),A=some ⟨g,off,none⟩/\g<w.heap.size/\(U8 a0/\U8 a1/\U8 a2/\U8 a3/\U8 a4/\U8 a5)/\w.cell? ⟨g,off+k*6,none⟩=some (.int .u8 a0)/\w.cell? ⟨g,off+k*6+1,none⟩=some (.int .u8 a1)/\w.cell? ⟨g,off+k*6+2,none⟩=some (.int .u8 a2)/\w.cell? ⟨g,off+k*6+3,none⟩=some (.int .u8 a3)/\w.cell? ⟨g,off+k*6+4,none⟩=some (.int .u8 a4)/\w.cell? ⟨g,off+k*6+5,none⟩=some (.int .u8 a5)
def adm(w:World)(a b:Obj):((w.alloc a).alloc b).heap[w.heap.size+1]?=some b:=by
 simp only[qU,cQ,vh];rw[tz trivial]
set_option maxHeartbeats 4000000 in
def abk{a1 a2 a3 a4 a5:Int}(h1:U8 a1)(Y:U8 a2)(h3:U8 a3)(h4:U8 a4)(h5:U8 a5){c:Cn}(hc:c=Jy a1 a2 a3 a4 a5)(H:∀v,v<c.W->fZ c.W v){A:Option Addr}{n cap:Nat}(hn:n<=200)(w:World)(C:TT w)(l:Dq w A n):
  Calls Tryz.prog 27 #[.agg #[.int .u8 a1,.int .u8 a2,.int .u8 a3,.int .u8 a4,.int .u8 a5],.slice A n cap] w λr w'=>∃b,r=.returned (.tuple #[.pointer (some ⟨b,0,none⟩),.agg (dI c).toArray])/\Below w.heap.size w w'/\Lv c n w.heap.size b w':=by
 obtain⟨hR,uF,S⟩:=Df h1 Y h3 h4 h5;have m:=λW C=>ack h1 Y h3 h4 h5 W C;rw[<-hc]at hR uF S m;have T:∀o o',TT ((w.alloc o).alloc o'):=λo o'=>nG C (((Below.refl _ w).alloc (aq _) o).alloc (by simp) o') (C.lt 2 (.inr rfl));have HA:=Lib.hid l;have HC:=Lib.hid hc;clear l hc;go_enter Tryz.func27,Tryz.ntmps27
 go_wp2_with first
  |(go_at_call 44;refine(m _ (T _ _).1).mono ?_;rintro r a ⟨rfl,d⟩;have rQ:∀o,TT (a.alloc o):=(λo=>nG (T _ _) (d.trans ((Below.refl _ a).alloc d.size o)) ((T _ _).lt 2 (.inr rfl)));have K1:=d.size;have d5:w.heap.size+2<=a.heap.size:=(by simpa using K1);have mM:a.heap[w.heap.size+1]?=some (.cells #[.int .i64 0,.int .i64 0,.int .i64 0,.int .i64 0,.int .i64 0] 30 (0,0)):=((d.block (w.heap.size+1) (by simp)).trans (adm w _ _));have ac:Below w.heap.size w a:=(((Below.refl _ w).alloc (aq _) _).alloc (by simp) _).trans (d.mono (by simp;omega));clear d K1)
  |(go_at_call 26;refine(PN hR uF S _ (rQ _)).mono ?_;rintro r u ⟨b,rfl,D,L⟩;have E:=Lib.hid D;clear D)
 have F:Lb c Ms.zero 0 (a.heap.size+1) b u:=by simpa using L
 have G:Below (a.heap.size+1) (a.alloc (.cells (dI c).toArray 30)) u:=by simpa using E.out
 have I:Below w.heap.size w u:=(ac.trans ((Below.refl _ a).alloc (aq _) (.cells (dI c).toArray 30) |>.mono (by omega))).trans (G.mono (by omega));have wM:u.heap[a.heap.size]?=some (.cells (dI c).toArray 30 (0,0)):=by
  rw[G.block a.heap.size (by omega)];simp[qU,cQ]
 have EM:u.heap[w.heap.size+1]?=some (.cells #[.int .i64 0,.int .i64 0,.int .i64 0,.int .i64 0,.int .i64 0] 30 (0,0)):=by
  rw[G.block (w.heap.size+1) (by omega),b7 _ _ _ (by omega)];exact mM
 have HX:=Lib.hid (And.intro wM EM);have HY:=Lib.hid (And.intro G I);clear wM EM G I mM L E T rQ m
 go_loopw [9] (fun i wr=>∃k:Nat,k<=n/\i=.int .i64 k/\Below (a.heap.size+1) u wr/\Lv c k (a.heap.size+1) b wr)
  (λi _=>n-(intOf i).toNat)
 case atStart=>exact⟨0,tE _,rfl,Below.refl _ _,Ms.zero,0,⟨all_zero,⟨adS,aqy⟩,0,jx _,aoc⟩,F,by omega⟩
 case round=>
  obtain⟨k,hk,rfl,J,N⟩:=hrel;have Z:wr.heap[a.heap.size]?=some (.cells (dI c).toArray 30 (0,0)):=by rw[J.block a.heap.size (by omega)];exact HX.out.1
  have h:wr.heap[w.heap.size+1]?=some (.cells #[.int .i64 0,.int .i64 0,.int .i64 0,.int .i64 0,.int .i64 0] 30 (0,0)):=by rw[J.block _ (by omega)];exact HX.out.2
  by_cases am:k<n
  .obtain⟨g,f,u0,u1,u2,u3,u4,u5,rfl,y,⟨v0,v1,v2,v3,v4,v5⟩,t0,t1,t2,t3,t4,t5⟩:=HA.out.at_ k am
   obtain⟨s,e,l,O,he⟩:=N;have ao:(k:Int)<(n:Int):=by omega
   have d6:wrap64 ((k:Int)+1)=(k:Int)+1:=ga _ (by omega);have P:∀W:World,Below (a.heap.size+1) wr W->W.cell? ⟨g,f+k*6,none⟩=some (.int .u8 u0)/\W.cell? ⟨g,f+k*6+1,none⟩=some (.int .u8 u1)/\W.cell? ⟨g,f+k*6+2,none⟩=some (.int .u8 u2)/\W.cell? ⟨g,f+k*6+3,none⟩=some (.int .u8 u3)/\W.cell? ⟨g,f+k*6+4,none⟩=some (.int .u8 u4)/\W.cell? ⟨g,f+k*6+5,none⟩=some (.int .u8 u5)/\W.cell? ⟨a.heap.size,0,none⟩=some (.int .i64 (c.W:Int))/\W.cell? ⟨a.heap.size,1,none⟩=some (.int .i64 (c.S:Int))/\W.cell? ⟨a.heap.size,2,none⟩=some (.int .i64 c.st)/\W.cell? ⟨a.heap.size,3,none⟩=some (.int .i64 (c.wt:Int))/\W.cell? ⟨a.heap.size,4,none⟩=some (.int .i64 c.u)/\Below (a.heap.size+1) wr W:=λW hW=>by
    have z:Below w.heap.size w W:=HY.out.2.trans ((J.trans hW).mono (by omega));have e:∀i,i<5->W.cell? ⟨a.heap.size,i,none⟩=(dI c)[i]?:=λi hi=>by
     rw[hW.cell (p:=⟨a.heap.size,i,none⟩) (by show a.heap.size<_;omega),cell_of Z];simp
    exact⟨(z.cell (p:=⟨g,_,none⟩) y).trans t0,(z.cell (p:=⟨g,_,none⟩) y).trans t1,(z.cell (p:=⟨g,_,none⟩) y).trans t2,(z.cell (p:=⟨g,_,none⟩) y).trans t3,(z.cell (p:=⟨g,_,none⟩) y).trans t4,(z.cell (p:=⟨g,_,none⟩) y).trans t5,e 0 (by omega),e 1 (by omega),e 2 (by omega),e 3 (by omega),e 4 (by omega),hW⟩
   have HT:=Lib.hid (And.intro t0 (And.intro t1 (And.intro t2 (And.intro t3 (And.intro t4 t5)))));have HQ:=Lib.hid (And.intro Z h);clear t0 t1 t2 t3 t4 t5 Z h;have ar:1<=c.W/\c.W<=4:=⟨F.good.W.1,uF⟩;have q:e<=1000000000:=by omega
   have d7:=F.size;have bi:=O.size;go_upto_region 8 with(fail)
   go_region_held3 (fun W=>W.cell? ⟨g,f+k*6,none⟩=some (.int .u8 u0)/\W.cell? ⟨g,f+k*6+1,none⟩=some (.int .u8 u1)/\W.cell? ⟨g,f+k*6+2,none⟩=some (.int .u8 u2)/\W.cell? ⟨g,f+k*6+3,none⟩=some (.int .u8 u3)/\W.cell? ⟨g,f+k*6+4,none⟩=some (.int .u8 u4)/\W.cell? ⟨g,f+k*6+5,none⟩=some (.int .u8 u5)/\W.cell? ⟨a.heap.size,0,none⟩=some (.int .i64 (c.W:Int))/\W.cell? ⟨a.heap.size,1,none⟩=some (.int .i64 (c.S:Int))/\W.cell? ⟨a.heap.size,2,none⟩=some (.int .i64 c.st)/\W.cell? ⟨a.heap.size,3,none⟩=some (.int .i64 (c.wt:Int))/\W.cell? ⟨a.heap.size,4,none⟩=some (.int .i64 c.u)/\Below (a.heap.size+1) wr W)
    (first|exact P _ (Below.refl _ _).drew|exact P _ (Below.refl _ _)|exact P _ YW|exact P _ Ip|exact P _ Q)
    (first
     |(go_at_call 17;refine(Lb.ev O.drew q).mono ?_;rintro r w5 ⟨v',rfl,bm,bv,R⟩;have YW:Below (a.heap.size+1) wr w5:=(Below.refl _ _).drew.trans (bv.mono bi))
     |(go_at_call 45;refine(Zq ar v0 v1 v2 v3 v4 v5 (Lb.evs O q) _ bm).mono ?_;rintro r w6 ⟨⟨x,rfl,hx,ca⟩,U⟩;have Ip:Below (a.heap.size+1) wr w6:=YW.trans (U.mono R.size);have cb:=Lb.below R U)
     |(go_at_call 18;refine(Lb.MC H cb q x hx).mono ?_;rintro r w7 ⟨rfl,ce,co⟩;have Q:=Ip.trans ce))
   go_wp2;go_roundw
   case rel=>exact⟨k+1,by omega,by go_num,J.trans Q,_,_,⟨QX l.1 (by omega) F.good.S.1 x,apW l.2 (by omega) F.good.S.1 (by omega) x ca⟩,co,by omega⟩
   case measure=>simp[intOf];omega
  .have ao:¬((k:Int)<(n:Int)):=by omega
   obtain rfl:k=n:=by omega
   obtain⟨c0,c1,c2,c3,c4⟩:=five Z;obtain⟨r0,r1,r2,r3,r4⟩:=five h;have f0:=aW h 0;have f1:=aW h 1;have f2:=aW h 2;have f3:=aW h 3;have f4:=aW h 4;go_wp2;go_region
   all_goals go_wp2
   have hS:=heap_put (heap_put (heap_put (heap_put (heap_put h 0 (.int .i64 (c.W:Int))) 1 (.int .i64 (c.S:Int))) 2 (.int .i64 c.st)) 3 (.int .i64 (c.wt:Int))) 4 (.int .i64 c.u);have K:∀X:Nat->Prop,¬X (w.heap.size+1)->Kept X wr (((((wr.setCell ⟨w.heap.size+1,0,none⟩ (.int .i64 (c.W:Int))).setCell ⟨w.heap.size+1,1,none⟩ (.int .i64 (c.S:Int))).setCell ⟨w.heap.size+1,2,none⟩ (.int .i64 c.st)).setCell ⟨w.heap.size+1,3,none⟩ (.int .i64 (c.wt:Int))).setCell ⟨w.heap.size+1,4,none⟩ (.int .i64 c.u)).drew:=λX V=>(((((Kept.refl X wr).setCell (p:=⟨_,0,none⟩) V _).setCell (p:=⟨_,1,none⟩) V _).setCell (p:=⟨_,2,none⟩) V _).setCell (p:=⟨_,3,none⟩) V _).setCell (p:=⟨_,4,none⟩) V _ |>.drew;revert hS K;generalize World.setCell _ ⟨w.heap.size+1,4,none⟩ _=W4;intro hS K;obtain⟨q0,q1,q2,q3,q4⟩:=five hS;refine cC (v:=.tuple #[.pointer (some ⟨b,0,none⟩),.agg (dI c).toArray]) ?_ rfl ?_
   .simp[results,Tryz.f27,go_sem,q0,q1,q2,q3,q4,dI]
   .obtain⟨s,e,l,O,he⟩:=N
    have Y:=C.lt 2 (.inr rfl);exact⟨b,rfl,(HY.out.2.trans (J.mono (by omega))).trans (K (· <w.heap.size) (by omega)).below,s,e,l,O.touch (by omega) Y (K _ (by unfold tch;omega)),he⟩
