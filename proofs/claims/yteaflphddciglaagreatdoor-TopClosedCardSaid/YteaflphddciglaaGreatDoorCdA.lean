/- Laws of the proof, joined. No condition of its own. -/
import Derived.Test.YteaflphddciglaaGreatDoorCcD
import Derived.Deep.CutBlock
import Derived.Test.YteaflphddciglaaGreatDoorCbC
set_option linter.all false
def fN:=@Go.World.cell?_alloc_old
def ga:=@Go.IntWalk.wrap64_in
def oA:=@and_true
def oQ:=@Go.Lib.run_eql_slice_nil
def rG:=@Array.size_push
namespace Go.Proofs.YteaflphddciglaaGreatDoor
namespace bq
noncomputable section
open Go.RowKit Go.bn Go.Sx Yq
theorem U0(c:Cf):(iR sN 40 40 [c.val] []).run (Option Value) none (λr=>some r.1)=
  bif decide (1<=c.w)then bif decide (c.w<=8)then bif decide (1<=c.s)then bif decide (c.s<=16)then bif decide (0<=c.st)then bif decide (c.st<=8)then bif decide (0<=c.wt)then bif decide (c.wt<=8)then bif decide (1<=c.u)then
   some (.bool (decide (c.u<=60)))else some (.bool false)else some (.bool false)else some (.bool false)else some (.bool false)else some (.bool false)else some (.bool false)else some (.bool false)else some (.bool false)else some (.bool false):=by kernel_rfl
theorem QG(c:Cn):(iM c).val=.agg (dI c).toArray:=rfl
theorem YX{G:Kj}(w:World):HR (· <w.heap.size) w G (λ_=>none) [] w:=
 ⟨λk hk=>hk,Kept.refl _ _,iB.no λk p h=>(by cases h),λk p h=>(by cases h),λk p h=>(by cases h),λk k' p p' h=>(by cases h),λk p h=>(by cases h)⟩
theorem jR{c:Cn}(h:fI (iM c))(w:World)(hT:cB w):Calls Tryz.prog 40 #[.agg (dI c).toArray] w λe w'=>e=.returned (.bool true)/\Below w.heap.size w w':=by
 have t:=U0 (iM c);rw[cN h.w.1,cN h.w.2,cN h.s.1,cN h.s.2,cN h.st.1,cN h.st.2,cN h.wt.1,cN h.wt.2,cN h.u.1,cN h.u.2]at t;have hB:eB (· <w.heap.size) w:=λk hk=>hk;have hE:=oz (· <w.heap.size) w hT.lt hB hT;rw[M.run_eq]at t;cases hx:(iR sN 40 40 [(iM c).val] []).get with
 |none=>rw[hx]at t;cases t
 |some r=>
  rw[hx]at t;have t:some r.1=some (.bool true):=t;have t:=b9 t;have hc:=(A8 hE rfl hx).2;refine(hc (λ_=>none) w #[.agg (dI c).toArray] (YX w) ⟨rfl,λi x y hx hy=> ?_⟩).mono λe w' hh=> ?_
  .match i with
   |0=>simp at hx hy;subst hx hy;exact VR.plain _ (by simp[Go.Sx.plain,Go.Sx.aN,QG])
   |i+1=>simp at hx
  .obtain⟨v',rfl,σ',_,kS,hr'⟩:=hh
   rw[t]at kS;rw[kS.aD rfl];exact⟨rfl,hr'.below.below⟩
theorem Uw(c:Cn):aC c Mm.zero=List.replicate (3+2*c.W+c.S) 0:=by
 rw[List.eq_replicate_iff];refine⟨nE c Mm.zero,λx hx=> ?_⟩;unfold aC at hx;simp only[db,eS,kx]at hx;rcases hx with h|h|h|h|h|h
 .exact h
 .exact h
 .exact h
 .obtain⟨_,_,rfl⟩:=h;rfl
 .obtain⟨_,_,rfl⟩:=h;rfl
 .obtain⟨_,_,rfl⟩:=h
  show bH aa.zero=0;decide
theorem VX{c:Cn}(h:fI (iM c)):lJ c Mm.zero:=⟨h,λi hi=>IP,⟨by decide,λa ha=>by cases ha⟩⟩
theorem ajd{c:Cn}{m:Mm}{F:Nat->Prop}{b t:Nat}{tc:Int}{w:World}(hf:lJ c m)(hF:∀j,F j->j<w.heap.size)(fb:F b)(ft:F t)(hne:b≠t)(c0:w.cell? ⟨b,0,none⟩=some (.slice (some ⟨t,0,none⟩) (nC c) (nC c)))(c1:w.cell? ⟨b,1,none⟩=some (.int .i64 tc))
  (hw:∀(i:Nat) (x:Int),(aC c m)[i]?=some x->w.cell? ⟨t,i,none⟩=some (.int .i64 x)) (zb:∀o,w.frozen? ⟨b,o,none⟩=false) (zt:∀o,w.frozen? ⟨t,o,none⟩=false):rC (.mem c m) F b w:=by
 refine⟨hf,nC c,tc,rfl,hF,λk=>match k with|0=>some ⟨b,0,0,0⟩|1=>some ⟨t,0,1,nC c⟩|_=>none,?_,⟨_,rfl,rfl,rfl⟩,λk p hk _=> ?_⟩
 .have hk:∀(k:Nat) (p:Pl),(match k with|0=>some (⟨b,0,0,0⟩:Pl)|1=>some ⟨t,0,1,nC c⟩|_=>none)=some p->(k=0/\p=⟨b,0,0,0⟩)\/(k=1/\p=⟨t,0,1,nC c⟩):=λk p hk=>by
   match k,hk with
   |0,hk=>exact .inl ⟨rfl,(b9 hk).symm⟩
   |1,hk=>exact .inr ⟨rfl,(b9 hk).symm⟩
  have Ir:∀(k:Nat) (p:Pl),(match k with|0=>some (⟨b,0,0,0⟩:Pl)|1=>some ⟨t,0,1,nC c⟩|_=>none)=some p->F p.b:=λk p h=>by
   rcases hk k p h with⟨_,rfl⟩|⟨_,rfl⟩
   .exact fb
   .exact ft
  refine⟨sD F w,Kept.refl _ _,iB.no λk p h1=> ?_,λk p h1=> ?_,λk p h1=>hF _ (Ir k p h1),λk k' p p' h1 h1' _ _ hb=> ?_,λk p h1=> ?_⟩
  .rcases hk k p h1 with⟨rfl,_⟩|⟨rfl,_⟩<;>exact .inr rfl
  .rcases hk k p h1 with⟨rfl,_⟩|⟨rfl,_⟩<;>(show _<2;omega)
  .rcases hk k p h1 with⟨rfl,rfl⟩|⟨rfl,rfl⟩<;>rcases hk k' p' h1' with⟨rfl,rfl⟩|⟨rfl,rfl⟩<;>first|rfl|exact absurd hb hne|exact absurd hb.symm hne
  .have out:¬j5 F w p.b:=fun hx=>hx.2 (Ir k p h1)
   rcases hk k p h1 with⟨rfl,rfl⟩|⟨rfl,rfl⟩
   .refine⟨fun _=>⟨out,zb,fun j hj=>absurd hj (by simp)⟩,fun i v hv=> ?_⟩
    match i,hv with
    |0,hv=>cases hv;exact⟨_,c0,VR.slice (off:=0) (p:=⟨t,0,1,nC c⟩) rfl⟩
    |1,hv=>cases hv;exact⟨_,c1,.int _ _⟩
   .refine⟨fun _=>⟨out,zt,fun j hj=> ?_⟩,rfl,fun i x hx=>by rw[cg];exact hw i x hx⟩
    have hj:j<nC c:=by simpa using hj
    rw[cg,hw j _ (aw (by rw[nE];exact hj))];rfl
 .match k,hk with
  |0,hk=>cases hk;exact fb
  |1,hk=>cases hk;exact ft
theorem Mc{n:Nat}(hn:n<=1048576)(w:World):(Instr.makeSlice 35 (.int .i64 (n:Int)) (.int .i64 (n:Int))).run Tryz.prog w=.ok (.slice (some ⟨w.heap.size,0,none⟩) n n) (w.alloc (.cells (Array.replicate n (.int .i64 0)) 3)):=by
 have hsz:(Tryz.prog.info? 3).map (λi=>(i.size,i.bytes))=some (1,8):=by kernel_rfl
 cases hi:Tryz.prog.info? 3 with
 |none=>rw[hi]at hsz;cases hsz
 |some i=>
  rw[hi]at hsz;simp only[eR,cq,kB]at hsz;have:=kU (P:=Tryz.prog) (t:=35) (e:=3) (z:=.int .i64 0) (l:=(n:Int)) (by kernel_rfl) hi (λw=>(lU (by kernel_rfl) w).1) rfl hsz.1 (by omega) (by omega) (by omega) w;rwa[cH]at this
theorem Wt{c:Cn}(h:fI (iM c))(w:World):Calls Tryz.prog 58 #[.agg (dI c).toArray] w λe w'=>e=.returned (.int .i64 (nC c:Int))/\Below w.heap.size w w':=by
 have h1:=h.w;have h2:=h.s;unfold iM at h1 h2;simp only at h1 h2;have e:3+2*(c.W:Int)+(c.S:Int)=(nC c:Int):=by unfold nC;omega
 have E:=Lib.hid e;clear e;go_enter Tryz.func58,Tryz.ntmps58
 go_wp2;go_ret;refine⟨?_,(Below.refl _ _).alloc (aq _) _⟩;rw[<-E.out];rfl
set_option maxRecDepth 20000 in
theorem QH{n:Nat}(h1:1<=n)(h2:n<=4096)(w:World):Calls Tryz.prog 57 #[.int .i64 (n:Int)] w λe w'=>∃b t,e=.returned (.tuple #[.pointer (some ⟨b,0,none⟩),.int .i64 0])/\Below w.heap.size w w'/\w.heap.size<=b/\w.heap.size<=t/\b<w'.heap.size/\t<w'.heap.size/\b≠t/\
  w'.cell? ⟨b,0,none⟩=some (.slice (some ⟨t,0,none⟩) n n)/\w'.cell? ⟨b,1,none⟩=some (.int .i64 0)/\(∀i,i<n->w'.cell? ⟨t,i,none⟩=some (.int .i64 0))/\(∀o,w'.frozen? ⟨b,o,none⟩=false)/\∀o,w'.frozen? ⟨t,o,none⟩=false:=by
 have hmk:=λW=>Mc (n:=n) (by omega) W
 have fin:∀w':World,w'=(w.alloc (.cells (Array.replicate n (.int .i64 0)) 3)).alloc (.cells #[.slice (some ⟨w.heap.size,0,none⟩) n n,.int .i64 0] 107)->Below w.heap.size w w'/\w.heap.size<=w.heap.size+1/\w.heap.size<=w.heap.size/\w.heap.size+1<w'.heap.size/\w.heap.size<w'.heap.size/\w.heap.size+1≠w.heap.size/\
   w'.cell? ⟨w.heap.size+1,0,none⟩=some (.slice (some ⟨w.heap.size,0,none⟩) n n)/\w'.cell? ⟨w.heap.size+1,1,none⟩=some (.int .i64 0)/\(∀i,i<n->w'.cell? ⟨w.heap.size,i,none⟩=some (.int .i64 0))/\(∀o,w'.frozen? ⟨w.heap.size+1,o,none⟩=false)/\∀o,w'.frozen? ⟨w.heap.size,o,none⟩=false:=by
  rintro _ rfl;have hs:w.heap.size+1=(w.alloc (.cells (Array.replicate n (.int .i64 0)) 3)).heap.size:=by simp
  have ho:=b7 (w.alloc (.cells (Array.replicate n (.int .i64 0)) 3)) (.cells #[.slice (some ⟨w.heap.size,0,none⟩) n n,.int .i64 0] 107) w.heap.size (by simp);refine⟨((Below.refl _ w).alloc (aq _) _).alloc (by simp) _,by omega,aq _,by simp,by simp;omega,by omega,?_,?_,λi hi=> ?_,λo=> ?_,λo=> ?_⟩
  .rw[hs,dk];rfl
  .rw[hs,dk];rfl
  .rw[cM (a:=⟨w.heap.size,i,none⟩) ho,dk]
   simp[hi]
  .rw[hs];exact fX _ _ _ _
  .rw[nh (a:=⟨w.heap.size,o,none⟩) ho];exact fX _ _ _ _
 go_enter Tryz.func57,Tryz.ntmps57
 go_wp2
 all_goals go_ret2
 all_goals exact⟨_,_,rfl,fin _ rfl⟩
theorem ae2{c:Cn}(h:fI (iM c))(w:World)(hT:cB w):Calls Tryz.prog 41 #[.agg (dI c).toArray] w λe w'=>∃b1 fm,e=.returned (.tuple #[.pointer (some ⟨b1,0,none⟩),.int .i64 0])/\Below w.heap.size w w'/\rC (.mem c Mm.zero) fm b1 w'/\∀j,fm j->w.heap.size<=j:=by
 have hn:1<=nC c/\nC c<=4096:=by
  have h1:=h.w;have h2:=h.s;unfold iM at h1 h2;simp only at h1 h2;unfold nC;omega
 have hr:=λW hT=>jR h W hT;have hN:=λW=>Wt h W;have hM:=λW=>QH hn.1 hn.2 W;have hT1:∀o,cB (w.alloc o):=λo=>hT.mR (n:=(· <w.heap.size)) hT.lt (Kept.of_below ((Below.refl _ w).alloc (aq _) o));have hz:=Uw c;have hff:=VX h;go_enter Tryz.func41,Tryz.ntmps41
 go_wp2_with first
  |(go_at_call 40;refine(hr _ (hT1 _)).mono ?_;rintro e w1 ⟨rfl,hb1⟩;have k1:=hb1.size;have ka:∀i,i<5->w1.cell? ⟨w.heap.size,i,none⟩=(w.alloc (.cells (dI c).toArray 30)).cell? ⟨w.heap.size,i,none⟩:=λi _=>hb1.cell (p:=⟨w.heap.size,i,none⟩) (by simp))
  |(go_at_call 58;refine(hN _).mono ?_;rintro e w2 ⟨rfl,hb2⟩)
  |(go_at_call 57;refine(hM _).mono ?_;rintro e w3 ⟨b,t,rfl,hb3,q1,q2,q3,q4,q5,q6,q7,q8,q9,OZ⟩)
 go_ret2
 have b0:Below w.heap.size w (w.alloc (.cells (dI c).toArray 30)):=(Below.refl _ w).alloc (aq _) _;have s0:=b0.size;have s1:=hb1.size;have s2:=hb2.size;have s3:=hb3.size;have hb:=((b0.trans (hb1.mono s0)).trans (hb2.mono (by omega))).trans (hb3.mono (by omega));refine⟨b,λj=>j=b\/j=t,rfl,hb,?_,λj hj=>by rcases hj with rfl|rfl<;>omega⟩;refine ajd hff (λj hj=>by rcases hj with rfl|rfl<;>omega) (.inl rfl) (.inr rfl) q5 q6 q7 (λi x hx=> ?_) q9 OZ;rw[hz,mY]at hx;by_cases hi:i<3+2*c.W+c.S
 .rw[if_pos hi]at hx;cases hx
  exact q8 i hi
 .rw[if_neg hi]at hx;cases hx
def i0:Value:=.int .i64 0
def f0:Value:=.bool false
def wz:List Value:=[i0,i0,i0,f0,f0,i0,i0,i0,f0,i0,i0,.nilFunc,.pointer none,.pointer none,.pointer none,f0,f0,f0,i0,i0,i0,i0,f0,f0,i0,i0,i0,i0,i0,i0,i0,i0,i0,i0,i0]
def BC(n:Nat):Array Value:=((List.replicate n wz).flatten).toArray
theorem ae8(w:World):(Instr.makeSlice 81 (.int .i64 1) (.int .i64 1)).run Tryz.prog w=.ok (.slice (some ⟨w.heap.size,0,none⟩) 1 1) (w.alloc (.cells (BC 1) 94)):=by kernel_rfl
theorem ae7(w:World):(Instr.makeSlice 81 (.int .i64 2) (.int .i64 2)).run Tryz.prog w=.ok (.slice (some ⟨w.heap.size,0,none⟩) 2 2) (w.alloc (.cells (BC 2) 94)):=by kernel_rfl
theorem ae6(w:World):(Instr.makeSlice 81 (.int .i64 3) (.int .i64 3)).run Tryz.prog w=.ok (.slice (some ⟨w.heap.size,0,none⟩) 3 3) (w.alloc (.cells (BC 3) 94)):=by kernel_rfl
theorem ae5(w:World):(Instr.makeSlice 81 (.int .i64 4) (.int .i64 4)).run Tryz.prog w=.ok (.slice (some ⟨w.heap.size,0,none⟩) 4 4) (w.alloc (.cells (BC 4) 94)):=by kernel_rfl
theorem agW{n:Nat}(h1:1<=n)(h4:n<=4)(w:World):(Instr.makeSlice 81 (.int .i64 (n:Int)) (.int .i64 (n:Int))).run Tryz.prog w=.ok (.slice (some ⟨w.heap.size,0,none⟩) n n) (w.alloc (.cells (BC n) 94)):=by
 rcases(by omega:n=1\/n=2\/n=3\/n=4)with rfl|rfl|rfl|rfl
 .exact ae8 w
 .exact ae7 w
 .exact ae6 w
 .exact ae5 w
theorem flat_get{α:Type}(l:List α):∀(n v i:Nat),v<n->i<l.length->((List.replicate n l).flatten)[v*l.length+i]?=l[i]?
 |0,v,i,h,_=>by omega
 |n+1,0,i,_,hi=>by
  rw[List.replicate_succ,List.flatten_cons,Nat.zero_mul,cg,cD hi]
 |n+1,v+1,i,h,hi=>by
  rw[List.replicate_succ,List.flatten_cons,cx (by rw[kj];omega)];have e:(v+1)*l.length+i-l.length=v*l.length+i:=by rw[kj];omega
  rw[e];exact flat_get l n v i (by omega) hi
theorem adQ{n v i:Nat}(h:v<n)(hi:i<35):(BC n)[v*35+i]?=wz[i]?:=by
 unfold BC;rw[iT];exact flat_get wz n v i h hi
structure Be(c:Cn)(w2 w':World)(b1 bc bw r bo b:Nat):Prop where
 qZ:Below w2.heap.size w2 w'
 ge:w2.heap.size<=bc/\w2.heap.size<=bw/\w2.heap.size<=r/\w2.heap.size<=bo/\w2.heap.size<=b
 nd:bc≠bw/\bc≠r/\bc≠bo/\bc≠b/\bw≠r/\bw≠bo/\bw≠b/\r≠bo/\r≠b/\bo≠b
 hc:w'.heap[bc]?=some (.cells #[.int .i64 0] 114 (0,0))
 hw:w'.heap[bw]?=some (.cells (BC c.W) 94 (0,0))
 hr:w'.heap[r]?=some (.cells #[.slice none 0 0,.int .i64 1000] 128 (0,0))
 ho:w'.heap[bo]?=some (.cells #[.pointer (some ⟨r,0,none⟩),.int .i64 0,.int .i64 0] 117 (0,0))
 hb:∃t,w'.heap[b]?=some (.cells #[.int .i64 (c.W:Int),.int .i64 (c.S:Int),.int .i64 c.st,.int .i64 (c.wt:Int),.int .i64 c.u,.pointer (some ⟨b1,0,none⟩),.pointer (some ⟨bc,0,none⟩),.pointer (some ⟨bo,0,none⟩),.slice none 0 0,.slice (some ⟨bw,0,none⟩) c.W c.W,.int .i64 0,.int .i64 0] t (0,0))
theorem cell_of{w:World}{b:Nat}{cs:Array Value}{t:TypeId}(h:w.heap[b]?=some (.cells cs t (0,0)))(i:Nat):w.cell? ⟨b,i,none⟩=cs[i]?:=by simp[World.cell?,h]
theorem aW{w:World}{b:Nat}{cs:Array Value}{t:TypeId}(h:w.heap[b]?=some (.cells cs t (0,0)))(i:Nat):w.frozen? ⟨b,i,none⟩=false:=by simp[World.frozen?,h]
theorem gQ{w:World}{b:Nat}{o:Obj}(h:w.heap[b]?=some o):b<w.heap.size:=(bk.1 h).1
theorem five{w:World}{b:Nat}{t:TypeId}{x0 x1 x2 x3 x4:Value}(h:w.heap[b]?=some (.cells #[x0,x1,x2,x3,x4] t (0,0))):w.cell? ⟨b,0,none⟩=some x0/\w.cell? ⟨b,1,none⟩=some x1/\w.cell? ⟨b,2,none⟩=some x2/\w.cell? ⟨b,3,none⟩=some x3/\w.cell? ⟨b,4,none⟩=some x4:=⟨cell_of h 0,cell_of h 1,cell_of h 2,cell_of h 3,cell_of h 4⟩
theorem seven{w:World}{b:Nat}{t:TypeId}{x0 x1 x2 x3 x4 x5 x6:Value}(h:w.heap[b]?=some (.cells #[x0,x1,x2,x3,x4,x5,x6] t (0,0))):w.cell? ⟨b,0,none⟩=some x0/\w.cell? ⟨b,1,none⟩=some x1/\w.cell? ⟨b,2,none⟩=some x2/\w.cell? ⟨b,3,none⟩=some x3/\w.cell? ⟨b,4,none⟩=some x4/\w.cell? ⟨b,5,none⟩=some x5/\w.cell? ⟨b,6,none⟩=some x6:=⟨cell_of h 0,cell_of h 1,cell_of h 2,cell_of h 3,cell_of h 4,cell_of h 5,cell_of h 6⟩
theorem arD{w:World}{b:Nat}{cs:Array Value}{t:TypeId}(h:w.heap[b]?=some (.cells cs t (0,0))):w.frozen? ⟨b,0,none⟩=false/\w.frozen? ⟨b,1,none⟩=false/\w.frozen? ⟨b,2,none⟩=false/\w.frozen? ⟨b,3,none⟩=false/\w.frozen? ⟨b,4,none⟩=false/\w.frozen? ⟨b,5,none⟩=false/\w.frozen? ⟨b,6,none⟩=false:=⟨aW h 0,aW h 1,aW h 2,aW h 3,aW h 4,aW h 5,aW h 6⟩
theorem Be.oL{c:Cn}{w2 w':World}{b1 bc bw r bo b:Nat}{fm:Nat->Prop}(N:Be c w2 w' b1 bc bw r bo b)(J:rC (.mem c Mm.zero) fm b1 w2)(hfm:∀j,fm j->j<w2.heap.size):jH c Ms.zero (λ_=>0) 0 (λj=>fm j\/j=bc\/j=bw\/j=r\/j=bo\/j=b) b w':=by
 obtain⟨g1,g2,g3,g4,g5⟩:=N.ge;obtain⟨n1,n2,n3,n4,n5,n6,n7,n8,n9,n10⟩:=N.nd;obtain⟨tb,hb⟩:=N.hb;have fb1:=TJ J;have l1:=hfm b1 fb1;have hs:=N.qZ.size;have J':rC (.mem c Mm.zero) fm b1 w':=Iq _ _ _ _ _ J hs λj hj=>N.qZ.block j (hfm j hj)
 have Jw:rC (.kL []) (fun j=>j=bo\/j=r) bo w':=(wU.mk (l:=[]) (F:=fun j=>j=bo\/j=r) (b:=bo) (w:=w') (r:=r) (o1:=0) (sl:=.slice none 0 0) (t:=0) (o2:=0) (cap:=0) (good:=0) (bad:=0)
  (λj hj=>by rcases hj with rfl|rfl;exact gQ N.ho;exact gQ N.hr) (.inl rfl) (.inr rfl) (λe=>n8 e.symm) (by rw[cell_of N.ho];rfl) (by rw[cell_of N.ho];rfl) (by rw[cell_of N.ho];rfl) (by rw[cell_of N.hr];rfl) (by rw[cell_of N.hr];rfl)
  (aW N.ho) (aW N.hr) (λ_=>rfl) (λh=>absurd rfl h)).j
 have hF:∀j,(fm j\/j=bc\/j=bw\/j=r\/j=bo\/j=b)->j<w'.heap.size:=λj hj=>by
  rcases hj with h|rfl|rfl|rfl|rfl|rfl
  .exact ba (hfm j h) hs
  .exact gQ N.hc
  .exact gQ N.hw
  .exact gQ N.hr
  .exact gQ N.ho
  .exact gQ hb
 have Yz:∀j,w2.heap.size<=j->¬fm j:=λj hj h=>by have:=hfm j h;omega
 obtain⟨ς,s0,s1,s2,s3,s4⟩:∃ς:Nat->Option Pl,ς 0=some ⟨b,0,0,0⟩/\ς 1=some ⟨b1,0,0,0⟩/\ς 2=some ⟨bc,0,0,0⟩/\ς 3=some ⟨bo,0,0,0⟩/\∀k,4<=k->ς k=none:=
  ⟨λk=>match k with|0=>some ⟨b,0,0,0⟩|1=>some ⟨b1,0,0,0⟩|2=>some ⟨bc,0,0,0⟩|3=>some ⟨bo,0,0,0⟩|_=>none,rfl,rfl,rfl,rfl,λk hk=>by
   obtain⟨k,rfl⟩:∃i,k=i+4:=⟨k-4,by omega⟩;rfl⟩
 have own:∀k p,Own3 k->ς k=some p->(k=0/\p=⟨b,0,0,0⟩)\/(k=2/\p=⟨bc,0,0,0⟩):=λk p o3 hk=>by
  rcases o3 with rfl|rfl|rfl
  .rw[s0]at hk;exact .inl ⟨rfl,(b9 hk).symm⟩
  .rw[s2]at hk;exact .inr ⟨rfl,(b9 hk).symm⟩
  .rw[s4 4 (aq _)]at hk;cases hk
 refine⟨0,fm,λj=>j=bo\/j=r,ς,bw,λv k=>if k=0 then some ⟨b,0,0,0⟩else none,⟨hF,⟨_,s0,rfl,rfl⟩,⟨_,s1,rfl,fb1,J'⟩,⟨_,s2⟩,⟨_,s3,rfl,.inl rfl,Jw⟩,λ_=>s4 4 (aq _),λk hk=>s4 k (by omega),λk p o3 hk=> ?_,λp hk=> ?_,λk k' p p' o3 Hz hk hk' hbb=> ?_,λj h=>.inl h,λj h=> ?_,λj h h'=> ?_,⟨.inr (.inr (.inl rfl)),Yz _ g2,λh=>h.elim n6 n5⟩,aW N.hw⟩,λv hv=>by rw[s0];rfl,λv hv=> ?_,λv k p hv hk hp=> ?_,λv v' k k' p p' hv hv' hne hk hk' hp=> ?_⟩
 .rcases own k p o3 hk with⟨rfl,rfl⟩|⟨rfl,rfl⟩
  .refine⟨.inr (.inr (.inr (.inr (.inr rfl)))),Yz _ g5,fun h=>h.elim (fun e=>n10 e.symm) (fun e=>n9 e.symm),fun e=>n7 e.symm,fun _=>⟨fun h=>h.2 (.inr (.inr (.inr (.inr (.inr rfl))))),aW hb,fun j hj=>absurd hj (by simp)⟩,fun i u hu=> ?_⟩
   have hi:i<12:=(aE.1 hu).1;show∃v',w'.cell? ⟨b,0+i,none⟩=some v'/\_;rw[cg,cell_of hb];rcases(by omega:i=0\/i=1\/i=2\/i=3\/i=4\/i=5\/i=6\/i=7\/i=8\/i=9\/i=10\/i=11)with rfl|rfl|rfl|rfl|rfl|rfl|rfl|rfl|rfl|rfl|rfl|rfl
   .cases hu;exact⟨_,rfl,.int _ _⟩
   .cases hu;exact⟨_,rfl,.int _ _⟩
   .cases hu;exact⟨_,rfl,.int _ _⟩
   .cases hu;exact⟨_,rfl,.int _ _⟩
   .cases hu;exact⟨_,rfl,.int _ _⟩
   .cases hu;exact⟨_,rfl,VR.ptr (off:=0) s1⟩
   .cases hu;exact⟨_,rfl,VR.ptr (off:=0) s2⟩
   .cases hu;exact⟨_,rfl,VR.ptr (off:=0) s3⟩
   .cases hu;exact⟨_,rfl,.kM _ _⟩
   .cases hu;exact⟨_,rfl,.any _⟩
   .cases hu;exact⟨_,rfl,.int _ _⟩
   .cases hu;exact⟨_,rfl,.int _ _⟩
  .refine⟨.inr (.inl rfl),Yz _ g1,fun h=>h.elim n3 n2,n1,fun _=>⟨fun h=>h.2 (.inr (.inl rfl)),aW N.hc,fun j hj=>absurd hj (by simp)⟩,fun i u hu=> ?_⟩
   have hi:i<1:=(aE.1 hu).1;obtain rfl:i=0:=by omega
   cases hu;show∃v',w'.cell? ⟨bc,0+0,none⟩=some v'/\_;rw[cg,cell_of N.hc];exact⟨_,rfl,.int _ _⟩
 .rw[s0]at hk;cases hk
  show w'.cell? ⟨b,0+9,none⟩=_;rw[cg,cell_of hb];rfl
 .rcases own k p o3 hk with⟨rfl,rfl⟩|⟨rfl,rfl⟩<;>rcases own k' p' Hz hk' with⟨rfl,rfl⟩|⟨rfl,rfl⟩
  .rfl
  .exact absurd hbb.symm n4
  .exact absurd hbb n4
  .rfl
 .rcases h with rfl|rfl
  .exact .inr (.inr (.inr (.inr (.inl rfl))))
  .exact .inr (.inr (.inr (.inl rfl)))
 .rcases h' with rfl|rfl
  .exact Yz _ g4 h
  .exact Yz _ g3 h
 .refine⟨fun k h1 _=>if_neg (by omega),fun k p hk=> ?_,fun i x hx=> ?_,fun k p hk hp=> ?_,fun k k' p p' hk _ hp=> ?_⟩
  .by_cases h:k=0
   .rw[h];omega
   .simp only[if_neg h]at hk;cases hk
  .have hi:i<35:=by
    have:=(aE.1 hx).1;have:=(uM c v (Ms.zero.ws v)).2.2;omega
   rw[cell_of N.hw,adQ hv hi];revert hx;show(kD 0 (Ms.zero.ws v) false undef undef undef undef undef undef undef (gW 18))[i]?=some x->_;intro hx;have key:∀(i:Nat),i<35->∀x,(kD 0 (Ms.zero.ws v) false undef undef undef undef undef undef undef (gW 18))[i]?=some x->∃x',wz[i]?=some x'/\(x=undef\/(aN x=true/\x'=x)):=by
    intro i hi x hx;match i,hi with
    |0,_=>cases hx;exact⟨_,rfl,.inr ⟨rfl,rfl⟩⟩
    |1,_=>cases hx;exact⟨_,rfl,.inr ⟨rfl,rfl⟩⟩
    |2,_=>cases hx;exact⟨_,rfl,.inr ⟨rfl,rfl⟩⟩
    |3,_=>cases hx;exact⟨_,rfl,.inr ⟨rfl,rfl⟩⟩
    |4,_=>cases hx;exact⟨_,rfl,.inr ⟨rfl,rfl⟩⟩
    |5,_=>cases hx;exact⟨_,rfl,.inr ⟨rfl,rfl⟩⟩
    |6,_=>cases hx;exact⟨_,rfl,.inr ⟨rfl,rfl⟩⟩
    |7,_=>cases hx;exact⟨_,rfl,.inr ⟨rfl,rfl⟩⟩
    |8,_=>cases hx;exact⟨_,rfl,.inr ⟨rfl,rfl⟩⟩
    |9,_=>cases hx;exact⟨_,rfl,.inl rfl⟩
    |10,_=>cases hx;exact⟨_,rfl,.inr ⟨rfl,rfl⟩⟩
    |11,_=>cases hx;exact⟨_,rfl,.inl rfl⟩
    |12,_=>cases hx;exact⟨_,rfl,.inl rfl⟩
    |13,_=>cases hx;exact⟨_,rfl,.inl rfl⟩
    |14,_=>cases hx;exact⟨_,rfl,.inl rfl⟩
    |15,_=>cases hx;exact⟨_,rfl,.inl rfl⟩
    |16,_=>cases hx;exact⟨_,rfl,.inl rfl⟩
    |17,_=>cases hx;exact⟨_,rfl,.inl rfl⟩
    |18,_=>cases hx;exact⟨_,rfl,.inl rfl⟩
    |19,_=>cases hx;exact⟨_,rfl,.inl rfl⟩
    |20,_=>cases hx;exact⟨_,rfl,.inl rfl⟩
    |21,_=>cases hx;exact⟨_,rfl,.inl rfl⟩
    |22,_=>cases hx;exact⟨_,rfl,.inl rfl⟩
    |23,_=>cases hx;exact⟨_,rfl,.inl rfl⟩
    |24,_=>cases hx;exact⟨_,rfl,.inl rfl⟩
    |25,_=>cases hx;exact⟨_,rfl,.inl rfl⟩
    |26,_=>cases hx;exact⟨_,rfl,.inl rfl⟩
    |27,_=>cases hx;exact⟨_,rfl,.inl rfl⟩
    |28,_=>cases hx;exact⟨_,rfl,.inl rfl⟩
    |29,_=>cases hx;exact⟨_,rfl,.inl rfl⟩
    |30,_=>cases hx;exact⟨_,rfl,.inl rfl⟩
    |31,_=>cases hx;exact⟨_,rfl,.inl rfl⟩
    |32,_=>cases hx;exact⟨_,rfl,.inl rfl⟩
    |33,_=>cases hx;exact⟨_,rfl,.inl rfl⟩
    |34,_=>cases hx;exact⟨_,rfl,.inl rfl⟩
   obtain⟨x',h1,h2⟩:=key i hi x hx;refine⟨x',h1,?_⟩;rcases h2 with rfl|⟨h2,rfl⟩
   .exact .any _
   .exact VR.aN _ h2
  .simp only[if_neg (show¬k=0 by omega)]at hp;cases hp
  .simp only[if_neg (show¬k=0 by omega)]at hp;cases hp
 .simp only[if_neg (show¬k=0 by omega)]at hp;cases hp
 .simp only[if_neg (show¬k=0 by omega)]at hp;cases hp
theorem Be.drew{c:Cn}{w2 w':World}{b1 bc bw r bo b:Nat}(N:Be c w2 w' b1 bc bw r bo b):Be c w2 w'.drew b1 bc bw r bo b:=⟨N.qZ.drew,N.ge,N.nd,N.hc,N.hw,N.hr,N.ho,N.hb⟩
theorem cO{w:World}{k:Nat}{x:Obj}(h:w.heap[k]?=some x)(o:Obj):(w.alloc o).heap[k]?=some x:=(b7 _ _ _ (gQ h)).trans h
theorem kr{w:World}{k:Nat}(o:Obj)(h:k=w.heap.size):(w.alloc o).heap[k]?=some o:=by rw[h];exact mC w o
theorem ajb(c:Cn)(w2:World)(b1:Nat):Be c w2 (((((w2.alloc (.cells #[.int .i64 0] 114)).alloc (.cells #[.slice none 0 0,.int .i64 1000] 128)).alloc (.cells #[.pointer (some ⟨(w2.heap.size+1),0,none⟩),.int .i64 0,.int .i64 0] 117)).alloc (.cells (BC c.W) 94)).alloc (.cells #[.int .i64 (c.W:Int),.int .i64 (c.S:Int),.int .i64 c.st,.int .i64 (c.wt:Int),.int .i64 c.u,.pointer (some ⟨b1,0,none⟩),.pointer (some ⟨(w2.heap.size),0,none⟩),.pointer (some ⟨(w2.heap.size+1+1),0,none⟩),.slice none 0 0,.slice (some ⟨(w2.heap.size+1+1+1),0,none⟩) c.W c.W,.int .i64 0,.int .i64 0] 83)) b1 (w2.heap.size) (w2.heap.size+1+1+1) (w2.heap.size+1) (w2.heap.size+1+1) (w2.heap.size+1+1+1+1):=by
 refine⟨(((((Below.refl _ w2).alloc (aq _) _).alloc (by simp) _).alloc (by simp;omega) _).alloc (by simp;omega) _).alloc (by simp;omega) _,by omega,by omega,cO (cO (cO (cO (kr _ (by simp)) _) _) _) _,cO (kr _ (by simp)) _,cO (cO (cO (kr _ (by simp)) _) _) _,cO (cO (kr _ (by simp)) _) _,_,kr _ (by simp)⟩
theorem aja(c:Cn)(w2:World)(b1:Nat):Be c w2 (((((w2.alloc (.cells #[.int .i64 0] 114)).alloc (.cells (BC c.W) 94)).alloc (.cells #[.slice none 0 0,.int .i64 1000] 128)).alloc (.cells #[.pointer (some ⟨(w2.heap.size+1+1),0,none⟩),.int .i64 0,.int .i64 0] 117)).alloc (.cells #[.int .i64 (c.W:Int),.int .i64 (c.S:Int),.int .i64 c.st,.int .i64 (c.wt:Int),.int .i64 c.u,.pointer (some ⟨b1,0,none⟩),.pointer (some ⟨(w2.heap.size),0,none⟩),.pointer (some ⟨(w2.heap.size+1+1+1),0,none⟩),.slice none 0 0,.slice (some ⟨(w2.heap.size+1),0,none⟩) c.W c.W,.int .i64 0,.int .i64 0] 83)) b1 (w2.heap.size) (w2.heap.size+1) (w2.heap.size+1+1) (w2.heap.size+1+1+1) (w2.heap.size+1+1+1+1):=by
 refine⟨(((((Below.refl _ w2).alloc (aq _) _).alloc (by simp) _).alloc (by simp;omega) _).alloc (by simp;omega) _).alloc (by simp;omega) _,by omega,by omega,cO (cO (cO (cO (kr _ (by simp)) _) _) _) _,cO (cO (cO (kr _ (by simp)) _) _) _,cO (cO (kr _ (by simp)) _) _,cO (kr _ (by simp)) _,_,kr _ (by simp)⟩
theorem ai'(c:Cn)(w2:World)(b1:Nat):Be c w2 (((((w2.alloc (.cells (BC c.W) 94)).alloc (.cells #[.int .i64 0] 114)).alloc (.cells #[.slice none 0 0,.int .i64 1000] 128)).alloc (.cells #[.pointer (some ⟨(w2.heap.size+1+1),0,none⟩),.int .i64 0,.int .i64 0] 117)).alloc (.cells #[.int .i64 (c.W:Int),.int .i64 (c.S:Int),.int .i64 c.st,.int .i64 (c.wt:Int),.int .i64 c.u,.pointer (some ⟨b1,0,none⟩),.pointer (some ⟨(w2.heap.size+1),0,none⟩),.pointer (some ⟨(w2.heap.size+1+1+1),0,none⟩),.slice none 0 0,.slice (some ⟨(w2.heap.size),0,none⟩) c.W c.W,.int .i64 0,.int .i64 0] 83)) b1 (w2.heap.size+1) (w2.heap.size) (w2.heap.size+1+1) (w2.heap.size+1+1+1) (w2.heap.size+1+1+1+1):=by
 refine⟨(((((Below.refl _ w2).alloc (aq _) _).alloc (by simp) _).alloc (by simp;omega) _).alloc (by simp;omega) _).alloc (by simp;omega) _,by omega,by omega,cO (cO (cO (kr _ (by simp)) _) _) _,cO (cO (cO (cO (kr _ (by simp)) _) _) _) _,cO (cO (kr _ (by simp)) _) _,cO (kr _ (by simp)) _,_,kr _ (by simp)⟩
theorem QF(w:World):Calls Tryz.prog 42 #[] w λe w'=>e=.returned (.pointer (some ⟨w.heap.size,0,none⟩))/\w'=w.alloc (.cells #[.int .i64 0] 114):=by
 go_enter Tryz.func42,Tryz.ntmps42
 go_wp2;go_ret;exact⟨rfl,rfl⟩
theorem Re(w:World):Calls Tryz.prog 43 #[] w λe w'=>e=.returned (.pointer (some ⟨w.heap.size+1,0,none⟩))/\w'=(w.alloc (.cells #[.slice none 0 0,.int .i64 1000] 128)).alloc (.cells #[.pointer (some ⟨w.heap.size,0,none⟩),.int .i64 0,.int .i64 0] 117):=by
 go_enter Tryz.func43,Tryz.ntmps43
 go_wp2;go_ret;exact⟨rfl,rfl⟩
set_option maxRecDepth 20000 in
theorem aeY{c:Cn}(h:fI (iM c))(h4:c.W<=4)(w:World)(hT:cB w):Calls Tryz.prog 26 #[.agg (dI c).toArray] w λe w'=>∃F b,e=.returned (.tuple #[.pointer (some ⟨b,0,none⟩),.int .i64 0])/\Below w.heap.size w w'/\jH c Ms.zero (λ_=>0) 0 F b w'/\∀j,F j->w.heap.size<=j:=by
 have hw1:=h.w;unfold iM at hw1;simp only at hw1;have hr:=λW hT=>jR h W hT;have hM:=λW hT=>ae2 h W hT;have hmk:=λW=>agW (n:=c.W) (by omega) h4 W;have hT1:∀o,cB (w.alloc o):=λo=>hT.mR (n:=(· <w.heap.size)) hT.lt (Kept.of_below ((Below.refl _ w).alloc (aq _) o))
 go_enter Tryz.func26,Tryz.ntmps26
 go_wp2_with first
  |(go_at_call 40;refine(hr _ (hT1 _)).mono ?_;rintro e w1 ⟨rfl,hb1⟩;have k1:=hb1.size;have ka:∀i,i<5->w1.cell? ⟨w.heap.size,i,none⟩=(w.alloc (.cells (dI c).toArray 30)).cell? ⟨w.heap.size,i,none⟩:=λi _=>hb1.cell (p:=⟨w.heap.size,i,none⟩) (by simp);have rQ:cB w1:=(hT1 _).mR (n:=(· <(w.alloc (.cells (dI c).toArray 30)).heap.size)) (hT1 _).lt (Kept.of_below hb1))
  |(go_at_call 41;refine(hM _ rQ).mono ?_;rintro e w2 ⟨b1,fm,rfl,hb2,hJ,hfm⟩;have k2:=hb2.size;have kb:∀i,i<5->w2.cell? ⟨w.heap.size,i,none⟩=w1.cell? ⟨w.heap.size,i,none⟩:=λi _=>hb2.cell (p:=⟨w.heap.size,i,none⟩) (by have:=hb1.size;simp at this;show w.heap.size<w1.heap.size;omega))
 have z1:w.heap.size<w1.heap.size:=by simp at k1;omega
 have qc:∀W:World,Below w2.heap.size w2 W->(W.cell? ⟨w.heap.size,0,none⟩=some (.int .i64 (c.W:Int))/\W.cell? ⟨w.heap.size,1,none⟩=some (.int .i64 (c.S:Int))/\W.cell? ⟨w.heap.size,2,none⟩=some (.int .i64 c.st)/\W.cell? ⟨w.heap.size,3,none⟩=some (.int .i64 (c.wt:Int))/\W.cell? ⟨w.heap.size,4,none⟩=some (.int .i64 c.u)/\Below w2.heap.size w2 W):=λW hW=>by
  have e:∀i,i<5->W.cell? ⟨w.heap.size,i,none⟩=(dI c)[i]?:=λi hi=>by
   rw[hW.cell (p:=⟨w.heap.size,i,none⟩) (by show w.heap.size<w2.heap.size;omega),kb i hi,ka i hi,dk];simp
  exact⟨e 0 (by omega),e 1 (by omega),e 2 (by omega),e 3 (by omega),e 4 (by omega),hW⟩
 have KA:=Lib.hid ka;have KB:=Lib.hid kb;have K1:=Lib.hid k1;have K2:=Lib.hid k2;have HB1:=Lib.hid hb1;have HB2:=Lib.hid hb2;clear ka kb k1 k2 hb1 hb2 hr hM hT1 rQ;have hlt:∀j,fm j->j<w2.heap.size:=by obtain⟨_,_,_,hl⟩:=hJ;exact hl.2.1
 have fin:∀(W':World) (bc bw r bo b:Nat),Be c w2 W' b1 bc bw r bo b->∃F b',Ending.returned (.tuple #[.pointer (some ⟨b,0,none⟩),.int .i64 0])=.returned (.tuple #[.pointer (some ⟨b',0,none⟩),.int .i64 0])/\Below w.heap.size w W'/\jH c Ms.zero (λ_=>0) 0 F b' W'/\∀j,F j->w.heap.size<=j:=λW' bc bw r bo b N=>by
  have s0:=K1.out;simp at s0;have s2:=K2.out;refine⟨_,b,rfl,?_,N.oL hJ hlt,λj hj=> ?_⟩
  .exact((((Below.refl _ w).alloc (aq _) _).trans (HB1.out.mono (by simp))).trans (HB2.out.mono (by omega))).trans (N.qZ.mono (by omega))
  .obtain⟨g1,g2,g3,g4,g5⟩:=N.ge
   rcases hj with h|rfl|rfl|rfl|rfl|rfl
   .have:=hfm j h;omega
   .omega
   .omega
   .omega
   .omega
   .omega
 go_region_held3 (fun W=>W.cell? ⟨w.heap.size,0,none⟩=some (.int .i64 (c.W:Int))/\W.cell? ⟨w.heap.size,1,none⟩=some (.int .i64 (c.S:Int))/\W.cell? ⟨w.heap.size,2,none⟩=some (.int .i64 c.st)/\W.cell? ⟨w.heap.size,3,none⟩=some (.int .i64 (c.wt:Int))/\W.cell? ⟨w.heap.size,4,none⟩=some (.int .i64 c.u)/\Below w2.heap.size w2 W)
  (first|exact qc _ (Below.refl _ _).drew|exact qc _ (Below.refl _ _)|(have gS:=(‹World.cell? _ _=_/\_/\_/\_/\_/\Below _ _ _›).2.2.2.2.2;first|exact qc _ (gS.alloc gS.size _)|exact qc _ ((gS.alloc gS.size _).alloc (by have:=gS.size;simp;omega) _)))
  (first|(go_at_call 42;refine(QF _).mono ?_;rintro e w3 ⟨rfl,rfl⟩)|(go_at_call 43;refine(Re _).mono ?_;rintro e w4 ⟨rfl,rfl⟩))
 all_goals go_wp2
 all_goals go_ret2
 .exact fin _ _ _ _ _ _ (ajb c w2 b1).drew
 .exact fin _ _ _ _ _ _ (aja c w2 b1).drew
 .exact fin _ _ _ _ _ _ (ai' c w2 b1).drew
end
noncomputable section
open Go.RowKit Go.bn Go.Sx Yq
variable{c:Cn} {s:Ms} {A:Nat->Int} {e:Int} {F:Nat->Prop} {b:Nat} {w:World}
theorem jH.cells(h:jH c s A e F b w):∃b1 bw,w.cell? ⟨b,5,none⟩=some (.pointer (some ⟨b1,0,none⟩))/\(∃fm,rC (.mem c s.m) fm b1 w)/\w.cell? ⟨b,9,none⟩=some (.slice (some ⟨bw,0,none⟩) c.W c.W)/\(∀v,v<c.W->w.cell? ⟨bw,v*35,none⟩=some (.int .i64 (rJ (s.ws v).ph)))/\bw<w.heap.size/\b<w.heap.size/\
  ((s.ev=[]/\w.cell? ⟨b,8,none⟩=some (.slice none 0 0))\/∃be o cap,s.ev≠[]/\w.cell? ⟨b,8,none⟩=some (.slice (some ⟨be,o,none⟩) s.ev.length cap)/\s.ev.length<=cap/\be<w.heap.size/\∀i j,i<s.ev.length->j<18->∃u,w.cell? ⟨be,o+(i*18+j),none⟩=some u/\u=((aG A s.ev).at i j).val):=by
 obtain⟨at_,fm,fw,ς,bw,τ,J⟩:=h;obtain⟨p0,e0,hb0,ho0⟩:=J.sh.p0;obtain⟨p1,e1,ho1,hf1,TU⟩:=J.sh.p1;obtain⟨h1,h2,h3,h4,h5⟩:=J.sh.blk 0 p0 (.inl rfl) e0;subst hb0;have hwk:=J.sh.wk p0 e0;rw[ho0,cg]at hwk;have cellAt:∀(i:Nat) (u:Value),(Vs c (dW s.ev.length) e at_)[i]?=some u->∃u',w.cell? ⟨p0.b,i,none⟩=some u'/\VR ς u u':=λi u hu=>by
  obtain⟨u',k1,k2⟩:=h5.2 i u hu;rw[ho0,cg]at k1;exact⟨u',k1,k2⟩
 obtain⟨u1,k1,r1⟩:=cellAt 5 _ rfl;obtain⟨q,hq,rfl⟩:=r1.gL;rw[e1]at hq;cases hq;rw[ho1]at k1;refine⟨p1.b,bw,k1,⟨fm,TU⟩,hwk,λv hv=> ?_,J.sh.lt _ J.sh.QK.1,J.sh.lt _ h1,?_⟩
 .obtain⟨wc,hw,_⟩:=E5 c v (s.ws v)
  obtain⟨x',k2,r2⟩:=(J.pv v hv).win 0 (.int .i64 (rJ (s.ws v).ph)) (by rw[hw];rfl);rw[r2.aH]at k2;exact k2
 .obtain⟨u8,k8,r8⟩:=cellAt 8 _ rfl
  cases hev:s.ev with
  |nil=>
   rw[hev]at r8;have:u8=.slice none 0 0:=r8.aD rfl;rw[this]at k8;exact .inl ⟨rfl,k8⟩
  |cons x r=>
   have hl:s.ev.length=r.length+1:=by rw[hev];rfl
   rw[hl]at r8;obtain⟨p4,e4,hc4,rfl⟩:=r8.yL;obtain⟨f1,_,_,_,f5⟩:=J.sh.blk 4 p4 (.inr (.inr rfl)) e4;have f5:=f5.2;show _\/_;have hb4:shB c s A e at_ 4=.rows true true 18 (r.length+1) (aG A s.ev):=by
    show fE s.ev.length (aG A s.ev)=_;rw[hl];rfl
   rw[hb4]at f5;refine .inr ⟨p4.b,p4.o,p4.cap,by simp,k8,hc4,J.sh.lt _ f1,λi j hi hj=> ?_⟩;obtain⟨u,k9,r9⟩:=f5.2 i j hi hj;rw[hev]at r9;refine⟨u,k9,?_⟩;generalize (aG A (x::r)).at i j=y at r9;cases y with
   |int k n=>exact r9.aH
   |bool b=>exact r9.aD rfl
theorem Xu(h:jH c s A e F b w){v:Nat}(hv:v<c.W)(hW:c.W<=4):Calls Tryz.prog 23 #[.pointer (some ⟨b,0,none⟩),.int .i64 (v:Int)] w λr w'=>r=.returned (.int .i64 (rJ (s.ws v).ph))/\Below w.heap.size w w':=by
 obtain⟨b1,bw,_,_,k9,hst,hbw,hb,_⟩:=h.cells;have hc:=hst v hv;have hvi:(v:Int)<(c.W:Int):=by omega
 go_enter Tryz.func23,Tryz.ntmps23
 go_wp2;go_ret;exact⟨rfl,Below.refl _ _⟩
set_option maxHeartbeats 2000000 in
set_option maxRecDepth 100000 in
theorem Wp(b off n c:Nat)(news:List Value)(w:World)(hl:news.length=n*1)(hn:n<=1000000000)(hc:∀j u,news[j]?=some u->w.cell? ⟨b,off+j,none⟩=some u)(h1:∀u∈news,u.oneCell'=true):
  Calls Tryz.prog 47 #[.slice (some ⟨b,off,none⟩) n c] w λe w'=>∃v',e=.returned v'/\w'.ownsRow w.heap.size 3 1 v' n news/\v'≠.slice none 0 0/\Below w.heap.size w w':=by
 have A:=Lib.hid hc;clear hc;have hi0:(Tryz.prog.info? 3).map (λi=>(i.zero,i.size,i.bytes))=some (some (.int .i64 0),1,8):=by kernel_rfl
 obtain⟨i0,hi,hz0,hz1,hz2⟩:∃i0,Tryz.prog.info? 3=some i0/\i0.zero=some (.int .i64 0)/\i0.size=1/\i0.bytes=8:=by
  cases hq:Tryz.prog.info? 3 with
  |none=>rw[hq]at hi0;cases hi0
  |some i=>
   rw[hq]at hi0;simp only[eR,cq,kB]at hi0;exact⟨i,rfl,hi0⟩
 have hsz:∀w,(Go.sizeOf 3).run Tryz.prog w=.ok 1 w:=λw=>by rw[<-hz1];exact Go.Sx.run_sizeOf hi w
 have q22:∀(w:World) (a:Option Addr) (n c n' c':Nat),(binOp .eql 35 (.slice a n c) (.slice none n' c')).run Tryz.prog w=.ok (.bool a.isNone) w:=λw a n c n' c'=>oQ w _ 3 a n c n' c' (by kernel_rfl)
 go_enter Tryz.func47,Tryz.ntmps47
 go_wp2_with (at_builtin;refine oT _ rfl _ _ 35 rfl w.heap.size 3 i0 _ 1 8 (by kernel_rfl) hi hz0 hz1 hz2 rfl (by decide) _ _ _ rfl (World.ownsRow_made w #[] 0 (aq _) (cL _) (by simp)) ⟨b,off,none⟩ n c news rfl ?qc1 ?qc2 ?qc3 ?qc4 ?qc5 ?qc6 ?_)
 case qc1=>exact hl
 case qc2=>
  intro j u hj;have e:(⟨b,off,none⟩:Addr).add j=⟨b,off+j,none⟩:=by unfold Addr.add;split<;>simp_all
  rw[e];have hb:b<w.heap.size:=by
   have:=A.out j u hj;rcases cn b w.heap.size with hq|hq
   .exact hq
   .simp[World.cell?,nj hq]at this
  rw[cM (w:=w) (b7 _ _ _ hb)];exact A.out j u hj
 case qc3=>exact h1
 case qc4=>rw[cg];exact eM hn (by decide)
 case qc5=>rw[cg];omega
 case qc6=>simp
 intro v' w1 hown hgrow hnil;go_wp2;go_ret;refine⟨v',rfl,by simpa using hown,hnil,?_⟩;exact((Below.refl _ w).alloc (aq _) _).grown hgrow (by simp) (by intro k hk;simp[Value.ownBlock]at hk;omega)
def evZ:Value:=.agg #[f0,i0,i0,i0,i0,f0,f0,i0,i0,i0,i0,i0,i0,i0,i0,i0,i0,i0]
set_option maxHeartbeats 2000000 in
set_option maxRecDepth 100000 in
theorem Ws(b off n c:Nat)(news:List Value)(w:World)(hl:news.length=n*18)(hn:n<=1000000000)(hc:∀j u,news[j]?=some u->w.cell? ⟨b,off+j,none⟩=some u)(h1:∀u∈news,u.oneCell'=true):
  Calls Tryz.prog 33 #[.slice (some ⟨b,off,none⟩) n c] w λe w'=>∃v',e=.returned v'/\w'.ownsRow w.heap.size 68 18 v' n news/\v'≠.slice none 0 0/\Below w.heap.size w w':=by
 have A:=Lib.hid hc;clear hc;have hi0:(Tryz.prog.info? 68).map (λi=>(i.zero,i.size,i.bytes))=some (some evZ,18,136):=by kernel_rfl
 obtain⟨i0,hi,hz0,hz1,hz2⟩:∃i0,Tryz.prog.info? 68=some i0/\i0.zero=some evZ/\i0.size=18/\i0.bytes=136:=by
  cases hq:Tryz.prog.info? 68 with
  |none=>rw[hq]at hi0;cases hi0
  |some i=>
   rw[hq]at hi0;simp only[eR,cq,kB]at hi0;exact⟨i,rfl,hi0⟩
 have hsz:∀w,(Go.sizeOf 68).run Tryz.prog w=.ok 18 w:=λw=>by rw[<-hz1];exact Go.Sx.run_sizeOf hi w
 have q22:∀(w:World) (a:Option Addr) (n c n' c':Nat),(binOp .eql 53 (.slice a n c) (.slice none n' c')).run Tryz.prog w=.ok (.bool a.isNone) w:=λw a n c n' c'=>oQ w _ 68 a n c n' c' (by kernel_rfl)
 go_enter Tryz.func33,Tryz.ntmps33
 go_wp2_with (at_builtin;refine oT _ rfl _ _ 53 rfl w.heap.size 68 i0 _ 18 136 (by kernel_rfl) hi hz0 hz1 hz2 rfl (by decide) _ _ _ rfl (World.ownsRow_made w #[] 0 (aq _) (cL _) (by simp)) ⟨b,off,none⟩ n c news rfl ?qc1 ?qc2 ?qc3 ?qc4 ?qc5 ?qc6 ?_)
 case qc1=>exact hl
 case qc2=>
  intro j u hj;have e:(⟨b,off,none⟩:Addr).add j=⟨b,off+j,none⟩:=by unfold Addr.add;split<;>simp_all
  rw[e];have hb:b<w.heap.size:=by
   have:=A.out j u hj;rcases cn b w.heap.size with hq|hq
   .exact hq
   .simp[World.cell?,nj hq]at this
  rw[cM (w:=w) (b7 _ _ _ hb)];exact A.out j u hj
 case qc3=>exact h1
 case qc4=>rw[cg];exact eM hn (by decide)
 case qc5=>rw[cg];omega
 case qc6=>simp
 intro v' w1 hown hgrow hnil;go_wp2;go_ret;refine⟨v',rfl,by simpa using hown,hnil,?_⟩;exact((Below.refl _ w).alloc (aq _) _).grown hgrow (by simp) (by intro k hk;simp[Value.ownBlock]at hk;omega)
theorem Wq(n c:Nat)(w:World):Calls Tryz.prog 33 #[.slice none n c] w λe w'=>e=.returned (.slice none 0 0)/\w'=w:=by
 have q22:∀(w:World) (a:Option Addr) (n c n' c':Nat),(binOp .eql 53 (.slice a n c) (.slice none n' c')).run Tryz.prog w=.ok (.bool a.isNone) w:=λw a n c n' c'=>oQ w _ 68 a n c n' c' (by kernel_rfl)
 go_enter Tryz.func33,Tryz.ntmps33
 go_wp2;go_ret;exact⟨rfl,rfl⟩
theorem YC{m:Mm}{F:Nat->Prop}{b:Nat}{w:World}(h:rC (.mem c m) F b w):∃t o cp,w.cell? ⟨b,0,none⟩=some (.slice (some ⟨t,o,none⟩) (nC c) cp)/\∀(i:Nat) (x:Int),(aC c m)[i]?=some x->w.cell? ⟨t,o+i,none⟩=some (.int .i64 x):=by
 obtain⟨_,cp,tc,_,_,σ,hr,⟨p,h0,hb,ho⟩,_⟩:=h;obtain⟨v0,e0,g0⟩:=hr.jB h0 (show(gq (nC c) cp tc (aC c m)).getD 0 .dead=.cells true true [.slice (some ⟨1,0,none⟩) (nC c) cp,.int .i64 tc]from rfl) (i:=0) rfl;rw[hb,ho,cg]at e0;cases g0 with
 |slice hk=>
  rename_i q;obtain⟨_,hi⟩:=hr.ints_at hk (show(gq (nC c) cp tc (aC c m)).getD 1 .dead=.ints true true (aC c m)from rfl);exact⟨q.b,q.o,cp,e0,hi⟩
theorem WO(h:jH c s A e F b w)(hS:c.W<=4/\c.S<=5):Calls Tryz.prog 11 #[.pointer (some ⟨b,0,none⟩)] w λr w'=>∃v',r=.returned v'/\w'.ownsRow w.heap.size 3 1 v' (nC c) ((aC c s.m).map (.int .i64 ·))/\Below w.heap.size w w':=by
 obtain⟨b1,bw,k5,⟨fm,hJ⟩,k9,hst,hbw,hb,_⟩:=h.cells;obtain⟨t,o,cp,m0,mi⟩:=YC hJ
 have hcl:=Wp t o (nC c) cp ((aC c s.m).map (.int .i64 ·)) w (by rw[iz,nE,lr]) (by unfold nC;omega) (λj u hu=>by
  rw[cG]at hu;cases hx:(aC c s.m)[j]? with
  |none=>rw[hx]at hu;cases hu
  |some x=>rw[hx]at hu;cases hu;exact mi j x hx) (λu hu=>by
  rw[kx]at hu;obtain⟨x,_,rfl⟩:=hu;rfl)
 have als:Calls Tryz.prog 30 #[.pointer (some ⟨b1,0,none⟩)] w λr w'=>∃v',r=.returned v'/\w'.ownsRow w.heap.size 3 1 v' (nC c) ((aC c s.m).map (.int .i64 ·))/\Below w.heap.size w w':=by
  go_enter Tryz.func30,Tryz.ntmps30
  go_wp2_with (go_at_call 47;refine hcl.mono ?_;rintro e w1 ⟨v',rfl,ho,hv,hb1⟩)
  go_ret;exact⟨v',rfl,ho,hb1⟩
 go_enter Tryz.func11,Tryz.ntmps11
 go_wp2_with (go_at_call 30;refine als.mono ?_;rintro e w1 ⟨v',rfl,ho,hb1⟩)
 go_ret;exact⟨v',rfl,ho,hb1⟩
def zy(A:Nat->Int):List Ev->List Value
 |[]=>[]
 |x::r=>zy A r++nA x (A r.length)
theorem zx(x:Ev)(a:Int):(nA x a).length=18:=rfl
theorem om(A:Nat->Int):∀l:List Ev,(zy A l).length=l.length*18
 |[]=>rfl
 |x::r=>by
  show(zy A r++nA x (A r.length)).length=_;rw[cE,om A r,zx,ct];omega
theorem Ug(A:Nat->Int):∀(l:List Ev) (i j:Nat),i<l.length->j<18->(zy A l)[i*18+j]?=some ((aG A l).at i j).val
 |[],i,j,hi,_=>by simp at hi
 |x::r,i,j,hi,hj=>by
  show(zy A r++nA x (A r.length))[i*18+j]?=some ((eY r.length (nA x (A r.length)) (aG A r)).at i j).val;by_cases h:i=r.length
  .subst h
   rw[cx (by rw[om];omega),om,mS];have hs:oV ((nA x (A r.length)).getD j undef)=true:=by
    have ha:(nA x (A r.length)).all oV=true:=rfl;rw[bp]at ha;rw[b8,aw (by rw[zx];exact hj)];exact ha _ (eC _)
   rw[EI (by rw[Ed];rfl) (by rw[zx];exact hj) hs,b8,aw (by rw[zx];exact hj)];rfl
  .have hi:i<r.length:=by simp at hi;omega
   rw[cD (by rw[om];omega),EH h,Ug A r i j hi hj]
theorem Uf(A:Nat->Int):∀(l:List Ev) (u:Value),u∈zy A l->u.oneCell'=true
 |[],u,h=>by cases h
 |x::r,u,h=>by
  rcases eS.1 h with h|h
  .exact Uf A r u h
  .have ha:(nA x (A r.length)).all (fun u=>u.oneCell')=true:=rfl
   rw[bp]at ha;exact ha u h
theorem VY(h:jH c s A e F b w)(hn:s.ev.length<=1000000000):Calls Tryz.prog 17 #[.pointer (some ⟨b,0,none⟩)] w λr w'=>∃v',r=.returned v'/\w'.ownsRow w.heap.size 68 18 v' s.ev.length (zy A s.ev)/\Below w.heap.size w w':=by
 obtain⟨b1,bw,_,_,_,_,_,hb,hev⟩:=h.cells;rcases hev with⟨h0,k8⟩|⟨be,o,cap,hne,k8,hcap,hbe,hc⟩
 .have hcl:=Wq 0 0 w
  go_enter Tryz.func17,Tryz.ntmps17
  go_wp2_with (go_at_call 33;refine hcl.mono ?_;rintro e w1 ⟨rfl,rfl⟩)
  go_ret;refine⟨_,rfl,?_,Below.refl _ _⟩;rw[h0];exact sq _ _ _ _
 .have hcl:=Ws be o s.ev.length cap (zy A s.ev) w (om A s.ev) hn (λj u hu=>by
   have hj:j<s.ev.length*18:=by rw[<-om A s.ev];exact(aE.1 hu).1
   have e:j=j/18*18+j%18:=by omega
   rw[e]at hu ⊢;rw[Ug A s.ev _ _ (by omega) (by omega)]at hu;obtain⟨u',k9,rfl⟩:=hc (j/18) (j%18) (by omega) (by omega);rw[k9,hu]) (Uf A s.ev)
  go_enter Tryz.func17,Tryz.ntmps17
  go_wp2_with (go_at_call 33;refine hcl.mono ?_;rintro e w1 ⟨v',rfl,ho,hv,hb1⟩)
  go_ret;exact⟨v',rfl,ho,hb1⟩
end
noncomputable section
open Go.RowKit Go.bn Go.Sx Yq
structure Live(c:Cn)(s:Ms)(e:Int)(D:Nat->Prop)(b:Nat)(w:World):Prop where
 good:rE c s e
 tt:TT w
 lt:∀j,D j->j<w.heap.size
 kt:∀k,KT k->D k
 oL:∃A F,jH c s A e F b w/\∀j,D j->¬F j
variable{c:Cn} {s:Ms} {e:Int} {D D':Nat->Prop} {b:Nat} {w w':World}
theorem Live.mono(h:Live c s e D b w)(hD:∀j,D' j->D j)(hk:∀k,KT k->D' k):Live c s e D' b w:=by
 obtain⟨A,F,M,hF⟩:=h.oL;exact⟨h.good,h.tt,λj hj=>h.lt j (hD j hj),hk,A,F,M,λj hj=>hF j (hD j hj)⟩
def more(D:Nat->Prop)(w w':World):Nat->Prop:=λj=>D j\/w.heap.size<=j/\j<w'.heap.size
theorem nG{n:Nat}(h:TT w)(hb:Below n w w')(hn:2<n):TT w':=lg (· <n) w w' (λk hk=>by rcases hk with rfl|rfl<;>omega) h (Kept.of_below hb)
theorem Live.below(h:Live c s e D b w)(hb:Below w.heap.size w w'):Live c s e (more D w w') b w':=by
 obtain⟨A,F,M,hF⟩:=h.oL;have hs:=hb.size;have l2:=h.tt.lt 2 (.inr rfl);refine⟨h.good,nG h.tt hb l2,λj hj=>hj.elim (λq=>ba (h.lt j q) hs) (·.2),λk hk=>.inl (h.kt k hk),A,F,M.st hs λj hj=>hb.block j (M.lt j hj),λj hj hf=> ?_⟩;rcases hj with q|q
 .exact hF j q hf
 .have:=M.lt j hf;omega
theorem Live.drew(h:Live c s e D b w):Live c s e D b w.drew:=by
 obtain⟨A,F,M,hF⟩:=h.oL;exact⟨h.good,h.tt,h.lt,h.kt,A,F,M.st (aq _) λ_ _=>rfl,hF⟩
theorem Live.MC(H:∀v,v<c.W->fZ c.W v)(h:Live c s e D b w)(he:e<=1000000000)(x:En)(hx:wY c x):
  Calls Tryz.prog jV [.pointer (some ⟨b,0,none⟩),uZ x].toArray w λr w'=>r=.returned (.bool (dX c s x).1)/\Kept D w w'/\Live c (dX c s x).2 (e+1) D b w':=by
 obtain⟨A,F,M,hF⟩:=h.oL;refine(ae9 H h.good he M h.tt (λk hk=>hF k (h.kt k hk)) x hx).mono λr w' hh=> ?_;obtain⟨rfl,hk,M'⟩:=hh;have hKD:Kept D w w':=hk.mono λj hj=>⟨h.lt j hj,hF j hj⟩;refine⟨rfl,hKD,afu h.good x,lg D w w' h.kt h.tt hKD,λj hj=>ba (h.lt j hj) hk.size,h.kt,_,_,M',λj hj hf=> ?_⟩;rcases hf with q|q
 .exact hF j hj q
 .have:=h.lt j hj;omega
theorem Live.state(h:Live c s e D b w){v:Nat}(hv:v<c.W):Calls Tryz.prog 23 #[.pointer (some ⟨b,0,none⟩),.int .i64 (v:Int)] w λr w'=>r=.returned (.int .i64 (rJ (s.ws v).ph))/\Below w.heap.size w w'/\Live c s e (more D w w') b w':=by
 obtain⟨A,F,M,hF⟩:=h.oL;refine(Xu M hv h.good.W.2).mono λr w' hh=> ?_;obtain⟨rfl,hb⟩:=hh;exact⟨rfl,hb,h.below hb⟩
theorem Live.words(h:Live c s e D b w):Calls Tryz.prog 11 #[.pointer (some ⟨b,0,none⟩)] w λr w'=>∃v',r=.returned v'/\w'.ownsRow w.heap.size 3 1 v' (nC c) ((aC c s.m).map (.int .i64 ·))/\Below w.heap.size w w'/\Live c s e (more D w w') b w':=by
 obtain⟨A,F,M,hF⟩:=h.oL;refine(WO M ⟨h.good.W.2,h.good.S.2⟩).mono λr w' hh=> ?_;obtain⟨v',rfl,ho,hb⟩:=hh;exact⟨v',rfl,ho,hb,h.below hb⟩
theorem Live.events(h:Live c s e D b w)(he:e<=1000000000):Calls Tryz.prog 17 #[.pointer (some ⟨b,0,none⟩)] w λr w'=>∃v' A,r=.returned v'/\w'.ownsRow w.heap.size 68 18 v' s.ev.length (zy A s.ev)/\Below w.heap.size w w'/\Live c s e (more D w w') b w':=by
 obtain⟨A,F,M,hF⟩:=h.oL;obtain⟨k,hk,_,hl⟩:=h.good.nx;refine(VY M (by omega)).mono λr w' hh=> ?_;obtain⟨v',rfl,ho,hb⟩:=hh;exact⟨v',A,rfl,ho,hb,h.below hb⟩
theorem Y6(h:fI (iM c))(hW:c.W<=4)(hS:c.S<=5):rE c Ms.zero 0:=by
 have h1:=h.w;have h2:=h.s;unfold iM at h1 h2;simp only at h1 h2;exact⟨⟨by omega,hW⟩,⟨by omega,hS⟩,⟨0,rfl,aeR,aq _⟩,λ_ _ _=>rfl,by decide,by decide⟩
theorem PN(h:fI (iM c))(hW:c.W<=4)(hS:c.S<=5)(w:World)(hT:TT w):Calls Tryz.prog 26 #[.agg (dI c).toArray] w λr w'=>∃b,r=.returned (.tuple #[.pointer (some ⟨b,0,none⟩),.int .i64 0])/\Below w.heap.size w w'/\Live c Ms.zero 0 (· <w.heap.size) b w':=by
 refine(aeY h hW w hT.1).mono λr w' hh=> ?_;obtain⟨F,b,rfl,hb,M,hF⟩:=hh;have l2:=hT.lt 2 (.inr rfl);refine⟨b,rfl,hb,Y6 h hW hS,nG hT hb l2,λj hj=>ba hj hb.size,λk hk=>hT.lt k hk,_,F,M,λj hj hf=>by have:=hF j hf;omega⟩
end
noncomputable section
open Go.RowKit Go.bn Go.Sx Yq
attribute [local go_sem ↓] Go.wp_at_zero Go.wp_at_succ
theorem Zo(A:Nat->Int):∀(l:List Ev) (k:Nat),k<l.length->∃(x:Ev) (a:Int),l[l.length-1-k]?=some x/\∀j,j<18->(zy A l)[k*18+j]?=(nA x a)[j]?
 |[],k,h=>by simp at h
 |x::r,k,h=>by
  by_cases e:k=r.length
  .subst e
   refine⟨x,A r.length,by simp,λj hj=> ?_⟩;show(zy A r++nA x (A r.length))[r.length*18+j]?=_;rw[cx (by rw[om];omega),om,mS]
  .have hk:k<r.length:=by simp at h;omega
   obtain⟨y,a,h1,h2⟩:=Zo A r k hk;refine⟨y,a,?_,λj hj=> ?_⟩
   .have:(x::r).length-1-k=(r.length-1-k)+1:=by simp;omega
    rw[this,lA];exact h1
   .show(zy A r++nA x (A r.length))[k*18+j]?=_
    rw[cD (by rw[om];omega)];exact h2 j hj
structure Dx(w:World)(v:Value)(l:List Ev)(B:Nat):Prop where
 nil:l=[]->v=.slice none 0 0\/∃g cap,v=.slice (some ⟨g,0,none⟩) 0 cap
 row:l≠[]->∃g cap,v=.slice (some ⟨g,0,none⟩) l.length cap/\l.length<=cap/\B<=g/\g<w.heap.size/\∀k,k<l.length->∃(x:Ev) (a:Int),l[l.length-1-k]?=some x/\∀j u,(nA x a)[j]?=some u->w.cell? ⟨g,k*18+j,none⟩=some u
theorem K3{w:World}{B:Nat}{v:Value}{A:Nat->Int}{l:List Ev}(h:w.ownsRow B 68 18 v l.length (zy A l)):Dx w v l B:=by
 obtain⟨hl,h|⟨g,cap,cur,rfl,hB,hg,hn,hcap,hsz,ht⟩⟩:=h
 .exact⟨λ_=>.inl h.1,λhne=>absurd (cR h.2) hne⟩
 .refine⟨fun h0=>.inr ⟨g,cap,by rw[h0];rfl⟩,fun hne=>⟨g,cap,rfl,hn,hB,(bk.1 hg).1,fun k hk=> ?_⟩⟩
  obtain⟨x,a,h1,h2⟩:=Zo A l k hk;refine⟨x,a,h1,λj u hu=> ?_⟩;have hj:j<18:=by rw[<-zx x a];exact(aE.1 hu).1
  have e:=h2 j hj;rw[hu, <-ht,fy (by omega)]at e;rw[cell_of hg];simpa using e
theorem Dx.below{w w':World}{v:Value}{l:List Ev}{B:Nat}(h:Dx w v l B)(hb:Below w.heap.size w w'):Dx w' v l B:=
 ⟨h.nil,λhne=>by
  obtain⟨g,cap,h1,h2,h3,h4,h5⟩:=h.row hne;refine⟨g,cap,h1,h2,h3,ba h4 hb.size,λk hk=> ?_⟩;obtain⟨x,a,h6,h7⟩:=h5 k hk;exact⟨x,a,h6,λj u hu=>(hb.cell (p:=⟨g,k*18+j,none⟩) h4).trans (h7 j u hu)⟩⟩
theorem af0{σ:Nat->Option Pl}{a:Array Value}{v:Value}(h:VR σ (.agg a) v)(hp:a.toList.all aN=true):v=.agg a:=by
 cases h with
 |agg ha hx=>
  rename_i a';congr 1;apply Array.ext ha.symm;intro i h1 h2;have h3:=hx i a[i] a'[i] (cj h2) (cj h1);rw[bp]at hp;exact h3.aD (hp _ (by simp))
def Jy(a b c d e:Int):Cn:=⟨(1+a%4).toNat,(1+b%5).toNat,c%4,(d%4).toNat,1+e%4⟩
structure U8(a:Int):Prop where
 lo:0<=a
 hi:a<=255
theorem Zz{a b c d e:Int}(ha:U8 a)(hb:U8 b)(hc:U8 c)(hd:U8 d)(he:U8 e):iM (Jy a b c d e)=Eg a b c d e:=by
 obtain⟨a1,_,_⟩:=jl (k:=4) ha.lo (by decide) (by decide);obtain⟨b1,_,_⟩:=jl (k:=5) hb.lo (by decide) (by decide);obtain⟨c1,_,_⟩:=jl (k:=4) hc.lo (by decide) (by decide);obtain⟨d1,_,_⟩:=jl (k:=4) hd.lo (by decide) (by decide);obtain⟨e1,_,_⟩:=jl (k:=4) he.lo (by decide) (by decide);unfold Eg Jy iM;rw[a1,b1,c1,d1,e1,fA (x:=1+a%4) ⟨by omega,by omega⟩,fA (x:=1+b%5) ⟨by omega,by omega⟩,fA (x:=1+e%4) ⟨by omega,by omega⟩];simp only[Cf.mk.injEq,oA,true_and];omega
theorem Df{a b c d e:Int}(ha:U8 a)(hb:U8 b)(hc:U8 c)(hd:U8 d)(he:U8 e):fI (iM (Jy a b c d e))/\(Jy a b c d e).W<=4/\(Jy a b c d e).S<=5:=by
 rw[Zz ha hb hc hd he];refine⟨(Sn ha.lo hb.lo hc.lo hd.lo he.lo).right,?_,?_⟩
 .show(1+a%4).toNat<=4;omega
 .show(1+b%5).toNat<=5;omega
theorem ack{a b c d e:Int}(ha:U8 a)(hb:U8 b)(hc:U8 c)(hd:U8 d)(he:U8 e)(w:World)(hT:cB w):
  Calls Tryz.prog 44 #[.agg #[.int .u8 a,.int .u8 b,.int .u8 c,.int .u8 d,.int .u8 e]] w λr w'=>r=.returned (.agg (dI (Jy a b c d e)).toArray)/\Below w.heap.size w w':=by
 have hB:eB (· <w.heap.size) w:=λk hk=>hk;have hE:=oz (· <w.heap.size) w hT.lt hB hT;have h2:=(A8 hE rfl (Ju a b c d e)).2;refine(h2 (λ_=>none) w #[.agg #[.int .u8 a,.int .u8 b,.int .u8 c,.int .u8 d,.int .u8 e]] (YX w) ⟨rfl,λi x y hx hy=> ?_⟩).mono λr w' hh=> ?_
 .match i with
  |0=>simp at hx hy;subst hx hy;exact VR.plain _ (by simp[Go.Sx.plain,Go.Sx.aN])
  |i+1=>simp at hx
 .obtain⟨v',rfl,σ',_,kS,hr'⟩:=hh
  rw[<-Zz ha hb hc hd he]at kS;rw[af0 kS (by simp[QG,Go.Sx.aN])];exact⟨rfl,hr'.below.below⟩
set_option maxHeartbeats 1000000 in
theorem YR{l:List Ev}{v:Value}{B:Nat}(who:Int)(hl:l.length<=1000000000)(w:World)(h:Dx w v l B):
  Calls Tryz.prog 60 #[v,.int .i64 who] w λr w'=>(∃a b:Int,r=.returned (.tuple #[.int .i64 a,.int .i64 b]))/\Below w.heap.size w w':=by
 obtain⟨P,cap,rfl,hP⟩:∃P cap,v=.slice P l.length cap/\∀k,k<l.length->∃g,P=some ⟨g,0,none⟩/\g<w.heap.size/\∃(x:Ev) (a:Int),∀j u,(nA x a)[j]?=some u->w.cell? ⟨g,k*18+j,none⟩=some u:=by
  by_cases h0:l=[]
  .subst h0
   rcases h.nil rfl with rfl|⟨g,cap,rfl⟩
   .exact⟨none,0,rfl,λk hk=>by simp at hk⟩
   .exact⟨some ⟨g,0,none⟩,cap,rfl,λk hk=>by simp at hk⟩
  .obtain⟨g,cap,h1,h2,h3,h4,h5⟩:=h.row h0
   refine⟨_,cap,h1,λk hk=>⟨g,rfl,h4,?_⟩⟩;obtain⟨x,a,_,h6⟩:=h5 k hk;exact⟨x,a,h6⟩
 generalize l.length=n at hl hP ⊢;clear h;have HP:=Lib.hid hP;clear hP;have hw:wrap64 ((n:Int)-1)=(n:Int)-1:=ga _ (by omega)
 go_enter Tryz.func60,Tryz.ntmps60
 go_wp2
 go_loopw [6] (fun i wr=>∃k:Int, -1<=k/\k<n/\i=.int .i64 k/\Below w.heap.size w wr)
  (λi _=>(intOf i+1).toNat)
 case atStart=>exact⟨(n:Int)-1,by omega,by omega,rfl,Below.refl _ _⟩
 case round=>
  obtain⟨k,hk1,hk2,rfl,hb⟩:=hrel;by_cases h0:0<=k
  .obtain⟨m,rfl⟩:∃m:Nat,k=m:=⟨k.toNat,by omega⟩
   obtain⟨g,rfl,hg,x,a,hx⟩:=HP.out m (by omega);have cc:∀j u,(nA x a)[j]?=some u->wr.cell? ⟨g,m*18+j,none⟩=some u:=λj u hu=>(hb.cell (p:=⟨g,m*18+j,none⟩) hg).trans (hx j u hu);have c0:wr.cell? ⟨g,m*18,none⟩=some (.bool x.ended):=cc 0 _ rfl;have c1:wr.cell? ⟨g,m*18+1,none⟩=some (.int .i64 (x.who:Int)):=cc 1 _ rfl;have c3:wr.cell? ⟨g,m*18+3,none⟩=some (.int .i64 (x.ask.op:Int)):=cc 3 _ rfl;have c10:wr.cell? ⟨g,m*18+10,none⟩=some (.int .i64 x.ans.e):=cc 10 _ rfl;have c11:wr.cell? ⟨g,m*18+11,none⟩=some (.int .i64 x.ans.slot):=cc 11 _ rfl;have c12:wr.cell? ⟨g,m*18+12,none⟩=some (.int .i64 x.ans.gen):=cc 12 _ rfl;clear cc hx;have hw2:wrap64 ((m:Int)-1)=(m:Int)-1:=ga _ (by omega);go_wp2
   all_goals first
    |exact⟨⟨(m:Int)-1,by omega,by omega,rfl,hb⟩,by simp[intOf]⟩
    |skip
   go_quiet (fail)
   go_wp2
   go_ret2
   exact⟨⟨_,_,rfl⟩,fR hb _⟩
  .go_wp2
   go_ret2
   exact⟨⟨0,0,rfl⟩,hb⟩
theorem jY{P:Program}{c:Code}{Q:Exit->Act->World->Prop}{a:Act}{w:World}(h:∀W,W=w->c.wp P Q a W):c.wp P Q a w:=h w rfl
theorem qU(w:World)(o:Obj):(w.alloc o).heap=w.heap.push o:=rfl
theorem VJ(w:World)(a b c d:Obj)(q:Nat):(((((w.alloc a).alloc b).alloc c).drewN q).alloc d).heap[w.heap.size]?=some a/\(((((w.alloc a).alloc b).alloc c).drewN q).alloc d).heap[w.heap.size+1+1]?=some c/\(((((w.alloc a).alloc b).alloc c).drewN q).alloc d).heap[w.heap.size+1+1+1]?=some d:=by
 simp only[qU,World.heap_drewN,cQ,rG];refine⟨?_,?_,?_⟩;all_goals repeat first|rw[if_pos trivial]|rw[if_neg (by omega)]
def mq(kd who op dl:Int)(wt fc:Bool)(sl gn st n:Int)(gd:Bool):Array Value:= #[.int .i64 kd,.int .i64 who,.int .i64 op,.int .i64 dl,.bool wt,.bool fc,.int .i64 sl,.int .i64 gn,.int .i64 st,.int .i64 n,.bool gd]
structure mG(w0:World)(T Z X:Nat)(ta:Array Value)(xa:Array Value)(w:World):Prop where
 t:w.heap[T]?=some (.cells ta 103 (0,0))
 z:w.heap[Z]?=some (.cells (mq 0 0 0 0 false false 0 0 0 0 false) 57 (0,0))
 x:w.heap[X]?=some (.cells xa 57 (0,0))
 b:Below w0.heap.size w0 w
 n:w0.heap.size<=T/\w0.heap.size<=Z/\w0.heap.size<=X/\T≠X/\Z≠X
theorem mG.below{w0 w w':World}{T Z X:Nat}{ta xa:Array Value}(h:mG w0 T Z X ta xa w)(hb:Below w.heap.size w w'):mG w0 T Z X ta xa w':=
 ⟨by rw[hb.block T (bk.1 h.t).1];exact h.t,by rw[hb.block Z (bk.1 h.z).1];exact h.z,by rw[hb.block X (bk.1 h.x).1];exact h.x,h.b.trans (hb.mono h.b.size),h.n⟩
theorem mG.set{w0 w:World}{T Z X:Nat}{ta xa:Array Value}(h:mG w0 T Z X ta xa w)(i:Nat)(v:Value):mG w0 T Z X ta (xa.setIfInBounds i v) (w.setCell ⟨X,i,none⟩ v):=
 ⟨by rw[cy _ _ _ _ h.n.2.2.2.1];exact h.t,by rw[cy _ _ _ _ h.n.2.2.2.2];exact h.z,by simp[World.setCell,pT,h.x],h.b.setCell (p:=⟨X,i,none⟩) h.n.2.2.1 v,h.n⟩
theorem mG.xs{w0 w:World}{T Z X:Nat}{ta:Array Value}{kd who op dl sl gn st n:Int}{wt fc gd:Bool}(h:mG w0 T Z X ta (mq kd who op dl wt fc sl gn st n gd) w):w.cell? ⟨X,0,none⟩=some (.int .i64 kd)/\w.cell? ⟨X,1,none⟩=some (.int .i64 who)/\w.cell? ⟨X,2,none⟩=some (.int .i64 op)/\w.cell? ⟨X,3,none⟩=some (.int .i64 dl)/\w.cell? ⟨X,4,none⟩=some (.bool wt)/\w.cell? ⟨X,5,none⟩=some (.bool fc)/\w.cell? ⟨X,6,none⟩=some (.int .i64 sl)/\w.cell? ⟨X,7,none⟩=some (.int .i64 gn)/\w.cell? ⟨X,8,none⟩=some (.int .i64 st)/\w.cell? ⟨X,9,none⟩=some (.int .i64 n)/\w.cell? ⟨X,10,none⟩=some (.bool gd):=by
 refine⟨?_,?_,?_,?_,?_,?_,?_,?_,?_,?_,?_⟩<;>(rw[cell_of h.x];rfl)
theorem mG.fx{w0 w:World}{T Z X:Nat}{ta xa:Array Value}(h:mG w0 T Z X ta xa w):w.frozen? ⟨X,0,none⟩=false/\w.frozen? ⟨X,1,none⟩=false/\w.frozen? ⟨X,2,none⟩=false/\w.frozen? ⟨X,3,none⟩=false/\w.frozen? ⟨X,4,none⟩=false/\w.frozen? ⟨X,5,none⟩=false/\w.frozen? ⟨X,6,none⟩=false/\w.frozen? ⟨X,7,none⟩=false/\w.frozen? ⟨X,8,none⟩=false/\w.frozen? ⟨X,9,none⟩=false/\w.frozen? ⟨X,10,none⟩=false:=
 ⟨aW h.x _,aW h.x _,aW h.x _,aW h.x _,aW h.x _,aW h.x _,aW h.x _,aW h.x _,aW h.x _,aW h.x _,aW h.x _⟩
theorem mG.zs{w0 w:World}{T Z X:Nat}{ta xa:Array Value}(h:mG w0 T Z X ta xa w):w.cell? ⟨Z,0,none⟩=some (.int .i64 0)/\w.cell? ⟨Z,1,none⟩=some (.int .i64 0)/\w.cell? ⟨Z,2,none⟩=some (.int .i64 0)/\w.cell? ⟨Z,3,none⟩=some (.int .i64 0)/\w.cell? ⟨Z,4,none⟩=some (.bool false)/\w.cell? ⟨Z,5,none⟩=some (.bool false)/\w.cell? ⟨Z,6,none⟩=some (.int .i64 0)/\w.cell? ⟨Z,7,none⟩=some (.int .i64 0)/\w.cell? ⟨Z,8,none⟩=some (.int .i64 0)/\w.cell? ⟨Z,9,none⟩=some (.int .i64 0)/\w.cell? ⟨Z,10,none⟩=some (.bool false):=by
 refine⟨?_,?_,?_,?_,?_,?_,?_,?_,?_,?_,?_⟩<;>(rw[cell_of h.z];rfl)
theorem mG.fz{w0 w:World}{T Z X:Nat}{ta xa:Array Value}(h:mG w0 T Z X ta xa w):w.frozen? ⟨Z,0,none⟩=false/\w.frozen? ⟨Z,1,none⟩=false/\w.frozen? ⟨Z,2,none⟩=false/\w.frozen? ⟨Z,3,none⟩=false/\w.frozen? ⟨Z,4,none⟩=false/\w.frozen? ⟨Z,5,none⟩=false/\w.frozen? ⟨Z,6,none⟩=false/\w.frozen? ⟨Z,7,none⟩=false/\w.frozen? ⟨Z,8,none⟩=false/\w.frozen? ⟨Z,9,none⟩=false/\w.frozen? ⟨Z,10,none⟩=false:=
 ⟨aW h.z _,aW h.z _,aW h.z _,aW h.z _,aW h.z _,aW h.z _,aW h.z _,aW h.z _,aW h.z _,aW h.z _,aW h.z _⟩
theorem Zr{c:Cn}{kd who o dl sl gn st n:Int}{wt fc gd:Bool}(hk:0<=kd/\kd<=5)(hw: -1<=who/\who<=c.W)(ho:0<=o)(hd:dl<=255):∃x:En,Value.agg (mq kd who o dl wt fc sl gn st n gd)=uZ x/\wY c x/\x.a.dl<=255:=by
 refine⟨⟨kd,who,o,⟨0,wt,fc,dl,sl,gn,st⟩,n,gd⟩,?_,⟨hk,hw,ho⟩,hd⟩;have e:(o.toNat:Int)=o:=j8 ho;show _=Value.agg #[.int .i64 kd,.int .i64 who,.int .i64 (o.toNat:Int),.int .i64 dl,.bool wt,.bool fc,.int .i64 sl,.int .i64 gn,.int .i64 st,.int .i64 n,.bool gd];rw[e];rfl
theorem heap_put{w:World}{Z:Nat}{cs:Array Value}{t:TypeId}(h:w.heap[Z]?=some (.cells cs t (0,0)))(i:Nat)(v:Value):(w.setCell ⟨Z,i,none⟩ v).heap[Z]?=some (.cells (cs.setIfInBounds i v) t (0,0)):=by simp[World.setCell,pT,h]
theorem acM{w0 w:World}{T Z X:Nat}{ta xa:Array Value}{kd who op dl sl gn st n:Int}{wt fc gd:Bool}(h:mG w0 T Z X ta xa w):(((((((((((w.setCell ⟨Z,0,none⟩ (.int .i64 kd)).setCell ⟨Z,1,none⟩ (.int .i64 who)).setCell ⟨Z,2,none⟩ (.int .i64 op)).setCell ⟨Z,3,none⟩ (.int .i64 dl)).setCell ⟨Z,4,none⟩ (.bool wt)).setCell ⟨Z,5,none⟩ (.bool fc)).setCell ⟨Z,6,none⟩ (.int .i64 sl)).setCell ⟨Z,7,none⟩ (.int .i64 gn)).setCell ⟨Z,8,none⟩ (.int .i64 st)).setCell ⟨Z,9,none⟩ (.int .i64 n)).setCell ⟨Z,10,none⟩ (.bool gd)).heap[Z]?=some (.cells (mq kd who op dl wt fc sl gn st n gd) 57 (0,0))/\Below w0.heap.size w0 (((((((((((w.setCell ⟨Z,0,none⟩ (.int .i64 kd)).setCell ⟨Z,1,none⟩ (.int .i64 who)).setCell ⟨Z,2,none⟩ (.int .i64 op)).setCell ⟨Z,3,none⟩ (.int .i64 dl)).setCell ⟨Z,4,none⟩ (.bool wt)).setCell ⟨Z,5,none⟩ (.bool fc)).setCell ⟨Z,6,none⟩ (.int .i64 sl)).setCell ⟨Z,7,none⟩ (.int .i64 gn)).setCell ⟨Z,8,none⟩ (.int .i64 st)).setCell ⟨Z,9,none⟩ (.int .i64 n)).setCell ⟨Z,10,none⟩ (.bool gd)):=by
 constructor
 .have S:=fun{w:World} {cs:Array Value} {t:TypeId} (h:w.heap[Z]?=some (.cells cs t (0,0))) i v=>(heap_put h i v)
  exact(S (S (S (S (S (S (S (S (S (S (S h.z 0 _) 1 _) 2 _) 3 _) 4 _) 5 _) 6 _) 7 _) 8 _) 9 _) 10 _).trans (by simp[mq])
 .have hz:=h.n.2.1
  have S:∀{w:World},Below w0.heap.size w0 w->∀i v,Below w0.heap.size w0 (w.setCell ⟨Z,i,none⟩ v):=λh i v=>h.setCell (p:=⟨Z,i,none⟩) hz v;exact S (S (S (S (S (S (S (S (S (S (S h.b 0 _) 1 _) 2 _) 3 _) 4 _) 5 _) 6 _) 7 _) 8 _) 9 _) 10 _
set_option maxHeartbeats 4000000 in
theorem Zq{c:Cn}(hW:1<=c.W/\c.W<=4){k who op sl g n:Int}(h1:U8 k)(h2:U8 who)(h3:U8 op)(h4:U8 sl)(h5:U8 g)(h6:U8 n){l:List Ev}{v:Value}{B:Nat}(hl:l.length<=1000000000)(w:World)(h:Dx w v l B):
  Calls Tryz.prog 45 #[.agg #[.int .u8 k,.int .u8 who,.int .u8 op,.int .u8 sl,.int .u8 g,.int .u8 n],.agg (dI c).toArray,v] w λr w'=>(∃x,r=.returned (uZ x)/\wY c x/\x.a.dl<=255)/\Below w.heap.size w w':=by
 obtain⟨a1,b1⟩:=h1;obtain⟨a2,b2⟩:=h2;obtain⟨a3,b3⟩:=h3;obtain⟨a4,b4⟩:=h4;obtain⟨a5,b5⟩:=h5;obtain⟨a6,b6⟩:=h6;obtain⟨W1,W4⟩:=hW;go_enter Tryz.func45,Tryz.ntmps45
 go_wp2_with fail
 go_quiet (fail)
 go_upto_block 0 with(fail)
 obtain⟨who',hwho⟩:∃y,y=wrap64 (who%((c.W:Int)+1)-who/250):=⟨_,rfl⟩;have hwr: -1<=who'/\who'<=c.W:=by
  rw[hwho];have g1:0<=who%((c.W:Int)+1):=rm _ (by omega);have g2:who%((c.W:Int)+1)<(c.W:Int)+1:=oE _ (by omega);rw[ga _ (by omega)];omega
 rw[<-hwho];refine jY λW0 hW0=> ?_;have E0:mG w w.heap.size (w.heap.size+1+1) (w.heap.size+1+1+1) #[.int .u8 k,.int .u8 who,.int .u8 op,.int .u8 sl,.int .u8 g,.int .u8 n] (mq 0 who' 0 0 false false 0 0 0 (n%16) (decide (0<n%3))) W0:=by
  refine⟨by rw[hW0];exact(VJ ..).1,by rw[hW0];exact(VJ ..).2.1,by rw[hW0];exact(VJ ..).2.2,?_,by omega⟩
  .rw[hW0]
   exact(fR ((((Below.refl _ w).alloc (aq _) _).alloc (by simp) _).alloc (by simp;omega) _) _).alloc (by simp;omega) _
 have HW:=Lib.hid (And.intro hwho hW0);clear hwho hW0;have ht0:W0.cell? ⟨w.heap.size,0,none⟩=some (.int .u8 k):=by rw[cell_of E0.t];rfl
 have hx0:W0.cell? ⟨w.heap.size+1+1+1,0,none⟩=some (.int .i64 0):=by rw[cell_of E0.x];rfl
 have Mw:W0.frozen? ⟨w.heap.size+1+1+1,0,none⟩=false:=aW E0.x 0;have wk:wrap64 (k-250)=k-250:=ga _ (by omega);have HE:=Lib.hid E0;clear E0;go_cut []from 33 to 62 (λw'=>∃kd:Int,(0<=kd/\kd<=5)/\w'=W0.setCell ⟨w.heap.size+1+1+1,0,none⟩ (.int .i64 kd))
 case first=>
  go_wp2
  all_goals (go_meet;exact⟨_,by omega,rfl⟩)
 case rest=>
  obtain⟨kd,hkd,hwc⟩:=hcut;have E1:=HE.out.set 0 (.int .i64 kd);rw[<-hwc]at E1;have MR:mG w w.heap.size (w.heap.size+1+1) (w.heap.size+1+1+1) #[.int .u8 k,.int .u8 who,.int .u8 op,.int .u8 sl,.int .u8 g,.int .u8 n] (mq kd who' 0 0 false false 0 0 0 (n%16) (decide (0<n%3))) wc:=E1;clear E1 ht0 hx0 Mw wk;have HC:=Lib.hid hwc;clear hwc;have t2:wc.cell? ⟨w.heap.size,2,none⟩=some (.int .u8 op):=by rw[cell_of MR.t];rfl
  have t3:wc.cell? ⟨w.heap.size,3,none⟩=some (.int .u8 sl):=by rw[cell_of MR.t];rfl
  have t4:wc.cell? ⟨w.heap.size,4,none⟩=some (.int .u8 g):=by rw[cell_of MR.t];rfl
  have t5:wc.cell? ⟨w.heap.size,5,none⟩=some (.int .u8 n):=by rw[cell_of MR.t];rfl
  obtain⟨x0,x1,x2,x3,x4,x5,x6,x7,x8,x9,SA⟩:=MR.xs;obtain⟨Mw,Ue,Qk,Ud,Uc,Ub,Ua,T9,TZ,TY,KX⟩:=MR.fx;have HE1:=Lib.hid MR;clear MR;go_upto_region 15 with(fail)
  refine jY λW2 hW2=> ?_;have E2:=((((((HE1.out.set 2 (.int .i64 (op%9))).set 3 (.int .i64 n)).set 4 (.bool (n%2==1))).set 5 (.bool (n%5==0))).set 6 (.int .i64 (sl%6))).set 7 (.int .i64 (g%4))).set 8 (.int .i64 (n%4));rw[<-hW2]at E2;have Ur:mG w w.heap.size (w.heap.size+1+1) (w.heap.size+1+1+1) #[.int .u8 k,.int .u8 who,.int .u8 op,.int .u8 sl,.int .u8 g,.int .u8 n] (mq kd who' (op%9) n (n%2==1) (n%5==0) (sl%6) (g%4) (n%4) (n%16) (decide (0<n%3))) W2:=E2;have HC2:=Lib.hid hW2;clear E2 hW2 t2 t3 t4 t5 x0 x1 x2 x3 x4 x5 x6 x7 x8 x9 SA Mw Ue Qk Ud Uc Ub Ua T9 TZ TY KX;have t2:W2.cell? ⟨w.heap.size,2,none⟩=some (.int .u8 op):=by rw[cell_of Ur.t];rfl
  obtain⟨x0,x1,x2,x3,x4,x5,x6,x7,x8,x9,SA⟩:=Ur.xs;obtain⟨Mw,Ue,Qk,Ud,Uc,Ub,Ua,T9,TZ,TY,KX⟩:=Ur.fx;have lX:w.heap.size+1+1+1<W2.heap.size:=gQ Ur.x;have t2':∀o,(W2.alloc o).cell? ⟨w.heap.size,2,none⟩=some (.int .u8 op):=λo=>by rw[fN (h:=mu (show w.heap.size<W2.heap.size by omega))];exact t2
  have x2':∀o,(W2.alloc o).cell? ⟨w.heap.size+1+1+1,2,none⟩=some (.int .i64 (op%9)):=λo=>by rw[fN (h:=mu lX)];exact x2
  have alA:∀o,(W2.alloc o).frozen? ⟨w.heap.size+1+1+1,2,none⟩=false:=λo=>by rw[World.frozen?_alloc_old (h:=mu lX)];exact Qk
  have HE2:=Lib.hid Ur;clear Ur;go_upto_if 94 with(fail)
  go_cut []from 95 to 103 (λw'=>∃o:Int,0<=o/\mG w w.heap.size (w.heap.size+1+1) (w.heap.size+1+1+1) #[.int .u8 k,.int .u8 who,.int .u8 op,.int .u8 sl,.int .u8 g,.int .u8 n] (mq kd who' o n (n%2==1) (n%5==0) (sl%6) (g%4) (n%4) (n%16) (decide (0<n%3))) w')
  case first=>
   have h5:op%5=0\/op%5=1\/op%5=2\/op%5=3\/op%5=4:=by omega
   rcases h5 with h5|h5|h5|h5|h5
   all_goals
    go_wp2
    all_goals go_meet
    all_goals first
     |exact⟨op%9,by omega,HE2.out⟩
     |exact⟨_,by decide,(HE2.out.set 2 _).below ((Below.refl _ _).alloc (aq _) _)⟩
  case rest=>
   obtain⟨o,ho,E3⟩:=hcut;clear t2 t2' x2' alA x0 x1 x2 x3 x4 x5 x6 x7 x8 x9 SA Mw Ue Qk Ud Uc Ub Ua T9 TZ TY KX;have t3:wc.cell? ⟨w.heap.size,3,none⟩=some (.int .u8 sl):=by rw[cell_of E3.t];rfl
   obtain⟨x0,x1,x2,x3,x4,x5,x6,x7,x8,x9,SA⟩:=E3.xs;obtain⟨Mw,Ue,Qk,Ud,Uc,Ub,Ua,T9,TZ,TY,KX⟩:=E3.fx;obtain⟨z0,z1,z2,z3,z4,z5,z6,z7,z8,z9,z10⟩:=E3.zs;obtain⟨fz0,fz1,fz2,fz3,fz4,fz5,fz6,fz7,fz8,fz9,ahN⟩:=E3.fz;have hL:=YR who' hl wc (h.below E3.b);have HE3:=Lib.hid E3;clear E3;go_wp2_with (go_at_call 60;refine hL.mono ?_;rintro e w1 ⟨⟨s1,g1,rfl⟩,hb1⟩;have E4:=HE3.out.below hb1;obtain⟨y0,y1,y2,y3,y4,y5,y6,y7,y8,y9,y10⟩:=E4.xs;obtain⟨fy0,fy1,fy2,fy3,fy4,fy5,fy6,fy7,fy8,fy9,am7⟩:=E4.fx;obtain⟨u0,u1,u2,u3,u4,u5,u6,u7,u8,u9,u10⟩:=E4.zs;obtain⟨fu0,fu1,fu2,fu3,fu4,fu5,fu6,fu7,fu8,fu9,am8⟩:=E4.fz;have HE4:=Lib.hid E4;clear E4)
   .obtain⟨hq,hb2⟩:=acM ((HE4.out.set 6 (.int .i64 s1)).set 7 (.int .i64 g1)) (kd:=kd) (who:=who') (op:=o) (dl:=n) (wt:=n%2==1) (fc:=n%5==0) (sl:=s1) (gn:=g1) (st:=n%4) (n:=n%16) (gd:=decide (0<n%3))
    obtain⟨x,hx,hxo⟩:=Zr (c:=c) (kd:=kd) (who:=who') (o:=o) (dl:=n) (wt:=n%2==1) (fc:=n%5==0) (sl:=s1) (gn:=g1) (st:=n%4) (n:=n%16) (gd:=decide (0<n%3)) hkd hwr ho b6;clear hL x0 x1 x2 x3 x4 x5 x6 x7 x8 x9 SA Mw Ue Qk Ud Uc Ub Ua T9 TZ TY KX z0 z1 z2 z3 z4 z5 z6 z7 z8 z9 z10 fz0 fz1 fz2 fz3 fz4 fz5 fz6 fz7 fz8 fz9 ahN t3;revert hq hb2;generalize World.setCell _ ⟨w.heap.size+1+1,10,none⟩ _=W4;intro hq hb2;have q0:=cell_of hq 0;have q1:=cell_of hq 1;have q2:=cell_of hq 2;have q3:=cell_of hq 3;have q4:=cell_of hq 4;have q5:=cell_of hq 5;have q6:=cell_of hq 6;have q7:=cell_of hq 7;have q8:=cell_of hq 8;have q9:=cell_of hq 9;have OZ:=cell_of hq 10;simp only[mq,iT,jz,lA]at q0 q1 q2 q3 q4 q5 q6 q7 q8 q9 OZ;refine cC (v:=.agg (mq kd who' o n (n%2==1) (n%5==0) s1 g1 (n%4) (n%16) (decide (0<n%3)))) ?_ rfl ?_
    .simp[results,Tryz.f45,go_sem,q0,q1,q2,q3,q4,q5,q6,q7,q8,q9,OZ,mq]
    .exact⟨⟨x,by rw[hx],hxo⟩,hb2⟩
   .obtain⟨hq,hb2⟩:=acM HE3.out (kd:=kd) (who:=who') (op:=o) (dl:=n) (wt:=n%2==1) (fc:=n%5==0) (sl:=(sl%6)) (gn:=(g%4)) (st:=n%4) (n:=n%16) (gd:=decide (0<n%3))
    obtain⟨x,hx,hxo⟩:=Zr (c:=c) (kd:=kd) (who:=who') (o:=o) (dl:=n) (wt:=n%2==1) (fc:=n%5==0) (sl:=(sl%6)) (gn:=(g%4)) (st:=n%4) (n:=n%16) (gd:=decide (0<n%3)) hkd hwr ho b6;clear hL x0 x1 x2 x3 x4 x5 x6 x7 x8 x9 SA Mw Ue Qk Ud Uc Ub Ua T9 TZ TY KX z0 z1 z2 z3 z4 z5 z6 z7 z8 z9 z10 fz0 fz1 fz2 fz3 fz4 fz5 fz6 fz7 fz8 fz9 ahN t3;revert hq hb2;generalize World.setCell _ ⟨w.heap.size+1+1,10,none⟩ _=W4;intro hq hb2;have q0:=cell_of hq 0;have q1:=cell_of hq 1;have q2:=cell_of hq 2;have q3:=cell_of hq 3;have q4:=cell_of hq 4;have q5:=cell_of hq 5;have q6:=cell_of hq 6;have q7:=cell_of hq 7;have q8:=cell_of hq 8;have q9:=cell_of hq 9;have OZ:=cell_of hq 10;simp only[mq,iT,jz,lA]at q0 q1 q2 q3 q4 q5 q6 q7 q8 q9 OZ;refine cC (v:=.agg (mq kd who' o n (n%2==1) (n%5==0) (sl%6) (g%4) (n%4) (n%16) (decide (0<n%3)))) ?_ rfl ?_
    .simp[results,Tryz.f45,go_sem,q0,q1,q2,q3,q4,q5,q6,q7,q8,q9,OZ,mq]
    .exact⟨⟨x,by rw[hx],hxo⟩,hb2⟩
end
noncomputable section
open Classical Yq
variable{c:Cn} {w:Nat} {s s':Ms} {m m':Mm} {i:Nat} {K:Nat}
def gone(cl:Int)(x:aa):Prop:=fits 4 cl x
theorem akq{cl:Int}{x:aa}(h:gone cl x):x.st=2\/x.st=3:=h.elim (λk=>.inl k.1) λk=>.inr k.1
def SwT(cl:Int)(i:Nat)(t:Td):Prop:=match t.st with
 | .ep=>True| .pin=>True| .cl=>True
 | .dL=>t.look.ow=cl/\t.look.at_<=i
 | .go=>t.look.ow=cl/\t.look.at_<=i
 |_=>False
def SwP(cl:Int)(i:Nat)(p:Ph):Prop:=busy p\/∃t q a,p=.ax t q a/\SwT cl i t
def SwA(c:Cn)(s:Ms):Prop:=∀i,i<c.S->gone s.m.cl (s.m.sl i)->∃v,SwP s.m.cl i (s.ws v).ph
def SwI(c:Cn)(s:Ms):Prop:=s.m.cl≠0->SwA c s
theorem apu{cl:Int}{p:Ph}(h:BzP p):SwP cl i p:=by
 rcases h with h|⟨q,a,h⟩
 .exact .inl h
 .exact .inr ⟨_,q,a,h,trivial⟩
theorem aon{t:Td}:(t.step c w m).2.cl=m.cl:=by
 have ag8:=λd own m' h=> @ac3 m m' t d own h;have qr:=(@Ps m t.rt);obtain⟨st,ep,cl,qu,look,j,wd,other,head,rt⟩:=t;cases st with
 |go=>
  unfold Td.step;dsimp only;have k1:=qr.cl;split<;>exact k1
 |clear=>
  show((Td.swap m ⟨.clear,ep,cl,qu,look,j,wd,other,head,rt⟩ 12 w).getD m).cl=m.cl;cases h:Td.swap m ⟨.clear,ep,cl,qu,look,j,wd,other,head,rt⟩ 12 w with
  |none=>rfl
  |some m2=>exact(ag8 _ _ _ h).cl
 |keep=>
  unfold Td.step;dsimp only;split
  .rename_i m2 h;exact(ag8 _ _ _ h).cl
  .rfl
 |dR=>
  unfold Td.step;dsimp only;split
  .rename_i m2 h;exact(ag8 _ _ _ h).cl
  .rfl
 |_=>
  unfold Td.step;dsimp only;repeat' split
  all_goals rfl
theorem M3{q:Qu}{x:Wr}:(aV c w s x q).m.cl=s.m.cl/\(aV c w s x q).m.sl=s.m.sl:=by
 grind [aV,Ms.put,Ms.mem,Qu.step,Mm.nT]
theorem ar0{t:Td}{cl:Int}(T:pX c t)(h:SwT cl i t)(hi:i<c.S)(hg:gone cl (m.sl i))(e:m.cl=cl):SwT cl i (t.step c w m).1:=by
 obtain⟨st,ep,bU,qu,look,j,wd,other,head,rt⟩:=t;cases st with
 |ep=>trivial
 |pin=>trivial
 |cl=>exact⟨e,cL _⟩
 |dL=>
  obtain⟨T1,T2⟩:look.fd=none/\look.kd=4:=T;obtain⟨h1,h2⟩:look.ow=cl/\look.at_<=i:=h;obtain⟨k1,_⟩:=eQ;have e1:(Td.fu c.S m ⟨.dL,ep,bU,qu,look,j,wd,other,head,rt⟩).look=look.step c.S m:=by
   unfold Td.fu;dsimp only;split<;>rfl
  have e2:(look.step c.S m).ow=look.ow:=by unfold Fd.step;grind
  have e3:(look.step c.S m).at_<=i:=by
   unfold Fd.step;split
   .exact h2
   .split
    .exact h2
    .rename_i hf
     show look.at_+1<=i
     have:look.at_≠i:=λq=>hf (by
      rw[T2,h1,q];exact hg)
     omega
  unfold Td.step;dsimp only;rw[<-e1]at e2 e3;generalize Td.fu c.S m ⟨.dL,ep,bU,qu,look,j,wd,other,head,rt⟩=u at*;split
  .exact⟨e2.trans h1,e3⟩
  .split
   .rename_i ha
    have ha:u.look.fd=none/\c.S<=u.look.at_:=ha;omega
   .unfold SwT;rw[k1];exact⟨e2.trans h1,e3⟩
 |go=>
  obtain⟨h1,h2⟩:look.ow=cl/\look.at_<=i:=h;unfold Td.step;dsimp only;split<;>exact⟨h1,h2⟩
 |_=>exact h.elim
theorem akQ(h:¬busy (s.ws w).ph):(ai c s w).m.cl=s.m.cl:=by
 cases hp:(s.ws w).ph with
 |rest=>grind [ai]
 |ax t p a=>
  have tc:=aon (c:=c) (w:=w) (m:=s.m) (t:=t);cases hst:t.step c w s.m with
  |mk t' m'=>
   rw[ui hp hst];rw[hst]at tc;split
   .cases p<;>exact tc
   .exact tc
 |parked b=>
  unfold ai;dsimp only;rw[hp];dsimp only;split
  .rfl
  .exact M3.1
 |leaves q=>grind [ai,M3]
 |_=>rw[hp]at h;exact absurd trivial h
theorem aqz{t:Td}{cl:Int}(hg:¬gone cl (m.sl i))(hg':gone cl ((t.step c w m).2.sl i)):SwT cl i (t.step c w m).1:=by
 have sw:=λd own m' h=> @agt m m' t d own h;have key:∀{d own more:Int} {n:aa} {k:Nat} {m2:Mm},nz m m2 k d own more n->gone cl (m2.sl i)->gone cl n:=by
  intro d own more n k m2 hn h;rw[hn.2]at h;grind [upd]
 obtain⟨st,ep,bU,qu,look,j,wd,other,head,rt⟩:=t;cases st with
 |go=>
  exfalso;have h2:gone cl ((rt.step m).2.sl i):=by
   unfold Td.step at hg';dsimp only at hg';split at hg'<;>exact hg'
  rcases agU (m:=m) (r:=rt)with q|q|q|q|q
  .obtain⟨q1,q2⟩:=q
   rcases q2 with⟨n,hn,_⟩|⟨q3,_⟩
   .have:=key hn h2
    have q:=(qf hn.1).2.2.2.2.2.2.2.2.2.2.2.1 rfl;have:=akq this;omega
   .rw[q3]at h2;exact hg h2
  .rw[q.2.1]at h2;exact hg h2
  .obtain⟨q1,q2,q3,q4⟩:=q
   rcases q4 with⟨n,hn,_⟩|⟨q5,_⟩
   .have:=key hn h2
    have q:=(qf hn.1).2.2.2.2.2.2.2.2.2.2.2.2.2.2.2.2 rfl;have:=akq this;omega
   .rw[q5]at h2;exact hg h2
  .rw[q.2.2.1]at h2;exact hg h2
  .rw[q.2.2]at h2;exact hg h2
 |clear=>
  exfalso;have h2:gone cl (((Td.swap m ⟨.clear,ep,bU,qu,look,j,wd,other,head,rt⟩ 12 w).getD m).sl i):=hg';cases h:Td.swap m ⟨.clear,ep,bU,qu,look,j,wd,other,head,rt⟩ 12 w with
  |none=>rw[h]at h2;exact hg h2
  |some m2=>
   rw[h]at h2;obtain⟨n,hn⟩:=sw _ _ _ h;have:=key hn h2;have q:=(qf hn.1).2.2.2.2.2.2.2.2.2.2.2.2.1 rfl;have:=akq this;omega
 |keep=>
  exfalso;unfold Td.step at hg';dsimp only at hg';split at hg'
  .rename_i m2 h
   obtain⟨n,hn⟩:=sw _ _ _ h;have:=key hn hg';have q:=qf hn.1;have:=akq this;split at hn
   .omega
   .omega
  .exact hg hg'
 |dR=>
  unfold Td.step at hg' ⊢;dsimp only at hg' ⊢;split at hg'
  .first|trivial|(rw[h])
  .exact absurd hg' hg
 |_=>
  exfalso;unfold Td.step at hg';dsimp only at hg';repeat' split at hg'
  all_goals exact hg hg'
theorem ao1(I:SwA c s)(A:All c s)(hw:w<c.W)(o:∀j,j≠w->(ai c s w).ws j=s.ws j):SwA c (ai c s w):=by
 intro i hi hg;by_cases hb:busy (s.ws w).ph
 .exact⟨w,apu (aj2 hb)⟩
 .have other:(ai c s w).m.cl=s.m.cl->(ai c s w).m.sl=s.m.sl->(∀t q a,(s.ws w).ph≠.ax t q a)->∃v,SwP (ai c s w).m.cl i ((ai c s w).ws v).ph:=by
   intro e1 e2 hn;rw[e1]at hg ⊢;rw[e2]at hg;obtain⟨v,k⟩:=I i hi hg;have:v≠w:=λe=>by
    rw[e]at k;rcases k with k|⟨t,q,a,k,_⟩
    .exact hb k
    .exact hn t q a k
   grind
  cases hp:(s.ws w).ph with
  |rest=>
   have e:ai c s w=s:=by unfold ai;dsimp only;rw[hp]
   exact other (by rw[e]) (by rw[e]) (λt q a h=>by rw[hp]at h;cases h)
  |parked b=>
   by_cases hgr:s.m.gr w≠0
   .have e:ai c s w=(s.mem s.m).put w ((s.ws w).to (.wakes (some (s.m.gr w)))):=by unfold ai;dsimp only;rw[hp];dsimp only;rw[if_pos hgr];rfl
    exact⟨w,by rw[e,ae];exact .inl trivial⟩
   .have e:ai c s w=aV c w s (s.ws w) Qu.leave:=by unfold ai;dsimp only;rw[hp];dsimp only;rw[if_neg hgr]
    exact other (by rw[e];exact M3.1) (by rw[e];exact M3.2) (λt q a h=>by rw[hp]at h;cases h)
  |leaves q=>
   have e:ai c s w=aV c w s (s.ws w) q:=by unfold ai;dsimp only;rw[hp]
   exact other (by rw[e];exact M3.1) (by rw[e];exact M3.2) (λt q a h=>by rw[hp]at h;cases h)
  |ax t p a=>
   have T:pX c t:=by
    have X:=A.inv.w w hw;unfold jO at X;rw[hp]at X;exact X.1
   cases hst:t.step c w s.m with
   |mk t' m'=>
    have ef:=ui hp hst;have em:(ai c s w).m=m':=by
     rw[ef];split
     .cases p<;>rfl
     .rfl
    have ecl:m'.cl=s.m.cl:=by have:=aon (c:=c) (w:=w) (m:=s.m) (t:=t);rw[hst]at this;exact this
    have fin:SwT s.m.cl i t'->∃v,SwP (ai c s w).m.cl i ((ai c s w).ws v).ph:=by
     intro k;have nd:t'.st≠.done:=λh=>by unfold SwT at k;rw[h]at k;exact k
     rw[if_neg nd]at ef;refine⟨w,?_⟩;rw[em,ecl,ef,ae];exact .inr ⟨t',p,a,rfl,k⟩
    rw[em,ecl]at hg;by_cases hg0:gone s.m.cl (s.m.sl i)
    .obtain⟨v,k⟩:=I i hi hg0
     by_cases e:v=w
     .subst e
      rcases k with k|⟨t0,q0,a0,k,k2⟩
      .exact absurd k hb
      .rw[hp]at k
       cases k;have:=ar0 (w:=v) T k2 hi hg0 rfl;rw[hst]at this;exact fin this
     .exact⟨v,by rw[o v e,em,ecl];exact k⟩
    .have:=aqz hg0 (by rw[hst];exact hg)
     rw[hst]at this;exact fin this
  |_=>rw[hp]at hb;exact absurd trivial hb
theorem ao0(I:SwI c s)(A:All c s)(hw:w<c.W)(o:∀j,j≠w->(ai c s w).ws j=s.ws j):SwI c (ai c s w):=by
 intro hc;by_cases h:s.m.cl≠0
 .exact ao1 (I h) A hw o
 .intro i hi hg
  have hb:busy (s.ws w).ph:=cv λk=>hc (by
   grind [akQ])
  exact⟨w,apu (aj2 hb)⟩
theorem aqJ(I:SwI c s)(A:All c s)(D:DoC c s s'):SwI c s':=by
 have F:=apF D;have key:s'.m.cl=s.m.cl/\∀i,(s'.m.sl i).st=(s.m.sl i).st:=by
  cases D with
  |same h1 h2=>grind
  |ask u a hu hr h1 h2=>grind
  |brk j n h0 h1 h2=>
   rw[h1];refine⟨rfl,λi=> ?_⟩;show(upd s.m.sl j n i).st=_;grind [upd,alS]
 intro hc i hi hg;rw[key.1]at hc hg ⊢;have hg:gone s.m.cl (s.m.sl i):=by
  have e:=key.2 i;have:=A.cl;unfold Lj at this;unfold gone fits at hg ⊢;rw[e]at hg;rcases hg with⟨g,_⟩|g
  .exact .inl ⟨g,.inr (by omega)⟩
  .exact .inr g
 obtain⟨v,k⟩:=I hc i hi hg;refine⟨v,?_⟩;rcases F.ph v with h|⟨h0,h⟩
 .rw[h];exact k
 .rw[h];exact .inl trivial
theorem aoZ:SwI c Ms.zero:=λh=>absurd rfl h
end
noncomputable section
open Classical Yq
variable{c:Cn} {w:Nat} {s:Ms}
structure XtS(c:Cn)(s:Ms):Prop where
 safe:∃h,bJ c s h
 sw:SwI c s
theorem aqy:XtS c Ms.zero:=⟨aov,aoZ⟩
theorem anS(X:XtS c s)(A:All c s)(hw:w<c.W)(hW:c.W<=15)(hS:1<=c.S)(hc:aQ s w):XtS c (ai c s w):=by
 obtain⟨⟨h,S⟩,sw⟩:=X;exact⟨XP S hw A.inv.m (A.inv.w w hw) (A.wd w hw),ao0 sw A hw (BD hw hW hS A.inv.m A.inv.g (A.inv.w w hw) hc).2.2.2.1⟩
theorem arZ(X:XtS c s)(A:All c s)(hW:c.W<=15)(hS:1<=c.S)(x:En):XtS c (dX c s x).2:=by
 by_cases hk:x.kind=1
 .by_cases hp:inW c x.who/\aQ s x.who.toNat
  .have e:(dX c s x).2=ai c s x.who.toNat:=by
    unfold dX;rw[if_neg (by omega),if_pos hk,if_pos hp]
   rw[e];have:=hp.1;unfold inW at this;exact anS X A (by omega) hW hS hp.2
  .have e:(dX c s x).2=s:=by
    unfold dX;rw[if_neg (by omega),if_pos hk,if_neg hp]
   rw[e];exact X
 .exact⟨aqA A X.safe x,aqJ X.sw A (aks x hk)⟩
end
noncomputable section
open Go.RowKit Go.bn Go.Sx Yq
attribute [local go_sem ↓] Go.wp_at_zero Go.wp_at_succ
variable{c:Cn} {s:Ms} {e:Int} {B b:Nat} {w w':World}
abbrev Lb(c:Cn)(s:Ms)(e:Int)(B b:Nat)(w:World):Prop:=Live c s e (· <B) b w
theorem Lb.back{D:Nat->Prop}(h0:Lb c s e B b w)(h:Live c s e D b w')(hD:∀j,j<B->D j):Lb c s e B b w':=Live.mono h hD h0.kt
theorem Lb.below(h:Lb c s e B b w)(hb:Below w.heap.size w w'):Lb c s e B b w':=Lb.back h (Live.below h hb) λj hj=>.inl hj
theorem Lb.drew(h:Lb c s e B b w):Lb c s e B b w.drew:=Live.drew h
theorem Lb.size(h:Lb c s e B b w):B<=w.heap.size:=by
 rcases cn w.heap.size B with q|q
 .exact absurd (h.lt _ q) (m8 _)
 .exact q
theorem Lb.ev(h:Lb c s e B b w)(he:e<=1000000000):Calls Tryz.prog 17 #[.pointer (some ⟨b,0,none⟩)] w λr w'=>∃v',r=.returned v'/\Dx w' v' s.ev w.heap.size/\Below w.heap.size w w'/\Lb c s e B b w':=by
 refine(Live.events h he).mono λr w' hh=> ?_;obtain⟨v',A,rfl,ho,hb,hl⟩:=hh;exact⟨v',rfl,K3 ho,hb,Lb.below h hb⟩
theorem Lb.evs(h:Lb c s e B b w)(he:e<=1000000000):s.ev.length<=1000000000:=by
 obtain⟨k,hk,_,hl⟩:=h.good.nx;omega
theorem Lb.MC(H:∀v,v<c.W->fZ c.W v)(h:Lb c s e B b w)(he:e<=1000000000)(x:En)(hx:wY c x):Calls Tryz.prog jV #[.pointer (some ⟨b,0,none⟩),uZ x] w λr w'=>r=.returned (.bool (dX c s x).1)/\Below B w w'/\Lb c (dX c s x).2 (e+1) B b w':=by
 refine(Live.MC H h he x hx).mono λr w' hh=> ?_;exact⟨hh.1,hh.2.1.below,hh.2.2⟩
def tch(B B' n:Nat):Nat->Prop:=λj=>j<B'\/B<=j/\j<n
theorem Lb.touch{B':Nat}(h:Lb c s e B b w)(hB:B'<=B)(h0:2<B')(hk:Kept (tch B B' w.heap.size) w w'):Lb c s e B' b w':=by
 obtain⟨A,F,M,hF⟩:=h.oL;have hn:∀k,KT k->k<B':=λk hk=>by rcases hk with rfl|rfl<;>omega
 refine⟨h.good,lg _ _ _ (λk hk=>.inl (hn k hk)) h.tt hk,λj hj=>ba (h.lt j (ba hj hB)) hk.size,hn,A,F,M.st hk.size λj hj=>hk.block j (.inr ⟨pL (hF j · hj),M.lt j hj⟩),λj hj hf=>hF j (ba hj hB) hf⟩
theorem WL(c:Cn)(s:Ms)(w:Nat):(ai c s w).ev=s.ev\/∃x:Ev,x.who=w/\(ai c s w).ev=x::s.ev:=by
 have or:∀s':Ms,s'.ev=s.ev/\s'.now=s.now->(s'.ev=s.ev\/∃x:Ev,x.who=w/\s'.ev=x::s.ev):=λs' h=>.inl h.1;unfold ai;dsimp only;cases(s.ws w).ph with
 |rest=>exact or _ ⟨rfl,rfl⟩
 |pin h=>cases h<;>exact or _ ⟨rfl,rfl⟩
 |work k=>exact or _ (NZ _ _ _ _)
 |counts t=>dsimp only;(repeat' split)<;>exact or _ ⟨rfl,rfl⟩
 |enters q=>dsimp only;(repeat' split)<;>exact or _ ⟨rfl,rfl⟩
 |ax t p a=>
  dsimp only;split
  .cases p with
   |some b=>exact or _ ⟨rfl,rfl⟩
   |none=>exact .inr ⟨_,rfl,rfl⟩
  .exact or _ ⟨rfl,rfl⟩
 |parked b=>dsimp only;split<;>first|exact or _ (zP _ _ _ _)|exact or _ (xK _ _ _ _)
 |wakes h=>exact or _ (zP _ _ _ _)
 |leaves q=>exact or _ (xK _ _ _ _)
def Wh(c:Cn)(s:Ms):Prop:=∀x,x∈s.ev->x.who<c.W
theorem Wh.same{s s':Ms}(h:Wh c s)(e:s'.ev=s.ev):Wh c s':=λx hx=>h x (by rw[<-e];exact hx)
theorem Wh.cons{s s':Ms}{y:Ev}(h:Wh c s)(hy:y.who<c.W)(e:s'.ev=y::s.ev):Wh c s':=λx hx=>by
 rw[e]at hx;rcases db.1 hx with rfl|q
 .exact hy
 .exact h x q
theorem SF{v:Nat}(h:Wh c s)(hv:v<c.W):Wh c (ai c s v):=by
 rcases WL c s v with q|⟨x,hx,q⟩
 .exact h.same q
 .exact h.cons (by omega) q
theorem aik(h:Wh c s)(x:En):Wh c (dX c s x).2:=by
 unfold dX;repeat' split
 all_goals first|exact h|skip
 .rename_i hm
  obtain⟨⟨h0,h1⟩,_⟩:=hm;exact h.cons (y:=⟨false,x.who.toNat,{x.a with op:=x.op.toNat},bR.zero⟩) (by show x.who.toNat<c.W;omega) rfl
 .rename_i hm
  obtain⟨⟨h0,h1⟩,_⟩:=hm;exact SF h (by omega)
theorem adS:Wh c Ms.zero:=λx hx=>by cases hx
def Wg(c:Cn)(n:Int)(s:Ms):Prop:=(Wh c s/\XtS c s)/\∃K:Nat,(K:Int)<=n/\GyS c s K
def Lv(c:Cn)(n:Int)(B b:Nat)(w:World):Prop:=∃s e,(All c s/\Wg c n s)/\Lb c s e B b w/\e<=n
theorem an3{n n':Int}(h:Wg c n s)(hn:n<=n'):Wg c n' s:=⟨h.1,h.2.choose,by have:=h.2.choose_spec.1;omega,h.2.choose_spec.2⟩
theorem apW{n:Int}(h:Wg c n s)(hW:c.W<=14)(hS:1<=c.S)(hn:n<=1000000000)(x:En)(hd:x.a.dl<=255):Wg c (n+1) (dX c s x).2:=by
 obtain⟨h1,K,hK,G⟩:=h;exact⟨⟨aik h1.1 x,arZ h1.2 G.x.nx.all (by omega) hS x⟩,K+1,by omega,amf G hW hS (by omega) x hd⟩
structure Dq(w:World)(A:Option Addr)(n:Nat):Prop where
 at_:∀k,k<n->∃(g off:Nat) (a0 a1 a2 a3 a4 a5:Int),A=some ⟨g,off,none⟩/\g<w.heap.size/\(U8 a0/\U8 a1/\U8 a2/\U8 a3/\U8 a4/\U8 a5)/\w.cell? ⟨g,off+k*6,none⟩=some (.int .u8 a0)/\w.cell? ⟨g,off+k*6+1,none⟩=some (.int .u8 a1)/\w.cell? ⟨g,off+k*6+2,none⟩=some (.int .u8 a2)/\w.cell? ⟨g,off+k*6+3,none⟩=some (.int .u8 a3)/\w.cell? ⟨g,off+k*6+4,none⟩=some (.int .u8 a4)/\w.cell? ⟨g,off+k*6+5,none⟩=some (.int .u8 a5)
theorem adm(w:World)(a b:Obj):((w.alloc a).alloc b).heap[w.heap.size+1]?=some b:=by
 simp only[qU,cQ,rG];rw[if_pos trivial]
set_option maxHeartbeats 4000000 in
theorem abk{a1 a2 a3 a4 a5:Int}(h1:U8 a1)(h2:U8 a2)(h3:U8 a3)(h4:U8 a4)(h5:U8 a5){c:Cn}(hc:c=Jy a1 a2 a3 a4 a5)(H:∀v,v<c.W->fZ c.W v){A:Option Addr}{n cap:Nat}(hn:n<=200)(w:World)(hT:TT w)(hA:Dq w A n):
  Calls Tryz.prog 27 #[.agg #[.int .u8 a1,.int .u8 a2,.int .u8 a3,.int .u8 a4,.int .u8 a5],.slice A n cap] w λr w'=>∃b,r=.returned (.tuple #[.pointer (some ⟨b,0,none⟩),.agg (dI c).toArray])/\Below w.heap.size w w'/\Lv c n w.heap.size b w':=by
 obtain⟨hR,uF,hS5⟩:=Df h1 h2 h3 h4 h5;have hcf:=λW hT=>ack h1 h2 h3 h4 h5 W hT;rw[<-hc]at hR uF hS5 hcf;have hT1:∀o o',TT ((w.alloc o).alloc o'):=λo o'=>nG hT (((Below.refl _ w).alloc (aq _) o).alloc (by simp) o') (hT.lt 2 (.inr rfl));have HA:=Lib.hid hA;have HC:=Lib.hid hc;clear hA hc;go_enter Tryz.func27,Tryz.ntmps27
 go_wp2_with first
  |(go_at_call 44;refine(hcf _ (hT1 _ _).1).mono ?_;rintro r w1 ⟨rfl,hb1⟩;have rQ:∀o,TT (w1.alloc o):=(λo=>nG (hT1 _ _) (hb1.trans ((Below.refl _ w1).alloc hb1.size o)) ((hT1 _ _).lt 2 (.inr rfl)));have K1:=hb1.size;have K1':w.heap.size+2<=w1.heap.size:=(by simpa using K1);have mM:w1.heap[w.heap.size+1]?=some (.cells #[.int .i64 0,.int .i64 0,.int .i64 0,.int .i64 0,.int .i64 0] 30 (0,0)):=((hb1.block (w.heap.size+1) (by simp)).trans (adm w _ _));have HB1:Below w.heap.size w w1:=(((Below.refl _ w).alloc (aq _) _).alloc (by simp) _).trans (hb1.mono (by simp;omega));clear hb1 K1)
  |(go_at_call 26;refine(PN hR uF hS5 _ (rQ _)).mono ?_;rintro r w3 ⟨b,rfl,hb3,hL3⟩;have HB3:=Lib.hid hb3;clear hb3)
 have L0:Lb c Ms.zero 0 (w1.heap.size+1) b w3:=by simpa using hL3
 have B3:Below (w1.heap.size+1) (w1.alloc (.cells (dI c).toArray 30)) w3:=by simpa using HB3.out
 have B3':Below w.heap.size w w3:=(HB1.trans ((Below.refl _ w1).alloc (aq _) (.cells (dI c).toArray 30) |>.mono (by omega))).trans (B3.mono (by omega));have wM:w3.heap[w1.heap.size]?=some (.cells (dI c).toArray 30 (0,0)):=by
  rw[B3.block w1.heap.size (by omega)];simp[qU,cQ]
 have EM:w3.heap[w.heap.size+1]?=some (.cells #[.int .i64 0,.int .i64 0,.int .i64 0,.int .i64 0,.int .i64 0] 30 (0,0)):=by
  rw[B3.block (w.heap.size+1) (by omega),b7 _ _ _ (by omega)];exact mM
 have HX:=Lib.hid (And.intro wM EM);have HY:=Lib.hid (And.intro B3 B3');clear wM EM B3 B3' mM hL3 HB3 hT1 rQ hcf
 go_loopw [9] (fun i wr=>∃k:Nat,k<=n/\i=.int .i64 k/\Below (w1.heap.size+1) w3 wr/\Lv c k (w1.heap.size+1) b wr)
  (λi _=>n-(intOf i).toNat)
 case atStart=>exact⟨0,cL _,rfl,Below.refl _ _,Ms.zero,0,⟨all_zero,⟨adS,aqy⟩,0,jx _,aoc⟩,L0,by omega⟩
 case round=>
  obtain⟨k,hk,rfl,hb,hLv⟩:=hrel;have Br:wr.heap[w1.heap.size]?=some (.cells (dI c).toArray 30 (0,0)):=by rw[hb.block w1.heap.size (by omega)];exact HX.out.1
  have hRr:wr.heap[w.heap.size+1]?=some (.cells #[.int .i64 0,.int .i64 0,.int .i64 0,.int .i64 0,.int .i64 0] 30 (0,0)):=by rw[hb.block _ (by omega)];exact HX.out.2
  by_cases hlt:k<n
  .obtain⟨g,off,u0,u1,u2,u3,u4,u5,rfl,hg,⟨v0,v1,v2,v3,v4,v5⟩,t0,t1,t2,t3,t4,t5⟩:=HA.out.at_ k hlt
   obtain⟨s,e,hA,hL,he⟩:=hLv;have hi1:(k:Int)<(n:Int):=by omega
   have hw2:wrap64 ((k:Int)+1)=(k:Int)+1:=ga _ (by omega);have qc:∀W:World,Below (w1.heap.size+1) wr W->W.cell? ⟨g,off+k*6,none⟩=some (.int .u8 u0)/\W.cell? ⟨g,off+k*6+1,none⟩=some (.int .u8 u1)/\W.cell? ⟨g,off+k*6+2,none⟩=some (.int .u8 u2)/\W.cell? ⟨g,off+k*6+3,none⟩=some (.int .u8 u3)/\W.cell? ⟨g,off+k*6+4,none⟩=some (.int .u8 u4)/\W.cell? ⟨g,off+k*6+5,none⟩=some (.int .u8 u5)/\W.cell? ⟨w1.heap.size,0,none⟩=some (.int .i64 (c.W:Int))/\W.cell? ⟨w1.heap.size,1,none⟩=some (.int .i64 (c.S:Int))/\W.cell? ⟨w1.heap.size,2,none⟩=some (.int .i64 c.st)/\W.cell? ⟨w1.heap.size,3,none⟩=some (.int .i64 (c.wt:Int))/\W.cell? ⟨w1.heap.size,4,none⟩=some (.int .i64 c.u)/\Below (w1.heap.size+1) wr W:=λW hW=>by
    have B0:Below w.heap.size w W:=HY.out.2.trans ((hb.trans hW).mono (by omega));have e:∀i,i<5->W.cell? ⟨w1.heap.size,i,none⟩=(dI c)[i]?:=λi hi=>by
     rw[hW.cell (p:=⟨w1.heap.size,i,none⟩) (by show w1.heap.size<_;omega),cell_of Br];simp
    exact⟨(B0.cell (p:=⟨g,_,none⟩) hg).trans t0,(B0.cell (p:=⟨g,_,none⟩) hg).trans t1,(B0.cell (p:=⟨g,_,none⟩) hg).trans t2,(B0.cell (p:=⟨g,_,none⟩) hg).trans t3,(B0.cell (p:=⟨g,_,none⟩) hg).trans t4,(B0.cell (p:=⟨g,_,none⟩) hg).trans t5,e 0 (by omega),e 1 (by omega),e 2 (by omega),e 3 (by omega),e 4 (by omega),hW⟩
   have HT:=Lib.hid (And.intro t0 (And.intro t1 (And.intro t2 (And.intro t3 (And.intro t4 t5)))));have HQ:=Lib.hid (And.intro Br hRr);clear t0 t1 t2 t3 t4 t5 Br hRr;have hW1:1<=c.W/\c.W<=4:=⟨L0.good.W.1,uF⟩;have he9:e<=1000000000:=by omega
   have hle:=L0.size;have hlr:=hL.size;go_upto_region 8 with(fail)
   go_region_held3 (fun W=>W.cell? ⟨g,off+k*6,none⟩=some (.int .u8 u0)/\W.cell? ⟨g,off+k*6+1,none⟩=some (.int .u8 u1)/\W.cell? ⟨g,off+k*6+2,none⟩=some (.int .u8 u2)/\W.cell? ⟨g,off+k*6+3,none⟩=some (.int .u8 u3)/\W.cell? ⟨g,off+k*6+4,none⟩=some (.int .u8 u4)/\W.cell? ⟨g,off+k*6+5,none⟩=some (.int .u8 u5)/\W.cell? ⟨w1.heap.size,0,none⟩=some (.int .i64 (c.W:Int))/\W.cell? ⟨w1.heap.size,1,none⟩=some (.int .i64 (c.S:Int))/\W.cell? ⟨w1.heap.size,2,none⟩=some (.int .i64 c.st)/\W.cell? ⟨w1.heap.size,3,none⟩=some (.int .i64 (c.wt:Int))/\W.cell? ⟨w1.heap.size,4,none⟩=some (.int .i64 c.u)/\Below (w1.heap.size+1) wr W)
    (first|exact qc _ (Below.refl _ _).drew|exact qc _ (Below.refl _ _)|exact qc _ YW|exact qc _ Ip|exact qc _ kb3)
    (first
     |(go_at_call 17;refine(Lb.ev hL.drew he9).mono ?_;rintro r w5 ⟨v',rfl,hev,be1,hL1⟩;have YW:Below (w1.heap.size+1) wr w5:=(Below.refl _ _).drew.trans (be1.mono hlr))
     |(go_at_call 45;refine(Zq hW1 v0 v1 v2 v3 v4 v5 (Lb.evs hL he9) _ hev).mono ?_;rintro r w6 ⟨⟨x,rfl,hx,hxd⟩,be2⟩;have Ip:Below (w1.heap.size+1) wr w6:=YW.trans (be2.mono hL1.size);have hL6:=Lb.below hL1 be2)
     |(go_at_call 18;refine(Lb.MC H hL6 he9 x hx).mono ?_;rintro r w7 ⟨rfl,be3,hL7⟩;have kb3:=Ip.trans be3))
   go_wp2;go_roundw
   case rel=>exact⟨k+1,by omega,by go_num,hb.trans kb3,_,_,⟨QX hA.1 (by omega) L0.good.S.1 x,apW hA.2 (by omega) L0.good.S.1 (by omega) x hxd⟩,hL7,by omega⟩
   case measure=>simp[intOf];omega
  .have hi1:¬((k:Int)<(n:Int)):=by omega
   obtain rfl:k=n:=by omega
   obtain⟨c0,c1,c2,c3,c4⟩:=five Br;obtain⟨r0,r1,r2,r3,r4⟩:=five hRr;have f0:=aW hRr 0;have f1:=aW hRr 1;have f2:=aW hRr 2;have f3:=aW hRr 3;have f4:=aW hRr 4;go_wp2;go_region
   all_goals go_wp2
   have hS:=heap_put (heap_put (heap_put (heap_put (heap_put hRr 0 (.int .i64 (c.W:Int))) 1 (.int .i64 (c.S:Int))) 2 (.int .i64 c.st)) 3 (.int .i64 (c.wt:Int))) 4 (.int .i64 c.u);have hKb:∀X:Nat->Prop,¬X (w.heap.size+1)->Kept X wr (((((wr.setCell ⟨w.heap.size+1,0,none⟩ (.int .i64 (c.W:Int))).setCell ⟨w.heap.size+1,1,none⟩ (.int .i64 (c.S:Int))).setCell ⟨w.heap.size+1,2,none⟩ (.int .i64 c.st)).setCell ⟨w.heap.size+1,3,none⟩ (.int .i64 (c.wt:Int))).setCell ⟨w.heap.size+1,4,none⟩ (.int .i64 c.u)).drew:=λX hX=>(((((Kept.refl X wr).setCell (p:=⟨_,0,none⟩) hX _).setCell (p:=⟨_,1,none⟩) hX _).setCell (p:=⟨_,2,none⟩) hX _).setCell (p:=⟨_,3,none⟩) hX _).setCell (p:=⟨_,4,none⟩) hX _ |>.drew;revert hS hKb;generalize World.setCell _ ⟨w.heap.size+1,4,none⟩ _=W4;intro hS hKb;obtain⟨q0,q1,q2,q3,q4⟩:=five hS;refine cC (v:=.tuple #[.pointer (some ⟨b,0,none⟩),.agg (dI c).toArray]) ?_ rfl ?_
   .simp[results,Tryz.f27,go_sem,q0,q1,q2,q3,q4,dI]
   .obtain⟨s,e,hA,hL,he⟩:=hLv
    have h2:=hT.lt 2 (.inr rfl);exact⟨b,rfl,(HY.out.2.trans (hb.mono (by omega))).trans (hKb (· <w.heap.size) (by omega)).below,s,e,hA,hL.touch (by omega) h2 (hKb _ (by unfold tch;omega)),he⟩
