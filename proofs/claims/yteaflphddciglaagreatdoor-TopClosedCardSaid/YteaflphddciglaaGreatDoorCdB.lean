/- Laws of the proof, joined. No condition of its own. -/
import Derived.Test.YteaflphddciglaaGreatDoorCdA
set_option linter.all false
def sB:=@Nat.mod_eq_of_lt
def s9:=@Int.natCast_emod
def tr:=@Nat.add_le_add
namespace Go.Proofs.YteaflphddciglaaGreatDoor
namespace bq
noncomputable section
open Go.RowKit Go.bn Go.Sx Yq
variable{c:Cn} {s s' s0:Ms} {e:Int} {D:Nat->Prop} {b:Nat} {w w':World}
inductive Reach(c:Cn)(s:Ms):Ms->Prop
 |refl:Reach c s s
 |step {s':Ms} {v:Nat}:Reach c s s'->v<c.W->aQ s' v->Reach c s (ai c s' v)
inductive uP(c:Cn)(s:Ms):Ms->Prop
 |refl:uP c s s
 |step {s':Ms} {v:Nat}:uP c s s'->v<c.W->(∀j,j<v->¬aQ s' j)->aQ s' v->uP c s (ai c s' v)
theorem aaa{s:Ms}(h:Wh c s){s':Ms}(r:Reach c s s'):Wh c s':=by
 induction r with
 |refl=>exact h
 |step _ hv _ ih=>exact SF ih hv
theorem aoW{s:Ms}(h:XtS c s)(A:All c s)(hW:c.W<=15)(hS:1<=c.S){s':Ms}(r:Reach c s s'):XtS c s':=by
 have k:XtS c s'/\All c s':=by
  induction r with
  |refl=>exact⟨h,A⟩
  |step _ hv hc ih=>exact⟨anS ih.1 ih.2 hv hW hS hc,(Gu hv hW hS ih.2 hc).1⟩
 exact k.1
theorem ahE{K:Nat}(h:GyS c s K)(hW:c.W<=14)(hS:1<=c.S)(hK:((K+yj c s:Nat):Int)<=4000000000000000000){s':Ms}(r:Reach c s s'):∃K',GyS c s' K'/\K'+yj c s'<=K+yj c s:=by
 induction r with
 |refl=>exact⟨K,h,aq _⟩
 |step _ hv hc ih=>
  obtain⟨K',G,hk⟩:=ih;have q:=(Gu hv (by omega) hS G.x.nx.all hc).2;exact⟨K'+1,akM G hW hS hv hc (by omega),by omega⟩
theorem amv{n:Int}{s:Ms}(h:Wg c n s)(hW:1<=c.W/\c.W<=4)(hS:1<=c.S/\c.S<=5)(hn:n<=1000000000){s':Ms}(r:Reach c s s'):Wg c (n+360000) s':=by
 obtain⟨h1,K,hK,G⟩:=h;have l:=Yj G.x.nx.all.inv G.x.nx.all.nd hW.1 hW.2 hS.1 hS.2;have l2:10000*c.W*(c.S+c.W)<=360000:=by
  have:=rK (j7 10000 hW.2) (tr hS.2 hW.2);omega
 obtain⟨K',G',hk⟩:=ahE G (by omega) hS.1 (by omega) r;exact⟨⟨aaa h1.1 r,aoW h1.2 G.x.nx.all (by omega) hS.1 r⟩,K',by omega,G'⟩
def G7(c:Cn)(s:Ms):Nat:=j4 (λi=>rp (s.ws i)) c.W
theorem ags(c:Cn)(s:Ms):G7 c s<=3*c.W:=by
 have:=yO (f:=λi=>rp (s.ws i)) (k:=3) c.W λi _=>ai1 _;unfold G7;omega
theorem aaP{v:Nat}(hv:v<c.W)(hW:c.W<=15)(hS:1<=c.S)(A:All c s)(hc:aQ s v):G7 c (ai c s v)<=G7 c s/\(still ((ai c s v).ws v)->G7 c (ai c s v)+1<=G7 c s):=by
 have g:=BD hv hW hS A.inv.m A.inv.g (A.inv.w v hv) hc;have r:=aeA (A.inv.w v hv) hc;have h:=yN (f:=λi=>rp ((ai c s v).ws i)) (g:=λi=>rp (s.ws i)) (k:=v) (d:=0) c.W hv λi hi hn=>by rw[g.2.2.2.1 i hn];exact aq _
 unfold Bd at r;unfold G7;refine⟨by omega,λhs=> ?_⟩;have:=r.2 hs;omega
theorem aa6(x:Wr):(rJ x.ph=0\/rJ x.ph=6)↔still x:=by
 obtain⟨ph,ask,gr⟩:=x;unfold still rJ;cases ph<;>simp
structure RI(c:Cn)(z:Prop)(s0 s:Ms)(lim:Nat)(n r:Int)(i:Nat)(e0 e:Int):Prop where
 all:All c s
 reach:Reach c s0 s
 Cg:z->uP c s0 s
 n0:0<=n
 nP:n+yj c s<=lim
 r0:0<=r
 rP:r+G7 c s<=3*c.W
 iP:i+yj c s<=lim
 eP:e+4*yj c s<=e0+4*lim
structure RT(c:Cn)(z:Prop)(s0 s s':Ms)(lim:Nat)(n r:Int):Prop where
 all:All c s'
 reach:Reach c s0 s'
 Cg:z->uP c s0 s'
 n0: -1<=n
 nP:n+1+yj c s'<=lim
 r0:0<=r
 rP:r+G7 c s'<=3*c.W
 less:yj c s'+1<=yj c s
def oM(c:Cn):Nat:=10000*c.W*(c.S+c.W)
theorem aaT{z:Prop}(A:All c s)(hW:1<=c.W/\c.W<=4)(hS:1<=c.S/\c.S<=5):RI c z s s (oM c) 0 0 0 e e:=by
 have h:=Yj A.inv A.nd hW.1 hW.2 hS.1 hS.2;have h2:=ags c s;unfold oM;exact⟨A,.refl,λ_=>.refl,jx _,by omega,jx _,by omega,by omega,by omega⟩
theorem Tf{z:Prop}{v i:Nat}{n r e0:Int}(I:RI c z s0 s (oM c) n r i e0 e)(hW:1<=c.W/\c.W<=4)(hS:1<=c.S/\c.S<=5)(hv:v<c.W)(hz:z->∀j,j<v->¬aQ s j)(hc:aQ s v):
  RT c z s0 s (ai c s v) (oM c) n r/\(still ((ai c s v).ws v)->RT c z s0 s (ai c s v) (oM c) (-1) (r+1)):=by
 obtain⟨A',P⟩:=Gu hv (by omega) hS.1 I.all hc;obtain⟨q1,q2⟩:=aaP hv (by omega) hS.1 I.all hc;have h:=Yj A'.inv A'.nd hW.1 hW.2 hS.1 hS.2;have a:=I.n0;have b:=I.nP;have c1:=I.r0;have d:=I.rP;have z:((oM c:Nat):Int)=((10000*c.W*(c.S+c.W):Nat):Int):=rfl;refine⟨⟨A',.step I.reach hv hc,λq=>.step (I.Cg q) hv (hz q) hc,by omega,by omega,c1,by omega,P⟩,λhs=> ?_⟩;have:=q2 hs;exact⟨A',.step I.reach hv hc,λq=>.step (I.Cg q) hv (hz q) hc,by omega,by omega,by omega,by omega,P⟩
theorem aeD{z:Prop}{i k:Nat}{n r n' r' e0 e':Int}(I:RI c z s0 s (oM c) n r i e0 e)(T:RT c z s0 s s' (oM c) n' r')(he:e'<=e+k)(hk:k<=4):RI c z s0 s' (oM c) (n'+1) r' (i+1) e0 e':=by
 have a:=I.iP;have b:=I.eP;have d:=T.less;have f:=T.n0;exact⟨T.all,T.reach,T.Cg,by omega,T.nP,T.r0,T.rP,by omega,by omega⟩
theorem aaA{who:Nat}(hW:1<=c.W)(h:∀j,j<c.W->¬aQ s ((who+j)%c.W)):Still c s:=by
 intro w hw hc;have h1:who%c.W<c.W:=qn _ (by omega);have e:(who+(w+(c.W-who%c.W))%c.W)%c.W=w:=by
  rw[Nat.add_mod_mod];have:who+(w+(c.W-who%c.W))=w+c.W*(who/c.W+1):=by
   have:=Nat.div_add_mod who c.W;rw[tj,lr];omega
  rw[this,Nat.add_mul_mod_self_left,sB hw]
 exact h _ (qn _ (by omega)) (by rw[e];exact hc)
def ac5(v:Nat):Value:=.agg #[.int .i64 1,.int .i64 (v:Int),.int .i64 0,.int .i64 0,.bool false,.bool false,.int .i64 0,.int .i64 0,.int .i64 0,.int .i64 0,.bool false]
def vJ(v:Nat):En:=⟨1,(v:Int),0,Ask.zero,0,false⟩
theorem aa4{v:Nat}(hv:v<c.W)(hc:aQ s v):dX c s (vJ v)=(true,ai c s v):=by
 unfold dX;have k0:¬(vJ v).kind=0:=by
  show¬(1:Int)=0;decide
 rw[if_neg k0,if_pos (show(vJ v).kind=1 from rfl)];exact if_pos ⟨⟨fp v,mw.2 hv⟩,hc⟩
theorem aa3{v:Nat}(hc:¬aQ s v):dX c s (vJ v)=(false,s):=by
 unfold dX;have k0:¬(vJ v).kind=0:=by
  show¬(1:Int)=0;decide
 rw[if_neg k0,if_pos (show(vJ v).kind=1 from rfl)];exact if_neg λq=>hc q.2
theorem DU{v:Nat}(hv:v<c.W):wY c (vJ v):=⟨⟨by show(0:Int)<=1;decide,by show(1:Int)<=5;decide⟩,⟨by show(-1:Int)<=(v:Int);omega,by show(v:Int)<=c.W;omega⟩,jx _⟩
theorem Live.aa2(H:∀v,v<c.W->fZ c.W v)(h:Live c s e D b w)(he:e<=1000000000){v:Nat}(hv:v<c.W)(hc:aQ s v):Calls Tryz.prog jV #[.pointer (some ⟨b,0,none⟩),ac5 v] w λr w'=>r=.returned (.bool true)/\Kept D w w'/\Live c (ai c s v) (e+1) D b w':=by
 refine(Live.MC H h he (vJ v) (DU hv)).mono λr w' hh=> ?_;rw[aa4 hv hc]at hh;exact hh
theorem Live.Ku(H:∀v,v<c.W->fZ c.W v)(h:Live c s e D b w)(he:e<=1000000000){v:Nat}(hv:v<c.W)(hc:¬aQ s v):Calls Tryz.prog jV #[.pointer (some ⟨b,0,none⟩),ac5 v] w λr w'=>r=.returned (.bool false)/\Kept D w w'/\Live c s (e+1) D b w':=by
 refine(Live.MC H h he (vJ v) (DU hv)).mono λr w' hh=> ?_;rw[aa3 hc]at hh;exact hh
theorem Live.st(h:Live c s e D b w){v:Nat}(hv:v<c.W):Calls Tryz.prog 23 #[.pointer (some ⟨b,0,none⟩),.int .i64 (v:Int)] w λr w'=>r=.returned (.int .i64 (rJ (s.ws v).ph))/\Kept D w w'/\Live c s e D b w':=by
 refine(Live.state h hv).mono λr w' hh=>⟨hh.1,(Kept.of_below hh.2.1).mono λj hj=>h.lt j hj,hh.2.2.mono (λj hj=>.inl hj) h.kt⟩
structure oP(D:Nat->Prop)(w:World)(A:Option Addr)(n:Nat):Prop where
 at_:∀k,k<n->∃(g off:Nat) (a:Int),A=some ⟨g,off,none⟩/\D g/\U8 a/\w.cell? ⟨g,off+k,none⟩=some (.int .u8 a)
theorem Kept.cell{X:Nat->Prop}(h:Kept X w w'){g:Nat}(hg:X g)(o:Nat):w'.cell? ⟨g,o,none⟩=w.cell? ⟨g,o,none⟩:=cM (h.block g hg)
theorem oP.kept{A:Option Addr}{n:Nat}(h:oP D w A n)(hk:Kept D w w'):oP D w' A n:=⟨λk hkn=>by
 obtain⟨g,off,a,h1,h2,h3,h4⟩:=h.at_ k hkn;exact⟨g,off,a,h1,h2,h3,(Kept.cell hk h2 _).trans h4⟩⟩
theorem oP.mono{D':Nat->Prop}{A:Option Addr}{n:Nat}(h:oP D w A n)(hD:∀j,D j->D' j):oP D' w A n:=⟨λk hkn=>by
 obtain⟨g,off,a,h1,h2,h3,h4⟩:=h.at_ k hkn;exact⟨g,off,a,h1,hD g h2,h3,h4⟩⟩
end
noncomputable section
open Classical Yq
variable{c:Cn} {w v:Nat} {s s' s0 s1:Ms} {m m':Mm} {i:Nat} {g:Bool} {K:Nat}
theorem amn(hc:aQ s w):((ai c s w).ev=s.ev/\((ai c s w).ws w).ph≠.rest)\/∃t a,(s.ws w).ph=.ax t none a/\(ai c s w).ev=⟨true,w,(s.ws w).ask,a⟩::s.ev/\((ai c s w).ws w).ph=.rest:=by
 have bz:∀p,BzP p->p≠.rest:=λp h e=>by
  subst e;rcases h with h|⟨q,a,h⟩
  .exact h
  .cases h
 have lv:∀q,(ai c s w)=aV c w s (s.ws w) q->(ai c s w).ev=s.ev/\((ai c s w).ws w).ph≠.rest:=by
  intro q e;rw[e];refine⟨(xK _ _ _ _).1,?_⟩;cases hst:q.step c w s.m;rw[QQ hst];repeat' split
  all_goals (rw[ae];exact Ph.noConfusion)
 cases hp:(s.ws w).ph with
 |rest=>unfold aQ at hc;rw[hp]at hc;exact hc.elim
 |pin x=>exact .inl ⟨by unfold ai;dsimp only;rw[hp];cases x<;>rfl,bz _ (aj2 (by rw[hp];trivial))⟩
 |work x=>exact .inl ⟨by have e:ai c s w=ak c w s (s.ws w) x:=(by unfold ai;dsimp only;rw[hp]);rw[e];exact(NZ _ _ _ _).1,bz _ (aj2 (by rw[hp];trivial))⟩
 |counts x=>exact .inl ⟨by unfold ai;dsimp only;rw[hp];dsimp only;(repeat' split)<;>rfl,bz _ (aj2 (by rw[hp];trivial))⟩
 |enters x=>exact .inl ⟨by unfold ai;dsimp only;rw[hp];dsimp only;(repeat' split)<;>rfl,bz _ (aj2 (by rw[hp];trivial))⟩
 |wakes x=>exact .inl ⟨by have e:ai c s w=dh w s (s.ws w) x:=(by unfold ai;dsimp only;rw[hp]);rw[e];exact(zP _ _ _ _).1,bz _ (aj2 (by rw[hp];trivial))⟩
 |leaves q=>exact .inl (lv q (by unfold ai;dsimp only;rw[hp]))
 |parked b=>
  left;by_cases hg:s.m.gr w≠0
  .have e:ai c s w=(s.mem s.m).put w ((s.ws w).to (.wakes (some (s.m.gr w)))):=by unfold ai;dsimp only;rw[hp];rw[if_pos hg];rfl
   rw[e];exact⟨rfl,by rw[ae];exact Ph.noConfusion⟩
  .exact lv Qu.leave (by unfold ai;dsimp only;rw[hp];rw[if_neg hg])
 |ax t p a=>
  cases hst:t.step c w s.m with
  |mk t' m'=>
   have e:=ui hp hst;by_cases hd:t'.st=.done
   .rw[if_pos hd]at e
    rw[e];cases p with
    |none=>exact .inr ⟨t,a,rfl,rfl,fT Wr.ph (ae _ _ _)⟩
    |some b=>exact .inl ⟨rfl,by show(((s.mem m').put w ((s.ws w).to (.parked b))).ws w).ph≠_;rw[ae];exact Ph.noConfusion⟩
   .rw[if_neg hd]at e
    rw[e];exact .inl ⟨rfl,by rw[ae];exact Ph.noConfusion⟩
theorem ann(A:All c s)(hW:c.W<=14)(hS:1<=c.S)(r:Reach c s s'):All c s'/\s'.ev.length+G7 c s'<=s.ev.length+G7 c s:=by
 induction r with
 |refl=>grind
 |step r hv hc ih=>
  grind [still,Gu,aaP,amn,List.length_cons]
end
noncomputable section
open Classical Yq
variable{c:Cn} {w:Nat} {s s' s0:Ms} {m m':Mm} {i:Nat} {g:Bool} {K:Nat} {z:Prop}
theorem apy{t}(hp:(s.ws w).ph=.work (.get t)):(ai c s w).ws w=if(t.step w c.S s.m (decide (t.st=.bM)&&s.next.1)).1.st=.done then(if(t.step w c.S s.m (decide (t.st=.bM)&&s.next.1)).1.e=3 then(if(s.ws w).ask.wait then(s.ws w).to (.enters Qu.enter)else(s.ws w).to (.counts Tw.new))else if(t.step w c.S s.m (decide (t.st=.bM)&&s.next.1)).1.e=0 then(s.ws w).end_ ⟨0,(t.step w c.S s.m (decide (t.st=.bM)&&s.next.1)).1.i,(t.step w c.S s.m (decide (t.st=.bM)&&s.next.1)).1.gen,0,0,0,0,0⟩else(s.ws w).end_ (.err (t.step w c.S s.m (decide (t.st=.bM)&&s.next.1)).1.e))else(s.ws w).to (.work (.get (t.step w c.S s.m (decide (t.st=.bM)&&s.next.1)).1)):=by
 grind [ai,ak,ae]
end
noncomputable section
open Go.RowKit Go.bn Go.Sx Yq
attribute [local go_sem ↓] Go.wp_at_zero Go.wp_at_succ
theorem three(p:Int):p=0\/p=6\/(p≠0/\p≠6):=by omega
theorem ek(e:Int)(k:Nat):e+((k+1:Nat):Int)=e+k+1:=by omega
theorem ajg{c:Cn}(hW:1<=c.W/\c.W<=4)(hS:1<=c.S/\c.S<=5):wrap64 (10000*(c.W:Int))=10000*(c.W:Int)/\wrap64 ((c.S:Int)+(c.W:Int))=(c.S:Int)+(c.W:Int)/\wrap64 (10000*(c.W:Int)*((c.S:Int)+(c.W:Int)))=((oM c:Nat):Int)/\oM c<=360000/\wrap64 (3*(c.W:Int))=3*(c.W:Int):=by
 have e:((oM c:Nat):Int)=10000*(c.W:Int)*((c.S:Int)+(c.W:Int)):=by unfold oM;rw[rk,rk,mB];rfl
 have l:oM c<=360000:=by
  unfold oM;have:=rK (j7 10000 hW.2) (tr hS.2 hW.2);omega
 refine⟨ga _ (by omega),ga _ (by omega),?_,l,ga _ (by omega)⟩;rw[<-e];exact ga _ (by omega)
set_option maxHeartbeats 4000000 in
theorem EB{c:Cn}{s:Ms}{e:Int}{D:Nat->Prop}{b:Nat}(H:∀v,v<c.W->fZ c.W v)(uF:c.W<=4)(hS5:c.S<=5){A:Option Addr}{n cap:Nat}(hn:n<=20)(w:World)(hA:All c s)(hL:Live c s e D b w)(he:e<=900000000)(hO:oP D w A n):
  Calls Tryz.prog 19 #[.pointer (some ⟨b,0,none⟩),.agg (dI c).toArray,.slice A n cap] w λr w'=>r=.returned (.bool true)/\Kept D w w'/\∃s' e',All c s'/\Still c s'/\Reach c s s'/\(n=0->uP c s s')/\Live c s' e' D b w'/\e'<=e+2000000:=by
 have hW:1<=c.W/\c.W<=4:=⟨hL.good.W.1,uF⟩;have hS:1<=c.S/\c.S<=5:=⟨hL.good.S.1,hS5⟩;obtain⟨m1,m2,m3,m4,m5⟩:=ajg hW hS;have R0:=aaT (z:=n=0) (e:=e) hA hW hS;generalize hlim:oM c=lim at m3 m4 R0;have HL:=Lib.hid hlim;clear hlim;have l1:=Live.below hL ((Below.refl _ w).alloc (aq _) (.cells (dI c).toArray 30));have hO1:oP D (w.alloc (.cells (dI c).toArray 30)) A n:=hO.kept (Kept.of_below ((Below.refl _ w).alloc (aq _) _) |>.mono λj hj=>hL.lt j hj);have vD:(w.alloc (.cells (dI c).toArray 30)).heap[w.heap.size]?=some (.cells (dI c).toArray 30 (0,0)):=by
  simp[qU,cQ]
 have hKK:Kept D w (w.alloc (.cells (dI c).toArray 30)):=(Kept.of_below ((Below.refl _ w).alloc (aq _) _) |>.mono λj hj=>hL.lt j hj);obtain⟨D1,hD1,hd0,hd1⟩:∃D1,D1=more D w (w.alloc (.cells (dI c).toArray 30))/\D1 w.heap.size/\∀j,D j->D1 j:=⟨_,rfl,.inr ⟨aq _,by simp⟩,λj hj=>.inl hj⟩;rw[<-hD1]at l1;have hO2:=hO1.mono hd1;have hkt:=hL.kt;obtain⟨W1,hW1⟩:∃W1,W1=w.alloc (.cells (dI c).toArray 30):=⟨_,rfl⟩;rw[<-hW1]at l1 vD hO2 hKK;have HK:=Lib.hid (And.intro vD (And.intro hO2 (And.intro hd1 (And.intro hKK hkt))));have HW:=Lib.hid (And.intro hD1 hW1);have l1h:=Lib.hid l1;clear hW1 hO hO1 hO2 hL vD hD1 hd1 hKK hkt l1;go_enter Tryz.func19,Tryz.ntmps19
 go_upto_region 1 with(fail)
 refine jY λZR hW1'=> ?_;obtain rfl:ZR=W1:=by rw[HW.out.2,hW1']
 clear hW1';have z0:ZR.cell? ⟨w.heap.size,0,none⟩=some (.int .i64 (c.W:Int)):=by rw[cell_of HK.out.1];rfl
 have z1:ZR.cell? ⟨w.heap.size,1,none⟩=some (.int .i64 (c.S:Int)):=by rw[cell_of HK.out.1];rfl
 go_cut [7]from 16 to 24 (λv w'=>v=.int .i64 (lim:Int)/\w'=ZR)
 case first=>
  go_wp2
  all_goals go_meet
  exact⟨by rw[m3],rfl⟩
 case rest=>
 obtain⟨hv7,ahe⟩:=hcut;subst hv7;rw[ahe];clear ahe m1 m2 m3 z0 z1;obtain⟨WI,hWI⟩:∃WI:Int,WI=(c.W:Int):=⟨_,rfl⟩;rw[<-hWI]at m5;have Uq:=Lib.hid hWI;have WI1:1<=WI:=by omega
 have WI4:WI<=4:=by omega
 clear hWI;go_wp2
 go_loopw [8,9,10] (fun v8 v9 v10 wr=>∃(nn r:Int) (i:Nat) (s':Ms) (e':Int),v8=.int .i64 nn/\v9=.int .i64 r/\v10=.int .i64 (i:Int)/\RI c (n=0) s s' lim nn r i e e'/\Kept D1 ZR wr/\Live c s' e' D1 b wr)
  (λ_ _ v10 _=>lim+1-(intOf v10).toNat)
 case atStart=>exact⟨0,0,0,s,e,rfl,rfl,rfl,R0,Kept.refl _ _,l1h.out⟩
 case round=>
  obtain⟨nn,r,i,s',e',rfl,rfl,rfl,R,hk,hL⟩:=hrel;refine jY λWo hWo=> ?_;subst hWo;have n1:nn<=(lim:Int):=by have:=R.nP;omega
  have n0:=R.n0;have r1:r<=3*WI:=by have:=R.rP;have:=Uq.out;omega
  have r0:=R.r0;have i1:i<=lim:=by have:=R.iP;omega
  have e2:∀k:Nat,k<=c.W->e'+k<=1000000000:=λk hk=>by have:=R.eP;omega
  have Br:Wo.heap[w.heap.size]?=some (.cells (dI c).toArray 30 (0,0)):=by rw[hk.block _ hd0];exact HK.out.1
  have c0:Wo.cell? ⟨w.heap.size,0,none⟩=some (.int .i64 WI):=by rw[cell_of Br,Uq.out];rfl
  have hO3:=HK.out.2.1.kept hk;have HO:=Lib.hid hO3;have HC:=Lib.hid Br;clear hO3 Br;go_upto_if 39 with(fail)
  go_cut [11]from 40 to 47 (λv w'=>∃wi:Int,(0<=wi/\wi<=255)/\(n=0->wi=0)/\v=.int .i64 wi/\w'=Wo)
  case first=>
   by_cases hn0:0<n
   .obtain⟨q,hq⟩:∃q,q=i%n:=⟨_,rfl⟩
    have hql:q<n:=by rw[hq];exact qn _ hn0
    have hqm:(i:Int)%(n:Int)=(q:Int):=by rw[hq];exact(s9 ..).symm
    obtain⟨g,off,a,rfl,hg,⟨a0,a1⟩,ha⟩:=HO.out.at_ q hql;have hqi:(q:Int)<(n:Int):=by omega
    have Hq:=Lib.hid hq;clear hq;go_wp2
    all_goals go_meet
    exact⟨a,⟨a0,a1⟩,λq=>absurd q (Nat.pos_iff_ne_zero.1 hn0),rfl,rfl⟩
   .obtain rfl:n=0:=by omega
    go_wp2
    all_goals go_meet
    exact⟨0,by decide,λ_=>rfl,rfl,rfl⟩
  case rest=>
   obtain⟨wi,⟨wi0,wi1⟩,wiz,hv,hwc⟩:=hcut;obtain⟨who,hwho⟩:∃who:Nat,wi=(who:Int):=⟨wi.toNat,(j8 wi0).symm⟩;have HI:=Lib.hid hwho;have hzw:n=0->who=0:=λq=>by have:=wiz q;omega
   have HZ:=Lib.hid hzw;clear hwho wiz hzw;subst hv;rw[hwc];clear hwc;go_wp2
   go_loopw [8,9,12,13] (fun v8 v9 v12 v13 wi=>∃k:Nat,k<=c.W/\v13=.int .i64 (k:Int)/\Kept D1 Wo wi/\((v8=.int .i64 nn/\v9=.int .i64 r/\v12=.bool false/\(∀j,j<k->¬aQ s' ((who+j)%c.W))/\Live c s' (e'+k) D1 b wi)\/(v12=.bool true/\∃(n2 r2:Int) (s2:Ms),v8=.int .i64 n2/\v9=.int .i64 r2/\RT c (n=0) s s' s2 lim n2 r2/\Live c s2 (e'+k) D1 b wi)))
    (λ_ _ _ v13 _=>c.W-(intOf v13).toNat)
   case atStart=>exact⟨0,cL _,rfl,Kept.refl _ _,.inl ⟨rfl,rfl,rfl,λj hj=>absurd hj (mz _),by simpa using hL⟩⟩
   case round=>
    obtain⟨k,hkW,rfl,hki,hor⟩:=hrel;have hCi:wr.heap[w.heap.size]?=some (.cells (dI c).toArray 30 (0,0)):=by rw[hki.block _ hd0];exact HC.out
    have ci:wr.cell? ⟨w.heap.size,0,none⟩=some (.int .i64 WI):=by rw[cell_of hCi,Uq.out];rfl
    have HCi:=Lib.hid hCi;clear hCi c0;rcases hor with⟨rfl,rfl,rfl,hno,hL2⟩|⟨rfl,n2,r2,s2,rfl,rfl,T,hL2⟩
    .by_cases hlt:k<c.W
     .obtain⟨v,hv⟩:∃v,v=(who+k)%c.W:=⟨_,rfl⟩
      have hvl:v<c.W:=by rw[hv];exact qn _ (by omega)
      have hvm:(wi+(k:Int))%WI=(v:Int):=by rw[HI.out,Uq.out,hv,s9,mB]
      have hi1:(k:Int)<WI:=by rw[Uq.out];exact mw.2 hlt
      go_upto_region 14 with(fail)
      go_cut [14]from 48 to 81 (λv' w'=>v'=.int .i64 (v:Int)/\w'=wr)
      case first=>
       go_wp2
       all_goals go_meet
       exact⟨by rw[hvm],rfl⟩
      case rest=>
      obtain⟨alg,ahf⟩:=hcut;subst alg;rw[ahf];clear ahf hvm;have HN:=Lib.hid (And.intro hno hv);clear hno hv;have hzz:n=0->∀j,j<v->¬aQ s' j:=λq j hj=>by
       have hw0:=HZ.out q;have hv2:=HN.out.2;rw[hw0,cg,sB hlt]at hv2;have h3:=HN.out.1 j (by rw[<-hv2];exact hj);rw[hw0,cg,sB (gk hj hvl)]at h3;exact h3
      have HZZ:=Lib.hid hzz;clear hzz;by_cases hcs:aQ s' v
      .have P:=hL2.aa2 H (e2 k hkW) hvl hcs
       obtain⟨p,hp⟩:∃p,p=rJ ((ai c s' v).ws v).ph:=⟨_,rfl⟩;have HP:=Lib.hid hp;have SS:∀W5,Live c (ai c s' v) (e'+k+1) D1 b W5->Calls Tryz.prog 23 #[.pointer (some ⟨b,0,none⟩),.int .i64 (v:Int)] W5 λr w'=>r=.returned (.int .i64 p)/\Kept D1 W5 w'/\Live c (ai c s' v) (e'+k+1) D1 b w':=λW5 h5=>by rw[hp];exact h5.st hvl
       clear hp
       go_upto_region 17 with(first
        |(go_at_call 18;refine P.mono ?_;rintro e5 w5 ⟨rfl,k5,L5⟩;have S5:=SS _ L5)
        |(go_at_call 23;refine S5.mono ?_;rintro e6 w6 ⟨rfl,k6,L6⟩))
       go_cut [79]from 48 to 81 (λv w'=>w'=w6/\∃x:Bool,v=.bool x/\(x=true↔(p=0\/p=6)))
       case first=>
        have h3:=three p;rcases h3 with rfl|rfl|⟨p0,p6⟩
        .go_wp2
         all_goals go_meet
         exact⟨rfl,_,rfl,by simp⟩
        .go_wp2
         all_goals go_meet
         exact⟨rfl,_,rfl,by simp⟩
        .go_wp2
         all_goals go_meet
         exact⟨rfl,_,rfl,by simp[p0,p6]⟩
       case rest=>
        obtain⟨hw6,x,hx,hxp⟩:=hcut;subst hx;rw[hw6];clear hw6;cases x with
        |true=>
         have hpp:=hxp.1 rfl;go_wp2;go_roundw
         case rel=>
          have T:=(Tf (by rw[HL.out];exact R) hW hS hvl HZZ.out hcs).2 ((aa6 _).1 (by rw[<-HP.out];exact hpp));rw[HL.out]at T;exact⟨k+1,hlt,by go_num,(hki.trans k5).trans k6,.inr ⟨rfl,_,_,_,rfl,rfl,T,by rw[ek];exact L6⟩⟩
         case measure=>simp[intOf];omega
        |false=>
         go_wp2;go_roundw
         case rel=>
          have T:=(Tf (by rw[HL.out];exact R) hW hS hvl HZZ.out hcs).1;rw[HL.out]at T;exact⟨k+1,hlt,by go_num,(hki.trans k5).trans k6,.inr ⟨rfl,_,_,_,rfl,rfl,T,by rw[ek];exact L6⟩⟩
         case measure=>simp[intOf];omega
      .have P:=hL2.Ku H (e2 k hkW) hvl hcs
       have SS:∀W5,Live c s' (e'+k+1) D1 b W5->Calls Tryz.prog 23 #[.pointer (some ⟨b,0,none⟩),.int .i64 (v:Int)] W5 λr w'=>r=.returned (.int .i64 (rJ (s'.ws v).ph))/\Kept D1 W5 w'/\Live c s' (e'+k+1) D1 b w':=λW5 h5=>h5.st hvl
       go_wp2_with (first
        |(go_at_call 18;refine P.mono ?_;rintro e5 w5 ⟨rfl,k5,L5⟩;have S5:=SS _ L5)
        |(go_at_call 23;refine S5.mono ?_;rintro e6 w6 ⟨rfl,k6,L6⟩))
       go_roundw
       case rel=>
        refine⟨k+1,hlt,by go_num,(hki.trans k5).trans k6,.inl ⟨rfl,rfl,rfl,λj hj=> ?_,by rw[ek];exact L6⟩⟩;rcases Nat.lt_succ_iff_lt_or_eq.1 hj with q|q
        .exact HN.out.1 j q
        .rw[q, <-HN.out.2];exact hcs
       case measure=>simp[intOf];omega
     .have hkk:k=c.W:=Nat.le_antisymm hkW (pL hlt)
      have hi1:¬((k:Int)<WI):=by rw[Uq.out,hkk];exact Int.lt_irrefl _
      have HN:=Lib.hid (And.intro hno hkk);clear hno hkk hlt;go_wp2;refine cC (v:=.bool true) (by simp[results,Tryz.f19,go_sem]) rfl ?_;refine⟨rfl,HK.out.2.2.2.1.trans ((hk.trans hki).mono HK.out.2.2.1),s',R.all,aaA (who:=who) hW.1 (λj hj=>HN.out.1 j (by rw[HN.out.2];exact hj)),R.reach,R.Cg,e'+k,hL2.mono HK.out.2.2.1 HK.out.2.2.2.2,?_⟩;have:=R.eP;have:=hW.2;omega
    .have t0:=T.n0
     have t1:n2<=360000:=by have:=T.nP;omega
     have RN:RI c (n=0) s s2 lim (n2+1) r2 (i+1) e (e'+k):=by
      have:=aeD (by rw[HL.out];exact R) (by rw[HL.out];exact T) (jx (e'+k)) (by omega:k<=4);rw[HL.out]at this;exact this
     have RN:=Lib.hid RN;by_cases hlt:(k:Int)<WI
     .go_wp2
      exact⟨⟨n2+1,r2,i+1,s2,e'+k,rfl,rfl,by go_num,RN.out,hk.trans hki,hL2⟩,by simp[intOf];omega⟩
     .go_wp2
      exact⟨⟨n2+1,r2,i+1,s2,e'+k,rfl,rfl,by go_num,RN.out,hk.trans hki,hL2⟩,by simp[intOf];omega⟩
theorem UM{c:Cn}(hW:1<=c.W/\c.W<=4)(hS:1<=c.S/\c.S<=5){i:Int}(hi:0<=i/\i<c.S)(w:World):Calls Tryz.prog 25 #[.agg (dI c).toArray,.int .i64 i] w λr w'=>r=.returned (.int .i64 (3+(c.W:Int)+(c.W:Int)+i))/\Below w.heap.size w w':=by
 obtain⟨i0,i1⟩:=hi;obtain⟨W1,W4⟩:=hW;obtain⟨S1,S5⟩:=hS;go_enter Tryz.func25,Tryz.ntmps25
 go_wp2;go_ret;exact⟨rfl,(Below.refl _ _).alloc (aq _) _⟩
theorem Sr{c:Cn}(hW:1<=c.W/\c.W<=4)(hS:1<=c.S/\c.S<=5)(w:World):Calls Tryz.prog 28 #[.agg (dI c).toArray] w λr w'=>r=.returned (.int .i64 (nC c:Int))/\Below w.heap.size w w':=by
 have hs:=λW=>UM hW hS (i:=(c.S:Int)-1) ⟨by omega,by omega⟩ W;obtain⟨W1,W4⟩:=hW;obtain⟨S1,S5⟩:=hS;go_enter Tryz.func28,Tryz.ntmps28
 go_wp2_with (go_at_call 25;refine(hs _).mono ?_;rintro e w1 ⟨rfl,hb1⟩)
 go_ret;refine⟨?_,((Below.refl _ w).alloc (aq _) _).trans (hb1.mono (by simp))⟩;have e:3+(c.W:Int)+(c.W:Int)+((c.S:Int)-1)+1=(nC c:Int):=by unfold nC;omega
 rw[<-e];rfl
structure aid(n n':Nat)(r:Ending):Prop where
 is:∃x:Bool,r=.returned (.bool x)/\(x=true->n<=200/\n'<=20)
theorem afz{A A':Option Addr}{n n' cap cap':Nat}(w:World):Calls Tryz.prog 8 #[.slice A n cap,.slice A' n' cap'] w λr w'=>aid n n' r/\Below w.heap.size w w':=by
 go_enter Tryz.func8,Tryz.ntmps8
 by_cases h1:(n:Int)<=200
 .by_cases h2:(n':Int)<=20
  .go_wp2
   go_ret;exact⟨⟨_,rfl,λ_=>⟨by omega,by omega⟩⟩,Below.refl _ _⟩
  .go_wp2
   refine cC (v:=.bool false) (by simp[results,Tryz.f8,go_sem]) rfl ?_;exact⟨⟨false,rfl,λh=>absurd h (by decide)⟩,Below.refl _ _⟩
 .go_wp2
  refine cC (v:=.bool false) (by simp[results,Tryz.f8,go_sem]) rfl ?_;exact⟨⟨false,rfl,λh=>absurd h (by decide)⟩,Below.refl _ _⟩
theorem Live.wds{c:Cn}{s:Ms}{e:Int}{D:Nat->Prop}{b:Nat}{w:World}(h:Live c s e D b w):Calls Tryz.prog 11 #[.pointer (some ⟨b,0,none⟩)] w λr w'=>∃g cap,r=.returned (.slice (some ⟨g,0,none⟩) (nC c) cap)/\w.heap.size<=g/\g<w'.heap.size/\(∀k x,(aC c s.m)[k]?=some x->w'.cell? ⟨g,k,none⟩=some (.int .i64 x))/\Below w.heap.size w w'/\Live c s e D b w':=by
 refine(Live.words h).mono λr w' hh=> ?_;obtain⟨v',rfl,⟨hl,ho⟩,hb,hl'⟩:=hh;have hL':Live c s e D b w':=hl'.mono (λj hj=>.inl hj) h.kt;rcases ho with ho|⟨g,cap,cur,rfl,hB,hg,hn,hcap,hsz,ht⟩
 .have:=ho.2
  unfold nC at this;omega
 .refine⟨g,cap,rfl,hB,(bk.1 hg).1,fun k x hx=> ?_,hb,hL'⟩
  have hk:k<((aC c s.m).map (Value.int .i64 ·)).length:=by rw[iz];exact(aE.1 hx).1
  have e1:((aC c s.m).map (Value.int .i64 ·))[k]?=some (.int .i64 x):=by rw[cG,hx];rfl
  rw[<-ht,fy (by omega)]at e1;rw[cell_of hg];simpa using e1
theorem Live.touch{c:Cn}{s:Ms}{e:Int}{D D':Nat->Prop}{b:Nat}{w w':World}(h:Live c s e D b w)(hD:∀j,D' j->D j)(hkt:∀k,KT k->D' k)(hk:Kept (λj=>D' j\/¬D j) w w'):Live c s e D' b w':=by
 obtain⟨A,F,M,hF⟩:=h.oL;refine⟨h.good,lg _ _ _ (λk hk=>.inl (hkt k hk)) h.tt hk,λj hj=>ba (h.lt j (hD j hj)) hk.size,hkt,A,F,M.st hk.size λj hj=>hk.block j (.inr λq=>hF j q hj),λj hj hf=>hF j (hD j hj) hf⟩
def Lr(c:Cn)(D:Nat->Prop)(b:Nat)(w:World):Prop:=∃s e,All c s/\Wg c 400000 s/\Still c s/\Live c s e D b w/\e<=3000000/\s.ev.length<=300
theorem oP.of_below{D:Nat->Prop}{w w':World}{A:Option Addr}{n k:Nat}(h:oP D w A n)(hD:∀j,D j->j<k)(hb:Below k w w'):oP D w' A n:=h.kept ((Kept.of_below hb).mono hD)
set_option maxHeartbeats 4000000 in
theorem aaV{a1 a2 a3 a4 a5:Int}(h1:U8 a1)(h2:U8 a2)(h3:U8 a3)(h4:U8 a4)(h5:U8 a5){c:Cn}(hc:c=Jy a1 a2 a3 a4 a5)(H:∀v,v<c.W->fZ c.W v){A A':Option Addr}{n cap n' cap':Nat}(hn:n<=200)(hn':n'<=20)(w:World)(hT:TT w)(hA:Dq w A n)(hO:oP (· <w.heap.size) w A' n'):
  Calls Tryz.prog 9 #[.agg #[.int .u8 a1,.int .u8 a2,.int .u8 a3,.int .u8 a4,.int .u8 a5],.slice A n cap,.slice A' n' cap'] w λr w'=>∃b,r=.returned (.tuple #[.pointer (some ⟨b,0,none⟩),.agg (dI c).toArray])/\Below w.heap.size w w'/\Lr c (· <w.heap.size) b w':=by
 obtain⟨hR,uF,hS5⟩:=Df h1 h2 h3 h4 h5;rw[<-hc]at hR uF hS5
 have tu:∀W,Below w.heap.size w W->Dq W A n:=λW hb=>⟨λk hk=>by
  obtain⟨g,off,u0,u1,u2,u3,u4,u5,e,hg,hu,t0,t1,t2,t3,t4,t5⟩:=hA.at_ k hk;exact⟨g,off,u0,u1,u2,u3,u4,u5,e,ba hg hb.size,hu,(hb.cell (p:=⟨g,_,none⟩) hg).trans t0,(hb.cell (p:=⟨g,_,none⟩) hg).trans t1,(hb.cell (p:=⟨g,_,none⟩) hg).trans t2,(hb.cell (p:=⟨g,_,none⟩) hg).trans t3,(hb.cell (p:=⟨g,_,none⟩) hg).trans t4,(hb.cell (p:=⟨g,_,none⟩) hg).trans t5⟩⟩
 have l2:=hT.lt 2 (.inr rfl);have hB0:∀o o',Below w.heap.size w ((w.alloc o).alloc o'):=λo o'=>((Below.refl _ w).alloc (aq _) o).alloc (by simp) o';have hT1:∀o o',TT ((w.alloc o).alloc o'):=λo o'=>nG hT (hB0 o o') l2;have hm:=λo o'=>abk h1 h2 h3 h4 h5 hc H (A:=A) (n:=n) (cap:=cap) hn ((w.alloc o).alloc o') (hT1 o o') (tu _ (hB0 o o'));have HA:=Lib.hid (And.intro hA (And.intro hO hT));have HC:=Lib.hid hc;have HB:=Lib.hid hB0;clear hA hc tu hO hT1 hB0;go_enter Tryz.func9,Tryz.ntmps9
 go_upto_region 4 with(go_at_call 27;refine(hm _ _).mono ?_;rintro r w1 ⟨b,rfl,hb1,hl1⟩)
 have hsz:=hb1.size;simp at hsz;obtain⟨s,e,⟨Qc,hWh⟩,hL,he⟩:=hl1;have aq4:s.ev.length<=200:=by
  obtain⟨k,hk,_,hl⟩:=hL.good.nx;omega
 have HE0:=Lib.hid (And.intro aq4 Qc);clear aq4;have he2:e<=900000000:=by omega
 have l3:=Live.below hL ((Below.refl _ w1).alloc (aq _) (.cells (dI c).toArray 30));have hB1:Below w.heap.size w (w1.alloc (.cells (dI c).toArray 30)):=((HB.out _ _).trans (hb1.mono (by simp;omega))).trans ((Below.refl _ w1).alloc (by omega) _);have vD:(w1.alloc (.cells (dI c).toArray 30)).heap[w1.heap.size]?=some (.cells (dI c).toArray 30 (0,0)):=by simp[qU,cQ]
 have mM:(w1.alloc (.cells (dI c).toArray 30)).heap[w.heap.size+1]?=some (.cells #[.int .i64 0,.int .i64 0,.int .i64 0,.int .i64 0,.int .i64 0] 30 (0,0)):=by
  rw[b7 _ _ _ (by omega),hb1.block (w.heap.size+1) (by simp)];exact adm w _ _
 obtain⟨D2,hD2,hd0,hd1⟩:∃D2:Nat->Prop,D2=more (· <((w.alloc (.cells #[.int .u8 a1,.int .u8 a2,.int .u8 a3,.int .u8 a4,.int .u8 a5] 23)).alloc (.cells #[.int .i64 0,.int .i64 0,.int .i64 0,.int .i64 0,.int .i64 0] 30)).heap.size) w1 (w1.alloc (.cells (dI c).toArray 30))/\D2 w1.heap.size/\∀j,j<w.heap.size+2->D2 j:=⟨_,rfl,.inr ⟨aq _,by simp⟩,λj hj=>.inl (by simp;omega)⟩;rw[<-hD2]at l3;refine jY λW2 hW2=> ?_;obtain⟨W2',abU⟩:∃W2',W2'=w1.alloc (.cells (dI c).toArray 30):=⟨_,rfl⟩;obtain rfl:W2=W2':=by rw[abU,hW2]
 rw[<-abU]at l3 hB1 vD mM;have hO2:oP D2 W2 A' n':=(HA.out.2.1.of_below (λj hj=>hj) hB1).mono λj hj=>hd1 j (by omega);have hset:=EB H uF hS5 (cap:=cap') hn' W2 Qc l3 he2 hO2;obtain⟨c0,c1,c2,c3,c4⟩:=five vD;have HH:=Lib.hid (And.intro hB1 (And.intro vD (And.intro mM hd1)));clear hB1 vD mM hd1 hW2 abU hD2 hO2 l3 hL hm hb1;go_upto_region 5 with(go_at_call 19;refine hset.mono ?_;rintro r w3 ⟨rfl,k3,s',e',hA',hSt,hRe,_,hL',he'⟩)
 have wM:w3.heap[w1.heap.size]?=some (.cells (dI c).toArray 30 (0,0)):=by rw[k3.block _ hd0];exact HH.out.2.1
 have lt1:w1.heap.size<w3.heap.size:=gQ wM;have qc:∀W:World,Below w3.heap.size w3 W->W.cell? ⟨w1.heap.size,0,none⟩=some (.int .i64 (c.W:Int))/\W.cell? ⟨w1.heap.size,1,none⟩=some (.int .i64 (c.S:Int))/\W.cell? ⟨w1.heap.size,2,none⟩=some (.int .i64 c.st)/\W.cell? ⟨w1.heap.size,3,none⟩=some (.int .i64 (c.wt:Int))/\W.cell? ⟨w1.heap.size,4,none⟩=some (.int .i64 c.u)/\Below w3.heap.size w3 W:=λW hW=>by
  have e:∀i,i<5->W.cell? ⟨w1.heap.size,i,none⟩=(dI c)[i]?:=λi hi=>by
   rw[hW.cell (p:=⟨w1.heap.size,i,none⟩) lt1,cell_of wM];simp
  exact⟨e 0 (by omega),e 1 (by omega),e 2 (by omega),e 3 (by omega),e 4 (by omega),hW⟩
 have hWd:∀W:World,Below w3.heap.size w3 W->Calls Tryz.prog 11 #[.pointer (some ⟨b,0,none⟩)] W λr w'=>(∃g cap,r=.returned (.slice (some ⟨g,0,none⟩) (nC c) cap))/\Below w3.heap.size w3 w':=λW hW=>by
  have hL4:Live c s' e' D2 b W:=(Live.below hL' hW).mono (λj hj=>.inl hj) hL'.kt;refine hL4.wds.mono λr w' hh=> ?_;obtain⟨g,cap,rfl,_,_,_,hb,_⟩:=hh;exact⟨⟨g,cap,rfl⟩,hW.trans (hb.mono hW.size)⟩
 have hWc:1<=c.W/\c.W<=4:=⟨hL'.good.W.1,uF⟩;have hSc:1<=c.S/\c.S<=5:=⟨hL'.good.S.1,hS5⟩;have hCl:∀W:World,Below w3.heap.size w3 W->Calls Tryz.prog 28 #[.agg (dI c).toArray] W λr w'=>r=.returned (.int .i64 (nC c:Int))/\Below w3.heap.size w3 w':=λW hW=>(Sr hWc hSc W).mono λr w' hh=>⟨hh.1,hW.trans (hh.2.mono hW.size)⟩;have HC3:=Lib.hid wM;clear c0 c1 c2 c3 c4 wM
 go_region_held3 (fun W=>W.cell? ⟨w1.heap.size,0,none⟩=some (.int .i64 (c.W:Int))/\W.cell? ⟨w1.heap.size,1,none⟩=some (.int .i64 (c.S:Int))/\W.cell? ⟨w1.heap.size,2,none⟩=some (.int .i64 c.st)/\W.cell? ⟨w1.heap.size,3,none⟩=some (.int .i64 (c.wt:Int))/\W.cell? ⟨w1.heap.size,4,none⟩=some (.int .i64 c.u)/\Below w3.heap.size w3 W)
  (first|exact qc _ (Below.refl _ _).drew|exact qc _ (Below.refl _ _)|exact qc _ Ip|exact qc _ YW)
  (first
   |(go_at_call 11;refine(hWd _ (by first|exact(Below.refl _ _).drew|exact Ip)).mono ?_;rintro r w5 ⟨⟨g5,cap5,rfl⟩,YW⟩)
   |(go_at_call 28;refine(hCl _ (by first|exact(Below.refl _ _).drew|exact YW)).mono ?_;rintro r w6 ⟨rfl,Ip⟩))
 obtain⟨c0,c1,c2,c3,c4,_⟩:=qc _ Ip;have ltR:w.heap.size+1<w3.heap.size:=by have:=k3.size;have:=gQ HH.out.2.2.1;omega
 have hRr:w6.heap[w.heap.size+1]?=some (.cells #[.int .i64 0,.int .i64 0,.int .i64 0,.int .i64 0,.int .i64 0] 30 (0,0)):=by
  rw[Ip.block _ ltR,k3.block _ (HH.out.2.2.2 _ (by omega))];exact HH.out.2.2.1
 obtain⟨r0,r1,r2,r3,r4⟩:=five hRr;have f0:=aW hRr 0;have f1:=aW hRr 1;have f2:=aW hRr 2;have f3:=aW hRr 3;have f4:=aW hRr 4;go_wp2;go_region
 all_goals go_wp2
 have hS:=heap_put (heap_put (heap_put (heap_put (heap_put hRr 0 (.int .i64 (c.W:Int))) 1 (.int .i64 (c.S:Int))) 2 (.int .i64 c.st)) 3 (.int .i64 (c.wt:Int))) 4 (.int .i64 c.u);have hKb:∀X:Nat->Prop,¬X (w.heap.size+1)->Kept X w6 (((((w6.setCell ⟨w.heap.size+1,0,none⟩ (.int .i64 (c.W:Int))).setCell ⟨w.heap.size+1,1,none⟩ (.int .i64 (c.S:Int))).setCell ⟨w.heap.size+1,2,none⟩ (.int .i64 c.st)).setCell ⟨w.heap.size+1,3,none⟩ (.int .i64 (c.wt:Int))).setCell ⟨w.heap.size+1,4,none⟩ (.int .i64 c.u)).drew:=λX hX=>(((((Kept.refl X w6).setCell (p:=⟨_,0,none⟩) hX _).setCell (p:=⟨_,1,none⟩) hX _).setCell (p:=⟨_,2,none⟩) hX _).setCell (p:=⟨_,3,none⟩) hX _).setCell (p:=⟨_,4,none⟩) hX _ |>.drew;revert hS hKb;generalize World.setCell _ ⟨w.heap.size+1,4,none⟩ _=W4;intro hS hKb;obtain⟨q0,q1,q2,q3,q4⟩:=five hS;refine cC (v:=.tuple #[.pointer (some ⟨b,0,none⟩),.agg (dI c).toArray]) ?_ rfl ?_
 .simp[results,Tryz.f9,go_sem,q0,q1,q2,q3,q4,dI]
 .have hD:∀j,j<w.heap.size->D2 j:=fun j hj=>HH.out.2.2.2 j (by omega)
  have hDR:D2 (w.heap.size+1):=HH.out.2.2.2 _ (by omega);have hL6:Live c s' e' D2 b w6:=(Live.below hL' Ip).mono (λj hj=>.inl hj) hL'.kt;refine⟨b,rfl,(HH.out.1.trans ((k3.mono hD).below.trans (Ip.mono (by omega)))).trans (hKb (· <w.heap.size) (by omega)).below,s',e',hA',an3 (amv hWh hWc hSc (by omega) hRe) (by omega),hSt,hL6.touch hD (λk hk=>HA.out.2.2.lt k hk) (hKb _ λq=> ?_),by omega,by have:=(ann HE0.out.2 (by omega) hSc.1 hRe).2;have:=ags c s;have:=HE0.out.1;omega⟩;rcases q with q|q
  .omega
  .exact q hDR
end
section
instance alB (kd:Nat) (ow:Int) (s:aa):Decidable (fits kd ow s):=by
 unfold fits jg j6 VF;split<;>infer_instance
instance alI (S:Nat) (f:Fd):Decidable (f.all S):=by unfold Fd.all;infer_instance
instance ajP (a b:Int):Decidable (oC a b):=by unfold oC;infer_instance
instance alH (s:Ms) (w:Nat):Decidable (aQ s w):=by
 unfold aQ;split<;>infer_instance
def Fd.kT(S:Nat)(m:Mm)(f:Fd):Fd:=
 if f.fd.isSome\/S<=f.at_ then f else if fits f.kd f.ow (m.sl f.at_)then{f with fd:=some (m.sl f.at_)}else{f with at_:=f.at_+1}
def Tk.kT(w S:Nat)(m:Mm)(good:Bool)(t:Tk):Tk×Mm:=
 match t.st with
 | .closed=>if m.cl≠0 then(t.fin 5,m)else(t.search .own 0 w,m)
 | .own=>let f:=t.look.kT S m;let t:={t with look:=f}
  if f.fd.isSome then({t with st:=.gp},m)else if f.all S then(t.search .any 1 w,m)else(t,m)
 | .gp=>match t.swap w m t.look.at_ t.look.wd 3 with
  |some (t,m)=>({t with st:=.check},m)
  |none=>({t with look:=t.look.again,st:=.own},m)
 | .any=>let f:=t.look.kT S m;let t:={t with look:=f}
  if f.fd.isSome then({t with st:=.anyS},m)else if f.all S then(t.search .free 2 w,m)else(t,m)
 | .anyS=>match t.swap w m t.look.at_ t.look.wd 3 with
  |some (t',m)=>if t.look.wd.own=w then({t' with st:=.check},m)else({t' with ps:=false}.search .move 0 t.look.wd.own,m)
  |none=>({t with look:=t.look.again,st:=.any},m)
 | .move=>let f:=t.look.kT S m;let t:={t with look:=f}
  if f.fd.isSome then(if t.ps then({t with ps:=false,look:=f.go},m)else({t with ps:=true,st:=.dD},m))else if f.all S then({t with st:=.check},m)else(t,m)
 | .dD=>
  let t':={t with look:=t.look.go,st:=.move}
  match az t.look.wd 9 w 0 with
  |some n=>if m.sl t.look.at_=t.look.wd then(t',m.set t.look.at_ n)else(t',m)
  |none=>(t',m)
 | .free=>let f:=t.look.kT S m;let t:={t with look:=f}
  if f.fd.isSome then({t with st:=.dQ},m)else if f.all S then(t.fin 3,m)else(t,m)
 | .dQ=>match t.swap w m t.look.at_ t.look.wd 0 with
  |some (t,m)=>({t with st:=.bM},m)
  |none=>({t with look:=t.look.again,st:=.free},m)
 | .bM=>match t.swap w m t.i t.wd (if good then 1 else 2)with
  |some (t,m)=>if good then({t with st:=.check},m)else(t.fin 6,m)
  |none=>(t.fin 6,m)
 | .check=>if m.cl=0 then(t.fin 0,m)else({t with st:=.back},m)
 | .back=>if(m.sl t.i).st=3/\(m.sl t.i).own=w/\(m.sl t.i).gen=t.gen then({t with rt:=Rt.new t.i (m.sl t.i),st:=.go},m)else(t.fin 5,m)
 | .go=>let r:=t.rt.step m;let t:={t with rt:=r.1}
  if r.1.st=.done then(if r.1.sw then(t.fin 5,r.2)else({t with st:=.back},r.2))else(t,r.2)
 | .grant=>({t with wd:=m.sl t.i,st:=.eG},m)
 | .eG=>match az t.wd 16 w 0 with
  |none=>(t.fin 5,m)
  |some n=>if m.sl t.i=t.wd then({t with wd:=n,gen:=n.gen,st:=if n.st=3 then .check else .bM},m.set t.i n)else({t with st:=.grant},m)
 | .done=>(t,m)
def Td.G5(S:Nat)(m:Mm)(t:Td):Td:=
 let f:=t.look.kT S m
 match f.fd with
 | .some x=>{t with look:=f,i:=f.at_,wd:=x}
 | .none=>{t with look:=f}
def Td.kT(c:Cn)(w:Nat)(m:Mm)(t:Td):Td×Mm:=
 match t.st with
 | .ep=>({t with ep:=m.ep,st:=.pin},m)
 | .pin=>({t with st:=.cl},m.pin w (aR (t.ep+1)))
 | .cl=>({t with cl:=m.cl,look:=Fd.new 4 m.cl,st:=.dL},m)
 | .dL=>let t:=t.G5 c.S m
  if t.look.fd.isSome then({t with rt:=Rt.new t.i t.wd,st:=.go},m)else if t.look.all c.S then({t with look:=Fd.new 5 w,st:=.old},m)else(t,m)
 | .go=>let r:=t.rt.step m;let t:={t with rt:=r.1}
  if r.1.st=.done then({t with look:=t.look.again,st:=.dL},r.2)else(t,r.2)
 | .old=>let t:=t.G5 c.S m
  if t.look.fd.isSome then(let o:=jq w 0;({t with other:=o,st:=if o<c.W then .pins else .clear},m))else if t.look.all c.S then({t with st:=if t.cl≠0 then .eO else .line},m)else(t,m)
 | .pins=>if oC (m.pn t.other) t.wd.ep then({t with look:=t.look.go,st:=.old},m)else
   let o:=jq w (t.other+1)
   ({t with other:=o,st:=if o<c.W then .pins else .clear},m)
 | .clear=>({t with look:=t.look.go,st:=.old},(t.swap m 12 w).getD m)
 | .line=>match m.qu with
  |[]=>({t with qu:=[],st:=.eO},m)
  |a::r=>({t with qu:=a::r,head:=a,look:=Fd.new 3 w,st:=.some},m)
 | .some=>let t:=t.G5 c.S m
  if t.look.fd.isSome then({t with st:=.keep},m)else if t.look.all c.S then({t with st:=.eO},m)else(t,m)
 | .keep=>match t.swap m (if t.wd.st=2 then 5 else 7) t.head with
  | .some m=>({t with st:=.pop},m)
  | .none=>({t with look:=t.look.again,st:=.some},m)
 | .pop=>if m.qu=t.qu then({t with st:=.grant},{m with qu:=m.qu.tail})else({t with st:=.back},m)
 | .grant=>({t with st:=.line},m.nT t.head (t.i+1))
 | .back=>let t:={t with wd:=m.sl t.i}
  ({t with st:=if t.wd.st=4\/t.wd.st=5 then .dR else .line},m)
 | .dR=>match t.swap m (if t.wd.st=4 then 6 else 8) w with
  | .some m=>({t with st:=.cl},m)
  | .none=>({t with st:=.back},m)
 | .eO=>({t with st:=.again},m.pin w 0)
 | .again=>({t with st:=if m.ep=t.ep then .done else .ep},m)
 | .done=>(t,m)
def BB(c:Cn)(w:Nat)(s:Ms)(x:Wr):Wk->Ms
 | .get t=>
  let d:=t.st=.bM
  let n:=s.next
  let s:=if d then{s with wo:=n.2}else s
  let r:=t.kT w c.S s.m (decide d&&n.1)
  let s:=s.mem r.2
  if r.1.st=.done then
   (if r.1.e=3 then(if x.ask.wait then s.put w (x.to (.enters Qu.enter))else s.put w (x.to (.counts Tw.new)))
    else if r.1.e=0 then s.put w (x.end_ ⟨0,r.1.i,r.1.gen,0,0,0,0,0⟩)else s.put w (x.end_ (.err r.1.e)))
  else s.put w (x.to (.work (.get r.1)))
 | .give g=>
  let r:=g.step c w s.m
  let s:=s.mem r.2
  if r.1.st=.done then s.put w (x.end_ (.err r.1.e))else s.put w (x.to (.work (.give r.1)))
 | .bg g=>
  let r:=g.step c w s.m
  let s:=s.mem r.2
  if r.1.st=.done then s.put w (x.end_ ⟨r.1.e,0,0,if r.1.e=0 then r.1.num else 0,0,0,0,0⟩)else s.put w (x.to (.work (.bg r.1)))
 | .close none=>
  let m:=if x.ask.force then{s.m with cl:=2}else if s.m.cl=0 then{s.m with cl:=1}else s.m
  (s.mem m).put w (x.to (.work (.close (some Qu.drain))))
 | .close (some q)=>
  let r:=q.step c w s.m
  let s:=s.mem r.2
  if r.1.st=.done then s.put w (x.end_ (.err 0))else s.put w (x.to (.work (.close (some r.1))))
 | .stats t=>
  let t:=t.step c.S s.m
  if t.dn then s.put w (x.end_ ⟨0,0,0,0,Eh (t.last.getD [])⟩)else s.put w (x.to (.work (.stats t)))
 | .aS r=>
  match r.st with
  | .look=>
   let f:=r.look.kT c.S s.m
   if f.fd.isSome then s.put w (x.to (.work (.aS {r with look:=f,st:=.ask})))else if f.all c.S then s.put w (x.end_ ⟨0,r.many,0,0,0,0,0,0⟩)else s.put w (x.to (.work (.aS {r with look:=f})))
  | .ask=>
   let n:=s.next
   let s:={s with wo:=n.2}
   if n.1=true/\r.look.wd.fO=false/\r.look.wd.brk=false then s.put w (x.to (.work (.aS {r with st:=.mark})))else s.put w (x.to (.work (.aS {r with rt:=Rt.new r.look.at_ r.look.wd,st:=.dB})))
  | .mark=>
   let x':=x.to (.work (.aS {r with look:=r.look.go,st:=.look}))
   match az r.look.wd 10 w 0 with
   |some n=>if s.m.sl r.look.at_=r.look.wd then(s.mem (s.m.set r.look.at_ n)).put w x' else s.put w x'
   |none=>s.put w x'
  | .dB=>
   let q:=r.rt.step s.m
   let s:=s.mem q.2
   if q.1.st=.done then s.put w (x.to (.work (.aS {r with rt:=q.1,many:=if q.1.sw then aR (r.many+1)else r.many,look:=r.look.go,st:=.look})))else s.put w (x.to (.work (.aS {r with rt:=q.1})))
def Gy(c:Cn)(s:Ms)(w:Nat):Ms:=
 let x:=s.ws w
 match x.ph with
 | .rest=>s
 | .pin none=>s.put w (x.to (.pin (some s.m.ep)))
 | .pin (some e)=>(s.mem (s.m.pin w (aR (e+1)))).put w (x.to (.work (bE x)))
 | .work k=>BB c w s x k
 | .counts t=>
  let t:=t.step c.S s.m
  if t.dn then(if∃y∈t.last.getD [],fits 3 w y then s.put w (x.to (.work (.get Tk.new)))else s.put w (x.end_ (.err 3)))else s.put w (x.to (.counts t))
 | .enters q=>
  let r:=q.step c w s.m
  let s:=s.mem r.2
  if r.1.st=.done then(if r.1.e=0\/r.1.e=8 then s.put w (x.to (.ax Td.new (some (decide (r.1.e=0))) (.err 0)))else s.put w (x.end_ (.err r.1.e)))else s.put w (x.to (.enters r.1))
 | .ax t p a=>
  let r:=t.kT c w s.m
  let s:=s.mem r.2
  if r.1.st=.done then(match p with
   |some b=>s.put w (x.to (.parked b))
   |none=>{s.put w (x.to .rest)with ev:=⟨true,w,x.ask,a⟩::s.ev})else s.put w (x.to (.ax r.1 p a))
 | .parked _=>if s.m.gr w≠0 then dh w s x none else aV c w s x Qu.leave
 | .wakes h=>dh w s x h
 | .leaves q=>aV c w s x q
theorem Gg: @Fd.step= @Fd.kT:=by
 funext S m f;unfold Fd.step Fd.kT;congr
theorem aam: @Tk.step= @Tk.kT:=by
 funext w S m good t;unfold Tk.step Tk.kT;rw[Gg];congr;all_goals (funext;dsimp only;repeat' split)
 all_goals rfl
theorem aat: @Td.fu= @Td.G5:=by
 funext S m t;unfold Td.fu Td.G5;rw[Gg];congr
theorem aas: @Td.step= @Td.kT:=by
 funext c w m t;unfold Td.step Td.kT;rw[aat];congr;all_goals (funext;dsimp only;repeat' split)
 all_goals rfl
theorem Uv: @ak= @BB:=by
 funext c w s x k;unfold ak BB;rw[Gg,aam];congr;all_goals (funext;dsimp only;repeat' split)
 all_goals first|rfl|(simp_all;done)|(subst_vars;simp_all;done)
theorem adL: @ai= @Gy:=by
 funext c s w;unfold ai Gy;rw[Uv,aas];congr;all_goals (funext;dsimp only;repeat' split)
 all_goals first|rfl|(simp_all;done)|(subst_vars;simp_all;done)|(simp_all;rename_i a _ b;obtain⟨y,h1,h2⟩:=b;exact absurd h2 (a y h1))
def NG(c:Cn)(s:Ms):Option Ms:=if aQ s 0 then some (Gy c s 0)else if aQ s 1 then some (Gy c s 1)else none
def oJ(c:Cn):Nat->Ms->Option Ms
 |0,_=>none
 |n+1,s=>match NG c s with|none=>some s|some s'=>oJ c n s'
theorem XV{c:Cn}(hW:c.W=2){s s' z:Ms}{n:Nat}(h:oJ c n s=some z)(r:uP c s s'):∃m,oJ c m s'=some z:=by
 induction r with
 |refl=>exact⟨n,h⟩
 |@step s1 v _ hv hno hc ih=>
  obtain⟨m,hm⟩:=ih;have hp:NG c s1=some (ai c s1 v):=by
   rw[adL];unfold NG;match v,hv,hno,hc with
   |0,_,_,hc=>rw[if_pos hc]
   |1,_,hno,hc=>rw[if_neg (hno 0 (by decide)),if_pos hc]
   |v+2,hv,_,_=>omega
  match m,hm with
  |0,hm=>cases hm
  |m+1,hm=>
   unfold oJ at hm;rw[hp]at hm;exact⟨m,hm⟩
theorem XU{c:Cn}(hW:c.W=2){s s' z:Ms}{n:Nat}(h:oJ c n s=some z)(r:uP c s s')(hs:Still c s'):s'=z:=by
 obtain⟨m,hm⟩:=XV hW h r;match m,hm with
 |0,hm=>cases hm
 |m+1,hm=>
  unfold oJ NG at hm;rw[if_neg (hs 0 (by omega)),if_neg (hs 1 (by omega))]at hm;exact b9 hm
def cA:Cn:=⟨2,1,0,1,9⟩
def xA1:En:=⟨0,0,0,⟨0,false,false,0,0,0,0⟩,0,false⟩
def Sz:En:=⟨0,1,0,⟨0,true,false,9,0,0,0⟩,0,false⟩
def Sy:En:=⟨0,0,2,⟨0,false,false,0,0,1,0⟩,0,false⟩
def U3:Ph->Bool
 | .rest=>true
 |_=>false
theorem X7{p:Ph}:U3 p=true↔p=.rest:=by cases p<;>simp[U3]
def Vt(s:Ms)(w:Nat):Bool:=U3 (s.ws w).ph&&Nat.blt s.ev.length 1999
def ahZ:Bool:=
 match oJ cA 400 (ko Ms.zero xA1)with
 |none=>false
 |some z1=>Vt z1 1&&match oJ cA 400 (ko z1 Sz)with
  |none=>false
  |some z2=>(Vt z2 0&&decide (rJ (z2.ws 1).ph=6))&&match oJ cA 400 (ko z2 Sy)with
   |none=>false
   |some z3=>decide (rJ (z3.ws 1).ph=0)&&match z3.ev with
    |[y,_,_,_,_,_]=>decide (y.ans.e=0)
    |_=>false
end
noncomputable section
open Go.RowKit Go.bn Go.Sx Yq
attribute [local go_sem ↓] Go.wp_at_zero Go.wp_at_succ
theorem ahY:ahZ=true:=by kernel_rfl
theorem Pq{c:Cn}{z:Ms}{x:En}{w:Nat}(hx:x.kind=0)(hw:x.who=(w:Int))(hlt:w<c.W)(ho:0<=x.op/\x.op<8)(h:Vt z w=true):dX c z x=(true,ko z x):=by
 unfold Vt at h;rw[bj]at h;have e:x.who.toNat=w:=by rw[hw];exact cH w
 have m:Ih c z x:=⟨⟨by rw[hw];omega,by rw[hw];omega⟩,by rw[e];exact X7.1 h.1,by have:=ey h.2;omega,ho.1,ho.2⟩;unfold dX;rw[if_pos hx,if_pos m]
theorem Sa:∃z1 z2 z3,dX cA Ms.zero xA1=(true,ko Ms.zero xA1)/\oJ cA 400 (ko Ms.zero xA1)=some z1/\dX cA z1 Sz=(true,ko z1 Sz)/\oJ cA 400 (ko z1 Sz)=some z2/\rJ (z2.ws 1).ph=6/\dX cA z2 Sy=(true,ko z2 Sy)/\
  oJ cA 400 (ko z2 Sy)=some z3/\rJ (z3.ws 1).ph=0/\z3.ev.length=6/\∃y,z3.ev[0]?=some y/\y.ans.e=0:=by
 have h:=ahY;unfold ahZ at h;cases h1:oJ cA 400 (ko Ms.zero xA1)with
 |none=>rw[h1]at h;cases h
 |some z1=>
  rw[h1]at h;simp only[bj]at h;obtain⟨m1,h⟩:=h;cases h2:oJ cA 400 (ko z1 Sz)with
  |none=>rw[h2]at h;cases h
  |some z2=>
   rw[h2]at h;simp only[bj,dj]at h;obtain⟨⟨m2,p2⟩,h⟩:=h;cases h3:oJ cA 400 (ko z2 Sy)with
   |none=>rw[h3]at h;cases h
   |some z3=>
    rw[h3]at h;simp only[bj,dj]at h;obtain⟨p3,h⟩:=h;refine⟨z1,z2,z3,Pq (w:=0) rfl rfl (by decide) ⟨by decide,by decide⟩ rfl,rfl,Pq (w:=1) rfl rfl (by decide) ⟨by decide,by decide⟩ m1,h2,p2,Pq (w:=0) rfl rfl (by decide) ⟨by decide,by decide⟩ m2,h3,p3,?_⟩;split at h
    .rename_i y _ _ _ _ _ he
     rw[he];exact⟨rfl,y,rfl,ij h⟩
    .cases h
def Aw(z:Ms)(K:Int)(bx b:Nat)(w1 W:World):Prop:=∃e,e<=K/\Live cA z e (· <w1.heap.size) b W/\All cA z/\bx<w1.heap.size/\W.heap[bx]?=some (.cells #[.int .i64 2,.int .i64 1,.int .i64 0,.int .i64 1,.int .i64 9] 30 (0,0))/\Below w1.heap.size w1 W
variable{z z':Ms} {K:Int} {bx b:Nat} {w1 W:World}
theorem Aw.cells(h:Aw z K bx b w1 W):W.cell? ⟨bx,0,none⟩=some (.int .i64 2)/\W.cell? ⟨bx,1,none⟩=some (.int .i64 1)/\W.cell? ⟨bx,2,none⟩=some (.int .i64 0)/\W.cell? ⟨bx,3,none⟩=some (.int .i64 1)/\W.cell? ⟨bx,4,none⟩=some (.int .i64 9):=by
 obtain⟨e,_,_,_,_,hb,_⟩:=h;refine⟨?_,?_,?_,?_,?_⟩<;>(rw[cell_of hb];rfl)
theorem Aw.MC(H:∀v,v<2->fZ 2 v)(h:Aw z K bx b w1 W)(hK:K<=1000000000)(x:En)(hx:wY cA x)(hd:dX cA z x=(true,z')):
  Calls Tryz.prog jV [.pointer (some ⟨b,0,none⟩),uZ x].toArray W λr w'=>r=.returned (.bool true)/\Aw z' (K+1) bx b w1 w':=by
 obtain⟨e,he,L,A,hx1,hb,hB⟩:=h;refine(L.MC H (by omega) x hx).mono λr w' hh=> ?_;rw[hd]at hh;obtain⟨rfl,k,L'⟩:=hh;have A':=QX A (by decide) (by decide) x;rw[hd]at A';exact⟨rfl,e+1,by omega,L',A',hx1,(k.block bx hx1).trans hb,hB.trans k.below⟩
theorem Aw.settled(H:∀v,v<2->fZ 2 v)(h:Aw z K bx b w1 W)(hK:K<=900000000)(hr:oJ cA 400 z=some z'):
  Calls Tryz.prog 19 #[.pointer (some ⟨b,0,none⟩),.agg #[.int .i64 2,.int .i64 1,.int .i64 0,.int .i64 1,.int .i64 9],.slice none 0 0] W λr w'=>r=.returned (.bool true)/\Aw z' (K+2000000) bx b w1 w':=by
 obtain⟨e,he,L,A,hx1,hb,hB⟩:=h;have q:=EB (c:=cA) (A:=none) (n:=0) (cap:=0) H (by decide) (by decide) (by decide) W A L (by omega) ⟨λk hk=>absurd hk (mz k)⟩;refine Calls.mono q λr w' hh=> ?_;obtain⟨rfl,k,s',e',A',st,_,r0,L',he'⟩:=hh;obtain rfl:=XU rfl hr (r0 rfl) st;exact⟨rfl,e',by omega,L',A',hx1,(k.block bx hx1).trans hb,hB.trans k.below⟩
theorem Aw.state(h:Aw z K bx b w1 W){n:Int}(hn:rJ (z.ws 1).ph=n):Calls Tryz.prog 23 #[.pointer (some ⟨b,0,none⟩),.int .i64 1] W λr w'=>r=.returned (.int .i64 n)/\Below W.heap.size W w'/\Aw z K bx b w1 w':=by
 obtain⟨e,he,L,A,hx1,hb,hB⟩:=h;refine Calls.mono (L.state (v:=1) (by decide)) λr w' hh=> ?_;obtain⟨rfl,k,L'⟩:=hh;rw[hn];exact⟨rfl,k,e,he,L'.mono (λj hj=>.inl hj) L.kt,A,hx1,(k.block bx (gQ hb)).trans hb,hB.trans (k.mono hB.size)⟩
theorem Aw.events(h:Aw z K bx b w1 W)(hK:K<=1000000000)(hl:z.ev.length=6)(hy:∃y,z.ev[0]?=some y/\y.ans.e=0):Calls Tryz.prog 17 #[.pointer (some ⟨b,0,none⟩)] W λr w'=>∃g cap,r=.returned (.slice (some ⟨g,0,none⟩) 6 cap)/\w'.cell? ⟨g,100,none⟩=some (.int .i64 0)/\W.heap.size<=g/\g<w'.heap.size/\Aw z K bx b w1 w':=by
 obtain⟨e,he,L,A,hx1,hb,hB⟩:=h;refine(L.events (by omega)).mono λr w' hh=> ?_;obtain⟨v',A',rfl,ho,k,L'⟩:=hh;have E:=K3 ho;have hne:z.ev≠[]:=λq=>by rw[q]at hl;cases hl
 obtain⟨g,cap,hv,_,hg,hg2,hc⟩:=E.row hne;obtain⟨x,a,hx,hcc⟩:=hc 5 (by rw[hl];decide);obtain⟨y,hy0,hye⟩:=hy;rw[hl]at hx hv;obtain rfl:x=y:=b9 (hx.symm.trans hy0);have c0:=hcc 10 (.int .i64 x.ans.e) rfl;rw[hye]at c0;exact⟨g,cap,by rw[hv],c0,hg,hg2,e,he,L'.mono (λj hj=>.inl hj) L.kt,A,hx1,(k.block bx (gQ hb)).trans hb,hB.trans (k.mono (by have:=hB.size;omega))⟩
theorem aeC:fI (iM cA):=by constructor<;>decide
set_option maxHeartbeats 4000000 in
theorem ZO(H:∀v,v<2->fZ 2 v)(w:World)(hT:TT w):Calls Tryz.prog 7 #[] w λr w'=>r=.returned (.bool true)/\Below w.heap.size w w':=by
 obtain⟨z1,z2,z3,d1,r1,d2,r2,p2,d3,r3,p3,hl,hy⟩:=Sa;have l2:=hT.lt 2 (.inr rfl);have hT1:∀o,TT (w.alloc o):=λo=>nG hT ((Below.refl _ w).alloc (aq _) o) l2;have hnew:∀W,TT W->Calls Tryz.prog 26 #[.agg #[.int .i64 2,.int .i64 1,.int .i64 0,.int .i64 1,.int .i64 9]] W λr w'=>∃b,r=.returned (.tuple #[.pointer (some ⟨b,0,none⟩),.int .i64 0])/\Below W.heap.size W w'/\Live cA Ms.zero 0 (· <W.heap.size) b w':=λW hW=>PN (c:=cA) aeC (by decide) (by decide) W hW;have hd:∀{z z':Ms} {K:Int} {bx b:Nat} {w1 W:World} (h:Aw z K bx b w1 W) (hK:K<=1000000000) (x:En) (hx:wY cA x) (hd:dX cA z x=(true,z')),Calls Tryz.prog jV [.pointer (some ⟨b,0,none⟩),uZ x].toArray W λr w'=>r=.returned (.bool true)/\Aw z' (K+1) bx b w1 w':=λh hK x hx hd=>Aw.MC H h hK x hx hd
 go_enter Tryz.func7,Tryz.ntmps7
 go_upto_region 2 with(fail)
 refine jY λW1 hW1=> ?_;have FY:W1.heap[w.heap.size]?=some (.cells #[.int .i64 2,.int .i64 1,.int .i64 0,.int .i64 1,.int .i64 9] 30 (0,0)):=by rw[hW1];simp[qU,cQ]
 have hb1:Below w.heap.size w W1:=by rw[hW1];exact(Below.refl _ w).alloc (aq _) _
 have hs1:W1.heap.size=w.heap.size+1:=by rw[hW1];simp
 have rQ:TT W1:=by rw[hW1];exact hT1 _
 have hN:=hnew W1 rQ;have HB:=Lib.hid (And.intro hb1 hs1);clear hW1 hT1 hnew hb1;obtain⟨c0,c1,c2,c3,c4⟩:=five FY;go_upto_region 3 with(go_at_call 26;refine hN.mono ?_;rintro r w2 ⟨b,rfl,hb2,L2⟩)
 have a0:Aw Ms.zero 0 w.heap.size b W1 w2:=⟨0,jx 0,L2,all_zero,by omega,(hb2.block _ (by omega)).trans FY,hb2⟩;have A0:=Lib.hid a0;clear hb2 L2 c0 c1 c2 c3 c4 a0 FY hs1;have q1:Calls Tryz.prog 18 #[.pointer (some ⟨b,0,none⟩),.agg #[.int .i64 0,.int .i64 0,.int .i64 0,.int .i64 0,.bool false,.bool false,.int .i64 0,.int .i64 0,.int .i64 0,.int .i64 0,.bool false]] w2 λr w'=>r=.returned (.bool true)/\Aw _ (0+1) w.heap.size b W1 w':=hd A0.out (by decide) xA1 ⟨⟨by decide,by decide⟩,⟨by decide,by decide⟩,by decide⟩ d1
 go_upto_region 6 with(go_at_call 18;refine q1.mono ?_;rintro r w3 ⟨rfl,a1⟩)
 obtain⟨c0,c1,c2,c3,c4⟩:=a1.cells;have q2:=a1.settled H (by decide) r1
 go_upto_region 7 with(go_at_call 19;refine q2.mono ?_;rintro r w4 ⟨rfl,a2⟩)
 clear c0 c1 c2 c3 c4 q1 q2;have q3:Calls Tryz.prog 18 #[.pointer (some ⟨b,0,none⟩),.agg #[.int .i64 0,.int .i64 1,.int .i64 0,.int .i64 9,.bool true,.bool false,.int .i64 0,.int .i64 0,.int .i64 0,.int .i64 0,.bool false]] w4 λr w'=>r=.returned (.bool true)/\Aw _ (0+1+2000000+1) w.heap.size b W1 w':=hd a2 (by decide) Sz ⟨⟨by decide,by decide⟩,⟨by decide,by decide⟩,by decide⟩ d2
 go_upto_region 8 with(go_at_call 18;refine q3.mono ?_;rintro r w5 ⟨rfl,a3⟩)
 obtain⟨c0,c1,c2,c3,c4⟩:=a3.cells;have q4:=a3.settled H (by decide) r2
 go_upto_region 9 with(go_at_call 19;refine q4.mono ?_;rintro r w6 ⟨rfl,a4⟩)
 clear c0 c1 c2 c3 c4 q3 q4;have q5:=a4.state p2;go_upto_region 10 with(go_at_call 23;refine q5.mono ?_;rintro r w7 ⟨rfl,_,a5⟩)
 have q6:Calls Tryz.prog 18 #[.pointer (some ⟨b,0,none⟩),.agg #[.int .i64 0,.int .i64 0,.int .i64 2,.int .i64 0,.bool false,.bool false,.int .i64 0,.int .i64 1,.int .i64 0,.int .i64 0,.bool false]] w7 λr w'=>r=.returned (.bool true)/\Aw _ (0+1+2000000+1+2000000+1) w.heap.size b W1 w':=hd a5 (by decide) Sy ⟨⟨by decide,by decide⟩,⟨by decide,by decide⟩,by decide⟩ d3
 go_upto_region 11 with(go_at_call 18;refine q6.mono ?_;rintro r w8 ⟨rfl,a6⟩)
 obtain⟨c0,c1,c2,c3,c4⟩:=a6.cells;have q7:=a6.settled H (by decide) r3
 go_upto_region 12 with(go_at_call 19;refine q7.mono ?_;rintro r w9 ⟨rfl,a7⟩)
 clear c0 c1 c2 c3 c4 q5 q6 q7;have q8:=a7.events (by decide) hl hy
 go_upto_region 13 with(go_at_call 17;refine q8.mono ?_;rintro r w10 ⟨g,cap,rfl,hcl,_,hg,a8⟩)
 have q9:=a8.state p3;go_wp2_with (go_at_call 23;refine q9.mono ?_;rintro r M0 ⟨rfl,alu,a9⟩;have hc2:=(alu.cell (p:=⟨g,100,none⟩) hg).trans hcl)
 go_ret;obtain⟨_,_,_,_,_,_,hB⟩:=a9;exact⟨rfl,HB.out.1.trans (hB.mono (by have:=HB.out.2;omega))⟩
end
noncomputable section
open Go.RowKit Go.bn Go.Sx Yq
attribute [local go_sem ↓] Go.wp_at_zero Go.wp_at_succ
theorem ahB:∀(n:Nat) (l:List Nat),l.length<=n->(∀a∈l,a<=14)->au l<(16:Int)^n
 |0,[],_,_=>by decide
 |n+1,[],_,_=>by
  have:=ahB n [] (cL _) (λa h=>by cases h);rw[Int.pow_succ];have e:au []=0:=rfl;omega
 |n+1,a::r,h,ha=>by
  have h1:=ahB n r (by simpa using h) λx hx=>ha x (da _ hx);have h2:=ha a (cV ..);show((a:Int)+1)+16*au r<(16:Int)^(n+1);rw[Int.pow_succ];omega
set_option maxHeartbeats 1000000 in
theorem alT{l:List Nat}(h:dZ l)(w:World):Calls Tryz.prog 32 #[.int .i64 (au l)] w λr w'=>(∃v,r=.returned v/\w'.ownsRow w.heap.size 3 1 v l.length (l.map λa:Nat=>Value.int .i64 (a:Int)))/\Below w.heap.size w w':=by
 obtain⟨i0,hi,hz0,hz1,hz2⟩:=info_parts Tryz.info3;go_enter Tryz.func32,Tryz.ntmps32
 go_wp2
 go_loopw [0,3] (fun q v wr=>∃k:Nat,k<=l.length/\q=.int .i64 (au (l.drop k))/\wr.ownsRow w.heap.size 3 1 v k ((l.take k).map fun a:Nat=>Value.int .i64 (a:Int))/\Below w.heap.size w wr)
  (λq _ _=>(intOf q).toNat)
 case atStart=>exact⟨0,cL _,rfl,sq _ _ _ _,Below.refl _ _⟩
 case round=>
  obtain⟨k,hk,rfl,hown,hB⟩:=hrel;have hsz:=hB.size;by_cases hlt:k<l.length
  .have ed:l.drop k=l[k]::l.drop (k+1):=lj hlt
   have et:l.take (k+1)=l.take k++[l[k]]:=dg hlt;have ha:=h.2 _ (eC hlt);have hr:=l8 (l.drop (k+1));rw[ed];show _;obtain⟨q,hq⟩:∃q,q=au (l[k]::l.drop (k+1)):=⟨_,rfl⟩;have hq2:q=((l[k]:Nat):Int)+1+16*au (l.drop (k+1)):=hq;obtain⟨r,hrr⟩:∃r,r=au (l.drop (k+1)):=⟨_,rfl⟩;obtain⟨a,nQ⟩:∃a:Int,a=((l[k]:Nat):Int):=⟨_,rfl⟩;rw[<-hq];rw[<-hrr]at hr hq2;rw[<-nQ]at hq2;have ha2:0<=a/\a<=14:=by omega
   have q0:0<q:=by omega
   have q1:0<q%16:=by omega
   have q2:q%16-1=a:=by omega
   have q3:q/16=r:=by omega
   have as2:q<1152921504606846976:=by
    have:=ahB 15 (l.drop k) (by rw[List.length_drop];have:=h.1;omega) λx hx=>h.2 x (qv hx);rw[ed, <-hq]at this;exact this
   have HO:=Lib.hid hown;have HT:=Lib.hid (And.intro et (And.intro nQ (And.intro hrr hq2)));clear hown et nQ hrr hq hq2 ed ha hr;go_wp2_with (at_builtin;refine oT _ rfl _ _ 35 rfl w.heap.size 3 i0 (.int .i64 0) 1 8 Tryz.underlying35 hi hz0 hz1 hz2 rfl (by decide) _ _ _ rfl (HO.out.alloc _) ⟨wr.heap.size,0,none⟩ 1 1 [.int .i64 a] rfl rfl ?c1 ?c2 ?c3 ?c4 ?c5 ?_)
   case c1=>exact cell_one_new _ _ _
   case c2=>simp[Value.oneCell']
   case c3=>have:=h.1;unfold maxLen;omega
   case c4=>have:=h.1;omega
   case c5=>simp;omega
   intro v' w3 hown3 hgr _
   have hgrow:Below w.heap.size w w3:=(hB.alloc hsz _).grown hgr (by simp;omega) (λj e=>by
    rcases HO.out.2 with⟨rfl,_⟩|⟨g,cap,cur,rfl,hg,_⟩
    .simp[Value.ownBlock]at e
    .simp[Value.ownBlock]at e;omega)
   clear hgr;obtain⟨g',cap',rfl⟩:=ownsRow_succ hown3;have HO3:=Lib.hid hown3;clear hown3;go_wp2;go_roundw
   case rel=>
    refine⟨k+1,hlt,by rw[q3,HT.out.2.2.1],?_,hgrow⟩;have:=HO3.out;rw[<-List.map_take]at this;rw[HT.out.1,qP,oc,sL, <-HT.out.2.1];exact this
   case measure=>
    have:=HT.out.2.2.2;simp[intOf];omega
  .obtain rfl:k=l.length:=by omega
   rw[List.drop_length];rw[lP]at hown;have HO:=Lib.hid hown;clear hown;show _;have e0:au []=0:=rfl;rw[e0];go_wp2;go_ret;exact⟨⟨_,rfl,HO.out⟩,hB⟩
structure adD(w:World)(A:Option Addr)(l:List Nat)(B:Nat):Prop where
 at_:∀(k a:Nat),l[k]?=some a->∃g,A=some ⟨g,0,none⟩/\B<=g/\g<w.heap.size/\w.cell? ⟨g,k,none⟩=some (.int .i64 (a:Int))
theorem aoa{w:World}{B:Nat}{v:Value}{l:List Nat}(h:w.ownsRow B 3 1 v l.length (l.map λa:Nat=>Value.int .i64 (a:Int))):∃A cap,v=.slice A l.length cap/\adD w A l B:=by
 rcases h.2 with⟨rfl,h0⟩|⟨g,cap,cur,rfl,hB,hg,hn,hcap,hsz,ht⟩
 .refine⟨none,0,by rw[h0],⟨fun k a hk=> ?_⟩⟩
  have:=cR h0;rw[this]at hk;cases hk
 .refine⟨_,cap,rfl,⟨fun k a hk=>⟨g,rfl,hB,(bk.1 hg).1,?_⟩⟩⟩
  have hk':k<l.length:=(aE.1 hk).1;have e1:(l.map λa:Nat=>Value.int .i64 (a:Int))[k]?=some (.int .i64 (a:Int)):=by rw[cG,hk];rfl
  rw[<-ht,fy (by omega)]at e1;rw[cell_of hg];simpa using e1
theorem akk{c:Cn}{s:Ms}{e:Int}{D:Nat->Prop}{b:Nat}{w:World}(hL:Live c s e D b w):Calls Tryz.prog 15 #[.pointer (some ⟨b,0,none⟩)] w λr w'=>(∃A cap,r=.returned (.slice A s.m.qu.length cap)/\adD w' A s.m.qu w.heap.size)/\Below w.heap.size w w':=by
 have hwd:=hL.wds;obtain⟨k,_,hN,_⟩:=hL.good.nx;have hlo:dZ s.m.qu:=hN.ln.line (by have:=hL.good.W.2;omega);have hli:=λw=>alT hlo w;have n2:¬((nC c:Nat):Int)<2:=by unfold nC;omega
 have n1:(1:Int)<((nC c:Nat):Int):=by unfold nC;omega
 have HN:=Lib.hid hN;clear hN hL;go_enter Tryz.func15,Tryz.ntmps15
 go_wp2_with (first
  |(go_at_call 11;refine hwd.mono ?_;rintro r w1 ⟨g,cap,rfl,hg1,hg2,hcells,hb1,hL1⟩;have q1:=hcells 1 _ rfl)
  |(go_at_call 32;refine(hli _).mono ?_;rintro r w2 ⟨⟨v,rfl,hv⟩,hb2⟩;obtain⟨A,cp,rfl,hA⟩:=aoa hv))
 go_ret;refine⟨⟨_,_,rfl,⟨λk a ha=> ?_⟩⟩,hb1.trans (hb2.mono hb1.size)⟩;obtain⟨g',e,h1,h2,h3⟩:=hA.at_ k a ha;exact⟨g',e,eM hb1.size h1,h2,h3⟩
end
noncomputable section
open Go.RowKit Go.bn Go.Sx Yq
variable{c:Cn} {s s' s0:Ms} {e:Int} {D:Nat->Prop} {b:Nat} {w w':World}
structure EvS(w:World)(A:Option Addr)(l:List Ev)(B:Nat):Prop where
 at_:∀k:Nat,k<l.length->∃(g:Nat) (x:Ev),A=some ⟨g,0,none⟩/\B<=g/\g<w.heap.size/\l[l.length-1-k]?=some x/\w.cell? ⟨g,k*18,none⟩=some (.bool x.ended)/\w.cell? ⟨g,k*18+1,none⟩=some (.int .i64 (x.who:Int))/\w.cell? ⟨g,k*18+10,none⟩=some (.int .i64 x.ans.e)
theorem apD{B:Nat}{v:Value}{l:List Ev}{A:Nat->Int}(ho:w.ownsRow B 68 18 v l.length (zy A l)):∃A cap,v=.slice A l.length cap/\EvS w A l B:=by
 have h:=K3 ho;by_cases hl:l=[]
 .obtain⟨_,k⟩:=ho
  rcases k with⟨rfl,h0⟩|⟨g,cap,cur,rfl,_⟩
  .exact⟨none,0,by rw[h0],⟨λk hk=>by omega⟩⟩
  .exact⟨_,cap,rfl,⟨λk hk=>by rw[hl]at hk;exact absurd hk (mz k)⟩⟩
 .obtain⟨g,cap,rfl,h2,h3,h4,h5⟩:=h.row hl
  refine⟨_,cap,rfl,⟨λk hk=> ?_⟩⟩;obtain⟨x,a,h6,h7⟩:=h5 k hk;exact⟨g,x,rfl,h3,h4,h6,h7 0 _ rfl,h7 1 _ rfl,h7 10 _ rfl⟩
theorem Live.evs(h:Live c s e D b w)(he:e<=1000000000):Calls Tryz.prog 17 #[.pointer (some ⟨b,0,none⟩)] w λr w'=>(∃A cap,r=.returned (.slice A s.ev.length cap)/\EvS w' A s.ev w.heap.size)/\Below w.heap.size w w'/\Live c s e D b w':=by
 refine(Live.events h he).mono λr w' hh=> ?_;obtain⟨v',A,rfl,ho,hb,hl⟩:=hh;obtain⟨A',cap,rfl,hE⟩:=apD ho;exact⟨⟨A',cap,rfl,hE⟩,hb,hl.mono (λj hj=>.inl hj) h.kt⟩
end
noncomputable section
open Go.RowKit Go.bn Go.Sx Yq
attribute [local go_sem ↓] Go.wp_at_zero Go.wp_at_succ
theorem Dq.below'{w w':World}{A:Option Addr}{n:Nat}(h:Dq w A n)(hb:Below w.heap.size w w'):Dq w' A n:=⟨λk hk=>by
 obtain⟨g,off,u0,u1,u2,u3,u4,u5,e,hg,hu,t0,t1,t2,t3,t4,t5⟩:=h.at_ k hk;exact⟨g,off,u0,u1,u2,u3,u4,u5,e,ba hg hb.size,hu,(hb.cell (p:=⟨g,_,none⟩) hg).trans t0,(hb.cell (p:=⟨g,_,none⟩) hg).trans t1,(hb.cell (p:=⟨g,_,none⟩) hg).trans t2,(hb.cell (p:=⟨g,_,none⟩) hg).trans t3,(hb.cell (p:=⟨g,_,none⟩) hg).trans t4,(hb.cell (p:=⟨g,_,none⟩) hg).trans t5⟩⟩
theorem aog{l new old:List Ev}{v:Nat}(h:l=new++old)(hv:∃y,y∈new/\y.who=v):∃k x,old.length<=k/\k<l.length/\l[l.length-1-k]?=some x/\x.who=v:=by
 obtain⟨y,hy,e⟩:=hv;obtain⟨j,hj,rfl⟩:=ff.1 hy;have hl:l.length=new.length+old.length:=by rw[h,cE]
 refine⟨l.length-1-j,new[j],by omega,by omega,?_,e⟩;have ej:l.length-1-(l.length-1-j)=j:=by omega
 rw[ej,h,cD hj,aw hj]
theorem apB{l new old:List Ev}{k:Nat}{x:Ev}(h:l=new++old)(h1:old.length<=k)(h2:k<l.length)(hx:l[l.length-1-k]?=some x):x∈new:=by
 have hl:l.length=new.length+old.length:=by rw[h,cE]
 have hlt:l.length-1-k<new.length:=by omega
 rw[h]at hx;rw[h]at hlt;rw[cD hlt]at hx;exact du hx
