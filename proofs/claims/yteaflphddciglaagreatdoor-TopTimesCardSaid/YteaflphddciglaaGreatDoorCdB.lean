/- Group CdB: laws of the proof, joined. No condition of its own. -/
import Derived.Test.YteaflphddciglaaGreatDoorCdA
import Derived.Deep.CutRange
import Derived.Deep.RegionHeld3
import Derived.BigQuiet
set_option linter.unusedVariables false
set_option linter.unusedSimpArgs false
namespace Go.Proofs.YteaflphddciglaaGreatDoor
namespace bq
noncomputable section
open Go.RowKit Go.bn Go.Sx Yq
variable{c:Cn} {s s' s0:Ms} {e:Int} {D:Nat->Prop} {b:Nat} {w w':World}
inductive Reach(c:Cn)(s:Ms):Ms->Prop
 |refl:Reach c s s
 |step {s':Ms} {v:Nat}:Reach c s s'->v<c.W->aQ s' v->Reach c s (ai c s' v)
inductive uP(c:Cn)(s:Ms):Ms->Prop
 |refl:uP c s s
 |step {s':Ms} {v:Nat}:uP c s s'->v<c.W->(∀j,j<v->¬aQ s' j)->aQ s' v->uP c s (ai c s' v)
theorem aaa{s:Ms}(h:Wh c s){s':Ms}(r:Reach c s s'):Wh c s':=by
 induction r with
 |refl=>exact h
 |step _ hv _ ih=>exact SF ih hv
theorem ahE{K:Nat}(h:GyS c s K)(hW:c.W<=14)(hS:1<=c.S)(hK:((K+yj c s:Nat):Int)<=4000000000000000000){s':Ms}(r:Reach c s s'):∃K',GyS c s' K'/\K'+yj c s'<=K+yj c s:=by
 induction r with
 |refl=>exact⟨K,h,Nat.le_refl _⟩
 |step _ hv hc ih=>
  obtain⟨K',G,hk⟩:=ih;have q:=(Gu hv (by omega) hS G.x.nx.all hc).2
  exact⟨K'+1,akM G hW hS hv hc (by omega),by omega⟩
theorem amv{n:Int}{s:Ms}(h:Wg c n s)(hW:1<=c.W/\c.W<=4)(hS:1<=c.S/\c.S<=5)(hn:n<=1000000000){s':Ms}(r:Reach c s s'):Wg c (n+360000) s':=by
 obtain⟨h1,K,hK,G⟩:=h;have l:=Yj G.x.nx.all.inv G.x.nx.all.nd hW.1 hW.2 hS.1 hS.2
 have l2:10000*c.W*(c.S+c.W)<=360000:=by
  have:=Nat.mul_le_mul (Nat.mul_le_mul_left 10000 hW.2) (Nat.add_le_add hS.2 hW.2);omega
 obtain⟨K',G',hk⟩:=ahE G (by omega) hS.1 (by omega) r
 exact⟨aaa h1 r,K',by omega,G'⟩
def G7(c:Cn)(s:Ms):Nat:=j4 (λi=>rp (s.ws i)) c.W
theorem ags(c:Cn)(s:Ms):G7 c s<=3*c.W:=by
 have:=yO (f:=λi=>rp (s.ws i)) (k:=3) c.W λi _=>ai1 _
 unfold G7;omega
theorem aaP{v:Nat}(hv:v<c.W)(hW:c.W<=15)(hS:1<=c.S)(A:All c s)(hc:aQ s v):G7 c (ai c s v)<=G7 c s/\(still ((ai c s v).ws v)->G7 c (ai c s v)+1<=G7 c s):=by
 have g:=BD hv hW hS A.inv.m A.inv.g (A.inv.w v hv) hc;have r:=aeA (A.inv.w v hv) hc;have h:=yN (f:=λi=>rp ((ai c s v).ws i)) (g:=λi=>rp (s.ws i)) (k:=v) (d:=0) c.W hv λi hi hn=>by rw[g.2.2.2.1 i hn];exact Nat.le_refl _
 unfold Bd at r;unfold G7;refine⟨by omega,λhs=> ?_⟩
 have:=r.2 hs;omega
theorem aa6(x:Wr):(rJ x.ph=0\/rJ x.ph=6)↔still x:=by
 obtain⟨ph,ask,gr⟩:=x;unfold still rJ;cases ph<;>simp
structure RI(c:Cn)(z:Prop)(s0 s:Ms)(lim:Nat)(n r:Int)(i:Nat)(e0 e:Int):Prop where
 all:All c s
 reach:Reach c s0 s
 Cg:z->uP c s0 s
 n0:0<=n
 nP:n+yj c s<=lim
 r0:0<=r
 rP:r+G7 c s<=3*c.W
 iP:i+yj c s<=lim
 eP:e+4*yj c s<=e0+4*lim
structure RT(c:Cn)(z:Prop)(s0 s s':Ms)(lim:Nat)(n r:Int):Prop where
 all:All c s'
 reach:Reach c s0 s'
 Cg:z->uP c s0 s'
 n0: -1<=n
 nP:n+1+yj c s'<=lim
 r0:0<=r
 rP:r+G7 c s'<=3*c.W
 less:yj c s'+1<=yj c s
def oM(c:Cn):Nat:=10000*c.W*(c.S+c.W)
theorem aaT{z:Prop}(A:All c s)(hW:1<=c.W/\c.W<=4)(hS:1<=c.S/\c.S<=5):RI c z s s (oM c) 0 0 0 e e:=by
 have h:=Yj A.inv A.nd hW.1 hW.2 hS.1 hS.2;have h2:=ags c s;unfold oM;exact⟨A,.refl,λ_=>.refl,Int.le_refl _,by omega,Int.le_refl _,by omega,by omega,by omega⟩
theorem Tf{z:Prop}{v i:Nat}{n r e0:Int}(I:RI c z s0 s (oM c) n r i e0 e)(hW:1<=c.W/\c.W<=4)(hS:1<=c.S/\c.S<=5)(hv:v<c.W)(hz:z->∀j,j<v->¬aQ s j)(hc:aQ s v):
  RT c z s0 s (ai c s v) (oM c) n r/\(still ((ai c s v).ws v)->RT c z s0 s (ai c s v) (oM c) (-1) (r+1)):=by
 obtain⟨A',P⟩:=Gu hv (by omega) hS.1 I.all hc
 obtain⟨q1,q2⟩:=aaP hv (by omega) hS.1 I.all hc
 have h:=Yj A'.inv A'.nd hW.1 hW.2 hS.1 hS.2;have a:=I.n0;have b:=I.nP;have c1:=I.r0;have d:=I.rP;have z:((oM c:Nat):Int)=((10000*c.W*(c.S+c.W):Nat):Int):=rfl;refine⟨⟨A',.step I.reach hv hc,λq=>.step (I.Cg q) hv (hz q) hc,by omega,by omega,c1,by omega,P⟩,λhs=> ?_⟩
 have:=q2 hs;exact⟨A',.step I.reach hv hc,λq=>.step (I.Cg q) hv (hz q) hc,by omega,by omega,by omega,by omega,P⟩
theorem aeD{z:Prop}{i k:Nat}{n r n' r' e0 e':Int}(I:RI c z s0 s (oM c) n r i e0 e)(T:RT c z s0 s s' (oM c) n' r')(he:e'<=e+k)(hk:k<=4):RI c z s0 s' (oM c) (n'+1) r' (i+1) e0 e':=by
 have a:=I.iP;have b:=I.eP;have d:=T.less;have f:=T.n0;exact⟨T.all,T.reach,T.Cg,by omega,T.nP,T.r0,T.rP,by omega,by omega⟩
theorem aaA{who:Nat}(hW:1<=c.W)(h:∀j,j<c.W->¬aQ s ((who+j)%c.W)):Still c s:=by
 intro w hw hc;have h1:who%c.W<c.W:=Nat.mod_lt _ (by omega)
 have e:(who+(w+(c.W-who%c.W))%c.W)%c.W=w:=by
  rw[Nat.add_mod_mod]
  have:who+(w+(c.W-who%c.W))=w+c.W*(who/c.W+1):=by
   have:=Nat.div_add_mod who c.W;rw[Nat.mul_add,Nat.mul_one];omega
  rw[this,Nat.add_mul_mod_self_left,Nat.mod_eq_of_lt hw]
 exact h _ (Nat.mod_lt _ (by omega)) (by rw[e];exact hc)
def ac5(v:Nat):Value:=.agg #[.int .i64 1,.int .i64 (v:Int),.int .i64 0,.int .i64 0,.bool false,.bool false,.int .i64 0,.int .i64 0,.int .i64 0,.int .i64 0,.bool false]
def vJ(v:Nat):En:=⟨1,(v:Int),0,Ask.zero,0,false⟩
theorem aa4{v:Nat}(hv:v<c.W)(hc:aQ s v):dX c s (vJ v)=(true,ai c s v):=by
 unfold dX
 have k0:¬(vJ v).kind=0:=by
  show¬(1:Int)=0;decide
 rw[if_neg k0,if_pos (show(vJ v).kind=1 from rfl)]
 exact if_pos ⟨⟨Int.natCast_nonneg v,Int.ofNat_lt.2 hv⟩,hc⟩
theorem aa3{v:Nat}(hc:¬aQ s v):dX c s (vJ v)=(false,s):=by
 unfold dX
 have k0:¬(vJ v).kind=0:=by
  show¬(1:Int)=0;decide
 rw[if_neg k0,if_pos (show(vJ v).kind=1 from rfl)]
 exact if_neg λq=>hc q.2
theorem DU{v:Nat}(hv:v<c.W):wY c (vJ v):=⟨⟨by show(0:Int)<=1;decide,by show(1:Int)<=5;decide⟩,⟨by show(-1:Int)<=(v:Int);omega,by show(v:Int)<=c.W;omega⟩,Int.le_refl _⟩
theorem Live.aa2(H:∀v,v<c.W->fZ c.W v)(h:Live c s e D b w)(he:e<=1000000000){v:Nat}(hv:v<c.W)(hc:aQ s v):Calls Tryz.prog jV #[.pointer (some ⟨b,0,none⟩),ac5 v] w λr w'=>r=.returned (.bool true)/\Kept D w w'/\Live c (ai c s v) (e+1) D b w':=by
 refine(Live.MC H h he (vJ v) (DU hv)).mono λr w' hh=> ?_
 rw[aa4 hv hc]at hh;exact hh
theorem Live.Ku(H:∀v,v<c.W->fZ c.W v)(h:Live c s e D b w)(he:e<=1000000000){v:Nat}(hv:v<c.W)(hc:¬aQ s v):Calls Tryz.prog jV #[.pointer (some ⟨b,0,none⟩),ac5 v] w λr w'=>r=.returned (.bool false)/\Kept D w w'/\Live c s (e+1) D b w':=by
 refine(Live.MC H h he (vJ v) (DU hv)).mono λr w' hh=> ?_
 rw[aa3 hc]at hh;exact hh
theorem Live.st(h:Live c s e D b w){v:Nat}(hv:v<c.W):Calls Tryz.prog 23 #[.pointer (some ⟨b,0,none⟩),.int .i64 (v:Int)] w λr w'=>r=.returned (.int .i64 (rJ (s.ws v).ph))/\Kept D w w'/\Live c s e D b w':=by
 refine(Live.state h hv).mono λr w' hh=>⟨hh.1,(Kept.of_below hh.2.1).mono λj hj=>h.lt j hj,hh.2.2.mono (λj hj=>.inl hj) h.kt⟩
structure oP(D:Nat->Prop)(w:World)(A:Option Addr)(n:Nat):Prop where
 at_:∀k,k<n->∃(g off:Nat) (a:Int),A=some ⟨g,off,none⟩/\D g/\U8 a/\w.cell? ⟨g,off+k,none⟩=some (.int .u8 a)
theorem Kept.cell{X:Nat->Prop}(h:Kept X w w'){g:Nat}(hg:X g)(o:Nat):w'.cell? ⟨g,o,none⟩=w.cell? ⟨g,o,none⟩:=World.cell?_of_block (h.block g hg)
theorem oP.kept{A:Option Addr}{n:Nat}(h:oP D w A n)(hk:Kept D w w'):oP D w' A n:=⟨λk hkn=>by
 obtain⟨g,off,a,h1,h2,h3,h4⟩:=h.at_ k hkn;exact⟨g,off,a,h1,h2,h3,(Kept.cell hk h2 _).trans h4⟩⟩
theorem oP.mono{D':Nat->Prop}{A:Option Addr}{n:Nat}(h:oP D w A n)(hD:∀j,D j->D' j):oP D' w A n:=⟨λk hkn=>by
 obtain⟨g,off,a,h1,h2,h3,h4⟩:=h.at_ k hkn;exact⟨g,off,a,h1,hD g h2,h3,h4⟩⟩
end
noncomputable section
open Go.RowKit Go.bn Go.Sx Yq
attribute [local go_sem ↓] Go.wp_at_zero Go.wp_at_succ
theorem three(p:Int):p=0\/p=6\/(p≠0/\p≠6):=by omega
theorem ek(e:Int)(k:Nat):e+((k+1:Nat):Int)=e+k+1:=by omega
theorem ajg{c:Cn}(hW:1<=c.W/\c.W<=4)(hS:1<=c.S/\c.S<=5):wrap64 (10000*(c.W:Int))=10000*(c.W:Int)/\wrap64 ((c.S:Int)+(c.W:Int))=(c.S:Int)+(c.W:Int)/\wrap64 (10000*(c.W:Int)*((c.S:Int)+(c.W:Int)))=((oM c:Nat):Int)/\oM c<=360000/\wrap64 (3*(c.W:Int))=3*(c.W:Int):=by
 have e:((oM c:Nat):Int)=10000*(c.W:Int)*((c.S:Int)+(c.W:Int)):=by unfold oM;rw[Int.natCast_mul,Int.natCast_mul,Int.natCast_add];rfl
 have l:oM c<=360000:=by
  unfold oM;have:=Nat.mul_le_mul (Nat.mul_le_mul_left 10000 hW.2) (Nat.add_le_add hS.2 hW.2);omega
 refine⟨IntWalk.wrap64_in _ (by omega),IntWalk.wrap64_in _ (by omega),?_,l,IntWalk.wrap64_in _ (by omega)⟩
 rw[<-e];exact IntWalk.wrap64_in _ (by omega)
set_option maxHeartbeats 4000000 in
theorem EB{c:Cn}{s:Ms}{e:Int}{D:Nat->Prop}{b:Nat}(H:∀v,v<c.W->fZ c.W v)(uF:c.W<=4)(hS5:c.S<=5){A:Option Addr}{n cap:Nat}(hn:n<=20)(w:World)(hA:All c s)(hL:Live c s e D b w)(he:e<=900000000)(hO:oP D w A n):
  Calls Tryz.prog 19 #[.pointer (some ⟨b,0,none⟩),.agg (dI c).toArray,.slice A n cap] w λr w'=>r=.returned (.bool true)/\Kept D w w'/\∃s' e',All c s'/\Still c s'/\Reach c s s'/\(n=0->uP c s s')/\Live c s' e' D b w'/\e'<=e+2000000:=by
 have hW:1<=c.W/\c.W<=4:=⟨hL.good.W.1,uF⟩;have hS:1<=c.S/\c.S<=5:=⟨hL.good.S.1,hS5⟩;obtain⟨m1,m2,m3,m4,m5⟩:=ajg hW hS;have R0:=aaT (z:=n=0) (e:=e) hA hW hS;generalize hlim:oM c=lim at m3 m4 R0;have HL:=Lib.hid hlim;clear hlim;have l1:=Live.below hL ((Below.refl _ w).alloc (Nat.le_refl _) (.cells (dI c).toArray 30));have hO1:oP D (w.alloc (.cells (dI c).toArray 30)) A n:=hO.kept (Kept.of_below ((Below.refl _ w).alloc (Nat.le_refl _) _) |>.mono λj hj=>hL.lt j hj)
 have vD:(w.alloc (.cells (dI c).toArray 30)).heap[w.heap.size]?=some (.cells (dI c).toArray 30 (0,0)):=by
  simp[qU,Array.getElem?_push]
 have hKK:Kept D w (w.alloc (.cells (dI c).toArray 30)):=(Kept.of_below ((Below.refl _ w).alloc (Nat.le_refl _) _) |>.mono λj hj=>hL.lt j hj)
 obtain⟨D1,hD1,hd0,hd1⟩:∃D1,D1=more D w (w.alloc (.cells (dI c).toArray 30))/\D1 w.heap.size/\∀j,D j->D1 j:=⟨_,rfl,.inr ⟨Nat.le_refl _,by simp⟩,λj hj=>.inl hj⟩
 rw[<-hD1]at l1;have hO2:=hO1.mono hd1;have hkt:=hL.kt;obtain⟨W1,hW1⟩:∃W1,W1=w.alloc (.cells (dI c).toArray 30):=⟨_,rfl⟩;rw[<-hW1]at l1 vD hO2 hKK;have HK:=Lib.hid (And.intro vD (And.intro hO2 (And.intro hd1 (And.intro hKK hkt))));have HW:=Lib.hid (And.intro hD1 hW1);have l1h:=Lib.hid l1;clear hW1 hO hO1 hO2 hL vD hD1 hd1 hKK hkt l1;go_enter Tryz.func19,Tryz.ntmps19
 go_upto_region 1 with(fail)
 refine jY λZR hW1'=> ?_
 obtain rfl:ZR=W1:=by rw[HW.out.2,hW1']
 clear hW1';have z0:ZR.cell? ⟨w.heap.size,0,none⟩=some (.int .i64 (c.W:Int)):=by rw[cell_of HK.out.1];rfl
 have z1:ZR.cell? ⟨w.heap.size,1,none⟩=some (.int .i64 (c.S:Int)):=by rw[cell_of HK.out.1];rfl
 go_cut [7]from 16 to 24 (λv w'=>v=.int .i64 (lim:Int)/\w'=ZR)
 case first=>
  go_wp2
  all_goals go_meet
  exact⟨by rw[m3],rfl⟩
 case rest=>
 obtain⟨hv7,ahe⟩:=hcut;subst hv7;rw[ahe];clear ahe m1 m2 m3 z0 z1;obtain⟨WI,hWI⟩:∃WI:Int,WI=(c.W:Int):=⟨_,rfl⟩;rw[<-hWI]at m5;have Uq:=Lib.hid hWI;have WI1:1<=WI:=by omega
 have WI4:WI<=4:=by omega
 clear hWI;go_wp2
 go_loopw [8,9,10] (fun v8 v9 v10 wr=>∃(nn r:Int) (i:Nat) (s':Ms) (e':Int),v8=.int .i64 nn/\v9=.int .i64 r/\v10=.int .i64 (i:Int)/\RI c (n=0) s s' lim nn r i e e'/\Kept D1 ZR wr/\Live c s' e' D1 b wr)
  (λ_ _ v10 _=>lim+1-(intOf v10).toNat)
 case atStart=>exact⟨0,0,0,s,e,rfl,rfl,rfl,R0,Kept.refl _ _,l1h.out⟩
 case round=>
  obtain⟨nn,r,i,s',e',rfl,rfl,rfl,R,hk,hL⟩:=hrel;refine jY λWo hWo=> ?_
  subst hWo;have n1:nn<=(lim:Int):=by have:=R.nP;omega
  have n0:=R.n0;have r1:r<=3*WI:=by have:=R.rP;have:=Uq.out;omega
  have r0:=R.r0;have i1:i<=lim:=by have:=R.iP;omega
  have e2:∀k:Nat,k<=c.W->e'+k<=1000000000:=λk hk=>by have:=R.eP;omega
  have Br:Wo.heap[w.heap.size]?=some (.cells (dI c).toArray 30 (0,0)):=by rw[hk.block _ hd0];exact HK.out.1
  have c0:Wo.cell? ⟨w.heap.size,0,none⟩=some (.int .i64 WI):=by rw[cell_of Br,Uq.out];rfl
  have hO3:=HK.out.2.1.kept hk;have HO:=Lib.hid hO3;have HC:=Lib.hid Br;clear hO3 Br;go_upto_if 39 with(fail)
  go_cut [11]from 40 to 47 (λv w'=>∃wi:Int,(0<=wi/\wi<=255)/\(n=0->wi=0)/\v=.int .i64 wi/\w'=Wo)
  case first=>
   by_cases hn0:0<n
   ·obtain⟨q,hq⟩:∃q,q=i%n:=⟨_,rfl⟩
    have hql:q<n:=by rw[hq];exact Nat.mod_lt _ hn0
    have hqm:(i:Int)%(n:Int)=(q:Int):=by rw[hq];exact(Int.natCast_emod ..).symm
    obtain⟨g,off,a,rfl,hg,⟨a0,a1⟩,ha⟩:=HO.out.at_ q hql;have hqi:(q:Int)<(n:Int):=by omega
    have Hq:=Lib.hid hq;clear hq;go_wp2
    all_goals go_meet
    exact⟨a,⟨a0,a1⟩,λq=>absurd q (Nat.pos_iff_ne_zero.1 hn0),rfl,rfl⟩
   ·obtain rfl:n=0:=by omega
    go_wp2
    all_goals go_meet
    exact⟨0,by decide,λ_=>rfl,rfl,rfl⟩
  case rest=>
   obtain⟨wi,⟨wi0,wi1⟩,wiz,hv,hwc⟩:=hcut;obtain⟨who,hwho⟩:∃who:Nat,wi=(who:Int):=⟨wi.toNat,(Int.toNat_of_nonneg wi0).symm⟩;have HI:=Lib.hid hwho;have hzw:n=0->who=0:=λq=>by have:=wiz q;omega
   have HZ:=Lib.hid hzw;clear hwho wiz hzw;subst hv;rw[hwc];clear hwc;go_wp2
   go_loopw [8,9,12,13] (fun v8 v9 v12 v13 wi=>∃k:Nat,k<=c.W/\v13=.int .i64 (k:Int)/\Kept D1 Wo wi/\((v8=.int .i64 nn/\v9=.int .i64 r/\v12=.bool false/\(∀j,j<k->¬aQ s' ((who+j)%c.W))/\Live c s' (e'+k) D1 b wi)\/(v12=.bool true/\∃(n2 r2:Int) (s2:Ms),v8=.int .i64 n2/\v9=.int .i64 r2/\RT c (n=0) s s' s2 lim n2 r2/\Live c s2 (e'+k) D1 b wi)))
    (λ_ _ _ v13 _=>c.W-(intOf v13).toNat)
   case atStart=>exact⟨0,Nat.zero_le _,rfl,Kept.refl _ _,.inl ⟨rfl,rfl,rfl,λj hj=>absurd hj (Nat.not_lt_zero _),by simpa using hL⟩⟩
   case round=>
    obtain⟨k,hkW,rfl,hki,hor⟩:=hrel;have hCi:wr.heap[w.heap.size]?=some (.cells (dI c).toArray 30 (0,0)):=by rw[hki.block _ hd0];exact HC.out
    have ci:wr.cell? ⟨w.heap.size,0,none⟩=some (.int .i64 WI):=by rw[cell_of hCi,Uq.out];rfl
    have HCi:=Lib.hid hCi;clear hCi c0;rcases hor with⟨rfl,rfl,rfl,hno,hL2⟩|⟨rfl,n2,r2,s2,rfl,rfl,T,hL2⟩
    ·by_cases hlt:k<c.W
     ·obtain⟨v,hv⟩:∃v,v=(who+k)%c.W:=⟨_,rfl⟩
      have hvl:v<c.W:=by rw[hv];exact Nat.mod_lt _ (by omega)
      have hvm:(wi+(k:Int))%WI=(v:Int):=by rw[HI.out,Uq.out,hv,Int.natCast_emod,Int.natCast_add]
      have hi1:(k:Int)<WI:=by rw[Uq.out];exact Int.ofNat_lt.2 hlt
      go_upto_region 14 with(fail)
      go_cut [14]from 48 to 81 (λv' w'=>v'=.int .i64 (v:Int)/\w'=wr)
      case first=>
       go_wp2
       all_goals go_meet
       exact⟨by rw[hvm],rfl⟩
      case rest=>
      obtain⟨alg,ahf⟩:=hcut;subst alg;rw[ahf];clear ahf hvm;have HN:=Lib.hid (And.intro hno hv);clear hno hv
      have hzz:n=0->∀j,j<v->¬aQ s' j:=λq j hj=>by
       have hw0:=HZ.out q;have hv2:=HN.out.2;rw[hw0,Nat.zero_add,Nat.mod_eq_of_lt hlt]at hv2;have h3:=HN.out.1 j (by rw[<-hv2];exact hj)
       rw[hw0,Nat.zero_add,Nat.mod_eq_of_lt (Nat.lt_trans hj hvl)]at h3;exact h3
      have HZZ:=Lib.hid hzz;clear hzz;by_cases hcs:aQ s' v
      ·have P:=hL2.aa2 H (e2 k hkW) hvl hcs
       obtain⟨p,hp⟩:∃p,p=rJ ((ai c s' v).ws v).ph:=⟨_,rfl⟩;have HP:=Lib.hid hp;have SS:∀W5,Live c (ai c s' v) (e'+k+1) D1 b W5->Calls Tryz.prog 23 #[.pointer (some ⟨b,0,none⟩),.int .i64 (v:Int)] W5 λr w'=>r=.returned (.int .i64 p)/\Kept D1 W5 w'/\Live c (ai c s' v) (e'+k+1) D1 b w':=λW5 h5=>by rw[hp];exact h5.st hvl
       clear hp
       go_upto_region 17 with(first
        |(go_at_call 18;refine P.mono ?_;rintro e5 w5 ⟨rfl,k5,L5⟩;have S5:=SS _ L5)
        |(go_at_call 23;refine S5.mono ?_;rintro e6 w6 ⟨rfl,k6,L6⟩))
       go_cut [79]from 48 to 81 (λv w'=>w'=w6/\∃x:Bool,v=.bool x/\(x=true↔(p=0\/p=6)))
       case first=>
        have h3:=three p;rcases h3 with rfl|rfl|⟨p0,p6⟩
        ·go_wp2
         all_goals go_meet
         exact⟨rfl,_,rfl,by simp⟩
        ·go_wp2
         all_goals go_meet
         exact⟨rfl,_,rfl,by simp⟩
        ·go_wp2
         all_goals go_meet
         exact⟨rfl,_,rfl,by simp[p0,p6]⟩
       case rest=>
        obtain⟨hw6,x,hx,hxp⟩:=hcut;subst hx;rw[hw6];clear hw6;cases x with
        |true=>
         have hpp:=hxp.1 rfl;go_wp2
         go_roundw
         case rel=>
          have T:=(Tf (by rw[HL.out];exact R) hW hS hvl HZZ.out hcs).2 ((aa6 _).1 (by rw[<-HP.out];exact hpp))
          rw[HL.out]at T;exact⟨k+1,hlt,by go_num,(hki.trans k5).trans k6,.inr ⟨rfl,_,_,_,rfl,rfl,T,by rw[ek];exact L6⟩⟩
         case measure=>simp[intOf];omega
        |false=>
         go_wp2
         go_roundw
         case rel=>
          have T:=(Tf (by rw[HL.out];exact R) hW hS hvl HZZ.out hcs).1
          rw[HL.out]at T;exact⟨k+1,hlt,by go_num,(hki.trans k5).trans k6,.inr ⟨rfl,_,_,_,rfl,rfl,T,by rw[ek];exact L6⟩⟩
         case measure=>simp[intOf];omega
      ·have P:=hL2.Ku H (e2 k hkW) hvl hcs
       have SS:∀W5,Live c s' (e'+k+1) D1 b W5->Calls Tryz.prog 23 #[.pointer (some ⟨b,0,none⟩),.int .i64 (v:Int)] W5 λr w'=>r=.returned (.int .i64 (rJ (s'.ws v).ph))/\Kept D1 W5 w'/\Live c s' (e'+k+1) D1 b w':=λW5 h5=>h5.st hvl
       go_wp2_with (first
        |(go_at_call 18;refine P.mono ?_;rintro e5 w5 ⟨rfl,k5,L5⟩;have S5:=SS _ L5)
        |(go_at_call 23;refine S5.mono ?_;rintro e6 w6 ⟨rfl,k6,L6⟩))
       go_roundw
       case rel=>
        refine⟨k+1,hlt,by go_num,(hki.trans k5).trans k6,.inl ⟨rfl,rfl,rfl,λj hj=> ?_,by rw[ek];exact L6⟩⟩
        rcases Nat.lt_succ_iff_lt_or_eq.1 hj with q|q
        ·exact HN.out.1 j q
        ·rw[q, <-HN.out.2];exact hcs
       case measure=>simp[intOf];omega
     ·have hkk:k=c.W:=Nat.le_antisymm hkW (Nat.le_of_not_lt hlt)
      have hi1:¬((k:Int)<WI):=by rw[Uq.out,hkk];exact Int.lt_irrefl _
      have HN:=Lib.hid (And.intro hno hkk);clear hno hkk hlt;go_wp2
      refine bodyPost_ret (v:=.bool true) (by simp[results,Tryz.f19,go_sem]) rfl ?_
      refine⟨rfl,HK.out.2.2.2.1.trans ((hk.trans hki).mono HK.out.2.2.1),s',R.all,aaA (who:=who) hW.1 (λj hj=>HN.out.1 j (by rw[HN.out.2];exact hj)),R.reach,R.Cg,e'+k,hL2.mono HK.out.2.2.1 HK.out.2.2.2.2,?_⟩
      have:=R.eP;have:=hW.2;omega
    ·have t0:=T.n0
     have t1:n2<=360000:=by have:=T.nP;omega
     have RN:RI c (n=0) s s2 lim (n2+1) r2 (i+1) e (e'+k):=by
      have:=aeD (by rw[HL.out];exact R) (by rw[HL.out];exact T) (Int.le_refl (e'+k)) (by omega:k<=4)
      rw[HL.out]at this;exact this
     have RN:=Lib.hid RN;by_cases hlt:(k:Int)<WI
     ·go_wp2
      exact⟨⟨n2+1,r2,i+1,s2,e'+k,rfl,rfl,by go_num,RN.out,hk.trans hki,hL2⟩,by simp[intOf];omega⟩
     ·go_wp2
      exact⟨⟨n2+1,r2,i+1,s2,e'+k,rfl,rfl,by go_num,RN.out,hk.trans hki,hL2⟩,by simp[intOf];omega⟩
end
noncomputable section
open Go.RowKit Go.bn Go.Sx Yq
attribute [local go_sem ↓] Go.wp_at_zero Go.wp_at_succ
theorem UM{c:Cn}(hW:1<=c.W/\c.W<=4)(hS:1<=c.S/\c.S<=5){i:Int}(hi:0<=i/\i<c.S)(w:World):Calls Tryz.prog 25 #[.agg (dI c).toArray,.int .i64 i] w λr w'=>r=.returned (.int .i64 (3+(c.W:Int)+(c.W:Int)+i))/\Below w.heap.size w w':=by
 obtain⟨i0,i1⟩:=hi;obtain⟨W1,W4⟩:=hW;obtain⟨S1,S5⟩:=hS;go_enter Tryz.func25,Tryz.ntmps25
 go_wp2
 go_ret
 exact⟨rfl,(Below.refl _ _).alloc (Nat.le_refl _) _⟩
theorem Sr{c:Cn}(hW:1<=c.W/\c.W<=4)(hS:1<=c.S/\c.S<=5)(w:World):Calls Tryz.prog 28 #[.agg (dI c).toArray] w λr w'=>r=.returned (.int .i64 (nC c:Int))/\Below w.heap.size w w':=by
 have hs:=λW=>UM hW hS (i:=(c.S:Int)-1) ⟨by omega,by omega⟩ W
 obtain⟨W1,W4⟩:=hW;obtain⟨S1,S5⟩:=hS;go_enter Tryz.func28,Tryz.ntmps28
 go_wp2_with (go_at_call 25;refine(hs _).mono ?_;rintro e w1 ⟨rfl,hb1⟩)
 go_ret
 refine⟨?_,((Below.refl _ w).alloc (Nat.le_refl _) _).trans (hb1.mono (by simp))⟩
 have e:3+(c.W:Int)+(c.W:Int)+((c.S:Int)-1)+1=(nC c:Int):=by unfold nC;omega
 rw[<-e];rfl
structure aid(n n':Nat)(r:Ending):Prop where
 is:∃x:Bool,r=.returned (.bool x)/\(x=true->n<=200/\n'<=20)
theorem afz{A A':Option Addr}{n n' cap cap':Nat}(w:World):Calls Tryz.prog 8 #[.slice A n cap,.slice A' n' cap'] w λr w'=>aid n n' r/\Below w.heap.size w w':=by
 go_enter Tryz.func8,Tryz.ntmps8
 by_cases h1:(n:Int)<=200
 ·by_cases h2:(n':Int)<=20
  ·go_wp2
   go_ret
   exact⟨⟨_,rfl,λ_=>⟨by omega,by omega⟩⟩,Below.refl _ _⟩
  ·go_wp2
   refine bodyPost_ret (v:=.bool false) (by simp[results,Tryz.f8,go_sem]) rfl ?_
   exact⟨⟨false,rfl,λh=>absurd h (by decide)⟩,Below.refl _ _⟩
 ·go_wp2
  refine bodyPost_ret (v:=.bool false) (by simp[results,Tryz.f8,go_sem]) rfl ?_
  exact⟨⟨false,rfl,λh=>absurd h (by decide)⟩,Below.refl _ _⟩
theorem Live.wds{c:Cn}{s:Ms}{e:Int}{D:Nat->Prop}{b:Nat}{w:World}(h:Live c s e D b w):Calls Tryz.prog 11 #[.pointer (some ⟨b,0,none⟩)] w λr w'=>∃g cap,r=.returned (.slice (some ⟨g,0,none⟩) (nC c) cap)/\w.heap.size<=g/\g<w'.heap.size/\(∀k x,(aC c s.m)[k]?=some x->w'.cell? ⟨g,k,none⟩=some (.int .i64 x))/\Below w.heap.size w w'/\Live c s e D b w':=by
 refine(Live.words h).mono λr w' hh=> ?_
 obtain⟨v',rfl,⟨hl,ho⟩,hb,hl'⟩:=hh;have hL':Live c s e D b w':=hl'.mono (λj hj=>.inl hj) h.kt
 rcases ho with ho|⟨g,cap,cur,rfl,hB,hg,hn,hcap,hsz,ht⟩
 ·have:=ho.2
  unfold nC at this;omega
 ·refine⟨g,cap,rfl,hB,(Array.getElem?_eq_some_iff.1 hg).1,fun k x hx=> ?_,hb,hL'⟩
  have hk:k<((aC c s.m).map (Value.int .i64 ·)).length:=by rw[List.length_map];exact(List.getElem?_eq_some_iff.1 hx).1
  have e1:((aC c s.m).map (Value.int .i64 ·))[k]?=some (.int .i64 x):=by rw[List.getElem?_map,hx];rfl
  rw[<-ht,List.getElem?_take_of_lt (by omega)]at e1
  rw[cell_of hg];simpa using e1
theorem Live.touch{c:Cn}{s:Ms}{e:Int}{D D':Nat->Prop}{b:Nat}{w w':World}(h:Live c s e D b w)(hD:∀j,D' j->D j)(hkt:∀k,KT k->D' k)(hk:Kept (λj=>D' j\/¬D j) w w'):Live c s e D' b w':=by
 obtain⟨A,F,M,hF⟩:=h.oL;refine⟨h.good,lg _ _ _ (λk hk=>.inl (hkt k hk)) h.tt hk,λj hj=>Nat.lt_of_lt_of_le (h.lt j (hD j hj)) hk.size,hkt,A,F,M.st hk.size λj hj=>hk.block j (.inr λq=>hF j q hj),λj hj hf=>hF j (hD j hj) hf⟩
def Lr(c:Cn)(D:Nat->Prop)(b:Nat)(w:World):Prop:=∃s e,All c s/\Wg c 400000 s/\Still c s/\Live c s e D b w/\e<=3000000
theorem oP.of_below{D:Nat->Prop}{w w':World}{A:Option Addr}{n k:Nat}(h:oP D w A n)(hD:∀j,D j->j<k)(hb:Below k w w'):oP D w' A n:=h.kept ((Kept.of_below hb).mono hD)
set_option maxHeartbeats 4000000 in
theorem aaV{a1 a2 a3 a4 a5:Int}(h1:U8 a1)(h2:U8 a2)(h3:U8 a3)(h4:U8 a4)(h5:U8 a5){c:Cn}(hc:c=Jy a1 a2 a3 a4 a5)(H:∀v,v<c.W->fZ c.W v){A A':Option Addr}{n cap n' cap':Nat}(hn:n<=200)(hn':n'<=20)(w:World)(hT:TT w)(hA:Dq w A n)(hO:oP (· <w.heap.size) w A' n'):
  Calls Tryz.prog 9 #[.agg #[.int .u8 a1,.int .u8 a2,.int .u8 a3,.int .u8 a4,.int .u8 a5],.slice A n cap,.slice A' n' cap'] w λr w'=>∃b,r=.returned (.tuple #[.pointer (some ⟨b,0,none⟩),.agg (dI c).toArray])/\Below w.heap.size w w'/\Lr c (· <w.heap.size) b w':=by
 obtain⟨hR,uF,hS5⟩:=Df h1 h2 h3 h4 h5;rw[<-hc]at hR uF hS5
 have tu:∀W,Below w.heap.size w W->Dq W A n:=λW hb=>⟨λk hk=>by
  obtain⟨g,off,u0,u1,u2,u3,u4,u5,e,hg,hu,t0,t1,t2,t3,t4,t5⟩:=hA.at_ k hk;exact⟨g,off,u0,u1,u2,u3,u4,u5,e,Nat.lt_of_lt_of_le hg hb.size,hu,(hb.cell (p:=⟨g,_,none⟩) hg).trans t0,(hb.cell (p:=⟨g,_,none⟩) hg).trans t1,(hb.cell (p:=⟨g,_,none⟩) hg).trans t2,(hb.cell (p:=⟨g,_,none⟩) hg).trans t3,(hb.cell (p:=⟨g,_,none⟩) hg).trans t4,(hb.cell (p:=⟨g,_,none⟩) hg).trans t5⟩⟩
 have l2:=hT.lt 2 (.inr rfl);have hB0:∀o o',Below w.heap.size w ((w.alloc o).alloc o'):=λo o'=>((Below.refl _ w).alloc (Nat.le_refl _) o).alloc (by simp) o'
 have hT1:∀o o',TT ((w.alloc o).alloc o'):=λo o'=>nG hT (hB0 o o') l2
 have hm:=λo o'=>abk h1 h2 h3 h4 h5 hc H (A:=A) (n:=n) (cap:=cap) hn ((w.alloc o).alloc o') (hT1 o o') (tu _ (hB0 o o'))
 have HA:=Lib.hid (And.intro hA (And.intro hO hT));have HC:=Lib.hid hc;have HB:=Lib.hid hB0;clear hA hc tu hO hT1 hB0;go_enter Tryz.func9,Tryz.ntmps9
 go_upto_region 4 with(go_at_call 27;refine(hm _ _).mono ?_;rintro r w1 ⟨b,rfl,hb1,hl1⟩)
 have hsz:=hb1.size;simp at hsz;obtain⟨s,e,⟨Qc,hWh⟩,hL,he⟩:=hl1;have he2:e<=900000000:=by omega
 have l3:=Live.below hL ((Below.refl _ w1).alloc (Nat.le_refl _) (.cells (dI c).toArray 30));have hB1:Below w.heap.size w (w1.alloc (.cells (dI c).toArray 30)):=((HB.out _ _).trans (hb1.mono (by simp;omega))).trans ((Below.refl _ w1).alloc (by omega) _)
 have vD:(w1.alloc (.cells (dI c).toArray 30)).heap[w1.heap.size]?=some (.cells (dI c).toArray 30 (0,0)):=by simp[qU,Array.getElem?_push]
 have mM:(w1.alloc (.cells (dI c).toArray 30)).heap[w.heap.size+1]?=some (.cells #[.int .i64 0,.int .i64 0,.int .i64 0,.int .i64 0,.int .i64 0] 30 (0,0)):=by
  rw[Below.heap_alloc _ _ _ (by omega),hb1.block (w.heap.size+1) (by simp)]
  exact adm w _ _
 obtain⟨D2,hD2,hd0,hd1⟩:∃D2:Nat->Prop,D2=more (· <((w.alloc (.cells #[.int .u8 a1,.int .u8 a2,.int .u8 a3,.int .u8 a4,.int .u8 a5] 23)).alloc (.cells #[.int .i64 0,.int .i64 0,.int .i64 0,.int .i64 0,.int .i64 0] 30)).heap.size) w1 (w1.alloc (.cells (dI c).toArray 30))/\D2 w1.heap.size/\∀j,j<w.heap.size+2->D2 j:=⟨_,rfl,.inr ⟨Nat.le_refl _,by simp⟩,λj hj=>.inl (by simp;omega)⟩
 rw[<-hD2]at l3;refine jY λW2 hW2=> ?_
 obtain⟨W2',abU⟩:∃W2',W2'=w1.alloc (.cells (dI c).toArray 30):=⟨_,rfl⟩;obtain rfl:W2=W2':=by rw[abU,hW2]
 rw[<-abU]at l3 hB1 vD mM;have hO2:oP D2 W2 A' n':=(HA.out.2.1.of_below (λj hj=>hj) hB1).mono λj hj=>hd1 j (by omega)
 have hset:=EB H uF hS5 (cap:=cap') hn' W2 Qc l3 he2 hO2;have c0:W2.cell? ⟨w1.heap.size,0,none⟩=some (.int .i64 (c.W:Int)):=by rw[cell_of vD];rfl
 have c1:W2.cell? ⟨w1.heap.size,1,none⟩=some (.int .i64 (c.S:Int)):=by rw[cell_of vD];rfl
 have c2:W2.cell? ⟨w1.heap.size,2,none⟩=some (.int .i64 c.st):=by rw[cell_of vD];rfl
 have c3:W2.cell? ⟨w1.heap.size,3,none⟩=some (.int .i64 (c.wt:Int)):=by rw[cell_of vD];rfl
 have c4:W2.cell? ⟨w1.heap.size,4,none⟩=some (.int .i64 c.u):=by rw[cell_of vD];rfl
 have HH:=Lib.hid (And.intro hB1 (And.intro vD (And.intro mM hd1)));clear hB1 vD mM hd1 hW2 abU hD2 hO2 l3 hL hm hb1;go_upto_region 5 with(go_at_call 19;refine hset.mono ?_;rintro r w3 ⟨rfl,k3,s',e',hA',hSt,hRe,_,hL',he'⟩)
 have wM:w3.heap[w1.heap.size]?=some (.cells (dI c).toArray 30 (0,0)):=by rw[k3.block _ hd0];exact HH.out.2.1
 have lt1:w1.heap.size<w3.heap.size:=gQ wM
 have qc:∀W:World,Below w3.heap.size w3 W->W.cell? ⟨w1.heap.size,0,none⟩=some (.int .i64 (c.W:Int))/\W.cell? ⟨w1.heap.size,1,none⟩=some (.int .i64 (c.S:Int))/\W.cell? ⟨w1.heap.size,2,none⟩=some (.int .i64 c.st)/\W.cell? ⟨w1.heap.size,3,none⟩=some (.int .i64 (c.wt:Int))/\W.cell? ⟨w1.heap.size,4,none⟩=some (.int .i64 c.u)/\Below w3.heap.size w3 W:=λW hW=>by
  have e:∀i,i<5->W.cell? ⟨w1.heap.size,i,none⟩=(dI c)[i]?:=λi hi=>by
   rw[hW.cell (p:=⟨w1.heap.size,i,none⟩) lt1,cell_of wM];simp
  exact⟨e 0 (by omega),e 1 (by omega),e 2 (by omega),e 3 (by omega),e 4 (by omega),hW⟩
 have hWd:∀W:World,Below w3.heap.size w3 W->Calls Tryz.prog 11 #[.pointer (some ⟨b,0,none⟩)] W λr w'=>(∃g cap,r=.returned (.slice (some ⟨g,0,none⟩) (nC c) cap))/\Below w3.heap.size w3 w':=λW hW=>by
  have hL4:Live c s' e' D2 b W:=(Live.below hL' hW).mono (λj hj=>.inl hj) hL'.kt
  refine hL4.wds.mono λr w' hh=> ?_
  obtain⟨g,cap,rfl,_,_,_,hb,_⟩:=hh;exact⟨⟨g,cap,rfl⟩,hW.trans (hb.mono hW.size)⟩
 have hWc:1<=c.W/\c.W<=4:=⟨hL'.good.W.1,uF⟩;have hSc:1<=c.S/\c.S<=5:=⟨hL'.good.S.1,hS5⟩;have hCl:∀W:World,Below w3.heap.size w3 W->Calls Tryz.prog 28 #[.agg (dI c).toArray] W λr w'=>r=.returned (.int .i64 (nC c:Int))/\Below w3.heap.size w3 w':=λW hW=>(Sr hWc hSc W).mono λr w' hh=>⟨hh.1,hW.trans (hh.2.mono hW.size)⟩
 have HC3:=Lib.hid wM;clear c0 c1 c2 c3 c4 wM
 go_region_held3 (fun W=>W.cell? ⟨w1.heap.size,0,none⟩=some (.int .i64 (c.W:Int))/\W.cell? ⟨w1.heap.size,1,none⟩=some (.int .i64 (c.S:Int))/\W.cell? ⟨w1.heap.size,2,none⟩=some (.int .i64 c.st)/\W.cell? ⟨w1.heap.size,3,none⟩=some (.int .i64 (c.wt:Int))/\W.cell? ⟨w1.heap.size,4,none⟩=some (.int .i64 c.u)/\Below w3.heap.size w3 W)
  (first|exact qc _ (Below.refl _ _).drew|exact qc _ (Below.refl _ _)|exact qc _ Ip|exact qc _ YW)
  (first
   |(go_at_call 11;refine(hWd _ (by first|exact(Below.refl _ _).drew|exact Ip)).mono ?_;rintro r w5 ⟨⟨g5,cap5,rfl⟩,YW⟩)
   |(go_at_call 28;refine(hCl _ (by first|exact(Below.refl _ _).drew|exact YW)).mono ?_;rintro r w6 ⟨rfl,Ip⟩))
 obtain⟨c0,c1,c2,c3,c4,_⟩:=qc _ Ip;have ltR:w.heap.size+1<w3.heap.size:=by have:=k3.size;have:=gQ HH.out.2.2.1;omega
 have hRr:w6.heap[w.heap.size+1]?=some (.cells #[.int .i64 0,.int .i64 0,.int .i64 0,.int .i64 0,.int .i64 0] 30 (0,0)):=by
  rw[Ip.block _ ltR,k3.block _ (HH.out.2.2.2 _ (by omega))];exact HH.out.2.2.1
 have r0:w6.cell? ⟨w.heap.size+1,0,none⟩=some (.int .i64 0):=by rw[cell_of hRr];rfl
 have r1:w6.cell? ⟨w.heap.size+1,1,none⟩=some (.int .i64 0):=by rw[cell_of hRr];rfl
 have r2:w6.cell? ⟨w.heap.size+1,2,none⟩=some (.int .i64 0):=by rw[cell_of hRr];rfl
 have r3:w6.cell? ⟨w.heap.size+1,3,none⟩=some (.int .i64 0):=by rw[cell_of hRr];rfl
 have r4:w6.cell? ⟨w.heap.size+1,4,none⟩=some (.int .i64 0):=by rw[cell_of hRr];rfl
 have f0:=aW hRr 0;have f1:=aW hRr 1;have f2:=aW hRr 2;have f3:=aW hRr 3;have f4:=aW hRr 4;go_wp2
 go_region
 all_goals go_wp2
 have hS:=heap_put (heap_put (heap_put (heap_put (heap_put hRr 0 (.int .i64 (c.W:Int))) 1 (.int .i64 (c.S:Int))) 2 (.int .i64 c.st)) 3 (.int .i64 (c.wt:Int))) 4 (.int .i64 c.u);have hKb:∀X:Nat->Prop,¬X (w.heap.size+1)->Kept X w6 (((((w6.setCell ⟨w.heap.size+1,0,none⟩ (.int .i64 (c.W:Int))).setCell ⟨w.heap.size+1,1,none⟩ (.int .i64 (c.S:Int))).setCell ⟨w.heap.size+1,2,none⟩ (.int .i64 c.st)).setCell ⟨w.heap.size+1,3,none⟩ (.int .i64 (c.wt:Int))).setCell ⟨w.heap.size+1,4,none⟩ (.int .i64 c.u)).drew:=λX hX=>(((((Kept.refl X w6).setCell (p:=⟨_,0,none⟩) hX _).setCell (p:=⟨_,1,none⟩) hX _).setCell (p:=⟨_,2,none⟩) hX _).setCell (p:=⟨_,3,none⟩) hX _).setCell (p:=⟨_,4,none⟩) hX _ |>.drew
 revert hS hKb
 generalize World.setCell _ ⟨w.heap.size+1,4,none⟩ _=W4;intro hS hKb;have q0:=cell_of hS 0;have q1:=cell_of hS 1;have q2:=cell_of hS 2;have q3:=cell_of hS 3;have q4:=cell_of hS 4;simp at q0 q1 q2 q3 q4;refine bodyPost_ret (v:=.tuple #[.pointer (some ⟨b,0,none⟩),.agg (dI c).toArray]) ?_ rfl ?_
 ·simp[results,Tryz.f9,go_sem,q0,q1,q2,q3,q4,dI]
 ·have hD:∀j,j<w.heap.size->D2 j:=fun j hj=>HH.out.2.2.2 j (by omega)
  have hDR:D2 (w.heap.size+1):=HH.out.2.2.2 _ (by omega)
  have hL6:Live c s' e' D2 b w6:=(Live.below hL' Ip).mono (λj hj=>.inl hj) hL'.kt
  refine⟨b,rfl,(HH.out.1.trans ((k3.mono hD).below.trans (Ip.mono (by omega)))).trans (hKb (· <w.heap.size) (by omega)).below,s',e',hA',an3 (amv hWh hWc hSc (by omega) hRe) (by omega),hSt,hL6.touch hD (λk hk=>HA.out.2.2.lt k hk) (hKb _ λq=> ?_),by omega⟩
  rcases q with q|q
  ·omega
  ·exact q hDR
end
section
instance alB (kd:Nat) (ow:Int) (s:aa):Decidable (fits kd ow s):=by
 unfold fits jg j6 VF;split<;>infer_instance
instance alI (S:Nat) (f:Fd):Decidable (f.all S):=by unfold Fd.all;infer_instance
instance ajP (a b:Int):Decidable (oC a b):=by unfold oC;infer_instance
instance alH (s:Ms) (w:Nat):Decidable (aQ s w):=by
 unfold aQ;split<;>infer_instance
def Fd.kT(S:Nat)(m:Mm)(f:Fd):Fd:=
 if f.fd.isSome\/S<=f.at_ then f else if fits f.kd f.ow (m.sl f.at_)then{f with fd:=some (m.sl f.at_)}else{f with at_:=f.at_+1}
def Tk.kT(w S:Nat)(m:Mm)(good:Bool)(t:Tk):Tk×Mm:=
 match t.st with
 | .closed=>if m.cl≠0 then(t.fin 5,m)else(t.search .own 0 w,m)
 | .own=>let f:=t.look.kT S m;let t:={t with look:=f}
  if f.fd.isSome then({t with st:=.gp},m)else if f.all S then(t.search .any 1 w,m)else(t,m)
 | .gp=>match t.swap w m t.look.at_ t.look.wd 3 with
  |some (t,m)=>({t with st:=.check},m)
  |none=>({t with look:=t.look.again,st:=.own},m)
 | .any=>let f:=t.look.kT S m;let t:={t with look:=f}
  if f.fd.isSome then({t with st:=.anyS},m)else if f.all S then(t.search .free 2 w,m)else(t,m)
 | .anyS=>match t.swap w m t.look.at_ t.look.wd 3 with
  |some (t',m)=>if t.look.wd.own=w then({t' with st:=.check},m)else({t' with ps:=false}.search .move 0 t.look.wd.own,m)
  |none=>({t with look:=t.look.again,st:=.any},m)
 | .move=>let f:=t.look.kT S m;let t:={t with look:=f}
  if f.fd.isSome then(if t.ps then({t with ps:=false,look:=f.go},m)else({t with ps:=true,st:=.dD},m))else if f.all S then({t with st:=.check},m)else(t,m)
 | .dD=>
  let t':={t with look:=t.look.go,st:=.move}
  match az t.look.wd 9 w 0 with
  |some n=>if m.sl t.look.at_=t.look.wd then(t',m.set t.look.at_ n)else(t',m)
  |none=>(t',m)
 | .free=>let f:=t.look.kT S m;let t:={t with look:=f}
  if f.fd.isSome then({t with st:=.dQ},m)else if f.all S then(t.fin 3,m)else(t,m)
 | .dQ=>match t.swap w m t.look.at_ t.look.wd 0 with
  |some (t,m)=>({t with st:=.bM},m)
  |none=>({t with look:=t.look.again,st:=.free},m)
 | .bM=>match t.swap w m t.i t.wd (if good then 1 else 2)with
  |some (t,m)=>if good then({t with st:=.check},m)else(t.fin 6,m)
  |none=>(t.fin 6,m)
 | .check=>if m.cl=0 then(t.fin 0,m)else({t with st:=.back},m)
 | .back=>if(m.sl t.i).st=3/\(m.sl t.i).own=w/\(m.sl t.i).gen=t.gen then({t with rt:=Rt.new t.i (m.sl t.i),st:=.go},m)else(t.fin 5,m)
 | .go=>let r:=t.rt.step m;let t:={t with rt:=r.1}
  if r.1.st=.done then(if r.1.sw then(t.fin 5,r.2)else({t with st:=.back},r.2))else(t,r.2)
 | .grant=>({t with wd:=m.sl t.i,st:=.eG},m)
 | .eG=>match az t.wd 16 w 0 with
  |none=>(t.fin 5,m)
  |some n=>if m.sl t.i=t.wd then({t with wd:=n,gen:=n.gen,st:=if n.st=3 then .check else .bM},m.set t.i n)else({t with st:=.grant},m)
 | .done=>(t,m)
def Td.G5(S:Nat)(m:Mm)(t:Td):Td:=
 let f:=t.look.kT S m
 match f.fd with
 | .some x=>{t with look:=f,i:=f.at_,wd:=x}
 | .none=>{t with look:=f}
def Td.kT(c:Cn)(w:Nat)(m:Mm)(t:Td):Td×Mm:=
 match t.st with
 | .ep=>({t with ep:=m.ep,st:=.pin},m)
 | .pin=>({t with st:=.cl},m.pin w (aR (t.ep+1)))
 | .cl=>({t with cl:=m.cl,look:=Fd.new 4 m.cl,st:=.dL},m)
 | .dL=>let t:=t.G5 c.S m
  if t.look.fd.isSome then({t with rt:=Rt.new t.i t.wd,st:=.go},m)else if t.look.all c.S then({t with look:=Fd.new 5 w,st:=.old},m)else(t,m)
 | .go=>let r:=t.rt.step m;let t:={t with rt:=r.1}
  if r.1.st=.done then({t with look:=t.look.again,st:=.dL},r.2)else(t,r.2)
 | .old=>let t:=t.G5 c.S m
  if t.look.fd.isSome then(let o:=jq w 0;({t with other:=o,st:=if o<c.W then .pins else .clear},m))else if t.look.all c.S then({t with st:=if t.cl≠0 then .eO else .line},m)else(t,m)
 | .pins=>if oC (m.pn t.other) t.wd.ep then({t with look:=t.look.go,st:=.old},m)else
   let o:=jq w (t.other+1)
   ({t with other:=o,st:=if o<c.W then .pins else .clear},m)
 | .clear=>({t with look:=t.look.go,st:=.old},(t.swap m 12 w).getD m)
 | .line=>match m.qu with
  |[]=>({t with qu:=[],st:=.eO},m)
  |a::r=>({t with qu:=a::r,head:=a,look:=Fd.new 3 w,st:=.some},m)
 | .some=>let t:=t.G5 c.S m
  if t.look.fd.isSome then({t with st:=.keep},m)else if t.look.all c.S then({t with st:=.eO},m)else(t,m)
 | .keep=>match t.swap m (if t.wd.st=2 then 5 else 7) t.head with
  | .some m=>({t with st:=.pop},m)
  | .none=>({t with look:=t.look.again,st:=.some},m)
 | .pop=>if m.qu=t.qu then({t with st:=.grant},{m with qu:=m.qu.tail})else({t with st:=.back},m)
 | .grant=>({t with st:=.line},m.nT t.head (t.i+1))
 | .back=>let t:={t with wd:=m.sl t.i}
  ({t with st:=if t.wd.st=4\/t.wd.st=5 then .dR else .line},m)
 | .dR=>match t.swap m (if t.wd.st=4 then 6 else 8) w with
  | .some m=>({t with st:=.cl},m)
  | .none=>({t with st:=.back},m)
 | .eO=>({t with st:=.again},m.pin w 0)
 | .again=>({t with st:=if m.ep=t.ep then .done else .ep},m)
 | .done=>(t,m)
def BB(c:Cn)(w:Nat)(s:Ms)(x:Wr):Wk->Ms
 | .get t=>
  let d:=t.st=.bM
  let n:=s.next
  let s:=if d then{s with wo:=n.2}else s
  let r:=t.kT w c.S s.m (decide d&&n.1)
  let s:=s.mem r.2
  if r.1.st=.done then
   (if r.1.e=3 then(if x.ask.wait then s.put w (x.to (.enters Qu.enter))else s.put w (x.to (.counts Tw.new)))
    else if r.1.e=0 then s.put w (x.end_ ⟨0,r.1.i,r.1.gen,0,0,0,0,0⟩)else s.put w (x.end_ (.err r.1.e)))
  else s.put w (x.to (.work (.get r.1)))
 | .give g=>
  let r:=g.step c w s.m
  let s:=s.mem r.2
  if r.1.st=.done then s.put w (x.end_ (.err r.1.e))else s.put w (x.to (.work (.give r.1)))
 | .bg g=>
  let r:=g.step c w s.m
  let s:=s.mem r.2
  if r.1.st=.done then s.put w (x.end_ ⟨r.1.e,0,0,if r.1.e=0 then r.1.num else 0,0,0,0,0⟩)else s.put w (x.to (.work (.bg r.1)))
 | .close none=>
  let m:=if x.ask.force then{s.m with cl:=2}else if s.m.cl=0 then{s.m with cl:=1}else s.m
  (s.mem m).put w (x.to (.work (.close (some Qu.drain))))
 | .close (some q)=>
  let r:=q.step c w s.m
  let s:=s.mem r.2
  if r.1.st=.done then s.put w (x.end_ (.err 0))else s.put w (x.to (.work (.close (some r.1))))
 | .stats t=>
  let t:=t.step c.S s.m
  if t.dn then s.put w (x.end_ ⟨0,0,0,0,Eh (t.last.getD [])⟩)else s.put w (x.to (.work (.stats t)))
 | .aS r=>
  match r.st with
  | .look=>
   let f:=r.look.kT c.S s.m
   if f.fd.isSome then s.put w (x.to (.work (.aS {r with look:=f,st:=.ask})))else if f.all c.S then s.put w (x.end_ ⟨0,r.many,0,0,0,0,0,0⟩)else s.put w (x.to (.work (.aS {r with look:=f})))
  | .ask=>
   let n:=s.next
   let s:={s with wo:=n.2}
   if n.1=true/\r.look.wd.fO=false/\r.look.wd.brk=false then s.put w (x.to (.work (.aS {r with st:=.mark})))else s.put w (x.to (.work (.aS {r with rt:=Rt.new r.look.at_ r.look.wd,st:=.dB})))
  | .mark=>
   let x':=x.to (.work (.aS {r with look:=r.look.go,st:=.look}))
   match az r.look.wd 10 w 0 with
   |some n=>if s.m.sl r.look.at_=r.look.wd then(s.mem (s.m.set r.look.at_ n)).put w x' else s.put w x'
   |none=>s.put w x'
  | .dB=>
   let q:=r.rt.step s.m
   let s:=s.mem q.2
   if q.1.st=.done then s.put w (x.to (.work (.aS {r with rt:=q.1,many:=if q.1.sw then aR (r.many+1)else r.many,look:=r.look.go,st:=.look})))else s.put w (x.to (.work (.aS {r with rt:=q.1})))
def Gy(c:Cn)(s:Ms)(w:Nat):Ms:=
 let x:=s.ws w
 match x.ph with
 | .rest=>s
 | .pin none=>s.put w (x.to (.pin (some s.m.ep)))
 | .pin (some e)=>(s.mem (s.m.pin w (aR (e+1)))).put w (x.to (.work (bE x)))
 | .work k=>BB c w s x k
 | .counts t=>
  let t:=t.step c.S s.m
  if t.dn then(if∃y∈t.last.getD [],fits 3 w y then s.put w (x.to (.work (.get Tk.new)))else s.put w (x.end_ (.err 3)))else s.put w (x.to (.counts t))
 | .enters q=>
  let r:=q.step c w s.m
  let s:=s.mem r.2
  if r.1.st=.done then(if r.1.e=0\/r.1.e=8 then s.put w (x.to (.ax Td.new (some (decide (r.1.e=0))) (.err 0)))else s.put w (x.end_ (.err r.1.e)))else s.put w (x.to (.enters r.1))
 | .ax t p a=>
  let r:=t.kT c w s.m
  let s:=s.mem r.2
  if r.1.st=.done then(match p with
   |some b=>s.put w (x.to (.parked b))
   |none=>{s.put w (x.to .rest)with ev:=⟨true,w,x.ask,a⟩::s.ev})else s.put w (x.to (.ax r.1 p a))
 | .parked _=>if s.m.gr w≠0 then dh w s x none else aV c w s x Qu.leave
 | .wakes h=>dh w s x h
 | .leaves q=>aV c w s x q
theorem Gg: @Fd.step= @Fd.kT:=by
 funext S m f;unfold Fd.step Fd.kT;congr
theorem aam: @Tk.step= @Tk.kT:=by
 funext w S m good t;unfold Tk.step Tk.kT;rw[Gg];congr;all_goals (funext;dsimp only;repeat' split)
 all_goals rfl
theorem aat: @Td.fu= @Td.G5:=by
 funext S m t;unfold Td.fu Td.G5;rw[Gg];congr
theorem aas: @Td.step= @Td.kT:=by
 funext c w m t;unfold Td.step Td.kT;rw[aat];congr;all_goals (funext;dsimp only;repeat' split)
 all_goals rfl
theorem Uv: @ak= @BB:=by
 funext c w s x k;unfold ak BB;rw[Gg,aam];congr;all_goals (funext;dsimp only;repeat' split)
 all_goals first|rfl|(simp_all;done)|(subst_vars;simp_all;done)
theorem adL: @ai= @Gy:=by
 funext c s w;unfold ai Gy;rw[Uv,aas];congr;all_goals (funext;dsimp only;repeat' split)
 all_goals first|rfl|(simp_all;done)|(subst_vars;simp_all;done)|(simp_all;rename_i a _ b;obtain⟨y,h1,h2⟩:=b;exact absurd h2 (a y h1))
def NG(c:Cn)(s:Ms):Option Ms:=if aQ s 0 then some (Gy c s 0)else if aQ s 1 then some (Gy c s 1)else none
def oJ(c:Cn):Nat->Ms->Option Ms
 |0,_=>none
 |n+1,s=>match NG c s with|none=>some s|some s'=>oJ c n s'
theorem XV{c:Cn}(hW:c.W=2){s s' z:Ms}{n:Nat}(h:oJ c n s=some z)(r:uP c s s'):∃m,oJ c m s'=some z:=by
 induction r with
 |refl=>exact⟨n,h⟩
 |@step s1 v _ hv hno hc ih=>
  obtain⟨m,hm⟩:=ih
  have hp:NG c s1=some (ai c s1 v):=by
   rw[adL];unfold NG;match v,hv,hno,hc with
   |0,_,_,hc=>rw[if_pos hc]
   |1,_,hno,hc=>rw[if_neg (hno 0 (by decide)),if_pos hc]
   |v+2,hv,_,_=>omega
  match m,hm with
  |0,hm=>cases hm
  |m+1,hm=>
   unfold oJ at hm;rw[hp]at hm;exact⟨m,hm⟩
theorem XU{c:Cn}(hW:c.W=2){s s' z:Ms}{n:Nat}(h:oJ c n s=some z)(r:uP c s s')(hs:Still c s'):s'=z:=by
 obtain⟨m,hm⟩:=XV hW h r;match m,hm with
 |0,hm=>cases hm
 |m+1,hm=>
  unfold oJ NG at hm;rw[if_neg (hs 0 (by omega)),if_neg (hs 1 (by omega))]at hm
  exact Option.some.inj hm
def cA:Cn:=⟨2,1,0,1,9⟩
def xA1:En:=⟨0,0,0,⟨0,false,false,0,0,0,0⟩,0,false⟩
def Sz:En:=⟨0,1,0,⟨0,true,false,9,0,0,0⟩,0,false⟩
def Sy:En:=⟨0,0,2,⟨0,false,false,0,0,1,0⟩,0,false⟩
def U3:Ph->Bool
 | .rest=>true
 |_=>false
theorem X7{p:Ph}:U3 p=true↔p=.rest:=by cases p<;>simp[U3]
def Vt(s:Ms)(w:Nat):Bool:=U3 (s.ws w).ph&&Nat.blt s.ev.length 1999
def ahZ:Bool:=
 match oJ cA 400 (ko Ms.zero xA1)with
 |none=>false
 |some z1=>Vt z1 1&&match oJ cA 400 (ko z1 Sz)with
  |none=>false
  |some z2=>(Vt z2 0&&decide (rJ (z2.ws 1).ph=6))&&match oJ cA 400 (ko z2 Sy)with
   |none=>false
   |some z3=>decide (rJ (z3.ws 1).ph=0)&&match z3.ev with
    |[y,_,_,_,_,_]=>decide (y.ans.e=0)
    |_=>false
end
noncomputable section
open Go.RowKit Go.bn Go.Sx Yq
theorem Vq(c:Cn):fT (iM c)=nC c:=by
 unfold fT iM nC;show(3+2*(c.W:Int)+(c.S:Int)).toNat=_;omega
theorem VW{s:aa}(F:Facts s):Gx (bH s)/\0<=bH s:=by
 obtain⟨x,h1,_⟩:=xV F;have e:=Gj F;obtain⟨_,h2,h3⟩:=Ee s (bH s) e;exact⟨⟨by omega,by omega⟩,h2⟩
theorem aaK{c:Cn}{m:Mm}(hR:fI (iM c)){i:Nat}(hi:i<c.S)(F:Facts (m.sl i)):rH (iM c) (aC c m) i=m.sl i:=by
 have hw:=hR.w;have hs:=hR.s;unfold iM at hw hs;simp only at hw hs
 have e:cellC (iM c) (i:Int)=((3+2*c.W+i:Nat):Int):=by
  unfold cellC uD iM;simp only;rw[if_pos (by simp;omega),fA ⟨by omega,by omega⟩]
  omega
 unfold rH;rw[e,Int.toNat_natCast,List.getD_eq_getElem?_getD,vY hi,Option.getD_some,afC _ (VW F).1,AR F];rfl
def aaF(s:aa):List Value:=[.int .i64 s.st,.int .i64 s.own,.int .i64 s.str,.bool s.brk,.bool s.fO,.int .i64 s.uses,.int .i64 s.gen,.int .i64 s.ep,.int .i64 s.cz]
theorem Ro{c:Cn}{m:Mm}(hR:fI (iM c))(hF:∀i,i<c.S->Facts (m.sl i)){g cap:Nat}(w:World)(hT:cB w)(hg:g<w.heap.size)(hc:∀k x,(aC c m)[k]?=some x->w.cell? ⟨g,k,none⟩=some (.int .i64 x)):
  Calls Tryz.prog 12 #[.agg (dI c).toArray,.slice (some ⟨g,0,none⟩) (nC c) cap] w λr w'=>(∃gs o cp,r=.returned (.slice (some ⟨gs,o,none⟩) c.S cp)/\gs<w'.heap.size/\w.heap.size<=gs/\∀i j u,i<c.S->(aaF (m.sl i))[j]?=some u->w'.cell? ⟨gs,o+(i*9+j),none⟩=some u)/\Below w.heap.size w w':=by
 have hw:=hR.w;have hs:=hR.s;unfold iM at hw hs;simp only at hw hs;have hB:eB (· <w.heap.size) w:=λk hk=>hk
 have q:(OE [(iM c).val,.slice (some ⟨0,0,none⟩) (nC c) cap] [.ints false false (aC c m)]).get=some (iJ 1 (iM c).s.toNat,[.ints false false (aC c m),.rows true true 9 (iM c).s.toNat (rG (rH (iM c) (aC c m)))]):=by
  have k:(oQ (iM c)&&rM (nC c) (aC c m)&&Nat.beq (nC c) (fT (iM c)))=true:=by
   rw[Vq,Nat.beq_refl,vI.2 hR,qi.2 ⟨(nE c m).symm,by unfold nC;omega,by unfold nC;omega⟩]
   rfl
  show(M.br (oQ (iM c)&&rM (nC c) (aC c m)&&Nat.beq (nC c) (fT (iM c))) _ _).get=_;rw[k];rfl
 have h2:=(Rn.2 (· <w.heap.size) w hT.lt hB hT _ _ _ q).2
 have hr:HR (· <w.heap.size) w 0 (λk=>if k=0 then some ⟨g,0,1,0⟩else none) [.ints false false (aC c m)] w:=by
  have on:∀k p,(if k=0 then some (⟨g,0,1,0⟩:Pl)else none)=some p->k=0/\p=⟨g,0,1,0⟩:=λk p h=>by
   by_cases h0:k=0
   ·rw[if_pos h0]at h;exact⟨h0,(Option.some.inj h).symm⟩
   ·rw[if_neg h0]at h;cases h
  refine⟨hB,Kept.refl _ _,iB.no λk p h=> ?_,λk p h=> ?_,λk p h=> ?_,λk k' p p' h h' ho _ _=> ?_,λk p h=> ?_⟩
  ·obtain⟨rfl,_⟩:=on k p h;exact .inr rfl
  ·obtain⟨rfl,_⟩:=on k p h;exact Nat.zero_lt_one
  ·obtain⟨rfl,rfl⟩:=on k p h;exact hg
  ·obtain⟨rfl,_⟩:=on k p h;cases ho
  ·obtain⟨rfl,rfl⟩:=on k p h
   exact⟨λho=>(by cases ho),rfl,λi x hx=>by rw[Nat.zero_add];exact hc i x hx⟩
 refine(h2 _ w #[.agg (dI c).toArray,.slice (some ⟨g,0,none⟩) (nC c) cap] hr ⟨rfl,λi x y hx hy=> ?_⟩).mono λr w' hh=> ?_
 ·match i with
  |0=>simp at hx hy;subst hx hy;exact VR.plain _ (by simp[Go.Sx.plain,Go.Sx.aN,QG])
  |1=>simp at hx hy;subst hx hy;exact VR.slice (p:=⟨g,0,1,0⟩) (off:=0) rfl
  |i+2=>simp at hx
 ·obtain⟨v',rfl,σ',_,kS,hr'⟩:=hh
  obtain⟨p,hp,_,rfl⟩:=VR.yL kS;have hb:=hr'.blk 1 p hp;obtain⟨ho,hwd,hcell⟩:=hb;have hS:(iM c).s.toNat=c.S:=by show((c.S:Int)).toNat=c.S;omega
  refine⟨⟨p.b,p.o,p.cap,by rw[hS],hr'.lt 1 p hp,Nat.le_of_not_lt (ho rfl).1,λi j u hi hu=> ?_⟩,hr'.below.below⟩
  have hj:j<9:=(List.getElem?_eq_some_iff.1 hu).1;obtain⟨v',hv',ahg⟩:=hcell i j (by rw[hS];exact hi) hj
  rw[hv']
  have e:∀s:aa,s=rH (iM c) (aC c m) i->(((rG (rH (iM c) (aC c m))).at i j).val)=(aaF s).getD j undef:=by
   intro s hs;subst hs;match j,hj with
   |0,_|1,_|2,_|3,_|4,_|5,_|6,_|7,_|8,_=>rfl
  rw[e _ (aaK hR hi (hF i hi)).symm,List.getD_eq_getElem?_getD,hu,Option.getD_some]at ahg
  have p1:aN u=true:=by
   match j,hj,hu with
   |0,_,hu|1,_,hu|2,_,hu|3,_,hu|4,_,hu|5,_,hu|6,_,hu|7,_,hu|8,_,hu=>cases hu;rfl
  rw[ahg.aD p1]
end
noncomputable section
open Go.RowKit Go.bn Go.Sx Yq
attribute [local go_sem ↓] Go.wp_at_zero Go.wp_at_succ
theorem ahY:ahZ=true:=by kernel_rfl
theorem Pq{c:Cn}{z:Ms}{x:En}{w:Nat}(hx:x.kind=0)(hw:x.who=(w:Int))(hlt:w<c.W)(ho:0<=x.op/\x.op<8)(h:Vt z w=true):dX c z x=(true,ko z x):=by
 unfold Vt at h;rw[Bool.and_eq_true]at h;have e:x.who.toNat=w:=by rw[hw];exact Int.toNat_natCast w
 have m:Ih c z x:=⟨⟨by rw[hw];omega,by rw[hw];omega⟩,by rw[e];exact X7.1 h.1,by have:=Nat.le_of_ble_eq_true h.2;omega,ho.1,ho.2⟩
 unfold dX;rw[if_pos hx,if_pos m]
theorem Sa:∃z1 z2 z3,dX cA Ms.zero xA1=(true,ko Ms.zero xA1)/\oJ cA 400 (ko Ms.zero xA1)=some z1/\dX cA z1 Sz=(true,ko z1 Sz)/\oJ cA 400 (ko z1 Sz)=some z2/\rJ (z2.ws 1).ph=6/\dX cA z2 Sy=(true,ko z2 Sy)/\
  oJ cA 400 (ko z2 Sy)=some z3/\rJ (z3.ws 1).ph=0/\z3.ev.length=6/\∃y,z3.ev[0]?=some y/\y.ans.e=0:=by
 have h:=ahY;unfold ahZ at h;cases h1:oJ cA 400 (ko Ms.zero xA1)with
 |none=>rw[h1]at h;cases h
 |some z1=>
  rw[h1]at h;simp only[Bool.and_eq_true]at h;obtain⟨m1,h⟩:=h;cases h2:oJ cA 400 (ko z1 Sz)with
  |none=>rw[h2]at h;cases h
  |some z2=>
   rw[h2]at h;simp only[Bool.and_eq_true,decide_eq_true_eq]at h;obtain⟨⟨m2,p2⟩,h⟩:=h;cases h3:oJ cA 400 (ko z2 Sy)with
   |none=>rw[h3]at h;cases h
   |some z3=>
    rw[h3]at h;simp only[Bool.and_eq_true,decide_eq_true_eq]at h;obtain⟨p3,h⟩:=h;refine⟨z1,z2,z3,Pq (w:=0) rfl rfl (by decide) ⟨by decide,by decide⟩ rfl,rfl,Pq (w:=1) rfl rfl (by decide) ⟨by decide,by decide⟩ m1,h2,p2,Pq (w:=0) rfl rfl (by decide) ⟨by decide,by decide⟩ m2,h3,p3,?_⟩
    split at h
    ·rename_i y _ _ _ _ _ he
     rw[he];exact⟨rfl,y,rfl,of_decide_eq_true h⟩
    ·cases h
def Aw(z:Ms)(K:Int)(bx b:Nat)(w1 W:World):Prop:=∃e,e<=K/\Live cA z e (· <w1.heap.size) b W/\All cA z/\bx<w1.heap.size/\W.heap[bx]?=some (.cells #[.int .i64 2,.int .i64 1,.int .i64 0,.int .i64 1,.int .i64 9] 30 (0,0))/\Below w1.heap.size w1 W
variable{z z':Ms} {K:Int} {bx b:Nat} {w1 W:World}
theorem Aw.cells(h:Aw z K bx b w1 W):W.cell? ⟨bx,0,none⟩=some (.int .i64 2)/\W.cell? ⟨bx,1,none⟩=some (.int .i64 1)/\W.cell? ⟨bx,2,none⟩=some (.int .i64 0)/\W.cell? ⟨bx,3,none⟩=some (.int .i64 1)/\W.cell? ⟨bx,4,none⟩=some (.int .i64 9):=by
 obtain⟨e,_,_,_,_,hb,_⟩:=h;refine⟨?_,?_,?_,?_,?_⟩<;>(rw[cell_of hb];rfl)
theorem Aw.MC(H:∀v,v<2->fZ 2 v)(h:Aw z K bx b w1 W)(hK:K<=1000000000)(x:En)(hx:wY cA x)(hd:dX cA z x=(true,z')):
  Calls Tryz.prog jV [.pointer (some ⟨b,0,none⟩),uZ x].toArray W λr w'=>r=.returned (.bool true)/\Aw z' (K+1) bx b w1 w':=by
 obtain⟨e,he,L,A,hx1,hb,hB⟩:=h;refine(L.MC H (by omega) x hx).mono λr w' hh=> ?_
 rw[hd]at hh;obtain⟨rfl,k,L'⟩:=hh;have A':=QX A (by decide) (by decide) x
 rw[hd]at A';exact⟨rfl,e+1,by omega,L',A',hx1,(k.block bx hx1).trans hb,hB.trans k.below⟩
theorem Aw.settled(H:∀v,v<2->fZ 2 v)(h:Aw z K bx b w1 W)(hK:K<=900000000)(hr:oJ cA 400 z=some z'):
  Calls Tryz.prog 19 #[.pointer (some ⟨b,0,none⟩),.agg #[.int .i64 2,.int .i64 1,.int .i64 0,.int .i64 1,.int .i64 9],.slice none 0 0] W λr w'=>r=.returned (.bool true)/\Aw z' (K+2000000) bx b w1 w':=by
 obtain⟨e,he,L,A,hx1,hb,hB⟩:=h;have q:=EB (c:=cA) (A:=none) (n:=0) (cap:=0) H (by decide) (by decide) (by decide) W A L (by omega) ⟨λk hk=>absurd hk (Nat.not_lt_zero k)⟩
 refine Calls.mono q λr w' hh=> ?_
 obtain⟨rfl,k,s',e',A',st,_,r0,L',he'⟩:=hh;obtain rfl:=XU rfl hr (r0 rfl) st;exact⟨rfl,e',by omega,L',A',hx1,(k.block bx hx1).trans hb,hB.trans k.below⟩
theorem Aw.state(h:Aw z K bx b w1 W){n:Int}(hn:rJ (z.ws 1).ph=n):Calls Tryz.prog 23 #[.pointer (some ⟨b,0,none⟩),.int .i64 1] W λr w'=>r=.returned (.int .i64 n)/\Below W.heap.size W w'/\Aw z K bx b w1 w':=by
 obtain⟨e,he,L,A,hx1,hb,hB⟩:=h;refine Calls.mono (L.state (v:=1) (by decide)) λr w' hh=> ?_
 obtain⟨rfl,k,L'⟩:=hh;rw[hn];exact⟨rfl,k,e,he,L'.mono (λj hj=>.inl hj) L.kt,A,hx1,(k.block bx (gQ hb)).trans hb,hB.trans (k.mono hB.size)⟩
theorem Aw.events(h:Aw z K bx b w1 W)(hK:K<=1000000000)(hl:z.ev.length=6)(hy:∃y,z.ev[0]?=some y/\y.ans.e=0):Calls Tryz.prog 17 #[.pointer (some ⟨b,0,none⟩)] W λr w'=>∃g cap,r=.returned (.slice (some ⟨g,0,none⟩) 6 cap)/\w'.cell? ⟨g,100,none⟩=some (.int .i64 0)/\W.heap.size<=g/\g<w'.heap.size/\Aw z K bx b w1 w':=by
 obtain⟨e,he,L,A,hx1,hb,hB⟩:=h;refine(L.events (by omega)).mono λr w' hh=> ?_
 obtain⟨v',A',rfl,ho,k,L'⟩:=hh;have E:=K3 ho;have hne:z.ev≠[]:=λq=>by rw[q]at hl;cases hl
 obtain⟨g,cap,hv,_,hg,hg2,hc⟩:=E.row hne;obtain⟨x,a,hx,hcc⟩:=hc 5 (by rw[hl];decide)
 obtain⟨y,hy0,hye⟩:=hy;rw[hl]at hx hv;obtain rfl:x=y:=Option.some.inj (hx.symm.trans hy0);have c0:=hcc 10 (.int .i64 x.ans.e) rfl;rw[hye]at c0;exact⟨g,cap,by rw[hv],c0,hg,hg2,e,he,L'.mono (λj hj=>.inl hj) L.kt,A,hx1,(k.block bx (gQ hb)).trans hb,hB.trans (k.mono (by have:=hB.size;omega))⟩
theorem aeC:fI (iM cA):=by constructor<;>decide
set_option maxHeartbeats 4000000 in
theorem ZO(H:∀v,v<2->fZ 2 v)(w:World)(hT:TT w):Calls Tryz.prog 7 #[] w λr w'=>r=.returned (.bool true)/\Below w.heap.size w w':=by
 obtain⟨z1,z2,z3,d1,r1,d2,r2,p2,d3,r3,p3,hl,hy⟩:=Sa;have l2:=hT.lt 2 (.inr rfl);have hT1:∀o,TT (w.alloc o):=λo=>nG hT ((Below.refl _ w).alloc (Nat.le_refl _) o) l2
 have hnew:∀W,TT W->Calls Tryz.prog 26 #[.agg #[.int .i64 2,.int .i64 1,.int .i64 0,.int .i64 1,.int .i64 9]] W λr w'=>∃b,r=.returned (.tuple #[.pointer (some ⟨b,0,none⟩),.int .i64 0])/\Below W.heap.size W w'/\Live cA Ms.zero 0 (· <W.heap.size) b w':=λW hW=>PN (c:=cA) aeC (by decide) (by decide) W hW
 have hd:∀{z z':Ms} {K:Int} {bx b:Nat} {w1 W:World} (h:Aw z K bx b w1 W) (hK:K<=1000000000) (x:En) (hx:wY cA x) (hd:dX cA z x=(true,z')),Calls Tryz.prog jV [.pointer (some ⟨b,0,none⟩),uZ x].toArray W λr w'=>r=.returned (.bool true)/\Aw z' (K+1) bx b w1 w':=λh hK x hx hd=>Aw.MC H h hK x hx hd
 go_enter Tryz.func7,Tryz.ntmps7
 go_upto_region 2 with(fail)
 refine jY λW1 hW1=> ?_
 have FY:W1.heap[w.heap.size]?=some (.cells #[.int .i64 2,.int .i64 1,.int .i64 0,.int .i64 1,.int .i64 9] 30 (0,0)):=by rw[hW1];simp[qU,Array.getElem?_push]
 have hb1:Below w.heap.size w W1:=by rw[hW1];exact(Below.refl _ w).alloc (Nat.le_refl _) _
 have hs1:W1.heap.size=w.heap.size+1:=by rw[hW1];simp
 have rQ:TT W1:=by rw[hW1];exact hT1 _
 have hN:=hnew W1 rQ;have HB:=Lib.hid (And.intro hb1 hs1);clear hW1 hT1 hnew hb1;have c0:W1.cell? ⟨w.heap.size,0,none⟩=some (.int .i64 2):=by rw[cell_of FY];rfl
 have c1:W1.cell? ⟨w.heap.size,1,none⟩=some (.int .i64 1):=by rw[cell_of FY];rfl
 have c2:W1.cell? ⟨w.heap.size,2,none⟩=some (.int .i64 0):=by rw[cell_of FY];rfl
 have c3:W1.cell? ⟨w.heap.size,3,none⟩=some (.int .i64 1):=by rw[cell_of FY];rfl
 have c4:W1.cell? ⟨w.heap.size,4,none⟩=some (.int .i64 9):=by rw[cell_of FY];rfl
 go_upto_region 3 with(go_at_call 26;refine hN.mono ?_;rintro r w2 ⟨b,rfl,hb2,L2⟩)
 have a0:Aw Ms.zero 0 w.heap.size b W1 w2:=⟨0,Int.le_refl 0,L2,all_zero,by omega,(hb2.block _ (by omega)).trans FY,hb2⟩
 have A0:=Lib.hid a0;clear hb2 L2 c0 c1 c2 c3 c4 a0 FY hs1;have q1:Calls Tryz.prog 18 #[.pointer (some ⟨b,0,none⟩),.agg #[.int .i64 0,.int .i64 0,.int .i64 0,.int .i64 0,.bool false,.bool false,.int .i64 0,.int .i64 0,.int .i64 0,.int .i64 0,.bool false]] w2 λr w'=>r=.returned (.bool true)/\Aw _ (0+1) w.heap.size b W1 w':=hd A0.out (by decide) xA1 ⟨⟨by decide,by decide⟩,⟨by decide,by decide⟩,by decide⟩ d1
 go_upto_region 6 with(go_at_call 18;refine q1.mono ?_;rintro r w3 ⟨rfl,a1⟩)
 obtain⟨c0,c1,c2,c3,c4⟩:=a1.cells;have q2:=a1.settled H (by decide) r1
 go_upto_region 7 with(go_at_call 19;refine q2.mono ?_;rintro r w4 ⟨rfl,a2⟩)
 clear c0 c1 c2 c3 c4 q1 q2;have q3:Calls Tryz.prog 18 #[.pointer (some ⟨b,0,none⟩),.agg #[.int .i64 0,.int .i64 1,.int .i64 0,.int .i64 9,.bool true,.bool false,.int .i64 0,.int .i64 0,.int .i64 0,.int .i64 0,.bool false]] w4 λr w'=>r=.returned (.bool true)/\Aw _ (0+1+2000000+1) w.heap.size b W1 w':=hd a2 (by decide) Sz ⟨⟨by decide,by decide⟩,⟨by decide,by decide⟩,by decide⟩ d2
 go_upto_region 8 with(go_at_call 18;refine q3.mono ?_;rintro r w5 ⟨rfl,a3⟩)
 obtain⟨c0,c1,c2,c3,c4⟩:=a3.cells;have q4:=a3.settled H (by decide) r2
 go_upto_region 9 with(go_at_call 19;refine q4.mono ?_;rintro r w6 ⟨rfl,a4⟩)
 clear c0 c1 c2 c3 c4 q3 q4;have q5:=a4.state p2;go_upto_region 10 with(go_at_call 23;refine q5.mono ?_;rintro r w7 ⟨rfl,_,a5⟩)
 have q6:Calls Tryz.prog 18 #[.pointer (some ⟨b,0,none⟩),.agg #[.int .i64 0,.int .i64 0,.int .i64 2,.int .i64 0,.bool false,.bool false,.int .i64 0,.int .i64 1,.int .i64 0,.int .i64 0,.bool false]] w7 λr w'=>r=.returned (.bool true)/\Aw _ (0+1+2000000+1+2000000+1) w.heap.size b W1 w':=hd a5 (by decide) Sy ⟨⟨by decide,by decide⟩,⟨by decide,by decide⟩,by decide⟩ d3
 go_upto_region 11 with(go_at_call 18;refine q6.mono ?_;rintro r w8 ⟨rfl,a6⟩)
 obtain⟨c0,c1,c2,c3,c4⟩:=a6.cells;have q7:=a6.settled H (by decide) r3
 go_upto_region 12 with(go_at_call 19;refine q7.mono ?_;rintro r w9 ⟨rfl,a7⟩)
 clear c0 c1 c2 c3 c4 q5 q6 q7;have q8:=a7.events (by decide) hl hy
 go_upto_region 13 with(go_at_call 17;refine q8.mono ?_;rintro r w10 ⟨g,cap,rfl,hcl,_,hg,a8⟩)
 have q9:=a8.state p3;go_wp2_with (go_at_call 23;refine q9.mono ?_;rintro r w11 ⟨rfl,alu,a9⟩;have hc2:=(alu.cell (p:=⟨g,100,none⟩) hg).trans hcl)
 go_ret
 obtain⟨_,_,_,_,_,_,hB⟩:=a9;exact⟨rfl,HB.out.1.trans (hB.mono (by have:=HB.out.2;omega))⟩
end
noncomputable section
open Classical Yq
variable{c:Cn} {w:Nat} {s s' s0:Ms} {m m':Mm} {i:Nat} {g:Bool} {K:Nat} {z:Prop}
def OkE(z:Prop)(e:Int):Prop:=e=4\/(¬z/\(e=0\/e=6))
def QtT(t:Td):Prop:=match t.st with
 | .ep=>True| .pin=>True| .cl=>True| .line=>True| .eO=>True| .again=>True| .done=>True
 | .dL=>t.look.kd=4/\t.look.ow=0/\t.look.fd=none
 | .old=>t.look.kd=5/\t.look.fd=none
 | .some=>t.look.kd=3/\t.look.fd=none
 |_=>False
def GqP(z:Prop)(x:Wr):Prop:=match x.ph with
 | .rest=>True| .parked _=>True| .leaves _=>True
 | .wakes _=>¬z
 | .ax t p a=>p=none/\OkE z a.e/\(z->QtT t)
 | .pin _=>¬z/\0<x.grant/\x.ask.op=0
 | .work (.get t)=>¬z/\(t.st=.check\/t.st=.bM\/t.st=.grant\/t.st=.eG)
 |_=>False
structure GqS(c:Cn)(z:Prop)(s0 s:Ms):Prop where
 cl:s.m.cl=0
 gr:∀v,0<=s.m.gr v
 z0:z->s.m.sl=s0.m.sl/\∀v,s.m.gr v=0
 ph:∀v,GqP z (s.ws v)
 ev:∃new,s.ev=new++s0.ev/\(∀y,y∈new->y.ended=true/\OkE z y.ans.e)/\∀v,v∈s0.m.qu->(s.ws v).ph=.rest->∃y,y∈new/\y.who=v
theorem aca(Q:GqS c z s0 s)(o:∀j,j≠w->s'.ws j=s.ws j)(hcl:s'.m.cl=s.m.cl)(hg:∀v,0<=s'.m.gr v)(hz:z->s'.m.sl=s.m.sl/\s'.m.gr=s.m.gr)(hev:s'.ev=s.ev)(hx:GqP z (s'.ws w))(hr:(s'.ws w).ph≠.rest):GqS c z s0 s':=by
 obtain⟨q1,q2,q3,q4,new,e1,e2,e3⟩:=Q;refine⟨by rw[hcl];exact q1,hg,λk=> ?_,λv=> ?_,new,by rw[hev];exact e1,e2,λv hv hp=> ?_⟩
 ·simp_all
 all_goals grind
theorem apx(Q:GqS c z s0 s)(o:∀j,j≠w->s'.ws j=s.ws j)(hcl:s'.m.cl=s.m.cl)(hg:∀v,0<=s'.m.gr v)(hz:z->s'.m.sl=s.m.sl/\s'.m.gr=s.m.gr){x}{a}(ha:OkE z a.e)(hev:s'.ev=⟨true,w,x,a⟩::s.ev)(hx:GqP z (s'.ws w)):GqS c z s0 s':=by
 obtain⟨q1,q2,q3,q4,new,e1,e2,e3⟩:=Q;refine⟨by rw[hcl];exact q1,hg,λk=> ?_,λv=> ?_,⟨true,w,x,a⟩::new,by rw[hev,e1];rfl,λy hy=> ?_,λv hv hp=> ?_⟩
 ·simp_all
 ·grind
 ·grind
 grind [List.mem_cons_self,List.mem_cons_of_mem]
theorem ajZ{t:Td}{S}(h:t.look.fd=none)(hn:∀i,i<S->¬fits t.look.kd t.look.ow (m.sl i)):(t.fu S m).look.fd=none/\(t.fu S m).look.kd=t.look.kd/\(t.fu S m).look.ow=t.look.ow:=by
 grind [Td.fu,Fd.step]
theorem ap0{t}(Q:QtT t)(h3:∀i,i<c.S->(m.sl i).st=3)(hc:m.cl=0):QtT (t.step c w m).1/\(t.step c w m).2.sl=m.sl/\(t.step c w m).2.gr=m.gr:=by
 obtain⟨st,ep,cl,qu,look,j,wd,other,head,rt⟩:=t;cases st with
 |ep=>exact⟨trivial,rfl,rfl⟩
 |pin=>exact⟨trivial,rfl,rfl⟩
 |cl=>exact⟨⟨rfl,hc,rfl⟩,rfl,rfl⟩
 |dL=>
  obtain⟨q1,q2,q3⟩:look.kd=4/\look.ow=0/\look.fd=none:=Q
  have k:=ajZ (m:=m) (t:=⟨.dL,ep,cl,qu,look,j,wd,other,head,rt⟩) (S:=c.S) q3 (λi hi hf=>by
   have hf:fits look.kd look.ow (m.sl i):=hf;rw[q1,q2]at hf;have:=h3 i hi;rcases hf with hf|hf<;>omega)
  obtain⟨k1,_⟩:=eQ (m:=m) (t:=⟨.dL,ep,cl,qu,look,j,wd,other,head,rt⟩) (S:=c.S);unfold Td.step;dsimp only;generalize Td.fu c.S m ⟨.dL,ep,cl,qu,look,j,wd,other,head,rt⟩=u at*;have k1:u.st=.dL:=k1;obtain⟨a1,a2,a3⟩:=k;rw[if_neg (by rw[a1];exact λh=>by cases h)]
  split
  ·exact⟨⟨rfl,rfl⟩,rfl,rfl⟩
  ·refine⟨?_,rfl,rfl⟩
   unfold QtT;rw[k1];exact⟨a2.trans q1,a3.trans q2,a1⟩
 |old=>
  obtain⟨q1,q3⟩:look.kd=5/\look.fd=none:=Q
  have k:=ajZ (m:=m) (t:=⟨.old,ep,cl,qu,look,j,wd,other,head,rt⟩) (S:=c.S) q3 (λi hi hf=>by
   have hf:fits look.kd look.ow (m.sl i):=hf;rw[q1]at hf;have:=h3 i hi;have hf:(m.sl i).st=6:=hf;omega)
  obtain⟨k1,_⟩:=eQ (m:=m) (t:=⟨.old,ep,cl,qu,look,j,wd,other,head,rt⟩) (S:=c.S);unfold Td.step;dsimp only;generalize Td.fu c.S m ⟨.old,ep,cl,qu,look,j,wd,other,head,rt⟩=u at*;have k1:u.st=.old:=k1;obtain⟨a1,a2,a3⟩:=k;rw[if_neg (by rw[a1];exact λh=>by cases h)]
  split
  ·split<;>exact⟨trivial,rfl,rfl⟩
  ·refine⟨?_,rfl,rfl⟩
   unfold QtT;rw[k1];exact⟨a2.trans q1,a1⟩
 |line=>
  unfold Td.step;dsimp only;split
  ·exact⟨trivial,rfl,rfl⟩
  ·exact⟨⟨rfl,rfl⟩,rfl,rfl⟩
 |some=>
  obtain⟨q1,q3⟩:look.kd=3/\look.fd=none:=Q
  have k:=ajZ (m:=m) (t:=⟨.some,ep,cl,qu,look,j,wd,other,head,rt⟩) q3 (λi hi hf=>by
   rw[q1]at hf;have:=h3 i hi;rcases hf with hf|hf
   ·have:=hf.1;omega
   ·have hf:(m.sl i).st=0:=hf;omega)
  obtain⟨k1,_⟩:=eQ;unfold Td.step;dsimp only;obtain⟨a1,a2,a3⟩:=k;rw[if_neg (by rw[a1];exact λh=>by cases h)]
  split
  ·exact⟨trivial,rfl,rfl⟩
  ·refine⟨?_,rfl,rfl⟩
   unfold QtT;rw[k1];exact⟨a2.trans q1,a1⟩
 |eO=>exact⟨trivial,rfl,rfl⟩
 |again=>
  unfold Td.step;dsimp only;split<;>exact⟨trivial,rfl,rfl⟩
 |done=>exact⟨trivial,rfl,rfl⟩
 |_=>exact Q.elim
theorem an6{t:Td}(hg:∀v,0<=m.gr v):(t.step c w m).2.cl=m.cl/\∀v,0<=(t.step c w m).2.gr v:=by
 have ag8:=λd own m' h=> @ac3 m m' t d own h
 have qr:=(@Ps m t.rt);obtain⟨st,ep,cl,qu,look,j,wd,other,head,rt⟩:=t;cases st with
 |grant=>
  refine⟨rfl,λv=> ?_⟩
  show 0<=upd m.gr head (j+1) v;grind [upd]
 |go=>
  unfold Td.step;dsimp only;have k1:=qr.cl;have k2:=qr.gr;split<;>exact⟨k1,λv=>by show 0<=(Rt.step m rt).2.gr v;rw[k2];exact hg v⟩
 |clear=>
  show((Td.swap m ⟨.clear,ep,cl,qu,look,j,wd,other,head,rt⟩ 12 w).getD m).cl=m.cl/\∀v,0<=((Td.swap m ⟨.clear,ep,cl,qu,look,j,wd,other,head,rt⟩ 12 w).getD m).gr v;cases h:Td.swap m ⟨.clear,ep,cl,qu,look,j,wd,other,head,rt⟩ 12 w with
  |none=>exact⟨rfl,hg⟩
  |some m2=>
   have k:=ag8 _ _ _ h;exact⟨k.cl,λv=>by show 0<=m2.gr v;rw[k.gr];exact hg v⟩
 |keep=>
  unfold Td.step;dsimp only;split
  ·rename_i m2 h
   have k:=ag8 _ _ _ h;exact⟨k.cl,λv=>by rw[k.gr];exact hg v⟩
  ·exact⟨rfl,hg⟩
 |dR=>
  unfold Td.step;dsimp only;split
  ·rename_i m2 h
   have k:=ag8 _ _ _ h;exact⟨k.cl,λv=>by rw[k.gr];exact hg v⟩
  ·exact⟨rfl,hg⟩
 |_=>
  unfold Td.step;dsimp only;repeat' split
  all_goals exact⟨rfl,hg⟩
theorem akr{q}(Q:GqS c z s0 s)(T:Dr w q)(o:∀j,j≠w->(aV c w s (s.ws w) q).ws j=s.ws j):GqS c z s0 (aV c w s (s.ws w) q):=by
 cases hst:q.step c w s.m with
 |mk q' m'=>
  have k:=Kt (c:=c) (m:=s.m) T;rw[hst]at k
  have hm:m'.cl=s.m.cl/\m'.gr=s.m.gr/\m'.sl=s.m.sl:=by
   grind [Qu.step]
  obtain⟨m1,m2,m3⟩:=hm;rw[QQ hst]at o ⊢;have gg:∀v,0<=m'.gr v:=λv=>by rw[m2];exact Q.gr v
  by_cases hd:q'.st=.done
  ·rw[if_pos hd]at o ⊢
   by_cases h8:q'.e=8
   ·rw[if_pos h8]at o ⊢
    exact aca Q o m1 gg (λ_=>⟨m3,m2⟩) rfl (by rw[ae];trivial) (by rw[ae];exact Ph.noConfusion)
   ·rw[if_neg h8]at o ⊢
    have h4:q'.e=4:=by
     rcases k.1 hd with⟨k1,_⟩|⟨k1,_⟩
     ·exact absurd k1 h8
     ·exact k1
    exact aca Q o m1 gg (λ_=>⟨m3,m2⟩) rfl (by rw[ae];exact⟨rfl,.inl h4,λ_=>trivial⟩) (by rw[ae];exact Ph.noConfusion)
  ·rw[if_neg hd]at o ⊢
   exact aca Q o m1 gg (λ_=>⟨m3,m2⟩) rfl (by rw[ae];trivial) (by rw[ae];exact Ph.noConfusion)
theorem al7{t}(h:t.st=.check\/t.st=.bM\/t.st=.grant\/t.st=.eG)(hc:m.cl=0)(G:GsW w (.work (.get t)))(hw:w<=15):
  ((t.step w c.S m g).1.st=.done->(t.step w c.S m g).1.e=0\/(t.step w c.S m g).1.e=6)/\((t.step w c.S m g).1.st≠.done->(t.step w c.S m g).1.st=.check\/(t.step w c.S m g).1.st=.bM\/(t.step w c.S m g).1.st=.grant\/(t.step w c.S m g).1.st=.eG):=by
 obtain⟨st,look,j,wd,gen,ps,rt,e⟩:=t;rcases h with h|h|h|h
 ·subst h
  unfold Tk.step;rw[if_pos hc];exact⟨λ_=>.inl rfl,λh=>absurd rfl h⟩
 ·subst h
  unfold Tk.step;dsimp only;split
  ·cases g
   ·exact⟨λ_=>.inr rfl,λh=>absurd rfl h⟩
   ·exact⟨λh=>(by cases h),λ_=>.inl rfl⟩
  ·exact⟨λ_=>.inr rfl,λh=>absurd rfl h⟩
 ·subst h
  exact⟨λh=>(by cases h),λ_=>.inr (.inr (.inr rfl))⟩
 ·subst h
  obtain⟨g1,g2,g3⟩:=G rfl;obtain⟨n,hn⟩:=ahd g1 g2 g3 hw;unfold Tk.step;rw[hn];dsimp only;split
  ·refine⟨fun h=> ?_,fun _=> ?_⟩
   ·split at h<;>cases h
   ·split
    ·exact .inl rfl
    ·exact .inr (.inl rfl)
  ·exact⟨λh=>(by cases h),λ_=>.inr (.inr (.inl rfl))⟩
theorem apy{t}(hp:(s.ws w).ph=.work (.get t)):(ai c s w).ws w=if(t.step w c.S s.m (decide (t.st=.bM)&&s.next.1)).1.st=.done then(if(t.step w c.S s.m (decide (t.st=.bM)&&s.next.1)).1.e=3 then(if(s.ws w).ask.wait then(s.ws w).to (.enters Qu.enter)else(s.ws w).to (.counts Tw.new))else if(t.step w c.S s.m (decide (t.st=.bM)&&s.next.1)).1.e=0 then(s.ws w).end_ ⟨0,(t.step w c.S s.m (decide (t.st=.bM)&&s.next.1)).1.i,(t.step w c.S s.m (decide (t.st=.bM)&&s.next.1)).1.gen,0,0,0,0,0⟩else(s.ws w).end_ (.err (t.step w c.S s.m (decide (t.st=.bM)&&s.next.1)).1.e))else(s.ws w).to (.work (.get (t.step w c.S s.m (decide (t.st=.bM)&&s.next.1)).1)):=by
 grind [ai,ak,ae]
theorem aoe(Q:GqS c z s0 s)(G:GyS c s K)(hz:z->∀i,i<c.S->(s0.m.sl i).st=3)(hW:c.W<=14)(hS:1<=c.S)(hw:w<c.W)(hc:aQ s w):GqS c z s0 (ai c s w):=by
 have A:=G.x.nx.all;have I:=A.inv;have o:∀j,j≠w->(ai c s w).ws j=s.ws j:=(BD hw (by omega) hS I.m I.g (I.w w hw) hc).2.2.2.1
 have P:=Q.ph w;have X:=I.w w hw;have Wd:=A.wd w hw;unfold GqP at P;unfold jO at X;unfold nW at Wd;cases hp:(s.ws w).ph with
 |rest=>grind [aQ]
 |pin h=>
  rw[hp]at P;obtain⟨p1,p2,p3⟩:=P;cases h with
  |none=>
   have e:ai c s w=s.put w ((s.ws w).to (.pin (some s.m.ep))):=by unfold ai;dsimp only;rw[hp]
   rw[e]at o ⊢;exact aca Q o rfl Q.gr (λk=>absurd k p1) rfl (by rw[ae];exact⟨p1,p2,p3⟩) (by rw[ae];exact Ph.noConfusion)
  |some e1=>
   have e:ai c s w=(s.mem (s.m.pin w (aR (e1+1)))).put w ((s.ws w).to (.work (bE (s.ws w)))):=by unfold ai;dsimp only;rw[hp]
   have es:bE (s.ws w)=.get (Tk.granted ((s.ws w).grant-1).toNat):=by unfold bE;rw[p3,if_pos p2];rfl
   rw[e]at o ⊢;exact aca Q o rfl Q.gr (λk=>absurd k p1) rfl (by rw[ae,es];exact⟨p1,.inr (.inr (.inl rfl))⟩) (by rw[ae];exact Ph.noConfusion)
 |work k=>
  rw[hp]at P;cases k with
  |get t=>
   obtain⟨p1,p2⟩:=P;have tm:= @ahI c w s.m (decide (t.st=.bM)&&s.next.1) t;have GS:=G.x.cm.gs w;rw[hp]at GS;obtain⟨r1,r2⟩:=al7 (c:=c) (g:=decide (t.st=.bM)&&s.next.1) p2 Q.cl GS (by omega)
   have em:=ah7 (c:=c) hp;have ew:=apy (c:=c) hp
   have ev:(ai c s w).ev=s.ev:=by
    have e0:ai c s w=ak c w s (s.ws w) (.get t):=by unfold ai;dsimp only;rw[hp]
    rw[e0];exact(NZ _ _ _ _).1
   refine aca Q o (by rw[em];exact tm.cl) (λv=>by rw[em,tm.gr];exact Q.gr v) (λk=>absurd k p1) ev ?_ ?_
   ·rw[ew]
    split
    ·rename_i hd
     rw[if_neg (by rcases r1 hd with h|h<;>rw[h]<;>decide)]
     split
     ·exact⟨rfl,.inr ⟨p1,.inl rfl⟩,λk=>absurd k p1⟩
     ·exact⟨rfl,.inr ⟨p1,r1 hd⟩,λk=>absurd k p1⟩
    ·rename_i hd
     exact⟨p1,r2 hd⟩
   ·rw[ew]
    repeat' split
    all_goals exact Ph.noConfusion
  |_=>exact P.elim
 |counts t=>rw[hp]at P;exact P.elim
 |enters q=>rw[hp]at P;exact P.elim
 |ax t p a=>
  rw[hp]at P;obtain⟨rfl,p2,p3⟩:=P;obtain⟨t1,t2⟩:=an6 (c:=c) (w:=w) (t:=t) Q.gr;have tq:=λk=>ap0 (c:=c) (w:=w) (p3 k) (λi hi=>by rw[(Q.z0 k).1];exact hz k i hi) Q.cl
  cases hst:t.step c w s.m with
  |mk t' m'=>
   rw[hst]at t1 t2 tq;have e:=ui hp hst;by_cases hd:t'.st=.done
   ·rw[if_pos hd]at e
    have e:ai c s w={(s.mem m').put w ((s.ws w).to .rest)with ev:=⟨true,w,(s.ws w).ask,a⟩::s.ev}:=e
    rw[e]at o ⊢;refine apx Q o t1 t2 (λk=>(tq k).2) p2 rfl ?_
    show GqP z (((s.mem m').put w ((s.ws w).to .rest)).ws w);rw[ae];trivial
   ·rw[if_neg hd]at e
    rw[e]at o ⊢;exact aca Q o t1 t2 (λk=>(tq k).2) rfl (by rw[ae];exact⟨rfl,p2,λk=>(tq k).1⟩) (by rw[ae];exact Ph.noConfusion)
 |parked b=>
  by_cases hg:s.m.gr w≠0
  ·have e:ai c s w=s.put w ((s.ws w).to (.wakes (some (s.m.gr w)))):=by unfold ai;dsimp only;rw[hp];dsimp only;rw[if_pos hg];rfl
   rw[e]at o ⊢;exact aca Q o rfl Q.gr (λ_=>⟨rfl,rfl⟩) rfl (by rw[ae];exact λk=>hg ((Q.z0 k).2 w)) (by rw[ae];exact Ph.noConfusion)
  ·have e:ai c s w=aV c w s (s.ws w) Qu.leave:=by unfold ai;dsimp only;rw[hp];dsimp only;rw[if_neg hg]
   rw[e]at o ⊢;exact akr Q ⟨.inl rfl,rfl⟩ o
 |wakes h=>
  rw[hp]at P X Wd;obtain⟨L,T⟩:=G.x.wt.tok;have hk:=T.wk w h hp;obtain⟨g,rfl,_⟩:=X;have hgv:g=s.m.gr w:=hk.2 g rfl;have hg0:=Q.gr w;have hgp:0<g:=by have:=hk.1;omega
  have e:ai c s w=(s.mem (s.m.nT w 0)).put w {s.ws w with grant:=g,ph:=.pin none}:=by unfold ai;dsimp only;rw[hp];unfold dh;dsimp only;rw[if_neg (by omega)]
  rw[e]at o ⊢;refine aca Q o rfl (λv=> ?_) (λk=>absurd k P) rfl (by rw[ae];exact⟨P,hgp,Wd⟩) (by rw[ae];exact Ph.noConfusion)
  show 0<=upd s.m.gr w 0 v;unfold upd;split
  ·exact Int.le_refl _
  ·exact Q.gr v
 |leaves q=>
  rw[hp]at X;have e:ai c s w=aV c w s (s.ws w) q:=by unfold ai;dsimp only;rw[hp]
  rw[e]at o ⊢;exact akr Q X o
theorem aj6:∀(l r:List Nat),l.Nodup->(∀x,x∈l->x∈r)->l.length<=r.length
 |[],_,_,_=>Nat.zero_le _
 |a::l,r,h,hs=>by
  have h1:=List.nodup_cons.1 h;have k:=aj6 l (r.erase a) h1.2 λx hx=>(List.mem_erase_of_ne λ(e:x=a)=>h1.1 (e▸hx)).2 (hs x (List.mem_cons_of_mem _ hx))
  grind
def al2(c:Cn)(s:Ms):Prop:=∀i,i<c.S->¬((s.m.sl i).st=2/\(s.m.sl i).brk=true)
structure TmL(c:Cn)(s0 s:Ms):Prop where
 ph:∀v,(s.ws v).ph=.rest
 qu:s.m.qu=[]
 ev:∃new,s.ev=new++s0.ev/\s0.m.qu.length<=new.length/\(∀y,y∈new->y.ended=true/\OkE (al2 c s0) y.ans.e)/\∀v,v∈s0.m.qu->∃y,y∈new/\y.who=v
 sl:al2 c s0->∀i,i<c.S->s.m.sl i=s0.m.sl i
theorem ana{s1}(Q:GqS c z s0 s1)(G:GyS c s1 K)(hz:z->∀i,i<c.S->(s0.m.sl i).st=3)(hW:c.W<=14)(hS:1<=c.S)(hK:((K+yj c s1:Nat):Int)<=4000000000000000000){s'}(r:Reach c s1 s'):GqS c z s0 s':=by
 induction r with
 |refl=>exact Q
 |step r hv hc ih=>
  grind [ahE,aoe]
theorem akB{s1}(h:∀v,(s1.ws v).ph=.rest){s'}(r:Reach c s1 s'):s'=s1:=by
 induction r with
 |refl=>rfl
 |step r hv hc ih=>
  grind [aQ]
theorem al8{s1 s2}(G0:GyS c s0 K)(S0:Still c s0)(hm:s1.m=s0.m)(hw:s1.ws=s0.ws)(he:s1.ev=s0.ev)(hn:300<=s1.now)(G1:GyS c s1 K)(hW:c.W<=14)(hS:1<=c.S)(hK:((K+yj c s1:Nat):Int)<=4000000000000000000)(R:Reach c s1 s2)(S2:Still c s2):TmL c s0 s2:=by
 have I0:=akE G0 S0;obtain⟨K2,G2,hk⟩:=ahE G1 hW hS hK R;have I2:=akE G2 S2
 have now:s2.now=s1.now:=by
  clear S2 hk G2 I2;induction R with
  |refl=>rfl
  |step r hv hc ih=>rw[aku.2];exact ih
 have p2:∀v,(s2.ws v).ph=.rest:=by
  intro v;rcases I2.ph v with h|⟨h,_⟩
  ·exact h
  ·exfalso
   have hv:v<c.W:=Classical.byContradiction λk=>by rw[G2.x.out v (by omega)]at h;cases h
   refine S2 v hv ?_;unfold aQ;have:=G2.dl v;grind
 have q2:s2.m.qu=[]:=by
  cases hq:s2.m.qu with
  |nil=>rfl
  |cons a r=>
   have:=I2.qu a (by rw[hq];exact List.mem_cons_self ..)
   rw[p2 a]at this;cases this
 by_cases hq:s0.m.qu=[]
 ·have p1:∀v,(s1.ws v).ph=.rest:=by
   intro v;rw[hw];rcases I0.ph v with h|⟨_,h⟩
   ·exact h
   ·rw[hq]at h;cases h
  have e:=akB p1 R;refine⟨p2,q2,⟨[],by rw[e,he];rfl,by rw[hq];exact Nat.le_refl _,λy hy=>(by cases hy),λv hv=>by rw[hq]at hv;cases hv⟩,λ_ i _=>by rw[e,hm]⟩
 ·have hcl:=Classical.byContradiction fun k=>hq (I0.cl k)
  have hz:al2 c s0->∀i,i<c.S->(s0.m.sl i).st=3:=by
   intro z i hi;have h1:=I0.st i hi;have h2:=I0.fr hq i hi;have h3:=z i hi;unfold frees at h2;cases hb:(s0.m.sl i).brk
   ·rw[hb]at h2
    rcases h1 with h|h|h
    ·exact absurd (.inl h) h2
    ·exact absurd (.inr ⟨h,rfl⟩) h2
    ·exact h
   ·rw[hb]at h3
    rcases h1 with h|h|h
    ·exact absurd (.inl h) h2
    ·exact absurd ⟨h,rfl⟩ h3
    ·exact h
  have Q1:GqS c (al2 c s0) s0 s1:=by
   refine⟨by rw[hm];exact hcl,λv=>by rw[hm,I0.gr v];exact Int.le_refl _,λ_=>⟨by rw[hm],λv=>by rw[hm];exact I0.gr v⟩,λv=> ?_,[],by rw[he];rfl,λy hy=>(by cases hy),λv hv hp=> ?_⟩
   ·rw[hw]
    unfold GqP;rcases I0.ph v with h|⟨h,_⟩<;>rw[h]<;>trivial
   ·rw[hw,I0.qu v hv]at hp
    cases hp
  have Q2:=ana Q1 G1 hz hW hS hK R;obtain⟨new,e1,e2,e3⟩:=Q2.ev;have e4:=λv hv=>e3 v hv (p2 v)
  refine⟨p2,q2,⟨new,e1,?_,e2,e4⟩,λk i hi=>by rw[(Q2.z0 k).1]⟩
  have:=aj6 s0.m.qu (new.map (·.who)) G0.x.nx.all.nd λv hv=>by
   obtain⟨y,h1,h2⟩:=e4 v hv;exact List.mem_map.2 ⟨y,h1,h2⟩
  rw[List.length_map]at this;exact this
end
noncomputable section
open Go.RowKit Go.bn Go.Sx Yq
attribute [local go_sem ↓] Go.wp_at_zero Go.wp_at_succ
theorem ahB:∀(n:Nat) (l:List Nat),l.length<=n->(∀a∈l,a<=14)->au l<(16:Int)^n
 |0,[],_,_=>by decide
 |n+1,[],_,_=>by
  have:=ahB n [] (Nat.zero_le _) (λa h=>by cases h)
  rw[Int.pow_succ];have e:au []=0:=rfl;omega
 |n+1,a::r,h,ha=>by
  have h1:=ahB n r (by simpa using h) λx hx=>ha x (List.mem_cons_of_mem _ hx)
  have h2:=ha a (List.mem_cons_self ..);show((a:Int)+1)+16*au r<(16:Int)^(n+1);rw[Int.pow_succ];omega
set_option maxHeartbeats 1000000 in
theorem alT{l:List Nat}(h:dZ l)(w:World):Calls Tryz.prog 32 #[.int .i64 (au l)] w λr w'=>(∃v,r=.returned v/\w'.ownsRow w.heap.size 3 1 v l.length (l.map λa:Nat=>Value.int .i64 (a:Int)))/\Below w.heap.size w w':=by
 obtain⟨i0,hi,hz0,hz1,hz2⟩:=info_parts Tryz.info3;go_enter Tryz.func32,Tryz.ntmps32
 go_wp2
 go_loopw [0,3] (fun q v wr=>∃k:Nat,k<=l.length/\q=.int .i64 (au (l.drop k))/\wr.ownsRow w.heap.size 3 1 v k ((l.take k).map fun a:Nat=>Value.int .i64 (a:Int))/\Below w.heap.size w wr)
  (λq _ _=>(intOf q).toNat)
 case atStart=>exact⟨0,Nat.zero_le _,rfl,World.ownsRow_nil _ _ _ _,Below.refl _ _⟩
 case round=>
  obtain⟨k,hk,rfl,hown,hB⟩:=hrel;have hsz:=hB.size;by_cases hlt:k<l.length
  ·have ed:l.drop k=l[k]::l.drop (k+1):=List.drop_eq_getElem_cons hlt
   have et:l.take (k+1)=l.take k++[l[k]]:=List.take_succ_eq_append_getElem hlt;have ha:=h.2 _ (List.getElem_mem hlt);have hr:=l8 (l.drop (k+1));rw[ed];show _;obtain⟨q,hq⟩:∃q,q=au (l[k]::l.drop (k+1)):=⟨_,rfl⟩;have hq2:q=((l[k]:Nat):Int)+1+16*au (l.drop (k+1)):=hq;obtain⟨r,hrr⟩:∃r,r=au (l.drop (k+1)):=⟨_,rfl⟩;obtain⟨a,nQ⟩:∃a:Int,a=((l[k]:Nat):Int):=⟨_,rfl⟩;rw[<-hq];rw[<-hrr]at hr hq2;rw[<-nQ]at hq2;have ha2:0<=a/\a<=14:=by omega
   have q0:0<q:=by omega
   have q1:0<q%16:=by omega
   have q2:q%16-1=a:=by omega
   have q3:q/16=r:=by omega
   have as2:q<1152921504606846976:=by
    have:=ahB 15 (l.drop k) (by rw[List.length_drop];have:=h.1;omega) λx hx=>h.2 x (List.mem_of_mem_drop hx)
    rw[ed, <-hq]at this;exact this
   have HO:=Lib.hid hown;have HT:=Lib.hid (And.intro et (And.intro nQ (And.intro hrr hq2)));clear hown et nQ hrr hq hq2 ed ha hr;go_wp2_with (at_builtin;refine wpList_append_own _ rfl _ _ 35 rfl w.heap.size 3 i0 (.int .i64 0) 1 8 Tryz.underlying35 hi hz0 hz1 hz2 rfl (by decide) _ _ _ rfl (HO.out.alloc _) ⟨wr.heap.size,0,none⟩ 1 1 [.int .i64 a] rfl rfl ?c1 ?c2 ?c3 ?c4 ?c5 ?_)
   case c1=>exact cell_one_new _ _ _
   case c2=>simp[Value.oneCell']
   case c3=>have:=h.1;unfold maxLen;omega
   case c4=>have:=h.1;omega
   case c5=>simp;omega
   intro v' w3 hown3 hgr _
   have hgrow:Below w.heap.size w w3:=(hB.alloc hsz _).grown hgr (by simp;omega) (λj e=>by
    rcases HO.out.2 with⟨rfl,_⟩|⟨g,cap,cur,rfl,hg,_⟩
    ·simp[Value.ownBlock]at e
    ·simp[Value.ownBlock]at e;omega)
   clear hgr;obtain⟨g',cap',rfl⟩:=ownsRow_succ hown3;have HO3:=Lib.hid hown3;clear hown3;go_wp2
   go_roundw
   case rel=>
    refine⟨k+1,hlt,by rw[q3,HT.out.2.2.1],?_,hgrow⟩
    have:=HO3.out;rw[<-List.map_take]at this;rw[HT.out.1,List.map_append,List.map_cons,List.map_nil, <-HT.out.2.1];exact this
   case measure=>
    have:=HT.out.2.2.2;simp[intOf];omega
  ·obtain rfl:k=l.length:=by omega
   rw[List.drop_length];rw[List.take_length]at hown;have HO:=Lib.hid hown;clear hown;show _;have e0:au []=0:=rfl;rw[e0];go_wp2
   go_ret
   exact⟨⟨_,rfl,HO.out⟩,hB⟩
structure adD(w:World)(A:Option Addr)(l:List Nat)(B:Nat):Prop where
 at_:∀(k a:Nat),l[k]?=some a->∃g,A=some ⟨g,0,none⟩/\B<=g/\g<w.heap.size/\w.cell? ⟨g,k,none⟩=some (.int .i64 (a:Int))
theorem aoa{w:World}{B:Nat}{v:Value}{l:List Nat}(h:w.ownsRow B 3 1 v l.length (l.map λa:Nat=>Value.int .i64 (a:Int))):∃A cap,v=.slice A l.length cap/\adD w A l B:=by
 rcases h.2 with⟨rfl,h0⟩|⟨g,cap,cur,rfl,hB,hg,hn,hcap,hsz,ht⟩
 ·refine⟨none,0,by rw[h0],⟨fun k a hk=> ?_⟩⟩
  have:=List.eq_nil_of_length_eq_zero h0;rw[this]at hk;cases hk
 ·refine⟨_,cap,rfl,⟨fun k a hk=>⟨g,rfl,hB,(Array.getElem?_eq_some_iff.1 hg).1,?_⟩⟩⟩
  have hk':k<l.length:=(List.getElem?_eq_some_iff.1 hk).1;have e1:(l.map λa:Nat=>Value.int .i64 (a:Int))[k]?=some (.int .i64 (a:Int)):=by rw[List.getElem?_map,hk];rfl
  rw[<-ht,List.getElem?_take_of_lt (by omega)]at e1
  rw[cell_of hg];simpa using e1
theorem adD.kept{P:Nat->Prop}{w w':World}{A:Option Addr}{l:List Nat}{B:Nat}(h:adD w A l B)(hk:Kept P w w')(hP:∀j,B<=j->j<w.heap.size->P j):adD w' A l B:=⟨λk a ha=>by
 obtain⟨g,e,h1,h2,h3⟩:=h.at_ k a ha;exact⟨g,e,h1,Nat.lt_of_lt_of_le h2 hk.size,(Kept.cell hk (hP g h1 h2) _).trans h3⟩⟩
theorem akk{c:Cn}{s:Ms}{e:Int}{D:Nat->Prop}{b:Nat}{w:World}(hL:Live c s e D b w):Calls Tryz.prog 15 #[.pointer (some ⟨b,0,none⟩)] w λr w'=>(∃A cap,r=.returned (.slice A s.m.qu.length cap)/\adD w' A s.m.qu w.heap.size)/\Below w.heap.size w w':=by
 have hwd:=hL.wds;obtain⟨k,_,hN,_⟩:=hL.good.nx;have hlo:dZ s.m.qu:=hN.ln.line (by have:=hL.good.W.2;omega)
 have hli:=λw=>alT hlo w
 have n2:¬((nC c:Nat):Int)<2:=by unfold nC;omega
 have n1:(1:Int)<((nC c:Nat):Int):=by unfold nC;omega
 have HN:=Lib.hid hN;clear hN hL;go_enter Tryz.func15,Tryz.ntmps15
 go_wp2_with (first
  |(go_at_call 11;refine hwd.mono ?_;rintro r w1 ⟨g,cap,rfl,hg1,hg2,hcells,hb1,hL1⟩;have q1:=hcells 1 _ rfl)
  |(go_at_call 32;refine(hli _).mono ?_;rintro r w2 ⟨⟨v,rfl,hv⟩,hb2⟩;obtain⟨A,cp,rfl,hA⟩:=aoa hv))
 go_ret
 refine⟨⟨_,_,rfl,⟨λk a ha=> ?_⟩⟩,hb1.trans (hb2.mono hb1.size)⟩
 obtain⟨g',e,h1,h2,h3⟩:=hA.at_ k a ha;exact⟨g',e,Nat.le_trans hb1.size h1,h2,h3⟩
theorem al1{c:Cn}{m:Mm}(hS:c.S<=5){gs o cp:Nat}(w:World)(hsc:∀i j u,i<c.S->(aaF (m.sl i))[j]?=some u->w.cell? ⟨gs,o+(i*9+j),none⟩=some u):
  Calls Tryz.prog 16 #[.slice (some ⟨gs,o,none⟩) c.S cp] w λr w'=>(∃n:Int,r=.returned (.int .i64 n)/\(n=0↔∀i,i<c.S->¬((m.sl i).st=2/\(m.sl i).brk=true)))/\Below w.heap.size w w':=by
 obtain⟨S,hSe⟩:∃S,S=c.S:=⟨_,rfl⟩;rw[<-hSe]at hS hsc ⊢;have HS:=Lib.hid hsc;clear hsc hSe;go_enter Tryz.func16,Tryz.ntmps16
 go_wp2
 go_loopw [3,4] (fun v3 v4 wr=>∃(k:Nat) (n:Int),k<=S/\v4=.int .i64 (k:Int)/\v3=.int .i64 n/\0<=n/\n<=k/\(n=0↔∀i,i<k->¬((m.sl i).st=2/\(m.sl i).brk=true))/\wr=w)
  (λ_ i _=>S-(intOf i).toNat)
 case atStart=>exact⟨0,0,Nat.zero_le _,rfl,rfl,Int.le_refl _,Int.le_refl _,⟨λ_ i hi=>(by omega),λ_=>rfl⟩,rfl⟩
 case round=>
  obtain⟨k,n,hk,rfl,rfl,hn0,hnk,hn,hwr⟩:=hrel;subst hwr;by_cases hlt:k<S
  ·have c0:=HS.out k 0 _ hlt rfl
   have c3:=HS.out k 3 _ hlt rfl;rw[<-Nat.add_assoc]at c0 c3;rw[Nat.add_zero]at c0;have hki:(k:Int)<(S:Int):=by omega
   have HN:=Lib.hid hn;clear hn;by_cases h2:(m.sl k).st=2
   ·rw[h2]at c0
    cases hb:(m.sl k).brk with
    |true=>
     rw[hb]at c3;have H2:=Lib.hid (And.intro h2 hb);clear h2 hb;go_wp2
     go_roundw
     case rel=>exact⟨k+1,n+1,hlt,by go_num,by go_num,by omega,by omega,⟨λh=>by omega,λh=>absurd H2.out (h k (Nat.lt_succ_self k))⟩,by first|rfl|trivial⟩
     case measure=>simp[intOf];omega
    |false=>
     rw[hb]at c3;have H2:=Lib.hid hb;clear h2 hb;go_wp2
     go_roundw
     case rel=>
      refine⟨k+1,n,hlt,by go_num,by go_num,hn0,by omega,⟨λh i hi=> ?_,λh=>HN.out.2 λi hi=>h i (by omega)⟩,by first|rfl|trivial⟩
      by_cases e:i=k
      ·rw[e,H2.out];exact λh=>by cases h.2
      ·exact HN.out.1 h i (by omega)
     case measure=>simp[intOf];omega
   ·generalize hst:(m.sl k).st=st at c0 h2
    have H2:=Lib.hid hst;clear hst;go_wp2
    go_roundw
    case rel=>
     refine⟨k+1,n,hlt,by go_num,by go_num,hn0,by omega,⟨λh i hi=> ?_,λh=>HN.out.2 λi hi=>h i (by omega)⟩,by first|rfl|trivial⟩
     by_cases e:i=k
     ·rw[e,H2.out];exact λh=>h2 h.1
     ·exact HN.out.1 h i (by omega)
    case measure=>simp[intOf];omega
  ·obtain rfl:k=S:=by omega
   have HN:=Lib.hid hn;clear hn;go_wp2
   go_ret
   exact⟨⟨n,rfl,HN.out⟩,Below.refl _ _⟩
end
noncomputable section
open Go.RowKit Go.bn Go.Sx Yq
variable{c:Cn} {s s' s0:Ms} {e:Int} {D:Nat->Prop} {b:Nat} {w w':World}
def ahk:En:=⟨2,0,0,Ask.zero,300,false⟩
def later(s:Ms):Ms:={s with now:=xg s.now 300}
theorem akD:dX c s ahk=(true,later s):=by
 unfold dX;rw[if_neg (show¬ahk.kind=0 by show¬(2:Int)=0;decide),if_neg (show¬ahk.kind=1 by show¬(2:Int)=1;decide)]
 exact if_pos rfl
theorem an5:wY c ahk:=⟨⟨by show(0:Int)<=2;decide,by show(2:Int)<=5;decide⟩,⟨by show(-1:Int)<=0;decide,by show(0:Int)<=c.W;omega⟩,Int.le_refl _⟩
theorem akC{n:Int}(hG:Wg c n s)(hn:n<=1000000000)(S0:Still c s)(hW:1<=c.W/\c.W<=4)(hS:1<=c.S/\c.S<=5)(ht:s.now<=1099511627776):All c (later s)/\∀s2,Reach c (later s) s2->Still c s2->TmL c s s2:=by
 obtain⟨_,K,hK,G⟩:=hG
 have G1:GyS c (later s) (K+1):=by
  have:=amf G (by omega) hS.1 (by omega) ahk (by show(0:Int)<=255;decide)
  rw[akD]at this;exact this
 have G0:GyS c s (K+1):=by
  obtain⟨⟨nx,out,wt,cl,tc,rs,dl,cm,rt,ep,pp,kd,lb,pn⟩,pf,d,nw⟩:=G;exact⟨⟨⟨nx.all,nx.pn,λi hi=>NY (Nat.le_succ K) (nx.wr i hi)⟩,out,wt,cl,tc,rs,dl,cm,⟨⟨rt.eb.1,by have:=rt.eb.2;omega⟩,rt.rp,rt.ee⟩,ep,pp,kd,lb,pn⟩,pf,d,nw⟩
 have l:=Yj G1.x.nx.all.inv G1.x.nx.all.nd hW.1 hW.2 hS.1 hS.2
 have l2:10000*c.W*(c.S+c.W)<=360000:=by
  have:=Nat.mul_le_mul (Nat.mul_le_mul_left 10000 hW.2) (Nat.add_le_add hS.2 hW.2);omega
 refine⟨G1.x.nx.all,λs2 R S2=>al8 (s1:=later s) G0 S0 rfl rfl rfl ?_ G1 (by omega) hS.1 (by omega) R S2⟩
 show 300<=xg s.now 300;unfold xg;have:=G.now;omega
structure EvS(w:World)(A:Option Addr)(l:List Ev)(B:Nat):Prop where
 at_:∀k:Nat,k<l.length->∃(g:Nat) (x:Ev),A=some ⟨g,0,none⟩/\B<=g/\g<w.heap.size/\l[l.length-1-k]?=some x/\w.cell? ⟨g,k*18,none⟩=some (.bool x.ended)/\w.cell? ⟨g,k*18+1,none⟩=some (.int .i64 (x.who:Int))/\w.cell? ⟨g,k*18+10,none⟩=some (.int .i64 x.ans.e)
theorem apD{B:Nat}{v:Value}{l:List Ev}{A:Nat->Int}(ho:w.ownsRow B 68 18 v l.length (zy A l)):∃A cap,v=.slice A l.length cap/\EvS w A l B:=by
 have h:=K3 ho;by_cases hl:l=[]
 ·obtain⟨_,k⟩:=ho
  rcases k with⟨rfl,h0⟩|⟨g,cap,cur,rfl,_⟩
  ·exact⟨none,0,by rw[h0],⟨λk hk=>by omega⟩⟩
  ·exact⟨_,cap,rfl,⟨λk hk=>by rw[hl]at hk;exact absurd hk (Nat.not_lt_zero k)⟩⟩
 ·obtain⟨g,cap,rfl,h2,h3,h4,h5⟩:=h.row hl
  refine⟨_,cap,rfl,⟨λk hk=> ?_⟩⟩
  obtain⟨x,a,h6,h7⟩:=h5 k hk;exact⟨g,x,rfl,h3,h4,h6,h7 0 _ rfl,h7 1 _ rfl,h7 10 _ rfl⟩
theorem Live.evs(h:Live c s e D b w)(he:e<=1000000000):Calls Tryz.prog 17 #[.pointer (some ⟨b,0,none⟩)] w λr w'=>(∃A cap,r=.returned (.slice A s.ev.length cap)/\EvS w' A s.ev w.heap.size)/\Below w.heap.size w w'/\Live c s e D b w':=by
 refine(Live.events h he).mono λr w' hh=> ?_
 obtain⟨v',A,rfl,ho,hb,hl⟩:=hh;obtain⟨A',cap,rfl,hE⟩:=apD ho;exact⟨⟨A',cap,rfl,hE⟩,hb,hl.mono (λj hj=>.inl hj) h.kt⟩
end
noncomputable section
open Go.RowKit Go.bn Go.Sx Yq
attribute [local go_sem ↓] Go.wp_at_zero Go.wp_at_succ
theorem Dq.below'{w w':World}{A:Option Addr}{n:Nat}(h:Dq w A n)(hb:Below w.heap.size w w'):Dq w' A n:=⟨λk hk=>by
 obtain⟨g,off,u0,u1,u2,u3,u4,u5,e,hg,hu,t0,t1,t2,t3,t4,t5⟩:=h.at_ k hk;exact⟨g,off,u0,u1,u2,u3,u4,u5,e,Nat.lt_of_lt_of_le hg hb.size,hu,(hb.cell (p:=⟨g,_,none⟩) hg).trans t0,(hb.cell (p:=⟨g,_,none⟩) hg).trans t1,(hb.cell (p:=⟨g,_,none⟩) hg).trans t2,(hb.cell (p:=⟨g,_,none⟩) hg).trans t3,(hb.cell (p:=⟨g,_,none⟩) hg).trans t4,(hb.cell (p:=⟨g,_,none⟩) hg).trans t5⟩⟩
theorem adD.below{w w':World}{A:Option Addr}{l:List Nat}{B:Nat}(h:adD w A l B)(hb:Below w.heap.size w w'):adD w' A l B:=h.kept (Kept.of_below hb) λj _ hj=>hj
theorem aog{l new old:List Ev}{v:Nat}(h:l=new++old)(hv:∃y,y∈new/\y.who=v):∃k x,old.length<=k/\k<l.length/\l[l.length-1-k]?=some x/\x.who=v:=by
 obtain⟨y,hy,e⟩:=hv;obtain⟨j,hj,rfl⟩:=List.mem_iff_getElem.1 hy;have hl:l.length=new.length+old.length:=by rw[h,List.length_append]
 refine⟨l.length-1-j,new[j],by omega,by omega,?_,e⟩
 have ej:l.length-1-(l.length-1-j)=j:=by omega
 rw[ej,h,List.getElem?_append_left hj,List.getElem?_eq_getElem hj]
theorem apB{l new old:List Ev}{k:Nat}{x:Ev}(h:l=new++old)(h1:old.length<=k)(h2:k<l.length)(hx:l[l.length-1-k]?=some x):x∈new:=by
 have hl:l.length=new.length+old.length:=by rw[h,List.length_append]
 have hlt:l.length-1-k<new.length:=by omega
 rw[h]at hx;rw[h]at hlt;rw[List.getElem?_append_left hlt]at hx;exact List.mem_of_getElem? hx
set_option maxRecDepth 4000 in
set_option maxHeartbeats 8000000 in
theorem alP{a1 a2 a3 a4 a5:Int}(h1:U8 a1)(h2:U8 a2)(h3:U8 a3)(h4:U8 a4)(h5:U8 a5)(HW:∀W v,1<=W->W<=4->v<W->fZ W v){A A':Option Addr}{n cap n' cap':Nat}(w:World)(hT:TT w)(hA:Dq w A n)(hO:oP (· <w.heap.size) w A' n'):
  Calls Tryz.prog 6 #[.agg #[.int .u8 a1,.int .u8 a2,.int .u8 a3,.int .u8 a4,.int .u8 a5],.slice A n cap,.slice A' n' cap'] w λr w'=>r=.returned (.bool true)/\Below w.heap.size w w':=by
 obtain⟨hR,uF,hS5⟩:=Df h1 h2 h3 h4 h5;obtain⟨c,hc⟩:∃c,c=Jy a1 a2 a3 a4 a5:=⟨_,rfl⟩;rw[<-hc]at hR uF hS5;have l2:=hT.lt 2 (.inr rfl);have hB0:∀o,Below w.heap.size w (w.alloc o):=λo=>(Below.refl _ w).alloc (Nat.le_refl _) o
 have haw:∀o,Calls Tryz.prog 7 #[] (w.alloc o) λr w'=>r=.returned (.bool true)/\Below (w.heap.size+1) (w.alloc o) w':=λo=>by
  have q:=ZO (λv hv=>HW 2 v (by decide) (by decide) hv) (w.alloc o) (nG hT (hB0 o) l2)
  rw[show(w.alloc o).heap.size=w.heap.size+1 by simp]at q
  exact q
 have ahr:∀W,Calls Tryz.prog 8 #[.slice A n cap,.slice A' n' cap'] W λr w'=>aid n n' r/\Below W.heap.size W w':=λW=>afz W
 have HA:=Lib.hid (And.intro hA (And.intro hO hT));have HC:=Lib.hid (And.intro hc (And.intro hR hB0));have HU:=Lib.hid (And.intro h1 (And.intro h2 (And.intro h3 (And.intro h4 h5))));clear hA hO hc hT hB0 hR h1 h2 h3 h4 h5;go_enter Tryz.func6,Tryz.ntmps6
 go_upto_region 3 with(first
  |(go_at_call 7;refine(haw _).mono ?_;rintro r w1 ⟨rfl,hb1⟩)
  |(go_at_call 8;refine(ahr _).mono ?_;rintro r w2 ⟨⟨x,rfl,hx⟩,hb2⟩))
 have hG1:w1.heap[w.heap.size]?=some (.cells #[.int .u8 a1,.int .u8 a2,.int .u8 a3,.int .u8 a4,.int .u8 a5] 23 (0,0)):=by
  rw[hb1.block _ (Nat.lt_succ_self _)];simp[qU,Array.getElem?_push]
 have hG2:=(hb2.block _ (gQ hG1)).trans hG1;have hB2:Below w.heap.size w w2:=((HC.out.2.2 _).trans (hb1.mono (Nat.le_succ _))).trans (hb2.mono (Nat.le_of_lt (gQ hG1)));have HB2:=Lib.hid hB2;have g0:w2.cell? ⟨w.heap.size,0,none⟩=some (.int .u8 a1):=by rw[cell_of hG2];rfl
 have g1:w2.cell? ⟨w.heap.size,1,none⟩=some (.int .u8 a2):=by rw[cell_of hG2];rfl
 have g2:w2.cell? ⟨w.heap.size,2,none⟩=some (.int .u8 a3):=by rw[cell_of hG2];rfl
 have g3:w2.cell? ⟨w.heap.size,3,none⟩=some (.int .u8 a4):=by rw[cell_of hG2];rfl
 have g4:w2.cell? ⟨w.heap.size,4,none⟩=some (.int .u8 a5):=by rw[cell_of hG2];rfl
 clear hb1 hb2 hG1 hG2 haw ahr hB2;cases x with
 |false=>
  go_wp2
  refine bodyPost_ret (v:=.bool true) (by simp[results,Tryz.f6,go_sem]) rfl ?_
  exact⟨rfl,HB2.out⟩
 |true=>
  obtain⟨hn,hn'⟩:=hx rfl;have rQ:TT w2:=nG HA.out.2.2 HB2.out l2
  have hw1:1<=c.W:=by
   have:=HC.out.2.1.w;unfold iM at this;simp only at this;omega
  have hs1:1<=c.S:=by
   have:=HC.out.2.1.s;unfold iM at this;simp only at this;omega
  have hO2:oP (· <w2.heap.size) w2 A' n':=(HA.out.2.1.of_below (λj hj=>hj) HB2.out).mono λj hj=>Nat.lt_of_lt_of_le hj HB2.out.size
  have HWc:=λv hv=>HW c.W v hw1 uF hv
  have hrest:=aaV HU.out.1 HU.out.2.1 HU.out.2.2.1 HU.out.2.2.2.1 HU.out.2.2.2.2 HC.out.1 HWc (cap:=cap) (cap':=cap') hn hn' w2 rQ (HA.out.1.below' HB2.out) hO2;have HO2:=Lib.hid hO2;have HWW:=Lib.hid HWc;clear hx hO2 HWc;go_upto_region 6 with(go_at_call 9;refine hrest.mono ?_;rintro r w3 ⟨b,rfl,hb3,hl3⟩)
  clear g0 g1 g2 g3 g4 hrest;obtain⟨s,e,Qc,hWg,hSt,hL,he⟩:=hl3;refine jY λW3 hW3=> ?_
  have hL3:Live c s e (more (· <w2.heap.size) w3 W3) b W3:=by
   rw[hW3];exact Live.below hL ((Below.refl _ w3).alloc (Nat.le_refl _) _)
  have hD3:more (· <w2.heap.size) w3 W3 w3.heap.size:=.inr ⟨Nat.le_refl _,by rw[hW3];simp⟩
  have wM:W3.heap[w3.heap.size]?=some (.cells (dI c).toArray 30 (0,0)):=by rw[hW3];simp[qU,Array.getElem?_push]
  have amU:Below w2.heap.size w2 W3:=by
   rw[hW3];exact hb3.trans ((Below.refl _ w3).alloc hb3.size _)
  have hB3:Below w.heap.size w W3:=HB2.out.trans (amU.mono HB2.out.size);obtain⟨D,hDe⟩:∃D,D=more (· <w2.heap.size) w3 W3:=⟨_,rfl⟩
  have hD2:∀j,j<w2.heap.size->D j:=λj hj=>by rw[hDe];exact .inl hj
  rw[<-hDe]at hL3 hD3;have hO3:oP D W3 A' n':=(HO2.out.of_below (λj hj=>hj) amU).mono hD2
  have c0:W3.cell? ⟨w3.heap.size,0,none⟩=some (.int .i64 (c.W:Int)):=by rw[cell_of wM];rfl
  have c1:W3.cell? ⟨w3.heap.size,1,none⟩=some (.int .i64 (c.S:Int)):=by rw[cell_of wM];rfl
  have c2:W3.cell? ⟨w3.heap.size,2,none⟩=some (.int .i64 c.st):=by rw[cell_of wM];rfl
  have c3:W3.cell? ⟨w3.heap.size,3,none⟩=some (.int .i64 (c.wt:Int)):=by rw[cell_of wM];rfl
  have c4:W3.cell? ⟨w3.heap.size,4,none⟩=some (.int .i64 c.u):=by rw[cell_of wM];rfl
  have hlat:=akC hWg (by omega) hSt ⟨hw1,uF⟩ ⟨hs1,hS5⟩ hL3.good.tm.2
  have hli:=akk hL3;have HS:=Lib.hid (And.intro Qc (And.intro hlat (And.intro hL3 (And.intro wM (And.intro hB3 (And.intro hD3 (And.intro hD2 hO3)))))));clear hW3 hb3 amU hL rQ Qc hWg hSt hlat hL3 wM hB3 hD3 hDe hD2 hO3;go_upto_region 9 with(go_at_call 15;refine hli.mono ?_;rintro r w4 ⟨⟨AL,as5,rfl,hLn⟩,hb4⟩)
  have hL4:Live c s e D b w4:=(Live.below HS.out.2.2.1 hb4).mono (λj hj=>.inl hj) HS.out.2.2.1.kt
  have hwd:=hL4.wds;have H4:=Lib.hid (And.intro hLn (And.intro hb4 hL4));clear hLn hb4 hL4 hli c0 c1 c2 c3 c4;go_upto_region 10 with(go_at_call 11;refine hwd.mono ?_;rintro r w5 ⟨g5,cap5,rfl,hg1,hg2,hcells,hb5,hL5⟩)
  have hev:=hL5.evs (by omega)
  have H5:=Lib.hid (And.intro hg2 (And.intro hcells (And.intro hb5 (And.intro hL5 hg1))));clear hg1 hg2 hcells hb5 hL5 hwd;go_upto_region 11 with(go_at_call 17;refine hev.mono ?_;rintro r w6 ⟨⟨AE,as6,rfl,hE⟩,hb6,hL6⟩)
  have amT:Below W3.heap.size W3 w6:=(H4.out.2.1.trans (H5.out.2.2.1.mono H4.out.2.1.size)).trans (hb6.mono (Nat.le_trans H4.out.2.1.size H5.out.2.2.1.size));have hw6:∀k x,(aC c s.m)[k]?=some x->w6.cell? ⟨g5,k,none⟩=some (.int .i64 x):=λk x hx=>(hb6.cell (p:=⟨g5,k,none⟩) H5.out.1).trans (H5.out.2.1 k x hx)
  have hg6:g5<w6.heap.size:=Nat.lt_of_lt_of_le H5.out.1 hb6.size;have hsl:=Ro HC.out.2.1 HS.out.1.inv.m.1 (cap:=cap5) w6 hL6.tt.1 hg6 hw6;have hC6:w6.heap[w3.heap.size]?=some (.cells (dI c).toArray 30 (0,0)):=(amT.block _ (gQ HS.out.2.2.2.1)).trans HS.out.2.2.2.1;have c0:w6.cell? ⟨w3.heap.size,0,none⟩=some (.int .i64 (c.W:Int)):=by rw[cell_of hC6];rfl
  have c1:w6.cell? ⟨w3.heap.size,1,none⟩=some (.int .i64 (c.S:Int)):=by rw[cell_of hC6];rfl
  have c2:w6.cell? ⟨w3.heap.size,2,none⟩=some (.int .i64 c.st):=by rw[cell_of hC6];rfl
  have c3:w6.cell? ⟨w3.heap.size,3,none⟩=some (.int .i64 (c.wt:Int)):=by rw[cell_of hC6];rfl
  have c4:w6.cell? ⟨w3.heap.size,4,none⟩=some (.int .i64 c.u):=by rw[cell_of hC6];rfl
  have hbr:=λgs o cp W hsc=>al1 (c:=c) (m:=s.m) hS5 (gs:=gs) (o:=o) (cp:=cp) W hsc
  have H56:=Lib.hid hb6;have H6:=Lib.hid (And.intro amT (And.intro hw6 (And.intro hg6 (And.intro hC6 hL6))));clear amT hw6 hg6 hC6 hb6 hL6 hE hev
  go_upto_region 12 with(first
   |(go_at_call 12;refine hsl.mono ?_;rintro r w7 ⟨⟨gs,o,cp,rfl,hgs,hgs0,hsc⟩,hb7⟩)
   |(go_at_call 16;refine(hbr _ _ _ _ hsc).mono ?_;rintro r w8 ⟨⟨lay,rfl,aoY⟩,hb8⟩))
  have ahD:Below W3.heap.size W3 w8:=(H6.out.1.trans (hb7.mono H6.out.1.size)).trans (hb8.mono (Nat.le_trans H6.out.1.size hb7.size));have hL8:Live c s e (more D W3 w8) b w8:=Live.below HS.out.2.2.1 ahD;have hdo:=hL8.MC HWW.out (by omega) ahk an5
  rw[akD]at hdo;have H8:=Lib.hid (And.intro ahD (And.intro aoY (And.intro hb7 hb8)));clear ahD aoY hb7 hb8 hsc hgs hgs0 hsl hbr hL8 c0 c1 c2 c3 c4;go_upto_region 13 with(go_at_call 18;refine hdo.mono ?_;rintro r w9 ⟨rfl,hk9,hL9⟩)
  have hD8:∀j,D j->more D W3 w8 j:=λj hj=>.inl hj
  have hC8:w8.heap[w3.heap.size]?=some (.cells (dI c).toArray 30 (0,0)):=(H8.out.1.block _ (gQ HS.out.2.2.2.1)).trans HS.out.2.2.2.1;have hC9:w9.heap[w3.heap.size]?=some (.cells (dI c).toArray 30 (0,0)):=(hk9.block _ (hD8 _ HS.out.2.2.2.2.2.1)).trans hC8;have hO9:oP (more D W3 w8) w9 A' n':=((HS.out.2.2.2.2.2.2.2.of_below (λj hj=>HS.out.2.2.1.lt j hj) H8.out.1).mono hD8).kept hk9
  have hset:=EB HWW.out uF hS5 (cap:=cap') hn' w9 HS.out.2.1.1 hL9 (by omega) hO9
  have c0:w9.cell? ⟨w3.heap.size,0,none⟩=some (.int .i64 (c.W:Int)):=by rw[cell_of hC9];rfl
  have c1:w9.cell? ⟨w3.heap.size,1,none⟩=some (.int .i64 (c.S:Int)):=by rw[cell_of hC9];rfl
  have c2:w9.cell? ⟨w3.heap.size,2,none⟩=some (.int .i64 c.st):=by rw[cell_of hC9];rfl
  have c3:w9.cell? ⟨w3.heap.size,3,none⟩=some (.int .i64 (c.wt:Int)):=by rw[cell_of hC9];rfl
  have c4:w9.cell? ⟨w3.heap.size,4,none⟩=some (.int .i64 c.u):=by rw[cell_of hC9];rfl
  have H9:=Lib.hid (And.intro hk9 (And.intro hC9 hD8));clear hk9 hC9 hC8 hO9 hL9 hdo hD8;go_upto_region 14 with(go_at_call 19;refine hset.mono ?_;rintro r w10 ⟨rfl,hk10,s2,e2,aqa,api,apj,_,apm,he2⟩)
  have hTm:=HS.out.2.1.2 s2 apj api;have anA:=apm.wds;have H10:=Lib.hid (And.intro hk10 (And.intro hTm apm));clear hk10 hTm aqa api apj hset c0 c1 c2 c3 c4;go_upto_region 16 with(go_at_call 11;refine anA.mono ?_;rintro r w11 ⟨g11,asY,rfl,arx,ap9,ary,alu,am9⟩)
  have anJ:=am9.evs (by omega)
  have H11:=Lib.hid (And.intro alu am9);clear arx ap9 ary alu am9 anA;go_upto_region 17 with(go_at_call 17;refine anJ.mono ?_;rintro r w12 ⟨⟨A2,asX,rfl,apo⟩,ao',apl⟩)
  have ahD:=H8.out.1;have aoR:=H4.out.2.1.size;have hsz5:=H5.out.2.2.1.size;have ars:=H6.out.1.size;have anB:=ahD.size;have alV:=H8.out.2.2.1.size;have aoQ:=H8.out.2.2.2.size
  have hb48:Below w4.heap.size w4 w8:=by
   have q1:Below w4.heap.size w4 w5:=H5.out.2.2.1;have q2:Below w5.heap.size w5 w6:=H56.out;exact((q1.trans (q2.mono hsz5)).trans (H8.out.2.2.1.mono (Nat.le_trans hsz5 q2.size))).trans (H8.out.2.2.2.mono (Nat.le_trans (Nat.le_trans hsz5 q2.size) alV))
  have hin:∀j,W3.heap.size<=j->j<w8.heap.size->more D W3 w8 j:=λj h1 h2=>.inr ⟨h1,h2⟩
  have adx:Kept (more D W3 w8) w8 w10:=H9.out.1.trans H10.out.1;have adq:Below w10.heap.size w10 w12:=H11.out.1.trans (ao'.mono H11.out.1.size);have anN:adD w12 AL s.m.qu W3.heap.size:=((H4.out.1.below hb48).kept adx hin).below adq;have akm:W3.heap.size<=g5/\g5<w8.heap.size:=⟨Nat.le_trans aoR H5.out.2.2.2.2,Nat.lt_of_lt_of_le H6.out.2.2.1 (Nat.le_trans alV aoQ)⟩
  have aoN:∀k x,(aC c s.m)[k]?=some x->w12.cell? ⟨g5,k,none⟩=some (.int .i64 x):=λk x hx=>by
   have q8:w8.cell? ⟨g5,k,none⟩=some (.int .i64 x):=((H8.out.2.2.1.trans (H8.out.2.2.2.mono alV)).cell (p:=⟨g5,k,none⟩) H6.out.2.2.1).trans (H6.out.2.1 k x hx);have OZ:=(Kept.cell adx (hin _ akm.1 akm.2) k).trans q8;exact(adq.cell (p:=⟨g5,k,none⟩) (Nat.lt_of_lt_of_le akm.2 adx.size)).trans OZ
  have aps:w12.heap[w3.heap.size]?=some (.cells (dI c).toArray 30 (0,0)):=by
   have OZ:w10.heap[w3.heap.size]?=some (.cells (dI c).toArray 30 (0,0)):=(H10.out.1.block _ (H9.out.2.2 _ HS.out.2.2.2.2.2.1)).trans H9.out.2.1;exact(adq.block _ (gQ OZ)).trans OZ
  have hBx:Below w.heap.size w w12:=by
   have q1:Below W3.heap.size W3 w8:=ahD;have hD:∀j,j<w.heap.size->more D W3 w8 j:=λj hj=>.inl (HS.out.2.2.2.2.2.2.1 j (Nat.lt_of_lt_of_le hj HB2.out.size))
   have z3:=HS.out.2.2.2.2.1.size;have z8:=Nat.le_trans z3 anB;exact((HS.out.2.2.2.2.1.trans (q1.mono z3)).trans (adx.mono hD).below).trans (adq.mono (Nat.le_trans z8 adx.size))
  obtain⟨new,hn1,hn2,hn3,hn4⟩:=H10.out.2.1.ev;have HLn:=Lib.hid anN;have HE:=Lib.hid apo;have HV:=Lib.hid (And.intro hn1 (And.intro hn3 (And.intro hn4 hn2)));have ao3:g5<w12.heap.size:=Nat.lt_of_lt_of_le akm.2 (Nat.le_trans adx.size adq.size);have HX:=Lib.hid (And.intro aoN (And.intro aps (And.intro hBx apl)));have HG:=Lib.hid ao3;clear ao3;have hNi:(0:Int)<=(s.ev.length:Int):=Int.natCast_nonneg _;clear anN apo hn1 hn2 hn3 hn4 aoN aps hBx apl ao' ahD aoR hsz5 ars anB alV aoQ hb48 hin adx adq akm anJ;obtain⟨nl,hnl⟩:∃nl,nl=s.ev.length:=⟨_,rfl⟩;obtain⟨ml,hml⟩:∃ml,ml=s2.ev.length:=⟨_,rfl⟩;obtain⟨ll,hll⟩:∃ll,ll=s.m.qu.length:=⟨_,rfl⟩;rw[<-hnl, <-hml, <-hll]
  have as3:ml<=1000000000:=by
   obtain⟨kk,hkk,_,hle⟩:=HX.out.2.2.2.good.nx;omega
  have as4:ll<=15:=by
   obtain⟨kk,hkk,hN,_⟩:=HS.out.2.2.1.good.nx;have:=(hN.ln.line (by omega)).1
   omega
  have HNL:=Lib.hid (And.intro hnl (And.intro hml hll));clear hnl hml hll hNi;go_wp2
  go_loopw [17] (λv17 wr=>∃k:Nat,k<=ll/\v17=.int .i64 (k:Int)/\Below w12.heap.size w12 wr) (λv17 _=>ll-(intOf v17).toNat)
  case atStart=>exact⟨0,Nat.zero_le _,rfl,Below.refl _ _⟩
  case round=>
   obtain⟨k,hk,rfl,hbo⟩:=hrel;refine jY λWo hWo=> ?_
   rw[<-hWo]at hbo;clear hWo;by_cases hlt:k<ll
   ·have hki:(k:Int)<(ll:Int):=Int.ofNat_lt.2 hlt
    obtain⟨vN,hvN⟩:∃vN:Nat,s.m.qu[k]?=some vN:=⟨_,List.getElem?_eq_getElem (by rw[<-HNL.out.2.2];exact hlt)⟩
    obtain⟨gL,hAL,_,hgL,cL⟩:=HLn.out.at_ k vN hvN;subst hAL;obtain⟨k0,x0,p1,p2,p3,p4⟩:=aog HV.out.1 (HV.out.2.2.1 _ (List.mem_of_getElem? hvN));obtain⟨vv,hvv⟩:∃vv:Int,vv=(vN:Int):=⟨_,rfl⟩;rw[<-hvv]at cL;rw[<-HNL.out.1]at p1;have p2':k0<ml:=by rw[HNL.out.2.1];exact p2
    have HP:=Lib.hid (And.intro p3 (And.intro p4 hvv));have HCL:=Lib.hid cL;clear p2 p3 p4 hvv hvN cL;go_wp2
    go_loopw [18] (λv18 wi=>∃q:Nat,nl<=q/\q<=k0/\v18=.int .i64 (q:Int)/\Below w12.heap.size w12 wi) (λv18 _=>k0-(intOf v18).toNat)
    case atStart=>exact⟨nl,Nat.le_refl _,p1,rfl,hbo⟩
    case round=>
     obtain⟨q,hq0,hq,rfl,hbi⟩:=hrel;refine jY λWi hWi=> ?_
     rw[<-hWi]at hbi;clear hWi;have cL:=(hbi.cell (p:=⟨gL,k,none⟩) hgL).trans HCL.out;have hqM:(q:Int)<(ml:Int):=by omega
     obtain⟨gE,x,hAE,_,hgE,hx,e0,e1,e10⟩:=HE.out.at_ q (by rw[<-HNL.out.2.1];omega)
     subst hAE;have hxn:=apB HV.out.1 (by rw[<-HNL.out.1];exact hq0) (by rw[<-HNL.out.2.1];omega) hx
     obtain⟨hxe,hxk⟩:=HV.out.2.1 x hxn;rw[hxe]at e0;have e0:=(hbi.cell (p:=⟨gE,_,none⟩) hgE).trans e0;have e1:=(hbi.cell (p:=⟨gE,_,none⟩) hgE).trans e1;have e10:=(hbi.cell (p:=⟨gE,_,none⟩) hgE).trans e10;clear hxe hxn;by_cases hxv:(x.who:Int)=vv
     ·rw[hxv]at e1
      have HK:=Lib.hid hxk;generalize x.ans.e=xe at e10 HK;clear hx hxk hxv;rcases HK.out with h4|⟨hz,h06⟩
      ·subst h4
       go_wp2
       go_quiet (fail)
       go_wp2
       go_roundw
       case rel=>exact⟨k+1,hlt,by go_num,below_drewN hbi _⟩
       case measure=>simp[intOf];omega
      ·have hl0:¬lay=0:=fun h=>hz (H8.out.2.1.1 h)
       have arv:(lay==0)=false:=beq_false_of_ne hl0;have aru:decide (lay=0)=false:=decide_eq_false hl0;rcases h06 with h06|h06
       ·subst h06
        go_wp2
        go_quiet (fail)
        go_wp2
        go_roundw
        case rel=>exact⟨k+1,hlt,by go_num,below_drewN hbi _⟩
        case measure=>simp[intOf];omega
       ·subst h06
        go_wp2
        go_quiet (fail)
        go_wp2
        go_roundw
        case rel=>exact⟨k+1,hlt,by go_num,below_drewN hbi _⟩
        case measure=>simp[intOf];omega
     ·have hq1:q+1<=k0:=by
       rcases Nat.lt_or_ge q k0 with h|h
       ·exact h
       ·exfalso
        have e:q=k0:=by omega
        subst e;have:=HP.out.1;rw[hx]at this;obtain rfl:=Option.some.inj this;apply hxv;rw[HP.out.2.2,HP.out.2.1]
      generalize (x.who:Int)=xw at e1 hxv;have as0:(xw==vv)=false:=beq_false_of_ne hxv;have asZ:decide (xw=vv)=false:=decide_eq_false hxv;clear hx hxk e10;go_wp2
      go_quiet (fail)
      go_wp2
      go_roundw
      case rel=>exact⟨q+1,by omega,hq1,by go_num,below_drewN hbi _⟩
      case measure=>simp[intOf];omega
   ·have hki:¬(k:Int)<(ll:Int):=fun h=>hlt (Int.ofNat_lt.1 h)
    have hLo:Live c s2 e2 (more D W3 w8) b Wo:=(Live.below HX.out.2.2.2 hbo).mono (λj hj=>.inl hj) HX.out.2.2.2.kt
    have hwo:=hLo.wds;have HO:=Lib.hid (And.intro hbo hLo);clear hbo hLo;go_upto_region 29 with(go_at_call 11;refine hwo.mono ?_;rintro r w13 ⟨g13,asW,rfl,arw,anG,ao6,ao9,apk⟩)
    have anC:=HO.out.1.size;have alX:Below w12.heap.size w12 w13:=HO.out.1.trans (ao9.mono anC);have apr:w13.heap[w3.heap.size]?=some (.cells (dI c).toArray 30 (0,0)):=(alX.block _ (gQ HX.out.2.1)).trans HX.out.2.1;have HF:=Lib.hid (And.intro alX (And.intro apr (And.intro ao6 (And.intro anG apk))));have hS1:(c.S:Int)<=5:=by omega
    have hW1:(c.W:Int)<=4:=by omega
    clear alX apr ao6 arw anG ao9 apk anC hwo;go_wp2
    go_loopw [21] (λv21 wr=>∃k:Nat,k<=c.S/\v21=.int .i64 (k:Int)/\Below w13.heap.size w13 wr) (λv21 _=>c.S-(intOf v21).toNat)
    case atStart=>exact⟨0,Nat.zero_le _,rfl,Below.refl _ _⟩
    case round=>
     obtain⟨i,hi,rfl,hbj⟩:=hrel;refine jY λWj hWj=> ?_
     rw[<-hWj]at hbj;clear hWj;have hCj:Wj.heap[w3.heap.size]?=some (.cells (dI c).toArray 30 (0,0)):=(hbj.block _ (gQ HF.out.2.1)).trans HF.out.2.1;have c0:Wj.cell? ⟨w3.heap.size,0,none⟩=some (.int .i64 (c.W:Int)):=by rw[cell_of hCj];rfl
     have c1:Wj.cell? ⟨w3.heap.size,1,none⟩=some (.int .i64 (c.S:Int)):=by rw[cell_of hCj];rfl
     have c2:Wj.cell? ⟨w3.heap.size,2,none⟩=some (.int .i64 c.st):=by rw[cell_of hCj];rfl
     have c3:Wj.cell? ⟨w3.heap.size,3,none⟩=some (.int .i64 (c.wt:Int)):=by rw[cell_of hCj];rfl
     have c4:Wj.cell? ⟨w3.heap.size,4,none⟩=some (.int .i64 c.u):=by rw[cell_of hCj];rfl
     by_cases hli:i<c.S
     ·have hii:(i:Int)<(c.S:Int):=Int.ofNat_lt.2 hli
      have amS:=UM (c:=c) ⟨hw1,uF⟩ ⟨hs1,hS5⟩ (i:=(i:Int)) ⟨Int.natCast_nonneg i,hii⟩ Wj;obtain⟨at_,hat⟩:∃at_:Nat,at_=3+2*c.W+i:=⟨_,rfl⟩;have apb:3+(c.W:Int)+(c.W:Int)+(i:Int)=(at_:Int):=by omega
      rw[apb]at amS;have apa:at_<nC c:=by unfold nC;omega
      have asU:(at_:Int)<((nC c:Nat):Int):=Int.ofNat_lt.2 apa;have x5:=HX.out.1 at_ _ (by rw[hat];exact vY hli)
      have x13:=HF.out.2.2.1 at_ _ (by rw[hat];exact vY hli)
      have x5:=(hbj.cell (p:=⟨g5,at_,none⟩) (Nat.lt_of_lt_of_le HG.out HF.out.1.size)).trans ((HF.out.1.cell (p:=⟨g5,at_,none⟩) HG.out).trans x5);have x13:=(hbj.cell (p:=⟨g13,at_,none⟩) HF.out.2.2.2.1).trans x13;have ao2:g5<Wj.heap.size:=Nat.lt_of_lt_of_le (Nat.lt_of_lt_of_le HG.out HF.out.1.size) hbj.size;have anF:g13<Wj.heap.size:=Nat.lt_of_lt_of_le HF.out.2.2.2.1 hbj.size;have HB:=Lib.hid (And.intro hbj (And.intro x5 x13));clear x5 x13 hbj hat apb hCj apa;go_upto_region 33 with(go_at_call 25;refine amS.mono ?_;rintro r w14 ⟨rfl,alY⟩)
      have y5:=(alY.cell (p:=⟨g5,at_,none⟩) ao2).trans HB.out.2.1;have y13:=(alY.cell (p:=⟨g13,at_,none⟩) anF).trans HB.out.2.2;have akc:Below w13.heap.size w13 w14:=HB.out.1.trans (alY.mono HB.out.1.size);clear c0 c1 c2 c3 c4 amS alY ao2 anF;by_cases hl0:lay=0
      ·have hsl:=H10.out.2.1.sl (H8.out.2.1.1 hl0) i hli
       rw[hsl]at y13;clear hsl;generalize bH (s.m.sl i)=ww at y5 y13;have anm:=Lib.hid akc;subst hl0;clear akc;go_quiet (fail)
       go_wp2
       go_roundw
       case rel=>exact⟨i+1,hli,by go_num,below_drewN anm.out _⟩
       case measure=>simp[intOf];omega
      ·have arv:(lay==0)=false:=beq_false_of_ne hl0
       have aru:decide (lay=0)=false:=decide_eq_false hl0;have anm:=Lib.hid akc;clear akc y5 y13;go_quiet (fail)
       go_wp2
       go_roundw
       case rel=>exact⟨i+1,hli,by go_num,below_drewN anm.out _⟩
       case measure=>simp[intOf];omega
     ·have hii:¬(i:Int)<(c.S:Int):=fun h=>hli (Int.ofNat_lt.1 h)
      have HB:=Lib.hid hbj;clear hbj c0 c2 c3 c4 hCj;go_wp2
      go_loopw [23] (λv23 wr=>∃k:Nat,k<=c.W/\v23=.int .i64 (k:Int)/\Below w13.heap.size w13 wr) (λv23 _=>c.W-(intOf v23).toNat)
      case atStart=>exact⟨0,Nat.zero_le _,rfl,HB.out⟩
      case round=>
       obtain⟨v,hv,rfl,hbl⟩:=hrel;refine jY λWl hWl=> ?_
       rw[<-hWl]at hbl;clear hWl;have hCl:Wl.heap[w3.heap.size]?=some (.cells (dI c).toArray 30 (0,0)):=(hbl.block _ (gQ HF.out.2.1)).trans HF.out.2.1;have c0:Wl.cell? ⟨w3.heap.size,0,none⟩=some (.int .i64 (c.W:Int)):=by rw[cell_of hCl];rfl
       have hLl:Live c s2 e2 (more D W3 w8) b Wl:=(Live.below HF.out.2.2.2.2 hbl).mono (λj hj=>.inl hj) HF.out.2.2.2.2.kt
       by_cases hlv:v<c.W
       ·have hvi:(v:Int)<(c.W:Int):=Int.ofNat_lt.2 hlv
        have amR:=hLl.state hlv;rw[H10.out.2.1.ph v]at amR;have art:rJ Ph.rest=0:=rfl;rw[art]at amR;have HL:=Lib.hid (And.intro hbl hLl);clear hbl hLl hCl;go_wp2_with (go_at_call 23;refine amR.mono ?_;rintro r w15 ⟨rfl,arA,_⟩;have ap':Below w13.heap.size w13 w15:=HL.out.1.trans (arA.mono HL.out.1.size))
        go_roundw
        case rel=>exact⟨v+1,hlv,by go_num,ap'⟩
        case measure=>simp[intOf];omega
       ·have hvi:¬(v:Int)<(c.W:Int):=fun h=>hlv (Int.ofNat_lt.1 h)
        have hlq:=akk hLl;rw[H10.out.2.1.qu]at hlq
        have hmm:nl+ll<=ml:=by
         rw[HNL.out.1,HNL.out.2.1,HNL.out.2.2,HV.out.1,List.length_append];have:=HV.out.2.2.2;omega
        have hmi:(nl:Int)+(ll:Int)<=(ml:Int):=by omega
        have HL:=Lib.hid (And.intro hbl hLl);clear hbl hLl hCl
        have hret:∀W:World,Below Wl.heap.size Wl W->Below w.heap.size w W:=λW hW=>by
         have q1:=HX.out.2.2.1;have q2:=HF.out.1;have q3:=HL.out.1;exact(((q1.trans (q2.mono q1.size)).trans (q3.mono (Nat.le_trans q1.size q2.size))).trans (hW.mono (Nat.le_trans (Nat.le_trans q1.size q2.size) q3.size)))
        have HR:=Lib.hid hret;clear hret;go_wp2_with (go_at_call 15;refine hlq.mono ?_;rintro r w16 ⟨⟨A16,asV,rfl,_⟩,arz⟩)
        refine bodyPost_ret (v:=.bool true) (by simp[results,Tryz.f6,go_sem]) rfl ?_
        exact⟨rfl,HR.out _ arz⟩
end
end bq
end Go.Proofs.YteaflphddciglaaGreatDoor
