/- Laws of the proof, joined. No condition of its own. -/
import Derived.Test.YteaflphddciglaaGreatDoorCcC
set_option linter.all false
def bt:=@Go.World.cell?_setCell_other
def eL:=@Go.World.cell?_setCell_same
def fL:=@Go.World.frozen?_setCell
def mB:=@Int.natCast_add
namespace Go.Proofs.YteaflphddciglaaGreatDoor
namespace bq
noncomputable section
open Go.RowKit Go.bn Go.Sx
variable{X:Nat->Prop} {w0 w:World} {G:Kj} {σ:Nat->Option Pl} {lh:List Go.Sx.ag}
theorem ajE{n:Int}{j:Nat}{u:Value}(h:(encI n)[j]?=some u):j=0/\u=.int .i64 n:=by
 unfold encI at h;cases j with
 |zero=>simp at h;exact⟨rfl,h.symm⟩
 |succ j=>simp at h
theorem ad8{k:Nat}{L:List Int}{l:Nat}{v':Value}(hr:HR X w0 G σ lh w)(hk:lh.getD k .dead=.ints true true L)(hl:l=L.length)(hv:VR σ (.slice (some ⟨k,0,some 1⟩) l 0) v'):
  ∃A cap,v'=.slice A L.length cap/\L.length<=cap/\dN encI 1 w w.heap.size A L:=by
 obtain⟨p,hp,hc,rfl⟩:=hv.yL;subst hl;obtain⟨_,hb⟩:=hr.ints_at hp hk;refine⟨_,_,rfl,hc,λ_=>⟨p.b,p.o,rfl,hr.lt k p hp,λi x hx j u hu=> ?_⟩⟩;obtain⟨rfl,rfl⟩:=ajE hu;have:=hb i x hx;simpa using this
theorem xe{α:Type}{v:Value}{F:List Int->M α}{r:α}(h:(JN lh v F).get=some r):
  ∃L,(F L).get=some r/\∀{X:Nat->Prop} {w0 w:World} {G:Kj} {σ:Nat->Option Pl} {v':Value},HR X w0 G σ lh w->VR σ v v'->∃A cap,v'=.slice A L.length cap/\L.length<=cap/\dN encI 1 w w.heap.size A L:=by
 unfold JN at h;split at h
 .refine⟨[],h,fun hr hv=> ?_⟩
  rw[hv.aD rfl];exact⟨none,0,rfl,aq _,λhn=>absurd rfl hn⟩
 .rename_i k l
  split at h
  .rename_i L hk
   rcases M.af h with⟨hl,h⟩|⟨_,h⟩
   .exact⟨L,h,λhr hv=>ad8 hr hk (cJ hl) hv⟩
   .cases h
  .cases h
 .cases h
theorem Fy{α:Type}{L:List Int}{F:M α}{r:α}(h:(Bj L F).get=some r):L.length<=1000/\F.get=some r:=by
 unfold Bj at h;rcases M.af h with⟨hl,h⟩|⟨_,h⟩
 .exact⟨ey hl,h⟩
 .cases h
theorem aeX{w':World}(hr:HR X w0 G σ lh w)(hb:Below w.heap.size w w'){B:Nat}{L:List Int}(h1:w.heap.size<=B)(h2:B<w'.heap.size)(hf:∀o,w'.frozen? ⟨B,o,none⟩=false)
  (hc:∀i x,L[i]?=some x->w'.cell? ⟨B,i,none⟩=some (.int .i64 x)):Go.Sx.Good X w0 G σ lh.length (.slice (some ⟨lh.length,0,some 1⟩) L.length 0,lh++[Go.Sx.ag.ints true true L]) (.slice (some ⟨B,0,none⟩) L.length L.length) w':=by
 have hk:=hr.kept hb;have hnew:∀i q,σ i=some q->q.b<w.heap.size:=λi q hi=>hr.lt i q hi;refine⟨Go.Sx.upd σ lh.length ⟨B,0,1,L.length⟩,hr.sK _,.vec (p:=⟨B,0,1,L.length⟩) (upd_same _ _ _) (aq _),?_⟩;refine hk.alias (p:=⟨B,0,1,L.length⟩) (λi q hi _=>by have:=hnew i q hi;show q.b≠B;omega) h2 (.ints true true L) ⟨λ_=>⟨λhx=>by have:B<w.heap.size:=hr.size B hx;omega,hf,λj hj=> ?_⟩,rfl,λi x hx=> ?_⟩ ?_
 .have hj:j<L.length:=by simpa using hj
  have:=hc j _ (aw hj);show(w'.cell? ⟨B,0+j,none⟩).isSome=true;rw[cg,this];rfl
 .show w'.cell? ⟨B,0+i,none⟩=_
  rw[cg];exact hc i x hx
 .refine hr.ab.id hr.lt hb.size (fun j hj=>.inl (hb.block j hj)) fun k q hq=> ?_
  by_cases e:k=lh.length
  .subst e
   rw[upd_same]at hq;cases hq;exact .inr (.inr ⟨.inl h1,by rw[iQ];rfl⟩)
  .rw[dF _ _ e]at hq
   exact .inr (.inl ⟨hq,by rw[bY _ _ _ (hr.dom k q hq)]⟩)
end
noncomputable section
open Go.RowKit Go.bn Go.Sx
attribute [local go_sem ↓] Go.wp_at_zero Go.wp_at_succ
set_option maxHeartbeats 1000000 in
theorem VZ(A A':Option Addr)(cap cap':Nat)(xs ys:List Int)(hlen:xs.length<=1000)(w:World)(hX:dN encI 1 w w.heap.size A xs)(hY:dN encI 1 w w.heap.size A' ys):
  Calls Tryz.prog 119 #[.slice A xs.length cap,.slice A' ys.length cap'] w λe w'=>e=.returned (.bool (decide (xs=ys)))/\Below w.heap.size w w':=by
 by_cases hl:xs.length=ys.length
 case neg=>
  have hl':(((xs.length:Nat):Int) != ((ys.length:Nat):Int))=true:=by simp;omega
  have hz:decide (xs=ys)=false:=by simp;rintro rfl;exact hl rfl
  have HZ:=Lib.hid hz;clear hz;go_enter Tryz.func119,Tryz.ntmps119
  go_wp2;go_ret;exact⟨ji HZ.out.symm,Below.refl _ _⟩
 case pos=>
  have hl':(((xs.length:Nat):Int) != ((ys.length:Nat):Int))=false:=by simp;omega
  have hle:xs.length<=ys.length:=by omega
  have HL:=Lib.hid hl;clear hl;go_enter Tryz.func119,Tryz.ntmps119
  go_wp2
  go_loopw [13] (fun i wr=>∃k:Nat,k<=xs.length/\i=.int .i64 k/\xs.take k=ys.take k/\∃n,wr=w.drewN n)
   (λi _=>xs.length-(intOf i).toNat)
  case atStart=>exact⟨0,cL _,rfl,rfl,0,rfl⟩
  case round=>
   obtain⟨k,hk,rfl,ht,n,rfl⟩:=hrel;have HT:=Lib.hid ht;clear ht;by_cases hlt:k<xs.length
   .have hlt':k<ys.length:=by omega
    obtain⟨b,off,rfl,hbl,hc⟩:=NM hX hlt;obtain⟨b2,agX,rfl,ahx,hc2⟩:=NM hY hlt';obtain⟨p,hp⟩:∃p,p=xs[k]:=⟨_,rfl⟩;obtain⟨q,hq⟩:∃q,q=ys[k]:=⟨_,rfl⟩;rw[<-hp]at hc;rw[<-hq]at hc2;have HP:=Lib.hid hp;have HQ:=Lib.hid hq;clear hp hq;have hi1:(k:Int)<(xs.length:Int):=by omega
    have hi2:(k:Int)<(ys.length:Int):=by omega
    by_cases hpq:p=q
    .have hb:(p != q)=false:=by simp[hpq]
     have HPQ:=Lib.hid hpq;clear hpq;go_wp2
     go_quiet (fail)
     go_wp2;go_roundw
     case rel=>exact⟨k+1,by omega,by go_num,by rw[dg hlt,dg hlt',HT.out, <-HP.out, <-HQ.out,HPQ.out],_,rfl⟩
     case measure=>simp[intOf];omega
    .have hb:(p != q)=true:=by simp[hpq]
     have hne:decide (xs=ys)=false:=by
      rw[gE];intro he;apply hpq;rw[HP.out,HQ.out];simp only[he]
     have HNE:=Lib.hid hne;clear hpq hne;go_wp2
     go_quiet (fail)
     go_wp2;go_ret;exact⟨ji HNE.out.symm,fR (fR (Below.refl _ _) _) _⟩
   .obtain rfl:k=xs.length:=by omega
    go_wp2;go_ret;refine⟨ji ?_,fR (Below.refl _ _) _⟩;have:=HT.out;rw[lP,HL.out,lP]at this;simp[this]
theorem setCells_size(b:Nat):∀(vs:List Value) (o:Nat) (w:World),(w.setCells b o vs).heap.size=w.heap.size
 |[],_,_=>rfl
 |v::r,o,w=>by rw[World.setCells,setCells_size b r,js]
theorem yS{B b:Nat}{w0:World}(hB:B<=b):∀(vs:List Value) (o:Nat) (w:World),Below B w0 w->Below B w0 (w.setCells b o vs)
 |[],_,_,h=>h
 |v::r,o,w,h=>by rw[World.setCells];exact yS hB r _ _ (h.setCell (p:=⟨b,o,none⟩) hB v)
set_option maxRecDepth 20000 in
theorem afA(A:Option Addr)(cap:Nat)(xs:List Int)(h1:xs≠[])(hlen:xs.length<=1000)(w:World)(hX:dN encI 1 w w.heap.size A xs):
  Calls Tryz.prog 120 #[.slice A xs.length cap] w λe w'=>e=.returned (.slice (some ⟨w.heap.size,0,none⟩) xs.length xs.length)/\Below w.heap.size w w'/\w.heap.size<w'.heap.size/\(∀o,w'.frozen? ⟨w.heap.size,o,none⟩=false)/\∀i x,xs[i]?=some x->w'.cell? ⟨w.heap.size,i,none⟩=some (.int .i64 x):=by
 obtain⟨b,off,rfl,hb,hc⟩:=hX h1;have hpos:0<xs.length:=List.length_pos_iff.2 h1;have hmk:(Instr.makeSlice 35 (.int .i64 (xs.length:Int)) (.int .i64 (xs.length:Int))).run Tryz.prog w=.ok (.slice (some ⟨w.heap.size,0,none⟩) xs.length xs.length) (w.alloc (.cells (Array.replicate xs.length (.int .i64 0)) 3)):=by
  have hsz:(Tryz.prog.info? 3).map (λi=>(i.size,i.bytes))=some (1,8):=by kernel_rfl
  cases hi:Tryz.prog.info? 3 with
  |none=>rw[hi]at hsz;cases hsz
  |some i=>
   rw[hi]at hsz;simp only[eR,cq,kB]at hsz;have:=kU (P:=Tryz.prog) (t:=35) (e:=3) (z:=.int .i64 0) (l:=(xs.length:Int)) (by kernel_rfl) hi (λw=>(lU (by kernel_rfl) w).1) rfl hsz.1 (by omega) (by omega) (by omega) w;rwa[cH]at this
 have hcp:(Builtin.copy_ #[35,35] 3 #[.slice (some ⟨w.heap.size,0,none⟩) xs.length xs.length,.slice (some ⟨b,off,none⟩) xs.length cap]).run Tryz.prog (w.alloc (.cells (Array.replicate xs.length (.int .i64 0)) 3))=
   .ok (goInt xs.length) ((w.alloc (.cells (Array.replicate xs.length (.int .i64 0)) 3)).setCells w.heap.size 0 (xs.map λx=>.int .i64 x)):=by
  have hl:(xs.map λx=>(Value.int .i64 x)).length=xs.length:=iz _
  have hr:=run_copy_cells (P:=Tryz.prog) (w.alloc (.cells (Array.replicate xs.length (.int .i64 0)) 3)) 35 35 3 3 w.heap.size 0 xs.length xs.length ⟨b,off,none⟩ xs.length cap (xs.map fun x=>.int .i64 x)
   (by kernel_rfl) (by kernel_rfl) (by rw[hl];exact(Nat.min_self _).symm) (λj v hv=> ?_) (λj hj=> ?_) (λj hj=>fX _ _ _ _) (λv hv=> ?_)
  .rw[hl]at hr;exact hr
  .rw[cG]at hv
   cases hx:xs[j]? with
   |none=>rw[hx]at hv;cases hv
   |some x=>
    rw[hx]at hv;cases hv;have:=hc j x hx 0 _ rfl;have e:(⟨b,off,none⟩:Addr).add j=⟨b,off+j,none⟩:=by unfold Addr.add;split<;>simp_all
    rw[e,cM (w:=w) (b7 _ _ _ hb)];simpa using this
  .rw[hl]at hj
   rw[cg,dk];simp[hj]
  .rw[kx]at hv
   obtain⟨x,_,rfl⟩:=hv;rfl
 go_enter Tryz.func120,Tryz.ntmps120
 go_wp2;go_ret;have hl:(xs.map λx=>(Value.int .i64 x)).length=xs.length:=iz _;refine⟨rfl,?_,?_,λo=> ?_,λi x hx=> ?_⟩
 .exact yS (aq _) _ _ _ ((Below.refl _ w).alloc (aq _) _)
 .rw[setCells_size];simp
 .rw[j9];exact fX _ _ _ _
 .have hi:i<xs.length:=(aE.1 hx).1
  have:=gO w.heap.size (xs.map λx=>Value.int .i64 x) 0 (w.alloc (.cells (Array.replicate xs.length (.int .i64 0)) 3)) (λj hj=>by
   rw[hl]at hj;rw[cg,dk];simp[hj]) i (by rw[hl];exact hi)
  rw[cg]at this;rw[this];obtain⟨_,rfl⟩:=aE.1 hx;simp
theorem ajD{G:Kj}:dP G KT Tryz.prog TT 119 acd:=by
 refine⟨⟨_,Tryz.func119,by kernel_rfl,by kernel_rfl⟩,λX w0 h0 hB hT args lh r hr=> ?_⟩;unfold acd at hr;split at hr
 .rename_i v u
  obtain⟨L,h1,hL⟩:=xe hr;obtain⟨L2,h2,hL2⟩:=xe h1;obtain⟨hs,h3⟩:=Fy h2;cases h3;refine⟨bu.refl _,λσ w args' hh hargs=> ?_⟩;obtain⟨v',b1,rfl,g1,g2⟩:=eD hargs;obtain⟨u',b2,e2,g3,g4⟩:=eD g2;rw[kY g4]at e2;have e2:b1=[u']:=by simpa using fT Array.toList e2
  subst e2;obtain⟨A,cap,rfl,_,r1⟩:=hL hh g1;obtain⟨A',cap',rfl,_,r2⟩:=hL2 hh g3;refine(VZ A A' cap cap' L L2 hs w r1 r2).mono λe w' hq=> ?_;obtain⟨rfl,hb⟩:=hq;have e:(L==L2)=decide (L=L2):=by by_cases h:L=L2<;>simp[h]
  exact⟨_,rfl,σ,Ext.refl _ _,by rw[e];exact .bool _,hh.kept hb⟩
 .cases hr
theorem ajF{G:Kj}:dP G KT Tryz.prog TT 120 acg:=by
 refine⟨⟨_,Tryz.func120,by kernel_rfl,by kernel_rfl⟩,λX w0 h0 hB hT args lh r hr=> ?_⟩;unfold acg at hr;split at hr
 .rename_i v
  obtain⟨L,h1,hL⟩:=xe hr;cases L with
  |nil=>cases h1
  |cons a l=>
   obtain⟨hs,h3⟩:=Fy h1;cases h3;refine⟨bu.append _ _,λσ w args' hh hargs=> ?_⟩;obtain⟨v',b1,rfl,g1,g2⟩:=eD hargs;rw[kY g2];obtain⟨A,cap,rfl,_,r1⟩:=hL hh g1;refine(afA A cap (a::l) (by simp) hs w r1).mono λe w' hq=> ?_;obtain⟨rfl,hb,hl,hf,hc⟩:=hq;exact⟨_,rfl,aeX hh hb (aq _) hl hf hc⟩
 .cases hr
structure jo(w:World)(B:Nat)(a b c d:Int):Prop where
 c0:w.cell? ⟨B,0,none⟩=some (.int .i64 a)
 c1:w.cell? ⟨B,1,none⟩=some (.int .i64 b)
 c2:w.cell? ⟨B,2,none⟩=some (.int .i64 c)
 c3:w.cell? ⟨B,3,none⟩=some (.int .i64 d)
 fz:∀o,w.frozen? ⟨B,o,none⟩=false
theorem jo.new(w:World)(t:TypeId)(a b c d:Int):jo (w.alloc (.cells #[.int .i64 a,.int .i64 b,.int .i64 c,.int .i64 d] t)) w.heap.size a b c d:=
 ⟨by rw[dk];rfl,by rw[dk];rfl,by rw[dk];rfl,by rw[dk];rfl,λo=>fX _ _ _ _⟩
theorem jo.same{w w':World}{B:Nat}{a b c d:Int}(h:jo w B a b c d)(e:w'.heap[B]?=w.heap[B]?):jo w' B a b c d:=
 ⟨by rw[cM (w:=w) e];exact h.c0,by rw[cM (w:=w) e];exact h.c1,by rw[cM (w:=w) e];exact h.c2,by rw[cM (w:=w) e];exact h.c3,λo=>by rw[nh (w:=w) e];exact h.fz o⟩
theorem jo.below{w w':World}{B n:Nat}{a b c d:Int}(h:jo w B a b c d)(hb:Below n w w')(hB:B<n):jo w' B a b c d:=h.same (hb.block B hB)
theorem jo.set0{w:World}{B:Nat}{a b c d:Int}(h:jo w B a b c d)(x:Int):jo (w.setCell ⟨B,0,none⟩ (.int .i64 x)) B x b c d:=
 ⟨eL _ _ _ h.c0,by rw[bt _ _ _ _ (by simp)];exact h.c1,by rw[bt _ _ _ _ (by simp)];exact h.c2,by rw[bt _ _ _ _ (by simp)];exact h.c3,λo=>by rw[fL];exact h.fz o⟩
theorem jo.set1{w:World}{B:Nat}{a b c d:Int}(h:jo w B a b c d)(x:Int):jo (w.setCell ⟨B,1,none⟩ (.int .i64 x)) B a x c d:=
 ⟨by rw[bt _ _ _ _ (by simp)];exact h.c0,eL _ _ _ h.c1,by rw[bt _ _ _ _ (by simp)];exact h.c2,by rw[bt _ _ _ _ (by simp)];exact h.c3,λo=>by rw[fL];exact h.fz o⟩
theorem jo.set2{w:World}{B:Nat}{a b c d:Int}(h:jo w B a b c d)(x:Int):jo (w.setCell ⟨B,2,none⟩ (.int .i64 x)) B a b x d:=
 ⟨by rw[bt _ _ _ _ (by simp)];exact h.c0,by rw[bt _ _ _ _ (by simp)];exact h.c1,eL _ _ _ h.c2,by rw[bt _ _ _ _ (by simp)];exact h.c3,λo=>by rw[fL];exact h.fz o⟩
theorem jo.agp{w:World}{B:Nat}{a b c d:Int}(h:jo w B a b c d)(x:Int):jo (w.setCell ⟨B,3,none⟩ (.int .i64 x)) B a b c x:=
 ⟨by rw[bt _ _ _ _ (by simp)];exact h.c0,by rw[bt _ _ _ _ (by simp)];exact h.c1,by rw[bt _ _ _ _ (by simp)];exact h.c2,eL _ _ _ h.c3,λo=>by rw[fL];exact h.fz o⟩
theorem jo.lt{w:World}{B:Nat}{a b c d:Int}(h:jo w B a b c d):B<w.heap.size:=by
 have:=h.c0;unfold World.cell? at this;rcases cn B w.heap.size with hl|hl
 .exact hl
 .simp[nj hl]at this
def pV(x:Int):Nat:=match jf x with| .none=>2| .some s=>if s.st=0 then 2 else if s.st=2 then 0 else if s.st=3 then 1 else 3
theorem acm(l:List Int)(x:Int):fH (l++[x])=((fH l).1+(if pV x=0 then 1 else 0),(fH l).2.1+(if pV x=1 then 1 else 0),(fH l).2.2.1+(if pV x=2 then 1 else 0),(fH l).2.2.2+(if pV x=3 then 1 else 0)):=by
 unfold fH Eh pV;simp only[qP,List.filter_append,cE,oc,sL];cases hd:jf x with
 |none=>simp[iN,aa.zero,List.filter]
 |some s=>
  by_cases h0:s.st=0
  .simp[iN,h0,List.filter]
  .by_cases h2:s.st=2
   .simp[iN,h2,List.filter]
   .by_cases h3:s.st=3
    .simp[iN,h3,List.filter]
    .simp[iN,h0,h2,h3,List.filter]
theorem ahW(l:List Int):(fH l).1<=l.length/\(fH l).2.1<=l.length/\(fH l).2.2.1<=l.length/\(fH l).2.2.2<=l.length:=by
 have f:∀p:aa->Bool,((l.map λx=>iN (jf x)).filter p).length<=l.length:=λp=>by
  have:=List.length_filter_le p (l.map λx=>iN (jf x));rwa[iz]at this
 exact⟨f _,f _,f _,f _⟩
def acn(a b c d:Nat):Array Value:= #[.int .i64 (a:Int),.int .i64 (b:Int),.int .i64 (c:Int),.int .i64 (d:Int)]
set_option maxHeartbeats 2000000 in
theorem Zx(A:Option Addr)(cap:Nat)(xs:List Int)(hlen:xs.length<=1000)(w:World)(hT:cB w)(hX:dN encI 1 w w.heap.size A xs):
  Calls Tryz.prog 176 #[.slice A xs.length cap] w λe w'=>e=.returned (.agg (acn (fH xs).1 (fH xs).2.1 (fH xs).2.2.1 (fH xs).2.2.2))/\Below w.heap.size w w':=by
 go_enter Tryz.func176,Tryz.ntmps176
 go_wp2
 go_loopw [10] (fun i wr=>∃k:Nat,k<=xs.length/\i=.int .i64 k/\Below w.heap.size w wr/\jo wr w.heap.size 0 0 0 0/\jo wr (w.heap.size+1) ((fH (xs.take k)).1:Int) ((fH (xs.take k)).2.1:Int) ((fH (xs.take k)).2.2.1:Int) ((fH (xs.take k)).2.2.2:Int))
   (λi _=>xs.length-(intOf i).toNat)
 case atStart=>
  refine⟨0,cL _,rfl,((Below.refl _ w).alloc (aq _) _).alloc (by simp) _,?_,?_⟩
  .exact(jo.new w _ 0 0 0 0).same (b7 _ _ _ (by simp))
  .have:=jo.new (w.alloc (.cells #[.int .i64 0,.int .i64 0,.int .i64 0,.int .i64 0] 66)) 66 0 0 0 0
   rw[ld]at this;exact this
 case round=>
  obtain⟨k,hk,rfl,hb,hR,hn⟩:=hrel;by_cases hlt:k<xs.length
  .obtain⟨b,off,rfl,hbl,hc0⟩:=NM hX hlt
   obtain⟨x,hx⟩:∃x,x=xs[k]:=⟨_,rfl⟩;rw[<-hx]at hc0;have hc:=(hb.cell (p:=⟨b,off+k,none⟩) hbl).trans hc0;have hT':cB wr:=hT.mR (n:=(· <w.heap.size)) hT.lt (Kept.of_below hb);have hs:=acm (xs.take k) x;have hs2:xs.take k++[x]=xs.take (k+1):=by rw[dg hlt,hx]
   rw[hs2]at hs;have hle:=ahW (xs.take k);have hlk:(xs.take k).length<=1000:=eM (by rw[List.length_take];omega) hlen;have HX:=Lib.hid (And.intro hX hx);clear hX hx;have hi1:(k:Int)<(xs.length:Int):=by omega
   cases hd:jf x with
   |none=>
    have hdec:=K5 x wr hT';rw[hd]at hdec;simp only[gP,Option.getD_none,Option.isSome_none,aa.zero,aa.val]at hdec;have AL:pV x=2:=by unfold pV;rw[hd]
    go_wp2_with (go_at_call 73;refine hdec.mono ?_;rintro e w1 ⟨rfl,hb1⟩;have hn1:=hn.below hb1 hn.lt;have mM:=hR.below hb1 hR.lt;have m2:=λo=>(hn1.same (b7 w1 o _ hn1.lt)).c2;have mf:=λo=>(hn1.same (b7 w1 o _ hn1.lt)).fz 2;have hb2:=hb.trans (hb1.mono hb.size))
    go_roundw
    case rel=>
     have b4:=(hn1.same (b7 w1 (.cells #[.int .i64 0,.int .i64 0,.int .i64 0,.bool false,.bool false,.int .i64 0,.int .i64 0,.int .i64 0,.int .i64 0] 44) _ hn1.lt)).set2 (((fH (xs.take k)).2.2.1:Int)+1);refine⟨k+1,by omega,by go_num,(hb2.alloc hb2.size _).setCell (p:=⟨w.heap.size+1,2,none⟩) (by show w.heap.size<=w.heap.size+1;omega) _,?_,?_⟩
     .exact(mM.same (b7 w1 _ _ mM.lt)).same (cy _ _ _ _ (by show w.heap.size≠w.heap.size+1;omega))
     .rw[hs]
      simpa[AL,mB]using b4
    case measure=>simp[intOf];omega
   |some s=>
    obtain⟨st,own,str,brk,fO,uses,gen,ep,cz⟩:=s;have hdec:=K5 x wr hT';rw[hd]at hdec;simp only[gP,lO,Option.isSome_some,aa.val]at hdec;by_cases h0:st=0
    .subst h0
     have AL:pV x=2:=by unfold pV;rw[hd];rfl
     go_wp2_with (go_at_call 73;refine hdec.mono ?_;rintro e w1 ⟨rfl,hb1⟩;have hn1:=hn.below hb1 hn.lt;have mM:=hR.below hb1 hR.lt;have m2:=λo=>(hn1.same (b7 w1 o _ hn1.lt)).c2;have mf:=λo=>(hn1.same (b7 w1 o _ hn1.lt)).fz 2;have hb2:=hb.trans (hb1.mono hb.size))
     go_roundw
     case rel=>
      have b4:=(hn1.same (b7 w1 (.cells #[.int .i64 0,.int .i64 own,.int .i64 str,.bool brk,.bool fO,.int .i64 uses,.int .i64 gen,.int .i64 ep,.int .i64 cz] 44) _ hn1.lt)).set2 (((fH (xs.take k)).2.2.1:Int)+1);refine⟨k+1,by omega,by go_num,(hb2.alloc hb2.size _).setCell (p:=⟨w.heap.size+1,2,none⟩) (by show w.heap.size<=w.heap.size+1;omega) _,?_,?_⟩
      .exact(mM.same (b7 w1 _ _ mM.lt)).same (cy _ _ _ _ (by show w.heap.size≠w.heap.size+1;omega))
      .rw[hs]
       simpa[AL,mB]using b4
     case measure=>simp[intOf];omega
    by_cases h2:st=2
    .subst h2
     have AL:pV x=0:=by unfold pV;rw[hd];rfl
     go_wp2_with (go_at_call 73;refine hdec.mono ?_;rintro e w1 ⟨rfl,hb1⟩;have hn1:=hn.below hb1 hn.lt;have mM:=hR.below hb1 hR.lt;have m0:=λo=>(hn1.same (b7 w1 o _ hn1.lt)).c0;have mf:=λo=>(hn1.same (b7 w1 o _ hn1.lt)).fz 0;have hb2:=hb.trans (hb1.mono hb.size))
     go_roundw
     case rel=>
      have b4:=(hn1.same (b7 w1 (.cells #[.int .i64 2,.int .i64 own,.int .i64 str,.bool brk,.bool fO,.int .i64 uses,.int .i64 gen,.int .i64 ep,.int .i64 cz] 44) _ hn1.lt)).set0 (((fH (xs.take k)).1:Int)+1);refine⟨k+1,by omega,by go_num,(hb2.alloc hb2.size _).setCell (p:=⟨w.heap.size+1,0,none⟩) (by show w.heap.size<=w.heap.size+1;omega) _,?_,?_⟩
      .exact(mM.same (b7 w1 _ _ mM.lt)).same (cy _ _ _ _ (by show w.heap.size≠w.heap.size+1;omega))
      .rw[hs]
       simpa[AL,mB]using b4
     case measure=>simp[intOf];omega
    by_cases h3:st=3
    .subst h3
     have AL:pV x=1:=by unfold pV;rw[hd];rfl
     go_wp2_with (go_at_call 73;refine hdec.mono ?_;rintro e w1 ⟨rfl,hb1⟩;have hn1:=hn.below hb1 hn.lt;have mM:=hR.below hb1 hR.lt;have m1:=λo=>(hn1.same (b7 w1 o _ hn1.lt)).c1;have mf:=λo=>(hn1.same (b7 w1 o _ hn1.lt)).fz 1;have hb2:=hb.trans (hb1.mono hb.size))
     go_roundw
     case rel=>
      have b4:=(hn1.same (b7 w1 (.cells #[.int .i64 3,.int .i64 own,.int .i64 str,.bool brk,.bool fO,.int .i64 uses,.int .i64 gen,.int .i64 ep,.int .i64 cz] 44) _ hn1.lt)).set1 (((fH (xs.take k)).2.1:Int)+1);refine⟨k+1,by omega,by go_num,(hb2.alloc hb2.size _).setCell (p:=⟨w.heap.size+1,1,none⟩) (by show w.heap.size<=w.heap.size+1;omega) _,?_,?_⟩
      .exact(mM.same (b7 w1 _ _ mM.lt)).same (cy _ _ _ _ (by show w.heap.size≠w.heap.size+1;omega))
      .rw[hs]
       simpa[AL,mB]using b4
     case measure=>simp[intOf];omega
    .have AL:pV x=3:=by unfold pV;rw[hd];show(if st=0 then 2 else _)=_;rw[if_neg h0,if_neg h2,if_neg h3]
     go_wp2_with (go_at_call 73;refine hdec.mono ?_;rintro e w1 ⟨rfl,hb1⟩;have hn1:=hn.below hb1 hn.lt;have mM:=hR.below hb1 hR.lt;have m3:=λo=>(hn1.same (b7 w1 o _ hn1.lt)).c3;have mf:=λo=>(hn1.same (b7 w1 o _ hn1.lt)).fz 3;have hb2:=hb.trans (hb1.mono hb.size))
     go_roundw
     case rel=>
      have b4:=(hn1.same (b7 w1 (.cells #[.int .i64 st,.int .i64 own,.int .i64 str,.bool brk,.bool fO,.int .i64 uses,.int .i64 gen,.int .i64 ep,.int .i64 cz] 44) _ hn1.lt)).agp (((fH (xs.take k)).2.2.2:Int)+1);refine⟨k+1,by omega,by go_num,(hb2.alloc hb2.size _).setCell (p:=⟨w.heap.size+1,3,none⟩) (by show w.heap.size<=w.heap.size+1;omega) _,?_,?_⟩
      .exact(mM.same (b7 w1 _ _ mM.lt)).same (cy _ _ _ _ (by show w.heap.size≠w.heap.size+1;omega))
      .rw[hs]
       simpa[AL,mB]using b4
     case measure=>simp[intOf];omega
  .obtain rfl:k=xs.length:=by omega
   have n0:=hn.c0;have n1:=hn.c1;have n2:=hn.c2;have n3:=hn.c3;have r0:=hR.c0;have r1:=hR.c1;have r2:=hR.c2;have r3:=hR.c3;have f0:=hR.fz 0;have f1:=hR.fz 1;have f2:=hR.fz 2;have f3:=hR.fz 3;have e:xs.take xs.length=xs:=lP;rw[e]at n0 n1 n2 n3;have R4:=(((hR.set0 ((fH xs).1:Int)).set1 ((fH xs).2.1:Int)).set2 ((fH xs).2.2.1:Int)).agp ((fH xs).2.2.2:Int);clear hn hR;go_wp2;have q0:=R4.c0;have q1:=R4.c1;have q2:=R4.c2;have q3:=R4.c3;refine cC (v:=.agg (acn (fH xs).1 (fH xs).2.1 (fH xs).2.2.1 (fH xs).2.2.2)) ?_ rfl ?_
   .simp[results,Tryz.f176,go_sem,q0,q1,q2,q3,acn]
   .exact⟨rfl,(((hb.setCell (p:=⟨w.heap.size,0,none⟩) (aq _) _).setCell (p:=⟨w.heap.size,1,none⟩) (aq _) _).setCell (p:=⟨w.heap.size,2,none⟩) (aq _) _).setCell (p:=⟨w.heap.size,3,none⟩) (aq _) _⟩
theorem afD{G:Kj}:dP G KT Tryz.prog TT 176 Qz:=by
 refine⟨⟨_,Tryz.func176,by kernel_rfl,by kernel_rfl⟩,λX w0 h0 hB hT args lh r hr=> ?_⟩;unfold Qz at hr;split at hr
 .rename_i v
  obtain⟨L,h1,hL⟩:=xe hr;obtain⟨hs,h3⟩:=Fy h1;cases h3;refine⟨bu.refl _,λσ w args' hh hargs=> ?_⟩;obtain⟨v',b1,rfl,g1,g2⟩:=eD hargs;rw[kY g2];obtain⟨A,cap,rfl,_,r1⟩:=hL hh g1;have hT':TT w:=lg X w0 w h0 hT hh.below;refine(Zx A cap L hs w hT'.1 r1).mono λe w' hq=> ?_;obtain⟨rfl,hb⟩:=hq;exact⟨_,rfl,σ,Ext.refl _ _,VR.plain _ (by simp[Go.Sx.plain,Go.Sx.aN]),hh.kept hb⟩
 .cases hr
end
noncomputable section
open Go.RowKit Go.bn Go.Sx
structure wU(l:List Bool)(F:Nat->Prop)(b:Nat)(w:World)(r o1:Nat)(sl:Value)(t o2 cap:Nat)(good bad:Int):Prop where
 lt:∀j,F j->j<w.heap.size
 fb:F b
 fr:F r
 br:b≠r
 c0:w.cell? ⟨b,0,none⟩=some (.pointer (some ⟨r,o1,none⟩))
 c1:w.cell? ⟨b,1,none⟩=some (.int .i64 good)
 c2:w.cell? ⟨b,2,none⟩=some (.int .i64 bad)
 d0:w.cell? ⟨r,o1,none⟩=some sl
 d1:w.cell? ⟨r,o1+1,none⟩=some (.int .i64 1000)
 zb:∀o,w.frozen? ⟨b,o,none⟩=false
 zr:∀o,w.frozen? ⟨r,o,none⟩=false
 nil:l=[]->sl=.slice none 0 0
 vec:l≠[]->sl=.slice (some ⟨t,o2,none⟩) l.length cap/\l.length<=cap/\F t/\t≠b/\t≠r/\(∀o,w.frozen? ⟨t,o,none⟩=false)/\(∀j,j<cap->(w.cell? ⟨t,o2+j,none⟩).isSome=true)/\∀i x,l[i]?=some x->w.cell? ⟨t,o2+i,none⟩=some (.bool x)
def slW(k:Nat)(l:List Bool):Value:=match l with|[]=>.slice none 0 0|_::_=>.slice (some ⟨k,0,some 1⟩) l.length 0
theorem acu{σ:Nat->Option Pl}{x:Bool}{v:Value}(h:VR σ (.bool x) v):v=.bool x:=h.aD rfl
theorem Yb{l:List Bool}{F:Nat->Prop}{b k:Nat}{w:World}{good bad:Int}{R:Go.Sx.Rows}{H:List Go.Sx.ag}(h:JH 0 H F b w)(h0:H.getD 0 .dead=.cells true true [.pointer (some ⟨1,0,none⟩),.int .i64 good,.int .i64 bad])
  (h1:H.getD 1 .dead=.cells true true [slW k l,.int .i64 1000]) (h2:l≠[]->2<=k/\H.getD k .dead=.rows true true 1 l.length R) (hR:WrR l R):∃r o1 sl t o2 cap,wU l F b w r o1 sl t o2 cap good bad:=by
 obtain⟨_,hlt,σ,hr,⟨p,hp,hpb,hpo⟩,hF⟩:=h;obtain⟨v0,e0,g0⟩:=hr.jB hp h0 (i:=0) rfl;obtain⟨v1,e1,g1⟩:=hr.jB hp h0 (i:=1) rfl;obtain⟨v2,e2,g2⟩:=hr.jB hp h0 (i:=2) rfl;obtain⟨q,hq,rfl⟩:=g0.gL;rw[g1.aH]at e1;rw[g2.aH]at e2;obtain⟨u0,e3,g3⟩:=hr.jB hq h1 (i:=0) rfl;obtain⟨u1,e4,g4⟩:=hr.jB hq h1 (i:=1) rfl;rw[g4.aH]at e4;have f0:F p.b:=hF 0 p hp (by rw[h0];rfl);have f1:F q.b:=hF 1 q hq (by rw[h1];rfl);have ne:p.b≠q.b:=λe=>by
  have:=hr.inj 0 1 p q hp hq (by rw[h0];rfl) (by rw[h1];rfl) e;cases this
 have z0:=((hr.blk 0 p hp).1 (by rw[h0];rfl)).2.1;have z1:=((hr.blk 1 q hq).1 (by rw[h1];rfl)).2.1;subst hpb;rw[hpo]at e0 e1 e2;cases l with
 |nil=>
  refine⟨q.b,q.o,u0,0,0,0,hlt,f0,f1,ne,e0,e1,e2,e3,e4,z0,z1,λ_=>g3.aD rfl,λhn=>absurd rfl hn⟩
 |cons x l=>
  obtain⟨k2,hk⟩:=h2 (by simp);obtain⟨t,ht,hc,rfl⟩:=g3.yL;obtain⟨hwd,hrow⟩:=hr.sj ht hk;have ft:F t.b:=hF k t ht (by rw[hk];rfl);refine⟨q.b,q.o,_,t.b,t.o,t.cap,hlt,f0,f1,ne,e0,e1,e2,e3,e4,z0,z1,λhn=>(by cases hn),λ_=>⟨rfl,hc,ft,λe=> ?_,λe=> ?_,?_,λj hj=> ?_,λi y hy=> ?_⟩⟩
  .have:=hr.inj 0 k p t hp ht (by rw[h0];rfl) (by rw[hk];rfl) e.symm
   omega
  .have:=hr.inj 1 k q t hq ht (by rw[h1];rfl) (by rw[hk];rfl) e.symm
   omega
  .exact((hr.blk k t ht).1 (by rw[hk];rfl)).2.1
  .exact((hr.blk k t ht).1 (by rw[hk];rfl)).2.2 j (by rw[hwd];omega)
  .have hi:i<(x::l).length:=(aE.1 hy).1
   obtain⟨v',e5,g5⟩:=hrow i 0 hi (by omega);have e6:(R.at i 0).val=.bool y:=by
    unfold Go.Sx.Rows.at;rw[hR.1];show Value.bool (R.gb i 0)=_;rw[hR.2 i hi,b8,hy];rfl
   rw[e6]at g5;rw[acu g5]at e5;simpa using e5
theorem ai2{l:List Bool}{F:Nat->Prop}{b:Nat}{w:World}(h:rC (.kL l) F b w):∃r o1 sl t o2 cap good bad,wU l F b w r o1 sl t o2 cap good bad:=by
 obtain⟨good,bad,R,hR,hJ⟩:=h;obtain⟨r,o1,sl,t,o2,cap,h⟩:=Yb (k:=2) hJ rfl (by cases l<;>rfl) (λhn=>⟨aq _,by cases l;exact absurd rfl hn;rfl⟩) hR;exact⟨r,o1,sl,t,o2,cap,good,bad,h⟩
theorem wU.j{l:List Bool}{F:Nat->Prop}{b:Nat}{w:World}{r o1:Nat}{sl:Value}{t o2 cap:Nat}{good bad:Int}(h:wU l F b w r o1 sl t o2 cap good bad):rC (.kL l) F b w:=by
 refine⟨good,bad,⟨[.bo],λ_ _=>0,λi _=>l.getD i false⟩,⟨rfl,λ_ _=>rfl⟩,?_⟩;obtain⟨σ,s0,s1,s2,s3⟩:∃σ:Nat->Option Pl,σ 0=some ⟨b,0,0,0⟩/\σ 1=some ⟨r,o1,0,0⟩/\(σ 2=if l=[]then none else some ⟨t,o2,1,cap⟩)/\∀k,3<=k->σ k=none:=
  ⟨λk=>match k with|0=>some ⟨b,0,0,0⟩|1=>some ⟨r,o1,0,0⟩|2=>if l=[]then none else some ⟨t,o2,1,cap⟩|_=>none,rfl,rfl,rfl,λk hk=>by
   obtain⟨k,rfl⟩:∃i,k=i+3:=⟨k-3,by omega⟩;rfl⟩
 generalize hH:GA l good bad ⟨[.bo],λ_ _=>0,λi _=>l.getD i false⟩=H;have g0:H.getD 0 .dead=.cells true true [.pointer (some ⟨1,0,none⟩),.int .i64 good,.int .i64 bad]:=by rw[<-hH];rfl
 have g1:H.getD 1 .dead=.cells true true [slW 2 l,.int .i64 1000]:=by rw[<-hH];cases l<;>rfl
 have g2:l≠[]->H.getD 2 .dead=.rows true true 1 l.length ⟨[.bo],λ_ _=>0,λi _=>l.getD i false⟩:=λhn=>by
  rw[<-hH];cases l;exact absurd rfl hn;rfl
 have hown:FI H=true:=by rw[<-hH];cases l<;>rfl
 have hlen:H.length=3:=by rw[<-hH];rfl
 clear hH;have hk:∀k p,σ k=some p->(k=0/\p=⟨b,0,0,0⟩)\/(k=1/\p=⟨r,o1,0,0⟩)\/(k=2/\l≠[]/\p=⟨t,o2,1,cap⟩):=λk p hk=>by
  rcases(by omega:k=0\/k=1\/k=2\/3<=k)with rfl|rfl|rfl|h3
  .rw[s0]at hk;exact .inl ⟨rfl,(b9 hk).symm⟩
  .rw[s1]at hk;exact .inr (.inl ⟨rfl,(b9 hk).symm⟩)
  .rw[s2]at hk
   by_cases hl:l=[]
   .rw[if_pos hl]at hk;cases hk
   .rw[if_neg hl]at hk;exact .inr (.inr ⟨rfl,hl,(b9 hk).symm⟩)
  .rw[s3 k h3]at hk;cases hk
 have Ir:∀k p,σ k=some p->F p.b:=λk p h1=>by
  rcases hk k p h1 with⟨_,rfl⟩|⟨_,rfl⟩|⟨_,hl,rfl⟩
  .exact h.fb
  .exact h.fr
  .exact(h.vec hl).2.2.1
 refine⟨hown,h.lt,σ,⟨sD F w,Kept.refl _ _,iB.no λk p h1=> ?_,λk p h1=> ?_,λk p h1=>h.lt _ (Ir k p h1),λk k' p p' h1 h1' _ _ hb=> ?_,λk p h1=> ?_⟩,⟨_,s0,rfl,rfl⟩,λk p h1 _=>Ir k p h1⟩
 .rcases hk k p h1 with⟨rfl,_⟩|⟨rfl,_⟩|⟨rfl,hl,_⟩
  .rw[g0];exact .inr rfl
  .rw[g1];exact .inr rfl
  .rw[g2 hl];exact .inr rfl
 .rw[hlen]
  rcases hk k p h1 with⟨rfl,_⟩|⟨rfl,_⟩|⟨rfl,hl,_⟩<;>omega
 .rcases hk k p h1 with⟨rfl,rfl⟩|⟨rfl,rfl⟩|⟨rfl,hl,rfl⟩<;>rcases hk k' p' h1' with⟨rfl,rfl⟩|⟨rfl,rfl⟩|⟨rfl,hl',rfl⟩<;>first|rfl|exact absurd hb h.br|exact absurd hb.symm h.br|exact absurd hb (h.vec ‹_›).2.2.2.1|exact absurd hb.symm (h.vec ‹_›).2.2.2.1|exact absurd hb (h.vec ‹_›).2.2.2.2.1|exact absurd hb.symm (h.vec ‹_›).2.2.2.2.1
 .have out:¬j5 F w p.b:=fun hx=>hx.2 (Ir k p h1)
  rcases hk k p h1 with⟨rfl,rfl⟩|⟨rfl,rfl⟩|⟨rfl,hl,rfl⟩
  .rw[g0]
   refine⟨λ_=>⟨out,h.zb,λj hj=>absurd hj (by simp)⟩,λi v hv=> ?_⟩
   match i,hv with
   |0,hv=>cases hv;exact⟨_,h.c0,VR.ptr (off:=0) s1⟩
   |1,hv=>cases hv;exact⟨_,h.c1,.int _ _⟩
   |2,hv=>cases hv;exact⟨_,h.c2,.int _ _⟩
  .rw[g1]
   refine⟨λ_=>⟨out,h.zr,λj hj=>absurd hj (by simp)⟩,λi v hv=> ?_⟩
   match i,hv with
   |0,hv=>
    cases hv;refine⟨sl,h.d0,?_⟩;cases l with
    |nil=>rw[h.nil rfl];exact .kM _ _
    |cons x l=>
     obtain⟨rfl,hc,_⟩:=h.vec (by simp);rw[if_neg (by simp)]at s2;exact .vec (p:=⟨t,o2,1,cap⟩) s2 hc
   |1,hv=>cases hv;exact⟨_,h.d1,.int _ _⟩
  .obtain⟨_,_,_,_,_,z,hall,hrow⟩:=h.vec hl
   rw[g2 hl];refine⟨λ_=>⟨out,z,λj hj=>hall j (by simpa using hj)⟩,rfl,λi j hi hj=> ?_⟩;obtain rfl:j=0:=by omega
   refine⟨.bool (l.getD i false),?_,.bool _⟩;have:=hrow i _ (aw hi);simpa[hi]using this
theorem Z6{r o1:Nat}{w:World}(d0:w.cell? ⟨r,o1,none⟩=some (.slice none 0 0)):Calls Tryz.prog 184 #[.pointer (some ⟨r,o1,none⟩)] w λe w'=>e=.returned (.tuple #[.bool false,.bool false])/\w'=w:=by
 go_enter Tryz.func184,Tryz.ntmps184
 go_wp2
 go_ret2
 exact⟨rfl,rfl⟩
def Dv(r o1 t o2 n cap:Nat)(w w':World):Prop:=
 (n=0/\∃u,w'=((w.setCell ⟨t,o2,none⟩ (.bool false)).setCell ⟨r,o1,none⟩ u).setCell ⟨r,o1,none⟩ (.slice none 0 0))\/
 (0<n/\w'=(w.setCell ⟨t,o2,none⟩ (.bool false)).setCell ⟨r,o1,none⟩ (.slice (some ⟨t,o2+1,none⟩) n (cap-1)))
theorem Z5{r o1 t o2 n cap:Nat}{x:Bool}{w:World}(d0:w.cell? ⟨r,o1,none⟩=some (.slice (some ⟨t,o2,none⟩) (n+1) cap))(hc:n+1<=cap)(c0:w.cell? ⟨t,o2,none⟩=some (.bool x))(zt:w.frozen? ⟨t,o2,none⟩=false)(zr:w.frozen? ⟨r,o1,none⟩=false)(hne:t≠r):
  Calls Tryz.prog 184 #[.pointer (some ⟨r,o1,none⟩)] w λe w'=>e=.returned (.tuple #[.bool x,.bool true])/\Dv r o1 t o2 n cap w w':=by
 have hne':r≠t:=λe=>hne e.symm
 go_enter Tryz.func184,Tryz.ntmps184
 rcases lf n with rfl|hpos
 .by_cases h1:cap=1
  .subst h1
   go_wp2
   go_ret2
   exact⟨rfl,.inl ⟨rfl,_,rfl⟩⟩
  .go_wp2
   go_ret2
   exact⟨rfl,.inl ⟨rfl,_,rfl⟩⟩
 .have hn0:¬(n:Int)=0:=by omega
  have hn2:¬n=0:=by omega
  have h1:¬cap=1:=by omega
  go_wp2
  go_ret2
  exact⟨rfl,.inr ⟨hpos,rfl⟩⟩
theorem Dv.facts{r o1 t o2 n cap:Nat}{w w':World}{v:Value}(h:Dv r o1 t o2 n cap w w')(hne:t≠r)(d0:w.cell? ⟨r,o1,none⟩=some v):
  w'.heap.size=w.heap.size/\w'.os=w.os/\w'.tape=w.tape/\w'.output=w.output/\(∀j,j≠t->j≠r->w'.heap[j]?=w.heap[j]?)/\(∀p,w'.frozen? p=w.frozen? p)/\(∀o,o≠o1->w'.cell? ⟨r,o,none⟩=w.cell? ⟨r,o,none⟩)/\(∀o,o≠o2->w'.cell? ⟨t,o,none⟩=w.cell? ⟨t,o,none⟩)/\
  w'.cell? ⟨r,o1,none⟩=some (if n=0 then .slice none 0 0 else .slice (some ⟨t,o2+1,none⟩) n (cap-1)):=by
 have hne':r≠t:=λe=>hne e.symm;have d1:∀u,(w.setCell ⟨t,o2,none⟩ u).cell? ⟨r,o1,none⟩=some v:=λu=>by rw[bt _ _ _ _ (by simp[hne])];exact d0
 rcases h with⟨hn,u,rfl⟩|⟨hn,rfl⟩
 .refine⟨by simp[js],rfl,rfl,rfl,fun j h1 h2=> ?_,fun p=>by simp[fL],fun o ho=> ?_,fun o ho=> ?_,?_⟩
  .rw[cy _ _ _ _ h2,cy _ _ _ _ h2,cy _ _ _ _ h1]
  .rw[bt _ _ _ _ (by simp<;>omega),bt _ _ _ _ (by simp<;>omega),bt _ _ _ _ (by simp[hne])]
  .rw[bt _ _ _ _ (by simp[hne']),bt _ _ _ _ (by simp[hne']),bt _ _ _ _ (by simp<;>omega)]
  .rw[if_pos hn]
   exact eL _ _ _ (eL _ _ _ (d1 _))
 .refine⟨by simp[js],rfl,rfl,rfl,fun j h1 h2=> ?_,fun p=>by simp[fL],fun o ho=> ?_,fun o ho=> ?_,?_⟩
  .rw[cy _ _ _ _ h2,cy _ _ _ _ h1]
  .rw[bt _ _ _ _ (by simp<;>omega),bt _ _ _ _ (by simp[hne])]
  .rw[bt _ _ _ _ (by simp[hne']),bt _ _ _ _ (by simp<;>omega)]
  .rw[if_neg (by omega)]
   exact eL _ _ _ (d1 _)
theorem WS{b r o1:Nat}{g:Int}{w:World}(c0:w.cell? ⟨b,0,none⟩=some (.pointer (some ⟨r,o1,none⟩)))(c1:w.cell? ⟨b,1,none⟩=some (.int .i64 g))(zb:w.frozen? ⟨b,1,none⟩=false)(d0:w.cell? ⟨r,o1,none⟩=some (.slice none 0 0)):
  Calls Tryz.prog 124 #[.pointer (some ⟨b,0,none⟩)] w λe w'=>e=.returned (.bool true)/\w'=w.setCell ⟨b,1,none⟩ (.int .i64 (wrap64 (g+1))):=by
 have hp:=Z6 (w:=w) d0;go_enter Tryz.func124,Tryz.ntmps124
 go_wp2_with (go_at_call 184;refine hp.mono ?_;rintro e w1 ⟨rfl,rfl⟩)
 go_ret;exact⟨rfl,rfl⟩
theorem WR{b r o1 t o2 n cap:Nat}{g g2:Int}{x:Bool}{w:World}(c0:w.cell? ⟨b,0,none⟩=some (.pointer (some ⟨r,o1,none⟩)))(c1:w.cell? ⟨b,1,none⟩=some (.int .i64 g))(c2:w.cell? ⟨b,2,none⟩=some (.int .i64 g2))(zb:∀o,w.frozen? ⟨b,o,none⟩=false)
  (d0:w.cell? ⟨r,o1,none⟩=some (.slice (some ⟨t,o2,none⟩) (n+1) cap)) (hc:n+1<=cap) (e0:w.cell? ⟨t,o2,none⟩=some (.bool x)) (zt:w.frozen? ⟨t,o2,none⟩=false) (zr:w.frozen? ⟨r,o1,none⟩=false) (hne:t≠r) (hbr:b≠r) (hbt:b≠t):
  Calls Tryz.prog 124 #[.pointer (some ⟨b,0,none⟩)] w λe w'=>e=.returned (.bool x)/\∃w1,Dv r o1 t o2 n cap w w1/\w'=w1.setCell ⟨b,if x then 1 else 2,none⟩ (.int .i64 (wrap64 ((if x then g else g2)+1))):=by
 have hp:=Z5 d0 hc e0 zt zr hne;cases x
 .go_enter Tryz.func124,Tryz.ntmps124
  go_wp2_with (go_at_call 184;refine hp.mono ?_;rintro e w1 ⟨rfl,hw⟩;have hf:=hw.facts hne d0;have k0:=(show w1.cell? ⟨b,0,none⟩=w.cell? ⟨b,0,none⟩from cM (hf.2.2.2.2.1 b hbt hbr)).trans c0;have k2:=(show w1.cell? ⟨b,2,none⟩=w.cell? ⟨b,2,none⟩from cM (hf.2.2.2.2.1 b hbt hbr)).trans c2;have kz:=λo=>(hf.2.2.2.2.2.1 ⟨b,o,none⟩).trans (zb o);clear hf)
  go_ret;exact⟨rfl,w1,hw,rfl⟩
 .go_enter Tryz.func124,Tryz.ntmps124
  go_wp2_with (go_at_call 184;refine hp.mono ?_;rintro e w1 ⟨rfl,hw⟩;have hf:=hw.facts hne d0;have k0:=(show w1.cell? ⟨b,0,none⟩=w.cell? ⟨b,0,none⟩from cM (hf.2.2.2.2.1 b hbt hbr)).trans c0;have k1:=(show w1.cell? ⟨b,1,none⟩=w.cell? ⟨b,1,none⟩from cM (hf.2.2.2.2.1 b hbt hbr)).trans c1;have kz:=λo=>(hf.2.2.2.2.2.1 ⟨b,o,none⟩).trans (zb o);clear hf)
  go_ret;exact⟨rfl,w1,hw,rfl⟩
noncomputable def VV:Env:=Po 0 Tryz.prog [(37,Tryz.f37),(51,Tryz.f51)] [] [] []
theorem Gh{X:Nat->Prop}{w0:World}(h0:∀k,KT k->X k)(hB:eB X w0)(hT:TT w0):iA VV X w0:=
 LZ (λe he=>by cases he) (by kernel_rfl) (fk Tryz.func37<|fk Tryz.func51<|jL rfl) Ez Bq h0 hB hT
def Qr(n:Nat)(good bad:Int)(b:Bool)(R:Go.Sx.Rows):List Go.Sx.ag:=[.cells true true [.pointer (some ⟨1,0,none⟩),.int .i64 good,.int .i64 bad],.cells true true [.slice (some ⟨4,0,some 1⟩) n 0,.int .i64 1000],.dead,.cells true true [.bool b],.rows true true 1 n R]
theorem ajC(b:Bool)(good bad:Int)(R:Go.Sx.Rows):(call VV 60 37 [.pointer (some ⟨0,0,none⟩),.bool b] (GA [] good bad R)).get=some (.bool true,Qr 1 good bad b (rowOf [.bool b])):=by kernel_rfl
theorem adu(a b:Bool)(l:List Bool)(good bad:Int)(R:Go.Sx.Rows):(call VV 60 37 [.pointer (some ⟨0,0,none⟩),.bool b] (GA (a::l) good bad R)).get=
  (M.br (decide (((l.length+1:Nat):Int)>=1000)) (.ret (Value.bool false,GA (a::l) good bad R)) (.br (Nat.beq (l.length+1) (l.length+1)) (.br (fG (l.length+2)&&mh R.ks [.bo]) (.ret (Value.bool true,Qr (l.length+2) good bad b (eY (l.length+1) [.bool b] R))) .bad) .bad)).get:=by kernel_rfl
theorem Gz{α:Type}{k:Nat}{lh:List Go.Sx.ag}{F:List Bool->M α}{x:α}(h:(Ny k lh F).get=some x):∃l,lh.getD k .dead=.abs true (.kL l)/\(F l).get=some x:=by
 unfold Ny at h;split at h
 .rename_i l hl
  exact⟨l,hl,h⟩
 .cases h
theorem set_self{lh:List Go.Sx.ag}{k:Nat}{b:Go.Sx.ag}(h:lh.getD k .dead=b):lh.set k b=lh:=by
 apply o4;intro i;rw[List.getElem?_set];by_cases e:k=i
 .subst e
  rw[if_pos rfl];rcases cn k lh.length with hl|hl
  .rw[if_pos hl, <-h,b8,aw hl];rfl
  .rw[if_neg (by omega),ez hl]
 .rw[if_neg e]
theorem adv{l:List Bool}{b:Bool}{good bad:Int}{R:Go.Sx.Rows}{F:Nat->Prop}{bb:Nat}{w:World}(hR:WrR (l++[b]) R)(h:JH 0 (Qr (l.length+1) good bad b R) F bb w):rC (.kL (l++[b])) F bb w:=by
 have e:l++[b]≠[]:=by simp
 obtain⟨r,o1,sl,t,o2,cap,hw⟩:=Yb (l:=l++[b]) (k:=4) h rfl (by
  cases l with
  |nil=>rfl
  |cons a l=>show Go.Sx.ag.cells true true [.slice (some ⟨4,0,some 1⟩) ((a::l).length+1) 0,_]=Go.Sx.ag.cells true true [.slice (some ⟨4,0,some 1⟩) (a::(l++[b])).length 0,_];simp) (λ_=>⟨by omega,by show Go.Sx.ag.rows true true 1 (l.length+1) R=_;rw[cE];rfl⟩) hR
 exact hw.j
theorem aqg{σ:Nat->Option Pl}{k:Nat}{a:Value}{args':Array Value}(h:dY σ [.pointer (some ⟨k,0,none⟩),a].toArray args'):∃p a',σ k=some p/\args'=[.pointer (some ⟨p.b,p.o+0,none⟩),a'].toArray/\VR σ a a':=by
 obtain⟨y,b,rfl,h1,h2⟩:=eD h;obtain⟨p,hp,rfl⟩:=h1.gL;obtain⟨y2,b2,e2,h3,h4⟩:=eD h2;rw[kY h4]at e2;have e2:b=[y2]:=by simpa using fT Array.toList e2
 subst e2;exact⟨p,y2,hp,rfl,h3⟩
theorem Uu:dP nD KT Tryz.prog TT 37 BA:=by
 refine⟨⟨_,Tryz.func37,by kernel_rfl,by kernel_rfl⟩,λX w0 h0 hB hT args lh r hr=> ?_⟩;unfold BA at hr;split at hr
 .rename_i k b
  obtain⟨l,hk,hr⟩:=Gz hr;have ra:∀(σ:Nat->Option Pl) (args':Array Value),dY σ (.pointer (some ⟨k,0,none⟩)::[.bool b]).toArray args'->True/\∃p,σ k=some p/\args'=(.pointer (some ⟨p.b,p.o+0,none⟩)::[.bool b]).toArray:=λσ args' ha=>by
   obtain⟨p,a',hp,rfl,h1⟩:=aqg ha;rw[h1.aD rfl];exact⟨trivial,p,hp,rfl⟩
  rcases M.af hr with⟨hl,hr⟩|⟨hl,hr⟩
  .cases hr
   have hl:l.length<1000:=by rw[ir]at hl;exact hl
   refine FL lg (Q:=True) (rest:=[.bool b]) (v:=.bool true) rfl rfl ra (λ_ σ=>.bool _) (λ_ F bb w hJ=> ?_) h0 hB hT hk;obtain⟨good,bad,R,hR,hJ⟩:=hJ;cases l with
   |nil=>
    refine⟨_,Qr 1 good bad b (rowOf [.bool b]),hJ,rfl,λX w0 h0 hB hT=>(sO (Gh h0 hB hT) 60 _ _ _ _ (ajC b good bad R)).2,λF' w' hj=>adv (l:=[]) ⟨rfl,λi hi=> ?_⟩ hj⟩;obtain rfl:i=0:=by simpa using hi
    rfl
   |cons a l=>
    have hl:l.length+1<1000:=hl;have e:=adu a b l good bad R;rw[M.fe,cT (by omega)]at e;simp only[eN,jj]at e;rw[M.fe,ju,if_pos rfl,M.fe,hR.1,show(fG (l.length+2)&&mh [Go.Sx.Kd.bo] [.bo])=true from by rw[show fG (l.length+2)=true from mA (by omega)];rfl,if_pos rfl]at e;refine⟨_,Qr (l.length+2) good bad b (eY (l.length+1) [.bool b] R),hJ,rfl,λX w0 h0 hB hT=>(sO (Gh h0 hB hT) 60 _ _ _ _ e).2,λF' w' hj=>adv (l:=a::l) (R:=eY (l.length+1) [.bool b] R) (good:=good) (bad:=bad) ⟨hR.1,λi hi=> ?_⟩ hj⟩;show(cond (Nat.beq i (l.length+1)) b (R.gb i 0))=_;by_cases h:i=l.length+1
    .subst h
     rw[ju];show b=_;rw[b8,cx (by simp)];simp
    .have h2:Nat.beq i (l.length+1)=false:=by
      cases hq:Nat.beq i (l.length+1)with
      |false=>rfl
      |true=>exact absurd (cJ hq) h
     rw[h2];have hi2:i<(a::l).length:=by simp at hi ⊢;omega
     show R.gb i 0=_;rw[hR.2 i hi2,b8,b8,cD hi2]
  .cases hr
   have hl:1000<=l.length:=by
    rcases cn l.length 1000 with h|h
    .rw[show Nat.blt l.length 1000=true from by rw[ir];exact h]at hl;cases hl
    .exact h
   have key:=FL (X:=X) (w0:=w0) (lh:=lh) (k:=k) (a:=.kL l) (a':=.kL l) (G:=nD) (P:=Tryz.prog) (f:=37) lg (Q:=True) (rest:=[.bool b]) (v:=.bool false) (v2:=.bool false) rfl rfl ra (λ_ σ=>.bool _) (λ_ F bb w hJ=> ?_) h0 hB hT hk
   .rw[set_self hk]at key;exact key
   .obtain⟨good,bad,R,hR,hJ⟩:=hJ
    cases l with
    |nil=>simp at hl
    |cons a l=>
     have hl:1000<=l.length+1:=hl;have e:=adu a b l good bad R;rw[M.fe,cN (by omega),if_pos rfl]at e;exact⟨_,_,hJ,rfl,λX w0 h0 hB hT=>(sO (Gh h0 hB hT) 60 _ _ _ _ e).2,λF' w' hj=>⟨good,bad,R,hR,hj⟩⟩
 .cases hr
theorem wU.count{l:List Bool}{F F':Nat->Prop}{b:Nat}{w:World}{r o1:Nat}{sl:Value}{t o2 cap:Nat}{good bad:Int}(h:wU l F b w r o1 sl t o2 cap good bad)(x:Bool)(v:Int)(hF:∀j,F j->F' j)(hF':∀j,F' j->j<w.heap.size):
  wU l F' b (w.setCell ⟨b,if x then 1 else 2,none⟩ (.int .i64 v)) r o1 sl t o2 cap (if x then v else good) (if x then bad else v):=by
 have bf:∀j o,j≠b->(w.setCell ⟨b,if x then 1 else 2,none⟩ (.int .i64 v)).cell? ⟨j,o,none⟩=w.cell? ⟨j,o,none⟩:=λj o hj=>bt _ _ _ _ (by simp<;>(intro e;exact absurd e.symm hj));refine⟨λj hj=>by rw[js];exact hF' j hj,hF _ h.fb,hF _ h.fr,h.br,?_,?_,?_,?_,?_,λo=>by rw[fL];exact h.zb o,λo=>by rw[fL];exact h.zr o,h.nil,λhn=> ?_⟩
 .rw[bt _ _ _ _ (by cases x<;>simp)];exact h.c0
 .cases x
  .rw[bt _ _ _ _ (by simp)];exact h.c1
  .exact eL _ _ _ h.c1
 .cases x
  .exact eL _ _ _ h.c2
  .rw[bt _ _ _ _ (by simp)];exact h.c2
 .rw[bf _ _ h.br.symm];exact h.d0
 .rw[bf _ _ h.br.symm];exact h.d1
 .obtain⟨v1,v2,v3,v4,v5,v6,v7,v8⟩:=h.vec hn
  refine⟨v1,v2,hF _ v3,v4,v5,λo=>by rw[fL];exact v6 o,λj hj=>by rw[bf _ _ v4];exact v7 j hj,λi y hi=>by rw[bf _ _ v4];exact v8 i y hi⟩
theorem wU.pop{x:Bool}{l:List Bool}{F F':Nat->Prop}{b:Nat}{w w':World}{r o1:Nat}{sl:Value}{t o2 cap:Nat}{good bad:Int}(h:wU (x::l) F b w r o1 sl t o2 cap good bad)(hp:Dv r o1 t o2 l.length cap w w')(hF:∀j,F j->F' j)(hF':∀j,F' j->j<w'.heap.size):
  ∃sl',wU l F' b w' r o1 sl' t (o2+1) (cap-1) good bad:=by
 obtain⟨v1,v2,v3,v4,v5,v6,v7,v8⟩:=h.vec (by simp);obtain⟨f1,f2,f3,f4,f5,f6,f7,f8,f9⟩:=hp.facts v5 h.d0;have v2:l.length+1<=cap:=v2;have hb:∀o,w'.cell? ⟨b,o,none⟩=w.cell? ⟨b,o,none⟩:=λo=>cM (f5 b (λe=>v4 e.symm) h.br);refine⟨if l.length=0 then .slice none 0 0 else .slice (some ⟨t,o2+1,none⟩) l.length (cap-1),hF',hF _ h.fb,hF _ h.fr,h.br,(hb 0).trans h.c0,(hb 1).trans h.c1,(hb 2).trans h.c2,f9,(f7 _ (by omega)).trans h.d1,λo=>(f6 _).trans (h.zb o),λo=>(f6 _).trans (h.zr o),λhl=> ?_,λhl=> ?_⟩
 .subst hl;rfl
 .have hn:¬l.length=0:=fun e=>hl (cR e)
  rw[if_neg hn];refine⟨rfl,by omega,hF _ v3,v4,v5,λo=>(f6 _).trans (v6 o),λj hj=> ?_,λi y hi=> ?_⟩
  .rw[f8 _ (by omega),show o2+1+j=o2+(j+1)by omega];exact v7 (j+1) (by omega)
  .rw[f8 _ (by omega),show o2+1+i=o2+(i+1)by omega];exact v8 (i+1) y (by simpa using hi)
theorem Ut:dP nD KT Tryz.prog TT 124 Bz:=by
 refine⟨⟨_,Tryz.func124,by kernel_rfl,by kernel_rfl⟩,λX w0 h0 hB hT args lh r hr=> ?_⟩;unfold Bz at hr;split at hr
 .rename_i k
  obtain⟨l,hk,hr⟩:=Gz hr;cases hr;refine aeQ (G:=nD) lg (Q:=True) (rest:=[]) (pE:=[]) (v:=.bool (xD l)) (λσ args' ha=> ?_) (λ_ σ=>.bool _) (λ_ F b w hJ Mt hF hK=> ?_) h0 hB hT hk
  .obtain⟨y,b,rfl,h1,h2⟩:=eD ha
   obtain⟨p,hp,rfl⟩:=h1.gL;rw[kY h2];exact⟨trivial,p,hp,rfl⟩
  .obtain⟨r,o1,sl,t,o2,cap,good,bad,h⟩:=ai2 hJ
   have hsub:∀(w':World) j,F j->F j\/w.heap.size<=j/\j<w'.heap.size:=λ_ j hj=>.inl hj;have nb:¬j5 F w b:=λq=>q.2 h.fb;cases l with
   |nil=>
    have hd:=h.d0;rw[h.nil rfl]at hd;refine(WS h.c0 h.c1 (h.zb 1) hd).mono λe w' hh=> ?_;obtain⟨rfl,rfl⟩:=hh;refine⟨rfl,(Kept.refl _ w).setCell nb _,?_⟩;exact(h.count true (wrap64 (good+1)) (hsub _) (λj hj=>hj.elim (hF j) (λq=>by have:=q.2;rwa[js]at this))).j
   |cons x l=>
    obtain⟨v1,v2,v3,v4,v5,v6,v7,v8⟩:=h.vec (by simp);have hd:=h.d0;rw[v1]at hd;have e0:=v8 0 x rfl;refine(WR (n:=l.length) h.c0 h.c1 h.c2 h.zb hd v2 e0 (v6 _) (h.zr _) v5 h.br (λe=>v4 e.symm)).mono λe w' hh=> ?_;obtain⟨rfl,w1,hp,rfl⟩:=hh;obtain⟨f1,f2,f3,f4,f5,f6,f7,f8,f9⟩:=hp.facts v5 h.d0;have hk1:Kept (j5 F w) w w1:=⟨f2,f3,f4,by omega,λj hj=>f5 j (λe=>hj.2 (e▸v3)) (λe=>hj.2 (e▸h.fr))⟩;refine⟨rfl,hk1.setCell nb _,?_⟩;obtain⟨sl',h'⟩:=h.pop hp (F':=F) (λ_ q=>q) (λj hj=>by rw[f1];exact hF j hj);exact(h'.count x _ (hsub _) (λj hj=>hj.elim (λq=>by rw[f1];exact hF j q) (λq=>by have:=q.2;rwa[js]at this))).j
 .cases hr
theorem afW:vS nD KT Tryz.prog TT wkO:=
 bz ahV<|bz ahT<|bz agT<|bz ahO<|bz akV<|bz aes<|bz agx<|bz ahK<|
 bz KC<|bz Ig<|bz Ni<|bz Nj<|bz Ie<|bz Ut<|bz Uu<|
 bz ajD<|bz ajF<|bz afD<|
 bz afh<|bz afi<|bz abq<|bz abp<|bz abr<|bz afg Ez
theorem YA{X:Nat->Prop}{w0:World}(h0:∀k,KT k->X k)(hB:eB X w0)(hT:TT w0):iA qO X w0:=LZ BQ (by kernel_rfl) Z9 afW Bq h0 hB hT
end
noncomputable section
open Go.RowKit Go.bn Go.Sx Yq
def jH(c:Cn)(s:Ms)(A:Nat->Int)(e:Int)(F:Nat->Prop)(b:Nat)(w:World):Prop:=∃at_ fm fw ς bw τ,Mj c s A e at_ F fm fw ς b bw τ w
theorem jH.st{c:Cn}{s:Ms}{A:Nat->Int}{e:Int}{F:Nat->Prop}{b:Nat}{w w':World}(h:jH c s A e F b w)(hs:w.heap.size<=w'.heap.size)(hw:∀j,F j->w'.heap[j]?=w.heap[j]?):jH c s A e F b w':=by
 obtain⟨at_,fm,fw,ς,bw,τ,M⟩:=h;exact⟨at_,fm,fw,ς,bw,τ,ajc M hs hw⟩
theorem jH.lt{c:Cn}{s:Ms}{A:Nat->Int}{e:Int}{F:Nat->Prop}{b:Nat}{w:World}(h:jH c s A e F b w):∀j,F j->j<w.heap.size:=by
 obtain⟨at_,fm,fw,ς,bw,τ,M⟩:=h;exact M.sh.lt
def Bu(c:Cn)(s':Ms)(A':Nat->Int)(e':Int)(F:Nat->Prop)(b:Nat)(w w':World):Prop:=Kept (j5 F w) w w'/\jH c s' A' e' (grown F w w') b w'
def oH(A:Nat->Int)(n:Nat)(e:Int):Nat->Int:=λi=>if i=n then e else A i
theorem ah4{A:Nat->Int}{n:Nat}{e:Int}:oH A n e n=e:=if_pos rfl
theorem yT{A:Nat->Int}{e:Int}(l:List Ev):aG (oH A l.length e) l=aG A l:=IU l λi hi=>if_neg (by omega)
theorem Kl{A:Nat->Int}{e:Int}{x:Ev}(l:List Ev):aG (oH A l.length e) (x::l)=eY l.length (nA x e) (aG A l):=by
 show eY l.length (nA x (oH A l.length e l.length)) (aG (oH A l.length e) l)=_;rw[ah4,yT]
theorem MB(kind who:Int)(ea:Ask)(en:Int)(eg:Bool):Go.Sx.plain (iK kind who ea en eg)=true:=by simp[iK,vg,Go.Sx.plain,Go.Sx.aN]
theorem Zu{X:Nat->Prop}{w:World}{σ:Nat->Option Pl}{lh l:List Go.Sx.ag}{v:Value}{kind who:Int}{ea:Ask}{en:Int}{eg:Bool}{p:Pl}(hX:∀k,KT k->X k)(hT:TT w)
  (h:(o5 kind who ea en eg lh).get=some (v,l)) (hl:6<=lh.length) (hv:aN v=true) (hr:HR X w nD σ lh w) (h0:σ 0=some p) (hp:p.o=0):
  Calls Tryz.prog 18 [.pointer (some ⟨p.b,0,none⟩),iK kind who ea en eg].toArray w λe w'=>e=.returned v/\∃σ',HR X w nD σ' l w'/\∀k,k=0\/k=1\/k=2\/k=3\/k=5->σ' k=σ k:=by
 unfold o5 at h;obtain⟨r,h1,h2⟩:=M.ay h;obtain⟨l',h3,h4⟩:=M.ay h2;simp only[M.ah,cq,kB]at h4;obtain⟨rfl,rfl⟩:=h4;have hE:=YA hX hr.hn hT
 have hc:=(sO hE 80 _ _ _ _ h1).2.2 σ w [.pointer (some ⟨p.b,p.o+0,none⟩),iK kind who ea en eg].toArray hr ⟨rfl,λi x y hx hy=>by
  match i with
  |0=>simp at hx hy;subst hx hy;exact VR.ptr (off:=0) h0
  |1=>
   simp at hx hy;subst hx hy;exact VR.plain _ (MB _ _ _ _ _)
  |i+2=>simp at hx⟩
 rw[hp]at hc;refine hc.mono λe w' hh=> ?_;obtain⟨v',rfl,σ',hx,kS,hr'⟩:=hh;rw[kS.aD hv];refine⟨rfl,_,Su hr' h3,λk hk=> ?_⟩;have e:pull ((Af r.2).map (·.1)) σ' k=σ' k:=by
  unfold pull;have:((Af r.2).map (·.1))[k]?=some k:=by
   rcases hk with rfl|rfl|rfl|rfl|rfl<;>rfl
  rw[this];rfl
 rw[e];exact hx.2 k (by omega)
section
variable{c:Cn} {s s':Ms} {A:Nat->Int} {e at_:Int} {F fm fw:Nat->Prop} {ς:Nat->Option Pl} {τ:Nat->Nat->Option Pl} {b bw v:Nat} {w:World} {ea:Ask} {en:Int} {eg:Bool} {r:Bool}
theorem Mo{n:Nat}{R:Go.Sx.Rows}{rest:Nat->Option Value}(hn:s.ev.length=n+1):bI (aP c s v n R rest e at_) (dW s.ev.length) (fE s.ev.length R) (cZ c v (s.ws v)).1 (cZ c v (s.ws v)).2=fq (aP c s v n R rest e at_):=by
 rw[hn];rfl
theorem PS(hT:TT w)(hK:∀k,KT k->¬F k){P:Nat->Prop}:∀k,KT k->kept F P w k:=λk hk=>.inl ⟨hT.lt k hk,hK k hk⟩
theorem uA{n n':Nat}{R':Go.Sx.Rows}{kind who:Int}(M:Mj c s A e at_ F fm fw ς b bw τ w)(hT:TT w)(hK:∀k,KT k->¬F k)(hv:v<c.W)(hn:s.ev.length=n+1)
  (h:(o5 kind who ea en eg (fq (aP c s v n (aG A s.ev) (λi=>w.cell? ⟨bw,i,none⟩) e at_))).get=some (.bool r,fq (aP c s' v n' R' (λi=>w.cell? ⟨bw,i,none⟩) (aR (e+1)) e)))
  (ho:∀i,i≠v->s'.ws i=s.ws i) (hn':s'.ev.length=n'+1) (hR:R'=aG (oH A s.ev.length e) s'.ev):
  Calls Tryz.prog 18 [.pointer (some ⟨b,0,none⟩),iK kind who ea en eg].toArray w λx w'=>x=.returned (.bool r)/\Bu c s' (oH A s.ev.length e) (aR (e+1)) F b w w':=by
 have V:=Tz M hv n;rw[Mo hn]at V;obtain⟨p,h0,hb,ho0⟩:=M.sh.p0;subst hb;refine(Zu (PS hT hK) hT h (by show 6<=(_++_:List Go.Sx.ag).length;rw[cE];show 6<=6+_;omega) rfl V (p:=p) (by exact h0) ho0).mono λx w' hh=> ?_;obtain⟨rfl,σ',hr',hσ⟩:=hh;rw[hR, <-Mo hn']at hr';obtain⟨vE,M7,ς',τ',M'⟩:=YB M hv hr' hσ λi _ hi=>ho i hi;exact⟨rfl,hr'.below.mono λj hj=>.inl hj,_,_,_,_,_,_,M'⟩
theorem dV{n n':Nat}{kind who:Int}{abH:List Go.Sx.ag}{x x':Wr}(M:Mj c s A e at_ F fm fw ς b bw τ w)(hT:TT w)(hK:∀k,KT k->¬F k)(hv:v<c.W)
  (h:(call qO 80 18 [pk 0,iK kind who ea en eg] (bI ⟨c,s.m,s.now,s.wo,v,x,n,aG A s.ev,λi=>w.cell? ⟨bw,i,none⟩,e,at_⟩ (dW s.ev.length) (fE s.ev.length (aG A s.ev)) (cZ c v (s.ws v)).1 dm)).get=
   some (.bool r,bI ⟨c,s'.m,s'.now,s'.wo,v,x',n',aG A s.ev,λi=>w.cell? ⟨bw,i,none⟩,aR (e+1),e⟩ (dW s.ev.length) (fE s.ev.length (aG A s.ev)) (cZ c v (s.ws v)).1 (dm++abH)))
  (ho:s'.ws=s.ws) (he:s'.ev=s.ev):
  Calls Tryz.prog 18 [.pointer (some ⟨b,0,none⟩),iK kind who ea en eg].toArray w λx w'=>x=.returned (.bool r)/\Bu c s' (oH A s.ev.length e) (aR (e+1)) F b w w':=by
 have V:=ae1 M hv x n;obtain⟨p,h0,hb,ho0⟩:=M.sh.p0;subst hb;have hE:=YA (PS hT hK) V.hn hT
 have hc:=(sO hE 80 _ _ _ _ h).2.2 _ w [.pointer (some ⟨p.b,p.o+0,none⟩),iK kind who ea en eg].toArray V ⟨rfl,λi x y hx hy=>by
  match i with
  |0=>simp at hx hy;subst hx hy;exact VR.ptr (off:=0) (show look ς (τ v) bw v 0=some p from h0)
  |1=>simp at hx hy;subst hx hy;exact VR.plain _ (MB _ _ _ _ _)
  |i+2=>simp at hx⟩
 rw[ho0]at hc;refine hc.mono λx w' hh=> ?_;obtain⟨v',rfl,σ',hx,kS,hr'⟩:=hh;rw[kS.aD rfl];rw[<-yT (e:=e) s.ev, <-he]at hr';have hl:14<=(bI ⟨c,s.m,s.now,s.wo,v,x,n,aG A s.ev,λi=>w.cell? ⟨bw,i,none⟩,e,at_⟩ (dW s.ev.length) (fE s.ev.length (aG A s.ev)) (cZ c v (s.ws v)).1 dm).length:=aq 14;rw[he]at hr';obtain⟨vE,M7,ς',τ',M'⟩:=ae0 (s':=s') (A':=oH A s.ev.length e) (n':=n') M hv (by rw[he];exact hr') (λk hk=>hx.2 k (by omega)) λi _=>by rw[ho]
 exact⟨rfl,hr'.below.mono λj hj=>.inl hj,_,_,_,_,_,_,M'⟩
end
end
noncomputable section
open Go.RowKit Go.bn Go.Sx Yq
set_option maxRecDepth 100000
variable{α:Type}
def jA(k who:Int)(ea:Ask)(en:Int)(eg:Bool):Go.Sx.ag:=bl (.int .i64 k:: .int .i64 who::(vg ea++[.int .i64 en,.bool eg]))
abbrev jV:FuncId:=18
theorem Xd(q:Xq)(ev:Value)(eb:Go.Sx.ag)(wc:List Value)(who:Int)(ea:Ask)(en:Int)(eg:Bool):
  (call qO 80 jV [pk 0,iK 2 who ea en eg] (bI q ev eb wc dm)).get=some (.bool true,bI (UC q en).2.tick ev eb wc (dm++[jA 2 who ea en eg])):=by kernel_rfl
theorem Yx(q:Xq)(ev:Value)(eb:Go.Sx.ag)(wc:List Value)(who:Int)(ea:Ask)(en:Int)(eg:Bool):
  (call qO 80 jV [pk 0,iK 5 who ea en eg] (bI q ev eb wc dm)).get=some (.bool false,bI q.tick ev eb wc (dm++[jA 5 who ea en eg])):=by kernel_rfl
theorem Zl(q:Xq)(ev:Value)(eb:Go.Sx.ag)(wc:List Value)(who:Int)(ea:Ask)(en:Int)(eg:Bool):
  (call qO 80 jV [pk 0,iK 3 who ea en eg] (bI q ev eb wc dm)).get=((IL q eg).bind λr=>.ret (Value.bool r.1,bI r.2.tick ev eb wc (dm++[jA 3 who ea en eg]))).get:=by kernel_rfl
def UJ(s:aa):Go.Sx.ag:=bl [.int .i64 s.st,.int .i64 s.own,.int .i64 s.str,.bool s.brk,.bool s.fO,.int .i64 s.uses,.int .i64 s.gen,.int .i64 s.ep,.int .i64 s.cz]
def ah1(q:Xq)(i:Int)(F:Bool->Xq->List Go.Sx.ag->M α):M α:=
 .br (Nat.ble q.c.W 1000&&Nat.ble q.c.S 1000) (.br (uD (q.c.S:Int) i) (.br (Nat.beq (3+2*q.c.W) (3+2*q.c.W)) (tJ q.c q.m i.toNat λs=>og s 13 0 0 (F false q [UJ (iN (az s 13 0 0))]) λn=>.br (Nat.beq (3+2*q.c.W) (3+2*q.c.W)) (.br (Nat.blt i.toNat q.c.S) (F true {q with m:=q.m.set i.toNat n} [UJ n]) .bad) .bad) .bad) (F false q [])) .bad
theorem Wx(q:Xq)(ev:Value)(eb:Go.Sx.ag)(wc:List Value)(who:Int)(ea:Ask)(en:Int)(eg:Bool):
  (call qO 80 jV [pk 0,iK 4 who ea en eg] (bI q ev eb wc dm)).get=(ah1 q ea.slot λb q j=>.ret (Value.bool b,bI q.tick ev eb wc (dm++(jA 4 who ea en eg::j)))).get:=by kernel_rfl
def KQ(W w:Nat)(y n:M α):M α:=.br (!decide ((w:Int)<(W:Int))) n y
def Mi(W v w:Nat)(y:M α):M α:=.br (gu (w:Int) W) (.br (decide ((w:Int)=(v:Int))) y .bad) .bad
theorem IA{W w:Nat}{y n:M α}(h:w<W):(KQ W w y n).get=y.get:=by unfold KQ;rw[M.fe,cN (by omega)];rfl
theorem D9{W v:Nat}{y:M α}(h:v<W):(Mi W v v y).get=y.get:=by unfold Mi;rw[M.fe,if_pos (by unfold gu;simp;omega),M.fe,cN rfl,if_pos rfl]
theorem X6(v:Nat)(c:Cn)(m:Mm)(now:Int)(wo:List Bool)(x:Wr)(n:Nat)(R:Go.Sx.Rows)(rest:Nat->Option Value)(aj at_:Int)(ev:Value)(eb:Go.Sx.ag)(wc:List Value)(ea:Ask)(en:Int)(eg:Bool):
  (call qO 80 jV [pk 0,iK 1 (v:Int) ea en eg] (bI ⟨c,m,now,wo,v,x,n,R,rest,aj,at_⟩ ev eb (.int .i64 0::wc) dm)).get=
   (KQ c.W v (.br (Nat.beq (wc.length+1) 35) (Mi c.W v v (.ret (Value.bool false,bI (Xq.tick ⟨c,m,now,wo,v,x,n,R,rest,aj,at_⟩) ev eb (.int .i64 0::wc) (dm++[jA 1 v ea en eg])))) .bad)
    (.ret (Value.bool false,bI (Xq.tick ⟨c,m,now,wo,v,x,n,R,rest,aj,at_⟩) ev eb (.int .i64 0::wc) (dm++[jA 1 v ea en eg])))).get:=by kernel_rfl
abbrev kK(k:Int):Prop:=∀(v:Nat) (c:Cn) (m:Mm) (now:Int) (wo:List Bool) (x:Wr) (n:Nat) (R:Go.Sx.Rows) (rest:Nat->Option Value) (aj at_:Int) (ev:Value) (eb:Go.Sx.ag) (wc:List Value) (ea:Ask) (en:Int) (eg:Bool),
  (call qO 80 jV [pk 0,iK 0 (v:Int) ea en eg] (bI ⟨c,m,now,wo,v,x,n,R,rest,aj,at_⟩ ev eb (.int .i64 k::wc) dm)).get=
   (KQ c.W v (.br (Nat.beq (wc.length+1) 35) (Mi c.W v v (.ret (Value.bool false,bI (Xq.tick ⟨c,m,now,wo,v,x,n,R,rest,aj,at_⟩) ev eb (.int .i64 k::wc) (dm++[jA 0 v ea en eg,jA 0 v ea en eg])))) .bad)
    (.ret (Value.bool false,bI (Xq.tick ⟨c,m,now,wo,v,x,n,R,rest,aj,at_⟩) ev eb (.int .i64 k::wc) (dm++[jA 0 v ea en eg,jA 0 v ea en eg])))).get
theorem ajO:kK 1:=by unfold kK;intros;kernel_rfl
theorem ajN:kK 2:=by unfold kK;intros;kernel_rfl
theorem ajM:kK 3:=by unfold kK;intros;kernel_rfl
theorem ajL:kK 4:=by unfold kK;intros;kernel_rfl
theorem ajK:kK 5:=by unfold kK;intros;kernel_rfl
theorem ajJ:kK 6:=by unfold kK;intros;kernel_rfl
theorem ajI:kK 7:=by unfold kK;intros;kernel_rfl
theorem ajH:kK 8:=by unfold kK;intros;kernel_rfl
theorem agP(v:Nat)(S:Nat)(st:Int)(wt:Nat)(u:Int)(m:Mm)(now:Int)(wo:List Bool)(x:Wr)(n:Nat)(R:Go.Sx.Rows)(rest:Nat->Option Value)(aj at_:Int)(ev:Value)(eb:Go.Sx.ag)(wc:List Value)(ea:Ask)(en:Int)(eg:Bool):(call qO 80 jV [pk 0,iK 0 1 ea en eg] (bI ⟨⟨1,S,st,wt,u⟩,m,now,wo,v,x,n,R,rest,aj,at_⟩ ev eb wc dm)).get=some (.bool false,bI (Xq.tick ⟨⟨1,S,st,wt,u⟩,m,now,wo,v,x,n,R,rest,aj,at_⟩) ev eb wc (dm++[jA 0 1 ea en eg,jA 0 1 ea en eg])):=by kernel_rfl
theorem agO(v:Nat)(S:Nat)(st:Int)(wt:Nat)(u:Int)(m:Mm)(now:Int)(wo:List Bool)(x:Wr)(n:Nat)(R:Go.Sx.Rows)(rest:Nat->Option Value)(aj at_:Int)(ev:Value)(eb:Go.Sx.ag)(wc:List Value)(ea:Ask)(en:Int)(eg:Bool):(call qO 80 jV [pk 0,iK 0 2 ea en eg] (bI ⟨⟨2,S,st,wt,u⟩,m,now,wo,v,x,n,R,rest,aj,at_⟩ ev eb wc dm)).get=some (.bool false,bI (Xq.tick ⟨⟨2,S,st,wt,u⟩,m,now,wo,v,x,n,R,rest,aj,at_⟩) ev eb wc (dm++[jA 0 2 ea en eg,jA 0 2 ea en eg])):=by kernel_rfl
theorem agN(v:Nat)(S:Nat)(st:Int)(wt:Nat)(u:Int)(m:Mm)(now:Int)(wo:List Bool)(x:Wr)(n:Nat)(R:Go.Sx.Rows)(rest:Nat->Option Value)(aj at_:Int)(ev:Value)(eb:Go.Sx.ag)(wc:List Value)(ea:Ask)(en:Int)(eg:Bool):(call qO 80 jV [pk 0,iK 0 3 ea en eg] (bI ⟨⟨3,S,st,wt,u⟩,m,now,wo,v,x,n,R,rest,aj,at_⟩ ev eb wc dm)).get=some (.bool false,bI (Xq.tick ⟨⟨3,S,st,wt,u⟩,m,now,wo,v,x,n,R,rest,aj,at_⟩) ev eb wc (dm++[jA 0 3 ea en eg,jA 0 3 ea en eg])):=by kernel_rfl
theorem agM(v:Nat)(S:Nat)(st:Int)(wt:Nat)(u:Int)(m:Mm)(now:Int)(wo:List Bool)(x:Wr)(n:Nat)(R:Go.Sx.Rows)(rest:Nat->Option Value)(aj at_:Int)(ev:Value)(eb:Go.Sx.ag)(wc:List Value)(ea:Ask)(en:Int)(eg:Bool):(call qO 80 jV [pk 0,iK 0 4 ea en eg] (bI ⟨⟨4,S,st,wt,u⟩,m,now,wo,v,x,n,R,rest,aj,at_⟩ ev eb wc dm)).get=some (.bool false,bI (Xq.tick ⟨⟨4,S,st,wt,u⟩,m,now,wo,v,x,n,R,rest,aj,at_⟩) ev eb wc (dm++[jA 0 4 ea en eg,jA 0 4 ea en eg])):=by kernel_rfl
theorem alc(v:Nat)(c:Cn)(m:Mm)(now:Int)(wo:List Bool)(x:Wr)(n:Nat)(R:Go.Sx.Rows)(rest:Nat->Option Value)(aj at_:Int)(ev:Value)(eb:Go.Sx.ag)(wc:List Value)(ea:Ask)(en:Int)(eg:Bool):(call qO 80 jV [pk 0,iK 0 (-1) ea en eg] (bI ⟨c,m,now,wo,v,x,n,R,rest,aj,at_⟩ ev eb wc dm)).get=some (.bool false,bI (Xq.tick ⟨c,m,now,wo,v,x,n,R,rest,aj,at_⟩) ev eb wc (dm++[jA 0 (-1) ea en eg,jA 0 (-1) ea en eg])):=by kernel_rfl
theorem agL(v:Nat)(S:Nat)(st:Int)(wt:Nat)(u:Int)(m:Mm)(now:Int)(wo:List Bool)(x:Wr)(n:Nat)(R:Go.Sx.Rows)(rest:Nat->Option Value)(aj at_:Int)(ev:Value)(eb:Go.Sx.ag)(wc:List Value)(ea:Ask)(en:Int)(eg:Bool):(call qO 80 jV [pk 0,iK 1 1 ea en eg] (bI ⟨⟨1,S,st,wt,u⟩,m,now,wo,v,x,n,R,rest,aj,at_⟩ ev eb wc dm)).get=some (.bool false,bI (Xq.tick ⟨⟨1,S,st,wt,u⟩,m,now,wo,v,x,n,R,rest,aj,at_⟩) ev eb wc (dm++[jA 1 1 ea en eg])):=by kernel_rfl
theorem agK(v:Nat)(S:Nat)(st:Int)(wt:Nat)(u:Int)(m:Mm)(now:Int)(wo:List Bool)(x:Wr)(n:Nat)(R:Go.Sx.Rows)(rest:Nat->Option Value)(aj at_:Int)(ev:Value)(eb:Go.Sx.ag)(wc:List Value)(ea:Ask)(en:Int)(eg:Bool):(call qO 80 jV [pk 0,iK 1 2 ea en eg] (bI ⟨⟨2,S,st,wt,u⟩,m,now,wo,v,x,n,R,rest,aj,at_⟩ ev eb wc dm)).get=some (.bool false,bI (Xq.tick ⟨⟨2,S,st,wt,u⟩,m,now,wo,v,x,n,R,rest,aj,at_⟩) ev eb wc (dm++[jA 1 2 ea en eg])):=by kernel_rfl
theorem agJ(v:Nat)(S:Nat)(st:Int)(wt:Nat)(u:Int)(m:Mm)(now:Int)(wo:List Bool)(x:Wr)(n:Nat)(R:Go.Sx.Rows)(rest:Nat->Option Value)(aj at_:Int)(ev:Value)(eb:Go.Sx.ag)(wc:List Value)(ea:Ask)(en:Int)(eg:Bool):(call qO 80 jV [pk 0,iK 1 3 ea en eg] (bI ⟨⟨3,S,st,wt,u⟩,m,now,wo,v,x,n,R,rest,aj,at_⟩ ev eb wc dm)).get=some (.bool false,bI (Xq.tick ⟨⟨3,S,st,wt,u⟩,m,now,wo,v,x,n,R,rest,aj,at_⟩) ev eb wc (dm++[jA 1 3 ea en eg])):=by kernel_rfl
theorem agI(v:Nat)(S:Nat)(st:Int)(wt:Nat)(u:Int)(m:Mm)(now:Int)(wo:List Bool)(x:Wr)(n:Nat)(R:Go.Sx.Rows)(rest:Nat->Option Value)(aj at_:Int)(ev:Value)(eb:Go.Sx.ag)(wc:List Value)(ea:Ask)(en:Int)(eg:Bool):(call qO 80 jV [pk 0,iK 1 4 ea en eg] (bI ⟨⟨4,S,st,wt,u⟩,m,now,wo,v,x,n,R,rest,aj,at_⟩ ev eb wc dm)).get=some (.bool false,bI (Xq.tick ⟨⟨4,S,st,wt,u⟩,m,now,wo,v,x,n,R,rest,aj,at_⟩) ev eb wc (dm++[jA 1 4 ea en eg])):=by kernel_rfl
theorem alb(v:Nat)(c:Cn)(m:Mm)(now:Int)(wo:List Bool)(x:Wr)(n:Nat)(R:Go.Sx.Rows)(rest:Nat->Option Value)(aj at_:Int)(ev:Value)(eb:Go.Sx.ag)(wc:List Value)(ea:Ask)(en:Int)(eg:Bool):(call qO 80 jV [pk 0,iK 1 (-1) ea en eg] (bI ⟨c,m,now,wo,v,x,n,R,rest,aj,at_⟩ ev eb wc dm)).get=some (.bool false,bI (Xq.tick ⟨c,m,now,wo,v,x,n,R,rest,aj,at_⟩) ev eb wc (dm++[jA 1 (-1) ea en eg])):=by kernel_rfl
def ahc(q:Xq)(a:Ask):M (Bool×Xq):=
 .br (decide (((q.n+1:Nat):Int)>=1999)) (.ret (false,q)) (.br (decide ((a.op:Int)<0)) (.ret (false,q)) (.br (decide ((a.op:Int)>=8)) (.ret (false,q))
  (.br (Nat.beq (q.n+1) (q.n+1)) (.br (fG (q.n+2)&&mh q.R.ks wN) (Mi q.c.W q.who q.who (.ret (true,{q with n:=q.n+1,R:=eY (q.n+1) (Zp q.who q.aj a) q.R,x:=ah5 q a}))) .bad) .bad)))
def ade(q:Xq)(a:Ask):M (List Go.Sx.ag×Bool):=
 .br (decide ((a.op:Int)<0)) (.ret (Iw q.tick,false)) (.br (decide ((a.op:Int)>=8)) (.ret (Iw q.tick,false)) (Mi q.c.W q.who q.who (.ret (fq {q with n:=0,R:=rowOf (Zp q.who q.aj a),x:=ah5 q a}.tick,true))))
theorem acE(v:Nat)(c:Cn)(m:Mm)(now:Int)(wo:List Bool)(ask:Ask)(gr:Int)(n:Nat)(R:Go.Sx.Rows)(rest:Nat->Option Value)(aj at_:Int)(ea:Ask)(en:Int)(eg:Bool):
  (o5 0 (v:Int) ea en eg (fq ⟨c,m,now,wo,v,⟨.rest,ask,gr⟩,n,R,rest,aj,at_⟩)).get=
   (KQ c.W v (Mi c.W v v ((ahc ⟨c,m,now,wo,v,⟨.rest,ask,gr⟩,n,R,rest,aj,at_⟩ ea).bind λr=>.ret (Value.bool r.1,fq r.2.tick))) (.ret (Value.bool false,fq (Xq.tick ⟨c,m,now,wo,v,⟨.rest,ask,gr⟩,n,R,rest,aj,at_⟩)))).get:=by kernel_rfl
theorem ZP(v:Nat)(c:Cn)(m:Mm)(now:Int)(wo:List Bool)(ask:Ask)(gr:Int)(n:Nat)(R:Go.Sx.Rows)(rest:Nat->Option Value)(aj at_:Int)(ea:Ask)(en:Int)(eg:Bool):
  (o5 0 (v:Int) ea en eg (Iw ⟨c,m,now,wo,v,⟨.rest,ask,gr⟩,n,R,rest,aj,at_⟩)).get=
   (KQ c.W v (Mi c.W v v ((ade ⟨c,m,now,wo,v,⟨.rest,ask,gr⟩,n,R,rest,aj,at_⟩ ea).bind λr=>.ret (Value.bool r.2,r.1))) (.ret (Value.bool false,Iw (Xq.tick ⟨c,m,now,wo,v,⟨.rest,ask,gr⟩,n,R,rest,aj,at_⟩)))).get:=by kernel_rfl
end
noncomputable section
open Go.RowKit Go.bn Go.Sx Yq Classical
variable{c:Cn} {s:Ms} {A:Nat->Int} {e at_:Int} {F fm fw:Nat->Prop} {ς:Nat->Option Pl} {τ:Nat->Nat->Option Pl} {b bw v:Nat} {w:World}
theorem xK(w:Nat)(s:Ms)(x:Wr)(q:Qu):(aV c w s x q).ev=s.ev/\(aV c w s x q).now=s.now:=by
 unfold aV;dsimp only
 (repeat' split)<;>exact⟨rfl,rfl⟩
theorem zP(w:Nat)(s:Ms)(x:Wr)(h:Option Int):(dh w s x h).ev=s.ev/\(dh w s x h).now=s.now:=by
 cases h with
 |none=>exact⟨rfl,rfl⟩
 |some g=>unfold dh;dsimp only;split<;>exact⟨rfl,rfl⟩
theorem NZ(w:Nat)(s:Ms)(x:Wr)(k:Wk):(ak c w s x k).ev=s.ev/\(ak c w s x k).now=s.now:=by
 unfold ak;cases k with
 |get t=>by_cases h:t.st=.bM<;>(simp only[h,if_true,jj];(repeat' split)<;>exact⟨rfl,rfl⟩)
 |give t=>dsimp only;(repeat' split)<;>exact⟨rfl,rfl⟩
 |bg t=>dsimp only;(repeat' split)<;>exact⟨rfl,rfl⟩
 |close d=>cases d<;>dsimp only<;>(repeat' split)<;>exact⟨rfl,rfl⟩
 |stats t=>dsimp only;(repeat' split)<;>exact⟨rfl,rfl⟩
 |aS r=>dsimp only;(repeat' split)<;>exact⟨rfl,rfl⟩
theorem Lm(c:Cn)(s:Ms)(w:Nat):((ai c s w).ev=s.ev\/∃x:Ev,x.ended=true/\(ai c s w).ev=x::s.ev)/\(ai c s w).now=s.now:=by
 have or:∀s':Ms,s'.ev=s.ev/\s'.now=s.now->(s'.ev=s.ev\/∃x:Ev,x.ended=true/\s'.ev=x::s.ev)/\s'.now=s.now:=λs' h=>⟨.inl h.1,h.2⟩;unfold ai;dsimp only;cases(s.ws w).ph with
 |rest=>exact or _ ⟨rfl,rfl⟩
 |pin h=>cases h<;>exact or _ ⟨rfl,rfl⟩
 |work k=>exact or _ (NZ _ _ _ _)
 |counts t=>dsimp only;(repeat' split)<;>exact or _ ⟨rfl,rfl⟩
 |enters q=>dsimp only;(repeat' split)<;>exact or _ ⟨rfl,rfl⟩
 |ax t p a=>
  dsimp only;split
  .cases p with
   |some b=>exact or _ ⟨rfl,rfl⟩
   |none=>exact⟨.inr ⟨_,rfl,rfl⟩,rfl⟩
  .exact or _ ⟨rfl,rfl⟩
 |parked b=>dsimp only;split<;>first|exact or _ (zP _ _ _ _)|exact or _ (xK _ _ _ _)
 |wakes h=>exact or _ (zP _ _ _ _)
 |leaves q=>exact or _ (xK _ _ _ _)
theorem ZX(c:Cn)(s:Ms)(w:Nat):(ai c s w).ev=s.ev\/∃x:Ev,x.ended=true/\(ai c s w).ev=x::s.ev:=(Lm c s w).1
theorem WM(c:Cn)(s:Ms)(w:Nat):(ai c s w).now=s.now:=(Lm c s w).2
structure rE(c:Cn)(s:Ms)(e:Int):Prop where
 W:1<=c.W/\c.W<=4
 S:1<=c.S/\c.S<=5
 nx:∃k:Nat,e=k/\Nx c s k/\s.ev.length<=k
 ev0:s.ev=[]->∀w,w<c.W->(s.ws w).ph=.rest
 tm:0<=s.now/\s.now<=1099511627776
theorem ady(c:Cn)(s:Ms)(x:En):(dX c s x).2.ev=s.ev\/∃y:Ev,(dX c s x).2.ev=y::s.ev:=by
 unfold dX;repeat' split
 all_goals first|exact .inl rfl|skip
 .exact .inr ⟨_,rfl⟩
 .rcases ZX c s x.who.toNat with h|⟨y,_,h⟩
  .exact .inl h
  .exact .inr ⟨y,h⟩
theorem afu(G:rE c s e)(x:En):rE c (dX c s x).2 (e+1):=by
 obtain⟨k,hk,N,hl⟩:=G.nx;refine⟨G.W,G.S,⟨k+1,by omega,ai9 (by have:=G.W.2;omega) G.S.1 N x,?_⟩,λh0=> ?_,?_⟩
 .rcases ady c s x with h|⟨y,h⟩<;>rw[h]
  .omega
  .rw[ct];omega
 .have hs:s.ev=[]:=by
   rcases ady c s x with h|⟨y,h⟩
   .rw[<-h];exact h0
   .rw[h]at h0;cases h0
  have ns:∀w,w<c.W->¬aQ s w:=λw hw hc=>by unfold aQ at hc;rw[G.ev0 hs w hw]at hc;exact hc
  unfold dX at h0 ⊢;repeat' split
  all_goals first|exact G.ev0 hs|skip
  .rename_i k0 hm
   rw[if_pos k0,if_pos hm]at h0;cases h0
  .rename_i _ k1 hm
   obtain⟨⟨w0,w1⟩,hc⟩:=hm;exact absurd hc (ns _ (by omega))
 .have:=G.tm
  unfold dX;repeat' split
  all_goals first|exact G.tm|skip
  .rename_i hm
   have h:=WM c s x.who.toNat;rw[h];exact G.tm
  .show 0<=xg s.now x.n/\xg s.now x.n<=1099511627776
   unfold xg;omega
def mE(x:En):Ask:={x.a with op:=x.op.toNat}
def uZ(x:En):Value:=iK x.kind x.who (mE x) x.n x.good
structure wY(c:Cn)(x:En):Prop where
 kind:0<=x.kind/\x.kind<=5
 who: -1<=x.who/\x.who<=c.W
 op:0<=x.op
theorem aea{q:Xq}(h:0<=q.now/\q.now<=1099511627776)(n:Int):UC q n=(true,{q with now:=xg q.now n}):=by
 unfold UC xg;have e1:aR (1099511627776-q.now)=1099511627776-q.now:=fA ⟨by omega,by omega⟩;have e2:(if aR (1099511627776-q.now)<(if 0>n then 0 else n)then aR (1099511627776-q.now)else if 0>n then 0 else n)=min (max n 0) (1099511627776-q.now):=by
  rw[e1];split<;>split<;>omega
 rw[e2,fA ⟨by omega,by omega⟩]
def rJ:Ph->Int| .rest=>0| .pin _=>1| .work _=>2| .counts _=>3| .enters _=>4| .ax _ _ _=>5| .parked _=>6| .wakes _=>7| .leaves _=>8
theorem E5(c:Cn)(v:Nat)(x:Wr):∃wc,(cZ c v x).1=.int .i64 (rJ x.ph)::wc/\Nat.beq (wc.length+1) 35=true:=by
 have hl:=(uM c v x).2.2;have h0:∃wc,(cZ c v x).1=.int .i64 (rJ x.ph)::wc:=by
  unfold cZ;generalize EU c x.ph=ex;obtain⟨ph,ask,gr⟩:=x;cases ph with
  |rest=>exact⟨_,rfl⟩
  |pin h=>cases h<;>exact⟨_,rfl⟩
  |work k=>cases k with
   |close q=>cases q<;>exact⟨_,rfl⟩
   |_=>exact⟨_,rfl⟩
  |counts t=>exact⟨_,rfl⟩
  |enters q=>exact⟨_,rfl⟩
  |ax t p a=>cases p<;>exact⟨_,rfl⟩
  |parked b=>exact⟨_,rfl⟩
  |wakes h=>cases h<;>exact⟨_,rfl⟩
  |leaves q=>exact⟨_,rfl⟩
 obtain⟨wc,h⟩:=h0;rw[h,ct]at hl;exact⟨wc,h,by rw[hl];rfl⟩
theorem acs{x:Wr}(h:x.ph≠.rest):kK (rJ x.ph):=by
 cases hp:x.ph with
 |rest=>exact absurd hp h
 |pin h=>exact ajO
 |work k=>exact ajN
 |counts t=>exact ajM
 |enters q=>exact ajL
 |ax t p a=>exact ajK
 |parked b=>exact ajJ
 |wakes h=>exact ajI
 |leaves q=>exact ajH
theorem ac7{x:En}(h0:x.kind=0)(h:¬Ih c s x):dX c s x=(false,s):=by unfold dX;rw[if_pos h0,if_neg h]
theorem Yy{x:En}(h0:x.kind=1)(h:¬(inW c x.who/\aQ s x.who.toNat)):dX c s x=(false,s):=by unfold dX;rw[if_neg (by omega),if_pos h0,if_neg h]
theorem ahP{α:Type}{q:Xq}{g:Bool}{K:Bool×Xq->M α}(h:q.wo.length<1000):((IL q g).bind K).get=(K (true,{q with wo:=q.wo++[g]})).get:=by
 unfold IL;rw[M.get_bind,M.fe,if_pos (by rw[ir];exact h)];rfl
theorem ahQ{α:Type}{q:Xq}{g:Bool}{K:Bool×Xq->M α}(h:¬q.wo.length<1000):((IL q g).bind K).get=(K (false,q)).get:=by
 unfold IL;rw[M.get_bind,M.fe,if_neg (by rw[ir];exact h)];rfl
theorem Vx(G:rE c s e)(J:Mj c s A e at_ F fm fw ς b bw τ w)(hT:TT w)(hK:∀k,KT k->¬F k)(x:En)(hx:wY c x)(hk:2<=x.kind):
  Calls Tryz.prog jV [.pointer (some ⟨b,0,none⟩),uZ x].toArray w λr w'=>r=.returned (.bool (dX c s x).1)/\Bu c (dX c s x).2 (oH A s.ev.length e) (aR (e+1)) F b w w':=by
 have hv:0<c.W:=G.W.1;obtain⟨kind,who,op,a,n,good⟩:=x;have hk:2<=kind:=hk;have hk5:kind<=5:=hx.kind.2;rcases(by omega:kind=2\/kind=3\/kind=4\/kind=5)with rfl|rfl|rfl|rfl
 .have hd:dX c s ⟨2,who,op,a,n,good⟩=(true,{s with now:=xg s.now n}):=rfl
  rw[hd];have t:=Xd ⟨c,s.m,s.now,s.wo,0,s.ws 0,0,aG A s.ev,λi=>w.cell? ⟨bw,i,none⟩,e,at_⟩ (dW s.ev.length) (fE s.ev.length (aG A s.ev)) (cZ c 0 (s.ws 0)).1 who (mE ⟨2,who,op,a,n,good⟩) n good;rw[aea G.tm]at t;exact dV (s':={s with now:=xg s.now n}) J hT hK hv t rfl rfl
 .have t:=Zl ⟨c,s.m,s.now,s.wo,0,s.ws 0,0,aG A s.ev,fun i=>w.cell? ⟨bw,i,none⟩,e,at_⟩ (dW s.ev.length) (fE s.ev.length (aG A s.ev)) (cZ c 0 (s.ws 0)).1 who (mE ⟨3,who,op,a,n,good⟩) n good
  by_cases hl:s.wo.length<1000
  .have hd:dX c s ⟨3,who,op,a,n,good⟩=(true,{s with wo:=s.wo++[good]}):=by
    unfold dX;rw[if_neg (by show¬(3:Int)=0;decide),if_neg (by show¬(3:Int)=1;decide),if_neg (by show¬(3:Int)=2;decide),if_pos rfl,if_pos hl]
   rw[hd];have t:=t.trans (ahP (q:=⟨c,s.m,s.now,s.wo,0,s.ws 0,0,aG A s.ev,λi=>w.cell? ⟨bw,i,none⟩,e,at_⟩) hl);exact dV (s':={s with wo:=s.wo++[good]}) J hT hK hv t rfl rfl
  .have hd:dX c s ⟨3,who,op,a,n,good⟩=(false,s):=by
    unfold dX;rw[if_neg (by show¬(3:Int)=0;decide),if_neg (by show¬(3:Int)=1;decide),if_neg (by show¬(3:Int)=2;decide),if_pos rfl,if_neg hl]
   rw[hd];have t:=t.trans (ahQ (q:=⟨c,s.m,s.now,s.wo,0,s.ws 0,0,aG A s.ev,λi=>w.cell? ⟨bw,i,none⟩,e,at_⟩) hl);exact dV (s':=s) J hT hK hv t rfl rfl
 .have t:=Wx ⟨c,s.m,s.now,s.wo,0,s.ws 0,0,aG A s.ev,fun i=>w.cell? ⟨bw,i,none⟩,e,at_⟩ (dW s.ev.length) (fE s.ev.length (aG A s.ev)) (cZ c 0 (s.ws 0)).1 who (mE ⟨4,who,op,a,n,good⟩) n good
  have hW:=G.W;have hS:=G.S;have hWS:(Nat.ble c.W 1000&&Nat.ble c.S 1000)=true:=by rw[Em (by omega),Em (by omega)];rfl
  have t:=t.trans (aI hWS);have hd0:dX c s ⟨4,who,op,a,n,good⟩=if inS c a.slot then(match QN s.m a.slot.toNat with|some m=>(true,s.mem m)|none=>(false,s))else(false,s):=by
   unfold dX;rw[if_neg (by show¬(4:Int)=0;decide),if_neg (by show¬(4:Int)=1;decide),if_neg (by show¬(4:Int)=2;decide),if_neg (by show¬(4:Int)=3;decide),if_pos rfl];rfl
  by_cases hi:inS c a.slot
  .rw[if_pos hi]at hd0
   unfold QN at hd0;have hi':(0:Int)<=a.slot/\a.slot<c.S:=hi;have t:=t.trans ((aI (VE hi'.1 hi'.2)).trans ((aI (ju _)).trans (qm (show a.slot.toNat<c.S by omega))));cases hn:az (s.m.sl a.slot.toNat) 13 0 0 with
   |none=>
    rw[hn]at hd0;simp only[Option.map_none]at hd0;rw[hd0];have t:=t.trans (nZ hn);exact dV (s':=s) J hT hK hv t rfl rfl
   |some nx=>
    rw[hn]at hd0;simp only[eR]at hd0;rw[hd0];have t:=t.trans ((nY hn).trans ((aI (ju _)).trans (aI (qY (show a.slot.toNat<c.S by omega)))));exact dV (s':=s.mem (s.m.set a.slot.toNat nx)) J hT hK hv t rfl rfl
  .rw[if_neg hi]at hd0
   rw[hd0];have t:=t.trans (aT (adg hi));exact dV (s':=s) J hT hK hv t rfl rfl
 .have hd:dX c s ⟨5,who,op,a,n,good⟩=(false,s):=by
   unfold dX;rw[if_neg (by show¬(5:Int)=0;decide),if_neg (by show¬(5:Int)=1;decide),if_neg (by show¬(5:Int)=2;decide),if_neg (by show¬(5:Int)=3;decide),if_neg (by show¬(5:Int)=4;decide)]
  rw[hd];have t:=Yx ⟨c,s.m,s.now,s.wo,0,s.ws 0,0,aG A s.ev,λi=>w.cell? ⟨bw,i,none⟩,e,at_⟩ (dW s.ev.length) (fE s.ev.length (aG A s.ev)) (cZ c 0 (s.ws 0)).1 who (mE ⟨5,who,op,a,n,good⟩) n good;exact dV (s':=s) J hT hK hv t rfl rfl
end
noncomputable section
open Go.RowKit Go.bn Go.Sx Yq Classical
variable{c:Cn} {s s':Ms} {A:Nat->Int} {e at_:Int} {F fm fw:Nat->Prop} {ς:Nat->Option Pl} {τ:Nat->Nat->Option Pl} {b bw v:Nat} {w:World} {ea:Ask} {en:Int} {eg r:Bool}
theorem Py{n n':Nat}{R R':Go.Sx.Rows}{kind who:Int}{eb':Go.Sx.ag}(J:Mj c s A e at_ F fm fw ς b bw τ w)(hT:TT w)(hK:∀k,KT k->¬F k)(hv:v<c.W)
  (h:(o5 kind who ea en eg (bI (aP c s v n (aG A s.ev) (λi=>w.cell? ⟨bw,i,none⟩) e at_) (dW s.ev.length) (fE s.ev.length (aG A s.ev)) (cZ c v (s.ws v)).1 (cZ c v (s.ws v)).2)).get=
   some (.bool r,bI (aP c s' v n' R' (λi=>w.cell? ⟨bw,i,none⟩) (aR (e+1)) e) (dW s'.ev.length) eb' (cZ c v (s'.ws v)).1 (cZ c v (s'.ws v)).2))
  (heb:eb'=fE s'.ev.length (aG (oH A s.ev.length e) s'.ev)\/∃R1 R2,eb'=.rows true true 18 1 R1/\fE s'.ev.length (aG (oH A s.ev.length e) s'.ev)=.rows true true 18 1 R2/\∀j,j<18->(R1.at 0 j).val=(R2.at 0 j).val)
  (ho:∀i,i≠v->s'.ws i=s.ws i):
  Calls Tryz.prog jV [.pointer (some ⟨b,0,none⟩),iK kind who ea en eg].toArray w λx w'=>x=.returned (.bool r)/\Bu c s' (oH A s.ev.length e) (aR (e+1)) F b w w':=by
 have V:=Tz J hv n;obtain⟨p,h0,hb,ho0⟩:=J.sh.p0;subst hb;refine(Zu (PS hT hK) hT h (by show 6<=(_++_:List Go.Sx.ag).length;rw[cE];show 6<=6+_;omega) rfl V (p:=p) (by exact h0) ho0).mono λx w' hh=> ?_;obtain⟨rfl,σ',hr',hσ⟩:=hh;have hr':HR (kept F (xA c τ (· ≠v)) w) w nD σ' (bI (aP c s' v n' R' (λi=>w.cell? ⟨bw,i,none⟩) (aR (e+1)) e) (dW s'.ev.length) (fE s'.ev.length (aG (oH A s.ev.length e) s'.ev)) (cZ c v (s'.ws v)).1 (cZ c v (s'.ws v)).2) w':=by
  rcases heb with rfl|⟨R1,R2,rfl,e2,h3⟩
  .exact hr'
  .rw[e2]
   refine hr'.other 4 (.rows true true 18 1 R2) (λ_=>rfl) (λ_=>rfl) (λp hp hb=>⟨hb.1,hb.2.1,λi j hi hj=> ?_⟩) (.inr rfl);obtain⟨u,h4,h5⟩:=hb.2.2 i j hi hj;obtain rfl:i=0:=by omega
   exact⟨u,h4,by rw[<-h3 j hj];exact h5⟩
 obtain⟨vE,M7,ς',τ',M'⟩:=YB (n':=n') J hv hr' hσ λi _ hi=>ho i hi;exact⟨rfl,hr'.below.mono λj hj=>.inl hj,_,_,_,_,_,_,M'⟩
theorem OD(G:rE c s e)(he:e<=1000000000){n:Nat}(hn:s.ev.length=n+1):fG (n+2)=true:=by
 obtain⟨k,hk,_,hl⟩:=G.nx;exact mA (by omega)
theorem YK(G:rE c s e)(J:Mj c s A e at_ F fm fw ς b bw τ w)(hT:TT w)(hK:∀k,KT k->¬F k)(hv:v<c.W)(hp:(s.ws v).ph≠.rest):
  Calls Tryz.prog jV [.pointer (some ⟨b,0,none⟩),iK 0 (v:Int) ea en eg].toArray w λx w'=>x=.returned (.bool false)/\Bu c s (oH A s.ev.length e) (aR (e+1)) F b w w':=by
 obtain⟨wc,h1,h2⟩:=E5 c v (s.ws v);have t:=(acs hp v c s.m s.now s.wo (s.ws v) 0 (aG A s.ev) (λi=>w.cell? ⟨bw,i,none⟩) e at_ (dW s.ev.length) (fE s.ev.length (aG A s.ev)) wc ea en eg).trans ((IA hv).trans ((aI h2).trans (D9 hv)));rw[<-h1]at t;exact dV (s':=s) (n':=0) J hT hK hv t rfl rfl
theorem YI(J:Mj c s A e at_ F fm fw ς b bw τ w)(hT:TT w)(hK:∀k,KT k->¬F k)(hv:v<c.W)(hp:(s.ws v).ph=.rest):
  Calls Tryz.prog jV [.pointer (some ⟨b,0,none⟩),iK 1 (v:Int) ea en eg].toArray w λx w'=>x=.returned (.bool false)/\Bu c s (oH A s.ev.length e) (aR (e+1)) F b w w':=by
 obtain⟨wc,h1,h2⟩:=E5 c v (s.ws v);rw[hp]at h1;have t:=(X6 v c s.m s.now s.wo (s.ws v) 0 (aG A s.ev) (λi=>w.cell? ⟨bw,i,none⟩) e at_ (dW s.ev.length) (fE s.ev.length (aG A s.ev)) wc ea en eg).trans ((IA hv).trans ((aI h2).trans (D9 hv)));have h1:(cZ c v (s.ws v)).1=.int .i64 0::wc:=h1;rw[<-h1]at t;exact dV (s':=s) (n':=0) J hT hK hv t rfl rfl
theorem Px(G:rE c s e)(J:Mj c s A e at_ F fm fw ς b bw τ w)(hT:TT w)(hK:∀k,KT k->¬F k){kind who:Int}(hk:kind=0\/kind=1)(hw:who= -1\/who=c.W):
  Calls Tryz.prog jV [.pointer (some ⟨b,0,none⟩),iK kind who ea en eg].toArray w λx w'=>x=.returned (.bool false)/\Bu c s (oH A s.ev.length e) (aR (e+1)) F b w w':=by
 have hv:0<c.W:=G.W.1;have uF:=G.W.2;rcases hw with rfl|rfl
 .rcases hk with rfl|rfl
  .exact dV (s':=s) (n:=0) (n':=0) (x:=s.ws 0) (x':=s.ws 0) J hT hK hv (alc 0 c s.m s.now s.wo (s.ws 0) 0 (aG A s.ev) (λi=>w.cell? ⟨bw,i,none⟩) e at_ (dW s.ev.length) (fE s.ev.length (aG A s.ev)) (cZ c 0 (s.ws 0)).1 ea en eg) rfl rfl
  .exact dV (s':=s) (n:=0) (n':=0) (x:=s.ws 0) (x':=s.ws 0) J hT hK hv (alb 0 c s.m s.now s.wo (s.ws 0) 0 (aG A s.ev) (λi=>w.cell? ⟨bw,i,none⟩) e at_ (dW s.ev.length) (fE s.ev.length (aG A s.ev)) (cZ c 0 (s.ws 0)).1 ea en eg) rfl rfl
 .obtain⟨W,S,st,wt,u⟩:=c
  have uF:W<=4:=uF;have hv:0<W:=hv;rcases(by omega:W=1\/W=2\/W=3\/W=4)with rfl|rfl|rfl|rfl
  .rcases hk with rfl|rfl
   .exact dV (s':=s) (n:=0) (n':=0) (x:=s.ws 0) (x':=s.ws 0) J hT hK hv (agP 0 S st wt u s.m s.now s.wo (s.ws 0) 0 (aG A s.ev) (λi=>w.cell? ⟨bw,i,none⟩) e at_ (dW s.ev.length) (fE s.ev.length (aG A s.ev)) (cZ ⟨1,S,st,wt,u⟩ 0 (s.ws 0)).1 ea en eg) rfl rfl
   .exact dV (s':=s) (n:=0) (n':=0) (x:=s.ws 0) (x':=s.ws 0) J hT hK hv (agL 0 S st wt u s.m s.now s.wo (s.ws 0) 0 (aG A s.ev) (λi=>w.cell? ⟨bw,i,none⟩) e at_ (dW s.ev.length) (fE s.ev.length (aG A s.ev)) (cZ ⟨1,S,st,wt,u⟩ 0 (s.ws 0)).1 ea en eg) rfl rfl
  .rcases hk with rfl|rfl
   .exact dV (s':=s) (n:=0) (n':=0) (x:=s.ws 0) (x':=s.ws 0) J hT hK hv (agO 0 S st wt u s.m s.now s.wo (s.ws 0) 0 (aG A s.ev) (λi=>w.cell? ⟨bw,i,none⟩) e at_ (dW s.ev.length) (fE s.ev.length (aG A s.ev)) (cZ ⟨2,S,st,wt,u⟩ 0 (s.ws 0)).1 ea en eg) rfl rfl
   .exact dV (s':=s) (n:=0) (n':=0) (x:=s.ws 0) (x':=s.ws 0) J hT hK hv (agK 0 S st wt u s.m s.now s.wo (s.ws 0) 0 (aG A s.ev) (λi=>w.cell? ⟨bw,i,none⟩) e at_ (dW s.ev.length) (fE s.ev.length (aG A s.ev)) (cZ ⟨2,S,st,wt,u⟩ 0 (s.ws 0)).1 ea en eg) rfl rfl
  .rcases hk with rfl|rfl
   .exact dV (s':=s) (n:=0) (n':=0) (x:=s.ws 0) (x':=s.ws 0) J hT hK hv (agN 0 S st wt u s.m s.now s.wo (s.ws 0) 0 (aG A s.ev) (λi=>w.cell? ⟨bw,i,none⟩) e at_ (dW s.ev.length) (fE s.ev.length (aG A s.ev)) (cZ ⟨3,S,st,wt,u⟩ 0 (s.ws 0)).1 ea en eg) rfl rfl
   .exact dV (s':=s) (n:=0) (n':=0) (x:=s.ws 0) (x':=s.ws 0) J hT hK hv (agJ 0 S st wt u s.m s.now s.wo (s.ws 0) 0 (aG A s.ev) (λi=>w.cell? ⟨bw,i,none⟩) e at_ (dW s.ev.length) (fE s.ev.length (aG A s.ev)) (cZ ⟨3,S,st,wt,u⟩ 0 (s.ws 0)).1 ea en eg) rfl rfl
  .rcases hk with rfl|rfl
   .exact dV (s':=s) (n:=0) (n':=0) (x:=s.ws 0) (x':=s.ws 0) J hT hK hv (agM 0 S st wt u s.m s.now s.wo (s.ws 0) 0 (aG A s.ev) (λi=>w.cell? ⟨bw,i,none⟩) e at_ (dW s.ev.length) (fE s.ev.length (aG A s.ev)) (cZ ⟨4,S,st,wt,u⟩ 0 (s.ws 0)).1 ea en eg) rfl rfl
   .exact dV (s':=s) (n:=0) (n':=0) (x:=s.ws 0) (x':=s.ws 0) J hT hK hv (agI 0 S st wt u s.m s.now s.wo (s.ws 0) 0 (aG A s.ev) (λi=>w.cell? ⟨bw,i,none⟩) e at_ (dW s.ev.length) (fE s.ev.length (aG A s.ev)) (cZ ⟨4,S,st,wt,u⟩ 0 (s.ws 0)).1 ea en eg) rfl rfl
theorem abl(G:rE c s e)(he:e<=1000000000)(J:Mj c s A e at_ F fm fw ς b bw τ w)(hT:TT w)(hK:∀k,KT k->¬F k)(x:En)(hx:wY c x)(hk:x.kind=0):
  Calls Tryz.prog jV [.pointer (some ⟨b,0,none⟩),uZ x].toArray w λr w'=>r=.returned (.bool (dX c s x).1)/\Bu c (dX c s x).2 (oH A s.ev.length e) (aR (e+1)) F b w w':=by
 obtain⟨kind,who,op,a,n,good⟩:=x;have hk:kind=0:=hk;subst hk;have hw: -1<=who/\who<=c.W:=hx.who;have hop:0<=op:=hx.op;by_cases hin:0<=who/\who<c.W
 .obtain⟨v,rfl⟩:∃v:Nat,who=v:=⟨who.toNat,by omega⟩
  have hv:v<c.W:=by omega
  by_cases hp:(s.ws v).ph=.rest
  .have hwv:s.ws v=⟨.rest,(s.ws v).ask,(s.ws v).grant⟩:=by rw[<-hp]
   have mk:∀b:Prop,(Ih c s ⟨0,v,op,a,n,good⟩↔b)->dX c s ⟨0,v,op,a,n,good⟩=if b then(true,ko s ⟨0,v,op,a,n,good⟩)else(false,s):=λb hb=>by
    unfold dX;rw[if_pos rfl];by_cases h:b
    .rw[if_pos h,if_pos (hb.2 h)]
    .rw[if_neg h,if_neg λq=>h (hb.1 q)]
   have hr:(s.ws (v:Int).toNat).ph=.rest:=by rw[cH];exact hp
   have TL:((mE ⟨0,v,op,a,n,good⟩).op:Int)=op:=by show((op.toNat:Nat):Int)=op;omega
   have hws:(ko s ⟨0,v,op,a,n,good⟩).ws v=⟨.pin none,mE ⟨0,v,op,a,n,good⟩,0⟩:=by
    show upd s.ws (v:Int).toNat _ v=_;rw[cH];exact if_pos rfl
   have hwo:∀i,i≠v->(ko s ⟨0,v,op,a,n,good⟩).ws i=s.ws i:=λi hi=>by
    show upd s.ws (v:Int).toNat _ i=_;rw[cH];exact if_neg hi
   have hev:(ko s ⟨0,v,op,a,n,good⟩).ev=⟨false,v,mE ⟨0,v,op,a,n,good⟩,bR.zero⟩::s.ev:=by
    show Ev.mk false (v:Int).toNat _ _::s.ev=_;rw[cH];rfl
   have d:=mk (s.ev.length<1999/\op<8) ⟨λq=>⟨q.2.2.1,q.2.2.2.2⟩,λq=>⟨⟨by show(0:Int)<=v;omega,by show(v:Int)<c.W;omega⟩,hr,q.1,hop,q.2⟩⟩;rw[d];rcases lf s.ev.length with hl|hl
   .have h0:s.ev=[]:=cR hl
    have t:=(ZP v c s.m s.now s.wo (s.ws v).ask (s.ws v).grant 0 (aG A s.ev) (λi=>w.cell? ⟨bw,i,none⟩) e at_ (mE ⟨0,v,op,a,n,good⟩) n good).trans ((IA hv).trans (D9 hv));rw[<-hwv]at t;have e1:bI (aP c s v 0 (aG A s.ev) (λi=>w.cell? ⟨bw,i,none⟩) e at_) (dW s.ev.length) (fE s.ev.length (aG A s.ev)) (cZ c v (s.ws v)).1 (cZ c v (s.ws v)).2=Iw ⟨c,s.m,s.now,s.wo,v,s.ws v,0,aG A s.ev,λi=>w.cell? ⟨bw,i,none⟩,e,at_⟩:=by
     rw[h0];rfl
    unfold ade at t;rw[M.get_bind,M.fe,cT (by rw[TL];omega)]at t;simp only[eN,jj]at t;by_cases h8:op<8
    .rw[if_pos ⟨by omega,h8⟩]
     rw[M.fe,cT (by rw[TL];omega)]at t;simp only[eN,jj]at t;have t:=t.trans (fT (λo=>Option.bind o _) (D9 hv));refine Py (s':=ko s ⟨0,v,op,a,n,good⟩) (n:=0) (n':=0) (R:=aG A s.ev) (R':=rowOf (Zp v e (mE ⟨0,v,op,a,n,good⟩))) (eb':=.rows true true 18 1 (rowOf (Zp v e (mE ⟨0,v,op,a,n,good⟩)))) J hT hK hv ?_ ?_ hwo
     .rw[e1]
      refine t.trans ?_;have hle:(ko s ⟨0,v,op,a,n,good⟩).ev.length=1:=by rw[hev,h0];rfl
      rw[hle,hws];show some _=some _;unfold aP;rw[hws];rfl
     .refine .inr ⟨_,eY 0 (nA ⟨false,v,mE ⟨0,v,op,a,n,good⟩,bR.zero⟩ e) ⟨wN,fun _ _=>0,fun _ _=>false⟩,rfl,?_,fun j hj=>rfl⟩
      rw[hev,Kl,h0];rfl
    .rw[if_neg fun q=>h8 q.2]
     rw[M.fe,cN (by rw[TL];omega),if_pos rfl]at t;refine Py (s':=s) (n:=0) (n':=0) (R:=aG A s.ev) (R':=aG A s.ev) J hT hK hv ?_ (.inl rfl) λ_ _=>rfl;rw[e1];refine t.trans ?_;rw[yT,h0];rfl
   .obtain⟨m,hl⟩:∃m,s.ev.length=m+1:=⟨s.ev.length-1,by omega⟩
    have hsm:=OD G he hl;have t:=(acE v c s.m s.now s.wo (s.ws v).ask (s.ws v).grant m (aG A s.ev) (λi=>w.cell? ⟨bw,i,none⟩) e at_ (mE ⟨0,v,op,a,n,good⟩) n good).trans ((IA hv).trans (D9 hv));rw[<-hwv]at t;unfold ahc at t;rw[M.get_bind,M.fe]at t
    have no:(o5 0 (v:Int) (mE ⟨0,v,op,a,n,good⟩) n good (fq ⟨c,s.m,s.now,s.wo,v,s.ws v,m,aG A s.ev,λi=>w.cell? ⟨bw,i,none⟩,e,at_⟩)).get=some (.bool false,fq (Xq.tick ⟨c,s.m,s.now,s.wo,v,s.ws v,m,aG A s.ev,λi=>w.cell? ⟨bw,i,none⟩,e,at_⟩))->
      Calls Tryz.prog jV [.pointer (some ⟨b,0,none⟩),uZ ⟨0,v,op,a,n,good⟩].toArray w λr w'=>r=.returned (.bool false)/\Bu c s (oH A s.ev.length e) (aR (e+1)) F b w w':=λt=>by
     exact uA (s':=s) (n:=m) (n':=m) (R':=aG A s.ev) J hT hK hv hl t (λ_ _=>rfl) hl (yT s.ev).symm
    by_cases h9:s.ev.length<1999
    .rw[cT (by show¬(((m+1:Nat):Int)>=1999);omega)]at t
     simp only[eN,jj]at t;rw[M.fe,cT (by rw[TL];omega)]at t;simp only[eN,jj]at t;by_cases h8:op<8
     .rw[if_pos ⟨h9,h8⟩]
      rw[M.fe,cT (by rw[TL];omega)]at t;simp only[eN,jj]at t;rw[M.fe,if_pos (ju _),M.fe,if_pos (show(fG (m+2)&&mh (aG A s.ev).ks wN)=true from by rw[hsm,Ed];rfl)]at t;have t:=t.trans (fT (λo=>Option.bind o _) (D9 hv));refine uA (s':=ko s ⟨0,v,op,a,n,good⟩) (n:=m) (n':=m+1) (R':=eY (m+1) (Zp v e (mE ⟨0,v,op,a,n,good⟩)) (aG A s.ev)) J hT hK hv hl ?_ hwo (by rw[hev,ct,hl]) ?_
      .refine t.trans ?_
       show some _=some _;unfold aP;rw[hws];rfl
      .rw[hev,Kl,hl];rfl
     .rw[if_neg fun q=>h8 q.2]
      rw[M.fe,cN (by rw[TL];omega),if_pos rfl]at t;exact no t
    .rw[if_neg fun q=>h9 q.1]
     rw[cN (by show((m+1:Nat):Int)>=1999;omega),if_pos rfl]at t;exact no t
  .have d:dX c s ⟨0,v,op,a,n,good⟩=(false,s):=ac7 rfl fun q=>hp (by have:=q.2.1;rwa[show(En.mk 0 (v:Int) op a n good).who.toNat=v from cH v]at this)
   rw[d];exact YK G J hT hK hv hp
 .have d:dX c s ⟨0,who,op,a,n,good⟩=(false,s):=ac7 rfl fun q=>hin q.1
  rw[d];exact Px G J hT hK (.inl rfl) (by show who= -1\/who=c.W;omega)
theorem YJ(H:∀v,v<c.W->fZ c.W v)(G:rE c s e)(he:e<=1000000000)(J:Mj c s A e at_ F fm fw ς b bw τ w)(hT:TT w)(hK:∀k,KT k->¬F k)(x:En)(hx:wY c x)(hk:x.kind=1):
  Calls Tryz.prog jV [.pointer (some ⟨b,0,none⟩),uZ x].toArray w λr w'=>r=.returned (.bool (dX c s x).1)/\Bu c (dX c s x).2 (oH A s.ev.length e) (aR (e+1)) F b w w':=by
 obtain⟨kind,who,op,a,n,good⟩:=x;have hk:kind=1:=hk;subst hk;have hw: -1<=who/\who<=c.W:=hx.who;obtain⟨K,EN,N,hlK⟩:=G.nx;by_cases hin:0<=who/\who<c.W
 .obtain⟨v,rfl⟩:∃v:Nat,who=v:=⟨who.toNat,by omega⟩
  have hv:v<c.W:=by omega
  have hWh:=G.W;have hSh:=G.S;have yes:aQ s v->dX c s ⟨1,v,op,a,n,good⟩=(true,ai c s v):=λhc=>by
   unfold dX;rw[if_neg (by show¬(1:Int)=0;decide),if_pos rfl,if_pos ⟨⟨by show(0:Int)<=v;omega,by show(v:Int)<c.W;omega⟩,by show aQ s (v:Int).toNat;rw[cH];exact hc⟩];show(true,ai c s (v:Int).toNat)=_;rw[cH]
  have no:¬aQ s v->dX c s ⟨1,v,op,a,n,good⟩=(false,s):=λhc=>Yy rfl λq=>hc (by have:=q.2;rwa[show(En.mk 1 (v:Int) op a n good).who.toNat=v from cH v]at this);by_cases hp:(s.ws v).ph=.rest
  .rw[no fun hc=>by unfold aQ at hc;rw[hp]at hc;exact hc]
   exact YI J hT hK hv hp
  .have hne:s.ev≠[]:=fun h0=>hp (G.ev0 h0 v hv)
   obtain⟨m,hl⟩:∃m,s.ev.length=m+1:=⟨s.ev.length-1,by have:=List.length_pos_iff.2 hne;omega⟩;have hsm:=OD G he hl;have hks:mh (aG A s.ev).ks wN=true:=by rw[Ed];rfl
   by_cases hc:aQ s v
   .rw[yes hc]
    have ho:∀i,i≠v->(ai c s v).ws i=s.ws i:=(BD hv (by omega) hSh.1 N.all.inv.m N.all.inv.g (N.all.inv.w v hv) hc).2.2.2.1
    have same:∀t,(o5 1 (v:Int) (mE ⟨1,v,op,a,n,good⟩) t good (fq (aP c s v m (aG A s.ev) (λi=>w.cell? ⟨bw,i,none⟩) e at_))).get=some (.bool true,fq (aP c (ai c s v) v m (aG A s.ev) (λi=>w.cell? ⟨bw,i,none⟩) e at_).tick)->(ai c s v).ev=s.ev->t=n->
      Calls Tryz.prog jV [.pointer (some ⟨b,0,none⟩),uZ ⟨1,v,op,a,n,good⟩].toArray w λr w'=>r=.returned (.bool true)/\Bu c (ai c s v) (oH A s.ev.length e) (aR (e+1)) F b w w':=λt ht hev htn=>by
     subst htn;exact uA (s':=ai c s v) (n:=m) (n':=m) (R':=aG A s.ev) J hT hK hv hl ht ho (by rw[hev];exact hl) (by rw[hev];exact(yT s.ev).symm)
    by_cases h1:∃t,(s.ws v).ph=.work (.stats t)
    .obtain⟨t,h1⟩:=h1
     obtain⟨e1,e2⟩:=Vd (n:=m) (R:=aG A s.ev) (rest:=λi=>w.cell? ⟨bw,i,none⟩) (aj:=e) (at_:=at_) (ea:=mE ⟨1,v,op,a,n,good⟩) (en:=n) (eg:=good) (H v hv) (by omega) hv (by omega) N h1;exact same n e1 e2 rfl
    .by_cases h2:∃t,(s.ws v).ph=.counts t
     .obtain⟨t,h2⟩:=h2
      obtain⟨e1,e2⟩:=RA (n:=m) (R:=aG A s.ev) (rest:=λi=>w.cell? ⟨bw,i,none⟩) (aj:=e) (at_:=at_) (ea:=mE ⟨1,v,op,a,n,good⟩) (en:=n) (eg:=good) (H v hv) (by omega) hv (by omega) N h2;exact same n e1 e2 rfl
     .obtain⟨n',R',e1,e2⟩:=DU (n:=m) (R:=aG A s.ev) (rest:=fun i=>w.cell? ⟨bw,i,none⟩) (aj:=e) (at_:=at_) (ea:=mE ⟨1,v,op,a,n,good⟩) (en:=n) (eg:=good) (H v hv) (by omega) (by omega) hv N hsm hks (fun t h=>h1 ⟨t,h⟩) (fun t h=>h2 ⟨t,h⟩) hc
      rcases e2 with⟨hev,rfl,rfl⟩|⟨y,hev,hy,rfl,rfl⟩
      .exact same n e1 hev rfl
      .refine uA (s':=ai c s v) (n:=m) (n':=m+1) J hT hK hv hl e1 ho (by rw[hev,ct,hl]) ?_
       rw[hev,Kl,hl];obtain⟨ye,yw,ya,yn⟩:=y;have hy:ye=true:=hy;subst hy;rfl
   .rw[no hc]
    exact uA (s':=s) (n:=m) (n':=m) (R':=aG A s.ev) J hT hK hv hl (Ku (H v hv) (by omega) (by omega) hv hc) (λ_ _=>rfl) hl (yT s.ev).symm
 .have d:dX c s ⟨1,who,op,a,n,good⟩=(false,s):=Yy rfl fun q=>hin q.1
  rw[d];exact Px G J hT hK (.inr rfl) (by show who= -1\/who=c.W;omega)
theorem ae9(H:∀v,v<c.W->fZ c.W v)(G:rE c s e)(he:e<=1000000000)(h:jH c s A e F b w)(hT:TT w)(hK:∀k,KT k->¬F k)(x:En)(hx:wY c x):
  Calls Tryz.prog jV [.pointer (some ⟨b,0,none⟩),uZ x].toArray w λr w'=>r=.returned (.bool (dX c s x).1)/\Bu c (dX c s x).2 (oH A s.ev.length e) (e+1) F b w w':=by
 obtain⟨at_,fm,fw,ς,bw,τ,J⟩:=h;obtain⟨K,EN,_,_⟩:=G.nx;have e64:aR (e+1)=e+1:=fA ⟨by omega,by omega⟩;rw[<-e64];have hk:=hx.kind;by_cases h0:x.kind=0
 .exact abl G he J hT hK x hx h0
 .by_cases h1:x.kind=1
  .exact YJ H G he J hT hK x hx h1
  .exact Vx G J hT hK x hx (by omega)
