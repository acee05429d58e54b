import Derived.Test.YteaflphddciglaaGreatDoorCcC
set_option linter.all false
def bt:=@Go.World.cell?_setCell_other
def eL:=@Go.World.cell?_setCell_same
def fL:=@Go.World.frozen?_setCell
def mB:=@Int.natCast_add
namespace Go.Proofs.YteaflphddciglaaGreatDoor
namespace bq
noncomputable section
open Go.RowKit Go.bn Go.Sx
variable{X:Nat->Prop} {a w:World} {G:Kj} {σ:Nat->Option Pl} {d:List Go.Sx.ag}
def ajE{n:Int}{j:Nat}{u:Value}(h:(encI n)[j]?=some u):j=0/\u=.int .i64 n:=by
 unfold encI at h;cases j with
 |zero=>simp at h;exact⟨rfl,h.symm⟩
 |succ j=>simp at h
def ad8{k:Nat}{L:List Int}{l:Nat}{v:Value}(h:HR X a G σ d w)(e:d.getD k .dead=.ints true true L)(f:l=L.length)(m:VR σ (.slice (some ⟨k,0,some 1⟩) l 0) v):
  ∃A c,v=.slice A L.length c/\L.length<=c/\dN encI 1 w w.heap.size A L:=by
 obtain⟨p,b,n,rfl⟩:=m.yL;subst f;obtain⟨_,o⟩:=h.ints_at b e;refine⟨_,_,rfl,n,λ_=>⟨p.b,p.o,rfl,h.lt k p b,λi x q j u r=> ?_⟩⟩;obtain⟨rfl,rfl⟩:=ajE r;have:=o i x q;simpa using this
def xe{α:Type}{v:Value}{F:List Int->M α}{r:α}(h:(JN d v F).get=some r):
  ∃L,(F L).get=some r/\∀{X:Nat->Prop} {a w:World} {G:Kj} {σ:Nat->Option Pl} {e:Value},HR X a G σ d w->VR σ v e->∃A c,e=.slice A L.length c/\L.length<=c/\dN encI 1 w w.heap.size A L:=by
 unfold JN at h;split at h
 .refine⟨[],h,fun f b=> ?_⟩
  rw[b.aD rfl];exact⟨none,0,rfl,aq _,λn=>tA rfl n⟩
 .rename_i k l
  split at h
  .rename_i L i
   rcases M.af h with⟨m,h⟩|⟨_,h⟩
   .exact⟨L,h,λf b=>ad8 f i (cJ m) b⟩
   .cases h
  .cases h
 .cases h
def Fy{α:Type}{L:List Int}{F:M α}{r:α}(h:(Bj L F).get=some r):L.length<=1000/\F.get=some r:=by
 unfold Bj at h;rcases M.af h with⟨l,h⟩|⟨_,h⟩
 .exact⟨ey l,h⟩
 .cases h
def aeX{b:World}(h:HR X a G σ d w)(l:Below w.heap.size w b){B:Nat}{L:List Int}(u:w.heap.size<=B)(v:B<b.heap.size)(y:∀o,b.frozen? ⟨B,o,none⟩=false)
  (s:∀i x,L[i]?=some x->b.cell? ⟨B,i,none⟩=some (.int .i64 x)):Go.Sx.Good X a G σ d.length (.slice (some ⟨d.length,0,some 1⟩) L.length 0,d++[Go.Sx.ag.ints true true L]) (.slice (some ⟨B,0,none⟩) L.length L.length) b:=by
 have z:=h.kept l;have n:∀i q,σ i=some q->q.b<w.heap.size:=λi q m=>h.lt i q m;refine⟨Go.Sx.upd σ d.length ⟨B,0,1,L.length⟩,h.sK _,.vec (p:=⟨B,0,1,L.length⟩) (upd_same _ _ _) (aq _),?_⟩;refine z.alias (p:=⟨B,0,1,L.length⟩) (λi q m _=>by have:=n i q m;show q.b≠B;omega) v (.ints true true L) ⟨λ_=>⟨λr=>by have:B<w.heap.size:=h.size B r;omega,y,λj c=> ?_⟩,rfl,λi x r=> ?_⟩ ?_
 .have c:j<L.length:=by simpa using c
  have:=s j _ (tD c);show(b.cell? ⟨B,0+j,none⟩).isSome=true;rw[cg,this];rfl
 .show b.cell? ⟨B,0+i,none⟩=_
  rw[cg];exact s i x r
 .refine h.ab.id h.lt l.size (fun j c=>.inl (l.block j c)) fun k q f=> ?_
  by_cases e:k=d.length
  .subst e
   rw[upd_same]at f;cases f;exact .inr (.inr ⟨.inl u,by rw[iQ];rfl⟩)
  .rw[dF _ _ e]at f
   exact .inr (.inl ⟨f,by rw[bY _ _ _ (h.dom k q f)]⟩)
end
noncomputable section
open Go.RowKit Go.bn Go.Sx
attribute [local go_sem ↓] Go.wp_at_zero Go.wp_at_succ
set_option maxHeartbeats 1000000 in
def VZ(A v:Option Addr)(f c:Nat)(x y:List Int)(z:x.length<=1000)(w:World)(X:dN encI 1 w w.heap.size A x)(Y:dN encI 1 w w.heap.size v y):
  Calls Tryz.prog 119 #[.slice A x.length f,.slice v y.length c] w λe D=>e=.returned (.bool (decide (x=y)))/\Below w.heap.size w D:=by
 by_cases m:x.length=y.length
 case neg=>
  have o:(((x.length:Nat):Int) != ((y.length:Nat):Int))=true:=by simp;omega
  have B:decide (x=y)=false:=by simp;rintro rfl;exact m rfl
  have Z:=Lib.hid B;clear B;go_enter Tryz.func119,Tryz.ntmps119
  go_wp2;go_ret;exact⟨ji Z.out.symm,Below.refl _ _⟩
 case pos=>
  have o:(((x.length:Nat):Int) != ((y.length:Nat):Int))=false:=by simp;omega
  have E:x.length<=y.length:=by omega
  have L:=Lib.hid m;clear m;go_enter Tryz.func119,Tryz.ntmps119
  go_wp2
  go_loopw [13] (fun i wr=>∃k:Nat,k<=x.length/\i=.int .i64 k/\x.take k=y.take k/\∃n,wr=w.drewN n)
   (λi _=>x.length-(intOf i).toNat)
  case atStart=>exact⟨0,tE _,rfl,rfl,0,rfl⟩
  case round=>
   obtain⟨k,V,rfl,C,n,rfl⟩:=hrel;have T:=Lib.hid C;clear C;by_cases a:k<x.length
   .have l:k<y.length:=by omega
    obtain⟨b,F,rfl,G,I⟩:=NM X a;obtain⟨W,J,rfl,K,r⟩:=NM Y l;obtain⟨p,s⟩:∃p,p=x[k]:=⟨_,rfl⟩;obtain⟨q,u⟩:∃q,q=y[k]:=⟨_,rfl⟩;rw[<-s]at I;rw[<-u]at r;have P:=Lib.hid s;have Q:=Lib.hid u;clear s u;have O:(k:Int)<(x.length:Int):=by omega
    have R:(k:Int)<(y.length:Int):=by omega
    by_cases h:p=q
    .have S:(p != q)=false:=by simp[h]
     have H:=Lib.hid h;clear h;go_wp2
     go_quiet (fail)
     go_wp2;go_roundw
     case rel=>exact⟨k+1,by omega,by go_num,by rw[dg a,dg l,T.out, <-P.out, <-Q.out,H.out],_,rfl⟩
     case measure=>simp[intOf];omega
    .have S:(p != q)=true:=by simp[h]
     have d:decide (x=y)=false:=by
      rw[gE];intro U;apply h;rw[P.out,Q.out];simp only[U]
     have N:=Lib.hid d;clear h d;go_wp2
     go_quiet (fail)
     go_wp2;go_ret;exact⟨ji N.out.symm,fR (fR (Below.refl _ _) _) _⟩
   .obtain rfl:k=x.length:=by omega
    go_wp2;go_ret;refine⟨ji ?_,fR (Below.refl _ _) _⟩;have:=T.out;rw[lP,L.out,lP]at this;simp[this]
theorem setCells_size(b:Nat):∀(s:List Value) (o:Nat) (w:World),(w.setCells b o s).heap.size=w.heap.size
 |[],_,_=>rfl
 |v::r,o,w=>by rw[World.setCells,setCells_size b r,js]
theorem yS{B b:Nat}{a:World}(c:B<=b):∀(s:List Value) (o:Nat) (w:World),Below B a w->Below B a (w.setCells b o s)
 |[],_,_,h=>h
 |v::r,o,w,h=>by rw[World.setCells];exact yS c r _ _ (h.setCell (p:=⟨b,o,none⟩) c v)
set_option maxRecDepth 20000 in
def afA(A:Option Addr)(c:Nat)(s:List Int)(q:s≠[])(r:s.length<=1000)(w:World)(X:dN encI 1 w w.heap.size A s):
  Calls Tryz.prog 120 #[.slice A s.length c] w λe p=>e=.returned (.slice (some ⟨w.heap.size,0,none⟩) s.length s.length)/\Below w.heap.size w p/\w.heap.size<p.heap.size/\(∀o,p.frozen? ⟨w.heap.size,o,none⟩=false)/\∀i x,s[i]?=some x->p.cell? ⟨w.heap.size,i,none⟩=some (.int .i64 x):=by
 obtain⟨b,f,rfl,B,C⟩:=X q;have u:0<s.length:=List.length_pos_iff.2 q;have D:(Instr.makeSlice 35 (.int .i64 (s.length:Int)) (.int .i64 (s.length:Int))).run Tryz.prog w=.ok (.slice (some ⟨w.heap.size,0,none⟩) s.length s.length) (w.alloc (.cells (Array.replicate s.length (.int .i64 0)) 3)):=by
  have h:(Tryz.prog.info? 3).map (λi=>(i.size,i.bytes))=some (1,8):=by kernel_rfl
  cases n:Tryz.prog.info? 3 with
  |none=>rw[n]at h;cases h
  |some i=>
   rw[n]at h;simp only[eR,cq,kB]at h;have:=kU (P:=Tryz.prog) (t:=35) (e:=3) (z:=.int .i64 0) (l:=(s.length:Int)) (by kernel_rfl) n (λw=>(lU (by kernel_rfl) w).1) rfl h.1 (by omega) (by omega) (by omega) w;rwa[cH]at this
 have E:(Builtin.copy_ #[35,35] 3 #[.slice (some ⟨w.heap.size,0,none⟩) s.length s.length,.slice (some ⟨b,f,none⟩) s.length c]).run Tryz.prog (w.alloc (.cells (Array.replicate s.length (.int .i64 0)) 3))=
   .ok (goInt s.length) ((w.alloc (.cells (Array.replicate s.length (.int .i64 0)) 3)).setCells w.heap.size 0 (s.map λx=>.int .i64 x)):=by
  have d:(s.map λx=>(Value.int .i64 x)).length=s.length:=iz _
  have y:=run_copy_cells (P:=Tryz.prog) (w.alloc (.cells (Array.replicate s.length (.int .i64 0)) 3)) 35 35 3 3 w.heap.size 0 s.length s.length ⟨b,f,none⟩ s.length c (s.map fun x=>.int .i64 x)
   (by kernel_rfl) (by kernel_rfl) (by rw[d];exact(Nat.min_self _).symm) (λj v a=> ?_) (λj k=> ?_) (λj k=>fX _ _ _ _) (λv a=> ?_)
  .rw[d]at y;exact y
  .rw[cG]at a
   cases m:s[j]? with
   |none=>rw[m]at a;cases a
   |some x=>
    rw[m]at a;cases a;have:=C j x m 0 _ rfl;have e:(⟨b,f,none⟩:Addr).add j=⟨b,f+j,none⟩:=by unfold Addr.add;split<;>simp_all
    rw[e,cM (w:=w) (b7 _ _ _ B)];simpa using this
  .rw[d]at k
   rw[cg,dk];simp[k]
  .rw[kx]at a
   obtain⟨x,_,rfl⟩:=a;rfl
 go_enter Tryz.func120,Tryz.ntmps120
 go_wp2;go_ret;have d:(s.map λx=>(Value.int .i64 x)).length=s.length:=iz _;refine⟨rfl,?_,?_,λo=> ?_,λi x m=> ?_⟩
 .exact yS (aq _) _ _ _ ((Below.refl _ w).alloc (aq _) _)
 .rw[setCells_size];simp
 .rw[j9];exact fX _ _ _ _
 .have n:i<s.length:=(aE.1 m).1
  have:=gO w.heap.size (s.map λx=>Value.int .i64 x) 0 (w.alloc (.cells (Array.replicate s.length (.int .i64 0)) 3)) (λj k=>by
   rw[d]at k;rw[cg,dk];simp[k]) i (by rw[d];exact n)
  rw[cg]at this;rw[this];obtain⟨_,rfl⟩:=aE.1 m;simp
def ajD{G:Kj}:dP G KT Tryz.prog TT 119 acd:=by
 refine⟨⟨_,Tryz.func119,by kernel_rfl,by kernel_rfl⟩,λX N O P T n Q r b=> ?_⟩;unfold acd at b;split at b
 .rename_i v u
  obtain⟨L,o,p⟩:=xe b;obtain⟨d,q,i⟩:=xe o;obtain⟨s,x⟩:=Fy q;cases x;refine⟨bu.refl _,λσ w k l a=> ?_⟩;obtain⟨R,y,rfl,z,B⟩:=eD a;obtain⟨C,S,f,D,E⟩:=eD B;rw[kY E]at f;have f:y=[C]:=by simpa using tI Array.toList f
  subst f;obtain⟨A,m,rfl,_,F⟩:=p l z;obtain⟨H,c,rfl,_,I⟩:=i l D;refine(VZ A H m c L d s w F I).mono λe U J=> ?_;obtain⟨rfl,K⟩:=J;have e:(L==d)=decide (L=d):=by by_cases h:L=d<;>simp[h]
  exact⟨_,rfl,σ,Ext.refl _ _,by rw[e];exact .bool _,l.kept K⟩
 .cases b
def ajF{G:Kj}:dP G KT Tryz.prog TT 120 acg:=by
 refine⟨⟨_,Tryz.func120,by kernel_rfl,by kernel_rfl⟩,λX C D E T f F r b=> ?_⟩;unfold acg at b;split at b
 .rename_i v
  obtain⟨L,i,m⟩:=xe b;cases L with
  |nil=>cases i
  |cons a l=>
   obtain⟨s,n⟩:=Fy i;cases n;refine⟨bu.append _ _,λσ w c k h=> ?_⟩;obtain⟨H,I,rfl,o,p⟩:=eD h;rw[kY p];obtain⟨A,d,rfl,_,q⟩:=m k o;refine(afA A d (a::l) (by simp) s w q).mono λe J u=> ?_;obtain⟨rfl,x,y,z,B⟩:=u;exact⟨_,rfl,aeX k x (aq _) y z B⟩
 .cases b
structure jo(w:World)(B:Nat)(a b c d:Int):Prop where
 c0:w.cell? ⟨B,0,none⟩=some (.int .i64 a)
 c1:w.cell? ⟨B,1,none⟩=some (.int .i64 b)
 c2:w.cell? ⟨B,2,none⟩=some (.int .i64 c)
 c3:w.cell? ⟨B,3,none⟩=some (.int .i64 d)
 fz:∀o,w.frozen? ⟨B,o,none⟩=false
theorem jo.new(w:World)(t:TypeId)(a b c d:Int):jo (w.alloc (.cells #[.int .i64 a,.int .i64 b,.int .i64 c,.int .i64 d] t)) w.heap.size a b c d:=
 ⟨by rw[dk];rfl,by rw[dk];rfl,by rw[dk];rfl,by rw[dk];rfl,λo=>fX _ _ _ _⟩
def jo.same{w w':World}{B:Nat}{a b c d:Int}(h:jo w B a b c d)(e:w'.heap[B]?=w.heap[B]?):jo w' B a b c d:=
 ⟨by rw[cM (w:=w) e];exact h.c0,by rw[cM (w:=w) e];exact h.c1,by rw[cM (w:=w) e];exact h.c2,by rw[cM (w:=w) e];exact h.c3,λo=>by rw[nh (w:=w) e];exact h.fz o⟩
def jo.below{w e:World}{B n:Nat}{a b c d:Int}(h:jo w B a b c d)(f:Below n w e)(i:B<n):jo e B a b c d:=h.same (f.block B i)
def jo.set0{w:World}{B:Nat}{a b c d:Int}(h:jo w B a b c d)(x:Int):jo (w.setCell ⟨B,0,none⟩ (.int .i64 x)) B x b c d:=
 ⟨eL _ _ _ h.c0,by rw[bt _ _ _ _ (by simp)];exact h.c1,by rw[bt _ _ _ _ (by simp)];exact h.c2,by rw[bt _ _ _ _ (by simp)];exact h.c3,λo=>by rw[fL];exact h.fz o⟩
def jo.set1{w:World}{B:Nat}{a b c d:Int}(h:jo w B a b c d)(x:Int):jo (w.setCell ⟨B,1,none⟩ (.int .i64 x)) B a x c d:=
 ⟨by rw[bt _ _ _ _ (by simp)];exact h.c0,eL _ _ _ h.c1,by rw[bt _ _ _ _ (by simp)];exact h.c2,by rw[bt _ _ _ _ (by simp)];exact h.c3,λo=>by rw[fL];exact h.fz o⟩
def jo.set2{w:World}{B:Nat}{a b c d:Int}(h:jo w B a b c d)(x:Int):jo (w.setCell ⟨B,2,none⟩ (.int .i64 x)) B a b x d:=
 ⟨by rw[bt _ _ _ _ (by simp)];exact h.c0,by rw[bt _ _ _ _ (by simp)];exact h.c1,eL _ _ _ h.c2,by rw[bt _ _ _ _ (by simp)];exact h.c3,λo=>by rw[fL];exact h.fz o⟩
def jo.agp{w:World}{B:Nat}{a b c d:Int}(h:jo w B a b c d)(x:Int):jo (w.setCell ⟨B,3,none⟩ (.int .i64 x)) B a b c x:=
 ⟨by rw[bt _ _ _ _ (by simp)];exact h.c0,by rw[bt _ _ _ _ (by simp)];exact h.c1,by rw[bt _ _ _ _ (by simp)];exact h.c2,eL _ _ _ h.c3,λo=>by rw[fL];exact h.fz o⟩
def jo.lt{w:World}{B:Nat}{a b c d:Int}(h:jo w B a b c d):B<w.heap.size:=by
 have:=h.c0;unfold World.cell? at this;rcases cn B w.heap.size with l|l
 .exact l
 .simp[tR l]at this
def pV(x:Int):Nat:=match jf x with| .none=>2| .some s=>if s.st=0 then 2 else if s.st=2 then 0 else if s.st=3 then 1 else 3
def acm(l:List Int)(x:Int):fH (l++[x])=((fH l).1+(if pV x=0 then 1 else 0),(fH l).2.1+(if pV x=1 then 1 else 0),(fH l).2.2.1+(if pV x=2 then 1 else 0),(fH l).2.2.2+(if pV x=3 then 1 else 0)):=by
 unfold fH Eh pV;simp only[qP,List.filter_append,cE,oc,sL];cases d:jf x with
 |none=>simp[iN,aa.zero,List.filter]
 |some s=>
  by_cases h:s.st=0
  .simp[iN,h,List.filter]
  .by_cases a:s.st=2
   .simp[iN,a,List.filter]
   .by_cases b:s.st=3
    .simp[iN,b,List.filter]
    .simp[iN,h,a,b,List.filter]
def ahW(l:List Int):(fH l).1<=l.length/\(fH l).2.1<=l.length/\(fH l).2.2.1<=l.length/\(fH l).2.2.2<=l.length:=by
 have f:∀p:aa->Bool,((l.map λx=>iN (jf x)).filter p).length<=l.length:=λp=>by
  have:=List.length_filter_le p (l.map λx=>iN (jf x));rwa[iz]at this
 exact⟨f _,f _,f _,f _⟩
def acn(a b c d:Nat):Array Value:= #[.int .i64 (a:Int),.int .i64 (b:Int),.int .i64 (c:Int),.int .i64 (d:Int)]
set_option maxHeartbeats 2000000 in
def Zx(A:Option Addr)(S:Nat)(c:List Int)(F:c.length<=1000)(w:World)(Y:cB w)(X:dN encI 1 w w.heap.size A c):
  Calls Tryz.prog 176 #[.slice A c.length S] w λe w'=>e=.returned (.agg (acn (fH c).1 (fH c).2.1 (fH c).2.2.1 (fH c).2.2.2))/\Below w.heap.size w w':=by
 go_enter Tryz.func176,Tryz.ntmps176
 go_wp2
 go_loopw [10] (fun i wr=>∃k:Nat,k<=c.length/\i=.int .i64 k/\Below w.heap.size w wr/\jo wr w.heap.size 0 0 0 0/\jo wr (w.heap.size+1) ((fH (c.take k)).1:Int) ((fH (c.take k)).2.1:Int) ((fH (c.take k)).2.2.1:Int) ((fH (c.take k)).2.2.2:Int))
   (λi _=>c.length-(intOf i).toNat)
 case atStart=>
  refine⟨0,tE _,rfl,((Below.refl _ w).alloc (aq _) _).alloc (by simp) _,?_,?_⟩
  .exact(jo.new w _ 0 0 0 0).same (b7 _ _ _ (by simp))
  .have:=jo.new (w.alloc (.cells #[.int .i64 0,.int .i64 0,.int .i64 0,.int .i64 0] 66)) 66 0 0 0 0
   rw[ld]at this;exact this
 case round=>
  obtain⟨k,hk,rfl,r,R,m⟩:=hrel;by_cases G:k<c.length
  .obtain⟨b,U,rfl,V,H⟩:=NM X G
   obtain⟨x,J⟩:∃x,x=c[k]:=⟨_,rfl⟩;rw[<-J]at H;have hc:=(r.cell (p:=⟨b,U+k,none⟩) V).trans H;have T:cB wr:=Y.mR (n:=(· <w.heap.size)) Y.lt (Kept.of_below r);have E:=acm (c.take k) x;have W:c.take k++[x]=c.take (k+1):=by rw[dg G,J]
   rw[W]at E;have ac:=ahW (c.take k);have am:(c.take k).length<=1000:=eM (by rw[List.length_take];omega) F;have HX:=Lib.hid (And.intro X J);clear X J;have ao:(k:Int)<(c.length:Int):=by omega
   cases D:jf x with
   |none=>
    have d:=K5 x wr T;rw[D]at d;simp only[gP,Option.getD_none,Option.isSome_none,aa.zero,aa.val]at d;have L:pV x=2:=by unfold pV;rw[D]
    go_wp2_with (go_at_call 73;refine d.mono ?_;rintro e l ⟨rfl,a⟩;have h:=m.below a m.lt;have q:=R.below a R.lt;have m2:=λo=>(h.same (b7 l o _ h.lt)).c2;have K:=λo=>(h.same (b7 l o _ h.lt)).fz 2;have f:=r.trans (a.mono r.size))
    go_roundw
    case rel=>
     have y:=(h.same (b7 l (.cells #[.int .i64 0,.int .i64 0,.int .i64 0,.bool false,.bool false,.int .i64 0,.int .i64 0,.int .i64 0,.int .i64 0] 44) _ h.lt)).set2 (((fH (c.take k)).2.2.1:Int)+1);refine⟨k+1,by omega,by go_num,(f.alloc f.size _).setCell (p:=⟨w.heap.size+1,2,none⟩) (by show w.heap.size<=w.heap.size+1;omega) _,?_,?_⟩
     .exact(q.same (b7 l _ _ q.lt)).same (cy _ _ _ _ (by show w.heap.size≠w.heap.size+1;omega))
     .rw[E]
      simpa[L,mB]using y
    case measure=>simp[intOf];omega
   |some s=>
    obtain⟨I,own,z,B,O,u,C,N,P⟩:=s;have d:=K5 x wr T;rw[D]at d;simp only[gP,lO,Option.isSome_some,aa.val]at d;by_cases Z:I=0
    .subst Z
     have L:pV x=2:=by unfold pV;rw[D];rfl
     go_wp2_with (go_at_call 73;refine d.mono ?_;rintro e l ⟨rfl,a⟩;have h:=m.below a m.lt;have q:=R.below a R.lt;have m2:=λo=>(h.same (b7 l o _ h.lt)).c2;have K:=λo=>(h.same (b7 l o _ h.lt)).fz 2;have f:=r.trans (a.mono r.size))
     go_roundw
     case rel=>
      have y:=(h.same (b7 l (.cells #[.int .i64 0,.int .i64 own,.int .i64 z,.bool B,.bool O,.int .i64 u,.int .i64 C,.int .i64 N,.int .i64 P] 44) _ h.lt)).set2 (((fH (c.take k)).2.2.1:Int)+1);refine⟨k+1,by omega,by go_num,(f.alloc f.size _).setCell (p:=⟨w.heap.size+1,2,none⟩) (by show w.heap.size<=w.heap.size+1;omega) _,?_,?_⟩
      .exact(q.same (b7 l _ _ q.lt)).same (cy _ _ _ _ (by show w.heap.size≠w.heap.size+1;omega))
      .rw[E]
       simpa[L,mB]using y
     case measure=>simp[intOf];omega
    by_cases h2:I=2
    .subst h2
     have L:pV x=0:=by unfold pV;rw[D];rfl
     go_wp2_with (go_at_call 73;refine d.mono ?_;rintro e l ⟨rfl,a⟩;have h:=m.below a m.lt;have q:=R.below a R.lt;have m0:=λo=>(h.same (b7 l o _ h.lt)).c0;have K:=λo=>(h.same (b7 l o _ h.lt)).fz 0;have f:=r.trans (a.mono r.size))
     go_roundw
     case rel=>
      have y:=(h.same (b7 l (.cells #[.int .i64 2,.int .i64 own,.int .i64 z,.bool B,.bool O,.int .i64 u,.int .i64 C,.int .i64 N,.int .i64 P] 44) _ h.lt)).set0 (((fH (c.take k)).1:Int)+1);refine⟨k+1,by omega,by go_num,(f.alloc f.size _).setCell (p:=⟨w.heap.size+1,0,none⟩) (by show w.heap.size<=w.heap.size+1;omega) _,?_,?_⟩
      .exact(q.same (b7 l _ _ q.lt)).same (cy _ _ _ _ (by show w.heap.size≠w.heap.size+1;omega))
      .rw[E]
       simpa[L,mB]using y
     case measure=>simp[intOf];omega
    by_cases h3:I=3
    .subst h3
     have L:pV x=1:=by unfold pV;rw[D];rfl
     go_wp2_with (go_at_call 73;refine d.mono ?_;rintro e l ⟨rfl,a⟩;have h:=m.below a m.lt;have q:=R.below a R.lt;have m1:=λo=>(h.same (b7 l o _ h.lt)).c1;have K:=λo=>(h.same (b7 l o _ h.lt)).fz 1;have f:=r.trans (a.mono r.size))
     go_roundw
     case rel=>
      have y:=(h.same (b7 l (.cells #[.int .i64 3,.int .i64 own,.int .i64 z,.bool B,.bool O,.int .i64 u,.int .i64 C,.int .i64 N,.int .i64 P] 44) _ h.lt)).set1 (((fH (c.take k)).2.1:Int)+1);refine⟨k+1,by omega,by go_num,(f.alloc f.size _).setCell (p:=⟨w.heap.size+1,1,none⟩) (by show w.heap.size<=w.heap.size+1;omega) _,?_,?_⟩
      .exact(q.same (b7 l _ _ q.lt)).same (cy _ _ _ _ (by show w.heap.size≠w.heap.size+1;omega))
      .rw[E]
       simpa[L,mB]using y
     case measure=>simp[intOf];omega
    .have L:pV x=3:=by unfold pV;rw[D];show(if I=0 then 2 else _)=_;rw[ck Z,ck h2,ck h3]
     go_wp2_with (go_at_call 73;refine d.mono ?_;rintro e l ⟨rfl,a⟩;have h:=m.below a m.lt;have q:=R.below a R.lt;have m3:=λo=>(h.same (b7 l o _ h.lt)).c3;have K:=λo=>(h.same (b7 l o _ h.lt)).fz 3;have f:=r.trans (a.mono r.size))
     go_roundw
     case rel=>
      have y:=(h.same (b7 l (.cells #[.int .i64 I,.int .i64 own,.int .i64 z,.bool B,.bool O,.int .i64 u,.int .i64 C,.int .i64 N,.int .i64 P] 44) _ h.lt)).agp (((fH (c.take k)).2.2.2:Int)+1);refine⟨k+1,by omega,by go_num,(f.alloc f.size _).setCell (p:=⟨w.heap.size+1,3,none⟩) (by show w.heap.size<=w.heap.size+1;omega) _,?_,?_⟩
      .exact(q.same (b7 l _ _ q.lt)).same (cy _ _ _ _ (by show w.heap.size≠w.heap.size+1;omega))
      .rw[E]
       simpa[L,mB]using y
     case measure=>simp[intOf];omega
  .obtain rfl:k=c.length:=by omega
   have n0:=m.c0;have n1:=m.c1;have n2:=m.c2;have n3:=m.c3;have r0:=R.c0;have r1:=R.c1;have r2:=R.c2;have r3:=R.c3;have f0:=R.fz 0;have f1:=R.fz 1;have f2:=R.fz 2;have f3:=R.fz 3;have e:c.take c.length=c:=lP;rw[e]at n0 n1 n2 n3;have Q:=(((R.set0 ((fH c).1:Int)).set1 ((fH c).2.1:Int)).set2 ((fH c).2.2.1:Int)).agp ((fH c).2.2.2:Int);clear m R;go_wp2;have q0:=Q.c0;have q1:=Q.c1;have q2:=Q.c2;have q3:=Q.c3;refine cC (v:=.agg (acn (fH c).1 (fH c).2.1 (fH c).2.2.1 (fH c).2.2.2)) ?_ rfl ?_
   .simp[results,Tryz.f176,go_sem,q0,q1,q2,q3,acn]
   .exact⟨rfl,(((r.setCell (p:=⟨w.heap.size,0,none⟩) (aq _) _).setCell (p:=⟨w.heap.size,1,none⟩) (aq _) _).setCell (p:=⟨w.heap.size,2,none⟩) (aq _) _).setCell (p:=⟨w.heap.size,3,none⟩) (aq _) _⟩
def afD{G:Kj}:dP G KT Tryz.prog TT 176 Qz:=by
 refine⟨⟨_,Tryz.func176,by kernel_rfl,by kernel_rfl⟩,λX i k B l f z r a=> ?_⟩;unfold Qz at a;split at a
 .rename_i v
  obtain⟨L,m,n⟩:=xe a;obtain⟨s,o⟩:=Fy m;cases o;refine⟨bu.refl _,λσ w b c h=> ?_⟩;obtain⟨C,D,rfl,p,q⟩:=eD h;rw[kY q];obtain⟨A,d,rfl,_,u⟩:=n c p;have T:TT w:=lg X i w k l c.below;refine(Zx A d L s w T.1 u).mono λe E x=> ?_;obtain⟨rfl,y⟩:=x;exact⟨_,rfl,σ,Ext.refl _ _,VR.plain _ (by simp[Go.Sx.plain,Go.Sx.aN]),c.kept y⟩
 .cases a
end
noncomputable section
open Go.RowKit Go.bn Go.Sx
structure wU(l:List Bool)(F:Nat->Prop)(b:Nat)(w:World)(r o1:Nat)(sl:Value)(t o2 cap:Nat)(good bad:Int):Prop where
 lt:∀j,F j->j<w.heap.size
 fb:F b
 fr:F r
 br:b≠r
 c0:w.cell? ⟨b,0,none⟩=some (.pointer (some ⟨r,o1,none⟩))
 c1:w.cell? ⟨b,1,none⟩=some (.int .i64 good)
 c2:w.cell? ⟨b,2,none⟩=some (.int .i64 bad)
 d0:w.cell? ⟨r,o1,none⟩=some sl
 d1:w.cell? ⟨r,o1+1,none⟩=some (.int .i64 1000)
 zb:∀o,w.frozen? ⟨b,o,none⟩=false
 zr:∀o,w.frozen? ⟨r,o,none⟩=false
 nil:l=[]->sl=.slice none 0 0
 vec:l≠[]->sl=.slice (some ⟨t,o2,none⟩) l.length cap/\l.length<=cap/\F t/\t≠b/\t≠r/\(∀o,w.frozen? ⟨t,o,none⟩=false)/\(∀j,j<cap->(w.cell? ⟨t,o2+j,none⟩).isSome=true)/\∀i x,l[i]?=some x->w.cell? ⟨t,o2+i,none⟩=some (.bool x)
def slW(k:Nat)(l:List Bool):Value:=match l with|[]=>.slice none 0 0|_::_=>.slice (some ⟨k,0,some 1⟩) l.length 0
def acu{σ:Nat->Option Pl}{x:Bool}{v:Value}(h:VR σ (.bool x) v):v=.bool x:=h.aD rfl
def Yb{l:List Bool}{F:Nat->Prop}{b k:Nat}{w:World}{o bad:Int}{R:Go.Sx.Rows}{H:List Go.Sx.ag}(h:JH 0 H F b w)(c:H.getD 0 .dead=.cells true true [.pointer (some ⟨1,0,none⟩),.int .i64 o,.int .i64 bad])
  (f:H.getD 1 .dead=.cells true true [slW k l,.int .i64 1000]) (Y:l≠[]->2<=k/\H.getD k .dead=.rows true true 1 l.length R) (L:WrR l R):∃r Z sl t o2 B,wU l F b w r Z sl t o2 B o bad:=by
 obtain⟨_,u,σ,a,⟨p,d,C,D⟩,E⟩:=h;obtain⟨v0,G,g0⟩:=a.jB d c (i:=0) rfl;obtain⟨v1,z,g1⟩:=a.jB d c (i:=1) rfl;obtain⟨v2,A,g2⟩:=a.jB d c (i:=2) rfl;obtain⟨q,m,rfl⟩:=g0.gL;rw[g1.aH]at z;rw[g2.aH]at A;obtain⟨u0,N,O⟩:=a.jB m f (i:=0) rfl;obtain⟨u1,I,g4⟩:=a.jB m f (i:=1) rfl;rw[g4.aH]at I;have f0:F p.b:=E 0 p d (by rw[c];rfl);have P:F q.b:=E 1 q m (by rw[f];rfl);have Q:p.b≠q.b:=λe=>by
  have:=a.inj 0 1 p q d m (by rw[c];rfl) (by rw[f];rfl) e;cases this
 have S:=((a.blk 0 p d).1 (by rw[c];rfl)).2.1;have T:=((a.blk 1 q m).1 (by rw[f];rfl)).2.1;subst C;rw[D]at G z A;cases l with
 |nil=>
  refine⟨q.b,q.o,u0,0,0,0,u,f0,P,Q,G,z,A,N,I,S,T,λ_=>O.aD rfl,λJ=>tA rfl J⟩
 |cons x l=>
  obtain⟨k2,n⟩:=Y (by simp);obtain⟨t,s,hc,rfl⟩:=O.yL;obtain⟨K,v⟩:=a.sj s n;have ft:F t.b:=E k t s (by rw[n];rfl);refine⟨q.b,q.o,_,t.b,t.o,t.cap,u,f0,P,Q,G,z,A,N,I,S,T,λJ=>(by cases J),λ_=>⟨rfl,hc,ft,λe=> ?_,λe=> ?_,?_,λj hj=> ?_,λi y U=> ?_⟩⟩
  .have:=a.inj 0 k p t d s (by rw[c];rfl) (by rw[n];rfl) e.symm
   omega
  .have:=a.inj 1 k q t m s (by rw[f];rfl) (by rw[n];rfl) e.symm
   omega
  .exact((a.blk k t s).1 (by rw[n];rfl)).2.1
  .exact((a.blk k t s).1 (by rw[n];rfl)).2.2 j (by rw[K];omega)
  .have V:i<(x::l).length:=(aE.1 U).1
   obtain⟨v',W,X⟩:=v i 0 V (by omega);have e6:(R.at i 0).val=.bool y:=by
    unfold Go.Sx.Rows.at;rw[L.1];show Value.bool (R.gb i 0)=_;rw[L.2 i V,b8,U];rfl
   rw[e6]at X;rw[acu X]at W;simpa using W
def ai2{l:List Bool}{F:Nat->Prop}{b:Nat}{w:World}(h:rC (.kL l) F b w):∃r a s t d c o bad,wU l F b w r a s t d c o bad:=by
 obtain⟨o,bad,R,e,J⟩:=h;obtain⟨r,a,s,t,d,c,h⟩:=Yb (k:=2) J rfl (by cases l<;>rfl) (λn=>⟨aq _,by cases l;exact tA rfl n;rfl⟩) e;exact⟨r,a,s,t,d,c,o,bad,h⟩
def wU.j{l:List Bool}{F:Nat->Prop}{b:Nat}{w:World}{r D:Nat}{J:Value}{t s f:Nat}{o bad:Int}(h:wU l F b w r D J t s f o bad):rC (.kL l) F b w:=by
 refine⟨o,bad,⟨[.bo],λ_ _=>0,λi _=>l.getD i false⟩,⟨rfl,λ_ _=>rfl⟩,?_⟩;obtain⟨σ,K,L,E,R⟩:∃σ:Nat->Option Pl,σ 0=some ⟨b,0,0,0⟩/\σ 1=some ⟨r,D,0,0⟩/\(σ 2=if l=[]then none else some ⟨t,s,1,f⟩)/\∀k,3<=k->σ k=none:=
  ⟨λk=>match k with|0=>some ⟨b,0,0,0⟩|1=>some ⟨r,D,0,0⟩|2=>if l=[]then none else some ⟨t,s,1,f⟩|_=>none,rfl,rfl,rfl,λk a=>by
   obtain⟨k,rfl⟩:∃i,k=i+3:=⟨k-3,by omega⟩;rfl⟩
 generalize m:GA l o bad ⟨[.bo],λ_ _=>0,λi _=>l.getD i false⟩=H;have N:H.getD 0 .dead=.cells true true [.pointer (some ⟨1,0,none⟩),.int .i64 o,.int .i64 bad]:=by rw[<-m];rfl
 have O:H.getD 1 .dead=.cells true true [slW 2 l,.int .i64 1000]:=by rw[<-m];cases l<;>rfl
 have P:l≠[]->H.getD 2 .dead=.rows true true 1 l.length ⟨[.bo],λ_ _=>0,λi _=>l.getD i false⟩:=λS=>by
  rw[<-m];cases l;exact tA rfl S;rfl
 have y:FI H=true:=by rw[<-m];cases l<;>rfl
 have A:H.length=3:=by rw[<-m];rfl
 clear m;have a:∀k p,σ k=some p->(k=0/\p=⟨b,0,0,0⟩)\/(k=1/\p=⟨r,D,0,0⟩)\/(k=2/\l≠[]/\p=⟨t,s,1,f⟩):=λk p a=>by
  rcases(by omega:k=0\/k=1\/k=2\/3<=k)with rfl|rfl|rfl|T
  .rw[K]at a;exact .inl ⟨rfl,(b9 a).symm⟩
  .rw[L]at a;exact .inr (.inl ⟨rfl,(b9 a).symm⟩)
  .rw[E]at a
   by_cases e:l=[]
   .rw[tz e]at a;cases a
   .rw[ck e]at a;exact .inr (.inr ⟨rfl,e,(b9 a).symm⟩)
  .rw[R k T]at a;cases a
 have I:∀k p,σ k=some p->F p.b:=λk p c=>by
  rcases a k p c with⟨_,rfl⟩|⟨_,rfl⟩|⟨_,e,rfl⟩
  .exact h.fb
  .exact h.fr
  .exact(h.vec e).2.2.1
 refine⟨y,h.lt,σ,⟨sD F w,Kept.refl _ _,iB.no λk p c=> ?_,λk p c=> ?_,λk p c=>h.lt _ (I k p c),λk U p V c G _ _ n=> ?_,λk p c=> ?_⟩,⟨_,K,rfl,rfl⟩,λk p c _=>I k p c⟩
 .rcases a k p c with⟨rfl,_⟩|⟨rfl,_⟩|⟨rfl,e,_⟩
  .rw[N];exact .inr rfl
  .rw[O];exact .inr rfl
  .rw[P e];exact .inr rfl
 .rw[A]
  rcases a k p c with⟨rfl,_⟩|⟨rfl,_⟩|⟨rfl,e,_⟩<;>omega
 .rcases a k p c with⟨rfl,rfl⟩|⟨rfl,rfl⟩|⟨rfl,e,rfl⟩<;>rcases a U V G with⟨rfl,rfl⟩|⟨rfl,rfl⟩|⟨rfl,W,rfl⟩<;>first|rfl|exact tA n h.br|exact tA n.symm h.br|exact tA n (h.vec ‹_›).2.2.2.1|exact tA n.symm (h.vec ‹_›).2.2.2.1|exact tA n (h.vec ‹_›).2.2.2.2.1|exact tA n.symm (h.vec ‹_›).2.2.2.2.1
 .have u:¬j5 F w p.b:=fun X=>X.2 (I k p c)
  rcases a k p c with⟨rfl,rfl⟩|⟨rfl,rfl⟩|⟨rfl,e,rfl⟩
  .rw[N]
   refine⟨λ_=>⟨u,h.zb,λj q=>tA q (by simp)⟩,λi v d=> ?_⟩
   match i,d with
   |0,d=>cases d;exact⟨_,h.c0,VR.ptr (off:=0) L⟩
   |1,d=>cases d;exact⟨_,h.c1,.int _ _⟩
   |2,d=>cases d;exact⟨_,h.c2,.int _ _⟩
  .rw[O]
   refine⟨λ_=>⟨u,h.zr,λj q=>tA q (by simp)⟩,λi v d=> ?_⟩
   match i,d with
   |0,d=>
    cases d;refine⟨J,h.d0,?_⟩;cases l with
    |nil=>rw[h.nil rfl];exact .kM _ _
    |cons x l=>
     obtain⟨rfl,Y,_⟩:=h.vec (by simp);rw[ck (by simp)]at E;exact .vec (p:=⟨t,s,1,f⟩) E Y
   |1,d=>cases d;exact⟨_,h.d1,.int _ _⟩
  .obtain⟨_,_,_,_,_,z,B,C⟩:=h.vec e
   rw[P e];refine⟨λ_=>⟨u,z,λj q=>B j (by simpa using q)⟩,rfl,λi j Q q=> ?_⟩;obtain rfl:j=0:=by omega
   refine⟨.bool (l.getD i false),?_,.bool _⟩;have:=C i _ (tD Q);simpa[Q]using this
def Z6{r o:Nat}{w:World}(d:w.cell? ⟨r,o,none⟩=some (.slice none 0 0)):Calls Tryz.prog 184 #[.pointer (some ⟨r,o,none⟩)] w λe a=>e=.returned (.tuple #[.bool false,.bool false])/\a=w:=by
 go_enter Tryz.func184,Tryz.ntmps184
 go_wp2
 go_ret2
 exact⟨rfl,rfl⟩
def Dv(r o t a n c:Nat)(w b:World):Prop:=
 (n=0/\∃u,b=((w.setCell ⟨t,a,none⟩ (.bool false)).setCell ⟨r,o,none⟩ u).setCell ⟨r,o,none⟩ (.slice none 0 0))\/
 (0<n/\b=(w.setCell ⟨t,a,none⟩ (.bool false)).setCell ⟨r,o,none⟩ (.slice (some ⟨t,a+1,none⟩) n (c-1)))
def Z5{r o t a n c:Nat}{x:Bool}{w:World}(m:w.cell? ⟨r,o,none⟩=some (.slice (some ⟨t,a,none⟩) (n+1) c))(p:n+1<=c)(q:w.cell? ⟨t,a,none⟩=some (.bool x))(z:w.frozen? ⟨t,a,none⟩=false)(s:w.frozen? ⟨r,o,none⟩=false)(b:t≠r):
  Calls Tryz.prog 184 #[.pointer (some ⟨r,o,none⟩)] w λe i=>e=.returned (.tuple #[.bool x,.bool true])/\Dv r o t a n c w i:=by
 have d:r≠t:=λe=>b e.symm
 go_enter Tryz.func184,Tryz.ntmps184
 rcases lf n with rfl|h
 .by_cases f:c=1
  .subst f
   go_wp2
   go_ret2
   exact⟨rfl,.inl ⟨rfl,_,rfl⟩⟩
  .go_wp2
   go_ret2
   exact⟨rfl,.inl ⟨rfl,_,rfl⟩⟩
 .have k:¬(n:Int)=0:=by omega
  have l:¬n=0:=by omega
  have f:¬c=1:=by omega
  go_wp2
  go_ret2
  exact⟨rfl,.inr ⟨h,rfl⟩⟩
def Dv.facts{r d t i n f:Nat}{w b:World}{v:Value}(h:Dv r d t i n f w b)(c:t≠r)(x:w.cell? ⟨r,d,none⟩=some v):
  b.heap.size=w.heap.size/\b.os=w.os/\b.tape=w.tape/\b.output=w.output/\(∀j,j≠t->j≠r->b.heap[j]?=w.heap[j]?)/\(∀p,b.frozen? p=w.frozen? p)/\(∀o,o≠d->b.cell? ⟨r,o,none⟩=w.cell? ⟨r,o,none⟩)/\(∀o,o≠i->b.cell? ⟨t,o,none⟩=w.cell? ⟨t,o,none⟩)/\
  b.cell? ⟨r,d,none⟩=some (if n=0 then .slice none 0 0 else .slice (some ⟨t,i+1,none⟩) n (f-1)):=by
 have a:r≠t:=λe=>c e.symm;have q:∀u,(w.setCell ⟨t,i,none⟩ u).cell? ⟨r,d,none⟩=some v:=λu=>by rw[bt _ _ _ _ (by simp[c])];exact x
 rcases h with⟨s,u,rfl⟩|⟨s,rfl⟩
 .refine⟨by simp[js],rfl,rfl,rfl,fun j l k=> ?_,fun p=>by simp[fL],fun o m=> ?_,fun o m=> ?_,?_⟩
  .rw[cy _ _ _ _ k,cy _ _ _ _ k,cy _ _ _ _ l]
  .rw[bt _ _ _ _ (by simp<;>omega),bt _ _ _ _ (by simp<;>omega),bt _ _ _ _ (by simp[c])]
  .rw[bt _ _ _ _ (by simp[a]),bt _ _ _ _ (by simp[a]),bt _ _ _ _ (by simp<;>omega)]
  .rw[tz s]
   exact eL _ _ _ (eL _ _ _ (q _))
 .refine⟨by simp[js],rfl,rfl,rfl,fun j l k=> ?_,fun p=>by simp[fL],fun o m=> ?_,fun o m=> ?_,?_⟩
  .rw[cy _ _ _ _ k,cy _ _ _ _ l]
  .rw[bt _ _ _ _ (by simp<;>omega),bt _ _ _ _ (by simp[c])]
  .rw[bt _ _ _ _ (by simp[a]),bt _ _ _ _ (by simp<;>omega)]
  .rw[ck (by omega)]
   exact eL _ _ _ (q _)
def WS{b r o:Nat}{g:Int}{w:World}(c:w.cell? ⟨b,0,none⟩=some (.pointer (some ⟨r,o,none⟩)))(f:w.cell? ⟨b,1,none⟩=some (.int .i64 g))(z:w.frozen? ⟨b,1,none⟩=false)(d:w.cell? ⟨r,o,none⟩=some (.slice none 0 0)):
  Calls Tryz.prog 124 #[.pointer (some ⟨b,0,none⟩)] w λe a=>e=.returned (.bool true)/\a=w.setCell ⟨b,1,none⟩ (.int .i64 (wrap64 (g+1))):=by
 have h:=Z6 (w:=w) d;go_enter Tryz.func124,Tryz.ntmps124
 go_wp2_with (go_at_call 184;refine h.mono ?_;rintro e i ⟨rfl,rfl⟩)
 go_ret;exact⟨rfl,rfl⟩
def WR{b r l t m n d:Nat}{g q:Int}{x:Bool}{w:World}(s:w.cell? ⟨b,0,none⟩=some (.pointer (some ⟨r,l,none⟩)))(v:w.cell? ⟨b,1,none⟩=some (.int .i64 g))(y:w.cell? ⟨b,2,none⟩=some (.int .i64 q))(z:∀o,w.frozen? ⟨b,o,none⟩=false)
  (p:w.cell? ⟨r,l,none⟩=some (.slice (some ⟨t,m,none⟩) (n+1) d)) (A:n+1<=d) (B:w.cell? ⟨t,m,none⟩=some (.bool x)) (C:w.frozen? ⟨t,m,none⟩=false) (D:w.frozen? ⟨r,l,none⟩=false) (i:t≠r) (h:b≠r) (c:b≠t):
  Calls Tryz.prog 124 #[.pointer (some ⟨b,0,none⟩)] w λe E=>e=.returned (.bool x)/\∃a,Dv r l t m n d w a/\E=a.setCell ⟨b,if x then 1 else 2,none⟩ (.int .i64 (wrap64 ((if x then g else q)+1))):=by
 have u:=Z5 p A B C D i;cases x
 .go_enter Tryz.func124,Tryz.ntmps124
  go_wp2_with (go_at_call 184;refine u.mono ?_;rintro e a ⟨rfl,k⟩;have f:=k.facts i p;have F:=(show a.cell? ⟨b,0,none⟩=w.cell? ⟨b,0,none⟩from cM (f.2.2.2.2.1 b c h)).trans s;have H:=(show a.cell? ⟨b,2,none⟩=w.cell? ⟨b,2,none⟩from cM (f.2.2.2.2.1 b c h)).trans y;have G:=λo=>(f.2.2.2.2.2.1 ⟨b,o,none⟩).trans (z o);clear f)
  go_ret;exact⟨rfl,a,k,rfl⟩
 .go_enter Tryz.func124,Tryz.ntmps124
  go_wp2_with (go_at_call 184;refine u.mono ?_;rintro e a ⟨rfl,k⟩;have f:=k.facts i p;have F:=(show a.cell? ⟨b,0,none⟩=w.cell? ⟨b,0,none⟩from cM (f.2.2.2.2.1 b c h)).trans s;have I:=(show a.cell? ⟨b,1,none⟩=w.cell? ⟨b,1,none⟩from cM (f.2.2.2.2.1 b c h)).trans v;have G:=λo=>(f.2.2.2.2.2.1 ⟨b,o,none⟩).trans (z o);clear f)
  go_ret;exact⟨rfl,a,k,rfl⟩
noncomputable def VV:Env:=Po 0 Tryz.prog [(37,Tryz.f37),(51,Tryz.f51)] [] [] []
def Gh{X:Nat->Prop}{w:World}(h:∀k,KT k->X k)(B:eB X w)(T:TT w):iA VV X w:=
 LZ (λe a=>by cases a) (by kernel_rfl) (fk Tryz.func37<|fk Tryz.func51<|jL rfl) Ez Bq h B T
def Qr(n:Nat)(o bad:Int)(b:Bool)(R:Go.Sx.Rows):List Go.Sx.ag:=[.cells true true [.pointer (some ⟨1,0,none⟩),.int .i64 o,.int .i64 bad],.cells true true [.slice (some ⟨4,0,some 1⟩) n 0,.int .i64 1000],.dead,.cells true true [.bool b],.rows true true 1 n R]
def ajC(b:Bool)(o bad:Int)(R:Go.Sx.Rows):(call VV 60 37 [.pointer (some ⟨0,0,none⟩),.bool b] (GA [] o bad R)).get=some (.bool true,Qr 1 o bad b (rowOf [.bool b])):=by kernel_rfl
def adu(a b:Bool)(l:List Bool)(o bad:Int)(R:Go.Sx.Rows):(call VV 60 37 [.pointer (some ⟨0,0,none⟩),.bool b] (GA (a::l) o bad R)).get=
  (M.br (decide (((l.length+1:Nat):Int)>=1000)) (.ret (Value.bool false,GA (a::l) o bad R)) (.br (Nat.beq (l.length+1) (l.length+1)) (.br (fG (l.length+2)&&mh R.ks [.bo]) (.ret (Value.bool true,Qr (l.length+2) o bad b (eY (l.length+1) [.bool b] R))) .bad) .bad)).get:=by kernel_rfl
def Gz{α:Type}{k:Nat}{a:List Go.Sx.ag}{F:List Bool->M α}{x:α}(h:(Ny k a F).get=some x):∃l,a.getD k .dead=.abs true (.kL l)/\(F l).get=some x:=by
 unfold Ny at h;split at h
 .rename_i l b
  exact⟨l,b,h⟩
 .cases h
def set_self{l:List Go.Sx.ag}{k:Nat}{b:Go.Sx.ag}(h:l.getD k .dead=b):l.set k b=l:=by
 apply o4;intro i;rw[List.getElem?_set];by_cases e:k=i
 .subst e
  rw[tz rfl];rcases cn k l.length with a|a
  .rw[tz a, <-h,b8,tD a];rfl
  .rw[ck (by omega),ez a]
 .rw[ck e]
def adv{l:List Bool}{b:Bool}{good bad:Int}{R:Go.Sx.Rows}{F:Nat->Prop}{c:Nat}{w:World}(d:WrR (l++[b]) R)(h:JH 0 (Qr (l.length+1) good bad b R) F c w):rC (.kL (l++[b])) F c w:=by
 have e:l++[b]≠[]:=by simp
 obtain⟨r,o,s,t,m,f,i⟩:=Yb (l:=l++[b]) (k:=4) h rfl (by
  cases l with
  |nil=>rfl
  |cons a l=>show Go.Sx.ag.cells true true [.slice (some ⟨4,0,some 1⟩) ((a::l).length+1) 0,_]=Go.Sx.ag.cells true true [.slice (some ⟨4,0,some 1⟩) (a::(l++[b])).length 0,_];simp) (λ_=>⟨by omega,by show Go.Sx.ag.rows true true 1 (l.length+1) R=_;rw[cE];rfl⟩) d
 exact i.j
def aqg{σ:Nat->Option Pl}{k:Nat}{a:Value}{r:Array Value}(h:dY σ [.pointer (some ⟨k,0,none⟩),a].toArray r):∃p c,σ k=some p/\r=[.pointer (some ⟨p.b,p.o+0,none⟩),c].toArray/\VR σ a c:=by
 obtain⟨y,b,rfl,f,i⟩:=eD h;obtain⟨p,l,rfl⟩:=f.gL;obtain⟨d,o,e,m,n⟩:=eD i;rw[kY n]at e;have e:b=[d]:=by simpa using tI Array.toList e
 subst e;exact⟨p,d,l,rfl,m⟩
def Uu:dP nD KT Tryz.prog TT 37 BA:=by
 refine⟨⟨_,Tryz.func37,by kernel_rfl,by kernel_rfl⟩,λX y n B T C I r m=> ?_⟩;unfold BA at m;split at m
 .rename_i k b
  obtain⟨l,z,m⟩:=Gz m;have D:∀(σ:Nat->Option Pl) (c:Array Value),dY σ (.pointer (some ⟨k,0,none⟩)::[.bool b]).toArray c->True/\∃p,σ k=some p/\c=(.pointer (some ⟨p.b,p.o+0,none⟩)::[.bool b]).toArray:=λσ c K=>by
   obtain⟨p,V,L,rfl,N⟩:=aqg K;rw[N.aD rfl];exact⟨trivial,p,L,rfl⟩
  rcases M.af m with⟨d,m⟩|⟨d,m⟩
  .cases m
   have d:l.length<1000:=by rw[ir]at d;exact d
   refine FL lg (Q:=True) (rest:=[.bool b]) (v:=.bool true) rfl rfl D (λ_ σ=>.bool _) (λ_ F O w J=> ?_) n B T z;obtain⟨o,bad,R,q,J⟩:=J;cases l with
   |nil=>
    refine⟨_,Qr 1 o bad b (rowOf [.bool b]),J,rfl,λX y n B T=>(sO (Gh n B T) 60 _ _ _ _ (ajC b o bad R)).2,λE H s=>adv (l:=[]) ⟨rfl,λi A=> ?_⟩ s⟩;obtain rfl:i=0:=by simpa using A
    rfl
   |cons a l=>
    have d:l.length+1<1000:=d;have e:=adu a b l o bad R;rw[M.fe,cT (by omega)]at e;simp only[eN,jj]at e;rw[M.fe,ju,tz rfl,M.fe,q.1,show(fG (l.length+2)&&mh [Go.Sx.Kd.bo] [.bo])=true from by rw[show fG (l.length+2)=true from mA (by omega)];rfl,tz rfl]at e;refine⟨_,Qr (l.length+2) o bad b (eY (l.length+1) [.bool b] R),J,rfl,λX y n B T=>(sO (Gh n B T) 60 _ _ _ _ e).2,λE H s=>adv (l:=a::l) (R:=eY (l.length+1) [.bool b] R) (good:=o) (bad:=bad) ⟨q.1,λi A=> ?_⟩ s⟩;show(cond (Nat.beq i (l.length+1)) b (R.gb i 0))=_;by_cases h:i=l.length+1
    .subst h
     rw[ju];show b=_;rw[b8,cx (by simp)];simp
    .have S:Nat.beq i (l.length+1)=false:=by
      cases U:Nat.beq i (l.length+1)with
      |false=>rfl
      |true=>exact tA (cJ U) h
     rw[S];have u:i<(a::l).length:=by simp at A ⊢;omega
     show R.gb i 0=_;rw[q.2 i u,b8,b8,cD u]
  .cases m
   have d:1000<=l.length:=by
    rcases cn l.length 1000 with h|h
    .rw[show Nat.blt l.length 1000=true from by rw[ir];exact h]at d;cases d
    .exact h
   have x:=FL (X:=X) (w0:=y) (lh:=I) (k:=k) (a:=.kL l) (a':=.kL l) (G:=nD) (P:=Tryz.prog) (f:=37) lg (Q:=True) (rest:=[.bool b]) (v:=.bool false) (v2:=.bool false) rfl rfl D (λ_ σ=>.bool _) (λ_ F O w J=> ?_) n B T z
   .rw[set_self z]at x;exact x
   .obtain⟨o,bad,R,q,J⟩:=J
    cases l with
    |nil=>simp at d
    |cons a l=>
     have d:1000<=l.length+1:=d;have e:=adu a b l o bad R;rw[M.fe,cN (by omega),tz rfl]at e;exact⟨_,_,J,rfl,λX y n B T=>(sO (Gh n B T) 60 _ _ _ _ e).2,λE H s=>⟨o,bad,R,q,s⟩⟩
 .cases m
def wU.count{l:List Bool}{F k:Nat->Prop}{b:Nat}{w:World}{r q:Nat}{s:Value}{t u c:Nat}{a bad:Int}(h:wU l F b w r q s t u c a bad)(x:Bool)(v:Int)(m:∀j,F j->k j)(n:∀j,k j->j<w.heap.size):
  wU l k b (w.setCell ⟨b,if x then 1 else 2,none⟩ (.int .i64 v)) r q s t u c (if x then v else a) (if x then bad else v):=by
 have f:∀j o,j≠b->(w.setCell ⟨b,if x then 1 else 2,none⟩ (.int .i64 v)).cell? ⟨j,o,none⟩=w.cell? ⟨j,o,none⟩:=λj o d=>bt _ _ _ _ (by simp<;>(intro e;exact tA e.symm d));refine⟨λj d=>by rw[js];exact n j d,m _ h.fb,m _ h.fr,h.br,?_,?_,?_,?_,?_,λo=>by rw[fL];exact h.zb o,λo=>by rw[fL];exact h.zr o,h.nil,λz=> ?_⟩
 .rw[bt _ _ _ _ (by cases x<;>simp)];exact h.c0
 .cases x
  .rw[bt _ _ _ _ (by simp)];exact h.c1
  .exact eL _ _ _ h.c1
 .cases x
  .exact eL _ _ _ h.c2
  .rw[bt _ _ _ _ (by simp)];exact h.c2
 .rw[f _ _ h.br.symm];exact h.d0
 .rw[f _ _ h.br.symm];exact h.d1
 .obtain⟨A,B,C,p,D,E,G,H⟩:=h.vec z
  refine⟨A,B,m _ C,p,D,λo=>by rw[fL];exact E o,λj d=>by rw[f _ _ p];exact G j d,λi y I=>by rw[f _ _ p];exact H i y I⟩
def wU.pop{x:Bool}{l:List Bool}{F F':Nat->Prop}{b:Nat}{w f:World}{r k:Nat}{C:Value}{t a c:Nat}{d bad:Int}(h:wU (x::l) F b w r k C t a c d bad)(D:Dv r k t a l.length c w f)(m:∀j,F j->F' j)(n:∀j,F' j->j<f.heap.size):
  ∃s,wU l F' b f r k s t (a+1) (c-1) d bad:=by
 obtain⟨P,v,E,z,A,G,H,I⟩:=h.vec (by simp);obtain⟨Q,R,S,T,J,p,K,B,L⟩:=D.facts A h.d0;have v:l.length+1<=c:=v;have q:∀o,f.cell? ⟨b,o,none⟩=w.cell? ⟨b,o,none⟩:=λo=>cM (J b (λe=>z e.symm) h.br);refine⟨if l.length=0 then .slice none 0 0 else .slice (some ⟨t,a+1,none⟩) l.length (c-1),n,m _ h.fb,m _ h.fr,h.br,(q 0).trans h.c0,(q 1).trans h.c1,(q 2).trans h.c2,L,(K _ (by omega)).trans h.d1,λo=>(p _).trans (h.zb o),λo=>(p _).trans (h.zr o),λu=> ?_,λu=> ?_⟩
 .subst u;rfl
 .have N:¬l.length=0:=fun e=>u (cR e)
  rw[ck N];refine⟨rfl,by omega,m _ E,z,A,λo=>(p _).trans (G o),λj U=> ?_,λi y O=> ?_⟩
  .rw[B _ (by omega),show a+1+j=a+(j+1)by omega];exact H (j+1) (by omega)
  .rw[B _ (by omega),show a+1+i=a+(i+1)by omega];exact I (i+1) y (by simpa using O)
def Ut:dP nD KT Tryz.prog TT 124 Bz:=by
 refine⟨⟨_,Tryz.func124,by kernel_rfl,by kernel_rfl⟩,λX w0 H I T B lh r c=> ?_⟩;unfold Bz at c;split at c
 .rename_i k
  obtain⟨l,J,c⟩:=Gz c;cases c;refine aeQ (G:=nD) lg (Q:=True) (rest:=[]) (pE:=[]) (v:=.bool (xD l)) (λσ i K=> ?_) (λ_ σ=>.bool _) (λ_ F b w L Mt m hK=> ?_) H I T J
  .obtain⟨y,b,rfl,N,O⟩:=eD K
   obtain⟨p,f,rfl⟩:=N.gL;rw[kY O];exact⟨trivial,p,f,rfl⟩
  .obtain⟨r,o1,sl,t,o2,P,o,bad,h⟩:=ai2 L
   have s:∀(u:World) j,F j->F j\/w.heap.size<=j/\j<u.heap.size:=λ_ j a=>.inl a;have C:¬j5 F w b:=λq=>q.2 h.fb;cases l with
   |nil=>
    have d:=h.d0;rw[h.nil rfl]at d;refine(WS h.c0 h.c1 (h.zb 1) d).mono λe u z=> ?_;obtain⟨rfl,rfl⟩:=z;refine⟨rfl,(Kept.refl _ w).setCell C _,?_⟩;exact(h.count true (wrap64 (o+1)) (s _) (λj a=>a.elim (m j) (λq=>by have:=q.2;rwa[js]at this))).j
   |cons x l=>
    obtain⟨R,S,U,V,D,W,v7,Y⟩:=h.vec (by simp);have d:=h.d0;rw[R]at d;have Z:=Y 0 x rfl;refine(WR (n:=l.length) h.c0 h.c1 h.c2 h.zb d S Z (W _) (h.zr _) D h.br (λe=>V e.symm)).mono λe u z=> ?_;obtain⟨rfl,w1,f,rfl⟩:=z;obtain⟨E,f2,f3,f4,f5,f6,f7,f8,f9⟩:=f.facts D h.d0;have A:Kept (j5 F w) w w1:=⟨f2,f3,f4,by omega,λj a=>f5 j (λe=>a.2 (e▸U)) (λe=>a.2 (e▸h.fr))⟩;refine⟨rfl,A.setCell C _,?_⟩;obtain⟨ac,h'⟩:=h.pop f (F':=F) (λ_ q=>q) (λj a=>by rw[E];exact m j a);exact(h'.count x _ (s _) (λj a=>a.elim (λq=>by rw[E];exact m j q) (λq=>by have:=q.2;rwa[js]at this))).j
 .cases c
def afW:vS nD KT Tryz.prog TT wkO:=
 bz ahV<|bz ahT<|bz agT<|bz ahO<|bz akV<|bz aes<|bz agx<|bz ahK<|
 bz KC<|bz Ig<|bz Ni<|bz Nj<|bz Ie<|bz Ut<|bz Uu<|
 bz ajD<|bz ajF<|bz afD<|
 bz afh<|bz afi<|bz abq<|bz abp<|bz abr<|bz afg Ez
def YA{X:Nat->Prop}{w:World}(h:∀k,KT k->X k)(B:eB X w)(T:TT w):iA qO X w:=LZ BQ (by kernel_rfl) Z9 afW Bq h B T
end
noncomputable section
open Go.RowKit Go.bn Go.Sx Yq
def jH(c:Cn)(s:Ms)(A:Nat->Int)(e:Int)(F:Nat->Prop)(b:Nat)(w:World):Prop:=∃a f d ς h τ,Mj c s A e a F f d ς b h τ w
def jH.st{c:Cn}{s:Ms}{A:Nat->Int}{e:Int}{F:Nat->Prop}{b:Nat}{w a:World}(h:jH c s A e F b w)(f:w.heap.size<=a.heap.size)(i:∀j,F j->a.heap[j]?=w.heap[j]?):jH c s A e F b a:=by
 obtain⟨d,m,k,ς,l,τ,M⟩:=h;exact⟨d,m,k,ς,l,τ,ajc M f i⟩
def jH.lt{c:Cn}{s:Ms}{A:Nat->Int}{e:Int}{F:Nat->Prop}{b:Nat}{w:World}(h:jH c s A e F b w):∀j,F j->j<w.heap.size:=by
 obtain⟨a,f,d,ς,i,τ,M⟩:=h;exact M.sh.lt
def Bu(c:Cn)(s:Ms)(A:Nat->Int)(e:Int)(F:Nat->Prop)(b:Nat)(w a:World):Prop:=Kept (j5 F w) w a/\jH c s A e (grown F w a) b a
def oH(A:Nat->Int)(n:Nat)(e:Int):Nat->Int:=λi=>if i=n then e else A i
def ah4{A:Nat->Int}{n:Nat}{e:Int}:oH A n e n=e:=tz rfl
def yT{A:Nat->Int}{e:Int}(l:List Ev):aG (oH A l.length e) l=aG A l:=IU l λi h=>ck (by omega)
def Kl{A:Nat->Int}{e:Int}{x:Ev}(l:List Ev):aG (oH A l.length e) (x::l)=eY l.length (nA x e) (aG A l):=by
 show eY l.length (nA x (oH A l.length e l.length)) (aG (oH A l.length e) l)=_;rw[ah4,yT]
def MB(k w:Int)(e:Ask)(n:Int)(a:Bool):Go.Sx.plain (iK k w e n a)=true:=by simp[iK,vg,Go.Sx.plain,Go.Sx.aN]
def Zu{X:Nat->Prop}{w:World}{σ:Nat->Option Pl}{m l:List Go.Sx.ag}{v:Value}{a b:Int}{n:Ask}{o:Int}{q:Bool}{p:Pl}(C:∀k,KT k->X k)(T:TT w)
  (h:(o5 a b n o q m).get=some (v,l)) (N:6<=m.length) (D:aN v=true) (u:HR X w nD σ m w) (E:σ 0=some p) (F:p.o=0):
  Calls Tryz.prog 18 [.pointer (some ⟨p.b,0,none⟩),iK a b n o q].toArray w λe z=>e=.returned v/\∃d,HR X w nD d l z/\∀k,k=0\/k=1\/k=2\/k=3\/k=5->d k=σ k:=by
 unfold o5 at h;obtain⟨r,G,H⟩:=M.ay h;obtain⟨O,I,A⟩:=M.ay H;simp only[M.ah,cq,kB]at A;obtain⟨rfl,rfl⟩:=A;have J:=YA C u.hn T
 have B:=(sO J 80 _ _ _ _ G).2.2 σ w [.pointer (some ⟨p.b,p.o+0,none⟩),iK a b n o q].toArray u ⟨rfl,λi x y c f=>by
  match i with
  |0=>simp at c f;subst c f;exact VR.ptr (off:=0) E
  |1=>
   simp at c f;subst c f;exact VR.plain _ (MB _ _ _ _ _)
  |i+2=>simp at c⟩
 rw[F]at B;refine B.mono λe z K=> ?_;obtain⟨P,rfl,d,c,S,s⟩:=K;rw[S.aD D];refine⟨rfl,_,Su s I,λk L=> ?_⟩;have e:pull ((Af r.2).map (·.1)) d k=d k:=by
  unfold pull;have:((Af r.2).map (·.1))[k]?=some k:=by
   rcases L with rfl|rfl|rfl|rfl|rfl<;>rfl
  rw[this];rfl
 rw[e];exact c.2 k (by omega)
section
variable{c:Cn} {s s':Ms} {A:Nat->Int} {e a:Int} {F d f:Nat->Prop} {ς:Nat->Option Pl} {τ:Nat->Nat->Option Pl} {b l v:Nat} {w:World} {m:Ask} {o:Int} {q:Bool} {r:Bool}
def Mo{n:Nat}{R:Go.Sx.Rows}{h:Nat->Option Value}(i:s.ev.length=n+1):bI (aP c s v n R h e a) (dW s.ev.length) (fE s.ev.length R) (cZ c v (s.ws v)).1 (cZ c v (s.ws v)).2=fq (aP c s v n R h e a):=by
 rw[i];rfl
def PS(T:TT w)(K:∀k,KT k->¬F k){P:Nat->Prop}:∀k,KT k->kept F P w k:=λk h=>.inl ⟨T.lt k h,K k h⟩
def uA{n n':Nat}{R':Go.Sx.Rows}{u z:Int}(M:Mj c s A e a F d f ς b l τ w)(T:TT w)(K:∀k,KT k->¬F k)(D:v<c.W)(G:s.ev.length=n+1)
  (h:(o5 u z m o q (fq (aP c s v n (aG A s.ev) (λi=>w.cell? ⟨l,i,none⟩) e a))).get=some (.bool r,fq (aP c s' v n' R' (λi=>w.cell? ⟨l,i,none⟩) (aR (e+1)) e)))
  (H:∀i,i≠v->s'.ws i=s.ws i) (B:s'.ev.length=n'+1) (R:R'=aG (oH A s.ev.length e) s'.ev):
  Calls Tryz.prog 18 [.pointer (some ⟨b,0,none⟩),iK u z m o q].toArray w λx E=>x=.returned (.bool r)/\Bu c s' (oH A s.ev.length e) (aR (e+1)) F b w E:=by
 have V:=Tz M D n;rw[Mo G]at V;obtain⟨p,I,J,C⟩:=M.sh.p0;subst J;refine(Zu (PS T K) T h (by show 6<=(_++_:List Go.Sx.ag).length;rw[cE];show 6<=6+_;omega) rfl V (p:=p) (by exact I) C).mono λx E L=> ?_;obtain⟨rfl,S,y,N⟩:=L;rw[R, <-Mo B]at y;obtain⟨U,W,X,Y,O⟩:=YB M D y N λi _ P=>H i P;exact⟨rfl,y.below.mono λj Q=>.inl Q,_,_,_,_,_,_,O⟩
def dV{n n':Nat}{u B:Int}{E:List Go.Sx.ag}{x x':Wr}(M:Mj c s A e a F d f ς b l τ w)(T:TT w)(L:∀k,KT k->¬F k)(I:v<c.W)
  (h:(call qO 80 18 [pk 0,iK u B m o q] (bI ⟨c,s.m,s.now,s.wo,v,x,n,aG A s.ev,λi=>w.cell? ⟨l,i,none⟩,e,a⟩ (dW s.ev.length) (fE s.ev.length (aG A s.ev)) (cZ c v (s.ws v)).1 dm)).get=
   some (.bool r,bI ⟨c,s'.m,s'.now,s'.wo,v,x',n',aG A s.ev,λi=>w.cell? ⟨l,i,none⟩,aR (e+1),e⟩ (dW s.ev.length) (fE s.ev.length (aG A s.ev)) (cZ c v (s.ws v)).1 (dm++E)))
  (N:s'.ws=s.ws) (G:s'.ev=s.ev):
  Calls Tryz.prog 18 [.pointer (some ⟨b,0,none⟩),iK u B m o q].toArray w λx J=>x=.returned (.bool r)/\Bu c s' (oH A s.ev.length e) (aR (e+1)) F b w J:=by
 have V:=ae1 M I x n;obtain⟨p,O,P,H⟩:=M.sh.p0;subst P;have Q:=YA (PS T L) V.hn T
 have K:=(sO Q 80 _ _ _ _ h).2.2 _ w [.pointer (some ⟨p.b,p.o+0,none⟩),iK u B m o q].toArray V ⟨rfl,λi x y C D=>by
  match i with
  |0=>simp at C D;subst C D;exact VR.ptr (off:=0) (show look ς (τ v) l v 0=some p from O)
  |1=>simp at C D;subst C D;exact VR.plain _ (MB _ _ _ _ _)
  |i+2=>simp at C⟩
 rw[H]at K;refine K.mono λx J R=> ?_;obtain⟨X,rfl,Y,C,S,z⟩:=R;rw[S.aD rfl];rw[<-yT (e:=e) s.ev, <-G]at z;have Z:14<=(bI ⟨c,s.m,s.now,s.wo,v,x,n,aG A s.ev,λi=>w.cell? ⟨l,i,none⟩,e,a⟩ (dW s.ev.length) (fE s.ev.length (aG A s.ev)) (cZ c v (s.ws v)).1 dm).length:=aq 14;rw[G]at z;obtain⟨vE,M7,ς',τ',U⟩:=ae0 (s':=s') (A':=oH A s.ev.length e) (n':=n') M I (by rw[G];exact z) (λk hk=>C.2 k (by omega)) λi _=>by rw[N]
 exact⟨rfl,z.below.mono λj W=>.inl W,_,_,_,_,_,_,U⟩
end
end
noncomputable section
open Go.RowKit Go.bn Go.Sx Yq
set_option maxRecDepth 100000
variable{α:Type}
def jA(k w:Int)(e:Ask)(n:Int)(a:Bool):Go.Sx.ag:=bl (.int .i64 k:: .int .i64 w::(vg e++[.int .i64 n,.bool a]))
abbrev jV:FuncId:=18
def Xd(q:Xq)(v:Value)(b:Go.Sx.ag)(wc:List Value)(w:Int)(a:Ask)(e:Int)(c:Bool):
  (call qO 80 jV [pk 0,iK 2 w a e c] (bI q v b wc dm)).get=some (.bool true,bI (UC q e).2.tick v b wc (dm++[jA 2 w a e c])):=by kernel_rfl
def Yx(q:Xq)(e:Value)(b:Go.Sx.ag)(wc:List Value)(w:Int)(a:Ask)(n:Int)(c:Bool):
  (call qO 80 jV [pk 0,iK 5 w a n c] (bI q e b wc dm)).get=some (.bool false,bI q.tick e b wc (dm++[jA 5 w a n c])):=by kernel_rfl
def Zl(q:Xq)(v:Value)(b:Go.Sx.ag)(wc:List Value)(w:Int)(a:Ask)(n:Int)(e:Bool):
  (call qO 80 jV [pk 0,iK 3 w a n e] (bI q v b wc dm)).get=((IL q e).bind λr=>.ret (Value.bool r.1,bI r.2.tick v b wc (dm++[jA 3 w a n e]))).get:=by kernel_rfl
def UJ(s:aa):Go.Sx.ag:=bl [.int .i64 s.st,.int .i64 s.own,.int .i64 s.str,.bool s.brk,.bool s.fO,.int .i64 s.uses,.int .i64 s.gen,.int .i64 s.ep,.int .i64 s.cz]
def ah1(q:Xq)(i:Int)(F:Bool->Xq->List Go.Sx.ag->M α):M α:=
 .br (Nat.ble q.c.W 1000&&Nat.ble q.c.S 1000) (.br (uD (q.c.S:Int) i) (.br (Nat.beq (3+2*q.c.W) (3+2*q.c.W)) (tJ q.c q.m i.toNat λs=>og s 13 0 0 (F false q [UJ (iN (az s 13 0 0))]) λn=>.br (Nat.beq (3+2*q.c.W) (3+2*q.c.W)) (.br (Nat.blt i.toNat q.c.S) (F true {q with m:=q.m.set i.toNat n} [UJ n]) .bad) .bad) .bad) (F false q [])) .bad
def Wx(q:Xq)(v:Value)(a:Go.Sx.ag)(wc:List Value)(w:Int)(e:Ask)(n:Int)(c:Bool):
  (call qO 80 jV [pk 0,iK 4 w e n c] (bI q v a wc dm)).get=(ah1 q e.slot λb q j=>.ret (Value.bool b,bI q.tick v a wc (dm++(jA 4 w e n c::j)))).get:=by kernel_rfl
def KQ(W w:Nat)(y n:M α):M α:=.br (!decide ((w:Int)<(W:Int))) n y
def Mi(W v w:Nat)(y:M α):M α:=.br (gu (w:Int) W) (.br (decide ((w:Int)=(v:Int))) y .bad) .bad
def IA{W w:Nat}{y n:M α}(h:w<W):(KQ W w y n).get=y.get:=by unfold KQ;rw[M.fe,cN (by omega)];rfl
def D9{W v:Nat}{y:M α}(h:v<W):(Mi W v v y).get=y.get:=by unfold Mi;rw[M.fe,tz (by unfold gu;simp;omega),M.fe,cN rfl,tz rfl]
def X6(v:Nat)(c:Cn)(m:Mm)(o:Int)(w:List Bool)(x:Wr)(n:Nat)(R:Go.Sx.Rows)(r:Nat->Option Value)(b a:Int)(e:Value)(d:Go.Sx.ag)(wc:List Value)(f:Ask)(h:Int)(i:Bool):
  (call qO 80 jV [pk 0,iK 1 (v:Int) f h i] (bI ⟨c,m,o,w,v,x,n,R,r,b,a⟩ e d (.int .i64 0::wc) dm)).get=
   (KQ c.W v (.br (Nat.beq (wc.length+1) 35) (Mi c.W v v (.ret (Value.bool false,bI (Xq.tick ⟨c,m,o,w,v,x,n,R,r,b,a⟩) e d (.int .i64 0::wc) (dm++[jA 1 v f h i])))) .bad)
    (.ret (Value.bool false,bI (Xq.tick ⟨c,m,o,w,v,x,n,R,r,b,a⟩) e d (.int .i64 0::wc) (dm++[jA 1 v f h i])))).get:=by kernel_rfl
abbrev kK(k:Int):Prop:=∀(v:Nat) (c:Cn) (m:Mm) (o:Int) (w:List Bool) (x:Wr) (n:Nat) (R:Go.Sx.Rows) (r:Nat->Option Value) (f a:Int) (h:Value) (i:Go.Sx.ag) (wc:List Value) (e:Ask) (b:Int) (d:Bool),
  (call qO 80 jV [pk 0,iK 0 (v:Int) e b d] (bI ⟨c,m,o,w,v,x,n,R,r,f,a⟩ h i (.int .i64 k::wc) dm)).get=
   (KQ c.W v (.br (Nat.beq (wc.length+1) 35) (Mi c.W v v (.ret (Value.bool false,bI (Xq.tick ⟨c,m,o,w,v,x,n,R,r,f,a⟩) h i (.int .i64 k::wc) (dm++[jA 0 v e b d,jA 0 v e b d])))) .bad)
    (.ret (Value.bool false,bI (Xq.tick ⟨c,m,o,w,v,x,n,R,r,f,a⟩) h i (.int .i64 k::wc) (dm++[jA 0 v e b d,jA 0 v e b d])))).get
def ajO:kK 1:=by unfold kK;intros;kernel_rfl
def ajN:kK 2:=by unfold kK;intros;kernel_rfl
def ajM:kK 3:=by unfold kK;intros;kernel_rfl
def ajL:kK 4:=by unfold kK;intros;kernel_rfl
def ajK:kK 5:=by unfold kK;intros;kernel_rfl
def ajJ:kK 6:=by unfold kK;intros;kernel_rfl
def ajI:kK 7:=by unfold kK;intros;kernel_rfl
def ajH:kK 8:=by unfold kK;intros;kernel_rfl
def agP(v:Nat)(S:Nat)(s:Int)(wt:Nat)(u:Int)(m:Mm)(o:Int)(w:List Bool)(x:Wr)(n:Nat)(R:Go.Sx.Rows)(r:Nat->Option Value)(d a:Int)(f:Value)(h:Go.Sx.ag)(wc:List Value)(e:Ask)(b:Int)(c:Bool):(call qO 80 jV [pk 0,iK 0 1 e b c] (bI ⟨⟨1,S,s,wt,u⟩,m,o,w,v,x,n,R,r,d,a⟩ f h wc dm)).get=some (.bool false,bI (Xq.tick ⟨⟨1,S,s,wt,u⟩,m,o,w,v,x,n,R,r,d,a⟩) f h wc (dm++[jA 0 1 e b c,jA 0 1 e b c])):=by kernel_rfl
def agO(v:Nat)(S:Nat)(s:Int)(wt:Nat)(u:Int)(m:Mm)(o:Int)(w:List Bool)(x:Wr)(n:Nat)(R:Go.Sx.Rows)(r:Nat->Option Value)(d a:Int)(f:Value)(h:Go.Sx.ag)(wc:List Value)(e:Ask)(b:Int)(c:Bool):(call qO 80 jV [pk 0,iK 0 2 e b c] (bI ⟨⟨2,S,s,wt,u⟩,m,o,w,v,x,n,R,r,d,a⟩ f h wc dm)).get=some (.bool false,bI (Xq.tick ⟨⟨2,S,s,wt,u⟩,m,o,w,v,x,n,R,r,d,a⟩) f h wc (dm++[jA 0 2 e b c,jA 0 2 e b c])):=by kernel_rfl
def agN(v:Nat)(S:Nat)(s:Int)(wt:Nat)(u:Int)(m:Mm)(o:Int)(w:List Bool)(x:Wr)(n:Nat)(R:Go.Sx.Rows)(r:Nat->Option Value)(d a:Int)(f:Value)(h:Go.Sx.ag)(wc:List Value)(e:Ask)(b:Int)(c:Bool):(call qO 80 jV [pk 0,iK 0 3 e b c] (bI ⟨⟨3,S,s,wt,u⟩,m,o,w,v,x,n,R,r,d,a⟩ f h wc dm)).get=some (.bool false,bI (Xq.tick ⟨⟨3,S,s,wt,u⟩,m,o,w,v,x,n,R,r,d,a⟩) f h wc (dm++[jA 0 3 e b c,jA 0 3 e b c])):=by kernel_rfl
def agM(v:Nat)(S:Nat)(s:Int)(wt:Nat)(u:Int)(m:Mm)(o:Int)(w:List Bool)(x:Wr)(n:Nat)(R:Go.Sx.Rows)(r:Nat->Option Value)(d a:Int)(f:Value)(h:Go.Sx.ag)(wc:List Value)(e:Ask)(b:Int)(c:Bool):(call qO 80 jV [pk 0,iK 0 4 e b c] (bI ⟨⟨4,S,s,wt,u⟩,m,o,w,v,x,n,R,r,d,a⟩ f h wc dm)).get=some (.bool false,bI (Xq.tick ⟨⟨4,S,s,wt,u⟩,m,o,w,v,x,n,R,r,d,a⟩) f h wc (dm++[jA 0 4 e b c,jA 0 4 e b c])):=by kernel_rfl
def alc(v:Nat)(c:Cn)(m:Mm)(o:Int)(w:List Bool)(x:Wr)(n:Nat)(R:Go.Sx.Rows)(r:Nat->Option Value)(f a:Int)(h:Value)(i:Go.Sx.ag)(wc:List Value)(e:Ask)(b:Int)(d:Bool):(call qO 80 jV [pk 0,iK 0 (-1) e b d] (bI ⟨c,m,o,w,v,x,n,R,r,f,a⟩ h i wc dm)).get=some (.bool false,bI (Xq.tick ⟨c,m,o,w,v,x,n,R,r,f,a⟩) h i wc (dm++[jA 0 (-1) e b d,jA 0 (-1) e b d])):=by kernel_rfl
def agL(v:Nat)(S:Nat)(s:Int)(wt:Nat)(u:Int)(m:Mm)(o:Int)(w:List Bool)(x:Wr)(n:Nat)(R:Go.Sx.Rows)(r:Nat->Option Value)(b a:Int)(e:Value)(c:Go.Sx.ag)(wc:List Value)(d:Ask)(f:Int)(h:Bool):(call qO 80 jV [pk 0,iK 1 1 d f h] (bI ⟨⟨1,S,s,wt,u⟩,m,o,w,v,x,n,R,r,b,a⟩ e c wc dm)).get=some (.bool false,bI (Xq.tick ⟨⟨1,S,s,wt,u⟩,m,o,w,v,x,n,R,r,b,a⟩) e c wc (dm++[jA 1 1 d f h])):=by kernel_rfl
def agK(v:Nat)(S:Nat)(s:Int)(wt:Nat)(u:Int)(m:Mm)(o:Int)(w:List Bool)(x:Wr)(n:Nat)(R:Go.Sx.Rows)(r:Nat->Option Value)(b a:Int)(e:Value)(c:Go.Sx.ag)(wc:List Value)(d:Ask)(f:Int)(h:Bool):(call qO 80 jV [pk 0,iK 1 2 d f h] (bI ⟨⟨2,S,s,wt,u⟩,m,o,w,v,x,n,R,r,b,a⟩ e c wc dm)).get=some (.bool false,bI (Xq.tick ⟨⟨2,S,s,wt,u⟩,m,o,w,v,x,n,R,r,b,a⟩) e c wc (dm++[jA 1 2 d f h])):=by kernel_rfl
def agJ(v:Nat)(S:Nat)(s:Int)(wt:Nat)(u:Int)(m:Mm)(o:Int)(w:List Bool)(x:Wr)(n:Nat)(R:Go.Sx.Rows)(r:Nat->Option Value)(b a:Int)(e:Value)(c:Go.Sx.ag)(wc:List Value)(d:Ask)(f:Int)(h:Bool):(call qO 80 jV [pk 0,iK 1 3 d f h] (bI ⟨⟨3,S,s,wt,u⟩,m,o,w,v,x,n,R,r,b,a⟩ e c wc dm)).get=some (.bool false,bI (Xq.tick ⟨⟨3,S,s,wt,u⟩,m,o,w,v,x,n,R,r,b,a⟩) e c wc (dm++[jA 1 3 d f h])):=by kernel_rfl
def agI(v:Nat)(S:Nat)(s:Int)(wt:Nat)(u:Int)(m:Mm)(o:Int)(w:List Bool)(x:Wr)(n:Nat)(R:Go.Sx.Rows)(r:Nat->Option Value)(b a:Int)(e:Value)(c:Go.Sx.ag)(wc:List Value)(d:Ask)(f:Int)(h:Bool):(call qO 80 jV [pk 0,iK 1 4 d f h] (bI ⟨⟨4,S,s,wt,u⟩,m,o,w,v,x,n,R,r,b,a⟩ e c wc dm)).get=some (.bool false,bI (Xq.tick ⟨⟨4,S,s,wt,u⟩,m,o,w,v,x,n,R,r,b,a⟩) e c wc (dm++[jA 1 4 d f h])):=by kernel_rfl
def alb(v:Nat)(c:Cn)(m:Mm)(o:Int)(w:List Bool)(x:Wr)(n:Nat)(R:Go.Sx.Rows)(r:Nat->Option Value)(b a:Int)(e:Value)(d:Go.Sx.ag)(wc:List Value)(f:Ask)(h:Int)(i:Bool):(call qO 80 jV [pk 0,iK 1 (-1) f h i] (bI ⟨c,m,o,w,v,x,n,R,r,b,a⟩ e d wc dm)).get=some (.bool false,bI (Xq.tick ⟨c,m,o,w,v,x,n,R,r,b,a⟩) e d wc (dm++[jA 1 (-1) f h i])):=by kernel_rfl
def ahc(q:Xq)(a:Ask):M (Bool×Xq):=
 .br (decide (((q.n+1:Nat):Int)>=1999)) (.ret (false,q)) (.br (decide ((a.op:Int)<0)) (.ret (false,q)) (.br (decide ((a.op:Int)>=8)) (.ret (false,q))
  (.br (Nat.beq (q.n+1) (q.n+1)) (.br (fG (q.n+2)&&mh q.R.ks wN) (Mi q.c.W q.who q.who (.ret (true,{q with n:=q.n+1,R:=eY (q.n+1) (Zp q.who q.aj a) q.R,x:=ah5 q a}))) .bad) .bad)))
def ade(q:Xq)(a:Ask):M (List Go.Sx.ag×Bool):=
 .br (decide ((a.op:Int)<0)) (.ret (Iw q.tick,false)) (.br (decide ((a.op:Int)>=8)) (.ret (Iw q.tick,false)) (Mi q.c.W q.who q.who (.ret (fq {q with n:=0,R:=rowOf (Zp q.who q.aj a),x:=ah5 q a}.tick,true))))
def acE(v:Nat)(c:Cn)(m:Mm)(o:Int)(w:List Bool)(a:Ask)(d:Int)(n:Nat)(R:Go.Sx.Rows)(e:Nat->Option Value)(f b:Int)(h:Ask)(i:Int)(k:Bool):
  (o5 0 (v:Int) h i k (fq ⟨c,m,o,w,v,⟨.rest,a,d⟩,n,R,e,f,b⟩)).get=
   (KQ c.W v (Mi c.W v v ((ahc ⟨c,m,o,w,v,⟨.rest,a,d⟩,n,R,e,f,b⟩ h).bind λr=>.ret (Value.bool r.1,fq r.2.tick))) (.ret (Value.bool false,fq (Xq.tick ⟨c,m,o,w,v,⟨.rest,a,d⟩,n,R,e,f,b⟩)))).get:=by kernel_rfl
def ZP(v:Nat)(c:Cn)(m:Mm)(o:Int)(w:List Bool)(a:Ask)(d:Int)(n:Nat)(R:Go.Sx.Rows)(e:Nat->Option Value)(f b:Int)(h:Ask)(i:Int)(k:Bool):
  (o5 0 (v:Int) h i k (Iw ⟨c,m,o,w,v,⟨.rest,a,d⟩,n,R,e,f,b⟩)).get=
   (KQ c.W v (Mi c.W v v ((ade ⟨c,m,o,w,v,⟨.rest,a,d⟩,n,R,e,f,b⟩ h).bind λr=>.ret (Value.bool r.2,r.1))) (.ret (Value.bool false,Iw (Xq.tick ⟨c,m,o,w,v,⟨.rest,a,d⟩,n,R,e,f,b⟩)))).get:=by kernel_rfl
end
noncomputable section
open Go.RowKit Go.bn Go.Sx Yq Classical
variable{c:Cn} {s:Ms} {A:Nat->Int} {e f:Int} {F l o:Nat->Prop} {ς:Nat->Option Pl} {τ:Nat->Nat->Option Pl} {b u v:Nat} {w:World}
def xK(w:Nat)(s:Ms)(x:Wr)(q:Qu):(aV c w s x q).ev=s.ev/\(aV c w s x q).now=s.now:=by
 unfold aV;dsimp only
 (repeat' split)<;>exact⟨rfl,rfl⟩
def zP(w:Nat)(s:Ms)(x:Wr)(h:Option Int):(dh w s x h).ev=s.ev/\(dh w s x h).now=s.now:=by
 cases h with
 |none=>exact⟨rfl,rfl⟩
 |some g=>unfold dh;dsimp only;split<;>exact⟨rfl,rfl⟩
def NZ(w:Nat)(s:Ms)(x:Wr)(k:Wk):(ak c w s x k).ev=s.ev/\(ak c w s x k).now=s.now:=by
 unfold ak;cases k with
 |get t=>by_cases h:t.st=.bM<;>(simp only[h,if_true,jj];(repeat' split)<;>exact⟨rfl,rfl⟩)
 |give t=>dsimp only;(repeat' split)<;>exact⟨rfl,rfl⟩
 |bg t=>dsimp only;(repeat' split)<;>exact⟨rfl,rfl⟩
 |close d=>cases d<;>dsimp only<;>(repeat' split)<;>exact⟨rfl,rfl⟩
 |stats t=>dsimp only;(repeat' split)<;>exact⟨rfl,rfl⟩
 |aS r=>dsimp only;(repeat' split)<;>exact⟨rfl,rfl⟩
def Lm(c:Cn)(s:Ms)(w:Nat):((ai c s w).ev=s.ev\/∃x:Ev,x.ended=true/\(ai c s w).ev=x::s.ev)/\(ai c s w).now=s.now:=by
 have or:∀d:Ms,d.ev=s.ev/\d.now=s.now->(d.ev=s.ev\/∃x:Ev,x.ended=true/\d.ev=x::s.ev)/\d.now=s.now:=λd h=>⟨.inl h.1,h.2⟩;unfold ai;dsimp only;cases(s.ws w).ph with
 |rest=>exact or _ ⟨rfl,rfl⟩
 |pin h=>cases h<;>exact or _ ⟨rfl,rfl⟩
 |work k=>exact or _ (NZ _ _ _ _)
 |counts t=>dsimp only;(repeat' split)<;>exact or _ ⟨rfl,rfl⟩
 |enters q=>dsimp only;(repeat' split)<;>exact or _ ⟨rfl,rfl⟩
 |ax t p a=>
  dsimp only;split
  .cases p with
   |some b=>exact or _ ⟨rfl,rfl⟩
   |none=>exact⟨.inr ⟨_,rfl,rfl⟩,rfl⟩
  .exact or _ ⟨rfl,rfl⟩
 |parked b=>dsimp only;split<;>first|exact or _ (zP _ _ _ _)|exact or _ (xK _ _ _ _)
 |wakes h=>exact or _ (zP _ _ _ _)
 |leaves q=>exact or _ (xK _ _ _ _)
def ZX(c:Cn)(s:Ms)(w:Nat):(ai c s w).ev=s.ev\/∃x:Ev,x.ended=true/\(ai c s w).ev=x::s.ev:=(Lm c s w).1
def WM(c:Cn)(s:Ms)(w:Nat):(ai c s w).now=s.now:=(Lm c s w).2
structure rE(c:Cn)(s:Ms)(e:Int):Prop where
 W:1<=c.W/\c.W<=4
 S:1<=c.S/\c.S<=5
 nx:∃k:Nat,e=k/\Nx c s k/\s.ev.length<=k
 ev0:s.ev=[]->∀w,w<c.W->(s.ws w).ph=.rest
 tm:0<=s.now/\s.now<=1099511627776
def ady(c:Cn)(s:Ms)(x:En):(dX c s x).2.ev=s.ev\/∃y:Ev,(dX c s x).2.ev=y::s.ev:=by
 unfold dX;repeat' split
 all_goals first|exact .inl rfl|skip
 .exact .inr ⟨_,rfl⟩
 .rcases ZX c s x.who.toNat with h|⟨y,_,h⟩
  .exact .inl h
  .exact .inr ⟨y,h⟩
def afu(G:rE c s e)(x:En):rE c (dX c s x).2 (e+1):=by
 obtain⟨k,r,N,z⟩:=G.nx;refine⟨G.W,G.S,⟨k+1,by omega,ai9 (by have:=G.W.2;omega) G.S.1 N x,?_⟩,λa=> ?_,?_⟩
 .rcases ady c s x with h|⟨y,h⟩<;>rw[h]
  .omega
  .rw[ct];omega
 .have i:s.ev=[]:=by
   rcases ady c s x with h|⟨y,h⟩
   .rw[<-h];exact a
   .rw[h]at a;cases a
  have n:∀w,w<c.W->¬aQ s w:=λw p d=>by unfold aQ at d;rw[G.ev0 i w p]at d;exact d
  unfold dX at a ⊢;repeat' split
  all_goals first|exact G.ev0 i|skip
  .rename_i q m
   rw[tz q,tz m]at a;cases a
  .rename_i _ B m
   obtain⟨⟨C,D⟩,d⟩:=m;exact tA d (n _ (by omega))
 .have:=G.tm
  unfold dX;repeat' split
  all_goals first|exact G.tm|skip
  .rename_i m
   have h:=WM c s x.who.toNat;rw[h];exact G.tm
  .show 0<=xg s.now x.n/\xg s.now x.n<=1099511627776
   unfold xg;omega
def mE(x:En):Ask:={x.a with op:=x.op.toNat}
def uZ(x:En):Value:=iK x.kind x.who (mE x) x.n x.good
structure wY(c:Cn)(x:En):Prop where
 kind:0<=x.kind/\x.kind<=5
 who: -1<=x.who/\x.who<=c.W
 op:0<=x.op
def aea{q:Xq}(h:0<=q.now/\q.now<=1099511627776)(n:Int):UC q n=(true,{q with now:=xg q.now n}):=by
 unfold UC xg;have a:aR (1099511627776-q.now)=1099511627776-q.now:=fA ⟨by omega,by omega⟩;have d:(if aR (1099511627776-q.now)<(if 0>n then 0 else n)then aR (1099511627776-q.now)else if 0>n then 0 else n)=min (max n 0) (1099511627776-q.now):=by
  rw[a];split<;>split<;>omega
 rw[d,fA ⟨by omega,by omega⟩]
def rJ:Ph->Int| .rest=>0| .pin _=>1| .work _=>2| .counts _=>3| .enters _=>4| .ax _ _ _=>5| .parked _=>6| .wakes _=>7| .leaves _=>8
def E5(c:Cn)(v:Nat)(x:Wr):∃wc,(cZ c v x).1=.int .i64 (rJ x.ph)::wc/\Nat.beq (wc.length+1) 35=true:=by
 have d:=(uM c v x).2.2;have i:∃wc,(cZ c v x).1=.int .i64 (rJ x.ph)::wc:=by
  unfold cZ;generalize EU c x.ph=r;obtain⟨m,n,y⟩:=x;cases m with
  |rest=>exact⟨_,rfl⟩
  |pin h=>cases h<;>exact⟨_,rfl⟩
  |work k=>cases k with
   |close q=>cases q<;>exact⟨_,rfl⟩
   |_=>exact⟨_,rfl⟩
  |counts t=>exact⟨_,rfl⟩
  |enters q=>exact⟨_,rfl⟩
  |ax t p a=>cases p<;>exact⟨_,rfl⟩
  |parked b=>exact⟨_,rfl⟩
  |wakes h=>cases h<;>exact⟨_,rfl⟩
  |leaves q=>exact⟨_,rfl⟩
 obtain⟨wc,h⟩:=i;rw[h,ct]at d;exact⟨wc,h,by rw[d];rfl⟩
def acs{x:Wr}(h:x.ph≠.rest):kK (rJ x.ph):=by
 cases d:x.ph with
 |rest=>exact tA d h
 |pin h=>exact ajO
 |work k=>exact ajN
 |counts t=>exact ajM
 |enters q=>exact ajL
 |ax t p a=>exact ajK
 |parked b=>exact ajJ
 |wakes h=>exact ajI
 |leaves q=>exact ajH
def ac7{x:En}(a:x.kind=0)(h:¬Ih c s x):dX c s x=(false,s):=by unfold dX;rw[tz a,ck h]
def Yy{x:En}(a:x.kind=1)(h:¬(inW c x.who/\aQ s x.who.toNat)):dX c s x=(false,s):=by unfold dX;rw[ck (by omega),tz a,ck h]
def ahP{α:Type}{q:Xq}{g:Bool}{K:Bool×Xq->M α}(h:q.wo.length<1000):((IL q g).bind K).get=(K (true,{q with wo:=q.wo++[g]})).get:=by
 unfold IL;rw[M.get_bind,M.fe,tz (by rw[ir];exact h)];rfl
def ahQ{α:Type}{q:Xq}{g:Bool}{K:Bool×Xq->M α}(h:¬q.wo.length<1000):((IL q g).bind K).get=(K (false,q)).get:=by
 unfold IL;rw[M.get_bind,M.fe,ck (by rw[ir];exact h)];rfl
def Vx(G:rE c s e)(J:Mj c s A e f F l o ς b u τ w)(T:TT w)(K:∀k,KT k->¬F k)(x:En)(N:wY c x)(L:2<=x.kind):
  Calls Tryz.prog jV [.pointer (some ⟨b,0,none⟩),uZ x].toArray w λr O=>r=.returned (.bool (dX c s x).1)/\Bu c (dX c s x).2 (oH A s.ev.length e) (aR (e+1)) F b w O:=by
 have B:0<c.W:=G.W.1;obtain⟨y,h,z,a,n,d⟩:=x;have L:2<=y:=L;have P:y<=5:=N.kind.2;rcases(by omega:y=2\/y=3\/y=4\/y=5)with rfl|rfl|rfl|rfl
 .have C:dX c s ⟨2,h,z,a,n,d⟩=(true,{s with now:=xg s.now n}):=rfl
  rw[C];have t:=Xd ⟨c,s.m,s.now,s.wo,0,s.ws 0,0,aG A s.ev,λi=>w.cell? ⟨u,i,none⟩,e,f⟩ (dW s.ev.length) (fE s.ev.length (aG A s.ev)) (cZ c 0 (s.ws 0)).1 h (mE ⟨2,h,z,a,n,d⟩) n d;rw[aea G.tm]at t;exact dV (s':={s with now:=xg s.now n}) J T K B t rfl rfl
 .have t:=Zl ⟨c,s.m,s.now,s.wo,0,s.ws 0,0,aG A s.ev,fun i=>w.cell? ⟨u,i,none⟩,e,f⟩ (dW s.ev.length) (fE s.ev.length (aG A s.ev)) (cZ c 0 (s.ws 0)).1 h (mE ⟨3,h,z,a,n,d⟩) n d
  by_cases E:s.wo.length<1000
  .have C:dX c s ⟨3,h,z,a,n,d⟩=(true,{s with wo:=s.wo++[d]}):=by
    unfold dX;rw[ck (by show¬(3:Int)=0;decide),ck (by show¬(3:Int)=1;decide),ck (by show¬(3:Int)=2;decide),tz rfl,tz E]
   rw[C];have t:=t.trans (ahP (q:=⟨c,s.m,s.now,s.wo,0,s.ws 0,0,aG A s.ev,λi=>w.cell? ⟨u,i,none⟩,e,f⟩) E);exact dV (s':={s with wo:=s.wo++[d]}) J T K B t rfl rfl
  .have C:dX c s ⟨3,h,z,a,n,d⟩=(false,s):=by
    unfold dX;rw[ck (by show¬(3:Int)=0;decide),ck (by show¬(3:Int)=1;decide),ck (by show¬(3:Int)=2;decide),tz rfl,ck E]
   rw[C];have t:=t.trans (ahQ (q:=⟨c,s.m,s.now,s.wo,0,s.ws 0,0,aG A s.ev,λi=>w.cell? ⟨u,i,none⟩,e,f⟩) E);exact dV (s':=s) J T K B t rfl rfl
 .have t:=Wx ⟨c,s.m,s.now,s.wo,0,s.ws 0,0,aG A s.ev,fun i=>w.cell? ⟨u,i,none⟩,e,f⟩ (dW s.ev.length) (fE s.ev.length (aG A s.ev)) (cZ c 0 (s.ws 0)).1 h (mE ⟨4,h,z,a,n,d⟩) n d
  have R:=G.W;have S:=G.S;have W:(Nat.ble c.W 1000&&Nat.ble c.S 1000)=true:=by rw[Em (by omega),Em (by omega)];rfl
  have t:=t.trans (aI W);have p:dX c s ⟨4,h,z,a,n,d⟩=if inS c a.slot then(match QN s.m a.slot.toNat with|some m=>(true,s.mem m)|none=>(false,s))else(false,s):=by
   unfold dX;rw[ck (by show¬(4:Int)=0;decide),ck (by show¬(4:Int)=1;decide),ck (by show¬(4:Int)=2;decide),ck (by show¬(4:Int)=3;decide),tz rfl];rfl
  by_cases H:inS c a.slot
  .rw[tz H]at p
   unfold QN at p;have D:(0:Int)<=a.slot/\a.slot<c.S:=H;have t:=t.trans ((aI (VE D.1 D.2)).trans ((aI (ju _)).trans (qm (show a.slot.toNat<c.S by omega))));cases I:az (s.m.sl a.slot.toNat) 13 0 0 with
   |none=>
    rw[I]at p;simp only[Option.map_none]at p;rw[p];have t:=t.trans (nZ I);exact dV (s':=s) J T K B t rfl rfl
   |some Q=>
    rw[I]at p;simp only[eR]at p;rw[p];have t:=t.trans ((nY I).trans ((aI (ju _)).trans (aI (qY (show a.slot.toNat<c.S by omega)))));exact dV (s':=s.mem (s.m.set a.slot.toNat Q)) J T K B t rfl rfl
  .rw[ck H]at p
   rw[p];have t:=t.trans (aT (adg H));exact dV (s':=s) J T K B t rfl rfl
 .have C:dX c s ⟨5,h,z,a,n,d⟩=(false,s):=by
   unfold dX;rw[ck (by show¬(5:Int)=0;decide),ck (by show¬(5:Int)=1;decide),ck (by show¬(5:Int)=2;decide),ck (by show¬(5:Int)=3;decide),ck (by show¬(5:Int)=4;decide)]
  rw[C];have t:=Yx ⟨c,s.m,s.now,s.wo,0,s.ws 0,0,aG A s.ev,λi=>w.cell? ⟨u,i,none⟩,e,f⟩ (dW s.ev.length) (fE s.ev.length (aG A s.ev)) (cZ c 0 (s.ws 0)).1 h (mE ⟨5,h,z,a,n,d⟩) n d;exact dV (s':=s) J T K B t rfl rfl
end
noncomputable section
open Go.RowKit Go.bn Go.Sx Yq Classical
variable{c:Cn} {s s':Ms} {A:Nat->Int} {e at_:Int} {F fm fw:Nat->Prop} {ς:Nat->Option Pl} {τ:Nat->Nat->Option Pl} {b bw v:Nat} {w:World} {ea:Ask} {en:Int} {eg r:Bool}
def Py{n n':Nat}{R R':Go.Sx.Rows}{d f:Int}{eb':Go.Sx.ag}(J:Mj c s A e at_ F fm fw ς b bw τ w)(T:TT w)(K:∀k,KT k->¬F k)(D:v<c.W)
  (h:(o5 d f ea en eg (bI (aP c s v n (aG A s.ev) (λi=>w.cell? ⟨bw,i,none⟩) e at_) (dW s.ev.length) (fE s.ev.length (aG A s.ev)) (cZ c v (s.ws v)).1 (cZ c v (s.ws v)).2)).get=
   some (.bool r,bI (aP c s' v n' R' (λi=>w.cell? ⟨bw,i,none⟩) (aR (e+1)) e) (dW s'.ev.length) eb' (cZ c v (s'.ws v)).1 (cZ c v (s'.ws v)).2))
  (q:eb'=fE s'.ev.length (aG (oH A s.ev.length e) s'.ev)\/∃y m,eb'=.rows true true 18 1 y/\fE s'.ev.length (aG (oH A s.ev.length e) s'.ev)=.rows true true 18 1 m/\∀j,j<18->(y.at 0 j).val=(m.at 0 j).val)
  (E:∀i,i≠v->s'.ws i=s.ws i):
  Calls Tryz.prog jV [.pointer (some ⟨b,0,none⟩),iK d f ea en eg].toArray w λx z=>x=.returned (.bool r)/\Bu c s' (oH A s.ev.length e) (aR (e+1)) F b w z:=by
 have V:=Tz J D n;obtain⟨p,G,l,B⟩:=J.sh.p0;subst l;refine(Zu (PS T K) T h (by show 6<=(_++_:List Go.Sx.ag).length;rw[cE];show 6<=6+_;omega) rfl V (p:=p) (by exact G) B).mono λx z H=> ?_;obtain⟨rfl,I,a,L⟩:=H;have a:HR (kept F (xA c τ (· ≠v)) w) w nD I (bI (aP c s' v n' R' (λi=>w.cell? ⟨bw,i,none⟩) (aR (e+1)) e) (dW s'.ev.length) (fE s'.ev.length (aG (oH A s.ev.length e) s'.ev)) (cZ c v (s'.ws v)).1 (cZ c v (s'.ws v)).2) z:=by
  rcases q with rfl|⟨y,m,rfl,N,O⟩
  .exact a
  .rw[N]
   refine a.other 4 (.rows true true 18 1 m) (λ_=>rfl) (λ_=>rfl) (λp U l=>⟨l.1,l.2.1,λi j C o=> ?_⟩) (.inr rfl);obtain⟨u,P,Q⟩:=l.2.2 i j C o;obtain rfl:i=0:=by omega
   exact⟨u,P,by rw[<-O j o];exact Q⟩
 obtain⟨W,X,Y,Z,S⟩:=YB (n':=n') J D a L λi _ C=>E i C;exact⟨rfl,a.below.mono λj o=>.inl o,_,_,_,_,_,_,S⟩
def OD(G:rE c s e)(h:e<=1000000000){n:Nat}(a:s.ev.length=n+1):fG (n+2)=true:=by
 obtain⟨k,d,_,l⟩:=G.nx;exact mA (by omega)
def YK(G:rE c s e)(J:Mj c s A e at_ F fm fw ς b bw τ w)(T:TT w)(K:∀k,KT k->¬F k)(h:v<c.W)(p:(s.ws v).ph≠.rest):
  Calls Tryz.prog jV [.pointer (some ⟨b,0,none⟩),iK 0 (v:Int) ea en eg].toArray w λx a=>x=.returned (.bool false)/\Bu c s (oH A s.ev.length e) (aR (e+1)) F b w a:=by
 obtain⟨wc,d,f⟩:=E5 c v (s.ws v);have t:=(acs p v c s.m s.now s.wo (s.ws v) 0 (aG A s.ev) (λi=>w.cell? ⟨bw,i,none⟩) e at_ (dW s.ev.length) (fE s.ev.length (aG A s.ev)) wc ea en eg).trans ((IA h).trans ((aI f).trans (D9 h)));rw[<-d]at t;exact dV (s':=s) (n':=0) J T K h t rfl rfl
def YI(J:Mj c s A e at_ F fm fw ς b bw τ w)(T:TT w)(K:∀k,KT k->¬F k)(a:v<c.W)(p:(s.ws v).ph=.rest):
  Calls Tryz.prog jV [.pointer (some ⟨b,0,none⟩),iK 1 (v:Int) ea en eg].toArray w λx d=>x=.returned (.bool false)/\Bu c s (oH A s.ev.length e) (aR (e+1)) F b w d:=by
 obtain⟨wc,h,f⟩:=E5 c v (s.ws v);rw[p]at h;have t:=(X6 v c s.m s.now s.wo (s.ws v) 0 (aG A s.ev) (λi=>w.cell? ⟨bw,i,none⟩) e at_ (dW s.ev.length) (fE s.ev.length (aG A s.ev)) wc ea en eg).trans ((IA a).trans ((aI f).trans (D9 a)));have h:(cZ c v (s.ws v)).1=.int .i64 0::wc:=h;rw[<-h]at t;exact dV (s':=s) (n':=0) J T K a t rfl rfl
def Px(G:rE c s e)(J:Mj c s A e at_ F fm fw ς b bw τ w)(T:TT w)(K:∀k,KT k->¬F k){d f:Int}(l:d=0\/d=1)(o:f= -1\/f=c.W):
  Calls Tryz.prog jV [.pointer (some ⟨b,0,none⟩),iK d f ea en eg].toArray w λx p=>x=.returned (.bool false)/\Bu c s (oH A s.ev.length e) (aR (e+1)) F b w p:=by
 have h:0<c.W:=G.W.1;have m:=G.W.2;rcases o with rfl|rfl
 .rcases l with rfl|rfl
  .exact dV (s':=s) (n:=0) (n':=0) (x:=s.ws 0) (x':=s.ws 0) J T K h (alc 0 c s.m s.now s.wo (s.ws 0) 0 (aG A s.ev) (λi=>w.cell? ⟨bw,i,none⟩) e at_ (dW s.ev.length) (fE s.ev.length (aG A s.ev)) (cZ c 0 (s.ws 0)).1 ea en eg) rfl rfl
  .exact dV (s':=s) (n:=0) (n':=0) (x:=s.ws 0) (x':=s.ws 0) J T K h (alb 0 c s.m s.now s.wo (s.ws 0) 0 (aG A s.ev) (λi=>w.cell? ⟨bw,i,none⟩) e at_ (dW s.ev.length) (fE s.ev.length (aG A s.ev)) (cZ c 0 (s.ws 0)).1 ea en eg) rfl rfl
 .obtain⟨W,S,a,wt,u⟩:=c
  have m:W<=4:=m;have h:0<W:=h;rcases(by omega:W=1\/W=2\/W=3\/W=4)with rfl|rfl|rfl|rfl
  .rcases l with rfl|rfl
   .exact dV (s':=s) (n:=0) (n':=0) (x:=s.ws 0) (x':=s.ws 0) J T K h (agP 0 S a wt u s.m s.now s.wo (s.ws 0) 0 (aG A s.ev) (λi=>w.cell? ⟨bw,i,none⟩) e at_ (dW s.ev.length) (fE s.ev.length (aG A s.ev)) (cZ ⟨1,S,a,wt,u⟩ 0 (s.ws 0)).1 ea en eg) rfl rfl
   .exact dV (s':=s) (n:=0) (n':=0) (x:=s.ws 0) (x':=s.ws 0) J T K h (agL 0 S a wt u s.m s.now s.wo (s.ws 0) 0 (aG A s.ev) (λi=>w.cell? ⟨bw,i,none⟩) e at_ (dW s.ev.length) (fE s.ev.length (aG A s.ev)) (cZ ⟨1,S,a,wt,u⟩ 0 (s.ws 0)).1 ea en eg) rfl rfl
  .rcases l with rfl|rfl
   .exact dV (s':=s) (n:=0) (n':=0) (x:=s.ws 0) (x':=s.ws 0) J T K h (agO 0 S a wt u s.m s.now s.wo (s.ws 0) 0 (aG A s.ev) (λi=>w.cell? ⟨bw,i,none⟩) e at_ (dW s.ev.length) (fE s.ev.length (aG A s.ev)) (cZ ⟨2,S,a,wt,u⟩ 0 (s.ws 0)).1 ea en eg) rfl rfl
   .exact dV (s':=s) (n:=0) (n':=0) (x:=s.ws 0) (x':=s.ws 0) J T K h (agK 0 S a wt u s.m s.now s.wo (s.ws 0) 0 (aG A s.ev) (λi=>w.cell? ⟨bw,i,none⟩) e at_ (dW s.ev.length) (fE s.ev.length (aG A s.ev)) (cZ ⟨2,S,a,wt,u⟩ 0 (s.ws 0)).1 ea en eg) rfl rfl
  .rcases l with rfl|rfl
   .exact dV (s':=s) (n:=0) (n':=0) (x:=s.ws 0) (x':=s.ws 0) J T K h (agN 0 S a wt u s.m s.now s.wo (s.ws 0) 0 (aG A s.ev) (λi=>w.cell? ⟨bw,i,none⟩) e at_ (dW s.ev.length) (fE s.ev.length (aG A s.ev)) (cZ ⟨3,S,a,wt,u⟩ 0 (s.ws 0)).1 ea en eg) rfl rfl
   .exact dV (s':=s) (n:=0) (n':=0) (x:=s.ws 0) (x':=s.ws 0) J T K h (agJ 0 S a wt u s.m s.now s.wo (s.ws 0) 0 (aG A s.ev) (λi=>w.cell? ⟨bw,i,none⟩) e at_ (dW s.ev.length) (fE s.ev.length (aG A s.ev)) (cZ ⟨3,S,a,wt,u⟩ 0 (s.ws 0)).1 ea en eg) rfl rfl
  .rcases l with rfl|rfl
   .exact dV (s':=s) (n:=0) (n':=0) (x:=s.ws 0) (x':=s.ws 0) J T K h (agM 0 S a wt u s.m s.now s.wo (s.ws 0) 0 (aG A s.ev) (λi=>w.cell? ⟨bw,i,none⟩) e at_ (dW s.ev.length) (fE s.ev.length (aG A s.ev)) (cZ ⟨4,S,a,wt,u⟩ 0 (s.ws 0)).1 ea en eg) rfl rfl
   .exact dV (s':=s) (n:=0) (n':=0) (x:=s.ws 0) (x':=s.ws 0) J T K h (agI 0 S a wt u s.m s.now s.wo (s.ws 0) 0 (aG A s.ev) (λi=>w.cell? ⟨bw,i,none⟩) e at_ (dW s.ev.length) (fE s.ev.length (aG A s.ev)) (cZ ⟨4,S,a,wt,u⟩ 0 (s.ws 0)).1 ea en eg) rfl rfl
def abl(G:rE c s e)(he:e<=1000000000)(J:Mj c s A e at_ F fm fw ς b bw τ w)(T:TT w)(K:∀k,KT k->¬F k)(x:En)(W:wY c x)(O:x.kind=0):
  Calls Tryz.prog jV [.pointer (some ⟨b,0,none⟩),uZ x].toArray w λr P=>r=.returned (.bool (dX c s x).1)/\Bu c (dX c s x).2 (oH A s.ev.length e) (aR (e+1)) F b w P:=by
 obtain⟨C,l,p,a,n,f⟩:=x;have O:C=0:=O;subst O;have hw: -1<=l/\l<=c.W:=W.who;have Q:0<=p:=W.op;by_cases S:0<=l/\l<c.W
 .obtain⟨v,rfl⟩:∃v:Nat,l=v:=⟨l.toNat,by omega⟩
  have u:v<c.W:=by omega
  by_cases I:(s.ws v).ph=.rest
  .have D:s.ws v=⟨.rest,(s.ws v).ask,(s.ws v).grant⟩:=by rw[<-I]
   have mk:∀b:Prop,(Ih c s ⟨0,v,p,a,n,f⟩↔b)->dX c s ⟨0,v,p,a,n,f⟩=if b then(true,ko s ⟨0,v,p,a,n,f⟩)else(false,s):=λb X=>by
    unfold dX;rw[tz rfl];by_cases h:b
    .rw[tz h,tz (X.2 h)]
    .rw[ck h,ck λq=>h (X.1 q)]
   have hr:(s.ws (v:Int).toNat).ph=.rest:=by rw[cH];exact I
   have L:((mE ⟨0,v,p,a,n,f⟩).op:Int)=p:=by show((p.toNat:Nat):Int)=p;omega
   have B:(ko s ⟨0,v,p,a,n,f⟩).ws v=⟨.pin none,mE ⟨0,v,p,a,n,f⟩,0⟩:=by
    show upd s.ws (v:Int).toNat _ v=_;rw[cH];exact tz rfl
   have E:∀i,i≠v->(ko s ⟨0,v,p,a,n,f⟩).ws i=s.ws i:=λi hi=>by
    show upd s.ws (v:Int).toNat _ i=_;rw[cH];exact ck hi
   have y:(ko s ⟨0,v,p,a,n,f⟩).ev=⟨false,v,mE ⟨0,v,p,a,n,f⟩,bR.zero⟩::s.ev:=by
    show Ev.mk false (v:Int).toNat _ _::s.ev=_;rw[cH];rfl
   have d:=mk (s.ev.length<1999/\p<8) ⟨λq=>⟨q.2.2.1,q.2.2.2.2⟩,λq=>⟨⟨by show(0:Int)<=v;omega,by show(v:Int)<c.W;omega⟩,hr,q.1,Q,q.2⟩⟩;rw[d];rcases lf s.ev.length with z|z
   .have N:s.ev=[]:=cR z
    have t:=(ZP v c s.m s.now s.wo (s.ws v).ask (s.ws v).grant 0 (aG A s.ev) (λi=>w.cell? ⟨bw,i,none⟩) e at_ (mE ⟨0,v,p,a,n,f⟩) n f).trans ((IA u).trans (D9 u));rw[<-D]at t;have Y:bI (aP c s v 0 (aG A s.ev) (λi=>w.cell? ⟨bw,i,none⟩) e at_) (dW s.ev.length) (fE s.ev.length (aG A s.ev)) (cZ c v (s.ws v)).1 (cZ c v (s.ws v)).2=Iw ⟨c,s.m,s.now,s.wo,v,s.ws v,0,aG A s.ev,λi=>w.cell? ⟨bw,i,none⟩,e,at_⟩:=by
     rw[N];rfl
    unfold ade at t;rw[M.get_bind,M.fe,cT (by rw[L];omega)]at t;simp only[eN,jj]at t;by_cases H:p<8
    .rw[tz ⟨by omega,H⟩]
     rw[M.fe,cT (by rw[L];omega)]at t;simp only[eN,jj]at t;have t:=t.trans (tI (λo=>Option.bind o _) (D9 u));refine Py (s':=ko s ⟨0,v,p,a,n,f⟩) (n:=0) (n':=0) (R:=aG A s.ev) (R':=rowOf (Zp v e (mE ⟨0,v,p,a,n,f⟩))) (eb':=.rows true true 18 1 (rowOf (Zp v e (mE ⟨0,v,p,a,n,f⟩)))) J T K u ?_ ?_ E
     .rw[Y]
      refine t.trans ?_;have U:(ko s ⟨0,v,p,a,n,f⟩).ev.length=1:=by rw[y,N];rfl
      rw[U,B];show some _=some _;unfold aP;rw[B];rfl
     .refine .inr ⟨_,eY 0 (nA ⟨false,v,mE ⟨0,v,p,a,n,f⟩,bR.zero⟩ e) ⟨wN,fun _ _=>0,fun _ _=>false⟩,rfl,?_,fun j hj=>rfl⟩
      rw[y,Kl,N];rfl
    .rw[ck fun q=>H q.2]
     rw[M.fe,cN (by rw[L];omega),tz rfl]at t;refine Py (s':=s) (n:=0) (n':=0) (R:=aG A s.ev) (R':=aG A s.ev) J T K u ?_ (.inl rfl) λ_ _=>rfl;rw[Y];refine t.trans ?_;rw[yT,N];rfl
   .obtain⟨m,z⟩:∃m,s.ev.length=m+1:=⟨s.ev.length-1,by omega⟩
    have V:=OD G he z;have t:=(acE v c s.m s.now s.wo (s.ws v).ask (s.ws v).grant m (aG A s.ev) (λi=>w.cell? ⟨bw,i,none⟩) e at_ (mE ⟨0,v,p,a,n,f⟩) n f).trans ((IA u).trans (D9 u));rw[<-D]at t;unfold ahc at t;rw[M.get_bind,M.fe]at t
    have no:(o5 0 (v:Int) (mE ⟨0,v,p,a,n,f⟩) n f (fq ⟨c,s.m,s.now,s.wo,v,s.ws v,m,aG A s.ev,λi=>w.cell? ⟨bw,i,none⟩,e,at_⟩)).get=some (.bool false,fq (Xq.tick ⟨c,s.m,s.now,s.wo,v,s.ws v,m,aG A s.ev,λi=>w.cell? ⟨bw,i,none⟩,e,at_⟩))->
      Calls Tryz.prog jV [.pointer (some ⟨b,0,none⟩),uZ ⟨0,v,p,a,n,f⟩].toArray w λr P=>r=.returned (.bool false)/\Bu c s (oH A s.ev.length e) (aR (e+1)) F b w P:=λt=>by
     exact uA (s':=s) (n:=m) (n':=m) (R':=aG A s.ev) J T K u z t (λ_ _=>rfl) z (yT s.ev).symm
    by_cases Z:s.ev.length<1999
    .rw[cT (by show¬(((m+1:Nat):Int)>=1999);omega)]at t
     simp only[eN,jj]at t;rw[M.fe,cT (by rw[L];omega)]at t;simp only[eN,jj]at t;by_cases H:p<8
     .rw[tz ⟨Z,H⟩]
      rw[M.fe,cT (by rw[L];omega)]at t;simp only[eN,jj]at t;rw[M.fe,tz (ju _),M.fe,tz (show(fG (m+2)&&mh (aG A s.ev).ks wN)=true from by rw[V,Ed];rfl)]at t;have t:=t.trans (tI (λo=>Option.bind o _) (D9 u));refine uA (s':=ko s ⟨0,v,p,a,n,f⟩) (n:=m) (n':=m+1) (R':=eY (m+1) (Zp v e (mE ⟨0,v,p,a,n,f⟩)) (aG A s.ev)) J T K u z ?_ E (by rw[y,ct,z]) ?_
      .refine t.trans ?_
       show some _=some _;unfold aP;rw[B];rfl
      .rw[y,Kl,z];rfl
     .rw[ck fun q=>H q.2]
      rw[M.fe,cN (by rw[L];omega),tz rfl]at t;exact no t
    .rw[ck fun q=>Z q.1]
     rw[cN (by show((m+1:Nat):Int)>=1999;omega),tz rfl]at t;exact no t
  .have d:dX c s ⟨0,v,p,a,n,f⟩=(false,s):=ac7 rfl fun q=>I (by have:=q.2.1;rwa[show(En.mk 0 (v:Int) p a n f).who.toNat=v from cH v]at this)
   rw[d];exact YK G J T K u I
 .have d:dX c s ⟨0,l,p,a,n,f⟩=(false,s):=ac7 rfl fun q=>S q.1
  rw[d];exact Px G J T K (.inl rfl) (by show l= -1\/l=c.W;omega)
def YJ(H:∀v,v<c.W->fZ c.W v)(G:rE c s e)(he:e<=1000000000)(J:Mj c s A e at_ F fm fw ς b bw τ w)(T:TT w)(D:∀k,KT k->¬F k)(x:En)(hx:wY c x)(P:x.kind=1):
  Calls Tryz.prog jV [.pointer (some ⟨b,0,none⟩),uZ x].toArray w λr Q=>r=.returned (.bool (dX c s x).1)/\Bu c (dX c s x).2 (oH A s.ev.length e) (aR (e+1)) F b w Q:=by
 obtain⟨E,f,z,a,n,o⟩:=x;have P:E=1:=P;subst P;have hw: -1<=f/\f<=c.W:=hx.who;obtain⟨K,EN,N,ac⟩:=G.nx;by_cases S:0<=f/\f<c.W
 .obtain⟨v,rfl⟩:∃v:Nat,f=v:=⟨f.toNat,by omega⟩
  have l:v<c.W:=by omega
  have am:=G.W;have U:=G.S;have yes:aQ s v->dX c s ⟨1,v,z,a,n,o⟩=(true,ai c s v):=λu=>by
   unfold dX;rw[ck (by show¬(1:Int)=0;decide),tz rfl,tz ⟨⟨by show(0:Int)<=v;omega,by show(v:Int)<c.W;omega⟩,by show aQ s (v:Int).toNat;rw[cH];exact u⟩];show(true,ai c s (v:Int).toNat)=_;rw[cH]
  have no:¬aQ s v->dX c s ⟨1,v,z,a,n,o⟩=(false,s):=λu=>Yy rfl λq=>u (by have:=q.2;rwa[show(En.mk 1 (v:Int) z a n o).who.toNat=v from cH v]at this);by_cases V:(s.ws v).ph=.rest
  .rw[no fun u=>by unfold aQ at u;rw[V]at u;exact u]
   exact YI J T D l V
  .have W:s.ev≠[]:=fun h0=>V (G.ev0 h0 v l)
   obtain⟨m,B⟩:∃m,s.ev.length=m+1:=⟨s.ev.length-1,by have:=List.length_pos_iff.2 W;omega⟩;have X:=OD G he B;have Y:mh (aG A s.ev).ks wN=true:=by rw[Ed];rfl
   by_cases u:aQ s v
   .rw[yes u]
    have ho:∀i,i≠v->(ai c s v).ws i=s.ws i:=(BD l (by omega) U.1 N.all.inv.m N.all.inv.g (N.all.inv.w v l) u).2.2.2.1
    have same:∀t,(o5 1 (v:Int) (mE ⟨1,v,z,a,n,o⟩) t o (fq (aP c s v m (aG A s.ev) (λi=>w.cell? ⟨bw,i,none⟩) e at_))).get=some (.bool true,fq (aP c (ai c s v) v m (aG A s.ev) (λi=>w.cell? ⟨bw,i,none⟩) e at_).tick)->(ai c s v).ev=s.ev->t=n->
      Calls Tryz.prog jV [.pointer (some ⟨b,0,none⟩),uZ ⟨1,v,z,a,n,o⟩].toArray w λr Q=>r=.returned (.bool true)/\Bu c (ai c s v) (oH A s.ev.length e) (aR (e+1)) F b w Q:=λt ht p Z=>by
     subst Z;exact uA (s':=ai c s v) (n:=m) (n':=m) (R':=aG A s.ev) J T D l B ht ho (by rw[p];exact B) (by rw[p];exact(yT s.ev).symm)
    by_cases L:∃t,(s.ws v).ph=.work (.stats t)
    .obtain⟨t,L⟩:=L
     obtain⟨C,I⟩:=Vd (n:=m) (R:=aG A s.ev) (rest:=λi=>w.cell? ⟨bw,i,none⟩) (aj:=e) (at_:=at_) (ea:=mE ⟨1,v,z,a,n,o⟩) (en:=n) (eg:=o) (H v l) (by omega) l (by omega) N L;exact same n C I rfl
    .by_cases O:∃t,(s.ws v).ph=.counts t
     .obtain⟨t,O⟩:=O
      obtain⟨C,I⟩:=RA (n:=m) (R:=aG A s.ev) (rest:=λi=>w.cell? ⟨bw,i,none⟩) (aj:=e) (at_:=at_) (ea:=mE ⟨1,v,z,a,n,o⟩) (en:=n) (eg:=o) (H v l) (by omega) l (by omega) N O;exact same n C I rfl
     .obtain⟨n',R',C,I⟩:=DU (n:=m) (R:=aG A s.ev) (rest:=fun i=>w.cell? ⟨bw,i,none⟩) (aj:=e) (at_:=at_) (ea:=mE ⟨1,v,z,a,n,o⟩) (en:=n) (eg:=o) (H v l) (by omega) (by omega) l N X Y (fun t h=>L ⟨t,h⟩) (fun t h=>O ⟨t,h⟩) u
      rcases I with⟨p,rfl,rfl⟩|⟨y,p,hy,rfl,rfl⟩
      .exact same n C p rfl
      .refine uA (s':=ai c s v) (n:=m) (n':=m+1) J T D l B C ho (by rw[p,ct,B]) ?_
       rw[p,Kl,B];obtain⟨ye,yw,ya,yn⟩:=y;have hy:ye=true:=hy;subst hy;rfl
   .rw[no u]
    exact uA (s':=s) (n:=m) (n':=m) (R':=aG A s.ev) J T D l B (Ku (H v l) (by omega) (by omega) l u) (λ_ _=>rfl) B (yT s.ev).symm
 .have d:dX c s ⟨1,f,z,a,n,o⟩=(false,s):=Yy rfl fun q=>S q.1
  rw[d];exact Px G J T D (.inr rfl) (by show f= -1\/f=c.W;omega)
def ae9(H:∀v,v<c.W->fZ c.W v)(G:rE c s e)(i:e<=1000000000)(h:jH c s A e F b w)(T:TT w)(d:∀k,KT k->¬F k)(x:En)(a:wY c x):
  Calls Tryz.prog jV [.pointer (some ⟨b,0,none⟩),uZ x].toArray w λr l=>r=.returned (.bool (dX c s x).1)/\Bu c (dX c s x).2 (oH A s.ev.length e) (e+1) F b w l:=by
 obtain⟨at_,fm,fw,ς,bw,τ,J⟩:=h;obtain⟨K,E,_,_⟩:=G.nx;have f:aR (e+1)=e+1:=fA ⟨by omega,by omega⟩;rw[<-f];have o:=a.kind;by_cases m:x.kind=0
 .exact abl G i J T d x a m
 .by_cases n:x.kind=1
  .exact YJ H G i J T d x a n
  .exact Vx G J T d x a (by omega)
