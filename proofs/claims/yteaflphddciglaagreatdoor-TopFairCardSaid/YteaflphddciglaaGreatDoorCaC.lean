import Derived.Test.YteaflphddciglaaGreatDoorCaB
set_option linter.all false
def aE:=@List.getElem?_eq_some_iff
def cx:=@List.getElem?_append_right
def cT:=@decide_eq_false
def cD:=@List.getElem?_append_left
def db:=@List.mem_cons
def cR:=@List.eq_nil_of_length_eq_zero
def tG:=@decide_eq_true_eq
def fy:=@List.getElem?_take_of_lt
def nf:=@List.pairwise_cons
def oT:=@Go.wpList_append_own
def sq:=@Go.World.ownsRow_nil
def oY:=@List.flatMap_cons
def pT:=@Array.getElem?_modify
def sx:=@Bool.eq_false_iff
namespace Go.Proofs.YteaflphddciglaaGreatDoor
section
open Go.RowKit Go.bn
attribute [local go_sem ↓] Go.wp_at_zero Go.wp_at_succ
def Tryz.info3:(Tryz.prog.info? 3).map (λi=>(i.zero,i.size,i.bytes))=some (some (.int .i64 0),1,8):=by kernel_rfl
def uO(w:World)(v:Value)(x:List Int):Prop:=∃A c,v=.slice A x.length c/\x.length<=c/\dN encI 1 w w.heap.size A x
def uO.agQ{w:World}{b:Nat}{v:Value}{s:List Int}(h:w.ownsRow b 3 1 v s.length (s.map (Value.int .i64))):uO w v s:=by
 rcases h.2 with⟨rfl,l⟩|⟨g,c,m,rfl,q,e,n,_,o,a⟩
 .obtain rfl:s=[]:=cR l
  exact⟨none,0,rfl,aq _,λh=>tA rfl h⟩
 .refine⟨_,c,rfl,n,fun _=>⟨g,0,rfl,(bk.1 e).1,fun k x f j u d=> ?_⟩⟩
  have r:k<s.length:=(aE.1 f).1;have p:j=0/\u=.int .i64 x:=by
   cases j with
   |zero=>simp[encI]at d;exact⟨rfl,d.symm⟩
   |succ j=>simp[encI]at d
  obtain⟨rfl,rfl⟩:=p;have i:(s.map (Value.int .i64))[k]?=some (.int .i64 x):=by simp[f]
  rw[<-a,fy (by omega)]at i;simp only[World.cell?,e];simp;rw[<-i];simp
def uO.nil(w:World):uO w (.slice none 0 0) []:=⟨none,0,rfl,aq _,λh=>tA rfl h⟩
def own_below{w a:World}{b:Nat}{e:TypeId}{s:Nat}{v:Value}{n:Nat}{x:List Value}(h:w.ownsRow b e s v n x)(f:Below w.heap.size w a):a.ownsRow b e s v n x:=by
 refine⟨h.1,?_⟩;rcases h.2 with i|⟨g,c,u,k,l,d,r⟩
 .exact .inl i
 .exact .inr ⟨g,c,u,k,l,by rw[f.block g (bk.1 d).1];exact d,r⟩
def qN(x:Int)(s:List (Int×Int)):List Int:=if fU s=true then s.map λf=>bF x f.1.toNat f.2.toNat else []
def ZW(x:Int)(f:List (Int×Int))(w:World)(e:Ending)(a:World):Prop:=(∃v,e=.returned v/\uO a v (qN x f))/\Below w.heap.size w a
set_option maxHeartbeats 1000000 in
def Yk(x:Int)(A:Option Addr)(m:Nat)(s:List (Int×Int))(X:s.length<=m)(Y:s.length<=1000)(w:World)(hR:dN wO 2 w w.heap.size A s):
  Calls Tryz.prog 96 #[.int .i64 x,.slice A s.length m] w (ZW x s w):=by
 obtain⟨i0,hi,K,L,N⟩:=info_parts Tryz.info3;go_enter Tryz.func96,Tryz.ntmps96
 go_wp2
 go_loopw [5,10] (fun v i wr=>∃k:Nat,k<=s.length/\i=.int .i64 k/\fU (s.take k)=true/\wr.ownsRow w.heap.size 3 1 v k (((s.take k).map fun f=>bF x f.1.toNat f.2.toNat).map (Value.int .i64))/\Below w.heap.size w wr)
  (λ_ i _=>s.length-(intOf i).toNat)
 case atStart=>exact⟨0,tE _,rfl,by simp[fU],sq _ _ _ _,Below.refl _ _⟩
 case round=>
  obtain⟨k,hk,rfl,l,c,B⟩:=hrel;have n:=B.size;by_cases q:k<s.length
  .obtain⟨b,am,rfl,ao,y,z⟩:=fieldAt (hR.below B) q
   have ar:b<wr.heap.size:=by omega
   by_cases E:gN s[k].1 s[k].2=true
   .have HO:=Lib.hid c
    have P:=Lib.hid l;have C:s.take (k+1)=s.take k++[s[k]]:=dg q;have H:=Lib.hid C;clear c l C;obtain⟨p,Z⟩:∃p,p=s[k]:=⟨_,rfl⟩;rw[<-Z]at y z E H;clear Z;have S:(wr.alloc (.cells #[.int .i64 p.1,.int .i64 p.2] 151)).cell? ⟨wr.heap.size,0,none⟩=some (.int .i64 p.1):=by simp
    have D:(wr.alloc (.cells #[.int .i64 p.1,.int .i64 p.2] 151)).cell? ⟨wr.heap.size,1,none⟩=some (.int .i64 p.2):=by simp
    have mK:Below w.heap.size w (wr.alloc (.cells #[.int .i64 p.1,.int .i64 p.2] 151)):=B.alloc n _;have W:wr.heap.size<(wr.alloc (.cells #[.int .i64 p.1,.int .i64 p.2] 151)).heap.size:=by simp
    have F:Below wr.heap.size wr (wr.alloc (.cells #[.int .i64 p.1,.int .i64 p.2] 151)):=(Below.refl _ _).alloc (aq _) _;go_wp2_with (go_at_call 132;refine(jR _ _ _).mono ?_;rintro e w1 ⟨rfl,a⟩;have T:=(a.cell (p:=⟨wr.heap.size,0,none⟩) W).trans S;have Q:=(a.cell (p:=⟨wr.heap.size,1,none⟩) W).trans D;have R:=ba W a.size)
    refine(afv _ _ _ _ E).mono ?_;rintro e w2 ⟨rfl,r⟩;have G:Below w.heap.size w w2:=(mK.trans (a.mono (eM n (gl W)))).trans (r.mono (by omega));have d:=own_below (own_below HO.out (F.trans (a.mono (gl W)))) r;have I:=G.size;have O:=Lib.hid d;clear a r S D mK W F T Q R y z d;go_wp2_with (at_builtin;refine oT _ rfl _ _ 35 rfl w.heap.size 3 i0 (.int .i64 0) 1 8 Tryz.underlying35 hi K L N rfl (by decide) _ _ _ rfl (O.out.alloc _) ⟨w2.heap.size,0,none⟩ 1 1 [.int .i64 (bF x p.1.toNat p.2.toNat)] rfl rfl ?c1 ?c2 ?c3 ?c4 ?c5 ?_)
    case c1=>exact cell_one_new _ _ _
    case c2=>simp[Value.oneCell']
    case c3=>unfold maxLen;omega
    case c4=>omega
    case c5=>simp;omega
    intro v' w3 o J _
    have u:Below w.heap.size w w3:=(G.alloc I _).grown J (by simp;omega) (λj e=>by
     rcases O.out.2 with⟨rfl,_⟩|⟨g,m,bi,rfl,hg,_⟩
     .simp[Value.ownBlock]at e
     .simp[Value.ownBlock]at e;omega)
    clear J;obtain⟨g',ac,rfl⟩:=ownsRow_succ o;have U:=Lib.hid o;clear o;go_wp2;go_roundw
    case rel=>
     refine⟨k+1,by omega,by go_num,?_,?_,u⟩
     .rw[H.out]
      have:=P.out;unfold fU at this ⊢;rw[rj,this];simp[E]
     .have:=U.out
      rw[H.out];simpa using this
    case measure=>simp[intOf];omega
   .have uX:gN s[k].1 s[k].2=false:=by simpa using E
    clear E;go_wp2_with (go_at_call 132;refine(jR _ _ _).mono ?_;rintro e w1 ⟨rfl,a⟩)
    go_ret;have hn:qN x s=[]:=by
     unfold qN;rw[ck];unfold fU;rw[bp];intro h;have:=h _ (eC q);rw[uX]at this;cases this
    exact⟨⟨_,rfl,by rw[hn];exact uO.nil _⟩,(B.alloc n _).trans (a.mono (by simp;omega))⟩
  .obtain rfl:k=s.length:=by omega
   rw[lP]at l c;have V:uO wr u5 (qN x s):=by
    unfold qN;rw[tz l];exact uO.agQ (by simpa using c)
   go_wp2;go_ret;exact⟨⟨_,rfl,V⟩,B⟩
end
section
open Go.RowKit Go.bn
def O9(a)(l):eF (a::l)=l.map (λg=>(a,g))++eF l:=by
 unfold eF;rw[ct,List.range_succ_eq_map,oY,List.flatMap_map];simp
theorem LP(P):∀l,(eF l).all P=true↔l.Pairwise fun f g=>P (f,g)=true
 |[]=>by simp[eF]
 |a::l=>by
  rw[O9,rj,bj,LP P l,nf,List.all_map,bp];simp
def JG(l):iX l=true↔(∀f∈l,gN f.1 f.2=true)/\l.Pairwise λf g=>xJ (f,g)=false:=by
 unfold iX;rw[bj,LP];unfold fU;rw[bp];simp
def Dj(w)(b e k)(h:b<=k)(d:k<b+e):A9 (bF w b e) (k-b)=A9 w k:=by
 have a:A9 w k=bF (w/2^b) (k-b) 1:=by
  unfold A9 bF;rw[<-nV,show b+(k-b)=k by omega];rfl
 have c:∀y:Int,A9 y (k-b)=bF y (k-b) 1:=λy=>rfl;rw[a,c,tL,tL (w/2^b)];unfold bF;rw[rn _ (Tn (by omega))]
def ZK(d j)(h:j<d):A9 (2^d-1) j=1:=by
 rw[<-Ze 0 d];have:=Dj (-1) 0 d j (by omega) (by omega);rw[Nat.sub_zero]at this;rw[this];unfold A9;have a:(-1:Int)/2^j= -1:=by
  have:=aU j;rw[Int.ediv_eq_iff_of_pos this];omega
 rw[a];rfl
def ZJ(j):A9 0 j=0:=by unfold A9;simp
def abh(a d):((2:Int)^d-1)*2^a=lC 0 a d (2^d-1):=by
 have h:=aU d;have:((2:Int)^d-1)%2^d=2^d-1:=tM (by omega) (by omega);unfold lC;rw[this];simp[bF]
def Pn{x:Int}{a}(h:x*2^a=0):x=0:=by
 have:=aU a;rcases Int.mul_eq_zero.1 h with h|h
 .exact h
 .omega
def abg{f g}(a:gN f.1 f.2=true)(b:gN g.1 g.2=true):xJ (f,g)=false↔(f.1.toNat+f.2.toNat<=g.1.toNat\/g.1.toNat+g.2.toNat<=f.1.toNat):=by
 have n:=nK.1 a;have o:=nK.1 b;have d:((2:Int)^f.2.toNat-1)%2^f.2.toNat=2^f.2.toNat-1:=by
  have p:=aU f.2.toNat;exact tM (by omega) (by omega)
 unfold xJ Vw;show(bits .and .i64 ((2^f.2.toNat-1)*2^f.1.toNat) ((2^g.2.toNat-1)*2^g.1.toNat) != 0)=false↔_;rw[bne_eq_false_iff_eq,o7 _ _ _ (by omega),abh f.1.toNat];constructor
 .intro h
  have c:=Pn h;rcases cn (max f.1.toNat g.1.toNat) (min (f.1.toNat+f.2.toNat) (g.1.toNat+g.2.toNat))with i|i
  .exfalso
   obtain⟨k,l⟩:∃k,k=max f.1.toNat g.1.toNat:=⟨_,rfl⟩;have e:=Dj (lC 0 f.1.toNat f.2.toNat (2^f.2.toNat-1)) g.1.toNat g.2.toNat k (by omega) (by omega);have m:=Dj (lC 0 f.1.toNat f.2.toNat (2^f.2.toNat-1)) f.1.toNat f.2.toNat k (by omega) (by omega);rw[c,ZJ]at e;rw[get_put,d,ZK _ _ (by omega), <-e]at m;omega
  .omega
 .intro h
  rw[yE _ _ _ _ _ _ (by omega)];simp[bF]
def Ad(o):DV o=.tuple #[.int .i64 (o.getD 0),.bool o.isSome]:=by cases o<;>rfl
def Q7(f g:Int×Int):Prop:=f.1.toNat+f.2.toNat<=g.1.toNat\/g.1.toNat+g.2.toNat<=f.1.toNat
abbrev gz(w:Int)(f:Int×Int):Int:=bF w f.1.toNat f.2.toNat
abbrev pz(w:Int)(f:Int×Int)(v:Int):Int:=lC w f.1.toNat f.2.toNat v
def Vi{l}{w z}(h:dO w l=some z){g}(a:∀p∈l,Q7 p.1 g):gz z g=gz w g:=by
 induction l generalizing w with
 |nil=>simp[dO]at h;rw[h]
 |cons p r i=>
  obtain⟨f,v⟩:=p;simp only[dO]at h;split at h
  .cases h
  .rw[i h (fun q b=>a q (by simp[b]))]
   exact yE _ _ _ _ _ _ (a (f,v) (by simp))
def Vh{l}{w z}(h:dO w l=some z)(b:l.Pairwise λp q=>Q7 p.1 q.1):∀p∈l,gz z p.1=p.2:=by
 induction l generalizing w with
 |nil=>simp
 |cons p r i=>
  obtain⟨f,v⟩:=p;rw[nf]at b;simp only[dO]at h;split at h
  .cases h
  .rename_i c
   intro q a;rcases db.1 a with rfl|a
   .rw[Vi h (fun q a=>(b.1 q a).symm)]
    show gz (pz w f v) f=v;unfold gz pz;rw[get_put];exact tM (by omega) (by omega)
   .exact i h b.2 q a
def Ry{w}(h:0<=w)(a d)(v):0<=lC w a d v:=by
 rw[yX];have c:=Cx (a:=a) (iH v d).1 (iH v d).2 (iH w a).1 (iH w a).2;have b:0<=w/2^(a+d):=Int.ediv_nonneg h (by have:=aU (a+d);omega);have e:=mL b (Int.le_of_lt (aU (a+d)));omega
def Ym{l}{w z}(h:dO w l=some z)(a:∀p∈l,p.1.1.toNat+p.1.2.toNat<=62)(b:0<=w)(k:w<4611686018427387904):0<=z/\z<4611686018427387904:=by
 induction l generalizing w with
 |nil=>simp[dO]at h;omega
 |cons p r i=>
  obtain⟨f,v⟩:=p;simp only[dO]at h;split at h
  .cases h
  .have n:=Ry b f.1.toNat f.2.toNat v
   have d:=O1 w f.1.toNat f.2.toNat v 62 (a (f,v) (by simp));have e:(2:Int)^62=4611686018427387904:=rfl;rw[e]at d;exact i h (λq c=>a q (by simp[c])) n (by omega)
def RH{l}(w)(h:∀p∈l,0<=p.2/\p.2<2^p.1.2.toNat):∃z,dO w l=some z:=by
 induction l generalizing w with
 |nil=>exact⟨w,rfl⟩
 |cons p r i=>
  obtain⟨f,v⟩:=p;have:=h (f,v) (by simp);simp only[dO];rw[ck (by simp only at this;omega)];exact i _ λq a=>h q (by simp[a])
def MJ{s}(h:iX s=true):s.Pairwise Q7:=by
 obtain⟨a,b⟩:=(JG s).1 h;refine b.imp_of_mem λ{f g} c d m=> ?_;exact(abg (a f c) (a g d)).1 m
def Sw{a:List (Int×Int)}{b:List Int}(h:a.Pairwise Q7):(a.zip b).Pairwise λp q=>Q7 p.1 q.1:=by
 have:=(h.sublist (List.Sublist.refl a));induction a generalizing b with
 |nil=>simp
 |cons f r i=>
  cases b with
  |nil=>simp
  |cons v s=>
   rw[List.zip_cons_cons,nf];rw[nf]at h;refine⟨λq c=>h.1 _ (List.of_mem_zip c).1,i h.2 h.2⟩
def Hu{f}{v}{z}(h:kC f v=some z):v.length=f.length/\iX f=true/\dO 0 (f.zip v)=some z:=by
 unfold kC at h;split at h
 .rename_i c;exact⟨c.1,c.2,h⟩
 .cases h
def Sv{f}(h:iX f=true):fU f=true:=by
 unfold iX at h;rw[bj]at h;exact h.1
def Vf{f}{v}{z}(h:kC f v=some z):qN z f=v:=by
 obtain⟨l,c,b⟩:=Hu h;unfold qN;rw[tz (Sv c)];have a:=Vh b (Sw (MJ c));apply List.ext_getElem
 .simp[l]
 .intro i e k
  rw[List.getElem_map];have d:i<(f.zip v).length:=by simp;omega
  have:=a _ (eC d);rw[List.getElem_zip]at this;exact this
def aaR{s}(h:iX s=true):∀f∈s,f.1.toNat+f.2.toNat<=62:=by
 intro f a;have:=nK.1 (((JG s).1 h).1 f a);omega
def aeJ{f}{v}{z}(h:kC f v=some z):0<=z/\z<4611686018427387904:=by
 obtain⟨l,b,a⟩:=Hu h;exact Ym a (λp c=>aaR b _ (List.of_mem_zip c).1) (by omega) (by omega)
def zR:List ((Int×Int)×Int)->Int
 |[]=>0
 |(f,v)::r=>v*2^f.1.toNat+zR r
def Vg{l}{w z}(h:dO w l=some z)(a:l.Pairwise λp q=>Q7 p.1 q.1)(c:∀p∈l,gz w p.1=0):z=w+zR l:=by
 induction l generalizing w with
 |nil=>simp[dO]at h;simp[zR,h]
 |cons p r i=>
  obtain⟨f,v⟩:=p;rw[nf]at a;simp only[dO]at h;split at h
  .cases h
  .rename_i n
   have b:=c (f,v) (by simp);have k:∀q∈r,gz (pz w f v) q.1=0:=λq d=>by
    rw[show gz (pz w f v) q.1=gz w q.1 from yE _ _ _ _ _ _ (a.1 q d)];exact c q (by simp[d])
   have m:v%2^f.2.toNat=v:=tM (by omega) (by omega);have e:pz w f v=w+v*2^f.1.toNat:=by
    unfold pz lC;rw[m];have:bF w f.1.toNat f.2.toNat=0:=b;rw[this];omega
   have:=i h a.2 k;rw[this];show pz w f v+zR r=w+(v*2^f.1.toNat+zR r);rw[e];omega
def afr(f):gz 0 f=0:=by simp[gz,bF]
def okV(p:(Int×Int)×Int):Bool:=decide (0<=p.2/\p.2<=2^p.1.2.toNat-1)
def Nh{l}(b:l.Pairwise λp q=>Q7 p.1 q.1):dO 0 l=if l.all okV then some (zR l)else none:=by
 by_cases h:l.all okV=true
 .rw[tz h]
  rw[bp]at h;obtain⟨z,a⟩:=RH 0 (l:=l) λp b=>by have:=h p b;unfold okV at this;simp at this;omega
  have:=Vg a b λp _=>afr _;rw[a,this];simp
 .rw[ck h]
  cases a:dO 0 l with
  |none=>rfl
  |some z=>
   exfalso;apply h;clear b h;generalize (0:Int)=w at a;induction l generalizing w with
   |nil=>rfl
   |cons p r i=>
    obtain⟨f,v⟩:=p;simp only[dO]at a;split at a
    .cases a
    .rename_i c
     rw[List.all_cons,i _ a];simp[okV];omega
def aL{w:World}{b i}{v}(h:w.cell? ⟨b,i,none⟩=some v)(o):(w.alloc o).cell? ⟨b,i,none⟩=some v:=
 (pZ w o ⟨b,i,none⟩ (Ei h)).trans h
def ag(w:World)(g:Nat)(t:TypeId)(c:Array Value):Prop:=w.heap[g]?=some (.cells c t (0,0))
section
variable{w a:World} {g:Nat} {t:TypeId} {b:Array Value}
def ag.lt(h:ag w g t b):g<w.heap.size:=(bk.1 h).1
def ag.cell(h:ag w g t b)(i):w.cell? ⟨g,i,none⟩=b[i]?:=by simp[World.cell?,show w.heap[g]?=_ from h]
def ag.frozen(h:ag w g t b)(i):w.frozen? ⟨g,i,none⟩=false:=by
 unfold ag at h;simp[World.frozen?,h]
theorem ag.new(w:World)(t)(b):ag (w.alloc (.cells b t)) w.heap.size t b:=mC w _
def ag.zV(h:ag w g t b)(i)(u):ag (w.setCell ⟨g,i,none⟩ u) g t (b.setIfInBounds i u):=by
 unfold ag at h ⊢;simp[World.setCell,pT,h]
def ag.below{B}(h:ag w g t b)(c:Below B w a)(d:g<B):ag a g t b:=(c.block g d).trans h
end
theorem flat_get{α:Type}(e:α->List Value)(size)(s:∀x,(e x).length=size):∀(b:List α) (k j) (x) (u),b[k]?=some x->(e x)[j]?=some u->(b.flatMap e)[k*size+j]?=some u
 |[],k,j,x,u,h,_=>by simp at h
 |y::r,0,j,x,u,h,a=>by
  simp at h;subst h;have c:j<(e y).length:=(aE.1 a).1;rw[oY,Nat.zero_mul,cg,cD c];exact a
 |y::r,k+1,j,x,u,h,a=>by
  simp at h;have:=flat_get e size s r k j x u h a;rw[oY,cx (by rw[s,kj];omega),s];rw[show(k+1)*size+j-size=k*size+j by rw[kj];omega];exact this
end
section
open Go.RowKit Go.bn
attribute [local go_sem ↓] Go.wp_at_zero Go.wp_at_succ
def aa.zero:aa:=⟨0,0,0,false,false,0,0,0,0⟩
def tO(s:aa):aa:=
 {s with
  str:=if s.st=3 then s.str else 0
  fO:=if s.st=2 then s.fO else false
  brk:=if s.st=2\/s.st=3\/s.st=4 then s.brk else false
  uses:=if s.st=2\/s.st=3\/s.st=4 then s.uses else 0
  ep:=if s.st=6 then s.ep else 0
  own:=if s.st=0\/s.st=6 then 0 else s.own}
def wP(b:Bool):Int:=if b then 1 else 0
def fC:List (Int×Int):=[(0,3),(3,4),(7,8),(15,1),(16,1),(17,6),(23,12),(35,12),(47,15)]
def numsL(s:aa):List Int:=[s.st,s.own,s.str,wP s.brk,wP s.fO,s.uses,s.gen,s.ep,s.cz]
def encS(s:aa):Option Int:=if 6<s.st\/s≠tO s then none else kC fC (numsL s)
def afP(b:Bool)(w:World):Calls Tryz.prog 101 #[.bool b] w λe a=>e=.returned (.int .i64 (wP b))/\w=a:=by
 cases b
 all_goals
  go_enter Tryz.func101,Tryz.ntmps101
  go_wp2;go_ret;exact⟨rfl,rfl⟩
def QT(a b c:Int)(d e:Bool)(f g h i:Int)(w:World):
  Calls Tryz.prog 99 #[.agg #[.int .i64 a,.int .i64 b,.int .i64 c,.bool d,.bool e,.int .i64 f,.int .i64 g,.int .i64 h,.int .i64 i]] w λq r=>q=.returned (tO ⟨a,b,c,d,e,f,g,h,i⟩).val/\Below w.heap.size w r:=by
 have k:a=0\/a=2\/a=3\/a=4\/a=6\/(a≠0/\a≠2/\a≠3/\a≠4/\a≠6):=by omega
 rcases k with rfl|rfl|rfl|rfl|rfl|⟨m,n,o,p,l⟩
 case inr.inr.inr.inr.inr=>
  have x:(a==0)=false:=by simp[m]
  have y:(a==6)=false:=by simp[l]
  have z:(a != 2)=true:=by simp[n]
  have A:(a != 3)=true:=by simp[o]
  have B:(a != 4)=true:=by simp[p]
  have u:(a != 6)=true:=by simp[l]
  have s:(tO ⟨a,b,c,d,e,f,g,h,i⟩).val=.agg #[.int .i64 a,.int .i64 b,.int .i64 0,.bool false,.bool false,.int .i64 0,.int .i64 g,.int .i64 0,.int .i64 i]:=by
   simp[tO,aa.val,m,n,o,p,l]
  have H:=Lib.hid s;clear m n o p l s;go_enter Tryz.func99,Tryz.ntmps99
  go_wp2;rw[H.out];refine cC (v:=.agg #[.int .i64 a,.int .i64 b,.int .i64 0,.bool false,.bool false,.int .i64 0,.int .i64 g,.int .i64 0,.int .i64 i]) (by simp[results,Tryz.f99,go_sem]) rfl ⟨rfl,?_⟩
  repeat (first|exact Below.refl _ _|refine Below.setCell ?_ (by simp) _|refine Below.alloc ?_ (by simp<;>omega) _)
 all_goals
  go_enter Tryz.func99,Tryz.ntmps99
  go_wp2;refine cC (v:=(tO ⟨_,b,c,d,e,f,g,h,i⟩).val) (by simp[results,Tryz.f99,go_sem,tO,aa.val]) rfl ⟨rfl,?_⟩
  repeat (first|exact Below.refl _ _|refine Below.setCell ?_ (by simp) _|refine Below.alloc ?_ (by simp<;>omega) _)
end
section
open Go.RowKit Go.bn
def fr(n m:Int):Bool:=decide (0<=n)&&decide (n<=m)
def kH(s:aa):Bool:=s.st==2||s.st==3||s.st==4
def di(s:aa):Bool:=
 (fr s.st 6&&fr s.own 15&&fr s.str 255&&fr s.uses 63&&fr s.gen 4095&&fr s.ep 4095&&fr s.cz 32767)&&
 !(decide (0<s.str)&&s.st != 3||s.brk&& !kH s||decide (0<s.uses)&& !kH s||s.fO&&s.st != 2)&&
 ((s.ep==0||s.st==6)&&(s.own==0||decide (0<s.st)&&decide (s.st<6)))
def UG(s:aa):Int:=s.st+8*s.own+128*s.str+131072*s.uses+8388608*s.gen+34359738368*s.ep+140737488355328*s.cz
def uS(s:aa):Int:=UG s+(if s.brk then 32768 else 0)+(if s.fO then 65536 else 0)
def encR(s:aa):Option Int:=if di s then some (uS s)else none
def zY(w:Int):aa:=⟨bF w 0 3,bF w 3 4,bF w 7 8,bF w 15 1==1,bF w 16 1==1,bF w 17 6,bF w 23 12,bF w 35 12,bF w 47 15⟩
def jf(w:Int):Option aa:=if encS (zY w)=some w then some (zY w)else none
def gP(o:Option aa):Value:=.tuple #[(o.getD aa.zero).val,.bool o.isSome]
def su(w:Int):aa:=⟨w%8,w/8%16,w/128%256,w/32768%2==1,w/65536%2==1,w/131072%64,w/8388608%4096,w/34359738368%4096,w/140737488355328⟩
def Qy(w:Int):Option aa:=if w<0 then none else if di (su w)then some (su w)else none
def Db:iX fC=true:=by decide +kernel
def Tq(f:Int×Int)(v:Int):(okV (f,v)=true)=(0<=v/\v<=2^f.2.toNat-1):=by unfold okV;exact tG
def X5(s:aa):di s=true↔¬(6<s.st\/s≠tO s)/\(fC.zip (numsL s)).all okV=true:=by
 obtain⟨a,b,c,d,e,f,g,h,i⟩:=s;have k:a=0\/a=1\/a=2\/a=3\/a=4\/a=5\/a=6\/a<0\/6<a:=by omega
 rcases k with rfl|rfl|rfl|rfl|rfl|rfl|rfl|m|l
 case inr.inr.inr.inr.inr.inr.inr.inl=>
  constructor
  .intro r;simp[di,fr]at r;omega
  .rintro⟨_,r⟩;simp[Tq,fC,numsL]at r;omega
 case inr.inr.inr.inr.inr.inr.inr.inr=>
  constructor
  .intro r;simp[di,fr]at r;omega
  .rintro⟨r,_⟩;exact tA (Or.inl l) r
 all_goals
  cases d<;>cases e<;>simp[di,fr,kH,tO,Tq,fC,numsL,wP]<;>omega
def sM(s:aa):encS s=encR s:=by
 have p:kC fC (numsL s)=if(fC.zip (numsL s)).all okV then some (zR (fC.zip (numsL s)))else none:=by
  unfold kC;rw[tz ⟨rfl,Db⟩,Nh (Sw (MJ Db))]
 have m:zR (fC.zip (numsL s))=uS s:=by
  obtain⟨a,b,c,d,e,f,g,h,i⟩:=s;cases d<;>cases e<;>simp[fC,numsL,zR,uS,UG,wP]<;>omega
 unfold encS encR;rw[p,m];have:=X5 s;by_cases k:(6<s.st\/s≠tO s)
 .rw[tz k]
  have:di s=false:=by
   rw[sx];intro h;exact(this.1 h).1 k
  rw[this];rfl
 .rw[ck k]
  by_cases l:(fC.zip (numsL s)).all okV=true
  .rw[tz l,tz (this.2 ⟨k,l⟩)]
  .rw[ck l,ck (λh=>l (this.1 h).2)]
def agw(x:Int)(h:0<=x)(a:x<=9223372036854775807):zY x={su x with cz:=x/140737488355328%32768}:=by
 unfold zY su;simp[bF]
def Ee(s:aa)(x:Int)(h:encS s=some x):zY x=s/\0<=x/\x<4611686018427387904:=by
 have y:di s=true:=by
  rw[sM]at h;unfold encR at h;split at h
  .assumption
  .cases h
 have k:kC fC (numsL s)=some x:=by
  unfold encS at h;split at h
  .cases h
  .exact h
 have p:=Vf k;refine⟨?_,aeJ k⟩;have e:qN x fC=[bF x 0 3,bF x 3 4,bF x 7 8,bF x 15 1,bF x 16 1,bF x 17 6,bF x 23 12,bF x 35 12,bF x 47 15]:=rfl;rw[e]at p;obtain⟨a,b,c,d,e,f,g,h,i⟩:=s;simp[numsL]at p;obtain⟨l,m,n,o,q,r,u,v,w⟩:=p;unfold zY;rw[l,m,n,o,q,r,u,v,w];cases d<;>cases e<;>rfl
def ZI(n:Int)(k:Int):(if(n%2==1)=true then k else 0)=k*(n%2):=by
 rcases(show n%2=0\/n%2=1 by omega)with h|h<;>simp[h]
def aei(x:Int)(h:0<=x):uS (su x)=x:=by
 have e:uS (su x)=x%8+8*(x/8%16)+128*(x/128%256)+131072*(x/131072%64)+8388608*(x/8388608%4096)+34359738368*(x/34359738368%4096)+140737488355328*(x/140737488355328)+(if(x/32768%2==1)=true then 32768 else 0)+(if(x/65536%2==1)=true then 65536 else 0):=rfl;rw[e,ZI,ZI];omega
def ahU(x:Int)(c:x<=9223372036854775807):jf x=Qy x:=by
 by_cases b:x<0
 .unfold Qy jf
  rw[tz b,ck];intro h;have:=(Ee _ _ h).2;omega
 .have a:0<=x:=by omega
  by_cases d:x<4611686018427387904
  .have r:zY x=su x:=by
    rw[agw x a c];have:x/140737488355328%32768=x/140737488355328:=by omega
    rw[this];rfl
   unfold Qy jf;rw[ck b,r,sM];unfold encR;rw[aei x a];by_cases h:di (su x)=true
   .rw[tz h,tz rfl,tz h]
   .rw[ck h,ck (by simp),ck h]
  .have n:di (su x)=false:=by
    have:fr (su x).cz 32767=false:=by
     have v:(su x).cz=x/140737488355328:=rfl;rw[v];unfold fr;rw[cT (p:=x/140737488355328<=32767) (by omega)];simp
    unfold di;rw[this];simp
   unfold Qy jf;rw[ck b,n,ck]
   .rfl
   .intro h
    have:=(Ee _ _ h).2;omega
def seq(s t:aa):Bool:=decide (s=t)
theorem GY(a b c:Int)(d e:Bool)(f g h i k l m:Int)(n o:Bool)(p q r s:Int)(w:World):
  (Op.equalIn 10000 44 (.agg #[.int .i64 a,.int .i64 b,.int .i64 c,.bool d,.bool e,.int .i64 f,.int .i64 g,.int .i64 h,.int .i64 i]) (.agg #[.int .i64 k,.int .i64 l,.int .i64 m,.bool n,.bool o,.int .i64 p,.int .i64 q,.int .i64 r,.int .i64 s])).run Tryz.prog w=.ok (seq ⟨a,b,c,d,e,f,g,h,i⟩ ⟨k,l,m,n,o,p,q,r,s⟩) w:=by
 have u:seq ⟨a,b,c,d,e,f,g,h,i⟩ ⟨k,l,m,n,o,p,q,r,s⟩=(a==k&&b==l&&c==m&&d==n&&e==o&&f==p&&g==q&&h==r&&i==s):=by
  unfold seq;rw[Bool.eq_iff_iff];simp[and_assoc]
 rw[u];go_simp
 by_cases v:a=k<;>simp[v];by_cases x:b=l<;>simp[x];by_cases y:c=m<;>simp[y];by_cases z:d=n<;>simp[z];by_cases A:e=o<;>simp[A];by_cases B:f=p<;>simp[B];by_cases C:g=q<;>simp[C];by_cases D:h=r<;>simp[D];by_cases E:i=s<;>simp[E]
