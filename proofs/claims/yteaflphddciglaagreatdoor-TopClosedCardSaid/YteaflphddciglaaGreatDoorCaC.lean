/- Laws of the proof, joined. No condition of its own. -/
import Derived.Test.YteaflphddciglaaGreatDoorCaB
set_option linter.all false
def aE:=@List.getElem?_eq_some_iff
def cx:=@List.getElem?_append_right
def cD:=@List.getElem?_append_left
def cR:=@List.eq_nil_of_length_eq_zero
def db:=@List.mem_cons
def dj:=@decide_eq_true_eq
def fy:=@List.getElem?_take_of_lt
def nf:=@List.pairwise_cons
def oT:=@Go.wpList_append_own
def oY:=@List.flatMap_cons
def pT:=@Array.getElem?_modify
def sq:=@Go.World.ownsRow_nil
def sx:=@Bool.eq_false_iff
namespace Go.Proofs.YteaflphddciglaaGreatDoor
section
open Go.RowKit Go.bn
attribute [local go_sem ↓] Go.wp_at_zero Go.wp_at_succ
theorem Tryz.info3:(Tryz.prog.info? 3).map (λi=>(i.zero,i.size,i.bytes))=some (some (.int .i64 0),1,8):=by kernel_rfl
def uO(w:World)(v:Value)(xs:List Int):Prop:=∃A cap,v=.slice A xs.length cap/\xs.length<=cap/\dN encI 1 w w.heap.size A xs
theorem uO.agQ{w:World}{base:Nat}{v:Value}{xs:List Int}(h:w.ownsRow base 3 1 v xs.length (xs.map (Value.int .i64))):uO w v xs:=by
 rcases h.2 with⟨rfl,h0⟩|⟨g,cap,cur,rfl,hg,hh,hc,_,hsz,htake⟩
 .obtain rfl:xs=[]:=cR h0
  exact⟨none,0,rfl,aq _,λh=>absurd rfl h⟩
 .refine⟨_,cap,rfl,hc,fun _=>⟨g,0,rfl,(bk.1 hh).1,fun k x hx j u hu=> ?_⟩⟩
  have hk:k<xs.length:=(aE.1 hx).1;have hj:j=0/\u=.int .i64 x:=by
   cases j with
   |zero=>simp[encI]at hu;exact⟨rfl,hu.symm⟩
   |succ j=>simp[encI]at hu
  obtain⟨rfl,rfl⟩:=hj;have h1:(xs.map (Value.int .i64))[k]?=some (.int .i64 x):=by simp[hx]
  rw[<-htake,fy (by omega)]at h1;simp only[World.cell?,hh];simp;rw[<-h1];simp
theorem uO.nil(w:World):uO w (.slice none 0 0) []:=⟨none,0,rfl,aq _,λh=>absurd rfl h⟩
theorem own_below{w w':World}{base:Nat}{e:TypeId}{size:Nat}{v:Value}{n:Nat}{xs:List Value}(h:w.ownsRow base e size v n xs)(hb:Below w.heap.size w w'):w'.ownsRow base e size v n xs:=by
 refine⟨h.1,?_⟩;rcases h.2 with h2|⟨g,cap,cur,hv,hg,hh,r⟩
 .exact .inl h2
 .exact .inr ⟨g,cap,cur,hv,hg,by rw[hb.block g (bk.1 hh).1];exact hh,r⟩
def qN(x:Int)(fs:List (Int×Int)):List Int:=if fU fs=true then fs.map λf=>bF x f.1.toNat f.2.toNat else []
def ZW(x:Int)(fs:List (Int×Int))(w:World)(e:Ending)(w':World):Prop:=(∃v,e=.returned v/\uO w' v (qN x fs))/\Below w.heap.size w w'
set_option maxHeartbeats 1000000 in
theorem Yk(x:Int)(A:Option Addr)(cap:Nat)(fs:List (Int×Int))(hcap:fs.length<=cap)(hlen:fs.length<=1000)(w:World)(hR:dN wO 2 w w.heap.size A fs):
  Calls Tryz.prog 96 #[.int .i64 x,.slice A fs.length cap] w (ZW x fs w):=by
 obtain⟨i0,hi,hz0,hz1,hz2⟩:=info_parts Tryz.info3;go_enter Tryz.func96,Tryz.ntmps96
 go_wp2
 go_loopw [5,10] (fun v i wr=>∃k:Nat,k<=fs.length/\i=.int .i64 k/\fU (fs.take k)=true/\wr.ownsRow w.heap.size 3 1 v k (((fs.take k).map fun f=>bF x f.1.toNat f.2.toNat).map (Value.int .i64))/\Below w.heap.size w wr)
  (λ_ i _=>fs.length-(intOf i).toNat)
 case atStart=>exact⟨0,cL _,rfl,by simp[fU],sq _ _ _ _,Below.refl _ _⟩
 case round=>
  obtain⟨k,hk,rfl,har,hown,hB⟩:=hrel;have hsz:=hB.size;by_cases hlt:k<fs.length
  .obtain⟨b,off,rfl,hbl,hc0,hc1⟩:=fieldAt (hR.below hB) hlt
   have hbw:b<wr.heap.size:=by omega
   by_cases uE:gN fs[k].1 fs[k].2=true
   .have HO:=Lib.hid hown
    have HAR:=Lib.hid har;have hnx:fs.take (k+1)=fs.take k++[fs[k]]:=dg hlt;have HNX:=Lib.hid hnx;clear hown har hnx;obtain⟨p,hp⟩:∃p,p=fs[k]:=⟨_,rfl⟩;rw[<-hp]at hc0 hc1 uE HNX;clear hp;have hS0:(wr.alloc (.cells #[.int .i64 p.1,.int .i64 p.2] 151)).cell? ⟨wr.heap.size,0,none⟩=some (.int .i64 p.1):=by simp
    have hS1:(wr.alloc (.cells #[.int .i64 p.1,.int .i64 p.2] 151)).cell? ⟨wr.heap.size,1,none⟩=some (.int .i64 p.2):=by simp
    have mK:Below w.heap.size w (wr.alloc (.cells #[.int .i64 p.1,.int .i64 p.2] 151)):=hB.alloc hsz _;have oW:wr.heap.size<(wr.alloc (.cells #[.int .i64 p.1,.int .i64 p.2] 151)).heap.size:=by simp
    have hS5:Below wr.heap.size wr (wr.alloc (.cells #[.int .i64 p.1,.int .i64 p.2] 151)):=(Below.refl _ _).alloc (aq _) _;go_wp2_with (go_at_call 132;refine(jR _ _ _).mono ?_;rintro e w1 ⟨rfl,hb1⟩;have hT0:=(hb1.cell (p:=⟨wr.heap.size,0,none⟩) oW).trans hS0;have hT1:=(hb1.cell (p:=⟨wr.heap.size,1,none⟩) oW).trans hS1;have hT4:=ba oW hb1.size)
    refine(afv _ _ _ _ uE).mono ?_;rintro e w2 ⟨rfl,hb2⟩;have hB2:Below w.heap.size w w2:=(mK.trans (hb1.mono (eM hsz (gl oW)))).trans (hb2.mono (by omega));have hown2:=own_below (own_below HO.out (hS5.trans (hb1.mono (gl oW)))) hb2;have hsz2:=hB2.size;have HO2:=Lib.hid hown2;clear hb1 hb2 hS0 hS1 mK oW hS5 hT0 hT1 hT4 hc0 hc1 hown2;go_wp2_with (at_builtin;refine oT _ rfl _ _ 35 rfl w.heap.size 3 i0 (.int .i64 0) 1 8 Tryz.underlying35 hi hz0 hz1 hz2 rfl (by decide) _ _ _ rfl (HO2.out.alloc _) ⟨w2.heap.size,0,none⟩ 1 1 [.int .i64 (bF x p.1.toNat p.2.toNat)] rfl rfl ?c1 ?c2 ?c3 ?c4 ?c5 ?_)
    case c1=>exact cell_one_new _ _ _
    case c2=>simp[Value.oneCell']
    case c3=>unfold maxLen;omega
    case c4=>omega
    case c5=>simp;omega
    intro v' w3 hown3 hgr _;have hgrow:Below w.heap.size w w3:=(hB2.alloc hsz2 _).grown hgr (by simp;omega) (λj e=>by
     rcases HO2.out.2 with⟨rfl,_⟩|⟨g,cap,cur,rfl,hg,_⟩
     .simp[Value.ownBlock]at e
     .simp[Value.ownBlock]at e;omega)
    clear hgr;obtain⟨g',cap',rfl⟩:=ownsRow_succ hown3;have HO3:=Lib.hid hown3;clear hown3;go_wp2;go_roundw
    case rel=>
     refine⟨k+1,by omega,by go_num,?_,?_,hgrow⟩
     .rw[HNX.out]
      have:=HAR.out;unfold fU at this ⊢;rw[rj,this];simp[uE]
     .have:=HO3.out
      rw[HNX.out];simpa using this
    case measure=>simp[intOf];omega
   .have uX:gN fs[k].1 fs[k].2=false:=by simpa using uE
    clear uE;go_wp2_with (go_at_call 132;refine(jR _ _ _).mono ?_;rintro e w1 ⟨rfl,hb1⟩)
    go_ret;have hn:qN x fs=[]:=by
     unfold qN;rw[if_neg];unfold fU;rw[bp];intro h;have:=h _ (eC hlt);rw[uX]at this;cases this
    exact⟨⟨_,rfl,by rw[hn];exact uO.nil _⟩,(hB.alloc hsz _).trans (hb1.mono (by simp;omega))⟩
  .obtain rfl:k=fs.length:=by omega
   rw[lP]at har hown;have hsl:uO wr u5 (qN x fs):=by
    unfold qN;rw[if_pos har];exact uO.agQ (by simpa using hown)
   go_wp2;go_ret;exact⟨⟨_,rfl,hsl⟩,hB⟩
end
section
open Go.RowKit Go.bn
theorem O9(a)(l):eF (a::l)=l.map (λg=>(a,g))++eF l:=by
 unfold eF;rw[ct,List.range_succ_eq_map,oY,List.flatMap_map];simp
theorem LP(P):∀l,(eF l).all P=true↔l.Pairwise fun f g=>P (f,g)=true
 |[]=>by simp[eF]
 |a::l=>by
  rw[O9,rj,bj,LP P l,nf,List.all_map,bp];simp
theorem JG(l):iX l=true↔(∀f∈l,gN f.1 f.2=true)/\l.Pairwise λf g=>xJ (f,g)=false:=by
 unfold iX;rw[bj,LP];unfold fU;rw[bp];simp
theorem Dj(w)(b e k)(h1:b<=k)(h2:k<b+e):A9 (bF w b e) (k-b)=A9 w k:=by
 have e1:A9 w k=bF (w/2^b) (k-b) 1:=by
  unfold A9 bF;rw[<-nV,show b+(k-b)=k by omega];rfl
 have e2:∀y:Int,A9 y (k-b)=bF y (k-b) 1:=λy=>rfl;rw[e1,e2,tL,tL (w/2^b)];unfold bF;rw[rn _ (Tn (by omega))]
theorem ZK(d j)(h:j<d):A9 (2^d-1) j=1:=by
 rw[<-Ze 0 d];have:=Dj (-1) 0 d j (by omega) (by omega);rw[Nat.sub_zero]at this;rw[this];unfold A9;have h1:(-1:Int)/2^j= -1:=by
  have:=aU j;rw[Int.ediv_eq_iff_of_pos this];omega
 rw[h1];rfl
theorem ZJ(j):A9 0 j=0:=by unfold A9;simp
theorem abh(a d):((2:Int)^d-1)*2^a=lC 0 a d (2^d-1):=by
 have hp:=aU d;have:((2:Int)^d-1)%2^d=2^d-1:=jF (by omega) (by omega);unfold lC;rw[this];simp[bF]
theorem Pn{x:Int}{a}(h:x*2^a=0):x=0:=by
 have:=aU a;rcases Int.mul_eq_zero.1 h with h|h
 .exact h
 .omega
theorem abg{f g}(hf:gN f.1 f.2=true)(hg:gN g.1 g.2=true):xJ (f,g)=false↔(f.1.toNat+f.2.toNat<=g.1.toNat\/g.1.toNat+g.2.toNat<=f.1.toNat):=by
 have h1:=nK.1 hf;have h2:=nK.1 hg;have hd:((2:Int)^f.2.toNat-1)%2^f.2.toNat=2^f.2.toNat-1:=by
  have hp:=aU f.2.toNat;exact jF (by omega) (by omega)
 unfold xJ Vw;show(bits .and .i64 ((2^f.2.toNat-1)*2^f.1.toNat) ((2^g.2.toNat-1)*2^g.1.toNat) != 0)=false↔_;rw[bne_eq_false_iff_eq,o7 _ _ _ (by omega),abh f.1.toNat];constructor
 .intro h0
  have h3:=Pn h0;rcases cn (max f.1.toNat g.1.toNat) (min (f.1.toNat+f.2.toNat) (g.1.toNat+g.2.toNat))with hk|hk
  .exfalso
   obtain⟨k,hk'⟩:∃k,k=max f.1.toNat g.1.toNat:=⟨_,rfl⟩;have e1:=Dj (lC 0 f.1.toNat f.2.toNat (2^f.2.toNat-1)) g.1.toNat g.2.toNat k (by omega) (by omega);have e2:=Dj (lC 0 f.1.toNat f.2.toNat (2^f.2.toNat-1)) f.1.toNat f.2.toNat k (by omega) (by omega);rw[h3,ZJ]at e1;rw[get_put,hd,ZK _ _ (by omega), <-e1]at e2;omega
  .omega
 .intro h0
  rw[yE _ _ _ _ _ _ (by omega)];simp[bF]
theorem Ad(o):DV o=.tuple #[.int .i64 (o.getD 0),.bool o.isSome]:=by cases o<;>rfl
def Q7(f g:Int×Int):Prop:=f.1.toNat+f.2.toNat<=g.1.toNat\/g.1.toNat+g.2.toNat<=f.1.toNat
abbrev gz(w:Int)(f:Int×Int):Int:=bF w f.1.toNat f.2.toNat
abbrev pz(w:Int)(f:Int×Int)(v:Int):Int:=lC w f.1.toNat f.2.toNat v
theorem Vi{l}{w z}(h:dO w l=some z){g}(hg:∀p∈l,Q7 p.1 g):gz z g=gz w g:=by
 induction l generalizing w with
 |nil=>simp[dO]at h;rw[h]
 |cons p r ih=>
  obtain⟨f,v⟩:=p;simp only[dO]at h;split at h
  .cases h
  .rw[ih h (fun q hq=>hg q (by simp[hq]))]
   exact yE _ _ _ _ _ _ (hg (f,v) (by simp))
theorem Vh{l}{w z}(h:dO w l=some z)(hp:l.Pairwise λp q=>Q7 p.1 q.1):∀p∈l,gz z p.1=p.2:=by
 induction l generalizing w with
 |nil=>simp
 |cons p r ih=>
  obtain⟨f,v⟩:=p;rw[nf]at hp;simp only[dO]at h;split at h
  .cases h
  .rename_i hv
   intro q hq;rcases db.1 hq with rfl|hq
   .rw[Vi h (fun q hq=>(hp.1 q hq).symm)]
    show gz (pz w f v) f=v;unfold gz pz;rw[get_put];exact jF (by omega) (by omega)
   .exact ih h hp.2 q hq
theorem Ry{w}(hw:0<=w)(a d)(v):0<=lC w a d v:=by
 rw[yX];have h1:=Cx (a:=a) (iH v d).1 (iH v d).2 (iH w a).1 (iH w a).2;have h2:0<=w/2^(a+d):=Int.ediv_nonneg hw (by have:=aU (a+d);omega);have h3:=mL h2 (Int.le_of_lt (aU (a+d)));omega
theorem Ym{l}{w z}(h:dO w l=some z)(hl:∀p∈l,p.1.1.toNat+p.1.2.toNat<=62)(h0:0<=w)(h1:w<4611686018427387904):0<=z/\z<4611686018427387904:=by
 induction l generalizing w with
 |nil=>simp[dO]at h;omega
 |cons p r ih=>
  obtain⟨f,v⟩:=p;simp only[dO]at h;split at h
  .cases h
  .have hn:=Ry h0 f.1.toNat f.2.toNat v
   have hd:=O1 w f.1.toNat f.2.toNat v 62 (hl (f,v) (by simp));have e62:(2:Int)^62=4611686018427387904:=rfl;rw[e62]at hd;exact ih h (λq hq=>hl q (by simp[hq])) hn (by omega)
theorem RH{l}(w)(h:∀p∈l,0<=p.2/\p.2<2^p.1.2.toNat):∃z,dO w l=some z:=by
 induction l generalizing w with
 |nil=>exact⟨w,rfl⟩
 |cons p r ih=>
  obtain⟨f,v⟩:=p;have:=h (f,v) (by simp);simp only[dO];rw[if_neg (by simp only at this;omega)];exact ih _ λq hq=>h q (by simp[hq])
theorem MJ{fs}(h:iX fs=true):fs.Pairwise Q7:=by
 obtain⟨h1,h2⟩:=(JG fs).1 h;refine h2.imp_of_mem λ{f g} hf hg hm=> ?_;exact(abg (h1 f hf) (h1 g hg)).1 hm
theorem Sw{fs:List (Int×Int)}{vs:List Int}(h:fs.Pairwise Q7):(fs.zip vs).Pairwise λp q=>Q7 p.1 q.1:=by
 have:=(h.sublist (List.Sublist.refl fs));induction fs generalizing vs with
 |nil=>simp
 |cons f r ih=>
  cases vs with
  |nil=>simp
  |cons v s=>
   rw[List.zip_cons_cons,nf];rw[nf]at h;refine⟨λq hq=>h.1 _ (List.of_mem_zip hq).1,ih h.2 h.2⟩
theorem Hu{fs}{vs}{z}(h:kC fs vs=some z):vs.length=fs.length/\iX fs=true/\dO 0 (fs.zip vs)=some z:=by
 unfold kC at h;split at h
 .rename_i hc;exact⟨hc.1,hc.2,h⟩
 .cases h
theorem Sv{fs}(h:iX fs=true):fU fs=true:=by
 unfold iX at h;rw[bj]at h;exact h.1
theorem Vf{fs}{vs}{z}(h:kC fs vs=some z):qN z fs=vs:=by
 obtain⟨hl,ha,hgo⟩:=Hu h;unfold qN;rw[if_pos (Sv ha)];have hget:=Vh hgo (Sw (MJ ha));apply List.ext_getElem
 .simp[hl]
 .intro i h1 h2
  rw[List.getElem_map];have hz:i<(fs.zip vs).length:=by simp;omega
  have:=hget _ (eC hz);rw[List.getElem_zip]at this;exact this
theorem aaR{fs}(h:iX fs=true):∀f∈fs,f.1.toNat+f.2.toNat<=62:=by
 intro f hf;have:=nK.1 (((JG fs).1 h).1 f hf);omega
theorem aeJ{fs}{vs}{z}(h:kC fs vs=some z):0<=z/\z<4611686018427387904:=by
 obtain⟨hl,ha,hgo⟩:=Hu h;exact Ym hgo (λp hp=>aaR ha _ (List.of_mem_zip hp).1) (by omega) (by omega)
def zR:List ((Int×Int)×Int)->Int
 |[]=>0
 |(f,v)::r=>v*2^f.1.toNat+zR r
theorem Vg{l}{w z}(h:dO w l=some z)(hp:l.Pairwise λp q=>Q7 p.1 q.1)(h0:∀p∈l,gz w p.1=0):z=w+zR l:=by
 induction l generalizing w with
 |nil=>simp[dO]at h;simp[zR,h]
 |cons p r ih=>
  obtain⟨f,v⟩:=p;rw[nf]at hp;simp only[dO]at h;split at h
  .cases h
  .rename_i hv
   have hf0:=h0 (f,v) (by simp);have h2:∀q∈r,gz (pz w f v) q.1=0:=λq hq=>by
    rw[show gz (pz w f v) q.1=gz w q.1 from yE _ _ _ _ _ _ (hp.1 q hq)];exact h0 q (by simp[hq])
   have hm:v%2^f.2.toNat=v:=jF (by omega) (by omega);have e:pz w f v=w+v*2^f.1.toNat:=by
    unfold pz lC;rw[hm];have:bF w f.1.toNat f.2.toNat=0:=hf0;rw[this];omega
   have:=ih h hp.2 h2;rw[this];show pz w f v+zR r=w+(v*2^f.1.toNat+zR r);rw[e];omega
theorem afr(f):gz 0 f=0:=by simp[gz,bF]
def okV(p:(Int×Int)×Int):Bool:=decide (0<=p.2/\p.2<=2^p.1.2.toNat-1)
theorem Nh{l}(hp:l.Pairwise λp q=>Q7 p.1 q.1):dO 0 l=if l.all okV then some (zR l)else none:=by
 by_cases h:l.all okV=true
 .rw[if_pos h]
  rw[bp]at h;obtain⟨z,hz⟩:=RH 0 (l:=l) λp hp=>by have:=h p hp;unfold okV at this;simp at this;omega
  have:=Vg hz hp λp _=>afr _;rw[hz,this];simp
 .rw[if_neg h]
  cases hz:dO 0 l with
  |none=>rfl
  |some z=>
   exfalso;apply h;clear hp h;generalize (0:Int)=w at hz;induction l generalizing w with
   |nil=>rfl
   |cons p r ih=>
    obtain⟨f,v⟩:=p;simp only[dO]at hz;split at hz
    .cases hz
    .rename_i hv
     rw[List.all_cons,ih _ hz];simp[okV];omega
theorem aL{w:World}{b i}{v}(h:w.cell? ⟨b,i,none⟩=some v)(o):(w.alloc o).cell? ⟨b,i,none⟩=some v:=
 (pZ w o ⟨b,i,none⟩ (Ei h)).trans h
def ag(w:World)(g:Nat)(t:TypeId)(cs:Array Value):Prop:=w.heap[g]?=some (.cells cs t (0,0))
section
variable{w w':World} {g:Nat} {t:TypeId} {cs:Array Value}
theorem ag.lt(h:ag w g t cs):g<w.heap.size:=(bk.1 h).1
theorem ag.cell(h:ag w g t cs)(i):w.cell? ⟨g,i,none⟩=cs[i]?:=by simp[World.cell?,show w.heap[g]?=_ from h]
theorem ag.frozen(h:ag w g t cs)(i):w.frozen? ⟨g,i,none⟩=false:=by
 unfold ag at h;simp[World.frozen?,h]
theorem ag.new(w:World)(t)(cs):ag (w.alloc (.cells cs t)) w.heap.size t cs:=mC w _
theorem ag.zV(h:ag w g t cs)(i)(u):ag (w.setCell ⟨g,i,none⟩ u) g t (cs.setIfInBounds i u):=by
 unfold ag at h ⊢;simp[World.setCell,pT,h]
theorem ag.below{B}(h:ag w g t cs)(hb:Below B w w')(hg:g<B):ag w' g t cs:=(hb.block g hg).trans h
end
theorem flat_get{α:Type}(enc:α->List Value)(size)(hs:∀x,(enc x).length=size):∀(xs:List α) (k j) (x) (u),xs[k]?=some x->(enc x)[j]?=some u->(xs.flatMap enc)[k*size+j]?=some u
 |[],k,j,x,u,hx,_=>by simp at hx
 |y::r,0,j,x,u,hx,hu=>by
  simp at hx;subst hx;have hj:j<(enc y).length:=(aE.1 hu).1;rw[oY,Nat.zero_mul,cg,cD hj];exact hu
 |y::r,k+1,j,x,u,hx,hu=>by
  simp at hx;have:=flat_get enc size hs r k j x u hx hu;rw[oY,cx (by rw[hs,kj];omega),hs];rw[show(k+1)*size+j-size=k*size+j by rw[kj];omega];exact this
end
section
open Go.RowKit Go.bn
attribute [local go_sem ↓] Go.wp_at_zero Go.wp_at_succ
def aa.zero:aa:=⟨0,0,0,false,false,0,0,0,0⟩
def tO(s:aa):aa:=
 {s with
  str:=if s.st=3 then s.str else 0
  fO:=if s.st=2 then s.fO else false
  brk:=if s.st=2\/s.st=3\/s.st=4 then s.brk else false
  uses:=if s.st=2\/s.st=3\/s.st=4 then s.uses else 0
  ep:=if s.st=6 then s.ep else 0
  own:=if s.st=0\/s.st=6 then 0 else s.own}
def wP(b:Bool):Int:=if b then 1 else 0
def fC:List (Int×Int):=[(0,3),(3,4),(7,8),(15,1),(16,1),(17,6),(23,12),(35,12),(47,15)]
def numsL(s:aa):List Int:=[s.st,s.own,s.str,wP s.brk,wP s.fO,s.uses,s.gen,s.ep,s.cz]
def encS(s:aa):Option Int:=if 6<s.st\/s≠tO s then none else kC fC (numsL s)
theorem afP(b:Bool)(w:World):Calls Tryz.prog 101 #[.bool b] w λe w'=>e=.returned (.int .i64 (wP b))/\w=w':=by
 cases b
 all_goals
  go_enter Tryz.func101,Tryz.ntmps101
  go_wp2;go_ret;exact⟨rfl,rfl⟩
theorem QT(a b c:Int)(d e:Bool)(f g h i:Int)(w:World):
  Calls Tryz.prog 99 #[.agg #[.int .i64 a,.int .i64 b,.int .i64 c,.bool d,.bool e,.int .i64 f,.int .i64 g,.int .i64 h,.int .i64 i]] w λen w'=>en=.returned (tO ⟨a,b,c,d,e,f,g,h,i⟩).val/\Below w.heap.size w w':=by
 have hcases:a=0\/a=2\/a=3\/a=4\/a=6\/(a≠0/\a≠2/\a≠3/\a≠4/\a≠6):=by omega
 rcases hcases with rfl|rfl|rfl|rfl|rfl|⟨h0,h2,h3,h4,h6⟩
 case inr.inr.inr.inr.inr=>
  have q0:(a==0)=false:=by simp[h0]
  have q6:(a==6)=false:=by simp[h6]
  have q2:(a != 2)=true:=by simp[h2]
  have q3:(a != 3)=true:=by simp[h3]
  have q4:(a != 4)=true:=by simp[h4]
  have q6':(a != 6)=true:=by simp[h6]
  have hs:(tO ⟨a,b,c,d,e,f,g,h,i⟩).val=.agg #[.int .i64 a,.int .i64 b,.int .i64 0,.bool false,.bool false,.int .i64 0,.int .i64 g,.int .i64 0,.int .i64 i]:=by
   simp[tO,aa.val,h0,h2,h3,h4,h6]
  have HS:=Lib.hid hs;clear h0 h2 h3 h4 h6 hs;go_enter Tryz.func99,Tryz.ntmps99
  go_wp2;rw[HS.out];refine cC (v:=.agg #[.int .i64 a,.int .i64 b,.int .i64 0,.bool false,.bool false,.int .i64 0,.int .i64 g,.int .i64 0,.int .i64 i]) (by simp[results,Tryz.f99,go_sem]) rfl ⟨rfl,?_⟩
  repeat (first|exact Below.refl _ _|refine Below.setCell ?_ (by simp) _|refine Below.alloc ?_ (by simp<;>omega) _)
 all_goals
  go_enter Tryz.func99,Tryz.ntmps99
  go_wp2;refine cC (v:=(tO ⟨_,b,c,d,e,f,g,h,i⟩).val) (by simp[results,Tryz.f99,go_sem,tO,aa.val]) rfl ⟨rfl,?_⟩
  repeat (first|exact Below.refl _ _|refine Below.setCell ?_ (by simp) _|refine Below.alloc ?_ (by simp<;>omega) _)
end
section
open Go.RowKit Go.bn
def fr(n m:Int):Bool:=decide (0<=n)&&decide (n<=m)
def kH(s:aa):Bool:=s.st==2||s.st==3||s.st==4
def di(s:aa):Bool:=
 (fr s.st 6&&fr s.own 15&&fr s.str 255&&fr s.uses 63&&fr s.gen 4095&&fr s.ep 4095&&fr s.cz 32767)&&
 !(decide (0<s.str)&&s.st != 3||s.brk&& !kH s||decide (0<s.uses)&& !kH s||s.fO&&s.st != 2)&&
 ((s.ep==0||s.st==6)&&(s.own==0||decide (0<s.st)&&decide (s.st<6)))
def UG(s:aa):Int:=s.st+8*s.own+128*s.str+131072*s.uses+8388608*s.gen+34359738368*s.ep+140737488355328*s.cz
def uS(s:aa):Int:=UG s+(if s.brk then 32768 else 0)+(if s.fO then 65536 else 0)
def encR(s:aa):Option Int:=if di s then some (uS s)else none
def zY(w:Int):aa:=⟨bF w 0 3,bF w 3 4,bF w 7 8,bF w 15 1==1,bF w 16 1==1,bF w 17 6,bF w 23 12,bF w 35 12,bF w 47 15⟩
def jf(w:Int):Option aa:=if encS (zY w)=some w then some (zY w)else none
def gP(o:Option aa):Value:=.tuple #[(o.getD aa.zero).val,.bool o.isSome]
theorem Db:iX fC=true:=by decide +kernel
theorem Tq(f:Int×Int)(v:Int):(okV (f,v)=true)=(0<=v/\v<=2^f.2.toNat-1):=by unfold okV;exact dj
theorem X5(s:aa):di s=true↔¬(6<s.st\/s≠tO s)/\(fC.zip (numsL s)).all okV=true:=by
 obtain⟨a,b,c,d,e,f,g,h,i⟩:=s;have hc:a=0\/a=1\/a=2\/a=3\/a=4\/a=5\/a=6\/a<0\/6<a:=by omega
 rcases hc with rfl|rfl|rfl|rfl|rfl|rfl|rfl|h0|h6
 case inr.inr.inr.inr.inr.inr.inr.inl=>
  constructor
  .intro hr;simp[di,fr]at hr;omega
  .rintro⟨_,hr⟩;simp[Tq,fC,numsL]at hr;omega
 case inr.inr.inr.inr.inr.inr.inr.inr=>
  constructor
  .intro hr;simp[di,fr]at hr;omega
  .rintro⟨hr,_⟩;exact absurd (Or.inl h6) hr
 all_goals
  cases d<;>cases e<;>simp[di,fr,kH,tO,Tq,fC,numsL,wP]<;>omega
theorem sM(s:aa):encS s=encR s:=by
 have hp:kC fC (numsL s)=if(fC.zip (numsL s)).all okV then some (zR (fC.zip (numsL s)))else none:=by
  unfold kC;rw[if_pos ⟨rfl,Db⟩,Nh (Sw (MJ Db))]
 have hs:zR (fC.zip (numsL s))=uS s:=by
  obtain⟨a,b,c,d,e,f,g,h,i⟩:=s;cases d<;>cases e<;>simp[fC,numsL,zR,uS,UG,wP]<;>omega
 unfold encS encR;rw[hp,hs];have:=X5 s;by_cases h1:(6<s.st\/s≠tO s)
 .rw[if_pos h1]
  have:di s=false:=by
   rw[sx];intro h;exact(this.1 h).1 h1
  rw[this];rfl
 .rw[if_neg h1]
  by_cases h2:(fC.zip (numsL s)).all okV=true
  .rw[if_pos h2,if_pos (this.2 ⟨h1,h2⟩)]
  .rw[if_neg h2,if_neg (λh=>h2 (this.1 h).2)]
theorem Ee(s:aa)(x:Int)(h:encS s=some x):zY x=s/\0<=x/\x<4611686018427387904:=by
 have hr:di s=true:=by
  rw[sM]at h;unfold encR at h;split at h
  .assumption
  .cases h
 have hp:kC fC (numsL s)=some x:=by
  unfold encS at h;split at h
  .cases h
  .exact h
 have hparts:=Vf hp;refine⟨?_,aeJ hp⟩;have e:qN x fC=[bF x 0 3,bF x 3 4,bF x 7 8,bF x 15 1,bF x 16 1,bF x 17 6,bF x 23 12,bF x 35 12,bF x 47 15]:=rfl;rw[e]at hparts;obtain⟨a,b,c,d,e,f,g,h,i⟩:=s;simp[numsL]at hparts;obtain⟨h1,h2,h3,h4,h5,h6,h7,h8,h9⟩:=hparts;unfold zY;rw[h1,h2,h3,h4,h5,h6,h7,h8,h9];cases d<;>cases e<;>rfl
def seq(s t:aa):Bool:=decide (s=t)
theorem GY(a b c:Int)(d e:Bool)(f g h i a' b' c':Int)(d' e':Bool)(f' g' h' i':Int)(w:World):
  (Op.equalIn 10000 44 (.agg #[.int .i64 a,.int .i64 b,.int .i64 c,.bool d,.bool e,.int .i64 f,.int .i64 g,.int .i64 h,.int .i64 i]) (.agg #[.int .i64 a',.int .i64 b',.int .i64 c',.bool d',.bool e',.int .i64 f',.int .i64 g',.int .i64 h',.int .i64 i'])).run Tryz.prog w=.ok (seq ⟨a,b,c,d,e,f,g,h,i⟩ ⟨a',b',c',d',e',f',g',h',i'⟩) w:=by
 have key:seq ⟨a,b,c,d,e,f,g,h,i⟩ ⟨a',b',c',d',e',f',g',h',i'⟩=(a==a'&&b==b'&&c==c'&&d==d'&&e==e'&&f==f'&&g==g'&&h==h'&&i==i'):=by
  unfold seq;rw[Bool.eq_iff_iff];simp[and_assoc]
 rw[key];go_simp
 by_cases h1:a=a'<;>simp[h1];by_cases h2:b=b'<;>simp[h2];by_cases h3:c=c'<;>simp[h3];by_cases h4:d=d'<;>simp[h4];by_cases h5:e=e'<;>simp[h5];by_cases h6:f=f'<;>simp[h6];by_cases h7:g=g'<;>simp[h7];by_cases h8:h=h'<;>simp[h8];by_cases h9:i=i'<;>simp[h9]
