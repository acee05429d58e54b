import Derived.Test.YteaflphddciglaaGreatDoorProg
import Derived.Test.YteaflphddciglaaGreatDoorCaA
import Derived.WalkLawsBesides
import Derived.WalkSpells
import Derived.Deep.RegionHeld3
import Derived.Deep.DrawnRows
import Derived.Lib.Hide
import Derived.RangeFuncNested
import Derived.RangeFuncBound
import Derived.Shelf.RegionOpen
import Derived.OwnWalkIn
import Derived.LoopNIn
import Derived.LoopIn
set_option linter.all false
def ck:=@if_neg
def tz:=@if_pos
def aq:=@Nat.le_refl
def tA:=@absurd
def tD:=@List.getElem?_eq_getElem
def ba:=@Nat.lt_of_lt_of_le
def bj:=@Bool.and_eq_true
def bp:=@List.all_eq_true
def bk:=@Array.getElem?_eq_some_iff
def b7:=@Go.RowKit.Below.heap_alloc
def cn:=@Nat.lt_or_ge
def ct:=@List.length_cons
def cg:=@Nat.zero_add
def cC:=@Go.bodyPost_ret
def tE:=@Nat.zero_le
def cW:=@List.length_nil
def cU:=@List.size_toArray
def dg:=@List.take_succ_eq_append_getElem
def fj:=@List.getElem?_drop
def eM:=@Nat.le_trans
def dr:=@List.nil_append
def eS:=@List.mem_append
def eA:=@List.mem_range
def eC:=@List.getElem_mem
def eE:=@List.cons_append
def eJ:=@Array.replicate_zero
def eK:=@Array.replicate_succ
def eR:=@Option.map_some
def eW:=@List.append_toArray
def fR:=@Go.below_drewN
def fS:=@List.push_toArray
def cY:=@List.mem_singleton
def gk:=@Nat.lt_trans
def gl:=@Nat.le_of_lt
def gA:=@Go.grownBy_putObj'
def gE:=@decide_eq_false_iff_not
def kx:=@List.mem_map
def jn:=@Go.callsIn_wide
def kj:=@Nat.add_mul
def kO:=@Go.run_takeDeferred
def ld:=@Go.World.size_alloc
def lP:=@List.take_length
def mC:=@Go.World.alloc_heap_new
def mN:=@Go.callsIn_of_wp_marks
def m9:=@Go.cell_kept
def tR:=@Array.getElem?_eq_none
def oa:=@Go.callsIn_of_wp
def px:=@List.take_of_length_le
def uc:=@List.drop_eq_nil_of_le
def pI:=@Go.belowK_b
def pZ:=@Go.World.cell?_alloc_lt
def qv:=@List.mem_of_mem_drop
def rj:=@List.all_append
namespace Go.Proofs.YteaflphddciglaaGreatDoor
section
open Go.RowKit Go.bn
attribute [local go_sem ↓] Go.wp_at_zero Go.wp_at_succ
def gN(a d:Int):Bool:=decide (0<=a/\a<=62/\1<=d/\d<=62-a)
def nK{a d:Int}:gN a d=true↔(0<=a/\a<=62/\1<=d/\d<=62-a):=by simp[gN]
def aaS{a d:Int}:gN a d=false↔¬(0<=a/\a<=62/\1<=d/\d<=62-a):=by simp only[gN,gE]
def ji{a b:Bool}(h:a=b):Ending.returned (.bool a)=Ending.returned (.bool b):=by rw[h]
def DR{k:IntKind}{a b:Int}(h:a=b):Ending.returned (.int k a)=Ending.returned (.int k b):=by rw[h]
def Eo{W w:World}(a:Below W.heap.size W w):(∀b o,b<W.heap.size->w.cell? ⟨b,o,none⟩=W.cell? ⟨b,o,none⟩)/\(∀b o,b<W.heap.size->w.frozen? ⟨b,o,none⟩=W.frozen? ⟨b,o,none⟩):=
 ⟨λb o h=>a.cell (p:=⟨b,o,none⟩) h,λb o h=>a.frozen (p:=⟨b,o,none⟩) h⟩
def jR(a d:Int)(w:World):
  Calls Tryz.prog 132 #[.agg #[.int .i64 a,.int .i64 d]] w λe b=>e=.returned (.bool (gN a d))/\Below w.heap.size w b:=by
 go_enter Tryz.func132,Tryz.ntmps132
 go_wp2
 all_goals go_ret
 all_goals refine⟨ji ?_,(Below.refl _ _).alloc (aq _) _⟩
 all_goals first|(rw[gN,decide_eq_decide];omega)|(symm;rw[aaS];omega)
def wF(n:Nat)(h:n<=62):1<=(2:Int)^n/\(2:Int)^n<=4611686018427387904:=by
 have b:=aU n;have a:(2:Int)^n<=2^62:=O5 h;exact⟨by omega,a⟩
def DZ(a d:Int)(w:World)(r:gN a d=true):
  Calls Tryz.prog 153 #[.agg #[.int .i64 a,.int .i64 d]] w λe b=>e=.returned (.int .i64 (2^d.toNat-1))/\Below w.heap.size w b:=by
 have h:=nK.1 r;obtain⟨i,k,l,m⟩:=h;obtain⟨p,f⟩:=wF d.toNat (by omega)
 go_enter Tryz.func153,Tryz.ntmps153
 go_wp2_with (go_at_call 132;refine(jR _ _ _).mono ?_;rintro e b ⟨rfl,c⟩;obtain⟨n,o⟩:=Eo c)
 go_ret;exact⟨DR rfl,((Below.refl _ _).alloc (aq _) _).trans (c.mono (by simp))⟩
def Pt(a d:Int)(w:World)(r:gN a d=true):
  Calls Tryz.prog 215 #[.agg #[.int .i64 a,.int .i64 d]] w λe b=>e=.returned (.int .i64 ((2^d.toNat-1)*2^a.toNat))/\Below w.heap.size w b:=by
 have h:=nK.1 r;obtain⟨i,k,l,m⟩:=h;obtain⟨p,f⟩:=wF d.toNat (by omega);have n:=KF a.toNat d.toNat (by omega)
 go_enter Tryz.func215,Tryz.ntmps215
 go_wp2
 go_region_held3 (fun b=>b.cell? ⟨w.heap.size,0,none⟩=some (.int .i64 a)/\b.cell? ⟨w.heap.size,1,none⟩=some (.int .i64 d)/\Below w.heap.size w b/\w.heap.size<b.heap.size)
  (refine⟨?_,?_,?_,?_⟩<;>first|(simp[*];done)|exact((Below.refl _ _).alloc (aq _) _).drew|exact(‹_/\_/\Below _ _ _/\_›.2.2.1.trans (c.mono (by first|omega|(simp;done)|(simp;omega))))|(have:=c.size;first|omega|(simp at this;omega)))
  (first|(go_at_call 153;refine(DZ _ _ _ r).mono ?_;rintro e o ⟨rfl,c⟩;obtain⟨q,s⟩:=Eo c))
 go_wp2;go_ret;exact⟨DR (IntWalk.i64_in _ (by omega)),‹_/\_/\Below _ _ _/\_›.2.2.1⟩
def afv(x a d:Int)(w:World)(r:gN a d=true):
  Calls Tryz.prog 133 #[.int .i64 x,.agg #[.int .i64 a,.int .i64 d]] w λe c=>e=.returned (.int .i64 (bF x a.toNat d.toNat))/\Below w.heap.size w c:=by
 have h:=nK.1 r;obtain⟨y,z,A,D⟩:=h;obtain⟨k,l⟩:=wF d.toNat (by omega)
 go_enter Tryz.func133,Tryz.ntmps133
 go_wp2_with (go_at_call 132;refine(jR _ _ _).mono ?_;rintro e f ⟨rfl,b⟩;obtain⟨m,n⟩:=Eo b)
 have B:Below w.heap.size w f:=((Below.refl _ _).alloc (aq _) _).trans (b.mono (by simp));have o:w.heap.size<f.heap.size:=by have:=b.size;simp at this;omega
 have C:f.cell? ⟨w.heap.size,0,none⟩=some (.int .i64 a):=(b.cell (p:=⟨w.heap.size,0,none⟩) (by simp)).trans (by simp);have v:f.cell? ⟨w.heap.size,1,none⟩=some (.int .i64 d):=(b.cell (p:=⟨w.heap.size,1,none⟩) (by simp)).trans (by simp);clear m n
 go_region_held3 (fun c=>c.cell? ⟨w.heap.size,0,none⟩=some (.int .i64 a)/\c.cell? ⟨w.heap.size,1,none⟩=some (.int .i64 d)/\Below w.heap.size w c/\w.heap.size<c.heap.size)
  (first|exact⟨C,v,B.drew,o⟩|(obtain⟨q,s,u,Z⟩:=‹World.cell? _ _=_/\_/\Below _ _ _/\_<_›;exact⟨(i.cell (p:=⟨w.heap.size,0,none⟩) Z).trans q,(i.cell (p:=⟨w.heap.size,1,none⟩) Z).trans s,u.trans (i.mono (gl Z)),ba Z i.size⟩))
  (first|(go_at_call 153;refine(DZ _ _ _ r).mono ?_;rintro e E ⟨rfl,i⟩))
 go_wp2;go_ret;exact⟨DR (by rw[Lg _ _ (by omega)];rfl),‹_/\_/\Below _ _ _/\_›.2.2.1⟩
def aeG(x a d v:Int)(k:yl x)(w:World)(r:gN a d=true):
  Calls Tryz.prog 154 #[.int .i64 x,.agg #[.int .i64 a,.int .i64 d],.int .i64 v] w λe c=>e=.returned (.int .i64 (lC x a.toNat d.toNat v))/\Below w.heap.size w c:=by
 have h:=nK.1 r;obtain⟨F,G,I,J⟩:=h;obtain⟨m,n⟩:=wF d.toNat (by omega);have H:=Lib.hid k;clear k;go_enter Tryz.func154,Tryz.ntmps154
 go_wp2_with (go_at_call 132;refine(jR _ _ _).mono ?_;rintro e i ⟨rfl,b⟩;obtain⟨o,q⟩:=Eo b)
 have B:Below w.heap.size w i:=((Below.refl _ _).alloc (aq _) _).trans (b.mono (by simp));have s:w.heap.size<i.heap.size:=by have:=b.size;simp at this;omega
 have C:i.cell? ⟨w.heap.size,0,none⟩=some (.int .i64 a):=(b.cell (p:=⟨w.heap.size,0,none⟩) (by simp)).trans (by simp);have D:i.cell? ⟨w.heap.size,1,none⟩=some (.int .i64 d):=(b.cell (p:=⟨w.heap.size,1,none⟩) (by simp)).trans (by simp);clear o q
 go_region_held3 (fun c=>c.cell? ⟨w.heap.size,0,none⟩=some (.int .i64 a)/\c.cell? ⟨w.heap.size,1,none⟩=some (.int .i64 d)/\Below w.heap.size w c/\w.heap.size<c.heap.size)
  (first|exact⟨C,D,B.drew,s⟩|(obtain⟨u,y,z,Z⟩:=‹World.cell? _ _=_/\_/\Below _ _ _/\_<_›;exact⟨(f.cell (p:=⟨w.heap.size,0,none⟩) Z).trans u,(f.cell (p:=⟨w.heap.size,1,none⟩) Z).trans y,z.trans (f.mono (gl Z)),ba Z f.size⟩))
  (first|(go_at_call 153;refine(DZ _ _ _ r).mono ?_;rintro e A ⟨rfl,f⟩)|(go_at_call 215;refine(Pt _ _ _ r).mono ?_;rintro e A ⟨rfl,f⟩))
 go_wp2;go_ret;have l:=iH v d.toNat;have E:=Qo (a:=a.toNat) (d:=d.toNat) (by omega) l.1 l.2
 exact⟨DR (by rw[Lg v _ (by omega),IntWalk.i64_in _ (by omega),aaY x H.out _ _ (by omega) v]),‹_/\_/\Below _ _ _/\_›.2.2.1⟩
def dN{α:Type}(e:α->List Value)(s:Nat)(w:World)(B:Nat)(A:Option Addr)(a:List α):Prop:=
 a≠[]->∃b o,A=some ⟨b,o,none⟩/\b<B/\∀k x,a[k]?=some x->∀j u,(e x)[j]?=some u->w.cell? ⟨b,o+k*s+j,none⟩=some u
section
variable{α:Type} {a:α->List Value} {c:Nat} {w d:World} {B f:Nat} {A:Option Addr} {i:List α}
def dN.keep(h:dN a c w B A i)(m:∀p:Addr,p.block<B->d.cell? p=w.cell? p):dN a c d B A i:=λn=>by
 obtain⟨b,o,e,l,q⟩:=h n;exact⟨b,o,e,l,λk x r j u s=>(m ⟨b,o+k*c+j,none⟩ l).trans (q k x r j u s)⟩
def dN.below(h:dN a c w B A i)(b:Below B w d):dN a c d B A i:=h.keep λ_ p=>b.cell p
def dN.more(h:dN a c w B A i)(l:B<=f):dN a c w f A i:=λn=>by
 obtain⟨b,o,e,m,k⟩:=h n;exact⟨b,o,e,by omega,k⟩
def dN.at_(h:dN a c w B A i){k:Nat}(l:k<i.length):
  ∃b o,A=some ⟨b,o,none⟩/\b<B/\∀j u,(a i[k])[j]?=some u->w.cell? ⟨b,o+k*c+j,none⟩=some u:=by
 obtain⟨b,o,e,m,n⟩:=h (by rintro rfl;simp at l);exact⟨b,o,e,m,n k _ (tD l)⟩
end
def wO(f:Int×Int):List Value:=[.int .i64 f.1,.int .i64 f.2]
def encI(n:Int):List Value:=[.int .i64 n]
def fieldAt{w:World}{B:Nat}{A:Option Addr}{l:List (Int×Int)}(h:dN wO 2 w B A l){k:Nat}(a:k<l.length):
  ∃b o,A=some ⟨b,o,none⟩/\b<B/\w.cell? ⟨b,o+k*2,none⟩=some (.int .i64 l[k].1)/\w.cell? ⟨b,o+k*2+1,none⟩=some (.int .i64 l[k].2):=by
 obtain⟨b,o,e,d,c⟩:=h.at_ a;exact⟨b,o,e,d,c 0 _ rfl,c 1 _ rfl⟩
def NM{w:World}{B:Nat}{A:Option Addr}{l:List Int}(h:dN encI 1 w B A l){k:Nat}(a:k<l.length):
  ∃b o,A=some ⟨b,o,none⟩/\b<B/\w.cell? ⟨b,o+k,none⟩=some (.int .i64 l[k]):=by
 obtain⟨b,o,e,c,d⟩:=h.at_ a;exact⟨b,o,e,c,by have:=d 0 _ rfl;simpa using this⟩
def aa7(F:Fence)(n:Nat)(h:F.fn 214)(r:F.round=none)(A:Option Addr)(l c:Nat)(w:World):
  CallsIn F n Tryz.prog 214 #[.slice A l c] w λe a=>e=.returned (.func (.func 255) #[] #[.pointer (some ⟨w.heap.size,0,none⟩)])/\a=w.alloc (.cells #[.slice A l c] 154):=by
 refine oa Tryz.func214 rfl h ?_ r;simp only[Tryz.ntmps214,cU,ct,cW,Nat.reduceAdd,Nat.reduceSub,eK,eJ,fS,eW,dr,eE];gi_wp2
 go_ret;exact⟨rfl,rfl⟩
end
section
open Go.RowKit Go.bn Go.Shelf
attribute [local go_sem] Oper.semAt_some
structure bC(W W':World):Prop where
 size:W.heap.size<=W'.heap.size
 same:∀(b:Nat) (o:Obj),W.heap[b]?=some o->o.isCells=true->W'.heap[b]?=some o
theorem bC.refl(W:World):bC W W:=⟨aq _,λ_ _ h _=>h⟩
def bC.trans{A B C:World}(h:bC A B)(k:bC B C):bC A C:=⟨eM h.size k.size,λb o c a=>k.same b o (h.same b o c a) a⟩
theorem bC.put{w:World}(W:World)(l:Nat)(o d:Obj)(_:w.heap.size<=l)(h:W.heap[l]?=some o)(e:o.isCells=false)(_:o.isWalk=false):bC W (W.putObj l d):=by
 refine⟨by simp[World.putObj],?_⟩;intro b x a c;have n:b≠l:=by rintro rfl;rw[h]at a;cases a;rw[e]at c;cases c
 simp[World.putObj,n.symm,a]
def bC.cell{W b:World}(h:bC W b){p:Addr}{v:Value}(a:W.cell? p=some v):b.cell? p=some v:=by
 unfold World.cell? at a ⊢;split at a
 .rename_i c t f e
  rw[h.same _ _ e rfl];exact a
 .cases a
def bC.of_below{W a:World}(h:Below W.heap.size W a):bC W a:=⟨h.size,λb o c _=>by
 rw[h.block b (bk.1 c).1];exact c⟩
def bC.rowAt{α:Type}{n:α->List Value}{s:Nat}{w a:World}{B:Nat}{A:Option Addr}{c:List α}(h:bC w a)(r:dN n s w B A c):dN n s a B A c:=λd=>by
 obtain⟨b,o,e,f,i⟩:=r d;exact⟨b,o,e,f,λk x l j u m=>h.cell (i k x l j u m)⟩
def EC{α:Type}{e:α->List Value}{s:Nat}{w:World}{B:Nat}{A:Option Addr}{x:List α}(h:dN e s w B A x)(a:B<=w.heap.size)(o:Obj):dN e s (w.alloc o) B A x:=
 h.keep λp b=>pZ w o p (by omega)
def Ei{w:World}{b o:Nat}{v:Value}(h:w.cell? ⟨b,o,none⟩=some v):b<w.heap.size:=by
 rcases cn b w.heap.size with a|a
 .exact a
 .unfold World.cell? at h;simp[tR a]at h
def UN{P:Program}{t e:TypeId}{sz:Nat}(m:P.underlying t=some (.slice (P.elem t)))(p:P.elem t=e)(s:∀w,(sizeOf e).run P w=.ok sz w){α:Type}{enc:α->List Value}{A:Option Addr}{n c:Nat}{xs:List α}(C:n=xs.length)(D:n<=c)(k:Nat)(E:k<=n):
  ∃l,(∀w,(Instr.slice t (.slice A n c) (some (.int .i64 k)) none none).run P w=.ok (.slice l (n-k) (c-k)) w)/\∀w B,dN enc sz w B A xs->dN enc sz w B l (xs.drop k):=by
 refine⟨if c=k then A else A.map (·.add (k*sz)),λw=> ?_,λw B h a=> ?_⟩
 .rw[run_slice_l (P:=P) w t A n c m .i64 k (by omega) (by omega),p,s]
  simp[Result.andThen,sliced]
 .obtain⟨b,o,rfl,q,d⟩:=h (by rintro rfl;simp at a)
  have r:k<xs.length:=by
   rcases cn k xs.length with f|f
   .exact f
   .exact tA (uc f) a
  rw[ck (by omega)];refine⟨b,o+k*sz,?_,q,λj x v i u y=> ?_⟩
  .simp only[eR,Addr.add]
   split
   .rename_i z;simp[z]
   .rfl
  .have:=d (k+j) x (by rw[<-v,fj]) i u y
   rw[kj]at this;rw[Nat.add_assoc o];exact this
def eF(l:List (Int×Int)):List ((Int×Int)×(Int×Int)):=(List.range l.length).flatMap λi=>(l.drop (i+1)).map λg=>(l[i]?.getD (0,0),g)
def qg(l:List (Int×Int))(k:Nat):List ((Int×Int)×(Int×Int)):=(List.range k).flatMap λi=>(l.drop (i+1)).map λg=>(l[i]?.getD (0,0),g)
def kE(l:List (Int×Int))(k m:Nat):List ((Int×Int)×(Int×Int)):=qg l k++((l.drop (k+1)).take m).map λg=>(l[k]?.getD (0,0),g)
def Cm(l:List (Int×Int))(k:Nat):qg l (k+1)=kE l k (l.length-(k+1)):=by
 unfold qg kE qg;rw[List.range_succ,List.flatMap_append];simp;rw[px (by simp)]
def Pb(l:List (Int×Int))(k:Nat):kE l k 0=qg l k:=by simp[kE]
def Pd(l:List (Int×Int))(k m:Nat)(h:k+1+m<l.length):kE l k (m+1)=kE l k m++[(l[k]?.getD (0,0),l[k+1+m])]:=by
 unfold kE;rw[dg (by simp;omega)];simp
def RG(l:List (Int×Int)){k:Nat}(h:k<=l.length):qg l k<+:eF l:=by
 unfold qg eF;refine⟨((List.range' k (l.length-k)).flatMap λi=>(l.drop (i+1)).map λg=>(l[i]?.getD (0,0),g)),?_⟩;rw[<-List.flatMap_append];congr 1;rw[List.range_eq_range',List.range_eq_range'];have:=List.range'_append_1 (s:=0) (m:=k) (n:=l.length-k);rw[cg]at this;rw[this];congr 1;omega
def EG(l:List (Int×Int)){k m:Nat}(h:k<l.length):kE l k m<+:eF l:=by
 refine List.IsPrefix.trans ?_ (RG l (k:=k+1) h);rw[Cm];unfold kE;refine(List.prefix_append_right_inj _).2 ?_;apply List.IsPrefix.map;rw[px (i:=l.length-(k+1)) (by simp)];exact List.take_prefix _ _
def L8{l:List (Int×Int)}{p:(Int×Int)×(Int×Int)}(h:p∈eF l):p.1∈l/\p.2∈l:=by
 unfold eF at h;rw[List.mem_flatMap]at h;obtain⟨i,a,h⟩:=h;rw[kx]at h;obtain⟨g,b,rfl⟩:=h;rw[eA]at a;refine⟨?_,qv b⟩;rw[tD a];exact eC a
def Qt(x:(Int×Int)×(Int×Int)):Array Value:= #[.agg #[.int .i64 x.1.1,.int .i64 x.1.2],.agg #[.int .i64 x.2.1,.int .i64 x.2.2]]
set_option maxRecDepth 100000 in
set_option maxHeartbeats 2000000 in
def Yl(F:Fence)(n:Nat)(O:F.fn 255)(Q:F.round=none)(hn:1<=n)(l S U:Nat)(A:Option Addr)(y:Nat)(f:List (Int×Int))(z:f.length<=y)(d7:f.length<=1000)
  (W:World) (dp:U<=W.heap.size) (J Jx:List ((Int×Int)×(Int×Int))->World->Prop) (B:AbidesFrom W.heap.size J)
  (hY:∀pre x V,J pre V->pre++[x]<+:eF f->YieldAt F (n-1) Tryz.prog l (Qt x) V λe u=>
   (e=.returned (.bool true)/\J (pre++[x]) u/\bC V u)\/(e=.returned (.bool false)/\Jx (pre++[x]) u))
  (C:W.cell? ⟨S,0,none⟩=some (.slice A f.length y)) (hR:dN wO 2 W U A f) (h0:J [] W):
  CallsIn F n Tryz.prog 255 #[.func (.yield l) #[] #[],.pointer (some ⟨S,0,none⟩)] W λe u=>(∃v,e=.returned v)/\
   ((∃ys,ys=eF f/\J ys u)\/(∃pre,pre<+:eF f/\Jx pre u)):=by
 refine oa Tryz.func255 rfl O ?_ Q;simp only[Tryz.ntmps255,cU,ct,cW,Nat.reduceAdd,Nat.reduceSub,eK,eJ,fS,eW,dr,eE];gi_wp2
 gi_loopw [9] (fun i wr=>∃k:Nat,k<=f.length/\i=.int .i64 k/\J (qg f k) wr/\bC W wr)
  (λi _=>f.length-(intOf i).toNat)
 case atStart=>exact⟨0,tE _,rfl,h0,bC.refl _⟩
 case round=>
  obtain⟨k,hk,rfl,D,K⟩:=hrel;have X:=K.size;by_cases a:k<f.length
  .obtain⟨b,Y,rfl,hb,Z,ac⟩:=fieldAt (K.rowAt hR) a
   have am:=K.cell C;have d8:S<wr.heap.size:=ba (Ei C) X;obtain⟨A2,E,R⟩:=UN (P:=Tryz.prog) (t:=154) (e:=151) (sz:=2) Tryz.underlying154 (by kernel_rfl) (λw=>by kernel_rfl) (enc:=wO) (A:=some ⟨b,Y,none⟩) (xs:=f) rfl z (k+1) a;have EM:=R _ _ (K.rowAt hR);rw[show((k+1:Nat):Int)=(k:Int)+1 by omega]at E
   gi_wp2
   obtain⟨c,h⟩:∃c,wr.alloc (.cells #[.int .i64 f[k].1,.int .i64 f[k].2] 151)=c:=⟨_,rfl⟩;have ao:J (kE f k 0) c:=by rw[Pb, <-h];exact B _ _ _ none D (World.grownBy_alloc wr _ none) (by simp)
   have ar:bC W c:=by rw[<-h];exact K.trans (bC.of_below ((Below.refl _ _).alloc (aq _) _))
   have d:c.cell? ⟨wr.heap.size,0,none⟩=some (.int .i64 f[k].1):=by rw[<-h];simp
   have o:c.cell? ⟨wr.heap.size,1,none⟩=some (.int .i64 f[k].2):=by rw[<-h];simp
   have bi:dN wO 2 c U A2 (f.drop (k+1)):=by rw[<-h];exact EC EM (by omega) _
   have d9:W.heap.size<=c.heap.size:=by rw[<-h];simp;omega
   rw[h];clear h E Z ac am R EM;obtain⟨fb,G⟩:∃fb,fb=wr.heap.size:=⟨_,rfl⟩;rw[<-G]at d o ⊢;clear G;obtain⟨p0,q⟩:∃p0,p0=f[k]:=⟨_,rfl⟩;rw[<-q]at d o ⊢;have HP:=Lib.hid q;clear q
   gi_loopw [19] (fun i wi=>∃m:Nat,m<=f.length-(k+1)/\i=.int .i64 m/\J (kE f k m) wi/\bC c wi)
    (λi _=>f.length-(k+1)-(intOf i).toNat)
   case atStart=>exact⟨0,tE _,rfl,ao,bC.refl _⟩
   case round=>
    obtain⟨m,hm,rfl,H,T⟩:=hrel;have dt:=T.size;by_cases dv:m<f.length-(k+1)
    .obtain⟨b2,dT,rfl,eh,bm,bv⟩:=fieldAt (T.rowAt bi) (k:=m) (by simp;omega)
     have ca:=T.cell d;have fh:=T.cell o;have fi:=Ei ca;have cb:m<(f.drop (k+1)).length:=by simp;omega
     obtain⟨r,s⟩:∃r,r=(f.drop (k+1))[m]'cb:=⟨_,rfl⟩;rw[<-s]at bm bv;have p:=Pd f k m (by omega);have I:(f[k]?.getD (0,0),f[k+1+m]'(by omega))=(p0,r):=by
      rw[HP.out,s];simp[tD a]
     rw[I]at p;have HQ:=Lib.hid p;have ce:kE f k m++[(p0,r)]<+:eF f:=by rw[<-p];exact EG f (m:=m+1) a
     clear p I s;obtain⟨fn,dd,N,de,hy,co⟩:=hY _ (p0,r) (wr.alloc (.cells #[.int .i64 r.1,.int .i64 r.2] 151)) (B _ _ _ none H (World.grownBy_alloc wr _ none) (by simp)) ce;simp only[Qt]at hy;gi_wp2
     refine co.mono ?_;rintro e W3 (⟨rfl,d5,d6⟩|⟨rfl,L⟩)
     .gi_wp2
      go_roundw
      case rel=>exact⟨m+1,by omega,by go_num,by rw[HQ.out];exact d5,(T.trans (bC.of_below ((Below.refl _ _).alloc (aq _) _))).trans d6⟩
      case measure=>simp[intOf];omega
     .gi_wp2
      refine cC (results_none rfl _ _ _) rfl ?_;exact⟨⟨_,rfl⟩,.inr ⟨_,EG f (m:=m+1) a,by rw[HQ.out];exact L⟩⟩
    .obtain rfl:m=f.length-(k+1):=by omega
     gi_wp2
     go_roundw
     case rel=>exact⟨k+1,by omega,by go_num,by rw[Cm];exact H,ar.trans T⟩
     case measure=>simp[intOf];omega
  .obtain rfl:k=f.length:=by omega
   gi_wp2
   go_end0
   exact⟨⟨_,rfl⟩,.inl ⟨_,rfl,D⟩⟩
def Vw(f:Int×Int):Int:=(2^f.2.toNat-1)*2^f.1.toNat
def xJ(p:(Int×Int)×(Int×Int)):Bool:=bits .and .i64 (Vw p.1) (Vw p.2) != 0
def fU(l:List (Int×Int)):Bool:=l.all λf=>gN f.1 f.2
def iX(l:List (Int×Int)):Bool:=fU l&&(eF l).all λp=> !xJ p
def yH{W a:World}{B:Nat}{t:TypeId}{v:Value}{n:Nat}(h:Boxed W B t v)(b:Below n W a)(c:B<n):Boxed a B t v:=
 (b.block B c).trans h
def Two(W:World)(b:Nat)(x y:Value):Prop:=W.heap[b]?=some (.cells #[x,y] 151 (0,0))
theorem Two.new(W:World)(x y:Value):Two (W.alloc (.cells #[x,y] 151)) W.heap.size x y:=mC W _
def Two.lt{W:World}{b:Nat}{x y:Value}(h:Two W b x y):b<W.heap.size:=(bk.1 h).1
def Two.alloc{W:World}{b:Nat}{x y:Value}(h:Two W b x y)(o:Obj):Two (W.alloc o) b x y:=(b7 W o b h.lt).trans h
def Two.cell0{W:World}{b:Nat}{x y:Value}(h:Two W b x y):W.cell? ⟨b,0,none⟩=some x:=by simp[World.cell?,show W.heap[b]?=_ from h]
def Two.cell1{W:World}{b:Nat}{x y:Value}(h:Two W b x y):W.cell? ⟨b,1,none⟩=some y:=by simp[World.cell?,show W.heap[b]?=_ from h]
def Two.own{W c:World}{b:Nat}{x y:Value}{a:Option Nat}(h:Two W b x y)(e:W.grownBy c a)(f:∀r,a=some r->∃o:Obj,W.heap[r]?=some o/\o.isCells=false):Two c b x y:=by
 refine(e.block b h.lt ?_).trans h;rintro rfl;obtain⟨o,d,i⟩:=f b rfl;rw[show W.heap[b]?=_ from h]at d;cases d;cases i
abbrev NV:={p:(Int×Int)×(Int×Int)//gN p.1.1 p.1.2=true/\gN p.2.1 p.2.2=true}
def Rw{f:List (Int×Int)}(a:fU f=true){p:(Int×Int)×(Int×Int)}(h:p∈eF f):gN p.1.1 p.1.2=true/\gN p.2.1 p.2.2=true:=by
 unfold fU at a;rw[bp]at a;exact⟨a _ (L8 h).1,a _ (L8 h).2⟩
def RF(A:Option Addr)(c:Nat)(f:List (Int×Int))(k:f.length<=c)(m:f.length<=1000)(u:fU f=true)(n v:Nat)(w:World)(F:v<=w.heap.size)(y:n<w.heap.size)
  (G:w.cell? ⟨n,0,none⟩=some (.slice A f.length c)) (R:dN wO 2 w v A f):
  SeqStopsK Fence.wide 5 Tryz.prog 255 #[.pointer (some ⟨n,0,none⟩)] (λx:NV=>Qt x.1) bC (λE=>E.map (·.1)=eF f) (λpre=>pre.map (·.1)<+:eF f) (eF f).length w:=by
 intro l J H W z I _ Y K
 have h:=Yl Fence.wide 5 trivial rfl (by omega) l n v A c f k m W (by have:=z.size;omega) (fun pre W=>∃q:List NV,q.map (·.1)=pre/\J q W) (fun pre W=>∃q:List NV,q.map (·.1)=pre/\H q W)
  (λs A B C L N O=>by obtain⟨q,D,Q⟩:=L;exact⟨q,D,I q A B C Q N O⟩)
  (by
   rintro pre x P ⟨q,rfl,Q⟩ a;have S:=Rw u (a.subset (eS.2 (.inr (cY.2 rfl))));have T:=a.length_le;simp at T;obtain⟨U,o,b,r,V,X⟩:=Y q ⟨x,S⟩ P Q (by omega);refine⟨U,o,b,r,V,X.mono ?_⟩;rintro e Z (⟨i,d,hk⟩|⟨i,d⟩)
   .exact .inl ⟨i,⟨_,by simp,d⟩,hk⟩
   .exact .inr ⟨i,⟨_,by simp,d⟩⟩)
  ((z.cell (p:=⟨n,0,none⟩) y).trans G) (R.below (z.mono F)) ⟨[],rfl,K⟩
 refine h.mono ?_;rintro e Z ⟨i,⟨E,rfl,q,D,Q⟩|⟨pre,a,q,rfl,Q⟩⟩
 .exact⟨i,.inl ⟨q,D,Q⟩⟩
 .exact⟨i,.inr ⟨q,a,Q⟩⟩
set_option maxRecDepth 100000 in
set_option maxHeartbeats 2000000 in
def MK(A:Option Addr)(a:Nat)(f:List (Int×Int))(ac:f.length<=a)(am:f.length<=1000)(w:World)(hR:dN wO 2 w w.heap.size A f):
  Calls Tryz.prog 152 #[.slice A f.length a] w λe w'=>e=.returned (.bool (iX f))/\Below w.heap.size w w':=by
 refine(jn (n:=6)).1 ?_;refine mN Tryz.func152 rfl trivial ?_ rfl;simp only[Tryz.ntmps152,cU,ct,cW,Nat.reduceAdd,Nat.reduceSub,eK,eJ,fS,eW,dr,eE];gi_wp2
 gi_loopw [9] (fun i wr=>∃k:Nat,k<=f.length/\i=.int .i64 k/\fU (f.take k)=true/\Below w.heap.size w wr/\Boxed wr w.heap.size 4 (.bool false))
  (λi _=>f.length-(intOf i).toNat)
 case atStart=>exact⟨0,tE _,rfl,by simp[fU],(Below.refl _ _).alloc (aq _) _,Boxed.new w 4 _⟩
 case round=>
  obtain⟨k,hk,rfl,v,C,u⟩:=hrel;have co:=C.size;have d5:=u.lt;by_cases E:k<f.length
  .obtain⟨b,fl,rfl,fv,gt,gv⟩:=fieldAt (hR.below C) E
   have i4:=u.cell;have i5:=u.frozen;by_cases uE:gN f[k].1 f[k].2=true
   .gi_wp2_with (refine⟨trivial,?_⟩;gi_at_call 132;refine(jn.2 (jR _ _ _)).mono ?_;rintro e w1 ⟨rfl,m⟩;obtain⟨hc,hf⟩:=Eo m)
    go_roundw
    case rel=>
     refine⟨k+1,by omega,by go_num,?_,?_,?_⟩
     .rw[dg E]
      unfold fU at v ⊢;rw[rj,v];simp[uE]
     .exact(C.alloc C.size _).trans (m.mono (by simp;omega))
     .exact yH (u.alloc _) m (by simp;omega)
    case measure=>simp[intOf];omega
   .gi_wp2_with (refine⟨trivial,?_⟩;gi_at_call 132;refine(jn.2 (jR _ _ _)).mono ?_;rintro e w1 ⟨rfl,m⟩;obtain⟨hc,hf⟩:=Eo m)
    have d6:Boxed (w1.setCell ⟨w.heap.size,0,none⟩ (.bool false)) w.heap.size 4 (.bool false):=(yH (u.alloc (.cells #[.int .i64 f[k].1,.int .i64 f[k].2] 151)) m (by simp;omega)).set _;have d7:=d6.cell;have d8:iX f=false:=by
     have:fU f=false:=by
      unfold fU;rw[List.all_eq_false];exact⟨_,eC E,uE⟩
     simp[iX,this]
    refine⟨.bool false,?_,by rw[d8],?_⟩
    .simp[results,Tryz.f152,go_sem,d7]
    .exact((C.alloc C.size _).trans (m.mono (by simp;omega))).setCell (p:=⟨w.heap.size,0,none⟩) (aq _) _
  .obtain rfl:k=f.length:=by omega
   have z:fU f=true:=by rw[lP]at v;exact v
   gi_wp2_with (refine⟨trivial,?_⟩;gi_at_call 214;refine(aa7 Fence.wide 5 trivial rfl _ _ _ _).mono ?_;rintro e w1 ⟨rfl,rfl⟩)
   have i6:(eF f).length=(eF f).length:=rfl;have ao:Boxed (wr.alloc (.cells #[.slice A f.length a] 154)) w.heap.size 4 (.bool false):=u.alloc _;have bN:=Boxed.new wr 154 (.slice A f.length a);have O:Below w.heap.size w (wr.alloc (.cells #[.slice A f.length a] 154)):=C.alloc C.size _;have J:(wr.alloc (.cells #[.slice A f.length a] 154)).heap.size=wr.heap.size+1:=by simp
   obtain⟨nb,ar⟩:∃nb,nb=wr.heap.size:=⟨_,rfl⟩;obtain⟨W0,bi⟩:∃W0,wr.alloc (.cells #[.slice A f.length a] 154)=W0:=⟨_,rfl⟩;rw[bi]at ao bN O J ⊢;rw[<-ar]at bN J co d5 ⊢;clear bi ar u C v
   refine wpIn_rangeFunc_ownH (F:=Fence.wide) rfl (by omega) (gf:=255) (lb:= #[.pointer (some ⟨nb,0,none⟩)]) rfl trivial (enters_of Tryz.func255 (by kernel_rfl) rfl)
    (S:=λys=>ys.map (·.1)=eF f) (Sp:=λpre=>pre.map (·.1)<+:eF f) (N:=(eF f).length) (encs:=λx:NV=>Qt x.1) (Kp:=bC) (w0:=W0)
    (RF A a f ac am z nb w.heap.size W0 (by omega) bN.lt bN.cell (hR.below O))
    bC.trans (bC.put (w:=W0)) (Below.refl _ _) (λ_=>rfl)
    (λpre W=>((∀p∈pre,xJ p.1=false)/\Boxed W w.heap.size 4 (.bool false))/\Below w.heap.size w W)
    (λc pre W=>(c=.ret/\(∃p∈pre,xJ p.1=true)/\Boxed W w.heap.size 4 (.bool false))/\Below w.heap.size w W)
    (OwnFrom.and (Own.from (λs A B G L Z P=>⟨L.1,boxed_own _ 4 (λ(_:Unit)=>Value.bool false) () A B G L.2 Z P⟩) _) (ownFrom_below (aq _) (by omega)))
    (λc=>OwnFrom.and (Own.from (λs A B G L Z P=>⟨L.1,L.2.1,boxed_own _ 4 (λ(_:Unit)=>Value.bool false) () A B G L.2.2 Z P⟩) _) (ownFrom_below (aq _) (by omega)))
    ⟨⟨by simp,ao⟩,O⟩
    (λy a' W=>∃Q H,w.heap.size<Q/\w.heap.size<H/\Q≠H/\Two W Q (.int .i64 y.1.1.1) (.int .i64 y.1.1.2)/\Two W H (.int .i64 y.1.2.1) (.int .i64 y.1.2.2)/\a'={tmps:= #[.slice A f.length a,undef,.pointer (some ⟨w.heap.size,0,none⟩),undef,u4,.pointer (some ⟨Q,0,none⟩),.pointer (some ⟨H,0,none⟩),.slice A f.length a,.int .i64 f.length,.int .i64 f.length,.bool false,u11,u12,u13,u14,u15,u16,.slice A f.length a,.func (.func 255) #[] #[.pointer (some ⟨nb,0,none⟩)],.agg #[.int .i64 y.1.1.1,.int .i64 y.1.1.2],.agg #[.int .i64 y.1.2.1,.int .i64 y.1.2.2],undef,undef,undef,undef,undef,undef],defers:=[]})
    (λx a' _ X Y G L Z P=>by obtain⟨Q,H,h1,h2,h3,h4,h5,h6⟩:=L;exact⟨Q,H,h1,h2,h3,h4.own Z (λr e=>(P r e).2),h5.own Z (λr e=>(P r e).2),h6⟩)
    ?assign ?body ?done ?stop
   case assign=>
    rintro l pre x W K ⟨⟨hp,h⟩,d⟩ R;have d9:=h.lt;have dd:=d.size;dsimp only[Qt];gi_wp2
    have k1:Below w.heap.size W ((W.alloc (.cells #[.int .i64 x.1.1.1,.int .i64 x.1.1.2] 151)).alloc (.cells #[.int .i64 x.1.2.1,.int .i64 x.1.2.2] 151)):=((Below.refl _ W).alloc dd _).alloc (by simp;omega) _;have k2:KeepsOthers W ((W.alloc (.cells #[.int .i64 x.1.1.1,.int .i64 x.1.1.2] 151)).alloc (.cells #[.int .i64 x.1.2.1,.int .i64 x.1.2.2] 151)):=(KeepsOthers.alloc _ _).trans (KeepsOthers.alloc _ _);have k3:bC W ((W.alloc (.cells #[.int .i64 x.1.1.1,.int .i64 x.1.1.2] 151)).alloc (.cells #[.int .i64 x.1.2.1,.int .i64 x.1.2.2] 151)):=bC.of_below (((Below.refl _ W).alloc (aq _) _).alloc (by simp) _);have t1:=(Two.new W (.int .i64 x.1.1.1) (.int .i64 x.1.1.2)).alloc (.cells #[.int .i64 x.1.2.1,.int .i64 x.1.2.2] 151);have t2:=Two.new (W.alloc (.cells #[.int .i64 x.1.1.1,.int .i64 x.1.1.2] 151)) (.int .i64 x.1.2.1) (.int .i64 x.1.2.2);rw[ld]at t2;exact R _ _ (k2.from _) k3 ⟨⟨hp,(h.alloc _).alloc _⟩,d.trans k1⟩ ⟨W.heap.size,W.heap.size+1,d9,by omega,by omega,t1,t2,rfl⟩
   case body=>
    rintro l pre x a' W hl ⟨r,P⟩ ⟨⟨hp,h⟩,d⟩ ⟨Q,H,h1,h2,h3,h4,h5,rfl⟩ E;have hx:=h.cell;have de:=h.frozen;have c0:=h4.cell0;have c1:=h4.cell1;have d0:=h5.cell0;have d1:=h5.cell1;have l1:=h4.lt;have l2:=h5.lt;have i7:Tryz.prog.follows .mixedOrders=true:=by kernel_rfl
    gi_wp2
    have ym:=Lib.hid x.2.1;have dp:=Lib.hid x.2.2;gi_region_with_o (refine⟨trivial,?_⟩;gi_at_call 215;refine(CallsIn.inRound l (jn.2 (Pt _ _ _ ?_))).mono ?_;(first|exact ym.out|exact dp.out);rintro e w' ⟨rfl,u⟩;try (have q0:=(u.cell (p:=⟨H,0,none⟩) l2).trans d0;have q1:=(u.cell (p:=⟨H,1,none⟩) l2).trans d1))
    all_goals
     have T:=‹Below W.drew.heap.size W.drew _›;have TV:Below W.heap.size W w':=((Below.refl _ W).drew.trans T).trans (u.mono T.size);have I:=yH h TV (by omega);have i8:=I.cell;have i9:=I.frozen;have bm:KeepsOthers W w':=⟨TV.size,λk o ho _=>(TV.block k (bk.1 ho).1).trans ho⟩;have dt:=bC.of_below TV;have bv:=d.trans (TV.mono d.size);have dv:=Lib.hid hp;clear T u hp TV d;by_cases hm:xJ x.1=true
     .have dT:(bits BinOp.and IntKind.i64 ((2^x.1.1.2.toNat-1)*2^x.1.1.1.toNat) ((2^x.1.2.2.toNat-1)*2^x.1.2.1.toNat) != 0)=true:=hm
      gi_wp2
      exact⟨(bm.trans (KeepsOthers.setCell _ _ _)).from _,⟨rfl,⟨x,eS.2 (.inr (by simp)),hm⟩,I.set _⟩,bv.setCell (p:=⟨w.heap.size,0,none⟩) (aq _) _⟩
     .have ca:xJ x.1=false:=by simpa using hm
      have dT:(bits BinOp.and IntKind.i64 ((2^x.1.1.2.toNat-1)*2^x.1.1.1.toNat) ((2^x.1.2.2.toNat-1)*2^x.1.2.1.toNat) != 0)=false:=ca;gi_wp2
      exact⟨bm.from _,dt,⟨λp eh=>(eS.1 eh).elim (dv.out p) (λe=>by simp at e;subst e;exact ca),I⟩,bv⟩
   case done=>
    rintro D ys W hD fh ⟨⟨hp,h⟩,d⟩ R;have hx:=h.cell;have de:=h.frozen;gi_wp2
    have U:=(KeepsOthers.setCell W ⟨w.heap.size,0,none⟩ (.bool true)).same D _ R rfl;refine⟨by simp,.inl ⟨_,_,rfl,kO U,?_⟩⟩;have zq:=m9 (World.cell?_setCell_same' W ⟨w.heap.size,0,none⟩ (.bool true) (by rw[hx];rfl)) (gA _ D (.deferred none)) (λr e=>by cases e;exact⟨_,U,rfl⟩);have V:iX f=true:=by
     unfold iX;rw[z,Bool.true_and,bp];intro p cb;rw[<-fh,kx]at cb;obtain⟨q,hq,rfl⟩:=cb;rw[hp q hq];rfl
    refine⟨.bool true,?_,by rw[V],(d.setCell (p:=⟨w.heap.size,0,none⟩) (aq _) _).trans (pI (w:=w) (aq _) _ D _ _ (by omega) U rfl rfl)⟩;simp[results,Tryz.f152,go_sem,zq]
   case stop=>
    rintro D c pre W hD ce ⟨⟨rfl,⟨q,hq,fi⟩,h⟩,d⟩ R;have hx:=h.cell;gi_wp2
    refine⟨by simp,.inl ⟨_,_,rfl,kO R,?_⟩⟩;have zq:=m9 hx (gA _ D (.deferred none)) (λr e=>by cases e;exact⟨_,R,rfl⟩);have V:iX f=false:=by
     unfold iX;rw[z,Bool.true_and,List.all_eq_false];exact⟨q.1,ce.subset (kx.2 ⟨q,hq,rfl⟩),by simp[fi]⟩
    refine⟨.bool false,?_,by rw[V],d.trans (pI (w:=w) (aq _) W D _ _ (by omega) R rfl rfl)⟩;simp[results,Tryz.f152,go_sem,zq]
end
section
open Go.RowKit Go.bn
attribute [local go_sem ↓] Go.wp_at_zero Go.wp_at_succ
def dO(w:Int):List ((Int×Int)×Int)->Option Int
 |[]=>some w
 |(f,v)::r=>if v<0\/2^f.2.toNat-1<v then none else dO (lC w f.1.toNat f.2.toNat v) r
def kC(f:List (Int×Int))(v:List Int):Option Int:=if v.length=f.length/\iX f=true then dO 0 (f.zip v)else none
def RJ(w:Int)(l:List ((Int×Int)×Int))(f:Int×Int)(v:Int):dO w (l++[(f,v)])=(dO w l).bind λx=>if v<0\/2^f.2.toNat-1<v then none else some (lC x f.1.toNat f.2.toNat v):=by
 induction l generalizing w with
 |nil=>simp[dO]
 |cons p r i=>
  obtain⟨g,u⟩:=p;simp only[eE,dO];split
  .rfl
  .exact i _
def uo{w:Int}{l r:List ((Int×Int)×Int)}(h:dO w l=none):dO w (l++r)=none:=by
 induction l generalizing w with
 |nil=>cases h
 |cons p l i=>
  obtain⟨g,u⟩:=p;simp only[eE,dO]at h ⊢;split at h
  .rename_i c;rw[tz c]
  .rename_i c;rw[ck c];exact i h
def DV(o:Option Int):Value:=match o with|some w=>.tuple #[.int .i64 w,.bool true]|none=>.tuple #[.int .i64 0,.bool false]
set_option maxHeartbeats 1000000 in
def aa8(A A':Option Addr)(I r:Nat)(f:List (Int×Int))(v:List Int)(y:f.length<=I)(B:f.length<=1000)(cb:v.length<=r)(w:World)
  (T:dN wO 2 w w.heap.size A f) (hV:dN encI 1 w w.heap.size A' v):
  Calls Tryz.prog 100 #[.slice A f.length I,.slice A' v.length r] w λe c=>e=.returned (DV (kC f v))/\Below w.heap.size w c:=by
 by_cases F:v.length=f.length
 case neg=>
  have ce:(((v.length:Nat):Int) != ((f.length:Nat):Int))=true:=by simp;omega
  have m:kC f v=none:=by simp[kC,F]
  have H:=Lib.hid m;clear m;go_enter Tryz.func100,Tryz.ntmps100
  go_wp2
  go_ret2
  exact⟨by rw[H.out];rfl,Below.refl _ _⟩
 case pos=>
  by_cases a:iX f=true
  case neg=>
   have m:kC f v=none:=by simp[kC,a]
   have H:=Lib.hid m;have co:iX f=false:=by simpa using a
   clear m a;have HL:=Lib.hid F;have U:(((v.length:Nat):Int) != ((f.length:Nat):Int))=false:=by simp;omega
   clear F;go_enter Tryz.func100,Tryz.ntmps100
   go_wp2_with (go_at_call 152;refine(MK _ _ _ y B _ T).mono ?_;rintro e w1 ⟨rfl,C⟩)
   go_ret2
   exact⟨by rw[H.out];rfl,C⟩
  case pos=>
   have uE:∀k (h:k<f.length),gN f[k].1 f[k].2=true:=by
    intro k h;unfold iX at a;rw[bj]at a;have:=a.1;unfold fU at this;rw[bp]at this;exact this _ (eC h)
   have m:kC f v=dO 0 (f.zip v):=by simp[kC,a,F]
   have H:=Lib.hid m;have HL:=Lib.hid F;have HI:=Lib.hid uE;have U:(((v.length:Nat):Int) != ((f.length:Nat):Int))=false:=by simp;omega
   have d5:v.length<=f.length:=by omega
   have d6:f.length<=v.length:=by omega
   clear F m uE;go_enter Tryz.func100,Tryz.ntmps100
   go_wp2_with (go_at_call 152;refine(MK _ _ _ y B _ T).mono ?_;rintro e w1 ⟨rfl,C⟩)
   clear a
   go_loopw [6,21] (fun x i wr=>∃(k:Nat) (z:Int),k<=f.length/\i=.int .i64 k/\x=.int .i64 z/\yl z/\dO 0 ((f.zip v).take k)=some z/\Below w.heap.size w wr)
    (λ_ i _=>f.length-(intOf i).toNat)
   case atStart=>exact⟨0,0,tE _,rfl,rfl,by unfold yl;omega,by simp[dO],C⟩
   case round=>
    obtain⟨k,z,hk,rfl,rfl,m,J,G⟩:=hrel;have s:=G.size;have HG:=Lib.hid J;have K:=Lib.hid m;clear J m;by_cases L:k<f.length
    .have V:k<v.length:=by omega
     have W:=T.below G;have X:=hV.below G;obtain⟨b,d7,rfl,d8,Y,ac⟩:=fieldAt W L;obtain⟨D,d,rfl,d9,hv⟩:=NM X V;have Q:=HI.out k L;obtain⟨p,hp⟩:∃p,p=f[k]:=⟨_,rfl⟩;obtain⟨u,hu⟩:∃u,u=v[k]:=⟨_,rfl⟩;rw[<-hp]at Y ac Q;rw[<-hu]at hv;have o:dO 0 ((f.zip v).take (k+1))=if u<0\/2^p.2.toNat-1<u then none else some (lC z p.1.toNat p.2.toNat u):=by
      have am:k<(f.zip v).length:=by simp;omega
      rw[dg am];have:(f.zip v)[k]=(p,u):=by simp[hp,hu]
      rw[this,RJ,HG.out];rfl
     have HN:=Lib.hid o;clear hp hu o;have dd:b<wr.heap.size:=by omega
     have E:D<wr.heap.size:=by omega
     by_cases q:u<0
     .have ao:decide (u<0)=true:=by simpa using q
      go_wp2
      go_quiet (fail)
      go_wp2
      go_ret2
      refine⟨?_,fR (G.alloc s _) _⟩;have n:kC f v=none:=by
       rw[H.out, <-List.take_append_drop (k+1) (f.zip v)];exact uo (by rw[HN.out,tz (.inl q)])
      rw[n];rfl
     .have ao:decide (u<0)=false:=by simpa using q
      have ca:0<=u:=by omega
      have de:=nK.1 Q;have dp:=wF p.2.toNat (by omega);have S:(wr.alloc (.cells #[.int .i64 p.1,.int .i64 p.2] 151)).cell? ⟨wr.heap.size,0,none⟩=some (.int .i64 p.1):=by simp
      have N:(wr.alloc (.cells #[.int .i64 p.1,.int .i64 p.2] 151)).cell? ⟨wr.heap.size,1,none⟩=some (.int .i64 p.2):=by simp
      have O:(wr.alloc (.cells #[.int .i64 p.1,.int .i64 p.2] 151)).cell? ⟨D,d+k,none⟩=some (.int .i64 u):=(pZ _ _ ⟨D,d+k,none⟩ E).trans hv;have mK:Below w.heap.size w (wr.alloc (.cells #[.int .i64 p.1,.int .i64 p.2] 151)):=G.alloc s _;have oW:wr.heap.size<(wr.alloc (.cells #[.int .i64 p.1,.int .i64 p.2] 151)).heap.size:=by simp
      go_wp2
      go_region_held3 (λc=>c.cell? ⟨wr.heap.size,0,none⟩=some (.int .i64 p.1)/\c.cell? ⟨wr.heap.size,1,none⟩=some (.int .i64 p.2)/\c.cell? ⟨D,d+k,none⟩=some (.int .i64 u)/\Below w.heap.size w c/\wr.heap.size<c.heap.size)
      (first|exact⟨S,N,O,mK.drew,oW⟩|(obtain⟨g1,g2,g3,gB,Z⟩:=‹World.cell? _ _=_/\_/\_/\Below _ _ _/\_<_›;exact⟨(l.cell (p:=⟨wr.heap.size,0,none⟩) Z).trans g1,(l.cell (p:=⟨wr.heap.size,1,none⟩) Z).trans g2,(l.cell (p:=⟨D,d+k,none⟩) (gk E Z)).trans g3,gB.trans (l.mono (eM s (gl Z))),ba Z l.size⟩))
      (first|(go_at_call 153;refine(DZ _ _ _ Q).mono ?_;rintro e w2 ⟨rfl,l⟩))
      obtain⟨ar,bi,rQ,TQ,bm⟩:=‹World.cell? _ _=_/\_/\_/\Below _ _ _/\_<_›;clear S N O mK oW l;by_cases P:2^p.2.toNat-1<u
      .go_wp2
       go_ret2
       refine⟨?_,TQ⟩;have n:kC f v=none:=by
        rw[H.out, <-List.take_append_drop (k+1) (f.zip v)];exact uo (by rw[HN.out,tz (.inr P)])
       rw[n];rfl
      .have R:u<=2^p.2.toNat-1:=by omega
       go_wp2
       go_region_held3 (λc=>c.cell? ⟨wr.heap.size,0,none⟩=some (.int .i64 p.1)/\c.cell? ⟨wr.heap.size,1,none⟩=some (.int .i64 p.2)/\c.cell? ⟨D,d+k,none⟩=some (.int .i64 u)/\Below w.heap.size w c/\wr.heap.size<c.heap.size)
       (first|exact⟨ar,bi,rQ,TQ.drew,bm⟩|(obtain⟨g1,g2,g3,gB,Z⟩:=‹World.cell? _ _=_/\_/\_/\Below _ _ _/\_<_›;exact⟨(l.cell (p:=⟨wr.heap.size,0,none⟩) Z).trans g1,(l.cell (p:=⟨wr.heap.size,1,none⟩) Z).trans g2,(l.cell (p:=⟨D,d+k,none⟩) (gk E Z)).trans g3,gB.trans (l.mono (eM s (gl Z))),ba Z l.size⟩))
        (first|(go_at_call 154;refine(aeG _ _ _ _ ?_ _ Q).mono ?_;exact K.out;rintro e w3 ⟨rfl,l⟩))
       go_wp2;obtain⟨dt,dv,dT,bv,eh⟩:=‹World.cell? w3 _=_/\_/\_/\Below _ _ _/\_<_›;go_roundw
       case rel=>exact⟨k+1,_,by omega,by go_num,rfl,(O3 K.out _ _ (by omega) u).1,by rw[HN.out,ck (by omega)],bv⟩
       case measure=>simp[intOf];omega
    .obtain rfl:k=f.length:=by omega
     go_wp2
     go_ret2
     refine⟨?_,G⟩;have:=HG.out;rw[px (by simp;omega)]at this;rw[H.out,this];rfl
