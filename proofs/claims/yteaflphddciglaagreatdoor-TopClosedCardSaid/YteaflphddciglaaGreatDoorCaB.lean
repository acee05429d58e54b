/- Laws of the proof, joined. No condition of its own. -/
import Derived.Test.YteaflphddciglaaGreatDoorProg
import Derived.Test.YteaflphddciglaaGreatDoorCaA
import Derived.WalkLawsBesides
import Derived.WalkSpells
import Derived.Deep.RegionHeld3
import Derived.Deep.DrawnRows
import Derived.Lib.Hide
import Derived.RangeFuncNested
import Derived.RangeFuncBound
import Derived.Shelf.RegionOpen
import Derived.OwnWalkIn
import Derived.LoopNIn
import Derived.LoopIn
set_option linter.all false
def aq:=@Nat.le_refl
def aw:=@List.getElem?_eq_getElem
def ba:=@Nat.lt_of_lt_of_le
def bj:=@Bool.and_eq_true
def bk:=@Array.getElem?_eq_some_iff
def bp:=@List.all_eq_true
def b7:=@Go.RowKit.Below.heap_alloc
def cg:=@Nat.zero_add
def cn:=@Nat.lt_or_ge
def ct:=@List.length_cons
def cC:=@Go.bodyPost_ret
def cL:=@Nat.zero_le
def cU:=@List.size_toArray
def cW:=@List.length_nil
def cY:=@List.mem_singleton
def dg:=@List.take_succ_eq_append_getElem
def dr:=@List.nil_append
def eA:=@List.mem_range
def eC:=@List.getElem_mem
def eE:=@List.cons_append
def eJ:=@Array.replicate_zero
def eK:=@Array.replicate_succ
def eM:=@Nat.le_trans
def eR:=@Option.map_some
def eS:=@List.mem_append
def eW:=@List.append_toArray
def fj:=@List.getElem?_drop
def fR:=@Go.below_drewN
def fS:=@List.push_toArray
def gk:=@Nat.lt_trans
def gl:=@Nat.le_of_lt
def gA:=@Go.grownBy_putObj'
def gE:=@decide_eq_false_iff_not
def jn:=@Go.callsIn_wide
def kj:=@Nat.add_mul
def kx:=@List.mem_map
def kO:=@Go.run_takeDeferred
def ld:=@Go.World.size_alloc
def lP:=@List.take_length
def mC:=@Go.World.alloc_heap_new
def mN:=@Go.callsIn_of_wp_marks
def m9:=@Go.cell_kept
def nj:=@Array.getElem?_eq_none
def oa:=@Go.callsIn_of_wp
def px:=@List.take_of_length_le
def pI:=@Go.belowK_b
def pZ:=@Go.World.cell?_alloc_lt
def qv:=@List.mem_of_mem_drop
def rj:=@List.all_append
namespace Go.Proofs.YteaflphddciglaaGreatDoor
section
open Go.RowKit Go.bn
attribute [local go_sem ↓] Go.wp_at_zero Go.wp_at_succ
def gN(a d:Int):Bool:=decide (0<=a/\a<=62/\1<=d/\d<=62-a)
theorem nK{a d:Int}:gN a d=true↔(0<=a/\a<=62/\1<=d/\d<=62-a):=by simp[gN]
theorem aaS{a d:Int}:gN a d=false↔¬(0<=a/\a<=62/\1<=d/\d<=62-a):=by simp only[gN,gE]
theorem ji{a b:Bool}(h:a=b):Ending.returned (.bool a)=Ending.returned (.bool b):=by rw[h]
theorem DR{k:IntKind}{a b:Int}(h:a=b):Ending.returned (.int k a)=Ending.returned (.int k b):=by rw[h]
theorem Eo{W w1:World}(hb:Below W.heap.size W w1):(∀b o,b<W.heap.size->w1.cell? ⟨b,o,none⟩=W.cell? ⟨b,o,none⟩)/\(∀b o,b<W.heap.size->w1.frozen? ⟨b,o,none⟩=W.frozen? ⟨b,o,none⟩):=
 ⟨λb o h=>hb.cell (p:=⟨b,o,none⟩) h,λb o h=>hb.frozen (p:=⟨b,o,none⟩) h⟩
theorem jR(a d:Int)(w:World):
  Calls Tryz.prog 132 #[.agg #[.int .i64 a,.int .i64 d]] w λe w'=>e=.returned (.bool (gN a d))/\Below w.heap.size w w':=by
 go_enter Tryz.func132,Tryz.ntmps132
 go_wp2
 all_goals go_ret
 all_goals refine⟨ji ?_,(Below.refl _ _).alloc (aq _) _⟩
 all_goals first|(rw[gN,decide_eq_decide];omega)|(symm;rw[aaS];omega)
theorem wF(n:Nat)(h:n<=62):1<=(2:Int)^n/\(2:Int)^n<=4611686018427387904:=by
 have h1:=aU n;have h2:(2:Int)^n<=2^62:=O5 h;exact⟨by omega,h2⟩
theorem DZ(a d:Int)(w:World)(hr:gN a d=true):
  Calls Tryz.prog 153 #[.agg #[.int .i64 a,.int .i64 d]] w λe w'=>e=.returned (.int .i64 (2^d.toNat-1))/\Below w.heap.size w w':=by
 have h:=nK.1 hr;obtain⟨h0,h1,h2,h3⟩:=h;obtain⟨hp1,hp2⟩:=wF d.toNat (by omega)
 go_enter Tryz.func153,Tryz.ntmps153
 go_wp2_with (go_at_call 132;refine(jR _ _ _).mono ?_;rintro e w' ⟨rfl,hb⟩;obtain⟨hc,hf⟩:=Eo hb)
 go_ret;exact⟨DR rfl,((Below.refl _ _).alloc (aq _) _).trans (hb.mono (by simp))⟩
theorem Pt(a d:Int)(w:World)(hr:gN a d=true):
  Calls Tryz.prog 215 #[.agg #[.int .i64 a,.int .i64 d]] w λe w'=>e=.returned (.int .i64 ((2^d.toNat-1)*2^a.toNat))/\Below w.heap.size w w':=by
 have h:=nK.1 hr;obtain⟨h0,h1,h2,h3⟩:=h;obtain⟨hp1,hp2⟩:=wF d.toNat (by omega);have hm:=KF a.toNat d.toNat (by omega)
 go_enter Tryz.func215,Tryz.ntmps215
 go_wp2
 go_region_held3 (fun w'=>w'.cell? ⟨w.heap.size,0,none⟩=some (.int .i64 a)/\w'.cell? ⟨w.heap.size,1,none⟩=some (.int .i64 d)/\Below w.heap.size w w'/\w.heap.size<w'.heap.size)
  (refine⟨?_,?_,?_,?_⟩<;>first|(simp[*];done)|exact((Below.refl _ _).alloc (aq _) _).drew|exact(‹_/\_/\Below _ _ _/\_›.2.2.1.trans (hb.mono (by first|omega|(simp;done)|(simp;omega))))|(have:=hb.size;first|omega|(simp at this;omega)))
  (first|(go_at_call 153;refine(DZ _ _ _ hr).mono ?_;rintro e w1 ⟨rfl,hb⟩;obtain⟨hc,hf⟩:=Eo hb))
 go_wp2;go_ret;exact⟨DR (IntWalk.i64_in _ (by omega)),‹_/\_/\Below _ _ _/\_›.2.2.1⟩
theorem afv(x a d:Int)(w:World)(hr:gN a d=true):
  Calls Tryz.prog 133 #[.int .i64 x,.agg #[.int .i64 a,.int .i64 d]] w λe w'=>e=.returned (.int .i64 (bF x a.toNat d.toNat))/\Below w.heap.size w w':=by
 have h:=nK.1 hr;obtain⟨h0,h1,h2,h3⟩:=h;obtain⟨hp1,hp2⟩:=wF d.toNat (by omega)
 go_enter Tryz.func133,Tryz.ntmps133
 go_wp2_with (go_at_call 132;refine(jR _ _ _).mono ?_;rintro e w1 ⟨rfl,hb1⟩;obtain⟨hc,hf⟩:=Eo hb1)
 have hB:Below w.heap.size w w1:=((Below.refl _ _).alloc (aq _) _).trans (hb1.mono (by simp));have hZ:w.heap.size<w1.heap.size:=by have:=hb1.size;simp at this;omega
 have hC0:w1.cell? ⟨w.heap.size,0,none⟩=some (.int .i64 a):=(hb1.cell (p:=⟨w.heap.size,0,none⟩) (by simp)).trans (by simp);have vD:w1.cell? ⟨w.heap.size,1,none⟩=some (.int .i64 d):=(hb1.cell (p:=⟨w.heap.size,1,none⟩) (by simp)).trans (by simp);clear hc hf
 go_region_held3 (fun w'=>w'.cell? ⟨w.heap.size,0,none⟩=some (.int .i64 a)/\w'.cell? ⟨w.heap.size,1,none⟩=some (.int .i64 d)/\Below w.heap.size w w'/\w.heap.size<w'.heap.size)
  (first|exact⟨hC0,vD,hB.drew,hZ⟩|(obtain⟨g1,g2,gB,gZ⟩:=‹World.cell? _ _=_/\_/\Below _ _ _/\_<_›;exact⟨(hb.cell (p:=⟨w.heap.size,0,none⟩) gZ).trans g1,(hb.cell (p:=⟨w.heap.size,1,none⟩) gZ).trans g2,gB.trans (hb.mono (gl gZ)),ba gZ hb.size⟩))
  (first|(go_at_call 153;refine(DZ _ _ _ hr).mono ?_;rintro e w2 ⟨rfl,hb⟩))
 go_wp2;go_ret;exact⟨DR (by rw[Lg _ _ (by omega)];rfl),‹_/\_/\Below _ _ _/\_›.2.2.1⟩
theorem aeG(x a d v:Int)(hx:yl x)(w:World)(hr:gN a d=true):
  Calls Tryz.prog 154 #[.int .i64 x,.agg #[.int .i64 a,.int .i64 d],.int .i64 v] w λe w'=>e=.returned (.int .i64 (lC x a.toNat d.toNat v))/\Below w.heap.size w w':=by
 have h:=nK.1 hr;obtain⟨h0,h1,h2,h3⟩:=h;obtain⟨hp1,hp2⟩:=wF d.toNat (by omega);have HX:=Lib.hid hx;clear hx;go_enter Tryz.func154,Tryz.ntmps154
 go_wp2_with (go_at_call 132;refine(jR _ _ _).mono ?_;rintro e w1 ⟨rfl,hb1⟩;obtain⟨hc,hf⟩:=Eo hb1)
 have hB:Below w.heap.size w w1:=((Below.refl _ _).alloc (aq _) _).trans (hb1.mono (by simp));have hZ:w.heap.size<w1.heap.size:=by have:=hb1.size;simp at this;omega
 have hC0:w1.cell? ⟨w.heap.size,0,none⟩=some (.int .i64 a):=(hb1.cell (p:=⟨w.heap.size,0,none⟩) (by simp)).trans (by simp);have vD:w1.cell? ⟨w.heap.size,1,none⟩=some (.int .i64 d):=(hb1.cell (p:=⟨w.heap.size,1,none⟩) (by simp)).trans (by simp);clear hc hf
 go_region_held3 (fun w'=>w'.cell? ⟨w.heap.size,0,none⟩=some (.int .i64 a)/\w'.cell? ⟨w.heap.size,1,none⟩=some (.int .i64 d)/\Below w.heap.size w w'/\w.heap.size<w'.heap.size)
  (first|exact⟨hC0,vD,hB.drew,hZ⟩|(obtain⟨g1,g2,gB,gZ⟩:=‹World.cell? _ _=_/\_/\Below _ _ _/\_<_›;exact⟨(hb.cell (p:=⟨w.heap.size,0,none⟩) gZ).trans g1,(hb.cell (p:=⟨w.heap.size,1,none⟩) gZ).trans g2,gB.trans (hb.mono (gl gZ)),ba gZ hb.size⟩))
  (first|(go_at_call 153;refine(DZ _ _ _ hr).mono ?_;rintro e w2 ⟨rfl,hb⟩)|(go_at_call 215;refine(Pt _ _ _ hr).mono ?_;rintro e w2 ⟨rfl,hb⟩))
 go_wp2;go_ret;have hv:=iH v d.toNat;have hfb:=Qo (a:=a.toNat) (d:=d.toNat) (by omega) hv.1 hv.2
 exact⟨DR (by rw[Lg v _ (by omega),IntWalk.i64_in _ (by omega),aaY x HX.out _ _ (by omega) v]),‹_/\_/\Below _ _ _/\_›.2.2.1⟩
def dN{α:Type}(enc:α->List Value)(size:Nat)(w:World)(B:Nat)(A:Option Addr)(xs:List α):Prop:=
 xs≠[]->∃b off,A=some ⟨b,off,none⟩/\b<B/\∀k x,xs[k]?=some x->∀j u,(enc x)[j]?=some u->w.cell? ⟨b,off+k*size+j,none⟩=some u
section
variable{α:Type} {enc:α->List Value} {size:Nat} {w w':World} {B B':Nat} {A:Option Addr} {xs:List α}
theorem dN.keep(h:dN enc size w B A xs)(hk:∀p:Addr,p.block<B->w'.cell? p=w.cell? p):dN enc size w' B A xs:=λhn=>by
 obtain⟨b,off,e,hb,hc⟩:=h hn;exact⟨b,off,e,hb,λk x hx j u hu=>(hk ⟨b,off+k*size+j,none⟩ hb).trans (hc k x hx j u hu)⟩
theorem dN.below(h:dN enc size w B A xs)(hb:Below B w w'):dN enc size w' B A xs:=h.keep λ_ hp=>hb.cell hp
theorem dN.more(h:dN enc size w B A xs)(hB:B<=B'):dN enc size w B' A xs:=λhn=>by
 obtain⟨b,off,e,hb,hc⟩:=h hn;exact⟨b,off,e,by omega,hc⟩
theorem dN.at_(h:dN enc size w B A xs){k:Nat}(hk:k<xs.length):
  ∃b off,A=some ⟨b,off,none⟩/\b<B/\∀j u,(enc xs[k])[j]?=some u->w.cell? ⟨b,off+k*size+j,none⟩=some u:=by
 obtain⟨b,off,e,hb,hc⟩:=h (by rintro rfl;simp at hk);exact⟨b,off,e,hb,hc k _ (aw hk)⟩
end
def wO(f:Int×Int):List Value:=[.int .i64 f.1,.int .i64 f.2]
def encI(n:Int):List Value:=[.int .i64 n]
theorem fieldAt{w:World}{B:Nat}{A:Option Addr}{l:List (Int×Int)}(h:dN wO 2 w B A l){k:Nat}(hk:k<l.length):
  ∃b off,A=some ⟨b,off,none⟩/\b<B/\w.cell? ⟨b,off+k*2,none⟩=some (.int .i64 l[k].1)/\w.cell? ⟨b,off+k*2+1,none⟩=some (.int .i64 l[k].2):=by
 obtain⟨b,off,e,hb,hc⟩:=h.at_ hk;exact⟨b,off,e,hb,hc 0 _ rfl,hc 1 _ rfl⟩
theorem NM{w:World}{B:Nat}{A:Option Addr}{l:List Int}(h:dN encI 1 w B A l){k:Nat}(hk:k<l.length):
  ∃b off,A=some ⟨b,off,none⟩/\b<B/\w.cell? ⟨b,off+k,none⟩=some (.int .i64 l[k]):=by
 obtain⟨b,off,e,hb,hc⟩:=h.at_ hk;exact⟨b,off,e,hb,by have:=hc 0 _ rfl;simpa using this⟩
theorem aa7(F:Fence)(n:Nat)(h29:F.fn 214)(hro:F.round=none)(A:Option Addr)(len cap:Nat)(w:World):
  CallsIn F n Tryz.prog 214 #[.slice A len cap] w λe w'=>e=.returned (.func (.func 255) #[] #[.pointer (some ⟨w.heap.size,0,none⟩)])/\w'=w.alloc (.cells #[.slice A len cap] 154):=by
 refine oa Tryz.func214 rfl h29 ?_ hro;simp only[Tryz.ntmps214,cU,ct,cW,Nat.reduceAdd,Nat.reduceSub,eK,eJ,fS,eW,dr,eE];gi_wp2
 go_ret;exact⟨rfl,rfl⟩
end
section
open Go.RowKit Go.bn Go.Shelf
attribute [local go_sem] Oper.semAt_some
structure bC(W W':World):Prop where
 size:W.heap.size<=W'.heap.size
 same:∀(b:Nat) (o:Obj),W.heap[b]?=some o->o.isCells=true->W'.heap[b]?=some o
theorem bC.refl(W:World):bC W W:=⟨aq _,λ_ _ h _=>h⟩
theorem bC.trans{A B C:World}(h:bC A B)(k:bC B C):bC A C:=⟨eM h.size k.size,λb o hb ho=>k.same b o (h.same b o hb ho) ho⟩
theorem bC.put{w:World}(W:World)(l:Nat)(o o':Obj)(_:w.heap.size<=l)(h:W.heap[l]?=some o)(ho:o.isCells=false)(_:o.isWalk=false):bC W (W.putObj l o'):=by
 refine⟨by simp[World.putObj],?_⟩;intro b x hb hx;have hne:b≠l:=by rintro rfl;rw[h]at hb;cases hb;rw[ho]at hx;cases hx
 simp[World.putObj,hne.symm,hb]
theorem bC.cell{W W':World}(h:bC W W'){p:Addr}{v:Value}(hc:W.cell? p=some v):W'.cell? p=some v:=by
 unfold World.cell? at hc ⊢;split at hc
 .rename_i c t f e
  rw[h.same _ _ e rfl];exact hc
 .cases hc
theorem bC.of_below{W W':World}(h:Below W.heap.size W W'):bC W W':=⟨h.size,λb o hb _=>by
 rw[h.block b (bk.1 hb).1];exact hb⟩
theorem bC.rowAt{α:Type}{enc:α->List Value}{size:Nat}{w w':World}{B:Nat}{A:Option Addr}{xs:List α}(h:bC w w')(hr:dN enc size w B A xs):dN enc size w' B A xs:=λhn=>by
 obtain⟨b,off,e,hb,hc⟩:=hr hn;exact⟨b,off,e,hb,λk x hx j u hu=>h.cell (hc k x hx j u hu)⟩
theorem EC{α:Type}{enc:α->List Value}{size:Nat}{w:World}{B:Nat}{A:Option Addr}{xs:List α}(h:dN enc size w B A xs)(hB:B<=w.heap.size)(o:Obj):dN enc size (w.alloc o) B A xs:=
 h.keep λp hp=>pZ w o p (by omega)
theorem Ei{w:World}{b o:Nat}{v:Value}(h:w.cell? ⟨b,o,none⟩=some v):b<w.heap.size:=by
 rcases cn b w.heap.size with h1|h1
 .exact h1
 .unfold World.cell? at h;simp[nj h1]at h
theorem UN{P:Program}{t e:TypeId}{sz:Nat}(ht:P.underlying t=some (.slice (P.elem t)))(he:P.elem t=e)(hs:∀w,(sizeOf e).run P w=.ok sz w){α:Type}{enc:α->List Value}{A:Option Addr}{n cap:Nat}{xs:List α}(hn:n=xs.length)(hc:n<=cap)(k:Nat)(hk:k<=n):
  ∃A',(∀w,(Instr.slice t (.slice A n cap) (some (.int .i64 k)) none none).run P w=.ok (.slice A' (n-k) (cap-k)) w)/\∀w B,dN enc sz w B A xs->dN enc sz w B A' (xs.drop k):=by
 refine⟨if cap=k then A else A.map (·.add (k*sz)),λw=> ?_,λw B h hne=> ?_⟩
 .rw[run_slice_l (P:=P) w t A n cap ht .i64 k (by omega) (by omega),he,hs]
  simp[Result.andThen,sliced]
 .obtain⟨b,off,rfl,hb,hcs⟩:=h (by rintro rfl;simp at hne)
  have hkl:k<xs.length:=by
   rcases cn k xs.length with h1|h1
   .exact h1
   .exact absurd (List.drop_eq_nil_of_le h1) hne
  rw[if_neg (by omega)];refine⟨b,off+k*sz,?_,hb,λj x hx i u hu=> ?_⟩
  .simp only[eR,Addr.add]
   split
   .rename_i h0;simp[h0]
   .rfl
  .have:=hcs (k+j) x (by rw[<-hx,fj]) i u hu
   rw[kj]at this;rw[Nat.add_assoc off];exact this
def eF(l:List (Int×Int)):List ((Int×Int)×(Int×Int)):=(List.range l.length).flatMap λi=>(l.drop (i+1)).map λg=>(l[i]?.getD (0,0),g)
def qg(l:List (Int×Int))(k:Nat):List ((Int×Int)×(Int×Int)):=(List.range k).flatMap λi=>(l.drop (i+1)).map λg=>(l[i]?.getD (0,0),g)
def kE(l:List (Int×Int))(k m:Nat):List ((Int×Int)×(Int×Int)):=qg l k++((l.drop (k+1)).take m).map λg=>(l[k]?.getD (0,0),g)
theorem Cm(l:List (Int×Int))(k:Nat):qg l (k+1)=kE l k (l.length-(k+1)):=by
 unfold qg kE qg;rw[List.range_succ,List.flatMap_append];simp;rw[px (by simp)]
theorem Pb(l:List (Int×Int))(k:Nat):kE l k 0=qg l k:=by simp[kE]
theorem Pd(l:List (Int×Int))(k m:Nat)(h:k+1+m<l.length):kE l k (m+1)=kE l k m++[(l[k]?.getD (0,0),l[k+1+m])]:=by
 unfold kE;rw[dg (by simp;omega)];simp
theorem RG(l:List (Int×Int)){k:Nat}(hk:k<=l.length):qg l k<+:eF l:=by
 unfold qg eF;refine⟨((List.range' k (l.length-k)).flatMap λi=>(l.drop (i+1)).map λg=>(l[i]?.getD (0,0),g)),?_⟩;rw[<-List.flatMap_append];congr 1;rw[List.range_eq_range',List.range_eq_range'];have:=List.range'_append_1 (s:=0) (m:=k) (n:=l.length-k);rw[cg]at this;rw[this];congr 1;omega
theorem EG(l:List (Int×Int)){k m:Nat}(hk:k<l.length):kE l k m<+:eF l:=by
 refine List.IsPrefix.trans ?_ (RG l (k:=k+1) hk);rw[Cm];unfold kE;refine(List.prefix_append_right_inj _).2 ?_;apply List.IsPrefix.map;rw[px (i:=l.length-(k+1)) (by simp)];exact List.take_prefix _ _
theorem L8{l:List (Int×Int)}{p:(Int×Int)×(Int×Int)}(h:p∈eF l):p.1∈l/\p.2∈l:=by
 unfold eF at h;rw[List.mem_flatMap]at h;obtain⟨i,hi,h⟩:=h;rw[kx]at h;obtain⟨g,hg,rfl⟩:=h;rw[eA]at hi;refine⟨?_,qv hg⟩;rw[aw hi];exact eC hi
def Qt(x:(Int×Int)×(Int×Int)):Array Value:= #[.agg #[.int .i64 x.1.1,.int .i64 x.1.2],.agg #[.int .i64 x.2.1,.int .i64 x.2.2]]
set_option maxRecDepth 100000 in
set_option maxHeartbeats 2000000 in
theorem Yl(F:Fence)(n:Nat)(h30:F.fn 255)(hro:F.round=none)(hn:1<=n)(l Bs n₀:Nat)(A:Option Addr)(cap:Nat)(fs:List (Int×Int))(hcap:fs.length<=cap)(hmax:fs.length<=1000)
  (W:World) (hn0:n₀<=W.heap.size) (J Jx:List ((Int×Int)×(Int×Int))->World->Prop) (hJa:AbidesFrom W.heap.size J)
  (hY:∀pre x W1,J pre W1->pre++[x]<+:eF fs->YieldAt F (n-1) Tryz.prog l (Qt x) W1 λe W'=>
   (e=.returned (.bool true)/\J (pre++[x]) W'/\bC W1 W')\/(e=.returned (.bool false)/\Jx (pre++[x]) W'))
  (hBs:W.cell? ⟨Bs,0,none⟩=some (.slice A fs.length cap)) (hR:dN wO 2 W n₀ A fs) (h0:J [] W):
  CallsIn F n Tryz.prog 255 #[.func (.yield l) #[] #[],.pointer (some ⟨Bs,0,none⟩)] W λe W'=>(∃v,e=.returned v)/\
   ((∃ys,ys=eF fs/\J ys W')\/(∃pre,pre<+:eF fs/\Jx pre W')):=by
 refine oa Tryz.func255 rfl h30 ?_ hro;simp only[Tryz.ntmps255,cU,ct,cW,Nat.reduceAdd,Nat.reduceSub,eK,eJ,fS,eW,dr,eE];gi_wp2
 gi_loopw [9] (fun i wr=>∃k:Nat,k<=fs.length/\i=.int .i64 k/\J (qg fs k) wr/\bC W wr)
  (λi _=>fs.length-(intOf i).toNat)
 case atStart=>exact⟨0,cL _,rfl,h0,bC.refl _⟩
 case round=>
  obtain⟨k,hk,rfl,hJs,hK⟩:=hrel;have hsz:=hK.size;by_cases hlt:k<fs.length
  .obtain⟨b,off,rfl,hb,hc0,hc1⟩:=fieldAt (hK.rowAt hR) hlt
   have alx:=hK.cell hBs;have hBlt:Bs<wr.heap.size:=ba (Ei hBs) hsz;obtain⟨A2,hsl,hR2⟩:=UN (P:=Tryz.prog) (t:=154) (e:=151) (sz:=2) Tryz.underlying154 (by kernel_rfl) (λw=>by kernel_rfl) (enc:=wO) (A:=some ⟨b,off,none⟩) (xs:=fs) rfl hcap (k+1) hlt;have EM:=hR2 _ _ (hK.rowAt hR);rw[show((k+1:Nat):Int)=(k:Int)+1 by omega]at hsl
   gi_wp2
   obtain⟨W0,hW0⟩:∃W0,wr.alloc (.cells #[.int .i64 fs[k].1,.int .i64 fs[k].2] 151)=W0:=⟨_,rfl⟩;have hJ0:J (kE fs k 0) W0:=by rw[Pb, <-hW0];exact hJa _ _ _ none hJs (World.grownBy_alloc wr _ none) (by simp)
   have hK0:bC W W0:=by rw[<-hW0];exact hK.trans (bC.of_below ((Below.refl _ _).alloc (aq _) _))
   have hf0:W0.cell? ⟨wr.heap.size,0,none⟩=some (.int .i64 fs[k].1):=by rw[<-hW0];simp
   have hf1:W0.cell? ⟨wr.heap.size,1,none⟩=some (.int .i64 fs[k].2):=by rw[<-hW0];simp
   have hR0:dN wO 2 W0 n₀ A2 (fs.drop (k+1)):=by rw[<-hW0];exact EC EM (by omega) _
   have hsz0:W.heap.size<=W0.heap.size:=by rw[<-hW0];simp;omega
   rw[hW0];clear hW0 hsl hc0 hc1 alx hR2 EM;obtain⟨fb,hfb⟩:∃fb,fb=wr.heap.size:=⟨_,rfl⟩;rw[<-hfb]at hf0 hf1 ⊢;clear hfb;obtain⟨p0,hp0⟩:∃p0,p0=fs[k]:=⟨_,rfl⟩;rw[<-hp0]at hf0 hf1 ⊢;have HP:=Lib.hid hp0;clear hp0
   gi_loopw [19] (fun i wi=>∃m:Nat,m<=fs.length-(k+1)/\i=.int .i64 m/\J (kE fs k m) wi/\bC W0 wi)
    (λi _=>fs.length-(k+1)-(intOf i).toNat)
   case atStart=>exact⟨0,cL _,rfl,hJ0,bC.refl _⟩
   case round=>
    obtain⟨m,hm,rfl,hJi,TS⟩:=hrel;have am2:=TS.size;by_cases hlm:m<fs.length-(k+1)
    .obtain⟨b2,agX,rfl,hb2,hd0,hd1⟩:=fieldAt (TS.rowAt hR0) (k:=m) (by simp;omega)
     have hg0:=TS.cell hf0;have hg1:=TS.cell hf1;have am4:=Ei hg0;have alo:m<(fs.drop (k+1)).length:=by simp;omega
     obtain⟨q0,hq0⟩:∃q0,q0=(fs.drop (k+1))[m]'alo:=⟨_,rfl⟩;rw[<-hq0]at hd0 hd1;have hps:=Pd fs k m (by omega);have hpe:(fs[k]?.getD (0,0),fs[k+1+m]'(by omega))=(p0,q0):=by
      rw[HP.out,hq0];simp[aw hlt]
     rw[hpe]at hps;have HQ:=Lib.hid hps;have hln:kE fs k m++[(p0,q0)]<+:eF fs:=by rw[<-hps];exact EG fs (m:=m+1) hlt
     clear hps hpe hq0;obtain⟨fn,tmps,assign,body,hy,hYR⟩:=hY _ (p0,q0) (wr.alloc (.cells #[.int .i64 q0.1,.int .i64 q0.2] 151)) (hJa _ _ _ none hJi (World.grownBy_alloc wr _ none) (by simp)) hln;simp only[Qt]at hy;gi_wp2
     refine hYR.mono ?_;rintro e W3 (⟨rfl,hJ3,hk3⟩|⟨rfl,hJx3⟩)
     .gi_wp2
      go_roundw
      case rel=>exact⟨m+1,by omega,by go_num,by rw[HQ.out];exact hJ3,(TS.trans (bC.of_below ((Below.refl _ _).alloc (aq _) _))).trans hk3⟩
      case measure=>simp[intOf];omega
     .gi_wp2
      refine cC (results_none rfl _ _ _) rfl ?_;exact⟨⟨_,rfl⟩,.inr ⟨_,EG fs (m:=m+1) hlt,by rw[HQ.out];exact hJx3⟩⟩
    .obtain rfl:m=fs.length-(k+1):=by omega
     gi_wp2
     go_roundw
     case rel=>exact⟨k+1,by omega,by go_num,by rw[Cm];exact hJi,hK0.trans TS⟩
     case measure=>simp[intOf];omega
  .obtain rfl:k=fs.length:=by omega
   gi_wp2
   go_end0
   exact⟨⟨_,rfl⟩,.inl ⟨_,rfl,hJs⟩⟩
def Vw(f:Int×Int):Int:=(2^f.2.toNat-1)*2^f.1.toNat
def xJ(p:(Int×Int)×(Int×Int)):Bool:=bits .and .i64 (Vw p.1) (Vw p.2) != 0
def fU(l:List (Int×Int)):Bool:=l.all λf=>gN f.1 f.2
def iX(l:List (Int×Int)):Bool:=fU l&&(eF l).all λp=> !xJ p
theorem yH{W W':World}{B:Nat}{t:TypeId}{v:Value}{n:Nat}(h:Boxed W B t v)(hb:Below n W W')(hn:B<n):Boxed W' B t v:=
 (hb.block B hn).trans h
def Two(W:World)(b:Nat)(x y:Value):Prop:=W.heap[b]?=some (.cells #[x,y] 151 (0,0))
theorem Two.new(W:World)(x y:Value):Two (W.alloc (.cells #[x,y] 151)) W.heap.size x y:=mC W _
theorem Two.lt{W:World}{b:Nat}{x y:Value}(h:Two W b x y):b<W.heap.size:=(bk.1 h).1
theorem Two.alloc{W:World}{b:Nat}{x y:Value}(h:Two W b x y)(o:Obj):Two (W.alloc o) b x y:=(b7 W o b h.lt).trans h
theorem Two.cell0{W:World}{b:Nat}{x y:Value}(h:Two W b x y):W.cell? ⟨b,0,none⟩=some x:=by simp[World.cell?,show W.heap[b]?=_ from h]
theorem Two.cell1{W:World}{b:Nat}{x y:Value}(h:Two W b x y):W.cell? ⟨b,1,none⟩=some y:=by simp[World.cell?,show W.heap[b]?=_ from h]
theorem Two.own{W W':World}{b:Nat}{x y:Value}{row:Option Nat}(h:Two W b x y)(hg:W.grownBy W' row)(hr:∀r,row=some r->∃o:Obj,W.heap[r]?=some o/\o.isCells=false):Two W' b x y:=by
 refine(hg.block b h.lt ?_).trans h;rintro rfl;obtain⟨o,ho,hc⟩:=hr b rfl;rw[show W.heap[b]?=_ from h]at ho;cases ho;cases hc
abbrev NV:={p:(Int×Int)×(Int×Int)//gN p.1.1 p.1.2=true/\gN p.2.1 p.2.2=true}
theorem Rw{fs:List (Int×Int)}(har:fU fs=true){p:(Int×Int)×(Int×Int)}(h:p∈eF fs):gN p.1.1 p.1.2=true/\gN p.2.1 p.2.2=true:=by
 unfold fU at har;rw[bp]at har;exact⟨har _ (L8 h).1,har _ (L8 h).2⟩
theorem RF(A:Option Addr)(cap:Nat)(fs:List (Int×Int))(hcap:fs.length<=cap)(hmax:fs.length<=1000)(har:fU fs=true)(nb n₀:Nat)(w:World)(hn:n₀<=w.heap.size)(hnb:nb<w.heap.size)
  (hc:w.cell? ⟨nb,0,none⟩=some (.slice A fs.length cap)) (hR:dN wO 2 w n₀ A fs):
  SeqStopsK Fence.wide 5 Tryz.prog 255 #[.pointer (some ⟨nb,0,none⟩)] (λx:NV=>Qt x.1) bC (λys=>ys.map (·.1)=eF fs) (λpre=>pre.map (·.1)<+:eF fs) (eF fs).length w:=by
 intro l J Jx W hW hJ _ hY h0;have h:=Yl Fence.wide 5 trivial rfl (by omega) l nb n₀ A cap fs hcap hmax W (by have:=hW.size;omega) (fun pre W=>∃q:List NV,q.map (·.1)=pre/\J q W) (fun pre W=>∃q:List NV,q.map (·.1)=pre/\Jx q W)
  (λs A B row hs hg hr=>by obtain⟨q,hq,Qa⟩:=hs;exact⟨q,hq,hJ q A B row Qa hg hr⟩)
  (by
   rintro pre x W1 ⟨q,rfl,Qa⟩ hpre;have hx:=Rw har (hpre.subset (eS.2 (.inr (cY.2 rfl))));have hl:=hpre.length_le;simp at hl;obtain⟨fn,tmps,assign,body,h1,h2⟩:=hY q ⟨x,hx⟩ W1 Qa (by omega);refine⟨fn,tmps,assign,body,h1,h2.mono ?_⟩;rintro e W' (⟨he,hJ',hk⟩|⟨he,hJ'⟩)
   .exact .inl ⟨he,⟨_,by simp,hJ'⟩,hk⟩
   .exact .inr ⟨he,⟨_,by simp,hJ'⟩⟩)
  ((hW.cell (p:=⟨nb,0,none⟩) hnb).trans hc) (hR.below (hW.mono hn)) ⟨[],rfl,h0⟩
 refine h.mono ?_;rintro e W' ⟨he,⟨ys,rfl,q,hq,Qa⟩|⟨pre,hpre,q,rfl,Qa⟩⟩
 .exact⟨he,.inl ⟨q,hq,Qa⟩⟩
 .exact⟨he,.inr ⟨q,hpre,Qa⟩⟩
set_option maxRecDepth 100000 in
set_option maxHeartbeats 2000000 in
theorem MK(A:Option Addr)(cap:Nat)(fs:List (Int×Int))(hcap:fs.length<=cap)(hmax:fs.length<=1000)(w:World)(hR:dN wO 2 w w.heap.size A fs):
  Calls Tryz.prog 152 #[.slice A fs.length cap] w λe w'=>e=.returned (.bool (iX fs))/\Below w.heap.size w w':=by
 refine(jn (n:=6)).1 ?_;refine mN Tryz.func152 rfl trivial ?_ rfl;simp only[Tryz.ntmps152,cU,ct,cW,Nat.reduceAdd,Nat.reduceSub,eK,eJ,fS,eW,dr,eE];gi_wp2
 gi_loopw [9] (fun i wr=>∃k:Nat,k<=fs.length/\i=.int .i64 k/\fU (fs.take k)=true/\Below w.heap.size w wr/\Boxed wr w.heap.size 4 (.bool false))
  (λi _=>fs.length-(intOf i).toNat)
 case atStart=>exact⟨0,cL _,rfl,by simp[fU],(Below.refl _ _).alloc (aq _) _,Boxed.new w 4 _⟩
 case round=>
  obtain⟨k,hk,rfl,har,hB,hb⟩:=hrel;have hsz:=hB.size;have hbl:=hb.lt;by_cases hlt:k<fs.length
  .obtain⟨b,off,rfl,ahx,hc0,hc1⟩:=fieldAt (hR.below hB) hlt
   have hcb:=hb.cell;have hfb:=hb.frozen;by_cases uE:gN fs[k].1 fs[k].2=true
   .gi_wp2_with (refine⟨trivial,?_⟩;gi_at_call 132;refine(jn.2 (jR _ _ _)).mono ?_;rintro e w1 ⟨rfl,hb1⟩;obtain⟨hc,hf⟩:=Eo hb1)
    go_roundw
    case rel=>
     refine⟨k+1,by omega,by go_num,?_,?_,?_⟩
     .rw[dg hlt]
      unfold fU at har ⊢;rw[rj,har];simp[uE]
     .exact(hB.alloc hB.size _).trans (hb1.mono (by simp;omega))
     .exact yH (hb.alloc _) hb1 (by simp;omega)
    case measure=>simp[intOf];omega
   .gi_wp2_with (refine⟨trivial,?_⟩;gi_at_call 132;refine(jn.2 (jR _ _ _)).mono ?_;rintro e w1 ⟨rfl,hb1⟩;obtain⟨hc,hf⟩:=Eo hb1)
    have hb2:Boxed (w1.setCell ⟨w.heap.size,0,none⟩ (.bool false)) w.heap.size 4 (.bool false):=(yH (hb.alloc (.cells #[.int .i64 fs[k].1,.int .i64 fs[k].2] 151)) hb1 (by simp;omega)).set _;have hc2:=hb2.cell;have hna:iX fs=false:=by
     have:fU fs=false:=by
      unfold fU;rw[List.all_eq_false];exact⟨_,eC hlt,uE⟩
     simp[iX,this]
    refine⟨.bool false,?_,by rw[hna],?_⟩
    .simp[results,Tryz.f152,go_sem,hc2]
    .exact((hB.alloc hB.size _).trans (hb1.mono (by simp;omega))).setCell (p:=⟨w.heap.size,0,none⟩) (aq _) _
  .obtain rfl:k=fs.length:=by omega
   have har':fU fs=true:=by rw[lP]at har;exact har
   gi_wp2_with (refine⟨trivial,?_⟩;gi_at_call 214;refine(aa7 Fence.wide 5 trivial rfl _ _ _ _).mono ?_;rintro e w1 ⟨rfl,rfl⟩)
   have ami:(eF fs).length=(eF fs).length:=rfl;have hb0:Boxed (wr.alloc (.cells #[.slice A fs.length cap] 154)) w.heap.size 4 (.bool false):=hb.alloc _;have bN:=Boxed.new wr 154 (.slice A fs.length cap);have hB0:Below w.heap.size w (wr.alloc (.cells #[.slice A fs.length cap] 154)):=hB.alloc hB.size _;have hsz0:(wr.alloc (.cells #[.slice A fs.length cap] 154)).heap.size=wr.heap.size+1:=by simp
   obtain⟨nb,hnb⟩:∃nb,nb=wr.heap.size:=⟨_,rfl⟩;obtain⟨W0,hW0⟩:∃W0,wr.alloc (.cells #[.slice A fs.length cap] 154)=W0:=⟨_,rfl⟩;rw[hW0]at hb0 bN hB0 hsz0 ⊢;rw[<-hnb]at bN hsz0 hsz hbl ⊢;clear hW0 hnb hb hB har;refine wpIn_rangeFunc_ownH (F:=Fence.wide) rfl (by omega) (gf:=255) (lb:= #[.pointer (some ⟨nb,0,none⟩)]) rfl trivial (enters_of Tryz.func255 (by kernel_rfl) rfl)
    (S:=λys=>ys.map (·.1)=eF fs) (Sp:=λpre=>pre.map (·.1)<+:eF fs) (N:=(eF fs).length) (encs:=λx:NV=>Qt x.1) (Kp:=bC) (w0:=W0)
    (RF A cap fs hcap hmax har' nb w.heap.size W0 (by omega) bN.lt bN.cell (hR.below hB0))
    bC.trans (bC.put (w:=W0)) (Below.refl _ _) (λ_=>rfl)
    (λpre W=>((∀p∈pre,xJ p.1=false)/\Boxed W w.heap.size 4 (.bool false))/\Below w.heap.size w W)
    (λc pre W=>(c=.ret/\(∃p∈pre,xJ p.1=true)/\Boxed W w.heap.size 4 (.bool false))/\Below w.heap.size w W)
    (OwnFrom.and (Own.from (λs A B row hs hg hr=>⟨hs.1,boxed_own _ 4 (λ(_:Unit)=>Value.bool false) () A B row hs.2 hg hr⟩) _) (ownFrom_below (aq _) (by omega)))
    (λc=>OwnFrom.and (Own.from (λs A B row hs hg hr=>⟨hs.1,hs.2.1,boxed_own _ 4 (λ(_:Unit)=>Value.bool false) () A B row hs.2.2 hg hr⟩) _) (ownFrom_below (aq _) (by omega)))
    ⟨⟨by simp,hb0⟩,hB0⟩
    (λy a' W=>∃Bf Bg,w.heap.size<Bf/\w.heap.size<Bg/\Bf≠Bg/\Two W Bf (.int .i64 y.1.1.1) (.int .i64 y.1.1.2)/\Two W Bg (.int .i64 y.1.2.1) (.int .i64 y.1.2.2)/\a'={tmps:= #[.slice A fs.length cap,undef,.pointer (some ⟨w.heap.size,0,none⟩),undef,u4,.pointer (some ⟨Bf,0,none⟩),.pointer (some ⟨Bg,0,none⟩),.slice A fs.length cap,.int .i64 fs.length,.int .i64 fs.length,.bool false,u11,u12,u13,u14,u15,u16,.slice A fs.length cap,.func (.func 255) #[] #[.pointer (some ⟨nb,0,none⟩)],.agg #[.int .i64 y.1.1.1,.int .i64 y.1.1.2],.agg #[.int .i64 y.1.2.1,.int .i64 y.1.2.2],undef,undef,undef,undef,undef,undef],defers:=[]})
    (λx a' _ X Y row hs hg hr=>by obtain⟨Bf,Bg,h1,h2,h3,h4,h5,h6⟩:=hs;exact⟨Bf,Bg,h1,h2,h3,h4.own hg (λr e=>(hr r e).2),h5.own hg (λr e=>(hr r e).2),h6⟩)
    ?assign ?body ?done ?stop
   case assign=>
    rintro l pre x W K ⟨⟨hp,hbW⟩,hBW⟩ hK;have hlW:=hbW.lt;have hsW:=hBW.size;dsimp only[Qt];gi_wp2
    have k1:Below w.heap.size W ((W.alloc (.cells #[.int .i64 x.1.1.1,.int .i64 x.1.1.2] 151)).alloc (.cells #[.int .i64 x.1.2.1,.int .i64 x.1.2.2] 151)):=((Below.refl _ W).alloc hsW _).alloc (by simp;omega) _;have k2:KeepsOthers W ((W.alloc (.cells #[.int .i64 x.1.1.1,.int .i64 x.1.1.2] 151)).alloc (.cells #[.int .i64 x.1.2.1,.int .i64 x.1.2.2] 151)):=(KeepsOthers.alloc _ _).trans (KeepsOthers.alloc _ _);have k3:bC W ((W.alloc (.cells #[.int .i64 x.1.1.1,.int .i64 x.1.1.2] 151)).alloc (.cells #[.int .i64 x.1.2.1,.int .i64 x.1.2.2] 151)):=bC.of_below (((Below.refl _ W).alloc (aq _) _).alloc (by simp) _);have t1:=(Two.new W (.int .i64 x.1.1.1) (.int .i64 x.1.1.2)).alloc (.cells #[.int .i64 x.1.2.1,.int .i64 x.1.2.2] 151);have t2:=Two.new (W.alloc (.cells #[.int .i64 x.1.1.1,.int .i64 x.1.1.2] 151)) (.int .i64 x.1.2.1) (.int .i64 x.1.2.2);rw[ld]at t2;exact hK _ _ (k2.from _) k3 ⟨⟨hp,(hbW.alloc _).alloc _⟩,hBW.trans k1⟩ ⟨W.heap.size,W.heap.size+1,hlW,by omega,by omega,t1,t2,rfl⟩
   case body=>
    rintro l pre x a' W hl ⟨r,hr⟩ ⟨⟨hp,hbW⟩,hBW⟩ ⟨Bf,Bg,h1,h2,h3,h4,h5,rfl⟩ hlt;have hx:=hbW.cell;have hx2:=hbW.frozen;have c0:=h4.cell0;have c1:=h4.cell1;have d0:=h5.cell0;have d1:=h5.cell1;have l1:=h4.lt;have l2:=h5.lt;have hmx:Tryz.prog.follows .mixedOrders=true:=by kernel_rfl
    gi_wp2
    have ym:=Lib.hid x.2.1;have HX2:=Lib.hid x.2.2;gi_region_with_o (refine⟨trivial,?_⟩;gi_at_call 215;refine(CallsIn.inRound l (jn.2 (Pt _ _ _ ?_))).mono ?_;(first|exact ym.out|exact HX2.out);rintro e w' ⟨rfl,hb⟩;try (have q0:=(hb.cell (p:=⟨Bg,0,none⟩) l2).trans d0;have q1:=(hb.cell (p:=⟨Bg,1,none⟩) l2).trans d1))
    all_goals
     have hA1:=‹Below W.drew.heap.size W.drew _›;have TV:Below W.heap.size W w':=((Below.refl _ W).drew.trans hA1).trans (hb.mono hA1.size);have hw1:=yH hbW TV (by omega);have hw2:=hw1.cell;have hw3:=hw1.frozen;have hK1:KeepsOthers W w':=⟨TV.size,λk o ho _=>(TV.block k (bk.1 ho).1).trans ho⟩;have hK2:=bC.of_below TV;have hB2:=hBW.trans (TV.mono hBW.size);have HHP:=Lib.hid hp;clear hA1 hb hp TV hBW;by_cases hm:xJ x.1=true
     .have hm':(bits BinOp.and IntKind.i64 ((2^x.1.1.2.toNat-1)*2^x.1.1.1.toNat) ((2^x.1.2.2.toNat-1)*2^x.1.2.1.toNat) != 0)=true:=hm
      gi_wp2
      exact⟨(hK1.trans (KeepsOthers.setCell _ _ _)).from _,⟨rfl,⟨x,eS.2 (.inr (by simp)),hm⟩,hw1.set _⟩,hB2.setCell (p:=⟨w.heap.size,0,none⟩) (aq _) _⟩
     .have hm2:xJ x.1=false:=by simpa using hm
      have hm':(bits BinOp.and IntKind.i64 ((2^x.1.1.2.toNat-1)*2^x.1.1.1.toNat) ((2^x.1.2.2.toNat-1)*2^x.1.2.1.toNat) != 0)=false:=hm2;gi_wp2
      exact⟨hK1.from _,hK2,⟨λp hp'=>(eS.1 hp').elim (HHP.out p) (λe=>by simp at e;subst e;exact hm2),hw1⟩,hB2⟩
   case done=>
    rintro D ys W hD hys ⟨⟨hp,hbW⟩,hBW⟩ hK;have hx:=hbW.cell;have hx2:=hbW.frozen;gi_wp2
    have hK':=(KeepsOthers.setCell W ⟨w.heap.size,0,none⟩ (.bool true)).same D _ hK rfl;refine⟨by simp,.inl ⟨_,_,rfl,kO hK',?_⟩⟩;have zq:=m9 (World.cell?_setCell_same' W ⟨w.heap.size,0,none⟩ (.bool true) (by rw[hx];rfl)) (gA _ D (.deferred none)) (λr e=>by cases e;exact⟨_,hK',rfl⟩);have hya:iX fs=true:=by
     unfold iX;rw[har',Bool.true_and,bp];intro p hp1;rw[<-hys,kx]at hp1;obtain⟨q,hq,rfl⟩:=hp1;rw[hp q hq];rfl
    refine⟨.bool true,?_,by rw[hya],(hBW.setCell (p:=⟨w.heap.size,0,none⟩) (aq _) _).trans (pI (w:=w) (aq _) _ D _ _ (by omega) hK' rfl rfl)⟩;simp[results,Tryz.f152,go_sem,zq]
   case stop=>
    rintro D c pre W hD hpre ⟨⟨rfl,⟨q,hq,hmq⟩,hbW⟩,hBW⟩ hK;have hx:=hbW.cell;gi_wp2
    refine⟨by simp,.inl ⟨_,_,rfl,kO hK,?_⟩⟩;have zq:=m9 hx (gA _ D (.deferred none)) (λr e=>by cases e;exact⟨_,hK,rfl⟩);have hya:iX fs=false:=by
     unfold iX;rw[har',Bool.true_and,List.all_eq_false];exact⟨q.1,hpre.subset (kx.2 ⟨q,hq,rfl⟩),by simp[hmq]⟩
    refine⟨.bool false,?_,by rw[hya],hBW.trans (pI (w:=w) (aq _) W D _ _ (by omega) hK rfl rfl)⟩;simp[results,Tryz.f152,go_sem,zq]
end
section
open Go.RowKit Go.bn
attribute [local go_sem ↓] Go.wp_at_zero Go.wp_at_succ
def dO(w:Int):List ((Int×Int)×Int)->Option Int
 |[]=>some w
 |(f,v)::r=>if v<0\/2^f.2.toNat-1<v then none else dO (lC w f.1.toNat f.2.toNat v) r
def kC(fs:List (Int×Int))(vs:List Int):Option Int:=if vs.length=fs.length/\iX fs=true then dO 0 (fs.zip vs)else none
theorem RJ(w:Int)(l:List ((Int×Int)×Int))(f:Int×Int)(v:Int):dO w (l++[(f,v)])=(dO w l).bind λx=>if v<0\/2^f.2.toNat-1<v then none else some (lC x f.1.toNat f.2.toNat v):=by
 induction l generalizing w with
 |nil=>simp[dO]
 |cons p r ih=>
  obtain⟨g,u⟩:=p;simp only[eE,dO];split
  .rfl
  .exact ih _
theorem uo{w:Int}{l r:List ((Int×Int)×Int)}(h:dO w l=none):dO w (l++r)=none:=by
 induction l generalizing w with
 |nil=>cases h
 |cons p l ih=>
  obtain⟨g,u⟩:=p;simp only[eE,dO]at h ⊢;split at h
  .rename_i hc;rw[if_pos hc]
  .rename_i hc;rw[if_neg hc];exact ih h
def DV(o:Option Int):Value:=match o with|some w=>.tuple #[.int .i64 w,.bool true]|none=>.tuple #[.int .i64 0,.bool false]
set_option maxHeartbeats 1000000 in
theorem aa8(A A':Option Addr)(cap cap':Nat)(fs:List (Int×Int))(vs:List Int)(hcap:fs.length<=cap)(hmax:fs.length<=1000)(amY:vs.length<=cap')(w:World)
  (hR:dN wO 2 w w.heap.size A fs) (hV:dN encI 1 w w.heap.size A' vs):
  Calls Tryz.prog 100 #[.slice A fs.length cap,.slice A' vs.length cap'] w λe w'=>e=.returned (DV (kC fs vs))/\Below w.heap.size w w':=by
 by_cases hl:vs.length=fs.length
 case neg=>
  have hl':(((vs.length:Nat):Int) != ((fs.length:Nat):Int))=true:=by simp;omega
  have hz:kC fs vs=none:=by simp[kC,hl]
  have HZ:=Lib.hid hz;clear hz;go_enter Tryz.func100,Tryz.ntmps100
  go_wp2
  go_ret2
  exact⟨by rw[HZ.out];rfl,Below.refl _ _⟩
 case pos=>
  by_cases hap:iX fs=true
  case neg=>
   have hz:kC fs vs=none:=by simp[kC,hap]
   have HZ:=Lib.hid hz;have am6:iX fs=false:=by simpa using hap
   clear hz hap;have HL:=Lib.hid hl;have hlb:(((vs.length:Nat):Int) != ((fs.length:Nat):Int))=false:=by simp;omega
   clear hl;go_enter Tryz.func100,Tryz.ntmps100
   go_wp2_with (go_at_call 152;refine(MK _ _ _ hcap hmax _ hR).mono ?_;rintro e w1 ⟨rfl,hb1⟩)
   go_ret2
   exact⟨by rw[HZ.out];rfl,hb1⟩
  case pos=>
   have uE:∀k (h:k<fs.length),gN fs[k].1 fs[k].2=true:=by
    intro k h;unfold iX at hap;rw[bj]at hap;have:=hap.1;unfold fU at this;rw[bp]at this;exact this _ (eC h)
   have hz:kC fs vs=dO 0 (fs.zip vs):=by simp[kC,hap,hl]
   have HZ:=Lib.hid hz;have HL:=Lib.hid hl;have HI:=Lib.hid uE;have hlb:(((vs.length:Nat):Int) != ((fs.length:Nat):Int))=false:=by simp;omega
   have hle:vs.length<=fs.length:=by omega
   have hge:fs.length<=vs.length:=by omega
   clear hl hz uE;go_enter Tryz.func100,Tryz.ntmps100
   go_wp2_with (go_at_call 152;refine(MK _ _ _ hcap hmax _ hR).mono ?_;rintro e w1 ⟨rfl,hb1⟩)
   clear hap
   go_loopw [6,21] (fun x i wr=>∃(k:Nat) (z:Int),k<=fs.length/\i=.int .i64 k/\x=.int .i64 z/\yl z/\dO 0 ((fs.zip vs).take k)=some z/\Below w.heap.size w wr)
    (λ_ i _=>fs.length-(intOf i).toNat)
   case atStart=>exact⟨0,0,cL _,rfl,rfl,by unfold yl;omega,by simp[dO],hb1⟩
   case round=>
    obtain⟨k,z,hk,rfl,rfl,hz,hgo,hB⟩:=hrel;have hsz:=hB.size;have HG:=Lib.hid hgo;have HZI:=Lib.hid hz;clear hgo hz;by_cases hlt:k<fs.length
    .have hlv:k<vs.length:=by omega
     have hRr:=hR.below hB;have hVr:=hV.below hB;obtain⟨b,off,rfl,hbl,hc0,hc1⟩:=fieldAt hRr hlt;obtain⟨b2,agX,rfl,ahx,hv⟩:=NM hVr hlv;have hr:=HI.out k hlt;obtain⟨p,hp⟩:∃p,p=fs[k]:=⟨_,rfl⟩;obtain⟨u,hu⟩:∃u,u=vs[k]:=⟨_,rfl⟩;rw[<-hp]at hc0 hc1 hr;rw[<-hu]at hv;have hnext:dO 0 ((fs.zip vs).take (k+1))=if u<0\/2^p.2.toNat-1<u then none else some (lC z p.1.toNat p.2.toNat u):=by
      have hzl:k<(fs.zip vs).length:=by simp;omega
      rw[dg hzl];have:(fs.zip vs)[k]=(p,u):=by simp[hp,hu]
      rw[this,RJ,HG.out];rfl
     have HN:=Lib.hid hnext;clear hp hu hnext;have hbp:b<wr.heap.size:=by omega
     have abR:b2<wr.heap.size:=by omega
     by_cases hneg:u<0
     .have hg1:decide (u<0)=true:=by simpa using hneg
      go_wp2
      go_quiet (fail)
      go_wp2
      go_ret2
      refine⟨?_,fR (hB.alloc hsz _) _⟩;have hnone:kC fs vs=none:=by
       rw[HZ.out, <-List.take_append_drop (k+1) (fs.zip vs)];exact uo (by rw[HN.out,if_pos (.inl hneg)])
      rw[hnone];rfl
     .have hg1:decide (u<0)=false:=by simpa using hneg
      have hpos:0<=u:=by omega
      have hr':=nK.1 hr;have hp2:=wF p.2.toNat (by omega);have hS0:(wr.alloc (.cells #[.int .i64 p.1,.int .i64 p.2] 151)).cell? ⟨wr.heap.size,0,none⟩=some (.int .i64 p.1):=by simp
      have hS1:(wr.alloc (.cells #[.int .i64 p.1,.int .i64 p.2] 151)).cell? ⟨wr.heap.size,1,none⟩=some (.int .i64 p.2):=by simp
      have hS2:(wr.alloc (.cells #[.int .i64 p.1,.int .i64 p.2] 151)).cell? ⟨b2,agX+k,none⟩=some (.int .i64 u):=(pZ _ _ ⟨b2,agX+k,none⟩ abR).trans hv;have mK:Below w.heap.size w (wr.alloc (.cells #[.int .i64 p.1,.int .i64 p.2] 151)):=hB.alloc hsz _;have oW:wr.heap.size<(wr.alloc (.cells #[.int .i64 p.1,.int .i64 p.2] 151)).heap.size:=by simp
      go_wp2
      go_region_held3 (λw'=>w'.cell? ⟨wr.heap.size,0,none⟩=some (.int .i64 p.1)/\w'.cell? ⟨wr.heap.size,1,none⟩=some (.int .i64 p.2)/\w'.cell? ⟨b2,agX+k,none⟩=some (.int .i64 u)/\Below w.heap.size w w'/\wr.heap.size<w'.heap.size)
      (first|exact⟨hS0,hS1,hS2,mK.drew,oW⟩|(obtain⟨g1,g2,g3,gB,gZ⟩:=‹World.cell? _ _=_/\_/\_/\Below _ _ _/\_<_›;exact⟨(hb.cell (p:=⟨wr.heap.size,0,none⟩) gZ).trans g1,(hb.cell (p:=⟨wr.heap.size,1,none⟩) gZ).trans g2,(hb.cell (p:=⟨b2,agX+k,none⟩) (gk abR gZ)).trans g3,gB.trans (hb.mono (eM hsz (gl gZ))),ba gZ hb.size⟩))
      (first|(go_at_call 153;refine(DZ _ _ _ hr).mono ?_;rintro e w2 ⟨rfl,hb⟩))
      obtain⟨hT0,hT1,rQ,TQ,hT4⟩:=‹World.cell? _ _=_/\_/\_/\Below _ _ _/\_<_›;clear hS0 hS1 hS2 mK oW hb;by_cases hbig:2^p.2.toNat-1<u
      .go_wp2
       go_ret2
       refine⟨?_,TQ⟩;have hnone:kC fs vs=none:=by
        rw[HZ.out, <-List.take_append_drop (k+1) (fs.zip vs)];exact uo (by rw[HN.out,if_pos (.inr hbig)])
       rw[hnone];rfl
      .have hsmall:u<=2^p.2.toNat-1:=by omega
       go_wp2
       go_region_held3 (λw'=>w'.cell? ⟨wr.heap.size,0,none⟩=some (.int .i64 p.1)/\w'.cell? ⟨wr.heap.size,1,none⟩=some (.int .i64 p.2)/\w'.cell? ⟨b2,agX+k,none⟩=some (.int .i64 u)/\Below w.heap.size w w'/\wr.heap.size<w'.heap.size)
       (first|exact⟨hT0,hT1,rQ,TQ.drew,hT4⟩|(obtain⟨g1,g2,g3,gB,gZ⟩:=‹World.cell? _ _=_/\_/\_/\Below _ _ _/\_<_›;exact⟨(hb.cell (p:=⟨wr.heap.size,0,none⟩) gZ).trans g1,(hb.cell (p:=⟨wr.heap.size,1,none⟩) gZ).trans g2,(hb.cell (p:=⟨b2,agX+k,none⟩) (gk abR gZ)).trans g3,gB.trans (hb.mono (eM hsz (gl gZ))),ba gZ hb.size⟩))
        (first|(go_at_call 154;refine(aeG _ _ _ _ ?_ _ hr).mono ?_;exact HZI.out;rintro e w3 ⟨rfl,hb⟩))
       go_wp2;obtain⟨hU0,hU1,hU2,hU3,hU4⟩:=‹World.cell? w3 _=_/\_/\_/\Below _ _ _/\_<_›;go_roundw
       case rel=>exact⟨k+1,_,by omega,by go_num,rfl,(O3 HZI.out _ _ (by omega) u).1,by rw[HN.out,if_neg (by omega)],hU3⟩
       case measure=>simp[intOf];omega
    .obtain rfl:k=fs.length:=by omega
     go_wp2
     go_ret2
     refine⟨?_,hB⟩;have:=HG.out;rw[px (by simp;omega)]at this;rw[HZ.out,this];rfl
