import Derived.Test.YteaflphddciglaaGreatDoorCaE
import Derived.Laws.StructEq
import Derived.Deep.AppendSrc
set_option linter.all false
def b8:=@List.getD_eq_getElem?_getD
def cE:=@List.length_append
def cP:=@Option.isSome_iff_exists
def cV:=@List.mem_cons_self
def cX:=@Array.getD_eq_getD_getElem?
def du:=@List.mem_of_getElem?
def da:=@List.mem_cons_of_mem
def dk:=@Go.World.cell?_alloc_new
def ez:=@List.getElem?_eq_none
def dq:=@Nat.mul_le_mul_right
def e8:=@Array.toList_inj
def eI:=@Bool.not_eq_true'
def eN:=@Bool.false_eq_true
def eV:=@Bool.or_eq_true
def fg:=@List.forall_mem_cons
def ia:=@Option.map_eq_some_iff
def iv:=@List.mem_of_find?_eq_some
def iS:=@List.cons.injEq
def lO:=@Option.getD_some
def jt:=@Option.bind_some
def lf:=@Nat.eq_zero_or_pos
def lr:=@Nat.mul_one
def ij:=@of_decide_eq_true
def mb:=@List.mem_zipIdx_iff_getElem?
def mc:=@Array.getElem?_setIfInBounds
def mS:=@Nat.add_sub_cancel_left
def pL:=@Nat.le_of_not_lt
def oc:=@List.map_cons
def oy:=@Go.Oper.upon_value
def th:=@List.mem_filter
def oB:=@Nat.pos_of_ne_zero
def rI:=@Go.eqGuard_at_int
def oX:=@Nat.lt_trichotomy
def o4:=@List.ext_getElem?
def ud:=@Nat.sub_self
def uK:=@Array.mem_toList_iff
def rK:=@Nat.mul_le_mul
def qn:=@Nat.mod_lt
def sy:=@List.pairwise_iff_getElem
def sA:=@Array.mapM_eq_mapM_toList
def sE:=@List.mem_toArray
def sL:=@List.map_nil
def sR:=@List.any_eq_true
namespace Go.Sx
open Go Go.RowKit
section
variable{P:Program} {n:Nat->Prop} {b:World} {G:Kj} {σ:Nat->Option Pl} {d:List ag} {w:World}
def Nu{v}{x}(h:cellsOf v=some x):v.cells=x.toArray:=by
 unfold cellsOf at h;split at h
 .rename_i c
  cases a:c.all uB<;>simp[a]at h;subst h;simp[Value.cells]
 .cases h
 .cases h
 .cases h
  cases v<;>first|rfl|grind
def YS{v c}(h:VR σ v c)(k:(cellsOf v).isSome=true):dY σ v.cells c.cells:=by
 obtain⟨o,a⟩:=cP.1 k;obtain⟨s,e,f,l,_⟩:=AV h a;rw[Nu a,e];exact⟨by simp[f],λi x y a m=>l i x y (by simpa using a) (by simpa using m)⟩
theorem dY.set{a k}(h:dY σ a k)(i){v l}(m:VR σ v l):dY σ (a.setIfInBounds i v) (k.setIfInBounds i l):=by
 refine⟨by simp[h.1],λj x y c f=> ?_⟩;rw[mc]at c f;split at c
 .grind
 .rename_i e
  rw[if_neg e]at f;exact h.2 j x y c f
theorem Mx(off):∀(e s:List Value) (k) (z f),dY σ z f->e.length=s.length->(∀(i:Nat) (x y),e[i]?=some x->s[i]?=some y->VR σ x y)->
  dY σ ((e.zipIdx k).foldl (λa (c,j)=>a.setIfInBounds (off+j) c) z) ((s.zipIdx k).foldl (λa (c,j)=>a.setIfInBounds (off+j) c) f)
 |[],[],k,z,f,l,_,_=>l
 |[],_::_,_,_,_,_,h,_=>by simp at h
 |_::_,[],_,_,_,_,h,_=>by simp at h
 |c::e,m::s,k,z,f,l,o,h=>by
  exact Mx off e s (k+1) _ _ (l.set _ (h 0 c m rfl rfl)) (by simpa using o) λi x y p q=>h (i+1) x y (by simpa using p) (by simpa using q)
theorem AP(f):∀(ps ps') (z c) (s),dY σ z c->ps.map (·.1)=ps'.map (·.1)->
  (∀(i:Nat) (x y),ps[i]?=some x->ps'[i]?=some y->VR σ x.2 y.2)->allKnown (ps.map (·.2))=true->Instr.fill f z ps=some s->∃e,Instr.fill f c ps'=some e/\dY σ s e
 |[],[],z,c,s,k,_,_,_,h=>by simp[Instr.fill]at h;subst h;exact⟨c,rfl,k⟩
 |[],_::_,_,_,_,_,h,_,_,_=>by simp at h
 |_::_,[],_,_,_,_,h,_,_,_=>by simp at h
 |(i,v)::r,(F,H)::B,z,c,s,k,l,u,m,h=>by
  simp only[oc,iS]at l;obtain⟨rfl,l⟩:=l;simp only[allKnown,oc,List.all_cons,Bool.and_eq_true]at m;have a:=YS (u 0 _ _ rfl rfl) m.1;simp only[Instr.fill]at h ⊢;cases C:f i with
  |none=>grind
  |some D=>
   obtain⟨o,A⟩:=D;rw[C]at h;simp only at h ⊢;rw[<-a.1, <-k.1];split at h
   .cases h
   .rename_i E
    rw[if_neg E];refine AP f r B _ _ s ?_ l (λi x y p q=>u (i+1) x y (by simpa using p) (by simpa using q)) m.2 h;rw[<-Array.foldl_toList, <-Array.foldl_toList,Array.toList_zipIdx,Array.toList_zipIdx];exact Mx o _ _ 0 _ _ k (by simpa using a.1) λj x y p q=>a.2 j x y (by simpa using p) (by simpa using q)
def Rz{z}(a:plain z=true)(k:∀c,z≠.tuple c):dY σ z.cells z.cells:=by
 have:=VR.plain σ a;refine⟨rfl,λi x y h e=> ?_⟩;obtain rfl:x=y:=b9 (h.symm.trans e)
 cases z<;>first
  |grind
  |(simp only[Value.cells]at h e
    match i,h with
    |0,h=>grind
    |i+1,h=>simp at h)
  |(simp only[plain]at a
    rw[jN]at a;obtain⟨f,rfl⟩:=Array.getElem?_eq_some_iff.1 h;exact VR.aN σ (a i f))
def run_places{s}{p}(h:places P s=some p)(w):
  (s.mapM λf=>(do pure (f.offset, <-sizeOf f.type):Sem (Nat×Nat))).run P w=.ok p w:=by
 induction s generalizing p with
 |nil=>simp[places]at h;subst h;simp
 |cons f r e=>
  simp only[places]at h;cases a:P.info? f.type with
  |none=>simp[a]at h
  |some i=>
   cases c:places P r with
   |none=>simp[a,c]at h
   |some q=>
    simp[a,c]at h;subst h;simp only[List.mapM_cons,cd,run_sizeOf a,bd,cr,e c]
def LK{α:Type}(a:Array (Nat×α))(f g:α->Value)(h:∀p∈a,VR σ (f p.2) (g p.2)):
  ((a.map λ(i,x)=>(i,f x)).toList.map (·.1))=((a.map λ(i,x)=>(i,g x)).toList.map (·.1))/\
  ∀(i:Nat) (x y),(a.map λ(i,x)=>(i,f x)).toList[i]?=some x->(a.map λ(i,x)=>(i,g x)).toList[i]?=some y->VR σ x.2 y.2:=by
 grind [Function.comp_def,Array.toList_map,List.mem_of_getElem?]
def Va(z:Value):(∃c,z=.tuple c)\/∀c,z≠.tuple c:=by
 grind
def zK{z}(h:plain z=true):dY σ z.cells z.cells:=by
 rcases Va z with⟨c,rfl⟩|e
 .refine⟨rfl,fun i x y a f=> ?_⟩
  obtain rfl:x=y:=b9 (a.symm.trans f);simp only[Value.cells]at a;grind [VR.plain]
 .exact Rz h e
def QL{t}{α:Type}(a:Array (Nat×α))(f g:α->Value)(m:∀p∈a,VR σ (f p.2) (g p.2)){v}(h:(QM P t (a.map fun(i,x)=>(i,f x))).get=some v)(w):
  ∃B,(Instr.build t (a.map λ(i,x)=>(i,g x))).run P w=.ok B w/\VR σ v B:=by
 obtain⟨C,D⟩:=LK a f g m;unfold QM at h;split at h
 .rename_i z J o u
  obtain⟨c,k⟩:=lU o w;split at h
  .rename_i K q r
   split at h
   .rename_i y A
    simp at h;subst h;obtain⟨s,E,l⟩:=AP _ _ _ z.cells z.cells y (zK (σ:=σ) k) C D r A;refine⟨.agg s,?_,VR.agg l.1 l.2⟩;have F:=run_places q w;simp only[Instr.build,cd,c,bd,cF u,sA,Sem.run_map,F];simp_all
   .cases h
  .cases h
 .rename_i z H e o u
  obtain⟨c,k⟩:=lU o w;split at h
  .rename_i i I r
   split at h
   .rename_i y A
    simp at h;subst h;obtain⟨s,E,l⟩:=AP _ _ _ z.cells z.cells y (zK (σ:=σ) k) C D r A;refine⟨.agg s,?_,VR.agg l.1 l.2⟩;simp only[Instr.build,cd,c,bd,cF u,run_sizeOf I];rw[E];rfl
   .cases h
  .cases h
 .cases h
def Eu(O:eB n w){t}{l}{α:Type}(c:Array (Nat×α))(f g:α->Value)(s:∀p∈c,VR σ (f p.2) (g p.2)){r}(h:(yG P t l (c.map fun(i,x)=>(i,f x))).get=some r):
  ∃I o,(Instr.buildSlice t l (c.map λ(i,x)=>(i,g x))).run P w=.ok I (w.alloc o)/\sS n σ r I w o:=by
 obtain⟨Q,R⟩:=LK c f g s;unfold yG at h;split at h
 .rename_i e J
  split at h
  .rename_i i z K S T
   obtain⟨v,A⟩:=lU S w;split at h
   .rename_i U B V
    simp at h;subst h;have C:=zK (σ:=σ) A;have W:dY σ ((Array.range (l*i.size)).map λj=>z.cells[j%z.cells.size]!) ((Array.range (l*i.size)).map λj=>z.cells[j%z.cells.size]!):=by
     refine⟨rfl,λj x y k D=> ?_⟩;obtain rfl:x=y:=b9 (k.symm.trans D);rw[Array.getElem?_map]at k;cases X:(Array.range (l*i.size))[j]? with
     |none=>grind
     |some q=>
      rw[X]at k;cases k;show VR σ (z.cells[q%z.cells.size]!) (z.cells[q%z.cells.size]!);rw[getElem!_def];cases L:z.cells[q%z.cells.size]? with
      |none=>exact VR.bool _
      |some u=>exact C.2 _ u u L L
    obtain⟨E,F,N⟩:=AP _ _ _ _ _ U W Q R T V;refine⟨.slice (some ⟨w.heap.size,0,none⟩) l l,.cells E e,?_,⟨w.heap.size,0,0,0⟩,⟨rfl,rfl⟩,λσ' a Y Z=>⟨VR.slice Z,BR.FO O e (by simp[N.1]) λj x y k D=>(N.2 j x y (by simpa using k) D).mono Y⟩⟩
    .have m:¬l*i.size>2^24:=by have:=fo B;omega
     by_cases H:l*i.size=0
     .have e0:((Array.range (l*i.size)).map fun j=>z.cells[j%z.cells.size]!)=((Array.range (l*i.size)).map fun j=>(#[]:Array Value)[j%(#[]:Array Value).size]!):=by rw[H];simp
      rw[e0]at F;simp only[Instr.buildSlice,cd,cF J,bd,run_sizeOf K];rw[if_neg m,if_pos H];simp only[cd,cr,bd];rw[F];simp[newRow]
     .simp only[Instr.buildSlice,cd,cF J,bd,run_sizeOf K]
      rw[if_neg m,if_neg H];simp only[cd,cr,bd,v];rw[F];simp[newRow]
   .cases h
  .cases h
 .cases h
def Gf{s}{x o v}{f}(q:VR σ x o)(h:(AQ P s x f).get=some v)(w):∃u,(Instr.fieldAt s o f).run P w=.ok u w/\VR σ v u:=by
 unfold AQ at h;split at h
 .rename_i C y
  split at h
  .rename_i z a
   split at h
   .rename_i i A
    split at h
    .rename_i k B c
     have l:i.size≠0:=λe=>by rw[e]at c;cases c
     simp at h;subst h;obtain⟨p,m,rfl⟩:=q.gL;refine⟨_,by simp[Instr.fieldAt,cF y,a,Instr.sureAddr,fieldPlace,run_sizeOf A,l];rfl,?_⟩;rw[gw,Nat.add_assoc];exact VR.ptr m
    .rename_i k r j c
     have l:i.size≠0:=λe=>by rw[e]at c;cases c
     simp at h;subst h;obtain⟨p,m,rfl⟩:=q.qL;refine⟨_,by simp[Instr.fieldAt,cF y,a,Instr.sureAddr,fieldPlace,run_sizeOf A,l];rfl,?_⟩;rw[gw,show p.o+(r*p.wd+j)+z.offset=p.o+(r*p.wd+(j+z.offset))by omega];exact VR.lD m
    .cases h
   .cases h
  .cases h
 .cases h
def EF{t}{a l}{o}{v}(e:dY σ a l)(h:(NH P t a o).get=some v)(w):∃r,(part t l o).run P w=.ok r w/\VR σ v r:=by
 unfold NH at h;split at h
 .rename_i c
  simp at h;obtain⟨y,p,q⟩:=e.get o h;exact⟨y,by simp[part,Mk c,p],q⟩
 .rename_i m c
  simp at h;subst h;obtain⟨p,q⟩:=Ml c w;refine⟨.agg (l.extract o (o+m)),by simp[part,p,q],VR.agg (by simp[e.1]) λi x y f k=> ?_⟩;rw[Array.getElem?_extract]at f k;rw[<-e.1]at k;split at f
  .rename_i s
   rw[if_pos s]at k;exact e.2 _ x y f k
  .cases f
 .cases h
theorem xN{α}{i}{f:Nat->M α}{a}:∀n,(PX i n f).get=some a->∃j,j<n/\i=(j:Int)/\(f j).get=some a
 |0,h=>by cases h
 |n+1,h=>by
  rcases M.af h with⟨c,h⟩|⟨_,h⟩
  .grind
  .obtain⟨j,e,k⟩:=xN n h
   grind
def gI{i}{n}(h:gu i n=true):0<=i/\i<(n:Int):=by
 grind [gu]
def iF{t e}{c}{a}{l f:Nat}{k}{i}(u:P.underlying t=some (.slice e))(m:P.info? e=some c)(h:0<=i/\i<(l:Int))(w):
  (Instr.indexAt t (.slice (some a) l f) (.int k i)).run P w=.ok (.pointer (some (a.add (i.toNat*c.size)))) w:=by
 simp[Instr.indexAt,cF u,asIntOf,run_sizeOf m,h]
def G6{t e}{c}{a}{l}{k}{i}(u:P.underlying t=some (.array l e))(f:P.info? e=some c)(h:0<=i/\i<(l:Int))(w):
  (Instr.indexAt t (.pointer (some a)) (.int k i)).run P w=.ok (.pointer (some (a.add (i.toNat*c.size)))) w:=by
 simp[Instr.indexAt,cF u,asIntOf,run_sizeOf f,h,Instr.sureAddr]
def VR.aH{k}{i}{v}(h:VR σ (.int k i) v):v=.int k i:=h.aD rfl
def VR.p9{k o l c}{v}(h:VR σ (.slice (some ⟨k,o,none⟩) l c) v):∃p,σ k=some p/\v=.slice (some ⟨p.b,p.o+o,none⟩) l c:=by
 cases h with
 |slice h=>grind
def VR.OH{k i l c}{v}(h:VR σ (.slice (some ⟨k,i,some 0⟩) l c) v):∃p,σ k=some p/\v=.slice (some ⟨p.b,p.o+i*p.wd,none⟩) l c:=by
 cases h with
 |si h=>grind
def VR.yL{k l}{v}(h:VR σ (.slice (some ⟨k,0,some 1⟩) l 0) v):∃p,σ k=some p/\l<=p.cap/\v=.slice (some ⟨p.b,p.o,none⟩) l p.cap:=by
 cases h with
 |vec h a=>grind
def FV(H:HR n b G σ d w){t:TypeId}{x F O E v:Value}(D:VR σ x F)(I:VR σ O E)(h:(oh P t x O d).get=some v):
  ∃Q,(Instr.indexAt t F E).run P w=.ok Q w/\VR σ v Q:=by
 unfold oh at h;split at h
 .rename_i W i
  obtain rfl:=I.aH;split at h
  .rename_i l e k J u
   obtain⟨p,f,rfl⟩:=D.gL;split at h
   .rename_i y o
    obtain⟨j,S,rfl,a⟩:=xN _ h;simp at a;subst a;refine⟨_,G6 u o ⟨by omega,by omega⟩ w,?_⟩;rw[gw,cH,Nat.add_assoc];exact VR.ptr f
   .cases h
  .rename_i e k J l z u
   obtain⟨p,f,rfl⟩:=D.p9;split at h
   .rename_i y o
    split at h
    .obtain⟨j,S,rfl,a⟩:=xN _ h
     simp at a;subst a;refine⟨_,iF u o ⟨by omega,by omega⟩ w,?_⟩;rw[gw,cH,Nat.add_assoc];exact VR.ptr f
    .split at h
     .rename_i B
      rcases M.af h with⟨A,a⟩|⟨_,a⟩
      .simp at a;subst a
       refine⟨_,iF u o (gI A) w,?_⟩;rw[gw,B,lr,Nat.add_assoc];exact VR.ptr f
      .cases a
     .cases h
    .cases h
   .cases h
  .rename_i e k r l z u
   obtain⟨p,f,rfl⟩:=D.OH;split at h
   .rename_i y o
    split at h
    .rename_i R wr T m g C
     rcases M.af h with⟨A,h⟩|⟨_,a⟩
     .rcases M.af h with⟨q,a⟩|⟨_,a⟩
      .simp at a;subst a
       refine⟨_,iF u o (gI q) w,?_⟩;have s:=(H.sj f C).1;rw[gw, <-beq_true A, <-s,show p.o+r*p.wd+i.toNat*p.wd=p.o+((r+i.toNat)*p.wd+0)by rw[Nat.add_mul];omega];exact VR.lD f
      .cases a
     .cases a
    .cases h
   .cases h
  .rename_i e k K l z u
   obtain⟨p,f,L,rfl⟩:∃p,σ k=some p/\p.o=K*p.wd/\F=.slice (some ⟨p.b,0,none⟩) l z:=by
    cases D with
    |win h L=>exact⟨_,h,L,rfl⟩
   split at h
   .rename_i y o
    split at h
    .rename_i R wr X c C
     rcases M.af h with⟨A,h⟩|⟨_,a⟩
     .rcases M.af h with⟨q,h⟩|⟨_,a⟩
      .rcases M.af h with⟨N,a⟩|⟨_,a⟩
       .simp at a;subst a
        refine⟨_,iF u o (gI q) w,?_⟩;have s:=(H.zN f C).1;obtain rfl:=ij N;rw[gw, <-beq_true A, <-s,cH,Nat.zero_add, <-L];exact VR.ptr (off:=0) f
       .cases a
      .cases a
     .cases a
    .cases h
   .cases h
  .rename_i e k l z u
   split at h
   .rename_i y o
    have U:=D;obtain⟨p,f,V,rfl⟩:∃p,σ k=some p/\l<=p.cap/\F=.slice (some ⟨p.b,p.o,none⟩) l p.cap:=by
     cases D with
     |vec h C=>exact⟨_,h,C,rfl⟩
    split at h
    .split at h
     .rename_i B
      rcases M.af h with⟨A,a⟩|⟨_,a⟩
      .simp at a;subst a
       refine⟨_,iF u o (gI A) w,?_⟩;rw[gw,B,lr];exact VR.ptr f
      .cases a
     .cases h
    .rename_i R wr T m g C
     rcases M.af h with⟨A,h⟩|⟨_,a⟩
     .rcases M.af h with⟨q,a⟩|⟨_,a⟩
      .simp at a;subst a
       refine⟨_,iF u o (gI q) w,?_⟩;have s:=(H.sj f C).1;rw[gw, <-beq_true A, <-s,show p.o+i.toNat*p.wd=p.o+(i.toNat*p.wd+0)by omega];exact VR.lD f
      .cases a
     .cases a
    .cases h
   .cases h
  .cases h
 .cases h
def PV{t}{x m o a v}(p:VR σ x m)(f:VR σ o a)(h:(PW P t x o).get=some v)(w):
  ∃c,(Instr.index t m a).run P w=.ok c w/\VR σ v c:=by
 unfold PW at h;split at h
 .rename_i k i l e D u
  obtain rfl:=f.aH;split at h
  .rename_i q r
   obtain⟨j,E,rfl,s⟩:=xN _ h;cases p with
   |agg y z=>
    obtain⟨c,A,B⟩:=EF ⟨y,z⟩ s w;refine⟨c,?_,B⟩;have C:(0:Int)<=(j:Int)/\(j:Int)<(l:Int):=⟨by omega,by omega⟩;simp only[Instr.index,asIntOf,cd,cr,bd,cF u];rw[if_pos C];simp[run_sizeOf r,A]
  .cases h
 .cases h
def lM(σ:Nat->Option Pl):Option Value->Option Value->Prop
 |none,none=>True
 |some x,some y=>VR σ x y
 |_,_=>False
def lM.map(f g)(o:Option Operand)(h:∀x∈o,VR σ (f x) (g x)):lM σ (o.map f) (o.map g):=by
 cases o with
 |none=>trivial
 |some x=>exact h x rfl
end
section
variable{P:Program} {n:Nat->Prop} {o:World} {G:Kj} {σ:Nat->Option Pl} {s:List ag} {w:World}
def KZ{x a v}{i}(c:VR σ x a)(h:(Gi x i).get=some v)(w):∃b,(Instr.extract a i).run P w=.ok b w/\VR σ v b:=by
 unfold Gi at h;split at h
 .simp at h
  cases c with
  |any=>simp at h
  |tuple d p=>
   obtain⟨y,e,f⟩:=(show dY σ _ _ from⟨d,p⟩).get i h;exact⟨y,by simp[Instr.extract,e],f⟩
 .cases h
def xS(P:Program):List Field->Nat->List Bool->Bool
 |[],_,[]=>true
 |f::r,k,b::p=>Nat.beq f.offset k&&(f.name != "_")&&(match P.underlying f.type with|some .bool=>b|some (.int _)=> !b|_=>false)&&xS P r (k+1) p
 |_,_,_=>false
def pU(P:Program)(t:TypeId)(p:List Bool):Bool:=
 match P.underlying t with
 |some (.struct f)=> !(P.stoodInHeld t)&& !(P.eqGuardType P.depth t)&&xS P f.toList 0 p
 |_=>false
def BX{t}{c}{k}{v}(b:P.underlying t=some .bool\/∃q,P.underlying t=some (.int q))(d:c[k]?=some v)(w):(part t c k).run P w=.ok v w:=by
 have a:(isAgg t).run P w=.ok false w:=by
  rcases b with h|⟨q,h⟩<;>simp[isAgg,cF h]
 simp[part,a,d]
theorem Dc(d)(xs ys)(w):∀(fs) (k) (l) (b),xS P fs k l=true->
  fD l (xs.toList.drop k) (ys.toList.drop k)=some b->(Op.eqFields (d+1) xs ys fs).run P w=.ok b w
 |[],k,l,b,B,h=>by
  cases l with
  |nil=>
   cases u:xs.toList.drop k<;>cases A:ys.toList.drop k<;>simp[fD,u,A]at h;subst h;rfl
  |cons c p=>cases B
 |f::r,k,l,b,B,h=>by
  cases l with
  |nil=>cases B
  |cons c p=>
   simp only[xS,Bool.and_eq_true]at B;obtain⟨⟨⟨Q,R⟩,F⟩,S⟩:=B;have J:f.offset=k:=beq_true Q;have K:f.name≠ "_" :=by simpa using R
   have C:P.underlying f.type=some .bool/\c=true\/(∃q,P.underlying f.type=some (.int q))/\c=false:=by
    split at F
    .rename_i v;exact .inl ⟨v,F⟩
    .rename_i q v;exact .inr ⟨⟨q,v⟩,by simpa using F⟩
    .cases F
   cases u:xs.toList.drop k with
   |nil=>cases c<;>simp[fD,u]at h
   |cons x H=>
    cases A:ys.toList.drop k with
    |nil=>cases c<;>cases x<;>simp[fD,u,A]at h
    |cons y I=>
     have T:xs[k]?=some x:=by
      have:=List.getElem?_drop (xs:=xs.toList) (i:=k) (j:=0);rw[u]at this;simpa using this.symm
     have U:ys[k]?=some y:=by
      have:=List.getElem?_drop (xs:=ys.toList) (i:=k) (j:=0);rw[A]at this;simpa using this.symm
     have V:H=xs.toList.drop (k+1):=by rw[<-List.drop_drop,u];rfl
     have W:I=ys.toList.drop (k+1):=by rw[<-List.drop_drop,A];rfl
     rw[u,A]at h;have D:∀(e:Bool),(Op.equalIn (d+1) f.type x y).run P w=.ok e w->(∃m,fD p H I=some m/\b=(e&&m))->(Op.eqFields (d+1) xs ys (f::r)).run P w=.ok b w:=by
      rintro e X ⟨m,L,rfl⟩;have Z:=Dc d xs ys w r (k+1) p m S (by rw[<-V, <-W];exact L);have Y:P.underlying f.type=some .bool\/∃q,P.underlying f.type=some (.int q):=by
       rcases C with h|h
       .exact .inl h.1
       .exact .inr h.1
      simp only[Op.eqFields,K,ne_eq,not_false_eq_true,if_true,cd];rw[J,BX Y T,bd,BX Y U,bd,X,bd];cases e
      .simp
      .simpa using Z
     rcases C with⟨v,rfl⟩|⟨⟨q,v⟩,rfl⟩
     .cases x<;>cases y<;>simp only[fD]at h<;>try cases h
      rename_i a N;cases z:fD p H I with
      |none=>rw[z]at h;cases h
      |some m=>
       rw[z]at h;simp at h;exact D _ (run_equalIn_bool' w d f.type a N v) ⟨m,z,h.symm⟩
     .cases x<;>cases y<;>simp only[fD]at h<;>try cases h
      rename_i O a k2 N;by_cases E:O=k2
      .subst E
       cases z:fD p H I with
       |none=>rw[z]at h;simp at h
       |some m=>
        rw[z]at h;simp at h;exact D _ (run_equalIn_int w d f.type O q a N v) ⟨m,z,h.symm⟩
      .simp[E]at h
def Bn{t}{p}(a:pU P t p=true){x y}{b}(h:fD p x.toList y.toList=some b)(o1 o2)(w):
  (eqGuard .eql t o1 o2 (.agg x) (.agg y)).run P w=.ok () w/\(eqGuard .neq t o1 o2 (.agg x) (.agg y)).run P w=.ok () w/\(Op.equal t (.agg x) (.agg y)).run P w=.ok b w:=by
 unfold pU at a;split at a
 .rename_i d u
  simp only[Bool.and_eq_true,eI]at a;obtain⟨⟨e,c⟩,i⟩:=a;refine⟨by simp[eqGuard,c],by simp[eqGuard,c],?_⟩;have f:P.fieldsOf t=d:=by unfold Program.fieldsOf;rw[u]
  unfold Op.equal;rw[show Op.maxDepth=9998+1+1 from rfl,run_equalIn_struct w (9998+1) t x y (by rw[f];exact u) e,f];grind [Dc]
 .cases a
theorem pG:∀(pat) (xs ys) (b),fD pat xs ys=some b->(∀x∈xs,aN x=true)/\∀y∈ys,aN y=true
 |[],[],[],_,_=>⟨by simp,by simp⟩
 |[],[],_::_,_,h=>by simp[fD]at h
 |[],_::_,_,_,h=>by simp[fD]at h
 |c::p,[],_,_,h=>by cases c<;>simp[fD]at h
 |c::p,x::_,[],_,h=>by cases c<;>cases x<;>simp[fD]at h
 |c::p,x::r,y::d,b,h=>by
  cases c<;>cases x<;>cases y<;>simp only[fD]at h<;>try cases h
  .rename_i k a m u
   by_cases l:k=m
   .cases q:fD p r d with
    |none=>rw[q]at h;simp[l]at h
    |some e=>
     obtain⟨f,i⟩:=pG p r d e q;exact⟨fg.2 ⟨rfl,f⟩,fg.2 ⟨rfl,i⟩⟩
   .simp[l]at h
  .cases q:fD p r d with
   |none=>rw[q]at h;cases h
   |some e=>
    obtain⟨f,i⟩:=pG p r d e q;exact⟨fg.2 ⟨rfl,f⟩,fg.2 ⟨rfl,i⟩⟩
def dY.kP{a b}(h:dY σ a b)(p:∀x∈a.toList,aN x=true):b=a:=by
 refine Array.ext h.1.symm λi c d=> ?_;exact(h.2 i _ _ (cj d) (cj c)).aD (p _ (by simp))
def vN(E:Env):Prop:=∀e∈E.eqs,pU E.P e.1 e.2=true
def Qs{E}(a:vN E){t}{p}(h:NR E t=some p):pU E.P t p=true:=by
 unfold NR at h;cases f:E.eqs.find? λe=>Nat.beq e.1 t with
 |none=>grind
 |some e=>
  have b:=a e (iv f);grind [beq_true]
def Bl{t e}(h:P.underlying t=some (.pointer e))(a)(w):(Op.equal t (.pointer a) (.pointer none)).run P w=.ok a.isNone w:=by
 have k:∀d,(Op.equalIn (d+1) t (.pointer a) (.pointer none)).run P w=.ok a.isNone w:=by
  cases a<;>simp[Op.equalIn,cF h]
 exact k 9999
def ug{t e}(h:P.underlying t=some (.slice e))(a)(l c)(w):(Op.equal t (.slice a l c) (.slice none 0 0)).run P w=.ok a.isNone w:=by
 have k:∀d,(Op.equalIn (d+1) t (.slice a l c) (.slice none 0 0)).run P w=.ok a.isNone w:=by
  cases a<;>simp[Op.equalIn,cF h]
 exact k 9999
def vw{t}{b e h}(u:P.underlying t=some (.func b e h))(f)(a c)(w):(Op.equal t (.func f a c) .nilFunc).run P w=.ok false w:=by
 have k:∀d,(Op.equalIn (d+1) t (.func f a c) .nilFunc).run P w=.ok false w:=by
  simp[Op.equalIn,cF u]
 exact k 9999
def wm{t}{a b c}(h:P.underlying t=some (.func a b c))(w):(Op.equal t .nilFunc .nilFunc).run P w=.ok true w:=by
 have k:∀d,(Op.equalIn (d+1) t .nilFunc .nilFunc).run P w=.ok true w:=by
  simp[Op.equalIn,cF h]
 exact k 9999
set_option maxHeartbeats 1000000 in
def WA{E:Env}(I:vN E){p:BinOp}{t:TypeId}{x f y l v:Value}(D F:Operand)(c:VR σ x f)(d:VR σ y l)(h:(acA E p t x y).get=some v)(w:World):
  ∃H,(do eqGuard p t D F f l;binOp p t f l).run E.P w=.ok H w/\VR σ v H:=by
 have q:∀{k r:IntKind} {m:M Value},(M.br (decide (k=r)) m .bad).get=some v->k=r/\m.get=some v:=by
  intro k r m h;rcases M.af h with⟨a,h⟩|⟨_,h⟩
  .exact⟨by simpa using a,h⟩
  .cases h
 unfold acA at h;split at h
 any_goals
  obtain rfl:=c.aH;obtain rfl:=d.aH;obtain⟨rfl,e⟩:=q h;cases e;refine⟨_,?_,by first|exact VR.int _ _|exact VR.bool _⟩;simp only[rI,binOp_add,binOp_sub,binOp_mul,binOp_and,binOp_or,binOp_xor,binOp_andNot,binOp_eql,binOp_neq,binOp_lss,binOp_leq,binOp_gtr,binOp_geq,intBits_and,intBits_or,intBits_xor,intBits_andNot,Op.intArith,cd,cr,bd]
 any_goals
  obtain rfl:=d.aD rfl;split at h
  .rename_i u
   cases h;refine⟨_,?_,VR.bool _⟩
   cases c<;>simp only[eqGuard_at_bool,eqGuard_at_pointer,eqGuard_at_slice,eqGuard_at_func,eqGuard_at_nilFunc,binOp,cd,cr,bd]<;>first
    |(rw[Bl u];rfl)
    |(rw[ug u];rfl)
    |(rw[vw u];rfl)
    |(rw[wm u];rfl)
    |simp only[Op.equal,Op.maxDepth,run_equalIn_bool' w 9999 t _ _ u,cd,cr,bd]
  .cases h
 any_goals
  split at h
  .rename_i J K
   split at h
   .rename_i b a
    cases h;obtain⟨L,N⟩:=pG _ _ _ _ a;cases c with
    |agg O A=>
     cases d with
     |agg B C=>
      obtain rfl:=(show dY σ _ _ from⟨O,A⟩).kP L;obtain rfl:=(show dY σ _ _ from⟨B,C⟩).kP N;obtain⟨Q,R,S⟩:=Bn (Qs I K) a D F w;exact⟨_,by simp only[cd,Q,R,bd,binOp,S,cr],VR.bool _⟩
   .cases h
  .cases h
 .obtain rfl:=c.aH;obtain rfl:=d.aH
  rcases M.af h with⟨_,h⟩|⟨a,h⟩
  .cases h
  .simp only[M.ah,cq]at h;simp at a;subst h
   exact⟨_,by simp only[rI,binOp_shl,Op.shift,if_neg (Int.not_lt.2 a),cd,cr,bd],VR.int _ _⟩
 .obtain rfl:=c.aH;obtain rfl:=d.aH
  obtain⟨rfl,e⟩:=q h;clear h;rcases M.af e with⟨_,h⟩|⟨a,h⟩
  .cases h
  .simp only[M.ah,cq]at h;simp at a;subst h
   exact⟨_,by simp only[rI,binOp_quo,Op.intDiv,if_neg a,cd,cr,bd],VR.int _ _⟩
 .obtain rfl:=c.aH;obtain rfl:=d.aH
  obtain⟨rfl,e⟩:=q h;clear h;rcases M.af e with⟨_,h⟩|⟨a,h⟩
  .cases h
  .simp only[M.ah,cq]at h;simp at a;subst h
   exact⟨_,by simp only[rI,binOp_rem,Op.intDiv,if_neg a,cd,cr,bd],VR.int _ _⟩
 .cases h
  obtain rfl:=d.aH;generalize T:Value.iface 901 _=z at c;cases c<;>first|cases T|skip
  .exact⟨.bool false,by
    simp only[rI,binOp_lss,cd,cr,bd];rename_i W i;rw[decide_eq_false (show¬((W:Int)+(i:Int)<0)by omega)],VR.bool _⟩
 .cases h
end
section
variable{P:Program} {n:Nat->Prop} {q:World} {G:Kj} {σ:Nat->Option Pl} {u:List ag} {w:World}
def WX{o:UnOp}{x a v:Value}(c:VR σ x a)(h:(unM o x).get=some v)(w:World):∃b,(Op.unary o a).run P w=.ok b w/\VR σ v b:=by
 unfold unM at h;split at h
 .obtain rfl:=c.aD rfl
  cases h;exact⟨_,by simp only[Op.unary,cr],VR.bool _⟩
 .cases h
def K7{s d}{x b v}(e:VR σ x b)(h:(Gn P s d x).get=some v)(w):∃c,(convert s d b).run P w=.ok c w/\VR σ v c:=by
 unfold Gn at h;split at h
 .rename_i l k m a f i
  obtain rfl:=e.aD rfl;cases h;exact⟨_,by simp only[convert,cd,cF f,cF i,bd,Conv.intToInt,cr],VR.int _ _⟩
 .cases h
def RB{c i a d b e v}(l:VR σ c i)(m:VR σ a d)(o:VR σ b e)(h:(Ve c a b).get=some v)(w):
  ∃k,(do pure (Next.value (if<-asBool i then d else e)):Sem Next).run P w=.ok (.value k) w/\VR σ v k:=by
 unfold Ve at h;split at h
 .obtain rfl:=l.aD rfl
  rcases M.af h with⟨rfl,f⟩|⟨rfl,f⟩
  .cases f
   exact⟨d,by simp[asBool],m⟩
  .cases f
   exact⟨e,by simp[asBool],o⟩
 .cases h
def H7{x b v}(d:VR σ x b)(h:(Cr x).get=some v):b≠.pointer none/\b≠.nilIface/\b≠.nilFunc/\(∀m a c,b≠.func (.method m) a c)/\VR σ v b:=by
 unfold Cr at h;split at h
 .cases h
  cases d<;>exact⟨by simp,by simp,by simp,by simp,by constructor;assumption⟩
 .cases h
  refine⟨?_,?_,?_,?_,d⟩<;>cases d<;>simp
 .cases h
def VC{t ty}{x b v}(m:VR σ x b)(h:(abz P t x).get=some v)(w):∃f,(Builtin.len_ #[t] ty #[b]).run P w=.ok f w/\VR σ v f:=by
 unfold abz at h;split at h
 .rename_i e a l c d
  cases h;obtain⟨i,k,rfl⟩:∃i k,b=.slice i l k:=by
   cases m<;>exact⟨_,_,rfl⟩
  exact⟨_,by simp[Builtin.len_,cF d];rfl,VR.int _ _⟩
 .rename_i l e d
  cases h;exact⟨_,by simp[Builtin.len_,cF d];rfl,VR.int _ _⟩
 .cases h
def RP{ts}{ty}{x a y b v}(d:VR σ x a)(e:VR σ y b)(h:(Vr x y).get=some v)(w):∃c,(Builtin.min_ ts ty #[a,b]).run P w=.ok c w/\VR σ v c:=by
 unfold Vr at h;split at h
 .obtain rfl:=d.aH
  obtain rfl:=e.aH;cases h;exact⟨_,by simp[Builtin.min_,Builtin.min2],VR.int _ _⟩
 .cases h
def RS{ts}{ty}{x a y b v}(d:VR σ x a)(e:VR σ y b)(h:(Vu x y).get=some v)(w):∃c,(Builtin.max_ ts ty #[a,b]).run P w=.ok c w/\VR σ v c:=by
 unfold Vu at h;split at h
 .obtain rfl:=d.aH
  obtain rfl:=e.aH;cases h;exact⟨_,by simp[Builtin.max_,Builtin.max2],VR.int _ _⟩
 .cases h
def wrap_small{l}(h:0<=l)(a:l<=1048576):IntKind.i64.wrap l=l:=by
 simp[IntKind.wrap,IntKind.bits,IntKind.signed];omega
def kU{t e}{i}{z}{l}(c:P.underlying t=some (.slice e))(a:P.info? e=some i)(d:∀w,(zeroValue e).run P w=.ok z w)(f:z.cells= #[z])(s:i.size=1)(k:i.bytes<=8)(b:0<=l)(m:l<=1048576)(w):
  (Instr.makeSlice t (.int .i64 l) (.int .i64 l)).run P w=.ok (.slice (some ⟨w.heap.size,0,none⟩) l.toNat l.toNat) (w.alloc (.cells (Array.replicate l.toNat z) e)):=by
 have o:=wrap_small b m;simp only[Instr.makeSlice,cd,cF c,bd,asInt,asIntOf,cr,run_typeInfo a,o];have r:(i.bytes:Int)*l<=8*l:=fY (by omega) b;have p:¬(((decide (l<0)||decide ((i.bytes:Int)*l>2^48))||decide (l<0)||decide (l>l))=true):=by
  simp;omega
 rw[if_neg p];simp only[cd,bd,run_askRoom,run_sizeOf a,s,lr];by_cases h:l.toNat=0
 .simp[h,newRow,Array.range_zero']
 .simp only[h,jj,cd,d,bd,cr,newRow,run_newObj,World.alloc_eq]
  congr 3;grind
def FT(C:eB n w){t}{l D c E}{r}(K:VR σ l D)(L:VR σ c E)(h:(Ap P t l c).get=some r):
  ∃F o,(Instr.makeSlice t D E).run P w=.ok F (w.alloc o)/\sS n σ r F w o:=by
 unfold Ap at h;split at h
 .rename_i e l c H
  obtain rfl:=K.aH;obtain rfl:=L.aH;split at h
  .rename_i i m z
   rcases M.af h with⟨s,h⟩|⟨_,h⟩
   .rcases M.af h with⟨d,h⟩|⟨_,h⟩
    .rcases M.af h with⟨f,h⟩|⟨_,h⟩
     .cases h
      simp only[Bool.and_eq_true,decide_eq_true_eq]at s d f;subst d;obtain⟨p,v⟩:=f;refine⟨.slice (some ⟨w.heap.size,0,none⟩) l.toNat l.toNat,.cells (Array.replicate l.toNat (.int .i64 0)) e,kU H m (λw=>(lU z w).1) rfl (beq_true s.1) (by simp_all) p v w,⟨w.heap.size,0,1,l.toNat⟩,⟨rfl,rfl⟩,λI a A B=>⟨VR.slice B,?_⟩⟩;have:=BR.Tv (σ:=I) C (List.replicate l.toNat 0) e (c':=Array.replicate l.toNat (.int .i64 0)) λj x b=>by
       have k:j<l.toNat:=by have:=(List.getElem?_eq_some_iff.1 b).1;simpa using this
       simp[k]at b;simp[k, <-b]
      simpa using this
     .cases h
    .cases h
   .cases h
  .rename_i i m z
   rcases M.af h with⟨s,h⟩|⟨_,h⟩
   .rcases M.af h with⟨d,h⟩|⟨_,h⟩
    .rcases M.af h with⟨f,h⟩|⟨_,h⟩
     .cases h
      simp only[Bool.and_eq_true,decide_eq_true_eq]at s d f;subst d;obtain⟨p,v⟩:=f;refine⟨.slice (some ⟨w.heap.size,0,none⟩) l.toNat l.toNat,.cells (Array.replicate l.toNat (.bool false)) e,kU H m (λw=>(lU z w).1) rfl (beq_true s.1) (fo s.2) p v w,⟨w.heap.size,0,0,0⟩,⟨rfl,rfl⟩,λI a A B=>⟨VR.slice B,?_⟩⟩;refine BR.FO C e (by simp) λj x y b J=> ?_;have k:j<l.toNat:=by have:=(List.getElem?_eq_some_iff.1 b).1;simpa using this
      simp[k]at b J;rw[<-b, <-J];exact VR.bool _
     .cases h
    .cases h
   .cases h
  .cases h
 .cases h
def GH{E:Env}(S:vN E)(K:HR n q G σ u w){F z:Operand->Value}{o:Oper}(e:∀x∈o.op.operands,VR σ (F x) (z x)){v:Value}(h:(E8 E F u o.op).get=some v):
  ∃l,(execOp z o).run E.P w=.ok (.value l) w/\VR σ v l:=by
 obtain⟨T,R,L,U,N,O⟩:=o;simp only at h e;unfold E8 at h;split at h
 .rename_i x
  cases h;exact⟨_,by simp only[execOp,cr],e x (by simp[Op.operands])⟩
 .rename_i x
  cases h;exact⟨_,by simp only[execOp,cr],e x (by simp[Op.operands])⟩
 .rename_i c a b
  obtain⟨l,i,k⟩:=RB (P:=E.P) (e c (by simp[Op.operands])) (e a (by simp[Op.operands])) (e b (by simp[Op.operands])) h w;exact⟨l,by simpa[execOp]using i,k⟩
 .rename_i t B
  obtain⟨l,i,k⟩:=QL (P:=E.P) B F z (λp V=>e p.2 (by simp only[Op.operands,sE,List.mem_map];exact⟨p,uK.2 V,rfl⟩)) h w;exact⟨l,by simp only[execOp,cd,i,bd,cr],k⟩
 .rename_i t a
  obtain⟨l,i,k⟩:=EL K (e a (by simp[Op.operands])) h;exact⟨l,by simp only[execOp,cd,i,bd,cr],k⟩
 .rename_i x
  have H:=e x (by simp[Op.operands]);obtain⟨i,k,X,Y,W⟩:=H7 H h;refine⟨z x,?_,W⟩;simp only[execOp];rfl
 .rename_i R t x y Z
  obtain⟨l,i,k⟩:=WA S x y (e x (by simp[Op.operands])) (e y (by simp[Op.operands])) h w;exact⟨l,by simp only[execOp];rw[cd,i];rfl,k⟩
 .rename_i R t x
  obtain⟨l,i,k⟩:=WX (P:=E.P) (e x (by simp[Op.operands])) h w;exact⟨l,by simp only[execOp,cd,i,bd,cr],k⟩
 .rename_i s d x
  obtain⟨l,i,k⟩:=K7 (e x (by simp[Op.operands])) h w;exact⟨l,by simp only[execOp,cd,i,bd,cr],k⟩
 .rename_i f first captured
  cases h;have i:=dY.map (σ:=σ) F z first λx H=>e x (by simp[Op.operands,H])
  have k:=dY.map (σ:=σ) F z captured λx H=>e x (by simp[Op.operands,H]);exact⟨.func (.func f) (first.map z) (captured.map z),by simp[execOp,Instr.makeFunc],VR.func f i.1 k.1 i.2 k.2⟩
 .rename_i s x f
  obtain⟨l,i,k⟩:=Gf (P:=E.P) (e x (by simp[Op.operands])) h w;exact⟨l,by simp only[execOp,cd,i,bd,cr],k⟩
 .rename_i t x D
  obtain⟨l,i,k⟩:=FV K (e x (by simp[Op.operands])) (e D (by simp[Op.operands])) h;exact⟨l,by simp only[execOp,cd,i,bd,cr],k⟩
 .rename_i t x D
  obtain⟨l,i,k⟩:=PV (P:=E.P) (e x (by simp[Op.operands])) (e D (by simp[Op.operands])) h w;exact⟨l,by simp only[execOp,cd,i,bd,cr],k⟩
 .rename_i t D
  obtain⟨l,i,k⟩:=KZ (P:=E.P) (e t (by simp[Op.operands])) h w;exact⟨l,by simp only[execOp,cd,i,bd,cr],k⟩
 .rename_i t m D ok
  obtain⟨l,i,k⟩:=Nl K (e m (by simp[Op.operands])) (e D (by simp[Op.operands])) h;exact⟨l,by simp only[execOp,cd,i,bd,cr],k⟩
 .rename_i c
  obtain⟨J,A,C⟩:=c;simp only at h;split at h
  .rename_i I r Q
   obtain rfl:A= #[_]:=e8.1 r;obtain rfl:C= #[_]:=e8.1 Q;obtain⟨l,i,k⟩:=VC (P:=E.P) (ty:=L) (e _ (by simp[Op.operands,Call.operands])) h w;exact⟨l,by simp[execOp,resolve,invoke,builtin,i],k⟩
  .rename_i I r
   obtain rfl:A= #[_,_]:=e8.1 r;obtain⟨l,i,k⟩:=RP (P:=E.P) (ts:=C) (ty:=L) (e _ (by simp[Op.operands,Call.operands])) (e _ (by simp[Op.operands,Call.operands])) h w;exact⟨l,by simp[execOp,resolve,invoke,builtin,i],k⟩
  .rename_i I r
   obtain rfl:A= #[_,_]:=e8.1 r;obtain⟨l,i,k⟩:=RS (P:=E.P) (ts:=C) (ty:=L) (e _ (by simp[Op.operands,Call.operands])) (e _ (by simp[Op.operands,Call.operands])) h w;exact⟨l,by simp[execOp,resolve,invoke,builtin,i],k⟩
  .cases h
 .cases h
def Ia{E}(A:eB n w){B m}{o}(b:∀x∈o.op.operands,VR σ (B x) (m x)){r}(h:(Pm E B o.op).get=some r):
  ∃d f,(execOp m o).run E.P w=.ok (.value d) (w.alloc f)/\sS n σ r d w f:=by
 obtain⟨F,N,O,H,C,D⟩:=o;simp only at h b;unfold Pm at h;split at h
 .obtain⟨d,f,s,y⟩:=QV A h
  exact⟨d,f,by simp only[execOp,cd,s,bd,cr],y⟩
 .rename_i t x
  obtain⟨d,f,s,y⟩:=JA (P:=E.P) (t:=t) A (b x (by simp[Op.operands])) h;exact⟨d,f,by simp only[execOp,cd,s,bd,cr],y⟩
 .rename_i t I z
  obtain⟨d,f,s,y⟩:=Eu A z B m (λp Q=>b p.2 (by simp only[Op.operands,sE,List.mem_map];grind)) h;exact⟨d,f,by simp only[execOp,cd,s,bd,cr],y⟩
 .rename_i t l c
  obtain⟨d,f,s,y⟩:=FT A (b l (by simp[Op.operands])) (b c (by simp[Op.operands])) h;exact⟨d,f,by simp only[execOp,cd,s,bd,cr],y⟩
 .cases h
  refine⟨.map (some w.heap.size),.map #[] 0,by simp[execOp,Instr.makeMap],⟨w.heap.size,0,0,0⟩,⟨rfl,rfl⟩,λR a S J=>⟨VR.Ao J,λ_=>⟨A.new,λo=>by
   have e:(w.alloc (.map #[] 0)).heap[w.heap.size]?=some (.map #[] 0):=by show(w.heap.push _)[w.heap.size]?=_;simp
   unfold World.frozen?;rw[e],λj K=>by simp at K⟩, #[],0,?_,rfl,λi k v L=>by simp at L⟩⟩
  show(w.heap.push _)[w.heap.size]?=_;simp
 .cases h
end
section
variable{P:Program} {n:Nat->Prop} {d:World} {G:Kj} {σ:Nat->Option Pl} {f:List ag} {w:World}
def Wu{σ}{v y}{x}(h:zC v=some x)(b:VR σ v y):y=.int .i64 x:=by
 unfold zC at h;split at h
 .cases h
  exact b.aH
 .rename_i a
  split at h
  .rename_i l
   cases h;generalize c:Value.iface 900 (.agg a)=z at b;cases b<;>cases c;obtain⟨rfl,rfl,rfl,rfl,rfl,rfl,rfl,rfl,rfl⟩:=l;rfl
  .cases h
 .cases h
theorem wL:∀(c) (l),mU c=some l->l.length=c.length/\∀(i:Nat) (x),l[i]?=some x->∃v,c[i]?=some v/\zC v=some x
 |[],l,h=>by simp[mU]at h;grind
 |x::r,l,h=>by
  unfold mU at h;cases k:zC x with
  |none=>grind
  |some a=>
   cases b:mU r with
   |none=>grind
   |some e=>
    obtain⟨m,o⟩:=wL r e b;grind
def Holds(P:Program)(w:World)(m:Nat)(x:Value)(l:Nat)(s:List Value):Prop:=
 (∀u∈s,u.oneCell'=true)/\s.length=l*m/\((∃c,x=.slice none 0 c/\l=0)\/∃a c,x=.slice (some a) l c/\∀j v,s[j]?=some v->w.cell? (a.add j)=some v)
def jX{b o l c m}{s}(a:∀u∈s,u.oneCell'=true)(e:s.length=l*m)(h:∀j v,s[j]?=some v->w.cell? ⟨b,o+j,none⟩=some v):Holds P w m (.slice (some ⟨b,o,none⟩) l c) l s:=
 ⟨a,e,.inr ⟨_,_,rfl,λj v i=>by rw[gw];exact h j v i⟩⟩
def Ah(x:List Int):∀u∈x.map (Value.int .i64),u.oneCell'=true:=λu h=>by
 obtain⟨_,_,rfl⟩:=List.mem_map.1 h;rfl
def Holds.src{m l}{x}{s}(h:Holds P w m x l s){b e}(k:P.underlying b=some (.slice e)):Src P m b x l s w:=by
 obtain⟨i,o,⟨c,rfl,rfl⟩|⟨a,c,rfl,p⟩⟩:=h
 .grind [List.eq_nil_of_length_eq_zero,Src.ofNil]
 grind [Src.ofSlice]
def Holds.old{m l}{x}{s}(h:Holds P w m x l s):(Builtin.firstCells m l x).run P w.drew=.ok s.toArray w.drew:=by
 obtain⟨i,b,⟨c,rfl,rfl⟩|⟨a,c,rfl,e⟩⟩:=h
 .grind [List.eq_nil_of_length_eq_zero,run_firstCells_none]
 .exact run_firstCells_some w.drew m l a l c s b (by simpa using e)
def Bi(A:HR n d G σ f w){x B}{s}(r:VR σ x B)(h:(DD f x).get=some s):Holds P w 1 B s.length (s.map (Value.int .i64)):=by
 unfold DD at h;split at h
 .simp at h;subst h
  obtain rfl:=r.aD rfl;exact⟨by simp,rfl,.inl ⟨0,rfl,rfl⟩⟩
 .simp at h;subst h
  cases r with
  |empty a=>exact⟨by simp,rfl,.inr ⟨a,0,rfl,λj v e=>by simp at e⟩⟩
 .rename_i k C l c
  obtain⟨p,y,rfl⟩:=r.p9;split at h
  .rename_i F wr z m
   rcases M.af h with⟨o,h⟩|⟨_,h⟩
   .simp at h;subst h
    have q:=fo o;have b:((z.drop C).take l).length=l:=by simp;omega
    rw[b];refine jX (Ah _) (by simp;omega) λj v e=> ?_;simp only[cG,ia]at e;obtain⟨u,i,rfl⟩:=e;rw[gC]at i;split at i
    .rw[List.getElem?_drop]at i
     rw[Nat.add_assoc];exact(A.ints_at y m).2 _ _ i
    .cases i
   .cases h
  .rename_i F wr z m
   rcases M.af h with⟨o,h⟩|⟨_,h⟩
   .simp at h
    have q:=fo o;obtain⟨D,E⟩:=wL _ _ h;have b:s.length=l:=by
     simp at D;omega
    rw[b];refine jX (Ah _) (by simp;omega) λj v e=> ?_;simp only[cG,ia]at e;obtain⟨u,i,rfl⟩:=e;obtain⟨L,e,H⟩:=E j u i;rw[gC]at e;split at e
    .rw[List.getElem?_drop]at e
     obtain⟨N,I,J⟩:=A.jB y m e;rw[Nat.add_assoc,I,Wu H J]
    .cases e
   .cases h
  .cases h
 .rename_i k l
  obtain⟨p,y,K,rfl⟩:∃p,σ k=some p/\l<=p.cap/\B=.slice (some ⟨p.b,p.o,none⟩) l p.cap:=by
   cases r with
   |vec h m=>exact⟨_,h,m,rfl⟩
  split at h
  .rename_i F wr z m
   rcases M.af h with⟨o,h⟩|⟨_,h⟩
   .simp at h;subst h
    have q:=fo o;have b:(z.take l).length=l:=by simp;omega
    rw[b];refine jX (Ah _) (by simp;omega) λj v e=> ?_;simp only[cG,ia]at e;obtain⟨u,i,rfl⟩:=e;rw[gC]at i;split at i
    .exact(A.ints_at y m).2 _ _ i
    .cases i
   .cases h
  .cases h
 .cases h
def NW{e}{i}{z}(h:P.info? e=some i)(a:zeroOf P e=some z):i.zero=some z:=by
 grind [zeroOf]
def xP(r:HR n d G σ f w){t u e A ty}{i}{base}{sLen sCap}{l}{ys s}(B:P.underlying t=some (.slice e))(C:P.underlying u=some (.slice A))(p:P.info? e=some i)(D:zeroOf P e=some (.int .i64 0))
  (a:i.size=1) (m:i.bytes=8) (q:Holds P w 1 (.slice base sLen sCap) sLen (ys.map (Value.int .i64))) (E:Holds P w 1 l s.length (s.map (Value.int .i64))) (I:sCap<sLen+s.length) (F:sLen+s.length<=1073741824):
  ∃v y,(Builtin.append_ #[t,u] ty #[.slice base sLen sCap,l]).run P w=.ok v y/\Good n d G σ f.length (iJ f.length (sLen+s.length),f++[.ints true true (ys++s)]) v y:=by
 have b:=growslice_fits I (bytes:=i.bytes) (by rw[m];omega);have H:ys.length=sLen:=by have:=q.2.1;simpa using this
 have o:=run_append_grow_src w t u ty e i (.int .i64 0) B p (NW p D) base sLen sCap (ys.map (Value.int .i64)) (by rw[a];exact q.old) l s.length (s.map (Value.int .i64)) (by rw[a];exact E.src C) I (by omega) b;refine⟨_,_,o,?_⟩;have k:=grownCap_ge w (sLen+s.length) sCap e;generalize grownCap w (sLen+s.length) sCap e=c at*
 have h:(((ys.map (Value.int .i64)++s.map (Value.int .i64)).toArray++Builtin.zeroCells (Value.int .i64 0).cells (c-(sLen+s.length)))).size=c:=by
  simp[size_zeroCells,Value.cells];omega
 have z:=BR.Tv (σ:=upd σ f.length ⟨w.drew.heap.size,0,1,c⟩) r.drew.size (ys++s) e (c':=(ys.map (Value.int .i64)++s.map (Value.int .i64)).toArray++Builtin.zeroCells (Value.int .i64 0).cells (c-(sLen+s.length))) λj x J=>by
  grind
 rw[h]at z;exact⟨_,r.drew.sK _,VR.vec (upd_same _ _ _) k,r.drew.new _ _ _ rfl z⟩
def HR.alias(h:HR n d G σ f w){p}(c:∀i q,σ i=some q->(f.getD i .dead).alive=true->q.b≠p.b)(y:p.b<w.heap.size)(blk)(z:BR n (upd σ f.length p) blk p w)(v:iB n G (upd σ f.length p) (f++[blk]) w):
  HR n d G (upd σ f.length p) (f++[blk]) w:=by
 have x:=h.wK p;refine⟨h.hn,h.below,v,λk q a=> ?_,λk q a=> ?_,λk m q s a b o u l=> ?_,λk q a=> ?_⟩
 .by_cases e:k=f.length
  .subst e;simp
  .rw[dF _ _ e]at a
   have:=h.dom k q a;simp;omega
 .by_cases e:k=f.length
  .grind [upd_same]
  .rw[dF _ _ e]at a
   exact h.lt k q a
 .by_cases e:k=f.length
  .by_cases r:m=f.length
   .rw[e,r]
   .rw[e,upd_same]at a;cases a
    rw[dF _ _ r]at b;rw[bY _ _ _ (h.dom m s b)]at u;exact absurd l.symm (c m s b u)
  .rw[dF _ _ e]at a
   by_cases r:m=f.length
   .rw[r,upd_same]at b;cases b
    rw[bY _ _ _ (h.dom k q a)]at o;refine absurd l (c k q a ?_);cases A:f.getD k .dead with
    |dead=>rw[A]at o;cases o
    |_=>rfl
   .rw[dF _ _ r]at b
    rw[bY _ _ _ (h.dom k q a)]at o;rw[bY _ _ _ (h.dom m s b)]at u;exact h.inj k m q s a b o u l
 .by_cases e:k=f.length
  .subst e
   rw[upd_same]at a;cases a;rw[iQ];exact z
  .rw[dF _ _ e]at a
   rw[bY _ _ _ (h.dom k q a)];exact(h.blk k q a).mono x rfl
def HR.X8(h:HR n d G σ f w){k:Nat}{p:Pl}(l:σ k=some p)(x:(f.getD k .dead).owned=true)(o:Nat)(s:List Value)(b:ag)(D:BR n (upd σ f.length p) b p (w.setCells p.b o s))(H:b.aM=some none:=by first|rfl|assumption):
  HR n d G (upd σ f.length p) (f.set k .dead++[b]) (w.setCells p.b o s):=by
 have A:=h.stores l x o s .dead (λe=>by cases e) ⟨λe=>(by cases e),trivial⟩;have m:(f.set k .dead).length=f.length:=by simp
 have y:=h.dom k p l;have E:(w.setCells p.b o s).heap.size=w.heap.size:=by
  have:∀(s:List Value) (o:Nat) (w:World),(w.setCells p.b o s).heap.size=w.heap.size:=by
   intro s;induction s with
   |nil=>intro o w;rfl
   |cons v r F=>intro o w;rw[World.setCells,F,js]
  exact this s o w
 have z:iB n G (upd σ f.length p) (f.set k .dead++[b]) (w.setCells p.b o s):=by
  refine h.ab.id h.lt (by grind) (λj _=> ?_) (λi q a=> ?_)
  .grind [jd,heap_setCells_other]
  .by_cases e:i=f.length
   .subst e
    rw[upd_same]at a;cases a;have:(f.set k .dead++[b]).getD f.length .dead=b:=by rw[<-m];exact iQ _ _
    rw[this];exact .inr (.inr ⟨.inr ⟨k,p,l,jd x,rfl⟩,H⟩)
   .rw[dF _ _ e]at a
    rw[bY _ _ _ (by rw[m];exact h.dom i q a)];by_cases B:i=k
    .subst B
     rw[dA _ _ _ y];exact .inl rfl
    .rw[aX _ _ B];exact .inr (.inl ⟨a,rfl⟩)
 have C:=A.alias (λi q a u e=> ?_) (A.lt k p l) b (by rw[m];exact D) (by rw[m];exact z)
 .rw[m]at C;exact C
 .by_cases c:i=k
  .subst c
   rw[dA _ _ _ (h.dom i p l)]at u;cases u
  .rw[aX _ _ c]at u
   exact c (h.inj k i p q l a x u e.symm).symm
def Gs(I:HR n d G σ f w){t u e e2 O:TypeId}{i:TypeInfo}{s s' x':Value}{B:List Int}{r:Value×List ag}(W:P.underlying t=some (.slice e))(Q:P.underlying u=some (.slice e2))(X:P.info? e=some i)(hz:zeroOf P e=some (.int .i64 0))
  (x:i.size=1) (J:i.bytes=8) (K:VR σ s s') (Y:Holds P w 1 x' B.length (B.map (Value.int .i64))) (h:(rz s B f).get=some r):
  ∃Z w',(Builtin.append_ #[t,u] O #[s',x']).run P w=.ok Z w'/\Good n d G σ f.length r Z w':=by
 have E:∀(y:Option Addr) (l c:Nat),B.length=0->l<=c->VR σ s (.slice y l c)->∃Z w',(Builtin.append_ #[t,u] O #[.slice y l c,x']).run P w=.ok Z w'/\Good n d G σ f.length (s,f) Z w':=by
  intro y l c R S b;refine⟨.slice y l c,w,?_,σ,Ext.refl _ _,b,I⟩;have F:=Y.src Q;rw[R]at F;obtain rfl:B=[]:=List.eq_nil_of_length_eq_zero R;have h1:=F.len w;have h2:=F.cells;simp only[sL]at h2;cases y<;>simp[Builtin.append_,cF W,cF Q,sizeOf,typeInfo,X,h1,S,x,h2,storeCells]
 unfold rz at h;split at h
 .obtain rfl:=K.aD rfl
  rcases M.af h with⟨m,b⟩|⟨m,h⟩
  .cases b
   exact E _ _ _ (beq_true m) (Nat.le_refl _) K
  .rcases M.af h with⟨T,b⟩|⟨_,b⟩
   .cases b
    have H:0<B.length:=oB λe=>by rw[e]at m;cases m
    have:=xP (ty:=O) I (sCap:=0) (base:=none) (sLen:=0) (ys:=[]) W Q X hz x J ⟨by simp,rfl,.inl ⟨0,rfl,rfl⟩⟩ Y (by omega) (by have:=fo T;omega);simpa using this
   .cases b
 .obtain⟨a,rfl⟩:∃a,s'=.slice (some a) 0 0:=by
   cases K with
   |empty a=>exact⟨a,rfl⟩
  rcases M.af h with⟨m,b⟩|⟨m,h⟩
  .cases b
   exact E _ _ _ (beq_true m) (Nat.le_refl _) K
  .rcases M.af h with⟨T,b⟩|⟨_,b⟩
   .cases b
    have H:0<B.length:=oB λe=>by rw[e]at m;cases m
    have:=xP (ty:=O) I (sCap:=0) (base:=some a) (sLen:=0) (ys:=[]) W Q X hz x J ⟨by simp,rfl,.inr ⟨a,0,rfl,λj v b=>by simp at b⟩⟩ Y (by omega) (by have:=fo T;omega);simpa using this
   .cases b
 .rename_i k cb l c
  rcases M.af h with⟨S,h⟩|⟨_,h⟩
  .obtain rfl:=beq_true S
   obtain⟨p,hk,rfl⟩:=K.p9;rcases M.af h with⟨m,b⟩|⟨m,h⟩
   .cases b
   .obtain⟨D,hy,h⟩:=M.ay h
    rcases M.af h with⟨T,b⟩|⟨_,b⟩
    .cases b
     have H:0<B.length:=oB λe=>by rw[e]at m;cases m
     have ho:=Bi (P:=P) I K hy;obtain⟨h1,h2,h3⟩:=ho;have ar:D.length=l:=by
      rcases h3 with⟨c,U,_⟩|⟨a,c,U,_⟩
      .cases U
      .cases U;rfl
     rw[ar]at h3 h2;exact xP (ty:=O) I W Q X hz x J ⟨h1,h2,h3⟩ Y (by omega) (fo T)
    .cases b
  .cases h
 .rename_i k l
  obtain⟨p,hk,bi,rfl⟩:∃p,σ k=some p/\l<=p.cap/\s'=.slice (some ⟨p.b,p.o,none⟩) l p.cap:=by
   cases K with
   |vec h R=>exact⟨_,h,R,rfl⟩
  split at h
  .rename_i D R
   rcases M.af h with⟨bm,h⟩|⟨_,h⟩
   .obtain rfl:=beq_true bm
    rcases M.af h with⟨m,b⟩|⟨m,h⟩
    .cases b
     exact E _ _ _ (beq_true m) bi K
    .rcases M.af h with⟨T,b⟩|⟨_,b⟩
     .cases b
      have H:0<B.length:=oB λe=>by rw[e]at m;cases m
      have L:(f.getD k .dead).owned=true:=by rw[R];rfl
      obtain⟨bv,ac,z⟩:=(I.blk k p hk).1 L;obtain⟨V,am⟩:=I.ints_at hk R;rw[V]at z;by_cases C:D.length+B.length<=p.cap
      .have A:∀j,j<(B.map (Value.int .i64)).length->(w.cell? ⟨p.b,p.o+D.length+j,none⟩).isSome=true:=λj N=>by
        rw[Nat.add_assoc];exact z _ (by simp at N;omega)
       have ao:=run_append_room_src (P:=P) w t u O e i W X p.b p.o D.length p.cap x' B.length (B.map (Value.int .i64)) (by rw[x];exact Y.src Q) C (by rw[x,lr];exact A) (λj _=>ac _);rw[x,lr]at ao;refine⟨_,_,ao,_,I.sK p,VR.vec (upd_same _ _ _) C,I.X8 hk L _ _ _ ⟨λ_=>⟨bv,λo=>(j9 _ _ _ _ _).trans (ac o),λj N=>mH _ _ _ _ A _ (z j (by rw[V]at N;exact N))⟩,V,λj v b=> ?_⟩⟩;rcases Nat.lt_or_ge j D.length with N|N
       .rw[List.getElem?_append_left N]at b
        rw[gj _ _ _ _ ⟨p.b,p.o+j,none⟩ (λ_ _=>by simp;omega)];exact am j v b
       .rw[List.getElem?_append_right N]at b
        have ca:=(List.getElem?_eq_some_iff.1 b).1;have:=gO p.b (B.map (Value.int .i64)) (p.o+D.length) w A (j-D.length) (by simpa using ca);rw[show p.o+D.length+(j-D.length)=p.o+j by omega]at this;rw[this];simp only[List.getElem_map];obtain⟨_,rfl⟩:=List.getElem?_eq_some_iff.1 b;rfl
      .have VK:HR n d G σ (f.set k .dead) w:=I.re hk .dead (fun e=>by cases e) (fun e=>by cases e) ⟨fun e=>(by cases e),trivial⟩
       have ho:Holds P w 1 (.slice (some ⟨p.b,p.o,none⟩) D.length p.cap) D.length (D.map (Value.int .i64)):=jX (Ah _) (by simp) λj v b=>by
        simp only[cG,ia]at b;obtain⟨q,hq,rfl⟩:=b;exact am j q hq
       have:=xP (ty:=O) VK W Q X hz x J ho Y (by omega) (fo T);simpa using this
     .cases b
   .cases h
  .cases h
 .cases h
def Mv(r:HR n d G σ f w){t u e K ty}{i}{base}{W sLen sCap}{x}{z}{ys s}{g'}(L:P.underlying t=some (.slice e))(N:P.underlying u=some (.slice K))(D:P.info? e=some i)(O:zeroOf P e=some z)
  (b:i.size=W) (p:z.cells.size=W) (U:1<=W) (y:i.bytes<=1024) (E:Holds P w W (.slice base sLen sCap) sLen ys) (F:Holds P w W x 1 s) (I:sCap<sLen+1) (A:sLen+1<=1073741824)
  (Q:∀(i j) (v),j<W->(ys++s)[i*W+j]?=some v->VR σ (g'.at i j).val v):
  ∃H J,(Builtin.append_ #[t,u] ty #[.slice base sLen sCap,x]).run P w=.ok H J/\Good n d G σ f.length (iJ f.length (sLen+1),f++[.rows true true W (sLen+1) g']) H J:=by
 have k:=growslice_fits I (bytes:=i.bytes) (Nat.le_trans (rK A y) (by decide));have B:=run_append_grow_src (P:=P) w t u ty e i z L D (NW D O) base sLen sCap ys (by rw[b];exact E.old) x 1 s (by rw[b];exact F.src N) I (by omega) k;refine⟨_,_,B,?_⟩;have m:=grownCap_ge w (sLen+1) sCap e;generalize grownCap w (sLen+1) sCap e=c at*;have R:=E.2.1;have S:=F.2.1;have h:(ys++s).length=(sLen+1)*W:=by grind
 have a:(((ys++s).toArray++Builtin.zeroCells z.cells (c-(sLen+1)))).size=c*W:=by
  rw[Array.size_append,List.size_toArray,h,size_zeroCells];rw[p, <-Nat.add_mul];congr 1;omega
 have T:BR n (upd σ f.length ⟨w.drew.heap.size,0,W,c⟩) (.rows true true W (sLen+1) g') ⟨w.drew.heap.size,0,W,c⟩ (w.drew.alloc (.cells ((ys++s).toArray++Builtin.zeroCells z.cells (c-(sLen+1))) e)):=by
  refine⟨λ_=>⟨r.drew.size.new,λo=>fX _ _ _ _,λj C=> ?_⟩,rfl,λq j V C=> ?_⟩
  .rw[Nat.zero_add,dk]
   have:=C;rw[cj (by rw[a];exact this)];rfl
  .have l:q*W+j<(ys++s).length:=by
    rw[h]
    calc q*W+j<q*W+W:=by omega
     _=(q+1)*W:=by rw[Nat.add_mul];omega
     _<=(sLen+1)*W:=dq _ (by omega)
   refine⟨(ys++s)[q*W+j],?_,(Q q j _ C (List.getElem?_eq_getElem l)).mono (r.wK _)⟩;rw[Nat.zero_add,dk,Array.getElem?_append_left (by simpa using l)];simp only[iT];exact List.getElem?_eq_getElem l
 exact⟨_,r.drew.sK _,VR.vec (upd_same _ _ _) m,r.drew.new _ _ _ rfl T⟩
def X4{W i j:Nat}(h:j<W):(i*W+j)/W=i/\(i*W+j)%W=j:=by
 grind [Nat.add_comm,Nat.add_mul_div_right,Nat.div_eq_of_lt,Nat.add_mul_mod_self_right,Nat.mod_eq_of_lt]
def RZ{v}(h:oV v=true):uB v=true:=by
 cases v<;>first|rfl|cases h
def yf(F:HR n d G σ f w){t u e e2 ty:TypeId}{i:TypeInfo}{s s':Value}{z:Value}{k0:Nat}{p0:Pl}{ow wr:Bool}{c:List Value}{r:Value×List ag}(ht:P.underlying t=some (.slice e))(hu:P.underlying u=some (.slice e2))(hi:P.info? e=some i)(hz:zeroOf P e=some z)
  (de:c.length=i.size) (U:z.cells.size=i.size) (hW:1<=i.size) (W:i.bytes<=1024) (D:c.all oV=true) (hs:VR σ s s') (ar:σ k0=some p0) (bi:f.getD k0 .dead=.cells ow wr c) (h:(qA i.size s c f).get=some r):
  ∃E w',(Builtin.append_ #[t,u] ty #[s',.slice (some ⟨p0.b,p0.o,none⟩) 1 1]).run P w=.ok E w'/\Good n d G σ f.length r E w':=by
 obtain⟨J,X,H⟩:=mW (Q:=λq E=>w.cell? ⟨p0.b,p0.o+q,none⟩=some E/\VR σ (c.getD q undef) E) i.size (λq C=>by
  obtain⟨E,K,Y⟩:=F.jB ar bi (List.getElem?_eq_getElem (by omega:q<c.length));grind)
 have N:∀j,j<i.size->uB (c.getD j undef)=true/\oV (c.getD j undef)=true:=λj B=>by
  rw[List.all_eq_true]at D
  have K:=D (c.getD j undef) (by
   rw[b8,List.getElem?_eq_getElem (by omega)];exact List.getElem_mem _)
  exact⟨RZ K,K⟩
 have Z:∀v∈J,v.oneCell'=true:=λv x=>by
  obtain⟨q,C,rfl⟩:=ff.1 x;exact qR (H q _ (List.getElem?_eq_getElem C)).2 (N _ (by omega)).1
 have hx:Holds P w i.size (.slice (some ⟨p0.b,p0.o,none⟩) 1 1) 1 J:=jX Z (by omega) λj v x=>(H j v x).1;unfold qA at h;split at h
 .cases h
  obtain rfl:=hs.aD rfl
  have:=Mv (ty:=ty) F (sCap:=0) (base:=none) (sLen:=0) (ys:=[]) (g':=rowOf c) ht hu hi hz rfl U hW W ⟨by simp,by simp,.inl ⟨0,rfl,rfl⟩⟩ hx (by omega) (by omega) (λq j v B x=>by
   have C:q=0:=by
    have:=(List.getElem?_eq_some_iff.1 x).1;simp only[List.nil_append,X]at this;rcases lf q with h0|h0
    .exact h0
    .have:=dq i.size h0;omega
   subst C;simp only[List.nil_append,Nat.zero_mul,Nat.zero_add]at x;rw[aaQ (by omega) (N j B).2];exact(H j v x).2)
  simpa using this
 .rename_i k l
  obtain⟨p,hk,dp,rfl⟩:∃p,σ k=some p/\l<=p.cap/\s'=.slice (some ⟨p.b,p.o,none⟩) l p.cap:=by
   cases hs with
   |vec h hl=>exact⟨_,h,hl,rfl⟩
  split at h
  .rename_i wd m g hl
   rcases M.af h with⟨bm,h⟩|⟨_,h⟩
   .rcases M.af h with⟨bv,h⟩|⟨_,h⟩
    .rcases M.af h with⟨O,h⟩|⟨_,h⟩
     .cases h
      obtain rfl:=beq_true bv;have ca:wd=i.size:=beq_true bm;subst ca;rw[Bool.and_eq_true]at O;have cb:=O.2;have ce:l+1<=1073741824:=fo O.1;obtain⟨R,co⟩:=F.sj hk hl
      obtain⟨T,V,I⟩:=mW (Q:=λq E=>w.cell? ⟨p.b,p.o+q,none⟩=some E/\VR σ (g.at (q/i.size) (q%i.size)).val E) (l*i.size) (λq C=>by
       have d5:q/i.size<l:=Nat.div_lt_of_lt_mul (by rw[Nat.mul_comm];exact C);have d6:q%i.size<i.size:=qn _ (by omega);obtain⟨E,K,Y⟩:=co _ _ d5 d6;refine⟨E,?_,Y⟩;rwa[show q/i.size*i.size+q%i.size=q by rw[Nat.mul_comm];exact Nat.div_add_mod q i.size]at K)
      have d7:∀v∈T,v.oneCell'=true:=λv x=>by
       obtain⟨q,C,rfl⟩:=ff.1 x;refine qR (I q _ (List.getElem?_eq_getElem C)).2 ?_;cases g.at (q/i.size) (q%i.size)<;>rfl
      have S:∀(q j:Nat) (v:Value),j<i.size->(T++J)[q*i.size+j]?=some v->VR σ ((eY l c g).at q j).val v:=by
       intro q j v B x;rcases Nat.lt_or_ge q l with C|C
       .have a:q*i.size+j<T.length:=by
         rw[V]
         calc q*i.size+j<q*i.size+i.size:=by omega
          _=(q+1)*i.size:=by rw[Nat.add_mul];omega
          _<=l*i.size:=dq _ C
        rw[List.getElem?_append_left a]at x;have Y:=(I _ v x).2;rw[(X4 B).1,(X4 B).2]at Y;rw[EH (by omega)];exact Y
       .have a:=(List.getElem?_eq_some_iff.1 x).1
        rw[cE,V,X]at a;have d8:q=l:=by
         rcases Nat.lt_or_ge l q with K|K
         .have:=dq i.size K
          rw[Nat.succ_mul]at this;omega
         .omega
        subst d8;rw[List.getElem?_append_right (by rw[V];omega),V,mS]at x;rw[EI cb (by omega) (N j B).2];exact(H j v x).2
      have L:(f.getD k .dead).owned=true:=by rw[hl];rfl
      obtain⟨d9,ac,y⟩:=(F.blk k p hk).1 L;rw[R]at y;by_cases b:l+1<=p.cap
      .have am:(l+1)*i.size<=p.cap*i.size:=dq _ b
       rw[Nat.succ_mul]at am;have A:∀j,j<J.length->(w.cell? ⟨p.b,p.o+l*i.size+j,none⟩).isSome=true:=λj B=>by
        rw[Nat.add_assoc];exact y _ (by omega)
       have dd:=run_append_room_src (P:=P) w t u ty e i ht hi p.b p.o l p.cap (.slice (some ⟨p0.b,p0.o,none⟩) 1 1) 1 J (hx.src hu) b A (λj _=>ac _);refine⟨_,_,dd,_,F.sK p,VR.vec (upd_same _ _ _) b,F.X8 hk L _ _ _ ⟨λ_=>⟨d9,λo=>(j9 _ _ _ _ _).trans (ac o),λj B=>mH _ _ _ _ A _ (y j (by rw[R]at B;exact B))⟩,R,λq j C B=> ?_⟩⟩;rcases Nat.lt_or_ge q l with ao|ao
       .have a:q*i.size+j<T.length:=by
         rw[V]
         calc q*i.size+j<q*i.size+i.size:=by omega
          _=(q+1)*i.size:=by rw[Nat.add_mul];omega
          _<=l*i.size:=dq _ ao
        refine⟨T[q*i.size+j],?_,(S q j _ B (by rw[List.getElem?_append_left a];exact List.getElem?_eq_getElem a)).mono (F.wK p)⟩;rw[gj _ _ _ _ ⟨p.b,p.o+(q*i.size+j),none⟩ (λ_ _=>by simp;omega)];exact(I _ _ (List.getElem?_eq_getElem a)).1
       .obtain rfl:q=l:=by omega
        have a:j<J.length:=by omega
        refine⟨J[j],?_,(S q j _ B (by rw[List.getElem?_append_right (by rw[V];omega),V,mS];exact List.getElem?_eq_getElem a)).mono (F.wK p)⟩;have:=gO p.b J (p.o+q*i.size) w A j a;rw[show p.o+q*i.size+j=p.o+(q*i.size+j)by omega]at this;rw[this]
      .have VK:=F.re hk .dead (fun e=>by cases e) (fun e=>by cases e) ⟨fun e=>(by cases e),trivial⟩
       have ho:Holds P w i.size (.slice (some ⟨p.b,p.o,none⟩) l p.cap) l T:=jX d7 V λj v x=>(I j v x).1;have:=Mv (ty:=ty) VK ht hu hi hz rfl U hW W ho hx (by omega) ce S;simpa using this
     .cases h
    .cases h
   .cases h
  .cases h
 .cases h
end
def bu(l b:List ag):Prop:=l.length<=b.length/\∀k,k<l.length->(l.getD k .dead).vo=false->b.getD k .dead=l.getD k .dead
theorem bu.refl(lh):bu lh lh:=⟨Nat.le_refl _,λ_ _ _=>rfl⟩
def bu.trans{a b c}(h:bu a b)(k:bu b c):bu a c:=
 ⟨Nat.le_trans h.1 k.1,λi d w=>by
  have e:=h.2 i d w;have f:=k.2 i (Nat.lt_of_lt_of_le d h.1) (by rw[e];exact w);rw[f,e]⟩
theorem bu.append(lh N):bu lh (lh++N):=⟨by simp,λk h _=>by grind⟩
theorem bu.set(lh){k}(blk)(w:(lh.getD k .dead).vo=true):bu lh (lh.set k blk):=
 ⟨by simp,λi a h=>by
  grind⟩
section
variable{n:Nat->Prop} {w0:World} {G:Kj}
def iL(P:Program)(f:FuncId)(a:Func):Prop:=P.funcs[f]?=some a/\(a.name== "runtime.NumGoroutine")=false/\a.body.isSome=true
def iL.run{P}{f}{a}(h:iL P f a)(as)(w):(callFunc f as).run P w=.ok (.enter f as) w:=by
 obtain⟨d,i,k⟩:=h;have b:¬a.name= "runtime.NumGoroutine" :=by simpa using i
 have c:¬a.body=none:=λe=>by grind
 simp[callFunc,d,b,c]
def dK(P:Program)(n:Nat->Prop)(w0:World)(G:Kj)(f:FuncId)(b:List Value)(l:List ag)(r:Value×List ag):Prop:=
 bu l r.2/\∀σ w a,HR n w0 G σ l w->dY σ b.toArray a->Calls P f a w λe c=>∃v,e=.returned v/\Good n w0 G σ l.length r v c
def kF(P:Program)(n:Nat->Prop)(w0:World)(G:Kj)(b:FuncId->List Value->List ag->M (Value×List ag)):Prop:=
 ∀f a l r,(b f a l).get=some r->(∃c,iL P f c)/\dK P n w0 G f a l r
theorem Ov{P}{t}{a x}{b V}(h:(BP P t a x b).get=some V):bu b V:=by
 unfold BP at h;split at h
 .split at h
  .rename_i l
   rcases M.af h with⟨_,h⟩|⟨_,h⟩
   .rcases M.af h with⟨_,h⟩|⟨_,h⟩
    .cases h
     exact bu.set _ _ (by rw[l];rfl)
    .cases h
   .cases h
  .rename_i l
   rcases M.af h with⟨_,h⟩|⟨_,h⟩
   .rcases M.af h with⟨_,h⟩|⟨_,h⟩
    .cases h
     exact bu.set _ _ (by rw[l];rfl)
    .cases h
   .cases h
  .rename_i l
   split at h
   .rcases M.af h with⟨_,h⟩|⟨_,h⟩
    .rcases M.af h with⟨_,h⟩|⟨_,h⟩
     .cases h
      exact bu.set _ _ (by rw[l];rfl)
     .cases h
    .cases h
   .cases h
  .cases h
 .cases h
def Gt{s}{x}{l}{r}(h:(rz s x l).get=some r):bu l r.2:=by
 unfold rz at h;split at h
 .rcases M.af h with⟨_,h⟩|⟨_,h⟩
  .grind [M.ah,Option.some.injEq,bu.refl]
  .rcases M.af h with⟨_,h⟩|⟨_,h⟩
   .grind [M.ah,Option.some.injEq,bu.append]
   .cases h
 .rcases M.af h with⟨_,h⟩|⟨_,h⟩
  .cases h;exact bu.refl _
  .rcases M.af h with⟨_,h⟩|⟨_,h⟩
   .cases h;exact bu.append _ _
   .cases h
 .rcases M.af h with⟨_,h⟩|⟨_,h⟩
  .rcases M.af h with⟨_,h⟩|⟨_,h⟩
   .cases h
   .obtain⟨y,_,h⟩:=M.ay h
    rcases M.af h with⟨_,h⟩|⟨_,h⟩
    .cases h;exact bu.append _ _
    .cases h
  .cases h
 .split at h
  .rename_i a
   rcases M.af h with⟨_,h⟩|⟨_,h⟩
   .rcases M.af h with⟨_,h⟩|⟨_,h⟩
    .cases h;exact bu.refl _
    .rcases M.af h with⟨_,h⟩|⟨_,h⟩
     .cases h
      exact(bu.set _ _ (by rw[a];rfl)).trans (bu.append _ _)
     .cases h
   .cases h
  .cases h
 .cases h
def yg{m}{s}{c}{l}{r}(h:(qA m s c l).get=some r):bu l r.2:=by
 unfold qA at h;split at h
 .grind [M.ah,Option.some.injEq,bu.append]
 .split at h
  .rename_i a
   rcases M.af h with⟨_,h⟩|⟨_,h⟩
   .rcases M.af h with⟨_,h⟩|⟨_,h⟩
    .rcases M.af h with⟨_,h⟩|⟨_,h⟩
     .cases h
      exact(bu.set _ _ (by rw[a];rfl)).trans (bu.append _ _)
     .cases h
    .cases h
   .cases h
  .cases h
 .cases h
def Nw{P}{t u}{s x}{l}{r}(h:(zG P t u s x l).get=some r):bu l r.2:=by
 unfold zG at h;split at h
 .split at h
  .rcases M.af h with⟨_,h⟩|⟨_,h⟩
   .obtain⟨y,_,h⟩:=M.ay h
    exact Gt h
   .cases h
  .split at h
   .split at h
    .rcases M.af h with⟨_,h⟩|⟨_,h⟩
     .exact yg h
     .cases h
    .cases h
   .cases h
  .split at h
   .split at h
    .rcases M.af h with⟨_,h⟩|⟨_,h⟩
     .exact yg h
     .cases h
    .cases h
   .cases h
  .cases h
 .cases h
def Nv{P}{σ}{l}{w}(f:HR n w0 G σ l w){t u ty}{s F x H}{r}(m:VR σ s F)(o:VR σ x H)(h:(zG P t u s x l).get=some r):
  ∃I J,(Builtin.append_ #[t,u] ty #[F,H]).run P w=.ok I J/\Good n w0 G σ l.length r I J:=by
 unfold zG at h;split at h
 .rename_i e O q v
  split at h
  .rename_i i a K d
   rcases M.af h with⟨b,h⟩|⟨_,h⟩
   .obtain⟨Q,L,h⟩:=M.ay h
    simp only[Bool.and_eq_true]at b;exact Gs f q v a d (beq_true b.1) (beq_true b.2) m (Bi f o L) h
   .cases h
  .rename_i i R z a K d
   split at h
   .split at h
    .rename_i N wr c y
     rcases M.af h with⟨b,h⟩|⟨_,h⟩
     .simp only[Bool.and_eq_true]at b
      obtain⟨⟨⟨⟨A,B⟩,C⟩,D⟩,E⟩:=b;obtain⟨p,k,rfl⟩:=o.p9;have:=yf (ty:=ty) f q v a d (beq_true A) (beq_true B) (fo C) (fo D) E m k y h;simpa using this
     .cases h
    .cases h
   .cases h
  .rename_i i z a K d
   split at h
   .split at h
    .rename_i N wr c y
     rcases M.af h with⟨b,h⟩|⟨_,h⟩
     .simp only[Bool.and_eq_true]at b
      obtain⟨⟨⟨⟨A,B⟩,C⟩,D⟩,E⟩:=b;obtain⟨p,k,rfl⟩:=o.p9;have:=yf (ty:=ty) f q v a d (beq_true A) (beq_true B) (fo C) (fo D) E m k y h;simpa using this
     .cases h
    .cases h
   .cases h
  .cases h
 .cases h
theorem Nr{P}{t}{m k v}{l b}(h:(zo P t m k v l).get=some b):bu l b:=by
 unfold zo at h;split at h
 .split at h
  .split at h
   .rename_i a
    obtain⟨u,f,h⟩:=M.ay h;cases h;exact bu.set l _ (by rw[a];rfl)
   .cases h
  .cases h
 .cases h
def yD{E}{b}(c:kF E.P n w0 G b){e}{a}{o}{r}(h:(Ar E b e a o).get=some r):bu a r.2:=by
 unfold Ar at h;split at h
 .obtain⟨l,d,h⟩:=M.ay h
  grind [M.ah,Option.some.injEq,Ov]
 .obtain⟨l,d,h⟩:=M.ay h
  grind [M.ah,Option.some.injEq,Nr]
 .split at h
  .split at h
   .exact(c _ _ _ _ h).2.1
   .cases h
  .split at h
   .exact Nw h
   .cases h
  .cases h
 .cases h
theorem EJ{E}{W}(X:kF E.P n w0 G W){σ}{L}{w}(F:HR n w0 G σ L w){v}{a}{o:Oper}
  (b:∀x∈o.op.operands,VR σ (v x) (a.eval x)) {r} (h:(Ar E W v L o.op).get=some r) {next} {Q}
  (A:∀H z,Good n w0 G σ L.length r H z->next (a.put o.dst H) z):o.wp E.P a w next Q:=by
 obtain⟨Y,op,Z,ac,N,O⟩:=o;simp only at h b A;unfold Ar at h;split at h
 .rename_i t x y
  obtain⟨l,P,h⟩:=M.ay h;cases h;obtain⟨z,B,C⟩:=Ou F (b x (by simp[Op.operands])) (b y (by simp[Op.operands])) P;unfold Oper.wp;simp only[execOp,cd,B,bd,cr,Oper.upon_skip];exact A _ _ ⟨σ,Ext.refl _ _,VR.any _,C⟩
 .rename_i t m k x
  obtain⟨l,P,h⟩:=M.ay h;cases h;obtain⟨z,B,C⟩:=Np F (b m (by simp[Op.operands])) (b k (by simp[Op.operands])) (b x (by simp[Op.operands])) P;unfold Oper.wp;simp only[execOp,cd,B,bd,cr,Oper.upon_skip];exact A _ _ ⟨σ,Ext.refl _ _,VR.any _,C⟩
 .rename_i c
  obtain⟨I,d,R⟩:=c;simp only at h;split at h
  .rename_i f
   split at h
   .rename_i g J K hf
    obtain⟨⟨fn,S⟩,_,s⟩:=X _ _ _ _ h;have u:=b f (by simp[Op.operands,Call.operands]);rw[hf]at u;obtain⟨p,q,T,ha,U⟩:∃p q,a.eval f=.func (.func g) p q/\dY σ J p/\dY σ K q:=by
     cases he:a.eval f<;>rw[he]at u<;>cases u;rename_i a1 a2 a3 a4 a5 a6;exact⟨_,_,rfl,⟨a3,a4⟩,⟨a5,a6⟩⟩
    have i:=dY.map (σ:=σ) v a.eval d λx hx=>b x (by simp[Op.operands,Call.operands,hx]);have D:dY σ (J.toList++d.toList.map v++K.toList).toArray (p++d.map a.eval++q):=by
     have:=(ha.append i).append U;have e:(J.toList++d.toList.map v++K.toList).toArray=J++d.map v++K:=by
      simp
     rw[e];exact this
    have:=s σ w _ F D;unfold Oper.wp;simp only[execOp,resolve,T,Deferred.ofValue,cd,cr,bd,invoke,S.run,Oper.upon_enter];refine this.mono λe z hh=> ?_;obtain⟨H,rfl,hg⟩:=hh;exact A _ _ hg
   .cases h
  .split at h
   .rename_i i V
    obtain rfl:d= #[_,_]:=e8.1 i;obtain rfl:R= #[_,_]:=e8.1 V;obtain⟨H,z,B,C⟩:=Nv (ty:=Z) F (b _ (by simp[Op.operands,Call.operands])) (b _ (by simp[Op.operands,Call.operands])) h;unfold Oper.wp;simp only[execOp,resolve,invoke,builtin,cd,cr,bd,List.map_toArray,oc,sL,B,oy];exact A _ _ C
   .cases h
  .cases h
 .cases h
def LV{E}{b}(c:kF E.P n w0 G b){e}{l}{o}{r}(h:(Yu E b e l o).get=some r):bu l r.2:=by
 unfold Yu at h;split at h
 .obtain⟨v,_,h⟩:=M.ay h
  grind [M.ah,Option.some.injEq,bu.refl]
 .obtain⟨v,_,h⟩:=M.ay h
  grind [M.ah,Option.some.injEq,bu.append]
 .exact yD c h
def Yt{E}(p:vN E){B}(y:kF E.P n w0 G B){σ}{l}{w}(c:HR n w0 G σ l w){i}{a}{o:Oper}
  (b:∀x∈o.op.operands,VR σ (i x) (a.eval x)) {r} (h:(Yu E B i l o.op).get=some r) {next} {Q}
  (k:∀d m,Good n w0 G σ l.length r d m->next (a.put o.dst d) m):o.wp E.P a w next Q:=by
 unfold Yu at h;split at h
 .obtain⟨v,s,h⟩:=M.ay h
  cases h;obtain⟨d,e,f⟩:=GH p c b s;unfold Oper.wp;rw[e,oy];exact k _ _ ⟨σ,Ext.refl _ _,f,c⟩
 .obtain⟨q,u,h⟩:=M.ay h
  cases h;obtain⟨d,z,e,f⟩:=Ia c.size b u;unfold Oper.wp;rw[e,oy];exact k _ _ (f.good c)
 grind [EJ]
structure Rel(n:Nat->Prop)(w0:World)(G:Kj)(σ:Nat->Option Pl)(s:St)(a:Act)(w:World):Prop where
 sz:a.tmps.size=s.tmps.length
 tm:∀t,VR σ (s.tmps.getD t undef) (a.tmps.getD t undef)
 df:a.defers=[]
 hr:HR n w0 G σ s.lh w
def C9(tm)(dst)(v)(t):(lY tm dst v).getD t undef=if dst=some t/\t<tm.length then v else tm.getD t undef:=by
 cases dst with
 |none=>simp[lY]
 |some d=>
  simp only[lY,b8,List.getElem?_set];grind
def Qi(a:Act)(dst)(v)(t):(a.put dst v).tmps.getD t undef=if dst=some t/\t<a.tmps.size then v else a.tmps.getD t undef:=by
 cases dst with
 |none=>simp[Act.put]
 |some d=>
  simp only[Act.put,cX,mc];grind
theorem EE(tm)(dst)(v):(lY tm dst v).length=tm.length:=by cases dst<;>simp[lY]
def O0(a:Act)(dst)(v):(a.put dst v).tmps.size=a.tmps.size:=by cases dst<;>simp[Act.put]
def put_defers(a:Act)(dst)(v):(a.put dst v).defers=a.defers:=by cases dst<;>rfl
theorem Rel.put{σ b}{s}{a}{w c}(h:Rel n w0 G σ s a w)(e:Le σ b)(dst){v d}(f:VR b v d){V}(r:HR n w0 G b V c):
  Rel n w0 G b ⟨lY s.tmps dst v,V⟩ (a.put dst d) c:=by
 refine⟨by rw[O0,EE];exact h.sz,λt=> ?_,by rw[put_defers];exact h.df,r⟩;rw[C9,Qi,h.sz];split
 .exact f
 .exact(h.tm t).mono e
def Rel.ev{σ}{s}{a}{w}(h:Rel n w0 G σ s a w)(x):VR σ (qx G s.tmps x) (a.eval x):=by
 cases x with
 |tmp t=>exact h.tm t
 |const v=>
  simp only[qx,Act.eval];cases p:plain v with
  |true=>exact VR.plain σ p
  |false=>exact VR.any _
 |global g=>
  exact VR.any _
 |func f=>exact VR.func f rfl rfl (λi x y b=>by simp at b) λi x y b=>by simp at b
def Rel.afL{σ}{s}{a}{w}(h:Rel n w0 G σ s a w){t}{b}(c:s.tmps.getD t undef=.bool b):a.tmps[t]?=some (.bool b):=by
 have:=h.tm t;rw[c]at this;have e:=this.aD rfl;rw[cX]at e;cases x:a.tmps[t]? with
 |none=>rw[x]at e;simp[undef]at e
 |some v=>grind
def aaL(m:List Value){t}{v}(h:m.getD t undef=v)(a:v≠undef):m.set t v=m:=by
 grind [Nat.lt_or_ge,List.getElem?_eq_none,List.set_getElem_self]
def Ew{σ}{p}{o}{j}{w}{t}{m}{x}(a:o.guard=some (j,w))(b:(p[j]?).bind (·.dst)=some t)(h:VR σ (.chan x) (m.getD t undef)):Region.wanted o (yielded p m)=false:=by
 have e:m.getD t undef=undef:=by
  generalize m.getD t undef=v at h;cases h with
  |skip=>rfl
 simp only[Region.wanted,a,yielded,b,jt];cases c:m[t]? with
 |none=>rfl
 |some v=>
  rw[cX,c]at e;subst e;rfl
def EO{α}{p}{o}{s}{yes no:St->M α}{x}(h:(C8 p o s yes no).get=some x):
  ∃g,(g=true->(yes s).get=some x)/\(g=false->(no s).get=some x)/\(∀σ a w,Rel n w0 G σ s a w->Region.wanted o (yielded p a.tmps)=g)/\
   (o.guard=none/\g=true\/(∃j d t b,o.guard=some (j,d)/\(p[j]?).bind (·.dst)=some t/\s.tmps.getD t undef=.bool b/\g=(b==d))\/∃j d t x,o.guard=some (j,d)/\(p[j]?).bind (·.dst)=some t/\s.tmps.getD t undef=.chan x/\g=false):=by
 unfold C8 at h;split at h
 .rename_i f
  exact⟨true,λ_=>h,λe=>(by cases e),λ_ _ _ _=>(by simp[Region.wanted,f]),.inl ⟨f,rfl⟩⟩
 .rename_i j d f
  split at h
  .cases h
  .rename_i t l
   split at h
   .rename_i b k
    have m:∀σ a w,Rel n w0 G σ s a w->Region.wanted o (yielded p a.tmps)=(b==d):=by
     intro σ a w hrel;simp only[Region.wanted,f,yielded,l,jt,hrel.afL k];cases b<;>cases d<;>rfl
    have i:∀c,b=c->(⟨s.tmps.set t (.bool c),s.lh⟩:St)=s:=by
     rintro c rfl;rw[aaL _ k (by simp[undef])]
    rcases M.af h with⟨rfl,h⟩|⟨rfl,h⟩
    .rw[i true rfl]at h
     refine⟨_,?_,?_,m,.inr (.inl ⟨j,d,t,true,f,l,k,rfl⟩)⟩
     .intro e;cases d<;>first|exact h|cases e
     .intro e;cases d<;>first|exact h|cases e
    .rw[i false rfl]at h
     refine⟨_,?_,?_,m,.inr (.inl ⟨j,d,t,false,f,l,k,rfl⟩)⟩
     .intro e;cases d<;>first|exact h|cases e
     .intro e;cases d<;>first|exact h|cases e
   .rename_i x k
    refine⟨false,λe=>(by cases e),λ_=>h,λσ a w hrel=> ?_,.inr (.inr ⟨j,d,t,x,f,l,k,rfl⟩)⟩;have v:=hrel.tm t;rw[k]at v;exact Ew f l v
   .cases h
theorem Ey{E}(F:vN E)(N:E.G=G){H}(m:kF E.P n w0 G H)(ops):∀(l) (s d),(GX (Ow E H ops) l s).get=some d->
  bu s.lh d.lh/\∀σ a w (Q),Rel n w0 G σ s a w->(∀p u v,Ext s.lh.length σ p->Rel n w0 G p d u v->Q .normal u v)->wpOps E.P ops Q l a w
 |[],s,d,h=>by
  simp only[GX,M.ah,cq]at h;subst h;exact⟨bu.refl _,λσ a w Q hrel e=>e σ a w (Ext.refl _ _) hrel⟩
 |i::r,s,d,h=>by
  obtain⟨O,y,P⟩:=M.ay h;obtain⟨I,J⟩:=Ey F N m ops r O d P;unfold Ow at y;split at y
  .rename_i z
   simp only[M.ah,cq]at y;simp only[wpOps,z];grind
  .rename_i o z
   obtain⟨g,R,A,K,_⟩:=EO (n:=n) (w0:=w0) (G:=G) y;cases g with
   |true=>
    obtain⟨q,e,B⟩:=M.ay (R rfl);cases B;refine⟨(LV m e).trans I,λσ a w Q hrel f=> ?_⟩;simp only[wpOps,z,K σ a w hrel,if_true];refine .inl (Yt F m hrel.hr (λx _=>by exact hrel.ev x) e λV v b=> ?_);obtain⟨p,k,S,T⟩:=b;exact J p _ v Q (hrel.put k.1 o.dst S T) λU u C D c=>f U u C (k.trans D (LV m e).1) c
   |false=>
    have L:=A rfl;simp only[XI,M.ah,cq]at L;subst L;refine⟨I,λσ a w Q hrel f=> ?_⟩;simp only[wpOps,z,K σ a w hrel,eN,jj];exact J σ _ w Q (hrel.put (Le.refl _) o.dst VR.skip hrel.hr) f
end
def NU(a:List Nat)(o:Oper):Nat:=o.after.toList.foldl (λs e=>cond (Region.binds .any e) (s|||2^e.on|||a.getD e.on 0) s) 0
theorem IG(a:List Nat)(j):∀(l:List Edge) (s),Nat.testBit (l.foldl (λs e=>cond (Region.binds .any e) (s|||2^e.on|||a.getD e.on 0) s) s) j=true->
  Nat.testBit s j=true\/∃e∈l,Region.binds .any e=true/\(j=e.on\/Nat.testBit (a.getD e.on 0) j=true)
 |[],s,h=>.inl h
 |e::l,s,h=>by
  rcases IG a j l _ h with h|⟨c,b,d⟩
  all_goals grind
def Un:∀(p:List Oper) (a),let L:=p.foldl (fun a o=>a++[NU a o]) a
  L.length=a.length+p.length/\(∀i,i<a.length->L[i]?=a[i]?)/\∀q o,p[q]?=some o->L[a.length+q]?=some (NU (L.take (a.length+q)) o)
 |[],a=>by simp
 |o::p,a=>by
  have h:=Un p (a++[NU a o]);simp only[List.foldl_cons]at h ⊢;obtain⟨k,b,e⟩:=h;refine⟨by grind,λi c=> ?_,λq f d=> ?_⟩
  .grind
  .cases q with
   |zero=>
    simp at d;rw[qq,b a.length (by simp)];rw[List.getElem?_append_right (Nat.le_refl _)];simp only[ud,jz,cq];congr 1;apply o4;intro i;rw[gC];split
    .rename_i c
     rw[b i (by simp;omega),List.getElem?_append_left c]
    .rw[ez (by omega)]
   |succ q=>
    have:=e q f (by simpa using d);simp only[cE,List.length_cons,List.length_nil,Nat.zero_add]at this;rw[show a.length+(q+1)=a.length+1+q by omega];exact this
def afR(ops):oO ops=ops.foldl (λa o=>a++[NU a o]) []:=rfl
def acG{p}{i j}{o}(b:p[i]?=some o)(h:Nat.testBit ((oO p).getD i 0) j=true):
  ∃e∈o.after.toList,Region.binds .any e=true/\(j=e.on\/Nat.testBit ((oO p).getD e.on 0) j=true):=by
 obtain⟨_,_,c⟩:=Un p [];have a:=c i o b;simp only[List.length_nil,Nat.zero_add, <-afR]at a;rw[b8,a,lO]at h;rcases IG _ j _ 0 h with h|⟨e,d,f,h⟩
 all_goals grind
theorem Hw{Y k}:∀(l) (m) (pre),(∀j,Nat.testBit m j=true↔j∈pre)->NJ Y k l m=true->
  (∀q i,l[q]?=some i->∀j,Nat.testBit (Y.getD i 0) j=true->j∈pre++l.take q)/\
  (∀q i,l[q]?=some i->∀j,j∈pre++l.take q->k[j]?=some 2->Nat.testBit (Y.getD i 0) j=true)/\
  (∀q i,l[q]?=some i->i∉pre++l.take q)
 |[],m,pre,_,_=>⟨λq i h=>by simp at h,λq i h=>by simp at h,λq i h=>by simp at h⟩
 |x::l,m,pre,d,h=>by
  simp only[NJ,Bool.and_eq_true]at h;obtain⟨⟨r,o⟩,s⟩:=h;have f:∀j,Nat.testBit (m|||2^x) j=true↔j∈pre++[x]:=by
   intro j;rw[Nat.testBit_or,eV,d,Nat.testBit_two_pow,List.mem_append,List.mem_singleton];simp[eq_comm]
  obtain⟨u,v,w⟩:=Hw l _ (pre++[x]) f s;simp only[Kq,Bool.and_eq_true,eI]at r;obtain⟨p,y⟩:=r;have n:=beq_true y;have e:∀q,pre++(x::l).take (q+1)=pre++[x]++l.take q:=λq=>by simp
  refine⟨λq i a j b=> ?_,λq i a j b c=> ?_,λq i a=> ?_⟩
  .cases q with
   |zero=>
    simp at a;subst a;rw[<-n,tf,Bool.and_eq_true]at b;simpa using (d j).1 b.2
   |succ q=>rw[e];exact u q i (by simpa using a) j b
  .cases q with
   |zero=>
    simp at a b;subst a;rw[List.all_eq_true]at o;have:=o (2,j) (by rw[mb];exact c);simp[(d j).2 b]at this;exact this
   |succ q=>rw[e]at b;exact v q i (by simpa using a) j b c
  .cases q with
   |zero=>
    simp at a;subst a;simp only[List.take_zero,List.append_nil];intro z;rw[(d x).2 z]at p;cases p
   |succ q=>rw[e];exact w q i (by simpa using a)
def nM(U)(lh):(tC U lh).length=lh.length:=by
 induction U generalizing lh with
 |nil=>rfl
 |cons k U i=>exact(i _).trans (by simp)
def Yg(b:ag):b.uW.uW=b.uW:=by cases b<;>rfl
def aa1(b:ag):b.uW.vo=false:=by cases b<;>rfl
theorem Hg(b:ag):b.uW.owned=b.owned:=by cases b<;>rfl
theorem Hl(b:ag):b.uW.aM=b.aM:=by cases b<;>rfl
theorem Us{n}{σ}{b}{p}{w}:BR n σ b.uW p w↔BR n σ b p w:=by
 cases b<;>exact Iff.rfl
theorem qM(U)(lh)(k):(tC U lh).getD k .dead=if k∈U then(lh.getD k .dead).uW else lh.getD k .dead:=by
 induction U generalizing lh with
 |nil=>rfl
 |cons x U i=>
  rw[tC,List.foldl_cons];show(tC U _).getD k .dead=_;rw[i];by_cases e:k=x
  .subst e
   rw[if_pos (cV)];by_cases h:k<lh.length
   .rw[dA _ _ _ h,Yg];split<;>rfl
   .have:lh.getD k .dead=.dead:=by simp[ez (pL h)]
    have a:lh.set k (lh.getD k .dead).uW=lh:=List.set_eq_of_length_le (by omega);rw[a,this];split<;>rfl
  grind
def rW(U)(ahA lh):(kZ U ahA lh).length=lh.length:=by
 induction U generalizing lh with
 |nil=>rfl
 |cons k U i=>exact(i _).trans (by simp)
def vV(U)(ahA lh)(k)(h:k<lh.length):(kZ U ahA lh).getD k .dead=if k∈U then ahA.getD k .dead else lh.getD k .dead:=by
 induction U generalizing lh with
 |nil=>rfl
 |cons x U i=>
  show(kZ U ahA _).getD k .dead=_;grind
def acH{b a:ag}(h:b.aM=a.aM):b.alive=a.alive:=by
 cases b<;>cases a<;>first|rfl|cases h
theorem HR.swap{n}{d}{G}{σ}{l r}{w}(h:HR n d G σ l w)(m:r.length=l.length)
  (e:∀k,k<l.length->(r.getD k .dead).owned=(l.getD k .dead).owned/\(r.getD k .dead).aM=(l.getD k .dead).aM/\∀p,BR n σ (l.getD k .dead) p w->BR n σ (r.getD k .dead) p w):HR n d G σ r w:=by
 have q:=λk a=>by
  exact acH (e k a).2.1
 refine⟨h.hn,h.below,h.ab.id h.lt (Nat.le_refl _) (λ_ _=>.inl rfl) (λk p a=>.inr (.inl ⟨a,(e k (h.dom k p a)).2.1.symm⟩)),λk p a=>by rw[m];exact h.dom k p a,h.lt,λk c p f a b o i s=> ?_,λk p a=> ?_⟩
 .rw[(e k (h.dom k p a)).1]at o
  rw[q c (h.dom c f b)]at i;exact h.inj k c p f a b o i s
 .exact(e k (h.dom k p a)).2.2 p (h.blk k p a)
def HR.uW{n}{a}{G}{σ}{l}{w}(h:HR n a G σ l w)(U):HR n a G σ (tC U l) w:=
 h.swap (nM U l) λk b=>by
  grind [qM,Hg,Hl,Us]
def PT{U}{l b}(h:bu (tC U l) b):bu l (kZ U l b):=by
 have a:=h.1;rw[nM]at a;refine⟨by rw[rW];exact a,λk c w=> ?_⟩;rw[vV _ _ _ _ (by omega)];split
 .rfl
 .rename_i u
  have:=h.2 k (by rw[nM];exact c) (by rw[qM,if_neg u];exact w);rw[this,qM,if_neg u]
def HR.af1{n}{c}{G}{σ}{U}{l b}{w}(h:HR n c G σ b w)(d:bu (tC U l) b)(e:∀k∈U,k<l.length):HR n c G σ (kZ U l b) w:=
 h.swap (rW _ _ _) λk a=>by
  rw[vV _ _ _ _ a];split
  .rename_i u
   have:=d.2 k (by rw[nM];exact e k u) (by rw[qM,if_pos u];exact aa1 _);rw[this,qM,if_pos u];grind [Hg,Hl,Us]
  grind
def RU{P}{t}{a}{l r}(h:∀k∈oN a,l.getD k .dead=r.getD k .dead):vK P t a l=vK P t a r:=by
 unfold vK;split
 .rename_i k o b
  rw[h k (by simp[oN])]
 .rename_i k i j b
  rw[h k (by simp[oN])]
 .rename_i m k o b
  rw[h k (by simp[oN])]
 .rename_i m k i j b
  rw[h k (by simp[oN])]
 .rfl
def FW{P:Program}{t:TypeId}{x i:Value}{a O:List ag}(h:∀k∈oN x,a.getD k .dead=O.getD k .dead):oh P t x i a=oh P t x i O:=by
 unfold oh;split
 .split
  .rfl
  .rename_i e k o l c u
   rw[h k (by simp[oN])]
  .rename_i e k r l c u
   rw[h k (by simp[oN])]
  .rename_i e k w l c u
   rw[h k (by simp[oN])]
  .rename_i e k l c u
   rw[h k (by simp[oN])]
  .rfl
 .rfl
def Nn{P}{t}{m i}{o}{l r}(h:∀k∈oN m,l.getD k .dead=r.getD k .dead):vP P t m i o l=vP P t m i o r:=by
 unfold vP;split
 .split
  .rename_i z b x a c
   rw[h b (by simp[oN])]
  .rfl
 .rfl
def UB{E}{e}{l r}{o}(h:∀k∈readsOf e o,l.getD k .dead=r.getD k .dead):E8 E e l o=E8 E e r o:=by
 cases o<;>try rfl
 case load t a=>exact RU h
 case indexAddr t x i=>exact FW h
 case lookup t m i b=>exact Nn h
 case makeFunc f a c=>cases f<;>rfl
structure Step where
 i:Nat
 k:Nat
 s:St
 v:Value
 bV:List ag
 U:List Nat
 ids:List Nat
abbrev Er:=FuncId->List Value->List ag->M (Value×List ag)
def Li(p:Array Oper)(o:Oper)(s:St)(g:Bool):Prop:=
 o.guard=none/\g=true\/(∃j w t b,o.guard=some (j,w)/\(p[j]?).bind (·.dst)=some t/\s.tmps.getD t undef=.bool b/\g=(b==w))\/∃j w t x,o.guard=some (j,w)/\(p[j]?).bind (·.dst)=some t/\s.tmps.getD t undef=.chan x/\g=false
def ZT(E:Env)(b:Er)(p:Array Oper)(t:Step):Prop:=
 ∃o,p[t.i]?=some o/\∃g,Li p o t.s g/\
  ((g=false/\t.k=3/\t.v=.chan (some 0)/\t.bV=t.s.lh)\/
   (g=true/\t.k=0/\t.ids=readsOf (qx E.G t.s.tmps) o.op/\(∀k∈t.ids,k<t.s.lh.length)/\(E8 E (qx E.G t.s.tmps) t.s.lh o.op).get=some t.v/\t.bV=t.s.lh)\/
   (g=true/\t.k=1/\t.ids=[t.s.lh.length]/\∃q,(Pm E (qx E.G t.s.tmps) o.op).get=some q/\t.v=q.1 t.s.lh.length/\t.bV=t.s.lh++[q.2])\/
   (g=true/\t.k=2/\kindOf o.op=2/\∃q,(Ar E b (qx E.G t.s.tmps) (tC t.U t.s.lh) o.op).get=some q/\t.v=q.1/\t.bV=kZ t.U t.s.lh q.2))
def oo(o:Array Oper)(t:Step):Option Tmp:=(o[t.i]?).bind (·.dst)
def nxt(o:Array Oper)(t:Step):St:=⟨lY t.s.tmps (oo o t) t.v,t.bV⟩
def chain(o:Array Oper):St->List Step->St->Prop
 |s,[],f=>s=f
 |s,t::T,f=>t.s=s/\chain o (nxt o t) T f
def Cov(i:List Nat)(p r:Step):Prop:=p.k<2->r.k=2->Nat.testBit (i.getD r.i 0) p.i=false->∀k∈p.ids,k∈r.U
def abF{o}(h:kindOf o≠0)(a:kindOf o≠1):kindOf o=2:=by
 unfold kindOf at*;grind
def Y4{α}{p}{o}{s}{yes no:St->M α}{x}(h:(C8 p o s yes no).get=some x):
  ∃g,(g=true->(yes s).get=some x)/\(g=false->(no s).get=some x)/\Li p o s g:=by
 obtain⟨g,a,b,_,c⟩:=EO (n:=λ_=>False) (w0:=default) (G:=0) h;exact⟨g,a,b,c⟩
def ah9(t:Step):Prop:=bu t.s.lh t.bV/\(t.k=2->∀k∈t.U,k<t.s.lh.length)
theorem vX{n}{W}{G}{E}{Q:Er}(H:kF E.P n W G Q){f}{Y}:∀(l) (m) (s w),(∀e∈m,∀k∈e.2,k<s.lh.length)->(qV E Q f Y l m s).get=some w->
  ∃T,T.map (·.i)=l/\chain f s T w/\(∀t∈T,ZT E Q f t)/\T.Pairwise (Cov Y)/\
   (∀e∈m,∀t∈T,t.k=2->Nat.testBit (Y.getD t.i 0) e.1=false->∀k∈e.2,k∈t.U)/\∀t∈T,ah9 t
 |[],m,s,w,p,h=>by
  simp only[qV,M.ah,cq]at h;exact⟨[],rfl,h,by simp,List.Pairwise.nil,by simp,by simp⟩
 |i::l,m,s,w,p,h=>by
  simp only[qV]at h;split at h
  .cases h
  .rename_i o I
   obtain⟨g,X,Z,N⟩:=Y4 h;have O:∀(k:Nat) (v:Value) (V:List ag) (U J:List Nat),nxt f ⟨i,k,s,v,V,U,J⟩=⟨lY s.tmps o.dst v,V⟩:=λk v V U J=>by
    simp only[nxt,oo,I,jt]
   cases g with
   |false=>
    obtain⟨T,x,y,z,A,u,B⟩:=vX H l m ⟨lY s.tmps o.dst (.chan (some 0)),s.lh⟩ w p (Z rfl);refine⟨⟨i,3,s,.chan (some 0),s.lh,[],[]⟩::T,by simp[x],⟨rfl,by rw[O];exact y⟩,?_,List.Pairwise.cons (λr _ a=>absurd a (by show¬3<2;omega)) A,?_,fg.2 ⟨⟨bu.refl _,λa=>by cases a⟩,B⟩⟩
    .intro t b
     rcases List.mem_cons.1 b with rfl|b
     .exact⟨o,I,false,N,.inl ⟨rfl,rfl,rfl,rfl⟩⟩
     .exact z t b
    .intro e c t b
     rcases List.mem_cons.1 b with rfl|b
     .intro a;cases a
     .exact u e c t b
   |true=>
    have d:=X rfl;split at d
    .rename_i a
     rcases M.af d with⟨C,d⟩|⟨_,d⟩
     .obtain⟨v,hv,d⟩:=M.ay d
      have K:∀k∈readsOf (qx E.G s.tmps) o.op,k<s.lh.length:=λk a=>by
       rw[List.all_eq_true]at C;exact kg (C k a)
      obtain⟨T,x,y,z,A,u,B⟩:=vX H l ((i,readsOf (qx E.G s.tmps) o.op)::m) ⟨lY s.tmps o.dst v,s.lh⟩ w (fg.2 ⟨K,p⟩) d;refine⟨⟨i,0,s,v,s.lh,[],readsOf (qx E.G s.tmps) o.op⟩::T,by simp[x],⟨rfl,by rw[O];exact y⟩,?_,List.Pairwise.cons (λr C _ a F=>u _ cV r C a F) A,?_,fg.2 ⟨⟨bu.refl _,λa=>by cases a⟩,B⟩⟩
      .intro t b
       rcases List.mem_cons.1 b with rfl|b
       .refine⟨o,I,true,N,.inr (.inl ⟨rfl,rfl,rfl,K,hv,rfl⟩)⟩
       .exact z t b
      .intro e c t b
       rcases List.mem_cons.1 b with rfl|b
       .intro a;cases a
       .exact u e (da _ c) t b
     .cases d
    .rename_i a
     obtain⟨q,P,d⟩:=M.ay d;obtain⟨T,x,y,z,A,u,B⟩:=vX H l _ _ w (fg.2 ⟨λk a=>by simp at a;simp;omega,λe c k a=>by have:=p e c k a;simp;omega⟩) d;refine⟨⟨i,1,s,q.1 s.lh.length,s.lh++[q.2],[],[s.lh.length]⟩::T,by simp[x],⟨rfl,by rw[O];exact y⟩,?_,List.Pairwise.cons (λr C _ a F=>u _ cV r C a F) A,?_,fg.2 ⟨⟨bu.append _ _,λa=>by cases a⟩,B⟩⟩
     .intro t b
      rcases List.mem_cons.1 b with rfl|b
      .exact⟨o,I,true,N,.inr (.inr (.inl ⟨rfl,rfl,rfl,q,P,rfl,rfl⟩))⟩
      .exact z t b
     .intro e c t b
      rcases List.mem_cons.1 b with rfl|b
      .intro a;cases a
      .exact u e (da _ c) t b
    .rename_i R S
     obtain⟨q,P,d⟩:=M.ay d;have L:=PT (yD H P);obtain⟨T,x,y,z,A,u,B⟩:=vX H l _ _ w (λe c k a=>Nat.lt_of_lt_of_le (p e c k a) L.1) d;refine⟨⟨i,2,s,q.1,kZ (m.flatMap λe=>cond (Nat.testBit (Y.getD i 0) e.1) [] e.2) s.lh q.2,m.flatMap λe=>cond (Nat.testBit (Y.getD i 0) e.1) [] e.2,[]⟩::T,by simp[x],⟨rfl,by rw[O];exact y⟩,?_,List.Pairwise.cons (λr C a=>absurd a (by show¬2<2;omega)) A,?_,fg.2 ⟨⟨L,λ_ k a=> ?_⟩,B⟩⟩
     .intro t b
      rcases List.mem_cons.1 b with rfl|b
      .exact⟨o,I,true,N,.inr (.inr (.inr ⟨rfl,rfl,abF R S,q,P,rfl,rfl⟩))⟩
      .exact z t b
     .intro e c t b
      rcases List.mem_cons.1 b with rfl|b
      .intro _ F k a
       refine List.mem_flatMap.2 ⟨e,c,?_⟩;simp only at F;rw[F];exact a
      .exact u e c t b
     .obtain⟨e,c,D⟩:=List.mem_flatMap.1 a
      refine p e c k ?_;cases hx:Nat.testBit (Y.getD i 0) e.1<;>rw[hx]at D
      .exact D
      .cases D
def bW(T:List Step)(s:St)(q:Nat):St:=match T[q]? with|some t=>t.s|none=>s
theorem dS{T}{sf}{q}{t}(h:T[q]?=some t):bW T sf q=t.s:=by simp[bW,h]
theorem gJ{o}:∀{T} {s f},chain o s T f->bW T f 0=s/\∀q t,T[q]?=some t->bW T f (q+1)=nxt o t
 |[],s,f,h=>⟨h.symm,λq t a=>by simp at a⟩
 |u::T,s,f,h=>by
  obtain⟨b,c⟩:=gJ h.2;refine⟨h.1,λq t a=> ?_⟩;cases q with
  |zero=>
   simp at a;subst a;rw[<-b];simp[bW]
  |succ q=>
   have:=c q t (by simpa using a);rw[<-this];simp[bW]
def sV{T}{s}:bW T s T.length=s:=by simp[bW]
section
variable{E:Env} {a:Er} {b:Array Oper} {T:List Step} {d f:St}
structure Tr(E:Env)(a:Er)(b:Array Oper)(T:List Step)(d f:St):Prop where
 ch:chain b d T f
 ok:∀t∈T,ZT E a b t
 cov:T.Pairwise (Cov (oO b.toList))
 kk:∀t∈T,bu t.s.lh t.bV
 ub:∀t∈T,t.k=2->∀k∈t.U,k<t.s.lh.length
 lt:∀t∈T,t.i<b.size
 mem:∀i,i<b.size->∃(q:Nat) (t:Step),T[q]?=some t/\t.i=i
 inj:∀(p q:Nat) (t u:Step),T[p]?=some t->T[q]?=some u->t.i=u.i->p=q
 before:∀(q:Nat) (t:Step) (j:Nat),T[q]?=some t->Nat.testBit ((oO b.toList).getD t.i 0) j=true->∃(p:Nat) (u:Step),p<q/\T[p]?=some u/\u.i=j
 loud:∀(p q:Nat) (t u:Step),p<q->T[p]?=some t->T[q]?=some u->t.k=2->Nat.testBit ((oO b.toList).getD u.i 0) t.i=true
 tmps:∀(p q:Nat) (t u:Step) (o:Oper) (tt:Nat),T[p]?=some t->T[q]?=some u->b[u.i]?=some o->tt∈named b o->oo b t=some tt->p≠q->ordered (oO b.toList) u.i t.i=true
def gF{q:Nat}{t}(h:T[q]?=some t):t∈T:=du h
def Tr.l9(h:Tr E a b T d f):∀{p q},p<=q->q<=T.length->(bW T f p).lh.length<=(bW T f q).lh.length:=by
 intro p q i;induction q with
 |zero=>grind
 |succ q k=>
  intro n;rcases Nat.lt_or_ge p (q+1)with l|m
  .have c:T[q]?=some T[q]:=List.getElem?_eq_getElem (by omega)
   have e:=k (by omega) (by omega);rw[(gJ h.ch).2 q _ c];rw[dS c]at e;have:=(h.kk _ (gF c)).1;exact Nat.le_trans e this
  grind
def Tr.stays(h:Tr E a b T d f){p}{k}(D:k<(bW T f p).lh.length):∀{c},p<=c->c<=T.length->
  (∀r t,p<=r->r<c->T[r]?=some t->t.k=2->k∈t.U)->(bW T f c).lh.getD k .dead=(bW T f p).lh.getD k .dead:=by
 intro c;induction c with
 |zero=>grind
 |succ c u=>
  intro v F U;rcases Nat.lt_or_ge p (c+1)with w|x
  .have l:T[c]?=some T[c]:=List.getElem?_eq_getElem (by omega)
   have y:=u (by omega) (by omega) λr t z A B n=>U r t z (by omega) B n;rw[(gJ h.ch).2 c _ l];have m:k<T[c].s.lh.length:=by
    have:=h.l9 (show p<=c by omega) (show c<=T.length by omega);rw[dS l]at this;omega
   rw[<-y,dS l];obtain⟨o,G,g,H,i⟩:=h.ok _ (gF l);rcases i with⟨_,_,_,e⟩|⟨_,_,_,_,_,e⟩|⟨_,_,_,q,_,_,e⟩|⟨_,C,_,q,I,_,e⟩
   .show T[c].bV.getD k .dead=_;rw[e]
   .show T[c].bV.getD k .dead=_;rw[e]
   .show T[c].bV.getD k .dead=_
    rw[e,bY _ _ _ m]
   .show T[c].bV.getD k .dead=_
    have s:k<q.2.length:=by
     have:=(h.kk _ (gF l)).1;rw[e,rW]at this;omega
    rw[e,vV _ _ _ _ s,if_pos (U c _ (by omega) (by omega) l C)]
  grind
def Tr.Ls(h:Tr E a b T d f){p e:Nat}:∀{c},p<=c->c<=T.length->(∀r t,p<=r->r<c->T[r]?=some t->oo b t≠some e)->
  (bW T f c).tmps.getD e undef=(bW T f p).tmps.getD e undef:=by
 intro c;induction c with
 |zero=>grind
 |succ c k=>
  intro l v U;rcases Nat.lt_or_ge p (c+1)with m|n
  .have i:T[c]?=some T[c]:=List.getElem?_eq_getElem (by omega)
   have o:=k (by omega) (by omega) λr t q s u=>U r t q (by omega) u;rw[(gJ h.ch).2 c _ i, <-o,dS i];show(lY _ _ _).getD e undef=_;rw[C9,if_neg];grind
  grind
def Tr.Ob(h:Tr E a b T d f):∀{q},q<=T.length->(bW T f q).tmps.length=d.tmps.length:=by
 intro q;induction q with
 |zero=>intro _;rw[(gJ h.ch).1]
 |succ q i=>
  intro e;have c:T[q]?=some T[q]:=List.getElem?_eq_getElem (by omega);rw[(gJ h.ch).2 q _ c];show(lY _ _ _).length=_;grind [EE,dS]
end
section
variable{n:Nat->Prop} {b:World} {G:Kj} {E:Env} {f:Er} {k:Array Oper} {T:List Step} {l s:St}
def Tr.ai7(W:kF E.P n b G f)(U:IW k=true)(h:(qV E f k (oO k.toList) (Ae k.toList) [] l).get=some s):∃T,Tr E f k T l s:=by
 obtain⟨T,V,N,y,X,_,H⟩:=vX W _ _ _ _ (by simp) h;simp only[IW,Bool.and_eq_true]at U;obtain⟨⟨⟨⟨_,z⟩,O⟩,v⟩,Y⟩:=U;obtain⟨Z,o2,o3⟩:=Hw _ 0 [] (λj=>by simp) O;have m:∀(q:Nat) (t:Step),T[q]?=some t->(Ae k.toList)[q]?=some t.i:=λq t r=>by rw[<-V,cG,r];rfl
 have I:∀(q i:Nat),(Ae k.toList)[q]?=some i->∃t,T[q]?=some t/\t.i=i:=λq i r=>by
  rw[<-V,cG]at r;cases a:T[q]? with
  |none=>rw[a]at r;cases r
  |some t=>rw[a]at r;cases r;exact⟨t,rfl,rfl⟩
 have w:∀(p q:Nat) (t u:Step),T[p]?=some t->T[q]?=some u->t.i=u.i->p=q:=by
  have J:∀(p q:Nat) (t u:Step),p<q->T[p]?=some t->T[q]?=some u->t.i≠u.i:=λp q t u c a x e=>by
   refine o3 q u.i (m q u x) ?_;rw[<-e,List.nil_append];refine du (i:=p) ?_;rw[List.getElem?_take_of_lt c];exact m p t a
  intro p q t u a x e;rcases oX p q with h|h|h
  .exact absurd e (J p q t u h a x)
  .exact h
  .exact absurd e.symm (J q p u t h x a)
 refine⟨T,N,y,X,λt a=>(H t a).1,λt a=>(H t a).2,λt a=> ?_,λi hi=> ?_,w,λq t j r P=> ?_,λp q t u c a x Q=> ?_,λp q t u o tt a x K PY d c=> ?_⟩
 .obtain⟨o,K,_⟩:=y t a
  exact(Array.getElem?_eq_some_iff.1 K).1
 .rw[List.all_eq_true]at v
  have:=v i (by simpa using hi);rw[sR]at this;obtain⟨j,P,e⟩:=this;obtain⟨q,r,R⟩:=ff.1 P;obtain⟨t,C,D⟩:=I q j (by rw[List.getElem?_eq_getElem r,R]);exact⟨q,t,C,by rw[D];exact(beq_true e).symm⟩
 .have:=Z q t.i (m q t r) j P
  rw[List.nil_append]at this;obtain⟨p,L⟩:=List.mem_iff_getElem?.1 this;rw[gC]at L;split at L
  .rename_i c
   obtain⟨u,C,D⟩:=I p j L;exact⟨p,u,c,C,D⟩
  .cases L
 .refine o2 q u.i (m q u x) t.i ?_ ?_
  .rw[List.nil_append]
   refine du (i:=p) ?_;rw[List.getElem?_take_of_lt c];exact m p t a
  .obtain⟨o,K,g,_,A⟩:=y t (gF a)
   have S:kindOf o.op=2:=by
    rcases A with⟨_,e,_⟩|⟨_,e,_⟩|⟨_,e,_⟩|⟨_,_,e,_⟩
    .rw[Q]at e;cases e
    .rw[Q]at e;cases e
    .rw[Q]at e;cases e
    .exact e
   rw[cG,Array.getElem?_toList,K];simp[S]
 .unfold Xb at z
  rw[List.all_eq_true]at z;have C:=z (o,u.i) (by rw[mb];simpa using K);rw[List.all_eq_true]at C;have D:=C tt PY;rw[List.all_eq_true]at D;unfold oo at d;cases B:k[t.i]? with
  |none=>rw[B]at d;cases d
  |some q'=>
   rw[B,jt]at d;have F:=D (q',t.i) (by rw[mb];simpa using B);simp only[d,ju,Bool.not_true,Bool.false_or,eV]at F;rcases F with F|F
   .exact absurd (w p q t u a x (beq_true F).symm) c
   .exact F
structure rD(n:Nat->Prop)(b:World)(G:Kj)(k:Array Oper)(T:List Step)(l s:St)(σ0 σ:Nat->Option Pl)(c:Nat)(listed:Array Bool)(a:Act)(w:World):Prop where
 cle:c<=T.length
 size:listed.size=k.size
 ext:Ext l.lh.length σ0 σ
 closed:∀i j,listed.getD i false=true->Nat.testBit ((oO k.toList).getD i 0) j=true->listed.getD j false=true
 below:∀(q:Nat) (t:Step),T[q]?=some t->listed.getD t.i false=true->q<c
 Ij:∀(q:Nat) (t:Step),T[q]?=some t->q<c->t.k=2->listed.getD t.i false=true
 at_:c=T.length\/∃t,T[c]?=some t/\t.k=2
 hr:HR n b G σ (bW T s c).lh w
 free:∀(q:Nat) (t:Step),T[q]?=some t->q<c->t.k=1->listed.getD t.i false=false->σ t.s.lh.length=none
 sz:a.tmps.size=l.tmps.length
 df:a.defers=[]
 tm:∀(tt q:Nat),q<=T.length->(∀(r:Nat) (t:Step),T[r]?=some t->oo k t=some tt->(r<q↔listed.getD t.i false=true))->VR σ ((bW T s q).tmps.getD tt undef) (a.tmps.getD tt undef)
def IJ(T:List Step)(m)(h:m<=T.length):∃c,m<=c/\c<=T.length/\(∀(q) (t),m<=q->q<c->T[q]?=some t->t.k≠2)/\(c=T.length\/∃t,T[c]?=some t/\t.k=2):=by
 obtain⟨d,p⟩:∃d,T.length-m=d:=⟨_,rfl⟩;induction d generalizing m with
 |zero=>exact⟨m,Nat.le_refl _,h,λq t a e=>by omega,.inl (by omega)⟩
 |succ d r=>
  have i:T[m]?=some T[m]:=List.getElem?_eq_getElem (by omega);by_cases o:T[m].k=2
  .exact⟨m,Nat.le_refl _,h,λq t a e=>by omega,.inr ⟨_,i,o⟩⟩
  grind
def Tr.quiet(h:Tr E f k T l s){p c}(a:p<=c)(w:c<=T.length)(m:∀(q) (t),p<=q->q<c->T[q]?=some t->t.k≠2):∃N,(bW T s c).lh=(bW T s p).lh++N:=by
 obtain⟨d,rfl⟩:=Nat.exists_eq_add_of_le a;induction d with
 |zero=>simp_all
 |succ d r=>
  obtain⟨N,u⟩:=r (by omega) (by omega) λq t v x=>m q t v (by omega);have e:T[p+d]?=some T[p+d]:=List.getElem?_eq_getElem (by omega);rw[show p+(d+1)=p+d+1 by omega,(gJ h.ch).2 _ _ e];rw[dS e]at u;obtain⟨o,y,g,z,i⟩:=h.ok _ (gF e);show∃N,T[p+d].bV=_;grind
def rD.start(h:Tr E f k T l s){σ}{a}{w}(hrel:Rel n b G σ l a w):∃c,rD n b G k T l s σ σ c (Array.replicate k.size false) a w:=by
 obtain⟨c,y,u,v,z⟩:=IJ T 0 (by omega);have A:∀i,(Array.replicate k.size false).getD i false=false:=λi=>by
  rw[cX,Array.getElem?_replicate];split<;>rfl
 have o:=(gJ h.ch).1;refine⟨c,u,by simp,Ext.refl _ _,λi j I=>(by grind),λq t _ J=>(by grind),λq t d m x=>absurd x (v q t (by omega) m d),z,?_,λq t d m x _=> ?_,hrel.sz,hrel.df,λB q m C=> ?_⟩
 .obtain⟨N,D⟩:=h.quiet y u v
  rw[D,o];exact hrel.hr.extend N
 .have:=h.l9 (Nat.zero_le q) (by omega)
  rw[o,dS d]at this;cases e:σ t.s.lh.length with
  |none=>rfl
  |some p=>have:=hrel.hr.dom _ _ e;omega
 .rw[h.Ls (Nat.zero_le q) m fun r t _ F d H=> ?_,o]
  .exact hrel.tm B
  .have:=(C r t d H).1 F
   rw[A]at this;cases this
def yF{a:Array Bool}{i}(h:i<a.size)(j):(a.setIfInBounds i true).getD j false=if j=i then true else a.getD j false:=by
 rw[cX,mc];by_cases e:i=j
 .subst e;simp[h]
 .rw[if_neg e,if_neg (Ne.symm e),cX]
theorem rD.next(h:Tr E f k T l s){W σ I}{c B}{d}{a}{w w'}(C:rD n b G k T l s W σ c d a w){q}{t}(z:T[q]?=some t)
  (hn:d.getD t.i false=false) (Eb:∀j,Nat.testBit ((oO k.toList).getD t.i 0) j=true->d.getD j false=true) {v'} (fQ:Ext l.lh.length W I) (X:Le σ I) (hv:VR I t.v v')
  (Y:B<=T.length) (A:∀(p) (u),T[p]?=some u->d.getD u.i false=true\/p=q->p<B)
  (Z:∀(p) (u),T[p]?=some u->p<B->u.k=2->d.getD u.i false=true\/p=q) (ac:B=T.length\/∃u,T[B]?=some u/\u.k=2) (CW:HR n b G I (bW T s B).lh w')
  (D:∀(p) (u),T[p]?=some u->p<B->u.k=1->d.getD u.i false=false->p≠q->I u.s.lh.length=none):
  rD n b G k T l s W I B (d.setIfInBounds t.i true) (a.put (oo k t) v') w':=by
 have am:t.i<d.size:=by rw[C.size];exact h.lt t (gF z)
 have hL:=yF am;have ao:∀(p:Nat) (u:Step),T[p]?=some u->(u.i=t.i↔p=q):=λp u m=>⟨λe=>h.inj p q u t m z e,λe=>by grind⟩;have L:∀(p:Nat) (u:Step),T[p]?=some u->((d.setIfInBounds t.i true).getD u.i false=true↔d.getD u.i false=true\/p=q):=λp u m=>by
  rw[hL, <-ao p u m];split
  .rename_i e;simp[e]
  .rename_i e;simp[e]
 refine⟨Y,by simp[C.size],fQ,λi j F hj=> ?_,λp u m S=>A p u m ((L p u m).1 S),λp u m J hk=>(L p u m).2 (Z p u m J hk),ac,CW,λp u m J hk S=> ?_,by rw[O0];exact C.sz,by rw[put_defers];exact C.df,λx p J hw=> ?_⟩
 .rw[hL]at F ⊢
  split
  .rfl
  .split at F
   .rename_i e;subst e;exact Eb j hj
   .exact C.closed i j F hj
 .have O:¬(d.getD u.i false=true\/p=q):=fun y=>by rw[(L p u m).2 y]at S;cases S
  refine D p u m J hk ?_ λe=>O (.inr e);cases e:d.getD u.i false with
  |false=>rfl
  |true=>exact absurd (.inl e) O
 .rw[Qi,C.sz]
  by_cases K:oo k t=some x
  ·
   have ca:q<p:=(hw q t z K).2 ((L q t z).2 (.inr rfl));obtain⟨o,ho,_⟩:=h.ok t (gF z);have H:∀(r:Nat) (u:Step),q+1<=r->r<p->T[r]?=some u->oo k u≠some x:=λr u hr ar m N=>by
    have U:=(L r u m).1 ((hw r u m N).1 ar);rcases U with U|U
    .obtain⟨ou,P,_⟩:=h.ok u (gF m)
     have bi:x∈named k ou:=by
      have:ou.dst=some x:=by rw[oo,P,jt]at N;exact N
      simp[named,this]
     have v:=h.tmps q r t u ou x z m P bi K (by omega);simp only[ordered,eV]at v;rcases v with v|v
     .have:=C.closed u.i t.i U v
      rw[hn]at this;cases this
     .obtain⟨p',u',cb,bm,e⟩:=h.before q t u.i z v
      have:=h.inj p' r u' u bm m e;omega
    .omega
   have Q:=h.Ls (by omega) J H;rw[(gJ h.ch).2 q t z]at Q;have bv:(bW T s p).tmps.getD x undef=(lY t.s.tmps (oo k t) t.v).getD x undef:=Q;rw[bv,C9];have R:t.s.tmps.length=l.tmps.length:=by
    have:=h.Ob (q:=q) (by omega);rwa[dS z]at this
   rw[R];by_cases V:x<l.tmps.length
   .rw[if_pos ⟨K,V⟩,if_pos ⟨K,V⟩];exact hv
   .rw[if_neg (fun y=>V y.2),if_neg (fun y=>V y.2)]
    have:t.s.tmps.getD x undef=undef:=by simp[ez (show t.s.tmps.length<=x by omega)]
    rw[this];exact VR.any _
  .rw[if_neg (fun y=>K y.1)]
   refine(C.tm x p J λr u m N=> ?_).mono X;rw[hw r u m N,L r u m];constructor
   .rintro(y|y)
    .exact y
    .subst y;rw[z]at m;cases m;exact absurd N K
   .exact .inl
end
section
variable{n:Nat->Prop} {w0:World} {G:Kj} {E:Env} {bB:Er} {ops:Array Oper} {T:List Step} {s0 sf:St}
theorem qE{x:Nat}:∀{l},Operand.tmp x∈l->x∈tmpsOf l
 | .tmp t::r,h=>by
  simp only[tmpsOf];rcases List.mem_cons.1 h with h|h
  .grind
  .exact da _ (qE h)
 | .const v::r,h=>by
  rcases List.mem_cons.1 h with h|h
  .cases h
  .exact(qE h:x∈tmpsOf r)
 | .global v::r,h=>by
  rcases List.mem_cons.1 h with h|h
  .cases h
  .exact(qE h:x∈tmpsOf r)
 | .func v::r,h=>by
  rcases List.mem_cons.1 h with h|h
  .cases h
  .exact(qE h:x∈tmpsOf r)
def ab8{σ}{l}{w}(r:HR n w0 G σ l w)(a:Act)(tm)(x:Operand)(h:∀t,x=.tmp t->VR σ (tm.getD t undef) (a.tmps.getD t undef)):VR σ (qx G tm x) (a.eval x):=by
 cases x with
 |tmp t=>exact h t rfl
 |const v=>
  simp only[qx,Act.eval];cases p:plain v with
  |true=>exact VR.plain σ p
  |false=>exact VR.any _
 |global g=>
  exact VR.any _
 |func f=>exact VR.func f rfl rfl (λi x y h=>by simp at h) λi x y h=>by simp at h
def WT{σ}{o}{s}{a:Act}{g}(l:Li ops o s g)(i:∀k∈named ops o,VR σ (s.tmps.getD k undef) (a.tmps.getD k undef)):Region.wanted o (yielded ops a.tmps)=g:=by
 rcases l with⟨h,rfl⟩|⟨j,w,t,b,h,c,f,rfl⟩|⟨j,w,t,x,h,c,f,rfl⟩
 .simp[Region.wanted,h]
 .have d:=i t (by simp[named,h,c])
  rw[f]at d;have e:=d.aD rfl;have m:a.tmps[t]?=some (.bool b):=by
   rw[cX]at e;cases p:a.tmps[t]? with
   |none=>rw[p]at e;simp[undef]at e
   |some v=>grind
  simp only[Region.wanted,h,yielded,c,jt,m];grind
 .have d:=i t (by simp[named,h,c])
  rw[f]at d;exact Ew h c d
theorem rD.step(hE:vN E)(hG:E.G=G)(hc:kF E.P n w0 G bB)(h:Tr E bB ops T s0 sf){σ0 σ}{c}{m}{a}{w}(d:rD n w0 G ops T s0 sf σ0 σ c m a w){i}(de:i<ops.size)
  (P:m.getD i false=false) (Eb:∀j,Nat.testBit ((oO ops.toList).getD i 0) j=true->m.getD j false=true) (Q) (K)
  (hK:∀F c' a' V,rD n w0 G ops T s0 sf σ0 F c' (m.setIfInBounds i true) a' V->K a' V):wpOp E.P ops Q i K a w:=by
 obtain⟨q,t,y,rfl⟩:=h.mem i de;have bv:q<T.length:=(List.getElem?_eq_some_iff.1 y).1;obtain⟨o,ho,g,hg,W⟩:=h.ok t (gF y)
 have hq:q<c\/(q=c/\t.k=2):=by
  rcases oX q c with f|f|f
  .exact .inl f
  .right
   refine⟨f,?_⟩;rcases d.at_ with e|⟨u,b,A⟩
   .omega
   .rw[<-f,y]at b;cases b;exact A
  .rcases d.at_ with e|⟨u,b,A⟩
   .omega
   .have:=Eb u.i (h.loud c q u t f b y A)
    have:=d.below c u b this;omega
 have ca:∀R∈named ops o,VR σ (t.s.tmps.getD R undef) (a.tmps.getD R undef):=by
  intro R PY;have:=d.tm R q (by omega) λr u b Iy=>by
   rcases oX r q with L|L|L
   .refine⟨fun _=> ?_,fun _=>L⟩
    have s:=h.tmps r q u t o R b y ho PY Iy (by omega);simp only[ordered,eV]at s;rcases s with s|s
    .exact Eb _ s
    .obtain⟨H,u',X,Y,e⟩:=h.before r u t.i b s
     have:=h.inj H q u' t Y y e;omega
   .subst L
    rw[y]at b;cases b;exact⟨λf=>by omega,λf=>by rw[P]at f;cases f⟩
   .refine⟨fun f=>by omega,fun Z=> ?_⟩
    have s:=h.tmps r q u t o R b y ho PY Iy (by omega);simp only[ordered,eV]at s;rcases s with s|s
    .obtain⟨H,u',X,Y,e⟩:=h.before q t u.i y s
     have:=h.inj H r u' u Y b e;omega
    .have:=d.closed u.i t.i Z s
     rw[P]at this;cases this
  rwa[dS y]at this
 have ac:∀x∈o.op.operands,VR σ (qx E.G t.s.tmps x) (a.eval x):=λx hx=>by
  rw[hG]
  exact ab8 d.hr a _ x λR e=>ca R (by
   subst e;simp only[named,List.mem_append];exact .inl (.inr (qE (by simpa using hx))))
 have S:oo ops t=o.dst:=by rw[oo,ho,jt]
 have hw:=WT hg ca;unfold wpOp;simp only[ho]
 have C:∀{F:Nat->Option Pl} {v':Value} {V:World},t.k≠2->Ext s0.lh.length σ0 F->Le σ F->VR F t.v v'->HR n w0 G F (bW T sf c).lh V->
   (∀(p:Nat) (u:Step),T[p]?=some u->p<c->u.k=1->m.getD u.i false=false->p≠q->F u.s.lh.length=none)->K (a.put o.dst v') V:=by
  intro F v' V B fQ dp I CW v;have am:q<c:=hq.elim id λf=>absurd f.2 B;rw[<-S];exact hK F c _ _ (d.next h y P Eb fQ dp I d.cle (λp u b f=>f.elim (d.below p u b) λe=>by omega) (λp u b J A=>.inl (d.Ij p u b J A)) d.at_ CW v)
 rcases W with⟨rfl,A,I,Z⟩|⟨rfl,A,VI,dt,I,Z⟩|⟨rfl,A,VI,r,hr,I,Z⟩|⟨rfl,A,dv,r,hr,I,Z⟩
 .rw[hw,if_neg (by simp)]
  exact C (by rw[A];decide) d.ext (Le.refl _) (by rw[I];exact VR.skip) d.hr λp u b J l D _=>d.free p u b J l D
 .rw[hw,if_pos rfl]
  left;have am:q<c:=hq.elim id λf=>absurd f.2 (by rw[A];decide);have ao:∀k∈readsOf (qx E.G t.s.tmps) o.op,t.s.lh.getD k .dead=(bW T sf c).lh.getD k .dead:=λk cb=>by
   have:=h.stays (p:=q) (k:=k) (c:=c) (by rw[dS y];exact dt k (by rw[VI];exact cb)) (by omega) d.cle λr u hr ar b B=>by
    rcases Nat.lt_or_ge q r with ce|ce
    .have FX:=sy.1 h.cov q r bv (List.getElem?_eq_some_iff.1 b).1 ce
     rw[(List.getElem?_eq_some_iff.1 y).2,(List.getElem?_eq_some_iff.1 b).2]at FX;refine FX (by rw[A];decide) B ?_ k (by rw[VI];exact cb);cases hb:Nat.testBit ((oO ops.toList).getD u.i 0) t.i with
     |false=>rfl
     |true=>
      have:=d.closed u.i t.i (d.Ij r u b ar B) hb;rw[P]at this;cases this
    .obtain rfl:r=q:=by omega
     rw[y]at b;cases b;rw[A]at B;cases B
   rw[this,dS y]
  rw[UB ao]at I;obtain⟨v',h1,h2⟩:=GH hE d.hr ac I;unfold Oper.wp;rw[h1,oy];exact C (by rw[A];decide) d.ext (Le.refl _) h2 d.hr λp u b J l D _=>d.free p u b J l D
 .rw[hw,if_pos rfl]
  left;have am:q<c:=hq.elim id λf=>absurd f.2 (by rw[A];decide);obtain⟨v',ob,h1,p,⟨J,dT⟩,h2⟩:=Ia d.hr.size ac hr;have z:(bW T sf (q+1)).lh=t.s.lh++[r.2]:=by rw[(gJ h.ch).2 q t y];exact Z
  have co:t.s.lh.length<(bW T sf (q+1)).lh.length:=by rw[z];simp
  have eh:t.s.lh.length<(bW T sf c).lh.length:=Nat.lt_of_lt_of_le co (h.l9 (by omega) d.cle);have U:(bW T sf c).lh.getD t.s.lh.length .dead=r.2:=by
   have:=h.stays (p:=q+1) (k:=t.s.lh.length) (c:=c) co (by omega) d.cle λr' u d5 ar b B=>by
    have FX:=sy.1 h.cov q r' bv (List.getElem?_eq_some_iff.1 b).1 (by omega);rw[(List.getElem?_eq_some_iff.1 y).2,(List.getElem?_eq_some_iff.1 b).2]at FX;refine FX (by rw[A];decide) B ?_ _ (by rw[VI];simp);cases hb:Nat.testBit ((oO ops.toList).getD u.i 0) t.i with
    |false=>rfl
    |true=>
     have:=d.closed u.i t.i (d.Ij r' u b ar B) hb;rw[P]at this;cases this
   rw[this,z,iQ]
  have v:=d.free q t y am A P;obtain⟨h3,h4⟩:=h2 (upd σ t.s.lh.length p) t.s.lh.length (tK v p) (upd_same _ _ _);unfold Oper.wp;rw[h1,oy];have d6:s0.lh.length<=t.s.lh.length:=by
   have:=h.l9 (Nat.zero_le q) (by omega);rwa[(gJ h.ch).1,dS y]at this
  refine C (by rw[A];decide) ⟨d.ext.1.trans (tK v p),fun k fh=>by rw[dF _ _ (by omega)];exact d.ext.2 k fh⟩ (tK v p) (by rw[I];exact h3)
   (d.hr.fill eh v p ob J (by rw[U];exact h4) (by rw[U];exact dT)) λH u b X l D fi=> ?_
  rw[dF]
  .exact d.free H u b X l D
  .have i5:(bW T sf (H+1)).lh.length=u.s.lh.length+1:=by
    rw[(gJ h.ch).2 H u b];obtain⟨o',fl,g',fv,P7⟩:=h.ok u (gF b);show u.bV.length=_;rcases P7 with⟨_,e,_⟩|⟨_,e,_⟩|⟨_,_,_,r',_,_,e⟩|⟨_,e,_⟩
    .rw[l]at e;cases e
    .rw[l]at e;cases e
    .rw[e];simp
    .rw[l]at e;cases e
   rcases Nat.lt_or_ge H q with O|O
   .have:=h.l9 (show H+1<=q by omega) (by omega)
    rw[dS y]at this;omega
   .have:=h.l9 (show q+1<=H by omega) (by have:=(List.getElem?_eq_some_iff.1 b).1;omega)
    rw[dS b]at this;omega
 .rw[hw,if_pos rfl]
  left;obtain rfl:q=c:=by
   rcases hq with f|⟨f,_⟩
   .have:=d.Ij q t y f A
    rw[P]at this;cases this
   .exact f
  have bi:=dS (sf:=sf) y;have CW:HR n w0 G σ t.s.lh w:=by have:=d.hr;rwa[bi]at this
  refine EJ hc (CW.uW t.U) ac hr λv' V bm=> ?_;obtain⟨F,fQ,kS,d5⟩:=bm;rw[nM]at fQ;have gt:=yD hc hr;have d7:=d5.af1 gt (h.ub t (gF y) A);obtain⟨c',gv,d8,d9,i4⟩:=IJ T (q+1) (by omega);obtain⟨N,hN⟩:=h.quiet gv d8 d9;have z:(bW T sf (q+1)).lh=kZ t.U t.s.lh r.2:=by rw[(gJ h.ch).2 q t y];exact Z
  have d6:s0.lh.length<=t.s.lh.length:=by
   have:=h.l9 (Nat.zero_le q) (by omega);rwa[(gJ h.ch).1,bi]at this
  rw[<-S];refine hK F c' _ _ (d.next h y P Eb (d.ext.trans fQ d6) fQ.1 (by rw[I];exact kS) d8 (λp u b f=> ?_) (λp u b J l=> ?_) i4 (by rw[hN,z];exact d7.extend N) λp u b J l D fi=> ?_)
  .rcases f with f|f
   .have:=d.below p u b f;omega
   .omega
  .rcases oX p q with f|f|f
   .exact .inl (d.Ij p u b f l)
   .exact .inr f
   .exact absurd l (d9 p u (by omega) J b)
  .rcases Nat.lt_or_ge p q with O|O
   .have dd:u.s.lh.length<t.s.lh.length:=by
     have h1:(bW T sf (p+1)).lh.length=u.s.lh.length+1:=by
      rw[(gJ h.ch).2 p u b];obtain⟨o',fl,g',fv,P7⟩:=h.ok u (gF b);show u.bV.length=_;rcases P7 with⟨_,e,_⟩|⟨_,e,_⟩|⟨_,_,_,r',_,_,e⟩|⟨_,e,_⟩
      .rw[l]at e;cases e
      .rw[l]at e;cases e
      .rw[e];simp
      .rw[l]at e;cases e
     have:=h.l9 (show p+1<=q by omega) (by omega);rw[bi]at this;omega
    rw[fQ.2 _ dd];exact d.free p u b O l D
   .have:=h.l9 (show q+1<=p by omega) (by omega)
    rw[dS b,z]at this;cases e:F u.s.lh.length with
    |none=>rfl
    |some p0=>have:=d7.dom _ _ e;omega
theorem ET{p q}:∀{l:List Nat} {x},x∈l->p x=true->q x=false->(∀y,q y=true->p y=true)->(l.filter q).length<(l.filter p).length
 |y::l,x,h,b,c,a=>by
  have d:∀l:List Nat,(l.filter q).length<=(l.filter p).length:=by
   intro l;induction l with
   |nil=>grind
   |cons z l i=>
    grind
  rcases List.mem_cons.1 h with rfl|h
  .grind
  .have i:=ET h b c a
   grind
def WB(h:Dk ops.toList=true){l}(s:l.size=ops.size)(r:Region.ready .any ops l=[]):∀i,i<ops.size->l.getD i false=true:=by
 intro i;induction i using Nat.strongRecOn with
 |_ i e=>
  intro a;cases f:l.getD i false with
  |true=>rfl
  |false=>
   have m:i∈Region.ready .any ops l:=by
    simp only[Region.ready,th,List.mem_range,Bool.and_eq_true,eI];refine⟨a,?_,?_⟩
    .grind
    .rw[cj a]
     simp only[Option.map_some,lO,jN];intro j k;simp only[eV,eI];cases b:Region.binds .any (ops[i].after[j])with
     |false=>exact .inl rfl
     |true=>
      right;unfold Dk at h;rw[List.all_eq_true]at h;have d:=h (ops[i],i) (by rw[mb];simp[a]);rw[List.all_eq_true]at d;have c:=d (ops[i].after[j]) (by simp);rw[b]at c;simp at c;exact e _ c (by omega)
   grind
def rD.run(U:vN E)(V:E.G=G)(X:kF E.P n w0 G bB)(Y:Dk ops.toList=true)(h:Tr E bB ops T s0 sf){K}{Q}
  (z:∀F H I,Ext s0.lh.length K F->Rel n w0 G F sf H I->Q .normal H I):∀(f) (l) (a) (w) (σ) (c),rD n w0 G ops T s0 sf K σ c l a w->
  ((List.range ops.size).filter λi=> !l.getD i false).length<=f->wpAny E.P .any ops Q f l a w:=by
 have A:∀(l:Array Bool) (a:Act) (w:World) (σ:Nat->Option Pl) (c:Nat),rD n w0 G ops T s0 sf K σ c l a w->(∀i,i<ops.size->l.getD i false=true)->Q .normal a w:=by
  intro l a w σ c m o;have L:c=T.length:=by
   rcases m.at_ with e|⟨u,B,O⟩
   .exact e
   .have:=m.below c u B (o _ (h.lt u (gF B)))
    omega
  have W:=m.hr;rw[L,sV]at W;have v:=h.Ob (Nat.le_refl T.length);rw[sV]at v;refine z σ a w m.ext ⟨by rw[m.sz,v],λt=> ?_,m.df,W⟩;have:=m.tm t T.length (Nat.le_refl _) λr u B _=>⟨λ_=>o _ (h.lt u (gF B)),λ_=>(List.getElem?_eq_some_iff.1 B).1⟩;rwa[sV]at this
 intro f;induction f with
 |zero=>
  intro l a w σ c m Z;have o:∀i,i<ops.size->l.getD i false=true:=by
   intro i b;have:(List.range ops.size).filter (λi=> !l.getD i false)=[]:=List.eq_nil_of_length_eq_zero (by omega);rw[List.filter_eq_nil_iff]at this;have:=this i (List.mem_range.2 b);simpa using this
  refine⟨?_,A l a w σ c m o⟩;rw[Region.ready,List.filter_eq_nil_iff];intro i s;have b:=List.mem_range.1 s;have:=o i b;rw[cX,cj (by rw[m.size];exact b)]at this;have h2:l.getD i true=true:=by
   rw[cX,cj (by rw[m.size];exact b)];simpa using this
  rw[h2];simp
 |succ f ih=>
  intro l a w σ c m Z;refine⟨λhr=>A l a w σ c m (WB Y m.size hr),λi s=> ?_⟩;simp only[Region.ready,th,List.mem_range,Bool.and_eq_true,eI]at s;obtain⟨b,C,P⟩:=s;have x:i<l.size:=by rw[m.size];exact b
  have R:l.getD i false=false:=by
   rw[cX,cj x]at C ⊢;simpa using C
  refine m.step U V X h b R (λj hj=> ?_) Q _ λF c' H I N=>ih _ H I F c' N ?_
  .have ho:ops.toList[i]?=some ops[i]:=by simp[b]
   obtain⟨e,he,D,d⟩:=acG ho hj;rw[cj b]at P;simp only[Option.map_some,lO,jN]at P;obtain⟨k,O,rfl⟩:=ff.1 he;have:=P k (by simpa using O);rw[Array.getElem_toList]at D d;rw[D]at this;rcases d with rfl|d
   .exact this
   .exact m.closed _ _ this d
  .have S:=ET (p:=λi=> !l.getD i false) (q:=λj=> !(l.setIfInBounds i true).getD j false) (List.mem_range.2 b) (by simp only[R];rfl) (by simp only[yF x,if_true];rfl) (λy J=>by
    simp only[yF x]at J;split at J
    .cases J
    .exact J)
   omega
def Si(x:vN E)(y:E.G=G)(z:E.P.follows .mixedOrders=true)(m:kF E.P n w0 G bB){id}{s d}(h:(V6 E bB ops s).get=some d):
  bu s.lh d.lh/\∀σ a w (Q),Rel n w0 G σ s a w->(∀o p r,Ext s.lh.length σ o->Rel n w0 G o d p r->Q .normal p r)->(Code.region id ops true).wp E.P Q a w:=by
 rcases M.af h with⟨e,h⟩|⟨_,h⟩
 .obtain⟨T,b⟩:=Tr.ai7 m e h
  have A:Dk ops.toList=true:=by
   simp only[IW,Bool.and_eq_true]at e;exact e.1.1.1.1
  refine⟨?_,λσ a w Q hrel f=> ?_⟩
  .have k:∀q,q<=T.length->bu s.lh (bW T d q).lh:=by
    intro q;induction q with
    |zero=>intro _;rw[(gJ b.ch).1];exact bu.refl _
    |succ q B=>
     intro C;have i:T[q]?=some T[q]:=List.getElem?_eq_getElem (by omega);have u:=B (by omega);rw[dS i]at u;rw[(gJ b.ch).2 q _ i];exact u.trans (b.kk _ (gF i))
   have:=k T.length (Nat.le_refl _);rwa[sV]at this
  .obtain⟨c,v⟩:=rD.start b hrel
   refine wp_region_any z ?_;have l:={v with hr:=v.hr.drew}
   exact rD.run x y m A b f ops.size _ a _ σ c l (by
    grind)
 .cases h
