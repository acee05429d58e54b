import Derived.Test.YteaflphddciglaaGreatDoorCaF
import Derived.LoopN
set_option linter.all false
def cv:=@Classical.byContradiction
def iz:=@List.length_map
def ir:=@Nat.blt_eq
def kB:=@Prod.mk.injEq
def oS:=@cond_false
def mY:=@List.getElem?_replicate
def tP:=@List.nodup_cons
def ua:=@List.any_eq_false
def pP:=@List.mem_append_right
def qS:=@List.find?_some
def vc:=@List.length_range
namespace Go.Sx
open Go Go.RowKit
def sU(b:Nat)(σ a:Nat->Option Pl):Prop:=∀k,k<b->a k=σ k
theorem sU.refl(b)(σ):sU b σ σ:=λ_ _=>rfl
def sU.trans{b}{σ a B}(h:sU b σ a)(k:sU b a B):sU b σ B:=λi c=>(k i c).trans (h i c)
def Ext.SN{b m}{σ a}(h:Ext m σ a)(c:b<=m):sU b σ a:=λk d=>h.2 k (Nat.lt_of_lt_of_le d c)
def lI(b:Nat)(l V:List ag):Prop:=b<=V.length/\∀k,k<b->(l.getD k .dead).vo=false->V.getD k .dead=l.getD k .dead
theorem lI.refl{b}{l}(h:b<=l.length):lI b l l:=⟨h,λ_ _ _=>rfl⟩
def lI.trans{b}{x y z}(h:lI b x y)(k:lI b y z):lI b x z:=
 ⟨k.1,λi a w=>by
  have e:=h.2 i a w;rw[<-e];exact k.2 i a (by rw[e];exact w)⟩
def bu.SN{b}{l V}(h:bu l V)(a:b<=l.length):lI b l V:=⟨Nat.le_trans a h.1,λk c w=>h.2 k (Nat.lt_of_lt_of_le c a) w⟩
def dM(P:Program)(n:Nat->Prop)(d:World)(G:Kj)(b:Nat)(c:Code)(s:St)(e:Exit)(f:St):Prop:=
 lI b s.lh f.lh/\∀σ a w,Rel n d G σ s a w->c.wp P (λi k l=>i=e/\∃h,sU b σ h/\Rel n d G h f k l) a w
structure iA(E:Env)(n:Nat->Prop)(w0:World):Prop where
 eqs:vN E
 mixed:E.P.follows .mixedOrders=true
 fns:∀e∈E.fns,iL E.P e.1 e.2
 LU:∀f F,E.LU f=some F->(∃fn,iL E.P f fn)/\∀args lh r,(F args lh).get=some r->dK E.P n w0 E.G f args lh r
 qQ:∀f id F,E.qQ f id=some F->∀fn c,(f,fn)∈E.fns->fn.body=some c->∀b',(id,b')∈iU c->∀base s e s',base<=s.lh.length->(F base s).get=some (e,s')->dM E.P n w0 E.G base (.block id b') s e s'
def Hy{id}{c b}(h:(sF id c).isSome=true)(m:(id,b)∈iU c):b=xY id c:=by
 unfold xY;unfold sF at h ⊢;have f:(id,b)∈(iU c).filter λp=>Nat.beq p.1 id:=th.2 ⟨m,ju id⟩;generalize (iU c).filter (λp=>Nat.beq p.1 id)=l at h f
 match l,h,f with
 |[p],_,f=>
  rw[List.mem_singleton]at f;subst f;rfl
section
variable{n:Nat->Prop} {o:World} {E:Env}
def YO{P}{t}{a c v}{l}{σ}(b:VR σ a c)(h:(vK P t a l).get=some v):∃d,c=.pointer (some d):=by
 unfold vK at h;split at h
 .obtain⟨p,_,rfl⟩:=b.gL;exact⟨_,rfl⟩
 .obtain⟨p,_,rfl⟩:=b.qL;exact⟨_,rfl⟩
 .obtain⟨p,_,rfl⟩:=b.gL;exact⟨_,rfl⟩
 .obtain⟨p,_,rfl⟩:=b.qL;exact⟨_,rfl⟩
 .cases h
def acK(a:Act)(g:ResultVar->Sem Value):Prop:=(∀t,g (.tmp t)=pure (a.tmps.getD t undef))/\∀d t,g (.cell d t)=(do loadVar t (<-asAddr (a.tmps.getD d undef)))
def Ng{P}{G}{σ}{s}{a}{w}(hrel:Rel n o G σ s a w){g}(c:acK a g)(rv){v}(h:(DT P s rv).get=some v):
  ∃b,(g rv).run P w=.ok b w/\VR σ v b:=by
 cases rv with
 |tmp t=>
  simp only[DT,M.ah,cq]at h;subst h;rw[c.1];exact⟨_,rfl,hrel.tm t⟩
 |cell d t=>
  obtain⟨q,e⟩:=YO (hrel.tm d) h;obtain⟨b,f,i⟩:=EL hrel.hr (hrel.tm d) h;refine⟨b,?_,i⟩;rw[e]at f;rw[c.2,e];simpa[Instr.loadAt,Instr.sureAddr,asAddr]using f
theorem yU{P}{G}{σ}{s}{a}{w}(hrel:Rel n o G σ s a w){g}(e:acK a g):∀(l) (c),(wC P s l).get=some c->
  ∃b,(l.mapM g).run P w=.ok b w/\b.length=c.length/\∀(i:Nat) (x y),c[i]?=some x->b[i]?=some y->VR σ x y
 |[],c,h=>by
  simp only[wC,M.ah,cq]at h;simp_all
 |r::f,c,h=>by
  obtain⟨v,k,h⟩:=M.ay h;obtain⟨m,u,h⟩:=M.ay h;cases h;obtain⟨p,z,A⟩:=Ng hrel e r k;obtain⟨d,B,q,C⟩:=yU hrel e f m u;refine⟨p::d,?_,by simp[q],λi x y D F=> ?_⟩
  .simp_all
  grind
def Km{P}{G}{σ}{s}{a}{w}(hrel:Rel n o G σ s a w)(fn){v}(h:(wB P fn s).get=some v):
  ∃p,(results fn a.tmps).run P w=.ok p w/\VR σ v p:=by
 obtain⟨d,f,h⟩:=M.ay h;have r:∃b:List Value,(results fn a.tmps).run P w=.ok (if h:b.toArray.size=1 then b.toArray[0]else .tuple b.toArray) w/\b.length=d.length/\∀(i:Nat) (x y:Value),d[i]?=some x->b[i]?=some y->VR σ x y:=by
  unfold results;rw[sA];simp only[cd,Sem.run_map];have k:∀F:ResultVar->Sem Value,acK a F->∃b:List Value,((((fn.results.toList.mapM F).run P w).andThen λa l=>Result.ok a.toArray l).andThen λa l=>(pure (if h:a.size=1 then a[0]else Value.tuple a):Sem Value).run P l)=.ok (if h:b.toArray.size=1 then b.toArray[0]else .tuple b.toArray) w/\b.length=d.length/\∀(i:Nat) (x y:Value),d[i]?=some x->b[i]?=some y->VR σ x y:=by
   intro F A;obtain⟨b,B,c⟩:=yU hrel A _ _ f;exact⟨b,by rw[B];rfl,c⟩
  exact k _ ⟨λ_=>rfl,λ_ _=>rfl⟩
 obtain⟨b,r,c,q⟩:=r;refine⟨_,r,?_⟩;split at h
 .cases h
  obtain⟨z,rfl⟩:∃z,b=[z]:=List.length_eq_one_iff.1 c;exact q 0 _ _ rfl rfl
 .rename_i m
  cases h;have C:¬b.toArray.size=1:=by
   simp only[List.size_toArray,c];intro e;obtain⟨u,rfl⟩:=List.length_eq_one_iff.1 e;exact m u rfl
  rw[dif_neg C];exact VR.tuple (by simp[c]) λi x y D H=>q i x y (by simpa using D) (by simpa using H)
def EX{P}{G}{f}{d}{c}(J:P.funcs[f]?=some d)(K:d.body=some c){a}{l}{e}{x}{v}
  (A:dM P n o G l.length c ⟨a++List.replicate (d.ntmps-a.length) undef,l⟩ e x) (L:e=.normal\/e=.ret) (i:(wB P d x).get=some v):dK P n o G f a l (v,x.lh):=by
 refine⟨⟨A.1.1,A.1.2⟩,λσ w r C h=> ?_⟩;have s:r.size=a.length:=by have:=h.1;grind
 refine calls_of_wp J K (wp_mono (A.2 σ {tmps:=r++Array.replicate (d.ntmps-r.size) undef,defers:=[]} w ⟨by simp[s],λt=> ?_,rfl,C⟩) λR D B N=> ?_)
 rotate_left
 .obtain⟨rfl,F,Q,hrel⟩:=N
  obtain⟨H,y,z⟩:=Km hrel d i;have O:Ext l.length σ F:=⟨λk p I=>by rw[Q k (C.dom k p I)];exact I,Q⟩;have b:D.defers=[]/\∃u,(results d D.tmps).run P B=.ok u B/\∃m,Ending.returned u=.returned m/\Good n o G σ l.length (v,x.lh) m B:=
   ⟨hrel.df,H,y,H,rfl,F,O,z,hrel.hr⟩
  rcases L with rfl|rfl
  .exact b
  .exact b
 .rw[b8,cX,Array.getElem?_append,ur,s]
  by_cases q:t<a.length
  .rw[if_pos q,if_pos q]
   have y:=List.getElem?_eq_getElem q;have z:r[t]?=some r[t]:=cj (by omega);rw[y,z];exact h.2 t _ _ (by simp[y]) z
  .rw[if_neg q,if_neg q]
   have:(List.replicate (d.ntmps-a.length) undef)[t-a.length]?.getD undef=undef:=by
    rw[mY];split<;>rfl
   rw[this];exact VR.any _
def tQ(E:Env)(n:Nat->Prop)(o:World)(b:Nat)(L:Dw)(c:Code):Prop:=
 ∀id F a,L id=some F->(id,a)∈iU c->∀s e d,b<=s.lh.length->(F s).get=some (e,d)->dM E.P n o E.G b (.block id a) s e d
def aie(E:Env)(n:Nat->Prop)(o:World)(x:Dw->Code->St->M (Exit×St)):Prop:=
 ∀L b c s e a,tQ E n o b L c->b<=s.lh.length->(x L c s).get=some (e,a)->dM E.P n o E.G b c s e a
def QJ(i:iA E n o){y}(C:aie E n o y):kF E.P n o E.G (Jz E y):=by
 intro f z l r h;unfold Jz at h;split at h
 .rename_i F d
  obtain⟨O,P⟩:=i.LU f F d;grind
 .split at h
  .cases h
  .rename_i e A
   have B:=beq_true (qS (p:=λe:FuncId×Func=>Nat.beq e.1 f) A);have m:=iv A;have a:=i.fns e m;rw[B]at a;split at h
   .cases h
   .rename_i c k
    obtain⟨⟨D,Q⟩,G,h⟩:=M.ay h;have L:tQ E n o l.length (Vy E f l.length) c:=by
     intro id F H d I s J q u K;unfold Vy at d;split at d
     .rename_i N w
      cases d;exact i.qQ f id N w e.2 c (by rw[<-B];exact m) k H I _ s J q u K
     .cases d
    have b:=C _ l.length _ _ _ _ L (Nat.le_refl _) G;refine⟨⟨_,a⟩,?_⟩;simp only at h;split at h
    .obtain⟨v,x,h⟩:=M.ay h
     cases h;exact EX a.1 k b (.inl rfl) x
    .obtain⟨v,x,h⟩:=M.ay h
     cases h;exact EX a.1 k b (.inr rfl) x
    .cases h
def ajW(n:Nat->Prop)(o:World)(G:Kj)(m:Nat)(σ:Nat->Option Pl)(e:Exit)(s:St):Exit->Act->World->Prop:=λb c w=>b=e/\∃a,sU m σ a/\Rel n o G a s c w
def fP(P:Program)(n:Nat->Prop)(o:World)(G:Kj)(c:Nat)(b:Code)(s:St)(e:Exit)(d:St):Prop:=
 lI c s.lh d.lh/\∃N,∀σ a w,Rel n o G σ s a w->Code.rounds P b (ajW n o G c σ e d) N a w
theorem ED{P}{b}{Q c}(h:∀e a w,Q e a w->c e a w):∀(N) (a) (w),Code.rounds P b Q N a w->Code.rounds P b c N a w
 |0,_,_,r=>r
 |N+1,a,w,r=>by
  refine wp_mono r λe d f q=> ?_;cases e with
  |normal=>exact ED h N d f q
  |_=>exact h _ _ _ q
variable{f:Nat}
def fP.runs{P}{G}{b}{s}{e}{c}(h:fP P n o G f b s e c):dM P n o G f (.loop b) s e c:=by
 obtain⟨d,N,i⟩:=h;exact⟨d,λσ a w hrel=>wp_loop_rounds N (i σ a w hrel)⟩
theorem fP.exit{P}{G}{b}{s}{e}{c}(h:dM P n o G f b s e c)(i:e≠.normal):fP P n o G f b s e c:=by
 refine⟨h.1,1,λσ a w hrel=> ?_⟩;refine wp_mono (h.2 σ a w hrel) λd k l q=> ?_;obtain⟨rfl,q⟩:=q;cases d with
 |normal=>grind
 |_=>exact⟨rfl,q⟩
theorem fP.step{P}{G}{b}{s d}{e}{i}(h:dM P n o G f b s .normal d)(k:fP P n o G f b d e i):fP P n o G f b s e i:=by
 obtain⟨p,N,q⟩:=k;refine⟨h.1.trans p,N+1,λσ a w hrel=> ?_⟩;refine wp_mono (h.2 σ a w hrel) λv l m r=> ?_;obtain⟨rfl,u,Q,V⟩:=r;exact ED (λe a w c=>⟨c.1,c.2.choose,Q.trans c.2.choose_spec.1,c.2.choose_spec.2⟩) N l m (q u l m V)
def dM.seq{P}{G}{x y}{s c}{e}{d}(h:dM P n o G f x s .normal c)(k:dM P n o G f y c e d):dM P n o G f (.seq x y) s e d:=by
 refine⟨h.1.trans k.1,λσ a w hrel=>wp_seq (wp_mono (h.2 σ a w hrel) λp i l q=> ?_)⟩;obtain⟨rfl,m,Q,V⟩:=q;exact wp_mono (k.2 m i l V) λe a w b=>⟨b.1,b.2.choose,Q.trans b.2.choose_spec.1,b.2.choose_spec.2⟩
def dM.aex{P}{G}{x y}{s}{e}{b}(h:dM P n o G f x s e b)(d:e≠.normal):dM P n o G f (.seq x y) s e b:=by
 refine⟨h.1,λσ a w hrel=>wp_seq (wp_mono (h.2 σ a w hrel) λc i k q=> ?_)⟩;obtain⟨rfl,q⟩:=q;cases c with
 |normal=>grind
 |_=>exact⟨rfl,q⟩
def dM.JB{P}{G}{id}{b}{s c}(h:dM P n o G f b s (.exit id) c):dM P n o G f (.block id b) s .normal c:=by
 refine⟨h.1,λσ a w hrel=>wp_block (wp_mono (h.2 σ a w hrel) λe d i q=> ?_)⟩;simp only[Exit.inBlock,if_true];grind
def dM.ME{P}{G}{id}{b}{s d}{e}(h:dM P n o G f b s e d)(k:e≠.exit id):dM P n o G f (.block id b) s e d:=by
 refine⟨h.1,λσ a w hrel=>wp_block (wp_mono (h.2 σ a w hrel) λl m p q=> ?_)⟩;obtain⟨rfl,q⟩:=q;cases l with
 |exit i=>
  have c:i≠id:=λe=>k (by rw[e]);simp only[Exit.inBlock,c,jj];grind
 |_=>exact⟨rfl,q⟩
def tQ.sub{L}{c d}(h:tQ E n o f L c)(s:∀p,p∈iU d->p∈iU c):tQ E n o f L d:=
 λid F b a m=>h id F b a (s _ m)
def IQ(J:iA E n o):∀(u),aie E n o (exec E u)/\∀L f b s e m,tQ E n o f L (.loop b)->f<=s.lh.length->(exec E u L (.loop b) s).get=some (e,m)->fP E.P n o E.G f b s e m:=by
 intro u;induction u with
 |zero=>exact⟨λL f c s e m _ _ h=>(by cases h),λL f b s e m _ _ h=>(by cases h)⟩
 |succ u V=>
  obtain⟨i,N⟩:=V;have Y:=QJ J i;have G:∀L f b s e m,tQ E n o f L (.loop b)->f<=s.lh.length->(exec E (u+1) L (.loop b) s).get=some (e,m)->fP E.P n o E.G f b s e m:=by
   intro L f b s e m v k h;simp only[exec]at h;obtain⟨⟨U,K⟩,A,d⟩:=M.ay h;have z:=i L f b _ _ _ (v.sub λp q=>q) k A;simp only at d;split at d
   .exact fP.step z (N L f _ _ _ _ v z.1.1 d)
   grind [M.ah,Option.some.injEq,Prod.mk.injEq,fP.exit]
  refine⟨λL f c s e m v k h=> ?_,G⟩;cases c with
  |skip=>
   simp only[exec,M.ah,cq,kB]at h;obtain⟨rfl,rfl⟩:=h;exact⟨lI.refl k,λσ a w hrel=>wp_skip ⟨rfl,σ,sU.refl _ _,hrel⟩⟩
  |region id O H=>
   cases H with
   |false=>
    simp only[exec]at h;obtain⟨K,A,d⟩:=M.ay h;simp only[M.ah,cq,kB]at d;obtain⟨rfl,rfl⟩:=d;obtain⟨P,Q⟩:=Ey J.eqs rfl Y O _ _ _ A;exact⟨P.SN k,λσ a w hrel=>wp_region (Q σ a w _ hrel λR W X S l=>⟨rfl,R,S.SN k,l⟩)⟩
   |true=>
    simp only[exec]at h;obtain⟨K,A,d⟩:=M.ay h;simp only[M.ah,cq,kB]at d;obtain⟨rfl,rfl⟩:=d;obtain⟨P,Q⟩:=Si (id:=id) J.eqs rfl J.mixed Y A;exact⟨P.SN k,λσ a w hrel=>Q σ a w _ hrel λR W X S l=>⟨rfl,R,S.SN k,l⟩⟩
  |seq x y=>
   simp only[exec]at h;obtain⟨⟨U,K⟩,A,d⟩:=M.ay h;have z:=i L f x _ _ _ (v.sub λp q=>List.mem_append_left _ q) k A;simp only at d;split at d
   .exact z.seq (i L f y _ _ _ (v.sub λp q=>pP _ q) z.1.1 d)
   .rename_i B
    simp only[M.ah,cq,kB]at d;obtain⟨rfl,rfl⟩:=d;exact z.aex λZ=>B Z
  |cond c x y=>
   simp only[exec]at h;split at h
   .rename_i b I
    rcases M.af h with⟨rfl,h⟩|⟨rfl,h⟩
    .have r:=i L f x _ _ _ (v.sub fun p q=>List.mem_append_left _ q) k h
     refine⟨r.1,λσ a w hrel=>wp_cond_true ?_ (r.2 σ a w hrel)⟩;have:=hrel.ev c;rw[I]at this;exact this.aD rfl
    .have r:=i L f y _ _ _ (v.sub fun p q=>pP _ q) k h
     refine⟨r.1,λσ a w hrel=>wp_cond_false ?_ (r.2 σ a w hrel)⟩;have:=hrel.ev c;rw[I]at this;exact this.aD rfl
   .cases h
  |block id b=>
   simp only[exec]at h;split at h
   .rename_i F hF
    exact v id F b hF cV s e m k h
   obtain⟨⟨U,K⟩,A,d⟩:=M.ay h;have z:=i L f b _ _ _ (v.sub λp q=>da _ q) k A;simp only at d;split at d
   .rename_i C
    by_cases D:C=id
    .subst D
     rw[ju]at d;obtain⟨rfl,rfl⟩:=d;exact z.JB
    .have T:Nat.beq C id=false:=by cases hx:Nat.beq C id;rfl;exact absurd (beq_true hx) D
     rw[T]at d;obtain⟨rfl,rfl⟩:=d;exact z.ME λe=>D (by cases e;rfl)
   .rename_i B
    obtain⟨rfl,rfl⟩:=d;exact z.ME λe=>B _ e
  |loop b=>exact(G L f b s e m v k h).runs
  |exit id=>
   obtain⟨rfl,rfl⟩:=h;exact⟨lI.refl k,λσ a w hrel=>wp_exit ⟨rfl,σ,sU.refl _ _,hrel⟩⟩
  |ret=>
   obtain⟨rfl,rfl⟩:=h;exact⟨lI.refl k,λσ a w hrel=>wp_ret ⟨rfl,σ,sU.refl _ _,hrel⟩⟩
  |_=>cases h
def Zn(b:iA E n o){u}{L}{c}{s}{e}{a}(d:tQ E n o f L c)(i:f<=s.lh.length)(h:(exec E u L c s).get=some (e,a)):dM E.P n o E.G f c s e a:=(IQ b u).1 L f c s e a d i h
def Vo:Dw:=λ_=>none
def FN(c):tQ E n o f Vo c:=λid F b h=>by cases h
def sO(h:iA E n o)(fuel):kF E.P n o E.G (call E fuel):=QJ h (IQ h fuel).1
end
def Ko(f:Nat->Option Nat)(k:Nat)(g:Nat->Value):Value:=
 match f k with
 |some j=>g j
 |none=>undef
def ren(f:Nat->Option Nat):Nat->Value->Value
 |0,_=>undef
 |d+1,v=>
  match v with
  | .bool b=>.bool b
  | .int k n=>.int k n
  | .string s=>.string s
  | .pointer none=>.pointer none
  | .pointer (some ⟨k,o,p⟩)=>Ko f k λj=>.pointer (some ⟨j,o,p⟩)
  | .slice none l c=>.slice none l c
  | .slice (some ⟨k,o,none⟩) l c=>Ko f k λj=>.slice (some ⟨j,o,none⟩) l c
  | .slice (some ⟨k,o,some 3⟩) l c=>.slice (some ⟨k,o,some 3⟩) l c
  | .slice (some ⟨k,o,some q⟩) l c=>Ko f k λj=>.slice (some ⟨j,o,some q⟩) l c
  | .map none=>.map none
  | .map (some k)=>Ko f k λj=>.map (some j)
  | .nilFunc=>.nilFunc
  | .nilIface=>.nilIface
  | .func (.func g) a c=>.func (.func g) (a.toList.map (ren f d)).toArray (c.toList.map (ren f d)).toArray
  | .agg a=>.agg (a.toList.map (ren f d)).toArray
  | .tuple a=>.tuple (a.toList.map (ren f d)).toArray
  | .chan (some 0)=>.chan (some 0)
  | .iface t v=>.iface t v
  |_=>undef
def Ren(f:Nat->Option Nat)(σ a:Nat->Option Pl):Prop:=∀k j p,f k=some j->σ k=some p->a j=some p
def qd{f}{k}{g}{a}{v}(h:∀j,f k=some j->VR a (g j) v):VR a (Ko f k g) v:=by
 unfold Ko;split
 .grind
 .exact .any _
def Cw{σ'}{a b:Array Value}{h}(s:a.size=b.size)(v:∀(i:Nat) (x y),a[i]?=some x->b[i]?=some y->VR σ' (h x) y):
  (a.toList.map h).toArray.size=b.size/\∀(i:Nat) (x y),(a.toList.map h).toArray[i]?=some x->b[i]?=some y->VR σ' x y:=by
 grind [Option.some.injEq]
theorem VR.renamed{f:Nat->Option Nat}{σ B:Nat->Option Pl}(o:Ren f σ B):∀(d:Nat) (v A:Value),VR σ v A->VR B (ren f d v) A
 |0,v,A,_=>.any _
 |d+1,v,A,h=>by
  cases h with
  |any=>exact .any _
  |skip=>exact .skip
  |bool b=>exact .bool b
  |int k n=>exact .int k n
  |string s=>exact .string s
  |wE=>exact .wE
  |ptr e=>exact qd λj m=>.ptr (o _ _ _ m e)
  |lD e=>exact qd λj m=>.lD (o _ _ _ m e)
  |kM l c=>exact .kM l c
  |slice e=>exact qd λj m=>.slice (o _ _ _ m e)
  |si e=>exact qd λj m=>.si (o _ _ _ m e)
  |vec e C=>exact qd λj m=>.vec (o _ _ _ m e) C
  |win e D=>exact qd λj m=>.win (o _ _ _ m e) D
  |word s F=>exact .word s F
  |zW W i=>exact .zW W i
  |empty a=>exact .empty a
  |wI=>exact .wI
  |Ao e=>exact qd λj m=>.Ao (o _ _ _ m e)
  |nilFunc=>exact .nilFunc
  |nilIface=>exact .nilIface
  |func g r E u G=>
   obtain⟨w,z⟩:=Cw (h:=ren f d) r λi x y p q=>VR.renamed o d x y (u i x y p q);obtain⟨H,I⟩:=Cw (h:=ren f d) E λi x y p q=>VR.renamed o d x y (G i x y p q);exact .func g w H z I
  |agg r u=>
   obtain⟨w,z⟩:=Cw (h:=ren f d) r λi x y p q=>VR.renamed o d x y (u i x y p q);exact .agg w z
  |tuple r u=>
   obtain⟨w,z⟩:=Cw (h:=ren f d) r λi x y p q=>VR.renamed o d x y (u i x y p q);exact .tuple w z
def qJ(f:Nat->Option Nat):ag->ag
 | .cells o w c=>.cells o w (c.map (ren f 4))
 | .ints o w l=>.ints o w l
 | .rows o w d n g=>.rows o w d n g
 | .jK o w l=>.jK o w (l.map λe=>(e.1,ren f 4 e.2))
 | .win o w r c=>.win o w r (c.map (ren f 4))
 | .abs w a=>.abs w a
 | .dead=>.dead
def lW(f)(b):(qJ f b).aM=b.aM:=by cases b<;>rfl
def lV(f)(b):(qJ f b).owned=b.owned:=by cases b<;>rfl
def jJ(f)(b):(qJ f b).alive=b.alive:=by cases b<;>rfl
def Kk(σ){a}{x:Gw}{v}(h:VR a x.val v):VR σ x.val v:=by
 have p:aN x.val=true:=by cases x<;>rfl
 rw[h.aD p];exact VR.aN σ p
def BR.renamed{n}{f}{σ A}{b}{p}{w}(B:Ren f σ A)(h:BR n σ b p w):BR n A (qJ f b) p w:=by
 refine⟨λC=>h.1 (by rwa[lV]at C),?_⟩;have o:=h.2;cases b with
 |cells z wr c=>
  intro i v d;simp only[cG]at d;cases m:c[i]? with
  |none=>grind
  |some u=>
   rw[m]at d;simp only[Option.map_some,cq]at d;subst d;obtain⟨s,x,y⟩:=o i u m;exact⟨s,x,y.renamed B 4 u s⟩
 |ints z wr l=>exact o
 |rows z wr N k g=>exact⟨o.1,λi j D E=>let⟨s,x,y⟩:=o.2 i j D E;⟨s,x,Kk A y⟩⟩
 |jK z wr l=>
  obtain⟨F,X,x,y,G⟩:=o;refine⟨F,X,x,by simpa using y,λi k v d=> ?_⟩;rw[cG]at d;cases m:l[i]? with
  |none=>rw[m]at d;cases d
  |some q=>
   obtain⟨H,I⟩:=q;rw[m]at d;obtain⟨rfl,rfl⟩:=d;obtain⟨e,J,K,L⟩:=G i H I m;exact⟨e,J,K,L.renamed B 4 _ _⟩
 |win z wr r c=>
  refine⟨by simpa using o.1,λi v d=> ?_,o.2.2⟩;simp only[cG]at d;cases m:c[i]? with
  |none=>rw[m]at d;cases d
  |some u=>
   rw[m]at d;simp only[Option.map_some,cq]at d;subst d;obtain⟨s,x,y⟩:=o.2.1 i u m;exact⟨s,x,y.renamed B 4 u s⟩
 |abs wr a=>exact o
 |dead=>trivial
def AA:Nat->Value->List Nat
 |0,_=>[]
 |d+1,v=>
  match v with
  | .pointer (some a)=>[a.block]
  | .map (some k)=>[k]
  | .slice (some ⟨k,_,none⟩) _ _=>[k]
  | .slice (some ⟨_,_,some 3⟩) _ _=>[]
  | .slice (some ⟨k,_,some _⟩) _ _=>[k]
  | .func _ a c=>(a.toList.flatMap (AA d))++(c.toList.flatMap (AA d))
  | .agg a=>a.toList.flatMap (AA d)
  | .tuple a=>a.toList.flatMap (AA d)
  |_=>[]
def ale:ag->List Nat
 | .cells _ _ c=>c.flatMap (AA 4)
 | .jK _ _ l=>l.flatMap λe=>AA 4 e.2
 | .win _ _ _ c=>c.flatMap (AA 4)
 |_=>[]
def Dn:List Nat->List Nat->List Nat
 |l,[]=>l
 |l,k::r=>cond (l.any (Nat.beq k)) (Dn l r) (Dn (l++[k]) r)
def QE(h:List ag):Nat->Nat->List Nat->List Nat
 |0,_,l=>l
 |n+1,i,l=>
  match l[i]? with
  |none=>l
  |some k=>QE h n (i+1) (Dn l (ale (h.getD k .dead)))
def posOf:List Nat->Nat->Nat->Option Nat
 |[],_,_=>none
 |x::r,i,k=>cond (Nat.beq x k) (some i) (posOf r (i+1) k)
theorem Ac:∀(l) (i k j),posOf l i k=some j->i<=j/\l[j-i]?=some k
 |[],i,k,j,h=>by cases h
 |x::r,i,k,j,h=>by
  unfold posOf at h;cases a:Nat.beq x k with
  |true=>
   simp_all
  |false=>
   rw[a]at h;obtain⟨b,c⟩:=Ac r (i+1) k j h;grind
def nodupB:List Nat->Bool
 |[]=>true
 |k::r=> !(r.any (Nat.beq k))&&nodupB r
theorem xI:∀(l),nodupB l=true->l.Nodup
 |[],_=>List.nodup_nil
 |k::r,h=>by
  simp only[nodupB,Bool.and_eq_true,eI,ua]at h;refine tP.2 ⟨λa=> ?_,xI r h.2⟩;exact h.1 k a (ju k)
def xH{l:List Nat}(h:l.Nodup){i j k:Nat}(a:l[i]?=some k)(b:l[j]?=some k):i=j:=by
 grind [List.getElem?_eq_some_iff,List.pairwise_iff_getElem,Nat.lt_trichotomy]
def pull(ρ:List Nat)(σ:Nat->Option Pl):Nat->Option Pl:=λj=>(ρ[j]?).bind σ
def dG{ρ}{σ}{j}{p}(h:pull ρ σ j=some p):∃k,ρ[j]?=some k/\σ k=some p:=by
 grind [pull]
def wD(ρ)(σ):Ren (posOf ρ 0) σ (pull ρ σ):=λk j p h a=>by
 obtain⟨_,b⟩:=Ac ρ 0 k j h;grind [pull]
def AO(m:Nat):Value->Bool
 | .pointer (some a)=>Nat.blt a.block m
 | .slice (some ⟨k,_,none⟩) _ _=>Nat.blt k m
 |v=>aN v
def Da(m:Nat):ag->Bool
 | .cells _ _ c=>c.all (AO m)
 | .jK _ _ l=>l.all λe=>AO m e.2
 | .win _ _ _ c=>c.all (AO m)
 |_=>true
def VR.AO{m}{σ b}{v c}(h:VR σ v c)(f:AO m v=true)(s:∀k,k<m->b k=σ k):VR b v c:=by
 unfold Sx.AO at f;split at f
 .have a:=kg f
  cases h with
  |ptr h=>exact .ptr ((s _ a).trans h)
  |lD h=>exact .lD ((s _ a).trans h)
 .have a:=kg f
  cases h with
  |slice h=>exact .slice ((s _ a).trans h)
 .rw[h.aD f]
  exact VR.aN _ f
def BR.fit{n}{m}{σ z}{b}{p}{w}(h:BR n σ b p w)(s:Da m b=true)(y:∀k,k<m->z k=σ k):BR n z b p w:=by
 refine⟨h.1,?_⟩;have d:=h.2;cases b with
 |cells x wr c=>
  intro i v f;obtain⟨u,o,q⟩:=d i v f;refine⟨u,o,q.AO ?_ y⟩;grind [Da]
 |ints x wr l=>exact d
 |rows x wr H k g=>exact⟨d.1,λi j A B=>let⟨u,o,q⟩:=d.2 i j A B;⟨u,o,Kk _ q⟩⟩
 |jK x wr l=>
  obtain⟨C,X,o,q,D⟩:=d;refine⟨C,X,o,q,λi k v f=> ?_⟩;obtain⟨e,E,F,G⟩:=D i k v f;refine⟨e,E,F,G.AO ?_ y⟩;unfold Da at s;rw[List.all_eq_true]at s;exact s (k,v) (du f)
 |win x wr r c=>
  refine⟨d.1,λi v f=> ?_,d.2.2⟩;obtain⟨u,o,q⟩:=d.2.1 i v f;refine⟨u,o,q.AO ?_ y⟩;unfold Da at s;rw[List.all_eq_true]at s;exact s v (du f)
 |abs wr a=>exact d
 |dead=>trivial
def Ck:List Nat->List Value->List Value->List Value
 |t::s,v::a,m=>Ck s a (m.set t v)
 |_,_,m=>m
def unpack(N:Nat)(k:List Nat)(v:List Value)(l:List ag):St:=⟨Ck k v (List.replicate N undef),l⟩
theorem Bo:∀(s) (a m),(Ck s a m).length=m.length
 |[],_,_=>rfl
 |_::_,[],_=>rfl
 |t::s,v::a,m=>by rw[Ck,Bo];simp
theorem LJ{σ}{a:Nat->Value}:∀(s) (c m),(∀(i t:Nat) (v),s[i]?=some t->c[i]?=some v->VR σ v (a t))->(∀t,VR σ (m.getD t undef) (a t))->∀t,VR σ ((Ck s c m).getD t undef) (a t)
 |[],_,_,_,h=>h
 |_::_,[],_,_,h=>h
 |t::s,v::c,m,d,h=>by
  refine LJ s c _ (λi b f k l=>d (i+1) b f k l) λb=> ?_;by_cases e:b=t
  .subst e
   by_cases n:b<m.length
   .rw[b8,List.getElem?_set_self n]
    exact d 0 b v rfl rfl
   grind
  grind
def yY(k:List Nat)(b:Nat)(s:St):List Nat:=
 QE s.lh 60 0 (Dn (List.range b) (k.flatMap λt=>AA 4 (s.tmps.getD t undef)))
def uu(a:Nat)(ρ:List Nat)(h:List ag)(k:Nat):ag:=
 match h.getD k .dead with
 | .cells o w c=>cond (Nat.blt k a&& !w) (.cells o w c) (.cells o w (c.map (ren (posOf ρ 0) 4)))
 | .jK o w l=>cond (Nat.blt k a&& !w) (.jK o w l) (.jK o w (l.map λe=>(e.1,ren (posOf ρ 0) 4 e.2)))
 | .win o w r c=>cond (Nat.blt k a&& !w) (.win o w r c) (.win o w r (c.map (ren (posOf ρ 0) 4)))
 |b=>b
def uq(base)(ρ)(lh)(k):uu base ρ lh k=cond (Nat.blt k base&& !(lh.getD k .dead).vo) (lh.getD k .dead) (qJ (posOf ρ 0) (lh.getD k .dead)):=by
 unfold uu;cases lh.getD k .dead with
 |cells o w c=>rfl
 |jK o w l=>rfl
 |win o w r c=>rfl
 |abs w a=>cases(Nat.blt k base&& !(ag.abs w a).vo)<;>rfl
 |ints o w l=>cases(Nat.blt k base&& !(ag.ints o w l).vo)<;>rfl
 |rows o w a b g=>cases(Nat.blt k base&& !(ag.rows o w a b g).vo)<;>rfl
 |dead=>cases(Nat.blt k base&& !ag.dead.vo)<;>rfl
def Kw(b:Nat)(ρ:List Nat)(l:List ag):Bool:=
 nodupB ρ&&(List.range b).all λj=>Nat.beq (ρ.getD j b) j&&(Da b (l.getD j .dead)||(l.getD j .dead).vo)
def xG(N:Nat)(k:List Nat)(b:Nat)(s:St):M (List Value×List ag):=
 cond (Nat.beq s.tmps.length N&&Kw b (yY k b s) s.lh)
  (.ret (k.map λt=>ren (posOf (yY k b s) 0) 4 (s.tmps.getD t undef),(yY k b s).map (uu b (yY k b s) s.lh))) .bad
section
variable{P:Program} {n:Nat->Prop} {w0:World} {G:Kj}
def xE{N}{e}{b}{s}{r}(h:(xG N e b s).get=some r)(Z:G.le b)(hb:b<=s.lh.length):
  lI b s.lh r.2/\∀σ a w,Rel n w0 G σ s a w->∃O,sU b σ O/\Rel n w0 G O (unpack N e r.1 r.2) a w:=by
 unfold xG at h;generalize yY e b s=ρ at h;cases f:Nat.beq s.tmps.length N&&Kw b ρ s.lh with
 |false=>rw[f]at h;cases h
 |true=>
  rw[f]at h;rw[Bool.and_eq_true]at f;obtain⟨A,f⟩:=f;have A:=beq_true A;simp only[pN,M.ah,cq]at h;subst h;simp only[Kw,Bool.and_eq_true,List.all_eq_true,List.mem_range]at f;obtain⟨m,u⟩:=f;have m:=xI ρ m;have z:∀j,j<b->ρ[j]?=some j:=λj Q=>by
   grind [beq_true]
  have x:b<=ρ.length:=by
   rcases lf b with V|V
   .omega
   .have:=(List.getElem?_eq_some_iff.1 (z (b-1) (by omega))).1;omega
  have d:∀j k,ρ[j]?=some k->(ρ.map (uu b ρ s.lh)).getD j .dead=uu b ρ s.lh k:=λj k c=>by
   rw[b8,cG,c];rfl
  have B:∀k,(uu b ρ s.lh k).owned=(s.lh.getD k .dead).owned:=λk=>by
   rw[uq];cases Nat.blt k b&& !(s.lh.getD k .dead).vo
   .exact lV _ _
   .rfl
  have C:∀k,(uu b ρ s.lh k).alive=(s.lh.getD k .dead).alive:=λk=>by
   rw[uq];cases Nat.blt k b&& !(s.lh.getD k .dead).vo
   .exact jJ _ _
   .rfl
  have D:∀k,(uu b ρ s.lh k).aM=(s.lh.getD k .dead).aM:=λk=>by
   rw[uq];cases Nat.blt k b&& !(s.lh.getD k .dead).vo
   .exact lW _ _
   .rfl
  refine⟨⟨by simpa using x,λk c E=> ?_⟩,λσ a w hrel=>⟨pull ρ σ,λk c=> ?_,?_⟩⟩
  .rw[d k k (z k c)]
   rw[uq];have:Nat.blt k b=true:=by simpa[ir]using c
   rw[this,E];rfl
  .unfold pull;rw[z k c];rfl
  .have W:∀k,k<b->pull ρ σ k=σ k:=fun k c=>by unfold pull;rw[z k c];rfl
   refine⟨by rw[unpack,Bo];simp[hrel.sz,A],λt=> ?_,hrel.df,?_⟩
   .refine LJ (a:=fun t=>a.tmps.getD t undef) e _ _ (fun i t v X R=> ?_) (fun t=> ?_) t
    .simp only[cG,X,Option.map_some,cq]at R
     subst R;exact(hrel.tm t).renamed (wD ρ σ) 4 _ _
    .rw[b8,mY]
     split<;>exact .any _
   .have H:=hrel.hr
    refine⟨H.hn,H.below,H.ab.pull (λk q=>ρ[k]?=some q) (λk p c=> ?_) (λk S q l o=>xH m l o),λk p c=> ?_,λk p c=> ?_,λk S p Y c F I J K=> ?_,λk p c=> ?_⟩
    .obtain⟨q,l,o⟩:=dG c
     refine⟨q,l,o,.inr ?_⟩;simp only[unpack];rw[d k q l,D]
    .obtain⟨q,l,_⟩:=dG c
     simp only[unpack,iz];exact(List.getElem?_eq_some_iff.1 l).1
    .obtain⟨q,_,o⟩:=dG c
     exact H.lt q p o
    .obtain⟨j,l,o⟩:=dG c
     obtain⟨T,y,L⟩:=dG F;simp only[unpack]at I J;rw[d k j l,B]at I;rw[d S T y,C]at J;have:=H.inj j T p Y o L I J K;subst this;exact xH m l y
    .obtain⟨j,l,o⟩:=dG c
     simp only[unpack];rw[d k j l];have U:=H.blk j p o;rw[uq];cases f:Nat.blt j b&& !(s.lh.getD j .dead).vo with
     |false=>exact U.renamed (wD ρ σ)
     |true=>
      rw[Bool.and_eq_true]at f;have Q:=kg f.1;have:=(u j Q).2;have E:(s.lh.getD j .dead).vo=false:=by simpa using f.2
      rw[E,Bool.or_false]at this;exact U.fit this W
def OU(E:Env)(f:Nat)(L:Dw)(N:Nat)(k:List Nat)(b:Nat)(c:Code)(s:St):M (Exit×List Value×List ag):=
 .bind (exec E f L c s) λr=>.bind (xG N k b r.2) λq=>.ret (r.1,q)
def dM.norm{b}{c}{s d}{e}{N}{k}{r}(h:dM P n w0 G b c s e d)(f:(xG N k b d).get=some r)(i:G.le b):dM P n w0 G b c s e (unpack N k r.1 r.2):=by
 obtain⟨l,m⟩:=xE f i h.1.1;refine⟨h.1.trans l,λσ a w hrel=>wp_mono (h.2 σ a w hrel) λz o p q=> ?_⟩;obtain⟨rfl,u,Q,v⟩:=q;obtain⟨B,x,y⟩:=m u o p v;exact⟨rfl,B,Q.trans x,y⟩
def dM.pre{b}{c}{s d}{e}{N}{k}{r}(f:(xG N k b s).get=some r)(i:G.le b)(l:b<=s.lh.length)(h:dM P n w0 G b c (unpack N k r.1 r.2) e d):dM P n w0 G b c s e d:=by
 obtain⟨m,o⟩:=xE f i l;refine⟨m.trans h.1,λσ a w hrel=> ?_⟩;obtain⟨p,q,u⟩:=o σ a w hrel;refine wp_mono (h.2 p a w u) λz A B v=> ?_;obtain⟨rfl,x,Q,y⟩:=v;exact⟨rfl,x,q.trans Q,y⟩
def zX{E}(a:iA E n w0){f}{L}{N}{k}{b}{c}{s}{e}{r}(d:tQ E n w0 b L c)(h:(OU E f L N k b c s).get=some (e,r))(i:E.G.le b)(l:b<=s.lh.length):
  dM E.P n w0 E.G b c s e (unpack N k r.1 r.2):=by
 obtain⟨⟨v,w⟩,m,o⟩:=M.ay h;obtain⟨q,p,u⟩:=M.ay o;obtain⟨rfl,rfl⟩:=u;exact(Zn a d l m).norm p i
def HR.other{σ}{l}{w}(h:HR n w0 G σ l w)(k)(blk)(s:blk.owned=true->(l.getD k .dead).owned=true)(u:blk.alive=true->(l.getD k .dead).alive=true)(v:∀p,σ k=some p->BR n σ (l.getD k .dead) p w->BR n σ blk p w)(H:blk.aM=none\/(l.getD k .dead).aM=blk.aM):
  HR n w0 G σ (l.set k blk) w:=by
 cases d:σ k with
 |some p=>exact h.re d blk s u (v p d (h.blk k p d)) H
 |none=>
  have f:∀i q,σ i=some q->i≠k:=λi q a e=>by grind
  have c:=λi q a=>aX l blk (f i q a);refine⟨h.hn,h.below,h.ab.id h.lt (Nat.le_refl _) (λ_ _=>.inl rfl) (λi q a=>.inr (.inl ⟨a,by rw[c i q a]⟩)),λi q a=>by simpa using h.dom i q a,h.lt,λi o q r a b F Q m=> ?_,λi q a=> ?_⟩
  .rw[c i q a]at F
   rw[c o r b]at Q;exact h.inj i o q r a b F Q m
  .rw[c i q a];exact h.blk i q a
def dM.rows{b}{c}{s}{e}{u}{l}(h:dM P n w0 G b c s e ⟨u,l⟩)(k){o}{f m}{R}(R')(d:l.getD k .dead=.rows o true f m R)(C:∀i j,i<m->j<f->(R.at i j).val=(R'.at i j).val)(D:b<=k):
  dM P n w0 G b c s e ⟨u,l.set k (.rows o true f m R')⟩:=by
 refine⟨⟨by simpa using h.1.1,λi q v=> ?_⟩,λσ a w hrel=>wp_mono (h.2 σ a w hrel) λE F H x=> ?_⟩
 .rw[aX _ _ (by omega:i≠k)];exact h.1.2 i q v
 .obtain⟨rfl,y,Q,r⟩:=x
  refine⟨rfl,y,Q,r.sz,r.tm,r.df,r.hr.other k _ (λz=>by rw[d];exact z) (λ_=>by rw[d];rfl) (λp I B=> ?_) ?_⟩
  .rw[d]at B
   refine⟨B.1,B.2.1,λi j q A=> ?_⟩;obtain⟨J,K,L⟩:=B.2.2 i j q A;grind
  .rw[d];exact .inr rfl
def Ik(N:Nat)(k A:List Nat)(F:List Value->List ag->M (Exit×List Value×List ag))(a:Nat)(b:Nat)(s:St):M (Exit×St):=
 cond (Nat.beq b a) (.bind (xG N k b s) λq=>.bind (F q.1 q.2) λr=>.ret (r.1,unpack N A r.2.1 r.2.2)) .bad
def abo{N}{k A}{F}{a b}{c}(i:G.le a)
  (r:∀v l e d V,(F v l).get=some (e,d,V)->a<=l.length->dM P n w0 G a c (unpack N k v l) e (unpack N A d V))
  {s} {e} {m} (o:b<=s.lh.length) (h:(Ik N k A F a b s).get=some (e,m)):dM P n w0 G b c s e m:=by
 unfold Ik at h;cases f:Nat.beq b a with
 |false=>rw[f]at h;cases h
 |true=>
  rw[f]at h;obtain rfl:=beq_true f;obtain⟨q,p,u⟩:=M.ay h;obtain⟨⟨y,z,B⟩,w,x⟩:=M.ay u;obtain⟨rfl,rfl⟩:=x;exact .pre p i o (r _ _ _ _ _ w (xE (n:=n) (w0:=w0) p i o).1.1)
end
def ag.mine(b:ag):Bool:=b.owned&&b.vo
def ag.weak:ag->ag
 | .cells _ _ c=>.cells false false c
 | .ints _ _ l=>.ints false false l
 | .rows _ _ w n g=>.rows false false w n g
 | .jK _ _ l=>.jK false false l
 | .win _ _ r c=>.win false false r c
 | .abs _ _=>.dead
 | .dead=>.dead
def uY(ρ:List Nat)(l:List ag)(k:Nat):ag:=
 cond (l.getD k .dead).mine (qJ (posOf ρ 0) (l.getD k .dead)) (qJ (posOf ρ 0) (l.getD k .dead)).weak
def yc(ρ:List Nat)(m:Nat)(j:Nat):Option Nat:=cond (Nat.blt j ρ.length) ρ[j]? (some (m+(j-ρ.length)))
def zF(ρ:List Nat)(l I:List ag)(k:Nat):ag:=
 match posOf ρ 0 k with
 |some j=>cond (l.getD k .dead).mine (qJ (yc ρ l.length) (I.getD j .dead)) (l.getD k .dead)
 |none=>l.getD k .dead
def ru(ρ:List Nat)(l I:List ag):List ag:=
 (List.range l.length).map (zF ρ l I)++(I.drop ρ.length).map (qJ (yc ρ l.length))
def H9(b:ag):Bool:=b.owned|| !b.alive
def o6(a:List Value)(l:List ag):List Nat:=QE l 60 0 (Dn [] (a.flatMap (AA 4)))
def IE(F:List Value->List ag->M (Value×List ag))(a:List Value)(l:List ag):M (Value×List ag):=
 cond (nodupB (o6 a l)&&(o6 a l).all fun k=>Nat.blt k l.length)
  (.bind (F (a.map (ren (posOf (o6 a l) 0) 4)) ((o6 a l).map (uY (o6 a l) l))) λr=>
   cond (Nat.ble (o6 a l).length r.2.length&&(r.2.drop (o6 a l).length).all H9)
    (.ret (ren (yc (o6 a l) l.length) 4 r.1,ru (o6 a l) l r.2)) .bad) .bad
theorem Ho:∀(l) (i j k:Nat),l[j]?=some k->∃q,posOf l i k=some q
 |[],i,j,k,h=>by cases h
 |x::r,i,j,k,h=>by
  unfold posOf;cases a:Nat.beq x k with
  |true=>exact⟨i,rfl⟩
  |false=>
   cases j with
   |zero=>grind [Nat.beq_refl]
   |succ j=>exact Ho r (i+1) j k (by simpa using h)
def zO(b:ag):b.weak.owned=false:=by cases b<;>rfl
def UA{b:ag}(h:b.weak.alive=true):b.alive=true:=by cases b<;>first|rfl|cases h
def aab(b:ag):b.weak.aM=none\/b.weak.aM=some none:=by cases b<;>first|exact .inl rfl|exact .inr rfl
def oU{b:ag}(h:b.owned=true):b.alive=true:=by cases b<;>first|rfl|cases h
def BR.weak{n}{σ}{b}{p}{w}(h:BR n σ b p w):BR n σ b.weak p w:=by
 refine⟨λo=> ?_,?_⟩
 .rw[zO]at o;cases o
 .have:=h.2
  cases b<;>first|exact this|trivial
def BR.sets{X Y}{σ}{b}{p}{w}(h:BR X σ b p w)(n:b.owned=true->¬Y p.b):BR Y σ b p w:=
 ⟨λo=>⟨n o,(h.1 o).2⟩,h.2⟩
def xZ(ρ)(lh Im)(k):(ru ρ lh Im).getD k .dead=if k<lh.length then zF ρ lh Im k else qJ (yc ρ lh.length) (Im.getD (ρ.length+(k-lh.length)) .dead):=by
 unfold ru;rw[b8,ur];simp only[iz,vc];split
 .grind
 .rw[cG,List.getElem?_drop,b8]
  cases Im[ρ.length+(k-lh.length)]?<;>rfl
def ab5{T:World->Prop}(hT:∀(X) w w',X 0->T w->Kept X w w'->T w'){P}{f}{F0}
  (h0:∀(X) (w0),X 0->eB X w0->T w0->∀B l r,(F0 B l).get=some r->dK P X w0 0 f B l r):
  ∀(X) (w0),X 0->eB X w0->T w0->∀B l r,(IE F0 B l).get=some r->dK P X w0 0 f B l r:=by
 intro X w0 dd hB Mt B l r h;unfold IE at h;generalize o6 B l=ρ at h;cases Z:nodupB ρ&&ρ.all λk=>Nat.blt k l.length with
 |false=>rw[Z]at h;cases h
 |true=>
 rw[Z]at h;rw[Bool.and_eq_true,List.all_eq_true]at Z;obtain⟨co,d5⟩:=Z;have co:=xI ρ co;have d5:∀j k,ρ[j]?=some k->k<l.length:=λj k d=>kg (d5 k (du d));obtain⟨Q,hF,h⟩:=M.ay h;cases Z:Nat.ble ρ.length Q.2.length&&(Q.2.drop ρ.length).all H9 with
 |false=>rw[Z]at h;cases h
 |true=>
 rw[Z]at h;rw[Bool.and_eq_true,List.all_eq_true]at Z;obtain⟨de,ac⟩:=Z;have de:=fo de;have ac:∀j,ρ.length<=j->(Q.2.getD j .dead).alive=true->(Q.2.getD j .dead).owned=true:=λj N K=>by
  by_cases d6:j<Q.2.length
  .have:=ac (Q.2.getD j .dead) (by
    rw[List.mem_iff_getElem?];exact⟨j-ρ.length,by rw[List.getElem?_drop,show ρ.length+(j-ρ.length)=j by omega,b8,List.getElem?_eq_getElem d6];rfl⟩)
   simp only[H9,K,Bool.not_true,Bool.or_false]at this;exact this
  .rw[b8,ez (by omega)]at K;cases K
 simp only[pN,M.ah,cq]at h;subst h
 have H:∀k j,posOf ρ 0 k=some j->ρ[j]?=some k:=λk j R=>by
  have:=(Ac ρ 0 k j R).2;simpa using this
 have am:∀k,k<l.length->(l.getD k .dead).mine=false->(ru ρ l Q.2).getD k .dead=l.getD k .dead:=λk d A=>by
  rw[xZ,if_pos d];unfold zF;split
  .rw[A];rfl
  .rfl
 refine⟨⟨by simp[ru],λk d hw=>am k d (by unfold ag.mine;rw[hw];simp)⟩,λσ w ao V ar=> ?_⟩
 let X':Nat->Prop:=λb=>b<w.heap.size/\∀(j k:Nat) (p:Pl),ρ[j]?=some k->(l.getD k .dead).mine=true->σ k=some p->p.b≠b
 have own:∀k,(l.getD k .dead).mine=true->(l.getD k .dead).owned=true:=λk d=>by
  unfold ag.mine at d;rw[Bool.and_eq_true]at d;exact d.1
 have ca:∀b,X b->X' b:=λb hb=>⟨Nat.lt_of_lt_of_le (hB b hb) V.below.size,λj k p _ A d e=>((V.blk k p d).1 (own k A)).1 (e▸hb)⟩;have bi:∀j k,ρ[j]?=some k->(ρ.map (uY ρ l)).getD j .dead=uY ρ l k:=λj k d=>by
  rw[b8,cG,d];rfl
 have fh:∀k,(uY ρ l k).owned=true->(l.getD k .dead).mine=true:=λk d=>by
  unfold uY at d;cases A:(l.getD k .dead).mine with
  |true=>rfl
  |false=>rw[A,oS,zO]at d;cases d
 have fi:∀k,(uY ρ l k).alive=true->(l.getD k .dead).alive=true:=λk hh=>by
  unfold uY at hh;cases A:(l.getD k .dead).mine
  .rw[A,oS]at hh
   have:=UA hh;rwa[jJ]at this
  .rw[A,pN,jJ]at hh;exact hh
 have dp:∀k,(uY ρ l k).aM=none\/(uY ρ l k).aM=some none:=λk=>by
  unfold uY;cases A:(l.getD k .dead).mine
  .exact aab _
  .rw[pN,lW];exact .inr (jd (own k A))
 have fl:HR X' w 0 (pull ρ σ) (ρ.map (uY ρ l)) w:=by
  refine⟨λk d=>d.1,Kept.refl _ _,⟨λ_ _=>False,λ_ _ h=>h.elim,λ_ _ _ h=>h.elim,λk p d=> ?_,λk u p W a a' d m K _ _=> ?_⟩,λk p d=> ?_,λk p d=> ?_,λk u p W d m G L C=> ?_,λk p d=> ?_⟩
  .obtain⟨k0,O,_⟩:=dG d
   rw[bi k k0 O];rcases dp k0 with e|e
   .rw[e];trivial
   .rw[e];exact λ_ h=>h
  .obtain⟨k0,O,_⟩:=dG d
   rw[bi k k0 O]at K;rcases dp k0 with e|e<;>(rw[e]at K;cases K)
  .obtain⟨k0,O,_⟩:=dG d
   simp only[iz];exact(List.getElem?_eq_some_iff.1 O).1
  .obtain⟨k0,_,h2⟩:=dG d
   exact V.lt k0 p h2
  .obtain⟨j,O,h2⟩:=dG d
   obtain⟨I,dt,fv⟩:=dG m;rw[bi k j O]at G;rw[bi u I dt]at L;have:=V.inj j I p W h2 fv (own j (fh j G)) (fi I L) C;subst this;exact xH co O dt
  .obtain⟨j,O,h2⟩:=dG d
   rw[bi k j O];have hb:=(V.blk j p h2).renamed (wD ρ σ);unfold uY;cases A:(l.getD j .dead).mine with
   |true=>exact hb.sets λ_ hx=>hx.2 k j p O A h2 rfl
   |false=>exact hb.weak.sets λG=>by rw[zO]at G;cases G
 have gt:dY (pull ρ σ) (B.map (ren (posOf ρ 0) 4)).toArray ao:=by
  obtain⟨O,h2⟩:=Cw (σ':=pull ρ σ) (h:=ren (posOf ρ 0) 4) ar.1 λi x y hx hy=>(ar.2 i x y hx hy).renamed (wD ρ σ) 4 x y;exact⟨O,h2⟩
 have gv:X' 0:=ca 0 dd;obtain⟨_,d7⟩:=h0 X' w gv (λk d=>d.1) (hT X w0 w dd Mt V.below) _ _ _ hF;refine(d7 (pull ρ σ) w ao fl gt).mono λe w' hh=> ?_;obtain⟨v',rfl,σ0,fQ,hv,v⟩:=hh;simp only[iz]at fQ;let σ':Nat->Option Pl:=λk=>if k<l.length then σ k else σ0 (ρ.length+(k-l.length))
 have s:∀k,k<l.length->σ' k=σ k:=λk d=>if_pos d;have J:∀k,l.length<=k->σ' k=σ0 (ρ.length+(k-l.length)):=λk d=>if_neg (by omega);have dv:Le σ σ':=λk p d=>by rw[s k (V.dom k p d)];exact d
 have AB:∀j k,ρ[j]?=some k->σ0 j=σ k:=λj k d=>by
  rw[fQ.2 j (List.getElem?_eq_some_iff.1 d).1];unfold pull;rw[d];rfl
 have d8:Ren (yc ρ l.length) σ0 σ':=λj k p N d=>by
  unfold yc at N;cases Z:Nat.blt j ρ.length with
  |true=>
   rw[Z,pN]at N;rw[s k (d5 j k N), <-AB j k N];exact d
  |false=>
   rw[Z,oS,cq]at N;have:ρ.length<=j:=by
    rcases Nat.lt_or_ge j ρ.length with hh|hh
    .rw[show Nat.blt j ρ.length=true by simpa[ir]using hh]at Z;cases Z
    .exact hh
   rw[J k (by omega),show ρ.length+(k-l.length)=j by omega];exact d
 have z:∀k,(∃j,posOf ρ 0 k=some j/\(l.getD k .dead).mine=true/\k<l.length)\/(k<l.length/\(ru ρ l Q.2).getD k .dead=l.getD k .dead/\∀j:Nat,ρ[j]?=some k->(l.getD k .dead).mine=false)\/l.length<=k:=by
  intro k;by_cases d:k<l.length
  .cases R:posOf ρ 0 k with
   |some j=>
    cases A:(l.getD k .dead).mine with
    |true=>exact .inl ⟨j,rfl,rfl,d⟩
    |false=>exact .inr (.inl ⟨d,am k d A,λ_ _=>rfl⟩)
   |none=>
    refine .inr (.inl ⟨d,?_,λj N=> ?_⟩)
    .rw[xZ,if_pos d];unfold zF;rw[R]
    .obtain⟨q,hq⟩:=Ho ρ 0 j k N
     rw[R]at hq;cases hq
  .exact .inr (.inr (by omega))
 have KW:∀k j,posOf ρ 0 k=some j->(l.getD k .dead).mine=true->k<l.length->(ru ρ l Q.2).getD k .dead=qJ (yc ρ l.length) (Q.2.getD j .dead):=λk j R A d=>by
  rw[xZ,if_pos d];unfold zF;rw[R];simp only[A,pN]
 have Gb:∀k,l.length<=k->(ru ρ l Q.2).getD k .dead=qJ (yc ρ l.length) (Q.2.getD (ρ.length+(k-l.length)) .dead):=λk d=>by
  rw[xZ,if_neg (by omega)]
 have cb:∀k p,k<l.length->(∀j:Nat,ρ[j]?=some k->(l.getD k .dead).mine=false)->(l.getD k .dead).alive=true->σ k=some p->X' p.b:=λk p d hn K hs=>by
  refine⟨V.lt k p hs,λj k1 p1 N A O e=> ?_⟩;have:=V.inj k1 k p1 p O hs (own k1 A) K e;subst this;rw[hn j N]at A;cases A
 have i4:iB X 0 σ' (ru ρ l Q.2) w':=by
  obtain⟨F,a1,a2,a3,a4⟩:=V.ab;have NK:∀k p,σ0 k=some p->(Q.2.getD k .dead).aM=none\/(Q.2.getD k .dead).aM=some none:=λk p d=>by
   obtain⟨F0,_,_,b3,_⟩:=v.ab;have:=b3 k p d;cases hx:(Q.2.getD k .dead).aM with
   |none=>exact .inl rfl
   |some o=>
    cases o with
    |none=>exact .inr rfl
    |some a=>rw[hx]at this;exact this.elim
  have dT:∀j,j<w.heap.size->¬X' j->∃k p,σ k=some p/\(l.getD k .dead).aM=some none/\p.b=j:=λj N hx=>by
   refine cv λhh=>hx ⟨N,λI k p O A h2 e=>hh ⟨k,p,h2,jd (own k A),e⟩⟩
  refine iB.to (lh:=l) (σ:=σ) ⟨F,a1,a2,a3,a4⟩ v.below.size (λj _ N=>.inl N) (λj N=> ?_) λk p d=> ?_
  .by_cases hx:X' j
   .exact .inl (v.below.block j hx)
   .exact .inr (dT j N hx)
  .rcases z k with⟨j,R,A,n⟩|⟨n,bm,ce⟩|n
   .rw[KW k j R A n,lW]
    rw[s k n]at d;have bv:σ0 j=some p:=(AB j k (H k j R)).trans d;rcases NK j p bv with e|e
    .exact .inl e
    .rw[e]
     exact .inr (.inl ⟨k,p,d,rfl,jd (own k A),λ_ _ _ _ _ _ K=>by cases K⟩)
   .rw[bm]
    rw[s k n]at d;refine .inr (.inl ⟨k,p,d,rfl,rfl,λu W a a' m eb K S=> ?_⟩);rcases z u with⟨I,D,Y,c⟩|⟨c,E,U⟩|c
    .rw[KW u I D Y c,lW]at S
     rw[s u c]at m;rcases NK I W ((AB I u (H u I D)).trans m)with e|e<;>(rw[e]at S;cases S)
    .rw[E]at S
     rw[s u c]at m;exact a4 u k W p a' a m d S K eb
    .rw[Gb u c,lW]at S
     rw[J u c]at m;rcases NK _ W m with e|e<;>(rw[e]at S;cases S)
   .rw[Gb k n,lW]
    rw[J k n]at d;rcases NK _ p d with e|e
    .exact .inl e
    .rw[e]
     have i5:=ac (ρ.length+(k-l.length)) (by omega) (Dm.2 (by rw[e];simp));have i6:=((v.blk _ p d).1 i5).1;by_cases hs:w.heap.size<=p.b
     .exact .inr (.inr ⟨hs,rfl⟩)
     .obtain⟨k0,p0,O,h2,h3⟩:=dT p.b (by omega) i6
      exact .inr (.inl ⟨k0,p0,O,h3,h2,λ_ _ _ _ _ _ K=>by cases K⟩)
 refine⟨v',rfl,σ',⟨dv,λk d=>s k d⟩,hv.renamed d8 4 _ _,V.hn,V.below.trans (v.below.mono ca),i4,λk p d=> ?_,λk p d=> ?_,λk u p W d m G L C=> ?_,λk p d=> ?_⟩
 .by_cases n:k<l.length
  .simp[ru];omega
  .rw[J k (by omega)]at d
   have:=v.dom _ _ d;simp[ru];omega
 .by_cases n:k<l.length
  .rw[s k n]at d
   exact Nat.lt_of_lt_of_le (V.lt k p d) v.below.size
  .rw[J k (by omega)]at d
   exact v.lt _ _ d
 ·
  have Vk:∀j p,σ0 j=some p->(Q.2.getD j .dead).owned=true->¬X' p.b:=λj p N i7=>((v.blk j p N).1 i7).1;rcases z k with⟨j,R,A,n⟩|⟨n,bm,ce⟩|n
  .rw[KW k j R A n,lV]at G
   rw[s k n]at d;have bv:σ0 j=some p:=(AB j k (H k j R)).trans d;rcases z u with⟨I,D,Y,c⟩|⟨c,E,U⟩|c
   .rw[KW u I D Y c,jJ]at L
    rw[s u c]at m;have:=v.inj j I p W bv ((AB I u (H u I D)).trans m) G L C;subst this;have e1:=H k j R;rw[H u j D]at e1;exact(b9 e1).symm
   .rw[E]at L
    rw[s u c]at m;exact absurd (C▸cb u W c U L m) (Vk j p bv G)
   .rw[Gb u c,jJ]at L
    rw[J u c]at m;have:=v.inj j _ p W bv m G L C;have d6:=(List.getElem?_eq_some_iff.1 (H k j R)).1;omega
  .rw[bm]at G
   rw[s k n]at d;have d9:=cb k p n ce (oU G) d;rcases z u with⟨I,D,Y,c⟩|⟨c,E,U⟩|c
   .rw[s u c]at m
    exact(V.inj u k W p m d (own u Y) (oU G) C.symm).symm
   .rw[E]at L
    rw[s u c]at m;exact V.inj k u p W d m G L C
   .rw[Gb u c,jJ]at L
    rw[J u c]at m;exact absurd (C▸d9) (Vk _ W m (ac _ (by omega) L))
  .rw[Gb k n,lV]at G
   rw[J k n]at d;rcases z u with⟨I,D,Y,c⟩|⟨c,E,U⟩|c
   .rw[KW u I D Y c,jJ]at L
    rw[s u c]at m;have:=v.inj _ I p W d ((AB I u (H u I D)).trans m) G L C;have d6:=(List.getElem?_eq_some_iff.1 (H u I D)).1;omega
   .rw[E]at L
    rw[s u c]at m;exact absurd (C▸cb u W c U L m) (Vk _ p d G)
   .rw[Gb u c,jJ]at L
    rw[J u c]at m;have:=v.inj _ _ p W d m G L C;omega
 .rcases z k with⟨j,R,A,n⟩|⟨n,bm,ce⟩|n
  .rw[KW k j R A n]
   rw[s k n]at d;have hb:=(v.blk j p ((AB j k (H k j R)).trans d));exact(hb.renamed d8).sets λG hx=>(hb.1 (by rwa[lV]at G)).1 (ca _ hx)
  .rw[bm]
   rw[s k n]at d;cases K:(l.getD k .dead).alive with
   |false=>
    cases hd:l.getD k .dead with
    |dead=>exact⟨λe=>(by cases e),trivial⟩
    |_=>rw[hd]at K;cases K
   |true=>
    have d9:=cb k p n ce K d;have eh:=v.below.block p.b d9;exact(V.blk k p d).mono dv eh
  .rw[Gb k n]
   rw[J k n]at d;have hb:=v.blk _ p d;exact(hb.renamed d8).sets λG hx=>(hb.1 (by rwa[lV]at G)).1 (ca _ hx)
abbrev bZ:=List Value->List ag->M (Value×List ag)
def DX(l:List (FuncId×bZ))(f:FuncId):Option bZ:=
 match l.find? λe=>Nat.beq e.1 f with
 |some e=>some e.2
 |none=>none
def D5(l:List (FuncId×Nat×(Nat->St->M (Exit×St))))(f:FuncId)(id:Nat):Option (Nat->St->M (Exit×St)):=
 match l.find? λe=>Nat.beq e.1 f&&Nat.beq e.2.1 id with
 |some e=>some e.2.2
 |none=>none
def jL{P}{l:List (FuncId×Func)}(h:l=[]):∀e∈l,iL P e.1 e.2:=by grind
def R9{P}{f}{n}{l}(a:iL P f n)(h:∀e∈l,iL P e.1 e.2):∀e∈(f,n)::l,iL P e.1 e.2:=by
 grind
def fk{P:Program}{f:FuncId}{n:Func}{l:List (FuncId×Func)}(c:P.funcs[f]?=some n)(h:∀e∈l,iL P e.1 e.2)(a:(n.name== "runtime.NumGoroutine")=false:=by kernel_rfl)(b:n.body.isSome=true:=by kernel_rfl):∀e∈(f,n)::l,iL P e.1 e.2:=R9 ⟨c,a,b⟩ h
def Sound(P:Program)(T:World->Prop)(f:FuncId)(F:bZ):Prop:=
 (∃n,iL P f n)/\∀(X:Nat->Prop) (w:World),X 0->eB X w->T w->∀a l r,(F a l).get=some r->dK P X w 0 f a l r
def Sound.frame{P}{T}(b:∀(X) w a,X 0->T w->Kept X w a->T a){f}{F}(h:Sound P T f F):Sound P T f (IE F):=⟨h.1,ab5 b h.2⟩
def lH(P:Program)(T:World->Prop)(l:List (FuncId×bZ)):Prop:=∀e∈l,Sound P T e.1 e.2
def jI{P}{T}:lH P T []:=λe h=>by cases h
def bL{P}{T}{f}{F}{l}(b:Sound P T f F)(h:lH P T l):lH P T ((f,F)::l):=by
 intro e a;rcases List.mem_cons.1 a with rfl|a
 .exact b
 .exact h e a
def Nf{P}{T}{l b}(c:lH P T l)(h:lH P T b):lH P T (l++b):=by
 intro e a;rcases List.mem_append.1 a with a|a
 .exact c e a
 .exact h e a
def aba{P}{T}{l}(h:lH P T l){X}{w}(i:X 0)(B:eB X w)(k:T w):
  ∀f F,DX l f=some F->(∃n,iL P f n)/\∀a c r,(F a c).get=some r->dK P X w 0 f a c r:=by
 intro f F b;unfold DX at b;split at b
 .rename_i e d
  cases b;have m:=h e (iv d);rw[beq_true (qS (p:=λe:FuncId×bZ=>Nat.beq e.1 f) d)]at m;exact⟨m.1,m.2 X w i B k⟩
 .cases b
def vT(P:Program)(T:World->Prop)(f:FuncId)(id:Nat)(F:Nat->St->M (Exit×St)):Prop:=
 ∃n c,P.funcs[f]?=some n/\n.body=some c/\(sF id c).isSome=true/\∀(X:Nat->Prop) (w:World),X 0->eB X w->T w->∀b s e a,b<=s.lh.length->(F b s).get=some (e,a)->dM P X w 0 b (.block id (xY id c)) s e a
def wX(P:Program)(T:World->Prop)(l:List (FuncId×Nat×(Nat->St->M (Exit×St)))):Prop:=∀e∈l,vT P T e.1 e.2.1 e.2.2
def iO{P}{T}:wX P T []:=λe h=>by cases h
def Nk{P}{T}{f}{id}{F}{l}(b:vT P T f id F)(h:wX P T l):wX P T ((f,id,F)::l):=by
 intro e a;rcases List.mem_cons.1 a with rfl|a
 .exact b
 .exact h e a
def abm{P}{T}{l}(h:wX P T l){X}{w}(k:X 0)(B:eB X w)(m:T w):
  ∀f id F,D5 l f id=some F->∃n c,P.funcs[f]?=some n/\n.body=some c/\(sF id c).isSome=true/\∀b s e d,b<=s.lh.length->(F b s).get=some (e,d)->dM P X w 0 b (.block id (xY id c)) s e d:=by
 intro f id F a;unfold D5 at a;split at a
 .rename_i e i
  cases a;obtain⟨n,c,o,p,q,r⟩:=h e (iv i);grind [beq_true]
 .cases a
def tH(P:Program)(f:List (FuncId×Func))(e:List (TypeId×List Bool))(A:List (FuncId×bZ))(q:List (FuncId×Nat×(Nat->St->M (Exit×St)))):Env:=
 {P:=P,G:=0,fns:=f,eqs:=e,LU:=DX A,qQ:=D5 q}
def l5{P:Program}{T:World->Prop}{n:List (FuncId×Func)}{q:List (TypeId×List Bool)}{A:List (FuncId×bZ)}{Q:List (FuncId×Nat×(Nat->St->M (Exit×St)))}
  (p:∀e∈q,pU P e.1 e.2=true) (r:P.follows .mixedOrders=true) (i:∀e∈n,iL P e.1 e.2) (u:lH P T A) (v:wX P T Q) {X:Nat->Prop} {w:World} (k:X 0) (B:eB X w) (l:T w):
  iA (tH P n q A Q) X w where
 eqs:=p
 mixed:=r
 fns:=i
 LU:=aba u k B l
 qQ:=by
  intro f id F x I c h m J a b s e y d z;obtain⟨C,K,D,E,G,H⟩:=abm v k B l f id F x;have o:=(i _ h).1;rw[D]at o;cases o;rw[E]at m;cases m;rw[Hy G a];exact H b s e y d z
def vT.aeO{P:Program}{T:World->Prop}{f:FuncId}{n:Func}{c:Code}{id:Nat}{N b:Nat}{k A:List Nat}{F:List Value->List ag->M (Exit×List Value×List ag)}
  (m:P.funcs[f]?=some n) (o:n.body=some c) (p:(sF id c).isSome=true)
  (h:∀(X:Nat->Prop) (w:World),X 0->eB X w->T w->∀v l e a V,(F v l).get=some (e,a,V)->b<=l.length->dM P X w 0 b (.block id (xY id c)) (unpack N k v l) e (unpack N A a V)):
  vT P T f id (Ik N k A F b):=
 ⟨n,c,m,o,p,λX w q B r i s e x d u=>abo (Nat.zero_le _) (h X w q B r) d u⟩
noncomputable def sure(P:Prop):Bool:= @decide P (Classical.propDecidable P)
def jv{P:Prop}:sure P=true↔P:=by
 grind [sure]
theorem jh{P:Prop}(h:P):sure P=true:=jv.2 h
def iR(E:Env)(u:Nat)(f:FuncId)(a:List Value)(l:List ag):M (Value×List ag):=
 .bind (call E u f a l) λr=>.bind (xG 1 [0] l.length ⟨[r.1],r.2⟩) λq=>match q.1 with
  |[v]=>.ret (v,q.2)
  |_=>.bad
theorem A8{E:Env}{X:Nat->Prop}{n:World}(z:iA E X n)(O:E.G=0){u:Nat}{f:FuncId}{a:List Value}{l:List ag}{r:Value×List ag}(h:(iR E u f a l).get=some r):dK E.P X n E.G f a l r:=by
 obtain⟨A,B,h⟩:=M.ay h;obtain⟨q,C,h⟩:=M.ay h;split at h
 .rename_i v D
  cases h;obtain⟨_,o,F⟩:=sO z u f a l A B;obtain⟨G,H⟩:=xE C (by exact Nat.zero_le _) o.1;have d:=(o.SN (Nat.le_refl _)).trans G;refine⟨⟨d.1,d.2⟩,λσ w c s I=>(F σ w c s I).mono λe J K=> ?_⟩;obtain⟨x,rfl,L,Q,S,m⟩:=K
  obtain⟨N,y,hrel⟩:=H L {tmps:= #[x],defers:=[]} J ⟨rfl,λt=>by
   cases t with
   |zero=>exact S
   |succ t=>exact .any _,rfl,m⟩
  refine⟨x,rfl,N,⟨λk p b=> ?_,λk b=>(y k b).trans (Q.2 k b)⟩,?_,hrel.hr⟩
  .have i:=s.dom k p b
   rw[y k i,Q.2 k i];exact b
  .have:=hrel.tm 0
   rw[D]at this;exact this
 .cases h
def Sound.of_run{P:Program}{T:World->Prop}{f:FuncId}{n:Func}(b:iL P f n){F:bZ}{E:Env}(c:E.P=P)(G:E.G=0)(d:∀(X:Nat->Prop) (w:World),X 0->eB X w->T w->iA E X w)(u:Nat)
  (h:∀a l r,(F a l).get=some r->(iR E u f a l).get=some r):Sound P T f F:=by
 refine⟨⟨n,b⟩,λX w e B i a l r k=> ?_⟩;grind [A8]
def JJ(K:Nat->Prop)(P:Program)(T:World->Prop)(f:FuncId)(F:bZ):Prop:=
 (∃n,iL P f n)/\∀(X:Nat->Prop) (w:World),(∀k,K k->X k)->eB X w->T w->∀a l r,(F a l).get=some r->dK P X w 0 f a l r
def Sound.toG{K}{P}{T b}{f}{F}(d:K 0)(e:∀w,b w->T w)(h:Sound P T f F):JJ K P b f F:=⟨h.1,λX c i B a=>h.2 X c (i 0 d) B (e c a)⟩
