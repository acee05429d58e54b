/- Group CaG: laws of the proof, joined. No condition of its own. -/
import Derived.Test.YteaflphddciglaaGreatDoorCaF
import Derived.LoopN
set_option linter.unusedVariables false
set_option linter.unusedSimpArgs false
namespace Go.Sx
open Go Go.RowKit
def sU(b:Nat)(σ σ':Nat->Option Pl):Prop:=∀k,k<b->σ' k=σ k
theorem sU.refl(b:Nat)(σ:Nat->Option Pl):sU b σ σ:=fun _ _=>rfl
theorem sU.trans{b:Nat}{σ σ' Bw:Nat->Option Pl}(h:sU b σ σ')(k:sU b σ' Bw):sU b σ Bw:=fun i hi=>(k i hi).trans (h i hi)
theorem Ext.SN{b m:Nat}{σ σ':Nat->Option Pl}(h:Ext m σ σ')(hb:b<=m):sU b σ σ':=fun k hk=>h.2 k (Nat.lt_of_lt_of_le hk hb)
def lI(b:Nat)(lh bV:List ag):Prop:=b<=bV.length/\∀k,k<b->(lh.getD k .dead).vo=false->bV.getD k .dead=lh.getD k .dead
theorem lI.refl{b:Nat}{lh:List ag}(h:b<=lh.length):lI b lh lh:=⟨h,fun _ _ _=>rfl⟩
theorem lI.trans{b:Nat}{x y z:List ag}(h:lI b x y)(k:lI b y z):lI b x z:=
 ⟨k.1,fun i hi hw=>by
  have e:=h.2 i hi hw;rw[<-e];exact k.2 i hi (by rw[e];exact hw)⟩
theorem bu.SN{b:Nat}{lh bV:List ag}(h:bu lh bV)(hb:b<=lh.length):lI b lh bV:=⟨Nat.le_trans hb h.1,fun k hk hw=>h.2 k (Nat.lt_of_lt_of_le hk hb) hw⟩
def dM(P:Program)(n:Nat->Prop)(w0:World)(G:Kj)(b:Nat)(c:Code)(s:St)(e:Exit)(s':St):Prop:=
 lI b s.lh s'.lh/\∀σ a w,Rel n w0 G σ s a w->c.wp P (fun e' a' w'=>e'=e/\∃σ',sU b σ σ'/\Rel n w0 G σ' s' a' w') a w
structure iA(E:Env)(n:Nat->Prop)(w0:World):Prop where
 eqs:vN E
 mixed:E.P.follows .mixedOrders=true
 fns:∀e∈E.fns,iL E.P e.1 e.2
 LU:∀f F,E.LU f=some F->(∃fn,iL E.P f fn)/\∀args lh r,(F args lh).get=some r->dK E.P n w0 E.G f args lh r
 qQ:∀f id F,E.qQ f id=some F->∀fn c,(f,fn)∈E.fns->fn.body=some c->∀b',(id,b')∈iU c->∀base s e s',base<=s.lh.length->(F base s).get=some (e,s')->dM E.P n w0 E.G base (.block id b') s e s'
theorem Hy{id:Nat}{c b':Code}(h:(sF id c).isSome=true)(hm:(id,b')∈iU c):b'=xY id c:=by
 unfold xY;unfold sF at h ⊢;have hf:(id,b')∈(iU c).filter fun p=>Nat.beq p.1 id:=List.mem_filter.2 ⟨hm,Nat.beq_refl id⟩
 generalize (iU c).filter (fun p=>Nat.beq p.1 id)=l at h hf
 match l,h,hf with
 |[p],_,hf=>
  rw[List.mem_singleton]at hf;subst hf;rfl
section
variable{n:Nat->Prop} {w0:World} {E:Env}
theorem YO{P:Program}{t:TypeId}{a a' v:Value}{lh:List ag}{σ:Nat->Option Pl}(ha:VR σ a a')(h:(vK P t a lh).get=some v):∃ad,a'=.pointer (some ad):=by
 unfold vK at h;split at h
 ·obtain⟨p,_,rfl⟩:=ha.gL;exact⟨_,rfl⟩
 ·obtain⟨p,_,rfl⟩:=ha.qL;exact⟨_,rfl⟩
 ·obtain⟨p,_,rfl⟩:=ha.gL;exact⟨_,rfl⟩
 ·obtain⟨p,_,rfl⟩:=ha.qL;exact⟨_,rfl⟩
 ·cases h
def acK(a:Act)(g:ResultVar->Sem Value):Prop:=(∀t,g (.tmp t)=pure (a.tmps.getD t undef))/\∀ad t,g (.cell ad t)=(do loadVar t (<-asAddr (a.tmps.getD ad undef)))
theorem Ng{P:Program}{G:Kj}{σ:Nat->Option Pl}{s:St}{a:Act}{w:World}(hrel:Rel n w0 G σ s a w){g:ResultVar->Sem Value}(hg:acK a g)(rv:ResultVar){v:Value}(h:(DT P s rv).get=some v):
  ∃v',(g rv).run P w=.ok v' w/\VR σ v v':=by
 cases rv with
 |tmp t=>
  simp only[DT,M.ah,Option.some.injEq]at h;subst h;rw[hg.1];exact⟨_,rfl,hrel.tm t⟩
 |cell ad t=>
  simp only[DT]at h;obtain⟨q,hq⟩:=YO (hrel.tm ad) h;obtain⟨v',h1,h2⟩:=EL hrel.hr (hrel.tm ad) h;refine⟨v',?_,h2⟩;rw[hq]at h1;rw[hg.2,hq];simpa[Instr.loadAt,Instr.sureAddr,asAddr]using h1
theorem yU{P:Program}{G:Kj}{σ:Nat->Option Pl}{s:St}{a:Act}{w:World}(hrel:Rel n w0 G σ s a w){g:ResultVar->Sem Value}(hg:acK a g):∀(l:List ResultVar) (vs:List Value),(wC P s l).get=some vs->
  ∃vs':List Value,(l.mapM g).run P w=.ok vs' w/\vs'.length=vs.length/\∀(i:Nat) (x y:Value),vs[i]?=some x->vs'[i]?=some y->VR σ x y
 |[],vs,h=>by
  simp only[wC,M.ah,Option.some.injEq]at h;subst h;exact⟨[],rfl,rfl,fun i x y hx=>by simp at hx⟩
 |r::rs,vs,h=>by
  simp only[wC]at h;obtain⟨v,hv,h⟩:=M.ay h;obtain⟨us,hus,h⟩:=M.ay h;simp only[M.ah,Option.some.injEq]at h;subst h;obtain⟨v',h1,h2⟩:=Ng hrel hg r hv;obtain⟨us',h3,h4,h5⟩:=yU hrel hg rs us hus;refine⟨v'::us',?_,by simp[h4],fun i x y hx hy=> ?_⟩
  ·rw[List.mapM_cons,Sem.run_bind,h1,Result.andThen_ok,Sem.run_bind,h3];rfl
  ·cases i with
   |zero=>simp at hx hy;subst hx hy;exact h2
   |succ i=>exact h5 i x y (by simpa using hx) (by simpa using hy)
theorem Km{P:Program}{G:Kj}{σ:Nat->Option Pl}{s:St}{a:Act}{w:World}(hrel:Rel n w0 G σ s a w)(fn:Func){v:Value}(h:(wB P fn s).get=some v):
  ∃v',(results fn a.tmps).run P w=.ok v' w/\VR σ v v':=by
 unfold wB at h;obtain⟨vs,hvs,h⟩:=M.ay h
 have hrun:∃vs':List Value,(results fn a.tmps).run P w=.ok (if h:vs'.toArray.size=1 then vs'.toArray[0]else .tuple vs'.toArray) w/\vs'.length=vs.length/\∀(i:Nat) (x y:Value),vs[i]?=some x->vs'[i]?=some y->VR σ x y:=by
  unfold results;rw[Array.mapM_eq_mapM_toList];simp only[Sem.run_bind,Sem.run_map]
  have key:∀F:ResultVar->Sem Value,acK a F->∃vs':List Value,((((fn.results.toList.mapM F).run P w).andThen fun a w'=>Result.ok a.toArray w').andThen fun a w'=>(pure (if h:a.size=1 then a[0]else Value.tuple a):Sem Value).run P w')=.ok (if h:vs'.toArray.size=1 then vs'.toArray[0]else .tuple vs'.toArray) w/\vs'.length=vs.length/\∀(i:Nat) (x y:Value),vs[i]?=some x->vs'[i]?=some y->VR σ x y:=by
   intro F hF;obtain⟨vs',h1,h2⟩:=yU hrel hF _ _ hvs;exact⟨vs',by rw[h1];rfl,h2⟩
  exact key _ ⟨fun _=>rfl,fun _ _=>rfl⟩
 obtain⟨vs',hrun,h2,h3⟩:=hrun;refine⟨_,hrun,?_⟩;split at h
 ·rename_i u
  simp only[M.ah,Option.some.injEq]at h;subst h;obtain⟨u',rfl⟩:∃u',vs'=[u']:=List.length_eq_one_iff.1 h2;simp only[List.size_toArray,List.length_cons,List.length_nil,Nat.zero_add,dite_true];exact h3 0 _ _ rfl rfl
 ·rename_i hne
  simp only[M.ah,Option.some.injEq]at h;subst h
  have hl:¬vs'.toArray.size=1:=by
   simp only[List.size_toArray,h2];intro e;obtain⟨u,rfl⟩:=List.length_eq_one_iff.1 e;exact hne u rfl
  rw[dif_neg hl];exact VR.tuple (by simp[h2]) fun i x y hx hy=>h3 i x y (by simpa using hx) (by simpa using hy)
theorem EX{P:Program}{G:Kj}{f:FuncId}{fn:Func}{c:Code}(hf:P.funcs[f]?=some fn)(hb:fn.body=some c){args:List Value}{lh:List ag}{e:Exit}{s':St}{v:Value}
  (hr:dM P n w0 G lh.length c ⟨args++List.replicate (fn.ntmps-args.length) undef,lh⟩ e s') (he:e=.normal\/e=.ret) (hres:(wB P fn s').get=some v):dK P n w0 G f args lh (v,s'.lh):=by
 refine⟨⟨hr.1.1,hr.1.2⟩,fun σ w args' CW hargs=> ?_⟩
 have hsz:args'.size=args.length:=by have:=hargs.1;simp at this;omega
 refine calls_of_wp hf hb (wp_mono (hr.2 σ {tmps:=args'++Array.replicate (fn.ntmps-args'.size) undef,defers:=[]} w ⟨by simp[hsz],fun t=> ?_,rfl,CW⟩) fun e' a' w' hq=> ?_)
 rotate_left
 ·obtain⟨rfl,σ',fQ,hrel⟩:=hq
  obtain⟨v',h1,h2⟩:=Km hrel fn hres;have hE:Ext lh.length σ σ':=⟨fun k p hk=>by rw[fQ k (CW.dom k p hk)];exact hk,fQ⟩
  have hpost:a'.defers=[]/\∃u,(results fn a'.tmps).run P w'=.ok u w'/\∃v'',Ending.returned u=.returned v''/\Good n w0 G σ lh.length (v,s'.lh) v'' w':=
   ⟨hrel.df,v',h1,v',rfl,σ',hE,h2,hrel.hr⟩
  rcases he with rfl|rfl
  ·exact hpost
  ·exact hpost
 ·rw[List.getD_eq_getElem?_getD,Array.getD_eq_getD_getElem?,Array.getElem?_append,List.getElem?_append,hsz]
  by_cases ht:t<args.length
  ·rw[if_pos ht,if_pos ht]
   have h1:args[t]?=some args[t]:=List.getElem?_eq_getElem ht;have h2:args'[t]?=some args'[t]:=Array.getElem?_eq_getElem (by omega)
   rw[h1,h2];exact hargs.2 t _ _ (by simp[h1]) h2
  ·rw[if_neg ht,if_neg ht]
   have:(List.replicate (fn.ntmps-args.length) undef)[t-args.length]?.getD undef=undef:=by
    rw[List.getElem?_replicate];split<;>rfl
   rw[this];exact VR.any _
def tQ(E:Env)(n:Nat->Prop)(w0:World)(base:Nat)(L:Dw)(c:Code):Prop:=
 ∀id F b',L id=some F->(id,b')∈iU c->∀s e s',base<=s.lh.length->(F s).get=some (e,s')->dM E.P n w0 E.G base (.block id b') s e s'
def aie(E:Env)(n:Nat->Prop)(w0:World)(ex:Dw->Code->St->M (Exit×St)):Prop:=
 ∀L base c s e s',tQ E n w0 base L c->base<=s.lh.length->(ex L c s).get=some (e,s')->dM E.P n w0 E.G base c s e s'
theorem QJ(hE:iA E n w0){ex:Dw->Code->St->M (Exit×St)}(ih:aie E n w0 ex):kF E.P n w0 E.G (Jz E ex):=by
 intro f args lh r h;unfold Jz at h;split at h
 ·rename_i F hF
  obtain⟨h1,h2⟩:=hE.LU f F hF;exact⟨h1,h2 args lh r h⟩
 ·split at h
  ·cases h
  ·rename_i e he
   have hf:e.1=f:=beq_true (List.find?_some (p:=fun e:FuncId×Func=>Nat.beq e.1 f) he)
   have hmem:=List.mem_of_find?_eq_some he;have hfn:=hE.fns e hmem;rw[hf]at hfn;split at h
   ·cases h
   ·rename_i c hb
    obtain⟨⟨ex',s'⟩,hx,h⟩:=M.ay h
    have hL:tQ E n w0 lh.length (Vy E f lh.length) c:=by
     intro id F b' hF hm s e' s'' hbs hs;unfold Vy at hF;split at hF
     ·rename_i F0 hF0
      cases hF;exact hE.qQ f id F0 hF0 e.2 c (by rw[<-hf];exact hmem) hb b' hm _ s e' s'' hbs hs
     ·cases hF
    have hrun:=ih _ lh.length _ _ _ _ hL (Nat.le_refl _) hx;refine⟨⟨_,hfn⟩,?_⟩;simp only at h;split at h
    ·obtain⟨v,hv,h⟩:=M.ay h
     simp only[M.ah,Option.some.injEq]at h;subst h;exact EX hfn.1 hb hrun (.inl rfl) hv
    ·obtain⟨v,hv,h⟩:=M.ay h
     simp only[M.ah,Option.some.injEq]at h;subst h;exact EX hfn.1 hb hrun (.inr rfl) hv
    ·cases h
def ajW(n:Nat->Prop)(w0:World)(G:Kj)(m:Nat)(σ:Nat->Option Pl)(e:Exit)(s':St):Exit->Act->World->Prop:=fun e' a' w'=>e'=e/\∃σ',sU m σ σ'/\Rel n w0 G σ' s' a' w'
def fP(P:Program)(n:Nat->Prop)(w0:World)(G:Kj)(base:Nat)(b:Code)(s:St)(e:Exit)(s':St):Prop:=
 lI base s.lh s'.lh/\∃N,∀σ a w,Rel n w0 G σ s a w->Code.rounds P b (ajW n w0 G base σ e s') N a w
theorem ED{P:Program}{b:Code}{Q Q':Exit->Act->World->Prop}(h:∀e a w,Q e a w->Q' e a w):∀(N:Nat) (a:Act) (w:World),Code.rounds P b Q N a w->Code.rounds P b Q' N a w
 |0,_,_,hr=>hr
 |N+1,a,w,hr=>by
  rw[rounds_succ]at hr ⊢;refine wp_mono hr fun e a' w' hq=> ?_
  cases e with
  |normal=>exact ED h N a' w' hq
  |_=>exact h _ _ _ hq
variable{base:Nat}
theorem fP.runs{P:Program}{G:Kj}{b:Code}{s:St}{e:Exit}{s':St}(h:fP P n w0 G base b s e s'):dM P n w0 G base (.loop b) s e s':=by
 obtain⟨h1,N,h2⟩:=h;exact⟨h1,fun σ a w hrel=>wp_loop_rounds N (h2 σ a w hrel)⟩
theorem fP.exit{P:Program}{G:Kj}{b:Code}{s:St}{e:Exit}{s':St}(h:dM P n w0 G base b s e s')(he:e≠.normal):fP P n w0 G base b s e s':=by
 refine⟨h.1,1,fun σ a w hrel=> ?_⟩
 rw[rounds_succ];refine wp_mono (h.2 σ a w hrel) fun e' a' w' hq=> ?_
 obtain⟨rfl,hq⟩:=hq;cases e' with
 |normal=>exact absurd rfl he
 |_=>exact⟨rfl,hq⟩
theorem fP.step{P:Program}{G:Kj}{b:Code}{s s1:St}{e:Exit}{s':St}(h:dM P n w0 G base b s .normal s1)(k:fP P n w0 G base b s1 e s'):fP P n w0 G base b s e s':=by
 obtain⟨k1,N,k2⟩:=k;refine⟨h.1.trans k1,N+1,fun σ a w hrel=> ?_⟩
 rw[rounds_succ];refine wp_mono (h.2 σ a w hrel) fun e' a' w' hq=> ?_
 obtain⟨rfl,σ1,fQ,VG⟩:=hq;exact ED (fun e a w hh=>⟨hh.1,hh.2.choose,fQ.trans hh.2.choose_spec.1,hh.2.choose_spec.2⟩) N a' w' (k2 σ1 a' w' VG)
theorem dM.seq{P:Program}{G:Kj}{x y:Code}{s s1:St}{e:Exit}{s':St}(h:dM P n w0 G base x s .normal s1)(k:dM P n w0 G base y s1 e s'):dM P n w0 G base (.seq x y) s e s':=by
 refine⟨h.1.trans k.1,fun σ a w hrel=>wp_seq (wp_mono (h.2 σ a w hrel) fun e' a' w' hq=> ?_)⟩
 obtain⟨rfl,σ1,fQ,VG⟩:=hq;exact wp_mono (k.2 σ1 a' w' VG) fun e a w hh=>⟨hh.1,hh.2.choose,fQ.trans hh.2.choose_spec.1,hh.2.choose_spec.2⟩
theorem dM.aex{P:Program}{G:Kj}{x y:Code}{s:St}{e:Exit}{s':St}(h:dM P n w0 G base x s e s')(he:e≠.normal):dM P n w0 G base (.seq x y) s e s':=by
 refine⟨h.1,fun σ a w hrel=>wp_seq (wp_mono (h.2 σ a w hrel) fun e' a' w' hq=> ?_)⟩
 obtain⟨rfl,hq⟩:=hq;cases e' with
 |normal=>exact absurd rfl he
 |_=>exact⟨rfl,hq⟩
theorem dM.JB{P:Program}{G:Kj}{id:Nat}{b:Code}{s s':St}(h:dM P n w0 G base b s (.exit id) s'):dM P n w0 G base (.block id b) s .normal s':=by
 refine⟨h.1,fun σ a w hrel=>wp_block (wp_mono (h.2 σ a w hrel) fun e' a' w' hq=> ?_)⟩
 obtain⟨rfl,hq⟩:=hq;simp only[Exit.inBlock,if_true];exact⟨trivial,hq⟩
theorem dM.ME{P:Program}{G:Kj}{id:Nat}{b:Code}{s s':St}{e:Exit}(h:dM P n w0 G base b s e s')(he:e≠.exit id):dM P n w0 G base (.block id b) s e s':=by
 refine⟨h.1,fun σ a w hrel=>wp_block (wp_mono (h.2 σ a w hrel) fun e' a' w' hq=> ?_)⟩
 obtain⟨rfl,hq⟩:=hq;cases e' with
 |exit id'=>
  have hid:id'≠id:=fun e=>he (by rw[e])
  simp only[Exit.inBlock,hid,if_false];exact⟨trivial,hq⟩
 |_=>exact⟨rfl,hq⟩
theorem tQ.sub{L:Dw}{c d:Code}(h:tQ E n w0 base L c)(hs:∀p,p∈iU d->p∈iU c):tQ E n w0 base L d:=
 fun id F b' hF hm=>h id F b' hF (hs _ hm)
theorem IQ(hE:iA E n w0):∀(fuel:Nat),aie E n w0 (exec E fuel)/\∀L base b s e s',tQ E n w0 base L (.loop b)->base<=s.lh.length->(exec E fuel L (.loop b) s).get=some (e,s')->fP E.P n w0 E.G base b s e s':=by
 intro fuel;induction fuel with
 |zero=>exact⟨fun L base c s e s' _ _ h=>(by cases h),fun L base b s e s' _ _ h=>(by cases h)⟩
 |succ fuel ih=>
  obtain⟨ih1,ih2⟩:=ih;have Y0:=QJ hE ih1
  have key:∀L base b s e s',tQ E n w0 base L (.loop b)->base<=s.lh.length->(exec E (fuel+1) L (.loop b) s).get=some (e,s')->fP E.P n w0 E.G base b s e s':=by
   intro L base b s e s' hL hb h;simp only[exec]at h;obtain⟨⟨e1,s1⟩,h1,h2⟩:=M.ay h;have r1:=ih1 L base b _ _ _ (hL.sub fun p hp=>hp) hb h1
   simp only at h2;split at h2
   ·exact fP.step r1 (ih2 L base _ _ _ _ hL r1.1.1 h2)
   ·rename_i hne
    simp only[M.ah,Option.some.injEq,Prod.mk.injEq]at h2;obtain⟨rfl,rfl⟩:=h2;exact fP.exit r1 fun hh=>hne hh
  refine⟨fun L base c s e s' hL hb h=> ?_,key⟩
  cases c with
  |skip=>
   simp only[exec,M.ah,Option.some.injEq,Prod.mk.injEq]at h;obtain⟨rfl,rfl⟩:=h;exact⟨lI.refl hb,fun σ a w hrel=>wp_skip ⟨rfl,σ,sU.refl _ _,hrel⟩⟩
  |region id ops draw=>
   cases draw with
   |false=>
    simp only[exec]at h;obtain⟨s1,h1,h2⟩:=M.ay h;simp only[M.ah,Option.some.injEq,Prod.mk.injEq]at h2;obtain⟨rfl,rfl⟩:=h2;obtain⟨k1,k2⟩:=Ey hE.eqs rfl Y0 ops _ _ _ h1;exact⟨k1.SN hb,fun σ a w hrel=>wp_region (k2 σ a w _ hrel fun σ' a' w' fQ hrel'=>⟨rfl,σ',fQ.SN hb,hrel'⟩)⟩
   |true=>
    simp only[exec]at h;obtain⟨s1,h1,h2⟩:=M.ay h;simp only[M.ah,Option.some.injEq,Prod.mk.injEq]at h2;obtain⟨rfl,rfl⟩:=h2;obtain⟨k1,k2⟩:=Si (id:=id) hE.eqs rfl hE.mixed Y0 h1;exact⟨k1.SN hb,fun σ a w hrel=>k2 σ a w _ hrel fun σ' a' w' fQ hrel'=>⟨rfl,σ',fQ.SN hb,hrel'⟩⟩
  |seq x y=>
   simp only[exec]at h;obtain⟨⟨e1,s1⟩,h1,h2⟩:=M.ay h;have r1:=ih1 L base x _ _ _ (hL.sub fun p hp=>List.mem_append_left _ hp) hb h1
   simp only at h2;split at h2
   ·exact r1.seq (ih1 L base y _ _ _ (hL.sub fun p hp=>List.mem_append_right _ hp) r1.1.1 h2)
   ·rename_i hne
    simp only[M.ah,Option.some.injEq,Prod.mk.injEq]at h2;obtain⟨rfl,rfl⟩:=h2;exact r1.aex fun hh=>hne hh
  |cond c x y=>
   simp only[exec]at h;split at h
   ·rename_i b hbv
    rcases M.af h with⟨rfl,h⟩|⟨rfl,h⟩
    ·have r:=ih1 L base x _ _ _ (hL.sub fun p hp=>List.mem_append_left _ hp) hb h
     refine⟨r.1,fun σ a w hrel=>wp_cond_true ?_ (r.2 σ a w hrel)⟩
     have:=hrel.ev c;rw[hbv]at this;exact this.aD rfl
    ·have r:=ih1 L base y _ _ _ (hL.sub fun p hp=>List.mem_append_right _ hp) hb h
     refine⟨r.1,fun σ a w hrel=>wp_cond_false ?_ (r.2 σ a w hrel)⟩
     have:=hrel.ev c;rw[hbv]at this;exact this.aD rfl
   ·cases h
  |block id b=>
   simp only[exec]at h;split at h
   ·rename_i F hF
    exact hL id F b hF List.mem_cons_self s e s' hb h
   obtain⟨⟨e1,s1⟩,h1,h2⟩:=M.ay h;have r1:=ih1 L base b _ _ _ (hL.sub fun p hp=>List.mem_cons_of_mem _ hp) hb h1
   simp only at h2;split at h2
   ·rename_i id'
    by_cases hid:id'=id
    ·subst hid
     rw[Nat.beq_refl]at h2;simp only[cond_true,M.ah,Option.some.injEq,Prod.mk.injEq]at h2;obtain⟨rfl,rfl⟩:=h2;exact r1.JB
    ·have hbq:Nat.beq id' id=false:=by cases hx:Nat.beq id' id;rfl;exact absurd (beq_true hx) hid
     rw[hbq]at h2;simp only[cond_false,M.ah,Option.some.injEq,Prod.mk.injEq]at h2;obtain⟨rfl,rfl⟩:=h2;exact r1.ME fun e=>hid (by cases e;rfl)
   ·rename_i hne
    simp only[M.ah,Option.some.injEq,Prod.mk.injEq]at h2;obtain⟨rfl,rfl⟩:=h2;exact r1.ME fun e=>hne _ e
  |loop b=>exact(key L base b s e s' hL hb h).runs
  |exit id=>
   simp only[exec,M.ah,Option.some.injEq,Prod.mk.injEq]at h;obtain⟨rfl,rfl⟩:=h;exact⟨lI.refl hb,fun σ a w hrel=>wp_exit ⟨rfl,σ,sU.refl _ _,hrel⟩⟩
  |ret=>
   simp only[exec,M.ah,Option.some.injEq,Prod.mk.injEq]at h;obtain⟨rfl,rfl⟩:=h;exact⟨lI.refl hb,fun σ a w hrel=>wp_ret ⟨rfl,σ,sU.refl _ _,hrel⟩⟩
  |_=>simp only[exec]at h;cases h
theorem Zn(hE:iA E n w0){fuel:Nat}{L:Dw}{c:Code}{s:St}{e:Exit}{s':St}(hL:tQ E n w0 base L c)(hb:base<=s.lh.length)(h:(exec E fuel L c s).get=some (e,s')):dM E.P n w0 E.G base c s e s':=(IQ hE fuel).1 L base c s e s' hL hb h
def Vo:Dw:=fun _=>none
theorem FN(c:Code):tQ E n w0 base Vo c:=fun id F b' h=>by cases h
theorem sO(hE:iA E n w0)(fuel:Nat):kF E.P n w0 E.G (call E fuel):=QJ hE (IQ hE fuel).1
end
end Go.Sx
namespace Go.Sx
open Go Go.RowKit
def Ko(f:Nat->Option Nat)(k:Nat)(g:Nat->Value):Value:=
 match f k with
 |some j=>g j
 |none=>undef
def ren(f:Nat->Option Nat):Nat->Value->Value
 |0,_=>undef
 |d+1,v=>
  match v with
  | .bool b=>.bool b
  | .int k n=>.int k n
  | .string s=>.string s
  | .pointer none=>.pointer none
  | .pointer (some ⟨k,o,sp⟩)=>Ko f k fun j=>.pointer (some ⟨j,o,sp⟩)
  | .slice none l c=>.slice none l c
  | .slice (some ⟨k,o,none⟩) l c=>Ko f k fun j=>.slice (some ⟨j,o,none⟩) l c
  | .slice (some ⟨k,o,some 3⟩) l c=>.slice (some ⟨k,o,some 3⟩) l c
  | .slice (some ⟨k,o,some q⟩) l c=>Ko f k fun j=>.slice (some ⟨j,o,some q⟩) l c
  | .map none=>.map none
  | .map (some k)=>Ko f k fun j=>.map (some j)
  | .nilFunc=>.nilFunc
  | .nilIface=>.nilIface
  | .func (.func g) a c=>.func (.func g) (a.toList.map (ren f d)).toArray (c.toList.map (ren f d)).toArray
  | .agg a=>.agg (a.toList.map (ren f d)).toArray
  | .tuple a=>.tuple (a.toList.map (ren f d)).toArray
  | .chan (some 0)=>.chan (some 0)
  | .iface t v=>.iface t v
  |_=>undef
def Ren(f:Nat->Option Nat)(σ σ':Nat->Option Pl):Prop:=∀k j p,f k=some j->σ k=some p->σ' j=some p
theorem qd{f:Nat->Option Nat}{k:Nat}{g:Nat->Value}{σ':Nat->Option Pl}{v':Value}(h:∀j,f k=some j->VR σ' (g j) v'):VR σ' (Ko f k g) v':=by
 unfold Ko;split
 ·rename_i j hj;exact h j hj
 ·exact .any _
theorem Cw{σ':Nat->Option Pl}{a a':Array Value}{h:Value->Value}(hs:a.size=a'.size)(hv:∀(i:Nat) (x y:Value),a[i]?=some x->a'[i]?=some y->VR σ' (h x) y):
  (a.toList.map h).toArray.size=a'.size/\∀(i:Nat) (x y:Value),(a.toList.map h).toArray[i]?=some x->a'[i]?=some y->VR σ' x y:=by
 refine⟨by simp[hs],fun i x y hx hy=> ?_⟩
 simp only[List.getElem?_toArray,List.getElem?_map]at hx;cases hq:a.toList[i]? with
 |none=>rw[hq]at hx;cases hx
 |some u=>
  rw[hq]at hx;simp only[Option.map_some,Option.some.injEq]at hx;subst hx;exact hv i u y (by simpa using hq) hy
theorem VR.renamed{f:Nat->Option Nat}{σ σ':Nat->Option Pl}(hf:Ren f σ σ'):∀(d:Nat) (v v':Value),VR σ v v'->VR σ' (ren f d v) v'
 |0,v,v',_=>.any _
 |d+1,v,v',h=>by
  cases h with
  |any=>exact .any _
  |skip=>exact .skip
  |bool b=>exact .bool b
  |int k n=>exact .int k n
  |string s=>exact .string s
  |wE=>exact .wE
  |ptr hk=>exact qd fun j hj=>.ptr (hf _ _ _ hj hk)
  |lD hk=>exact qd fun j hj=>.lD (hf _ _ _ hj hk)
  |kM l c=>exact .kM l c
  |slice hk=>exact qd fun j hj=>.slice (hf _ _ _ hj hk)
  |si hk=>exact qd fun j hj=>.si (hf _ _ _ hj hk)
  |vec hk hl=>exact qd fun j hj=>.vec (hf _ _ _ hj hk) hl
  |win hk ho=>exact qd fun j hj=>.win (hf _ _ _ hj hk) ho
  |word s F=>exact .word s F
  |zW W i=>exact .zW W i
  |arg h hc=>
   refine qd fun j hj=>.arg ?_ hc
   rcases h with⟨p,h1,h2⟩|h
   ·exact .inl ⟨p,hf _ _ _ hj h1,h2⟩
   ·exact .inr h
  |empty a=>exact .empty a
  |wI=>exact .wI
  |Ao hk=>exact qd fun j hj=>.Ao (hf _ _ _ hj hk)
  |nilFunc=>exact .nilFunc
  |nilIface=>exact .nilIface
  |func g ha hc h1 h2=>
   obtain⟨e1,e2⟩:=Cw (h:=ren f d) ha fun i x y hx hy=>VR.renamed hf d x y (h1 i x y hx hy)
   obtain⟨e3,e4⟩:=Cw (h:=ren f d) hc fun i x y hx hy=>VR.renamed hf d x y (h2 i x y hx hy)
   exact .func g e1 e3 e2 e4
  |agg ha h1=>
   obtain⟨e1,e2⟩:=Cw (h:=ren f d) ha fun i x y hx hy=>VR.renamed hf d x y (h1 i x y hx hy)
   exact .agg e1 e2
  |tuple ha h1=>
   obtain⟨e1,e2⟩:=Cw (h:=ren f d) ha fun i x y hx hy=>VR.renamed hf d x y (h1 i x y hx hy)
   exact .tuple e1 e2
def qJ(f:Nat->Option Nat):ag->ag
 | .cells o w c=>.cells o w (c.map (ren f 4))
 | .ints o w l=>.ints o w l
 | .rows o w wd n g=>.rows o w wd n g
 | .jK o w l=>.jK o w (l.map fun e=>(e.1,ren f 4 e.2))
 | .win o w r c=>.win o w r (c.map (ren f 4))
 | .abs w a=>.abs w a
 | .dead=>.dead
theorem lW(f:Nat->Option Nat)(b:ag):(qJ f b).aM=b.aM:=by cases b<;>rfl
theorem lV(f:Nat->Option Nat)(b:ag):(qJ f b).owned=b.owned:=by cases b<;>rfl
theorem jJ(f:Nat->Option Nat)(b:ag):(qJ f b).alive=b.alive:=by cases b<;>rfl
theorem Kk(σ:Nat->Option Pl){σ':Nat->Option Pl}{x:Gw}{v':Value}(h:VR σ' x.val v'):VR σ x.val v':=by
 have hp:aN x.val=true:=by cases x<;>rfl
 rw[h.aD hp];exact VR.aN σ hp
theorem BR.renamed{n:Nat->Prop}{f:Nat->Option Nat}{σ σ':Nat->Option Pl}{b:ag}{p:Pl}{w:World}(hf:Ren f σ σ')(h:BR n σ b p w):BR n σ' (qJ f b) p w:=by
 refine⟨fun ho=>h.1 (by rwa[lV]at ho),?_⟩
 have hb:=h.2;cases b with
 |cells ow wr c=>
  intro i v hv;simp only[List.getElem?_map]at hv;cases hq:c[i]? with
  |none=>rw[hq]at hv;cases hv
  |some u=>
   rw[hq]at hv;simp only[Option.map_some,Option.some.injEq]at hv;subst hv;obtain⟨v',h1,h2⟩:=hb i u hq;exact⟨v',h1,h2.renamed hf 4 u v'⟩
 |ints ow wr l=>exact hb
 |rows ow wr wd k g=>exact⟨hb.1,fun i j hi hj=>let⟨v',h1,h2⟩:=hb.2 i j hi hj;⟨v',h1,Kk σ' h2⟩⟩
 |jK ow wr l=>
  obtain⟨es,qX,h1,h2,h3⟩:=hb;refine⟨es,qX,h1,by simpa using h2,fun i k v hv=> ?_⟩
  rw[List.getElem?_map]at hv;cases hq:l[i]? with
  |none=>rw[hq]at hv;cases hv
  |some q=>
   obtain⟨k0,v0⟩:=q;rw[hq]at hv;simp only[Option.map_some,Option.some.injEq,Prod.mk.injEq]at hv;obtain⟨rfl,rfl⟩:=hv;obtain⟨e,e1,e2,e3⟩:=h3 i k0 v0 hq;exact⟨e,e1,e2,e3.renamed hf 4 _ _⟩
 |win ow wr r c=>
  refine⟨by simpa using hb.1,fun i v hv=> ?_,hb.2.2⟩
  simp only[List.getElem?_map]at hv;cases hq:c[i]? with
  |none=>rw[hq]at hv;cases hv
  |some u=>
   rw[hq]at hv;simp only[Option.map_some,Option.some.injEq]at hv;subst hv;obtain⟨v',h1,h2⟩:=hb.2.1 i u hq;exact⟨v',h1,h2.renamed hf 4 u v'⟩
 |abs wr a=>exact hb
 |dead=>trivial
def AA:Nat->Value->List Nat
 |0,_=>[]
 |d+1,v=>
  match v with
  | .pointer (some a)=>[a.block]
  | .map (some k)=>[k]
  | .slice (some ⟨k,_,none⟩) _ _=>[k]
  | .slice (some ⟨_,_,some 3⟩) _ _=>[]
  | .slice (some ⟨k,_,some _⟩) _ _=>[k]
  | .func _ a c=>(a.toList.flatMap (AA d))++(c.toList.flatMap (AA d))
  | .agg a=>a.toList.flatMap (AA d)
  | .tuple a=>a.toList.flatMap (AA d)
  |_=>[]
def ale:ag->List Nat
 | .cells _ _ c=>c.flatMap (AA 4)
 | .jK _ _ l=>l.flatMap fun e=>AA 4 e.2
 | .win _ _ _ c=>c.flatMap (AA 4)
 |_=>[]
def Dn:List Nat->List Nat->List Nat
 |l,[]=>l
 |l,k::r=>cond (l.any (Nat.beq k)) (Dn l r) (Dn (l++[k]) r)
def QE(lh:List ag):Nat->Nat->List Nat->List Nat
 |0,_,l=>l
 |n+1,i,l=>
  match l[i]? with
  |none=>l
  |some k=>QE lh n (i+1) (Dn l (ale (lh.getD k .dead)))
def posOf:List Nat->Nat->Nat->Option Nat
 |[],_,_=>none
 |x::r,i,k=>cond (Nat.beq x k) (some i) (posOf r (i+1) k)
theorem Ac:∀(l:List Nat) (i k j:Nat),posOf l i k=some j->i<=j/\l[j-i]?=some k
 |[],i,k,j,h=>by cases h
 |x::r,i,k,j,h=>by
  unfold posOf at h;cases hx:Nat.beq x k with
  |true=>
   rw[hx]at h;simp only[cond_true,Option.some.injEq]at h;subst h;rw[beq_true hx];simp
  |false=>
   rw[hx]at h;obtain⟨h1,h2⟩:=Ac r (i+1) k j h;refine⟨by omega,?_⟩
   rw[show j-i=(j-(i+1))+1 by omega]
   exact h2
def nodupB:List Nat->Bool
 |[]=>true
 |k::r=> !(r.any (Nat.beq k))&&nodupB r
theorem xI:∀(l:List Nat),nodupB l=true->l.Nodup
 |[],_=>List.nodup_nil
 |k::r,h=>by
  simp only[nodupB,Bool.and_eq_true,Bool.not_eq_true',List.any_eq_false]at h;refine List.nodup_cons.2 ⟨fun hk=> ?_,xI r h.2⟩
  exact h.1 k hk (Nat.beq_refl k)
theorem xH{l:List Nat}(h:l.Nodup){i j k:Nat}(hi:l[i]?=some k)(hj:l[j]?=some k):i=j:=by
 obtain⟨h1,e1⟩:=List.getElem?_eq_some_iff.1 hi;obtain⟨h2,e2⟩:=List.getElem?_eq_some_iff.1 hj;have hp:=List.pairwise_iff_getElem.1 h;rcases Nat.lt_trichotomy i j with hh|hh|hh
 ·exact absurd (e1.trans e2.symm) (hp i j h1 h2 hh)
 ·exact hh
 ·exact absurd (e2.trans e1.symm) (hp j i h2 h1 hh)
def pull(ρ:List Nat)(σ:Nat->Option Pl):Nat->Option Pl:=fun j=>(ρ[j]?).bind σ
theorem dG{ρ:List Nat}{σ:Nat->Option Pl}{j:Nat}{p:Pl}(h:pull ρ σ j=some p):∃k,ρ[j]?=some k/\σ k=some p:=by
 unfold pull at h;cases hk:ρ[j]? with
 |none=>rw[hk]at h;cases h
 |some k=>rw[hk]at h;exact⟨k,rfl,h⟩
theorem wD(ρ:List Nat)(σ:Nat->Option Pl):Ren (posOf ρ 0) σ (pull ρ σ):=fun k j p hj hk=>by
 obtain⟨_,h2⟩:=Ac ρ 0 k j hj;unfold pull;rw[Nat.sub_zero]at h2;rw[h2];exact hk
def AO(m:Nat):Value->Bool
 | .pointer (some a)=>Nat.blt a.block m
 | .slice (some ⟨k,_,none⟩) _ _=>Nat.blt k m
 |v=>aN v
def Da(m:Nat):ag->Bool
 | .cells _ _ c=>c.all (AO m)
 | .jK _ _ l=>l.all fun e=>AO m e.2
 | .win _ _ _ c=>c.all (AO m)
 |_=>true
theorem VR.AO{m:Nat}{σ σ':Nat->Option Pl}{v v':Value}(h:VR σ v v')(hf:AO m v=true)(hs:∀k,k<m->σ' k=σ k):VR σ' v v':=by
 unfold Sx.AO at hf;split at hf
 ·rename_i a
  have hk:=kg hf;cases h with
  |ptr h=>exact .ptr ((hs _ hk).trans h)
  |lD h=>exact .lD ((hs _ hk).trans h)
 ·have hk:=kg hf
  cases h with
  |slice h=>exact .slice ((hs _ hk).trans h)
 ·rw[h.aD hf]
  exact VR.aN _ hf
theorem BR.fit{n:Nat->Prop}{m:Nat}{σ σ':Nat->Option Pl}{b:ag}{p:Pl}{w:World}(h:BR n σ b p w)(hf:Da m b=true)(hs:∀k,k<m->σ' k=σ k):BR n σ' b p w:=by
 refine⟨h.1,?_⟩;have hb:=h.2;cases b with
 |cells ow wr c=>
  intro i v hv;obtain⟨v',h1,h2⟩:=hb i v hv;refine⟨v',h1,h2.AO ?_ hs⟩;unfold Da at hf;rw[List.all_eq_true]at hf;exact hf v (List.mem_of_getElem? hv)
 |ints ow wr l=>exact hb
 |rows ow wr wd k g=>exact⟨hb.1,fun i j hi hj=>let⟨v',h1,h2⟩:=hb.2 i j hi hj;⟨v',h1,Kk _ h2⟩⟩
 |jK ow wr l=>
  obtain⟨es,qX,h1,h2,h3⟩:=hb;refine⟨es,qX,h1,h2,fun i k v hv=> ?_⟩
  obtain⟨e,e1,e2,e3⟩:=h3 i k v hv;refine⟨e,e1,e2,e3.AO ?_ hs⟩;unfold Da at hf;rw[List.all_eq_true]at hf;exact hf (k,v) (List.mem_of_getElem? hv)
 |win ow wr r c=>
  refine⟨hb.1,fun i v hv=> ?_,hb.2.2⟩
  obtain⟨v',h1,h2⟩:=hb.2.1 i v hv;refine⟨v',h1,h2.AO ?_ hs⟩;unfold Da at hf;rw[List.all_eq_true]at hf;exact hf v (List.mem_of_getElem? hv)
 |abs wr a=>exact hb
 |dead=>trivial
def Ck:List Nat->List Value->List Value->List Value
 |t::ts,v::vs,tm=>Ck ts vs (tm.set t v)
 |_,_,tm=>tm
def unpack(N:Nat)(keep:List Nat)(vals:List Value)(lh:List ag):St:=⟨Ck keep vals (List.replicate N undef),lh⟩
theorem Bo:∀(ts:List Nat) (vs tm:List Value),(Ck ts vs tm).length=tm.length
 |[],_,_=>rfl
 |_::_,[],_=>rfl
 |t::ts,v::vs,tm=>by rw[Ck,Bo];simp
theorem LJ{σ:Nat->Option Pl}{a:Nat->Value}:∀(ts:List Nat) (vs tm:List Value),(∀(i t:Nat) (v:Value),ts[i]?=some t->vs[i]?=some v->VR σ v (a t))->(∀t,VR σ (tm.getD t undef) (a t))->∀t,VR σ ((Ck ts vs tm).getD t undef) (a t)
 |[],_,_,_,h=>h
 |_::_,[],_,_,h=>h
 |t::ts,v::vs,tm,hv,h=>by
  refine LJ ts vs _ (fun i t' v' h1 h2=>hv (i+1) t' v' h1 h2) fun t'=> ?_
  by_cases e:t'=t
  ·subst e
   by_cases hl:t'<tm.length
   ·rw[List.getD_eq_getElem?_getD,List.getElem?_set_self hl]
    exact hv 0 t' v rfl rfl
   ·rw[List.getD_eq_getElem?_getD,List.getElem?_eq_none (by simp;omega)]
    exact .any _
  ·rw[List.getD_eq_getElem?_getD,List.getElem?_set_ne (Ne.symm e), <-List.getD_eq_getElem?_getD]
   exact h t'
def yY(keep:List Nat)(base:Nat)(s:St):List Nat:=
 QE s.lh 60 0 (Dn (List.range base) (keep.flatMap fun t=>AA 4 (s.tmps.getD t undef)))
def uu(base:Nat)(ρ:List Nat)(lh:List ag)(k:Nat):ag:=
 match lh.getD k .dead with
 | .cells o w c=>cond (Nat.blt k base&& !w) (.cells o w c) (.cells o w (c.map (ren (posOf ρ 0) 4)))
 | .jK o w l=>cond (Nat.blt k base&& !w) (.jK o w l) (.jK o w (l.map fun e=>(e.1,ren (posOf ρ 0) 4 e.2)))
 | .win o w r c=>cond (Nat.blt k base&& !w) (.win o w r c) (.win o w r (c.map (ren (posOf ρ 0) 4)))
 |b=>b
theorem uq(base:Nat)(ρ:List Nat)(lh:List ag)(k:Nat):uu base ρ lh k=cond (Nat.blt k base&& !(lh.getD k .dead).vo) (lh.getD k .dead) (qJ (posOf ρ 0) (lh.getD k .dead)):=by
 unfold uu;cases lh.getD k .dead with
 |cells o w c=>rfl
 |jK o w l=>rfl
 |win o w r c=>rfl
 |abs w a=>cases(Nat.blt k base&& !(ag.abs w a).vo)<;>rfl
 |ints o w l=>cases(Nat.blt k base&& !(ag.ints o w l).vo)<;>rfl
 |rows o w a b g=>cases(Nat.blt k base&& !(ag.rows o w a b g).vo)<;>rfl
 |dead=>cases(Nat.blt k base&& !ag.dead.vo)<;>rfl
def Kw(base:Nat)(ρ:List Nat)(lh:List ag):Bool:=
 nodupB ρ&&(List.range base).all fun j=>Nat.beq (ρ.getD j base) j&&(Da base (lh.getD j .dead)||(lh.getD j .dead).vo)
def xG(N:Nat)(keep:List Nat)(base:Nat)(s:St):M (List Value×List ag):=
 cond (Nat.beq s.tmps.length N&&Kw base (yY keep base s) s.lh)
  (.ret (keep.map fun t=>ren (posOf (yY keep base s) 0) 4 (s.tmps.getD t undef),(yY keep base s).map (uu base (yY keep base s) s.lh))) .bad
section
variable{P:Program} {n:Nat->Prop} {w0:World} {G:Kj}
theorem xE{N:Nat}{keep:List Nat}{base:Nat}{s:St}{r:List Value×List ag}(h:(xG N keep base s).get=some r)(hG:G.le base)(hb:base<=s.lh.length):
  lI base s.lh r.2/\∀σ a w,Rel n w0 G σ s a w->∃σ',sU base σ σ'/\Rel n w0 G σ' (unpack N keep r.1 r.2) a w:=by
 unfold xG at h;generalize yY keep base s=ρ at h;cases hc:Nat.beq s.tmps.length N&&Kw base ρ s.lh with
 |false=>rw[hc]at h;cases h
 |true=>
  rw[hc]at h;rw[Bool.and_eq_true]at hc;obtain⟨hN,hc⟩:=hc;have hN:=beq_true hN;simp only[cond_true,M.ah,Option.some.injEq]at h;subst h;simp only[Kw,Bool.and_eq_true,List.all_eq_true,List.mem_range]at hc;obtain⟨hnd,hpre⟩:=hc;have hnd:=xI ρ hnd
  have hρ:∀j,j<base->ρ[j]?=some j:=fun j hj=>by
   have:=beq_true (hpre j hj).1;cases hq:ρ[j]? with
   |none=>rw[List.getD_eq_getElem?_getD,hq]at this;simp at this;omega
   |some u=>rw[List.getD_eq_getElem?_getD,hq]at this;simp at this;rw[this]
  have hlen:base<=ρ.length:=by
   rcases Nat.eq_zero_or_pos base with h0|h0
   ·omega
   ·have:=(List.getElem?_eq_some_iff.1 (hρ (base-1) (by omega))).1;omega
  have hget:∀j k,ρ[j]?=some k->(ρ.map (uu base ρ s.lh)).getD j .dead=uu base ρ s.lh k:=fun j k hk=>by
   rw[List.getD_eq_getElem?_getD,List.getElem?_map,hk];rfl
  have how:∀k,(uu base ρ s.lh k).owned=(s.lh.getD k .dead).owned:=fun k=>by
   rw[uq];cases Nat.blt k base&& !(s.lh.getD k .dead).vo
   ·exact lV _ _
   ·rfl
  have hal:∀k,(uu base ρ s.lh k).alive=(s.lh.getD k .dead).alive:=fun k=>by
   rw[uq];cases Nat.blt k base&& !(s.lh.getD k .dead).vo
   ·exact jJ _ _
   ·rfl
  have hao:∀k,(uu base ρ s.lh k).aM=(s.lh.getD k .dead).aM:=fun k=>by
   rw[uq];cases Nat.blt k base&& !(s.lh.getD k .dead).vo
   ·exact lW _ _
   ·rfl
  refine⟨⟨by simpa using hlen,fun k hk hw=> ?_⟩,fun σ a w hrel=>⟨pull ρ σ,fun k hk=> ?_,?_⟩⟩
  ·rw[hget k k (hρ k hk)]
   rw[uq];have:Nat.blt k base=true:=by simpa[Nat.blt_eq]using hk
   rw[this,hw];rfl
  ·unfold pull;rw[hρ k hk];rfl
  ·have fQ:∀k,k<base->pull ρ σ k=σ k:=fun k hk=>by unfold pull;rw[hρ k hk];rfl
   refine⟨by rw[unpack,Bo];simp[hrel.sz,hN],fun t=> ?_,hrel.df,?_⟩
   ·refine LJ (a:=fun t=>a.tmps.getD t undef) keep _ _ (fun i t v ht hv=> ?_) (fun t=> ?_) t
    ·simp only[List.getElem?_map,ht,Option.map_some,Option.some.injEq]at hv
     subst hv;exact(hrel.tm t).renamed (wD ρ σ) 4 _ _
    ·rw[List.getD_eq_getElem?_getD,List.getElem?_replicate]
     split<;>exact .any _
   ·have H:=hrel.hr
    refine⟨H.hn,H.below,H.ab.pull (fun k k0=>ρ[k]?=some k0) (fun k p hk=> ?_) (fun k k' k0 h1 h2=>xH hnd h1 h2),fun k p hk=> ?_,fun k p hk=> ?_,fun k k' p p' hk hk' ho hl hbb=> ?_,fun k p hk=> ?_⟩
    ·obtain⟨k0,h1,h2⟩:=dG hk
     refine⟨k0,h1,h2,.inr ?_⟩;simp only[unpack];rw[hget k k0 h1,hao]
    ·obtain⟨k0,h1,_⟩:=dG hk
     simp only[unpack,List.length_map];exact(List.getElem?_eq_some_iff.1 h1).1
    ·obtain⟨k0,_,h2⟩:=dG hk
     exact H.lt k0 p h2
    ·obtain⟨j,h1,h2⟩:=dG hk
     obtain⟨j',h1',h2'⟩:=dG hk';simp only[unpack]at ho hl;rw[hget k j h1,how]at ho;rw[hget k' j' h1',hal]at hl;have:=H.inj j j' p p' h2 h2' ho hl hbb;subst this;exact xH hnd h1 h1'
    ·obtain⟨j,h1,h2⟩:=dG hk
     simp only[unpack];rw[hget k j h1];have hB:=H.blk j p h2;rw[uq];cases hc:Nat.blt j base&& !(s.lh.getD j .dead).vo with
     |false=>exact hB.renamed (wD ρ σ)
     |true=>
      rw[Bool.and_eq_true]at hc;have hj:=kg hc.1;have:=(hpre j hj).2;have hw:(s.lh.getD j .dead).vo=false:=by simpa using hc.2
      rw[hw,Bool.or_false]at this;exact hB.fit this fQ
def OU(E:Env)(fuel:Nat)(L:Dw)(N:Nat)(keep:List Nat)(base:Nat)(c:Code)(s:St):M (Exit×List Value×List ag):=
 .bind (exec E fuel L c s) fun r=>.bind (xG N keep base r.2) fun q=>.ret (r.1,q)
theorem dM.norm{base:Nat}{c:Code}{s s1:St}{e:Exit}{N:Nat}{keep:List Nat}{r:List Value×List ag}(h:dM P n w0 G base c s e s1)(hn:(xG N keep base s1).get=some r)(hG:G.le base):dM P n w0 G base c s e (unpack N keep r.1 r.2):=by
 obtain⟨k1,k2⟩:=xE (n:=n) (w0:=w0) (G:=G) hn hG h.1.1;refine⟨h.1.trans k1,fun σ a w hrel=>wp_mono (h.2 σ a w hrel) fun e' a' w' hq=> ?_⟩
 obtain⟨rfl,σ',fQ,hr⟩:=hq;obtain⟨Bw,h1,h2⟩:=k2 σ' a' w' hr;exact⟨rfl,Bw,fQ.trans h1,h2⟩
theorem dM.pre{base:Nat}{c:Code}{s s1:St}{e:Exit}{N:Nat}{keep:List Nat}{r:List Value×List ag}(hn:(xG N keep base s).get=some r)(hG:G.le base)(hb:base<=s.lh.length)(h:dM P n w0 G base c (unpack N keep r.1 r.2) e s1):dM P n w0 G base c s e s1:=by
 obtain⟨k1,k2⟩:=xE (n:=n) (w0:=w0) (G:=G) hn hG hb;refine⟨k1.trans h.1,fun σ a w hrel=> ?_⟩
 obtain⟨σ1,h1,h2⟩:=k2 σ a w hrel;refine wp_mono (h.2 σ1 a w h2) fun e' a' w' hq=> ?_
 obtain⟨rfl,σ',fQ,hr⟩:=hq;exact⟨rfl,σ',h1.trans fQ,hr⟩
theorem zX{E:Env}(hE:iA E n w0){fuel:Nat}{L:Dw}{N:Nat}{keep:List Nat}{base:Nat}{c:Code}{s:St}{e:Exit}{r:List Value×List ag}(hL:tQ E n w0 base L c)(h:(OU E fuel L N keep base c s).get=some (e,r))(hG:E.G.le base)(hb:base<=s.lh.length):
  dM E.P n w0 E.G base c s e (unpack N keep r.1 r.2):=by
 obtain⟨⟨e1,s1⟩,h1,h2⟩:=M.ay h;obtain⟨q,h3,h4⟩:=M.ay h2;simp only[M.ah,Option.some.injEq,Prod.mk.injEq]at h4;obtain⟨rfl,rfl⟩:=h4;exact(Zn hE hL hb h1).norm h3 hG
theorem HR.other{σ:Nat->Option Pl}{lh:List ag}{w:World}(h:HR n w0 G σ lh w)(k:Nat)(blk:ag)(ho:blk.owned=true->(lh.getD k .dead).owned=true)(ha:blk.alive=true->(lh.getD k .dead).alive=true)(hb:∀p,σ k=some p->BR n σ (lh.getD k .dead) p w->BR n σ blk p w)(sH:blk.aM=none\/(lh.getD k .dead).aM=blk.aM):
  HR n w0 G σ (lh.set k blk) w:=by
 cases hk:σ k with
 |some p=>exact h.re hk blk ho ha (hb p hk (h.blk k p hk)) sH
 |none=>
  have hne:∀i q,σ i=some q->i≠k:=fun i q hi e=>by rw[e,hk]at hi;cases hi
  have hg:∀i q,σ i=some q->(lh.set k blk).getD i .dead=lh.getD i .dead:=fun i q hi=>aX lh blk (hne i q hi)
  refine⟨h.hn,h.below,h.ab.id h.lt (Nat.le_refl _) (fun _ _=>.inl rfl) (fun i q hi=>.inr (.inl ⟨hi,by rw[hg i q hi]⟩)),fun i q hi=>by simpa using h.dom i q hi,h.lt,fun i i' q q' hi hi' oF nQ hbb=> ?_,fun i q hi=> ?_⟩
  ·rw[hg i q hi]at oF
   rw[hg i' q' hi']at nQ;exact h.inj i i' q q' hi hi' oF nQ hbb
  ·rw[hg i q hi];exact h.blk i q hi
theorem dM.rows{base:Nat}{c:Code}{s:St}{e:Exit}{tm:List Value}{lh:List ag}(h:dM P n w0 G base c s e ⟨tm,lh⟩)(k:Nat){o:Bool}{wd m:Nat}{R:Rows}(R':Rows)(hk:lh.getD k .dead=.rows o true wd m R)(hs:∀i j,i<m->j<wd->(R.at i j).val=(R'.at i j).val)(hb:base<=k):
  dM P n w0 G base c s e ⟨tm,lh.set k (.rows o true wd m R')⟩:=by
 refine⟨⟨by simpa using h.1.1,fun i hi hw=> ?_⟩,fun σ a w hrel=>wp_mono (h.2 σ a w hrel) fun e' a' w' hq=> ?_⟩
 ·rw[aX _ _ (by omega:i≠k)];exact h.1.2 i hi hw
 ·obtain⟨rfl,σ',fQ,hr⟩:=hq
  refine⟨rfl,σ',fQ,hr.sz,hr.tm,hr.df,hr.hr.other k _ (fun ho=>by rw[hk];exact ho) (fun _=>by rw[hk];rfl) (fun p hp hB=> ?_) ?_⟩
  ·rw[hk]at hB
   refine⟨hB.1,hB.2.1,fun i j hi hj=> ?_⟩
   obtain⟨v',h1,h2⟩:=hB.2.2 i j hi hj;exact⟨v',h1,by rw[<-hs i j hi hj];exact h2⟩
  ·rw[hk];exact .inr rfl
def Ik(N:Nat)(keep Az:List Nat)(F:List Value->List ag->M (Exit×List Value×List ag))(b0:Nat)(base:Nat)(s:St):M (Exit×St):=
 cond (Nat.beq base b0) (.bind (xG N keep base s) fun q=>.bind (F q.1 q.2) fun r=>.ret (r.1,unpack N Az r.2.1 r.2.2)) .bad
theorem abo{N:Nat}{keep Az:List Nat}{F:List Value->List ag->M (Exit×List Value×List ag)}{b0 base:Nat}{c:Code}(hG:G.le b0)
  (hF:∀vals lh e vals' bV,(F vals lh).get=some (e,vals',bV)->b0<=lh.length->dM P n w0 G b0 c (unpack N keep vals lh) e (unpack N Az vals' bV))
  {s:St} {e:Exit} {s':St} (hb:base<=s.lh.length) (h:(Ik N keep Az F b0 base s).get=some (e,s')):dM P n w0 G base c s e s':=by
 unfold Ik at h;cases hc:Nat.beq base b0 with
 |false=>rw[hc]at h;cases h
 |true=>
  rw[hc]at h;obtain rfl:=beq_true hc;obtain⟨q,h1,h2⟩:=M.ay h;obtain⟨⟨e1,v1,l1⟩,h3,h4⟩:=M.ay h2;simp only[M.ah,Option.some.injEq,Prod.mk.injEq]at h4;obtain⟨rfl,rfl⟩:=h4;exact .pre h1 hG hb (hF _ _ _ _ _ h3 (xE (n:=n) (w0:=w0) (G:=G) h1 hG hb).1.1)
end
end Go.Sx
namespace Go.Sx
open Go Go.RowKit
def ag.mine(b:ag):Bool:=b.owned&&b.vo
def ag.weak:ag->ag
 | .cells _ _ c=>.cells false false c
 | .ints _ _ l=>.ints false false l
 | .rows _ _ wd n g=>.rows false false wd n g
 | .jK _ _ l=>.jK false false l
 | .win _ _ r c=>.win false false r c
 | .abs _ _=>.dead
 | .dead=>.dead
def uY(ρ:List Nat)(lh:List ag)(k:Nat):ag:=
 cond (lh.getD k .dead).mine (qJ (posOf ρ 0) (lh.getD k .dead)) (qJ (posOf ρ 0) (lh.getD k .dead)).weak
def yc(ρ:List Nat)(m:Nat)(j:Nat):Option Nat:=cond (Nat.blt j ρ.length) ρ[j]? (some (m+(j-ρ.length)))
def zF(ρ:List Nat)(lh Im:List ag)(k:Nat):ag:=
 match posOf ρ 0 k with
 |some j=>cond (lh.getD k .dead).mine (qJ (yc ρ lh.length) (Im.getD j .dead)) (lh.getD k .dead)
 |none=>lh.getD k .dead
def ru(ρ:List Nat)(lh Im:List ag):List ag:=
 (List.range lh.length).map (zF ρ lh Im)++(Im.drop ρ.length).map (qJ (yc ρ lh.length))
def H9(b:ag):Bool:=b.owned|| !b.alive
def o6(args:List Value)(lh:List ag):List Nat:=QE lh 60 0 (Dn [] (args.flatMap (AA 4)))
def IE(F0:List Value->List ag->M (Value×List ag))(args:List Value)(lh:List ag):M (Value×List ag):=
 cond (nodupB (o6 args lh)&&(o6 args lh).all fun k=>Nat.blt k lh.length)
  (.bind (F0 (args.map (ren (posOf (o6 args lh) 0) 4)) ((o6 args lh).map (uY (o6 args lh) lh))) fun r=>
   cond (Nat.ble (o6 args lh).length r.2.length&&(r.2.drop (o6 args lh).length).all H9)
    (.ret (ren (yc (o6 args lh) lh.length) 4 r.1,ru (o6 args lh) lh r.2)) .bad) .bad
theorem Ho:∀(l:List Nat) (i j k:Nat),l[j]?=some k->∃q,posOf l i k=some q
 |[],i,j,k,h=>by cases h
 |x::r,i,j,k,h=>by
  unfold posOf;cases hx:Nat.beq x k with
  |true=>exact⟨i,rfl⟩
  |false=>
   cases j with
   |zero=>simp at h;subst h;rw[Nat.beq_refl]at hx;cases hx
   |succ j=>exact Ho r (i+1) j k (by simpa using h)
theorem zO(b:ag):b.weak.owned=false:=by cases b<;>rfl
theorem UA{b:ag}(h:b.weak.alive=true):b.alive=true:=by cases b<;>first|rfl|cases h
theorem aab(b:ag):b.weak.aM=none\/b.weak.aM=some none:=by cases b<;>first|exact .inl rfl|exact .inr rfl
theorem oU{b:ag}(h:b.owned=true):b.alive=true:=by cases b<;>first|rfl|cases h
theorem BR.weak{n:Nat->Prop}{σ:Nat->Option Pl}{b:ag}{p:Pl}{w:World}(h:BR n σ b p w):BR n σ b.weak p w:=by
 refine⟨fun ho=> ?_,?_⟩
 ·rw[zO]at ho;cases ho
 ·have:=h.2
  cases b<;>first|exact this|trivial
theorem BR.sets{X Y:Nat->Prop}{σ:Nat->Option Pl}{b:ag}{p:Pl}{w:World}(h:BR X σ b p w)(hn:b.owned=true->¬Y p.b):BR Y σ b p w:=
 ⟨fun ho=>⟨hn ho,(h.1 ho).2⟩,h.2⟩
theorem xZ(ρ:List Nat)(lh Im:List ag)(k:Nat):(ru ρ lh Im).getD k .dead=if k<lh.length then zF ρ lh Im k else qJ (yc ρ lh.length) (Im.getD (ρ.length+(k-lh.length)) .dead):=by
 unfold ru;rw[List.getD_eq_getElem?_getD,List.getElem?_append];simp only[List.length_map,List.length_range];split
 ·rename_i hk
  rw[List.getElem?_map,List.getElem?_range hk];rfl
 ·rw[List.getElem?_map,List.getElem?_drop,List.getD_eq_getElem?_getD]
  cases Im[ρ.length+(k-lh.length)]?<;>rfl
theorem ab5{T:World->Prop}(hT:∀(X:Nat->Prop) w w',X 0->T w->Kept X w w'->T w'){P:Program}{f:FuncId}{F0:List Value->List ag->M (Value×List ag)}
  (h0:∀(X:Nat->Prop) (w0:World),X 0->eB X w0->T w0->∀args lh r,(F0 args lh).get=some r->dK P X w0 0 f args lh r):
  ∀(X:Nat->Prop) (w0:World),X 0->eB X w0->T w0->∀args lh r,(IE F0 args lh).get=some r->dK P X w0 0 f args lh r:=by
 intro X w0 hX0 hB Mt args lh r h;unfold IE at h;generalize o6 args lh=ρ at h;cases hc:nodupB ρ&&ρ.all fun k=>Nat.blt k lh.length with
 |false=>rw[hc]at h;cases h
 |true=>
 rw[hc]at h;rw[Bool.and_eq_true,List.all_eq_true]at hc;obtain⟨hnd,hlt⟩:=hc;have hnd:=xI ρ hnd;have hlt:∀j k,ρ[j]?=some k->k<lh.length:=fun j k hk=>kg (hlt k (List.mem_of_getElem? hk))
 obtain⟨r0,hF,h⟩:=M.ay h;cases hc:Nat.ble ρ.length r0.2.length&&(r0.2.drop ρ.length).all H9 with
 |false=>rw[hc]at h;cases h
 |true=>
 rw[hc]at h;rw[Bool.and_eq_true,List.all_eq_true]at hc;obtain⟨hle,hnew⟩:=hc;have hle:=fo hle
 have hnew:∀j,ρ.length<=j->(r0.2.getD j .dead).alive=true->(r0.2.getD j .dead).owned=true:=fun j hj ha=>by
  by_cases hjl:j<r0.2.length
  ·have:=hnew (r0.2.getD j .dead) (by
    rw[List.mem_iff_getElem?];exact⟨j-ρ.length,by rw[List.getElem?_drop,show ρ.length+(j-ρ.length)=j by omega,List.getD_eq_getElem?_getD,List.getElem?_eq_getElem hjl];rfl⟩)
   simp only[H9,ha,Bool.not_true,Bool.or_false]at this;exact this
  ·rw[List.getD_eq_getElem?_getD,List.getElem?_eq_none (by omega)]at ha;cases ha
 simp only[cond_true,M.ah,Option.some.injEq]at h;subst h
 have pos:∀k j,posOf ρ 0 k=some j->ρ[j]?=some k:=fun k j hp=>by
  have:=(Ac ρ 0 k j hp).2;simpa using this
 have hkeep:∀k,k<lh.length->(lh.getD k .dead).mine=false->(ru ρ lh r0.2).getD k .dead=lh.getD k .dead:=fun k hk hm=>by
  rw[xZ,if_pos hk];unfold zF;split
  ·rw[hm];rfl
  ·rfl
 refine⟨⟨by simp[ru],fun k hk hw=>hkeep k hk (by unfold ag.mine;rw[hw];simp)⟩,fun σ w args' hr hargs=> ?_⟩
 let X':Nat->Prop:=fun b=>b<w.heap.size/\∀(j k:Nat) (p:Pl),ρ[j]?=some k->(lh.getD k .dead).mine=true->σ k=some p->p.b≠b
 have own:∀k,(lh.getD k .dead).mine=true->(lh.getD k .dead).owned=true:=fun k hk=>by
  unfold ag.mine at hk;rw[Bool.and_eq_true]at hk;exact hk.1
 have hXX:∀b,X b->X' b:=fun b hb=>⟨Nat.lt_of_lt_of_le (hB b hb) hr.below.size,fun j k p _ hm hk e=>((hr.blk k p hk).1 (own k hm)).1 (e▸hb)⟩
 have hfoc:∀j k,ρ[j]?=some k->(ρ.map (uY ρ lh)).getD j .dead=uY ρ lh k:=fun j k hk=>by
  rw[List.getD_eq_getElem?_getD,List.getElem?_map,hk];rfl
 have hfo:∀k,(uY ρ lh k).owned=true->(lh.getD k .dead).mine=true:=fun k hk=>by
  unfold uY at hk;cases hm:(lh.getD k .dead).mine with
  |true=>rfl
  |false=>rw[hm,cond_false,zO]at hk;cases hk
 have hfa:∀k,(uY ρ lh k).alive=true->(lh.getD k .dead).alive=true:=fun k hh=>by
  unfold uY at hh;cases hm:(lh.getD k .dead).mine
  ·rw[hm,cond_false]at hh
   have:=UA hh;rwa[jJ]at this
  ·rw[hm,cond_true,jJ]at hh;exact hh
 have hfn:∀k,(uY ρ lh k).aM=none\/(uY ρ lh k).aM=some none:=fun k=>by
  unfold uY;cases hm:(lh.getD k .dead).mine
  ·exact aab _
  ·rw[cond_true,lW];exact .inr (jd (own k hm))
 have hr0:HR X' w 0 (pull ρ σ) (ρ.map (uY ρ lh)) w:=by
  refine⟨fun k hk=>hk.1,Kept.refl _ _,⟨fun _ _=>False,fun _ _ h=>h.elim,fun _ _ _ h=>h.elim,fun k p hk=> ?_,fun k k' p p' a a' hk hk' ha _ _=> ?_⟩,fun k p hk=> ?_,fun k p hk=> ?_,fun k k' p p' hk hk' ho hl hbb=> ?_,fun k p hk=> ?_⟩
  ·obtain⟨k0,h1,_⟩:=dG hk
   rw[hfoc k k0 h1];rcases hfn k0 with e|e
   ·rw[e];trivial
   ·rw[e];exact fun _ h=>h
  ·obtain⟨k0,h1,_⟩:=dG hk
   rw[hfoc k k0 h1]at ha;rcases hfn k0 with e|e<;>(rw[e]at ha;cases ha)
  ·obtain⟨k0,h1,_⟩:=dG hk
   simp only[List.length_map];exact(List.getElem?_eq_some_iff.1 h1).1
  ·obtain⟨k0,_,h2⟩:=dG hk
   exact hr.lt k0 p h2
  ·obtain⟨j,h1,h2⟩:=dG hk
   obtain⟨j',h1',h2'⟩:=dG hk';rw[hfoc k j h1]at ho;rw[hfoc k' j' h1']at hl;have:=hr.inj j j' p p' h2 h2' (own j (hfo j ho)) (hfa j' hl) hbb;subst this;exact xH hnd h1 h1'
  ·obtain⟨j,h1,h2⟩:=dG hk
   rw[hfoc k j h1];have hb:=(hr.blk j p h2).renamed (wD ρ σ);unfold uY;cases hm:(lh.getD j .dead).mine with
   |true=>exact hb.sets fun _ hx=>hx.2 k j p h1 hm h2 rfl
   |false=>exact hb.weak.sets fun ho=>by rw[zO]at ho;cases ho
 have ha0:dY (pull ρ σ) (args.map (ren (posOf ρ 0) 4)).toArray args':=by
  obtain⟨h1,h2⟩:=Cw (σ':=pull ρ σ) (h:=ren (posOf ρ 0) 4) hargs.1 fun i x y hx hy=>(hargs.2 i x y hx hy).renamed (wD ρ σ) 4 x y
  exact⟨h1,h2⟩
 have alv:X' 0:=hXX 0 hX0;obtain⟨_,hcall⟩:=h0 X' w alv (fun k hk=>hk.1) (hT X w0 w hX0 Mt hr.below) _ _ _ hF
 refine(hcall (pull ρ σ) w args' hr0 ha0).mono fun e w' hh=> ?_
 obtain⟨v',rfl,σ0,fQ,hv,hr'⟩:=hh;simp only[List.length_map]at fQ;let σ':Nat->Option Pl:=fun k=>if k<lh.length then σ k else σ0 (ρ.length+(k-lh.length))
 have hold:∀k,k<lh.length->σ' k=σ k:=fun k hk=>if_pos hk
 have hnw:∀k,lh.length<=k->σ' k=σ0 (ρ.length+(k-lh.length)):=fun k hk=>if_neg (by omega)
 have hLe:Le σ σ':=fun k p hk=>by rw[hold k (hr.dom k p hk)];exact hk
 have AB:∀j k,ρ[j]?=some k->σ0 j=σ k:=fun j k hk=>by
  rw[fQ.2 j (List.getElem?_eq_some_iff.1 hk).1];unfold pull;rw[hk];rfl
 have abJ:Ren (yc ρ lh.length) σ0 σ':=fun j k p hj hk=>by
  unfold yc at hj;cases hc:Nat.blt j ρ.length with
  |true=>
   rw[hc,cond_true]at hj;rw[hold k (hlt j k hj), <-AB j k hj];exact hk
  |false=>
   rw[hc,cond_false,Option.some.injEq]at hj
   have:ρ.length<=j:=by
    rcases Nat.lt_or_ge j ρ.length with hh|hh
    ·rw[show Nat.blt j ρ.length=true by simpa[Nat.blt_eq]using hh]at hc;cases hc
    ·exact hh
   rw[hnw k (by omega),show ρ.length+(k-lh.length)=j by omega];exact hk
 have small:∀k,(∃j,posOf ρ 0 k=some j/\(lh.getD k .dead).mine=true/\k<lh.length)\/(k<lh.length/\(ru ρ lh r0.2).getD k .dead=lh.getD k .dead/\∀j:Nat,ρ[j]?=some k->(lh.getD k .dead).mine=false)\/lh.length<=k:=by
  intro k;by_cases hk:k<lh.length
  ·cases hp:posOf ρ 0 k with
   |some j=>
    cases hm:(lh.getD k .dead).mine with
    |true=>exact .inl ⟨j,rfl,rfl,hk⟩
    |false=>exact .inr (.inl ⟨hk,hkeep k hk hm,fun _ _=>rfl⟩)
   |none=>
    refine .inr (.inl ⟨hk,?_,fun j hj=> ?_⟩)
    ·rw[xZ,if_pos hk];unfold zF;rw[hp]
    ·obtain⟨q,hq⟩:=Ho ρ 0 j k hj
     rw[hp]at hq;cases hq
  ·exact .inr (.inr (by omega))
 have KW:∀k j,posOf ρ 0 k=some j->(lh.getD k .dead).mine=true->k<lh.length->(ru ρ lh r0.2).getD k .dead=qJ (yc ρ lh.length) (r0.2.getD j .dead):=fun k j hp hm hk=>by
  rw[xZ,if_pos hk];unfold zF;rw[hp];simp only[hm,cond_true]
 have Gb:∀k,lh.length<=k->(ru ρ lh r0.2).getD k .dead=qJ (yc ρ lh.length) (r0.2.getD (ρ.length+(k-lh.length)) .dead):=fun k hk=>by
  rw[xZ,if_neg (by omega)]
 have hin:∀k p,k<lh.length->(∀j:Nat,ρ[j]?=some k->(lh.getD k .dead).mine=false)->(lh.getD k .dead).alive=true->σ k=some p->X' p.b:=fun k p hk hn ha hs=>by
  refine⟨hr.lt k p hs,fun j k1 p1 hj hm h1 e=> ?_⟩
  have:=hr.inj k1 k p1 p h1 hs (own k1 hm) ha e;subst this;rw[hn j hj]at hm;cases hm
 have hab:iB X 0 σ' (ru ρ lh r0.2) w':=by
  obtain⟨F,a1,a2,a3,a4⟩:=hr.ab
  have NK:∀k p,σ0 k=some p->(r0.2.getD k .dead).aM=none\/(r0.2.getD k .dead).aM=some none:=fun k p hk=>by
   obtain⟨F0,_,_,b3,_⟩:=hr'.ab;have:=b3 k p hk;cases hx:(r0.2.getD k .dead).aM with
   |none=>exact .inl rfl
   |some o=>
    cases o with
    |none=>exact .inr rfl
    |some a=>rw[hx]at this;exact this.elim
  have out:∀j,j<w.heap.size->¬X' j->∃k p,σ k=some p/\(lh.getD k .dead).aM=some none/\p.b=j:=fun j hj hx=>by
   refine Classical.byContradiction fun hh=>hx ⟨hj,fun j' k p h1 hm h2 e=>hh ⟨k,p,h2,jd (own k hm),e⟩⟩
  refine iB.to (lh:=lh) (σ:=σ) ⟨F,a1,a2,a3,a4⟩ hr'.below.size (fun j _ hj=>.inl hj) (fun j hj=> ?_) fun k p hk=> ?_
  ·by_cases hx:X' j
   ·exact .inl (hr'.below.block j hx)
   ·exact .inr (out j hj hx)
  ·rcases small k with⟨j,hp,hm,hkl⟩|⟨hkl,hge,hne⟩|hkl
   ·rw[KW k j hp hm hkl,lW]
    rw[hold k hkl]at hk;have hk0:σ0 j=some p:=(AB j k (pos k j hp)).trans hk;rcases NK j p hk0 with e|e
    ·exact .inl e
    ·rw[e]
     exact .inr (.inl ⟨k,p,hk,rfl,jd (own k hm),fun _ _ _ _ _ _ ha=>by cases ha⟩)
   ·rw[hge]
    rw[hold k hkl]at hk;refine .inr (.inl ⟨k,p,hk,rfl,rfl,fun k' p' a a' hk' eb ha ha'=> ?_⟩)
    rcases small k' with⟨j',hp',hm',hkl'⟩|⟨hkl',hge',hne'⟩|hkl'
    ·rw[KW k' j' hp' hm' hkl',lW]at ha'
     rw[hold k' hkl']at hk';rcases NK j' p' ((AB j' k' (pos k' j' hp')).trans hk')with e|e<;>(rw[e]at ha';cases ha')
    ·rw[hge']at ha'
     rw[hold k' hkl']at hk';exact a4 k' k p' p a' a hk' hk ha' ha eb
    ·rw[Gb k' hkl',lW]at ha'
     rw[hnw k' hkl']at hk';rcases NK _ p' hk' with e|e<;>(rw[e]at ha';cases ha')
   ·rw[Gb k hkl,lW]
    rw[hnw k hkl]at hk;rcases NK _ p hk with e|e
    ·exact .inl e
    ·rw[e]
     have hal:=hnew (ρ.length+(k-lh.length)) (by omega) (Dm.2 (by rw[e];simp))
     have hnx:=((hr'.blk _ p hk).1 hal).1;by_cases hs:w.heap.size<=p.b
     ·exact .inr (.inr ⟨hs,rfl⟩)
     ·obtain⟨k0,p0,h1,h2,h3⟩:=out p.b (by omega) hnx
      exact .inr (.inl ⟨k0,p0,h1,h3,h2,fun _ _ _ _ _ _ ha=>by cases ha⟩)
 refine⟨v',rfl,σ',⟨hLe,fun k hk=>hold k hk⟩,hv.renamed abJ 4 _ _,hr.hn,hr.below.trans (hr'.below.mono hXX),hab,fun k p hk=> ?_,fun k p hk=> ?_,fun k k' p p' hk hk' ho hl hbb=> ?_,fun k p hk=> ?_⟩
 ·by_cases hkl:k<lh.length
  ·simp[ru];omega
  ·rw[hnw k (by omega)]at hk
   have:=hr'.dom _ _ hk;simp[ru];omega
 ·by_cases hkl:k<lh.length
  ·rw[hold k hkl]at hk
   exact Nat.lt_of_lt_of_le (hr.lt k p hk) hr'.below.size
  ·rw[hnw k (by omega)]at hk
   exact hr'.lt _ _ hk
 ·
  have Vk:∀j p,σ0 j=some p->(r0.2.getD j .dead).owned=true->¬X' p.b:=fun j p hj hj2=>((hr'.blk j p hj).1 hj2).1
  rcases small k with⟨j,hp,hm,hkl⟩|⟨hkl,hge,hne⟩|hkl
  ·rw[KW k j hp hm hkl,lV]at ho
   rw[hold k hkl]at hk;have hk0:σ0 j=some p:=(AB j k (pos k j hp)).trans hk;rcases small k' with⟨j',hp',hm',hkl'⟩|⟨hkl',hge',hne'⟩|hkl'
   ·rw[KW k' j' hp' hm' hkl',jJ]at hl
    rw[hold k' hkl']at hk';have:=hr'.inj j j' p p' hk0 ((AB j' k' (pos k' j' hp')).trans hk') ho hl hbb;subst this;have e1:=pos k j hp;rw[pos k' j hp']at e1;exact(Option.some.inj e1).symm
   ·rw[hge']at hl
    rw[hold k' hkl']at hk';exact absurd (hbb▸hin k' p' hkl' hne' hl hk') (Vk j p hk0 ho)
   ·rw[Gb k' hkl',jJ]at hl
    rw[hnw k' hkl']at hk';have:=hr'.inj j _ p p' hk0 hk' ho hl hbb;have hjl:=(List.getElem?_eq_some_iff.1 (pos k j hp)).1;omega
  ·rw[hge]at ho
   rw[hold k hkl]at hk;have hXp:=hin k p hkl hne (oU ho) hk;rcases small k' with⟨j',hp',hm',hkl'⟩|⟨hkl',hge',hne'⟩|hkl'
   ·rw[hold k' hkl']at hk'
    exact(hr.inj k' k p' p hk' hk (own k' hm') (oU ho) hbb.symm).symm
   ·rw[hge']at hl
    rw[hold k' hkl']at hk';exact hr.inj k k' p p' hk hk' ho hl hbb
   ·rw[Gb k' hkl',jJ]at hl
    rw[hnw k' hkl']at hk';exact absurd (hbb▸hXp) (Vk _ p' hk' (hnew _ (by omega) hl))
  ·rw[Gb k hkl,lV]at ho
   rw[hnw k hkl]at hk;rcases small k' with⟨j',hp',hm',hkl'⟩|⟨hkl',hge',hne'⟩|hkl'
   ·rw[KW k' j' hp' hm' hkl',jJ]at hl
    rw[hold k' hkl']at hk';have:=hr'.inj _ j' p p' hk ((AB j' k' (pos k' j' hp')).trans hk') ho hl hbb;have hjl:=(List.getElem?_eq_some_iff.1 (pos k' j' hp')).1;omega
   ·rw[hge']at hl
    rw[hold k' hkl']at hk';exact absurd (hbb▸hin k' p' hkl' hne' hl hk') (Vk _ p hk ho)
   ·rw[Gb k' hkl',jJ]at hl
    rw[hnw k' hkl']at hk';have:=hr'.inj _ _ p p' hk hk' ho hl hbb;omega
 ·rcases small k with⟨j,hp,hm,hkl⟩|⟨hkl,hge,hne⟩|hkl
  ·rw[KW k j hp hm hkl]
   rw[hold k hkl]at hk;have hb:=(hr'.blk j p ((AB j k (pos k j hp)).trans hk));exact(hb.renamed abJ).sets fun ho hx=>(hb.1 (by rwa[lV]at ho)).1 (hXX _ hx)
  ·rw[hge]
   rw[hold k hkl]at hk;cases ha:(lh.getD k .dead).alive with
   |false=>
    cases hd:lh.getD k .dead with
    |dead=>exact⟨fun e=>(by cases e),trivial⟩
    |_=>rw[hd]at ha;cases ha
   |true=>
    have hXp:=hin k p hkl hne ha hk;have hblk:=hr'.below.block p.b hXp;exact(hr.blk k p hk).mono hLe hblk
  ·rw[Gb k hkl]
   rw[hnw k hkl]at hk;have hb:=hr'.blk _ p hk;exact(hb.renamed abJ).sets fun ho hx=>(hb.1 (by rwa[lV]at ho)).1 (hXX _ hx)
end Go.Sx
namespace Go.Sx
open Go Go.RowKit
abbrev bZ:=List Value->List ag->M (Value×List ag)
def DX(l:List (FuncId×bZ))(f:FuncId):Option bZ:=
 match l.find? fun e=>Nat.beq e.1 f with
 |some e=>some e.2
 |none=>none
def D5(l:List (FuncId×Nat×(Nat->St->M (Exit×St))))(f:FuncId)(id:Nat):Option (Nat->St->M (Exit×St)):=
 match l.find? fun e=>Nat.beq e.1 f&&Nat.beq e.2.1 id with
 |some e=>some e.2.2
 |none=>none
theorem jL{P:Program}{l:List (FuncId×Func)}(h:l=[]):∀e∈l,iL P e.1 e.2:=by subst h;intro e he;cases he
theorem R9{P:Program}{f:FuncId}{fn:Func}{l:List (FuncId×Func)}(h1:iL P f fn)(h:∀e∈l,iL P e.1 e.2):∀e∈(f,fn)::l,iL P e.1 e.2:=by
 intro e he;rcases List.mem_cons.1 he with rfl|he
 ·exact h1
 ·exact h e he
theorem fk{P:Program}{f:FuncId}{fn:Func}{l:List (FuncId×Func)}(h1:P.funcs[f]?=some fn)(h:∀e∈l,iL P e.1 e.2)(a:(fn.name== "runtime.NumGoroutine")=false:=by kernel_rfl)(b:fn.body.isSome=true:=by kernel_rfl):∀e∈(f,fn)::l,iL P e.1 e.2:=R9 ⟨h1,a,b⟩ h
def Sound(P:Program)(T:World->Prop)(f:FuncId)(F:bZ):Prop:=
 (∃fn,iL P f fn)/\∀(X:Nat->Prop) (w0:World),X 0->eB X w0->T w0->∀args lh r,(F args lh).get=some r->dK P X w0 0 f args lh r
theorem Sound.frame{P:Program}{T:World->Prop}(hT:∀(X:Nat->Prop) w w',X 0->T w->Kept X w w'->T w'){f:FuncId}{F:bZ}(h:Sound P T f F):Sound P T f (IE F):=⟨h.1,ab5 hT h.2⟩
def lH(P:Program)(T:World->Prop)(l:List (FuncId×bZ)):Prop:=∀e∈l,Sound P T e.1 e.2
theorem jI{P:Program}{T:World->Prop}:lH P T []:=fun e he=>by cases he
theorem bL{P:Program}{T:World->Prop}{f:FuncId}{F:bZ}{l:List (FuncId×bZ)}(h1:Sound P T f F)(h:lH P T l):lH P T ((f,F)::l):=by
 intro e he;rcases List.mem_cons.1 he with rfl|he
 ·exact h1
 ·exact h e he
theorem Nf{P:Program}{T:World->Prop}{l l':List (FuncId×bZ)}(h1:lH P T l)(h:lH P T l'):lH P T (l++l'):=by
 intro e he;rcases List.mem_append.1 he with he|he
 ·exact h1 e he
 ·exact h e he
theorem aba{P:Program}{T:World->Prop}{l:List (FuncId×bZ)}(h:lH P T l){X:Nat->Prop}{w0:World}(h0:X 0)(hB:eB X w0)(hT:T w0):
  ∀f F,DX l f=some F->(∃fn,iL P f fn)/\∀args lh r,(F args lh).get=some r->dK P X w0 0 f args lh r:=by
 intro f F hf;unfold DX at hf;split at hf
 ·rename_i e he
  cases hf;have hm:=h e (List.mem_of_find?_eq_some he);rw[beq_true (List.find?_some (p:=fun e:FuncId×bZ=>Nat.beq e.1 f) he)]at hm
  exact⟨hm.1,hm.2 X w0 h0 hB hT⟩
 ·cases hf
def vT(P:Program)(T:World->Prop)(f:FuncId)(id:Nat)(F:Nat->St->M (Exit×St)):Prop:=
 ∃fn c,P.funcs[f]?=some fn/\fn.body=some c/\(sF id c).isSome=true/\∀(X:Nat->Prop) (w0:World),X 0->eB X w0->T w0->∀base s e s',base<=s.lh.length->(F base s).get=some (e,s')->dM P X w0 0 base (.block id (xY id c)) s e s'
def wX(P:Program)(T:World->Prop)(l:List (FuncId×Nat×(Nat->St->M (Exit×St)))):Prop:=∀e∈l,vT P T e.1 e.2.1 e.2.2
theorem iO{P:Program}{T:World->Prop}:wX P T []:=fun e he=>by cases he
theorem Nk{P:Program}{T:World->Prop}{f:FuncId}{id:Nat}{F:Nat->St->M (Exit×St)}{l:List (FuncId×Nat×(Nat->St->M (Exit×St)))}(h1:vT P T f id F)(h:wX P T l):wX P T ((f,id,F)::l):=by
 intro e he;rcases List.mem_cons.1 he with rfl|he
 ·exact h1
 ·exact h e he
theorem abm{P:Program}{T:World->Prop}{l:List (FuncId×Nat×(Nat->St->M (Exit×St)))}(h:wX P T l){X:Nat->Prop}{w0:World}(h0:X 0)(hB:eB X w0)(hT:T w0):
  ∀f id F,D5 l f id=some F->∃fn c,P.funcs[f]?=some fn/\fn.body=some c/\(sF id c).isSome=true/\∀base s e s',base<=s.lh.length->(F base s).get=some (e,s')->dM P X w0 0 base (.block id (xY id c)) s e s':=by
 intro f id F hf;unfold D5 at hf;split at hf
 ·rename_i e he
  cases hf;have hb:=List.find?_some (p:=fun e:FuncId×Nat×(Nat->St->M (Exit×St))=>Nat.beq e.1 f&&Nat.beq e.2.1 id) he
  rw[Bool.and_eq_true]at hb;obtain⟨fn,c,h1,h2,h3,h4⟩:=h e (List.mem_of_find?_eq_some he);rw[beq_true hb.1]at h1;rw[beq_true hb.2]at h3 h4;exact⟨fn,c,h1,h2,h3,h4 X w0 h0 hB hT⟩
 ·cases hf
def tH(P:Program)(fns:List (FuncId×Func))(eqs:List (TypeId×List Bool))(Ag:List (FuncId×bZ))(qQ:List (FuncId×Nat×(Nat->St->M (Exit×St)))):Env:=
 {P:=P,G:=0,fns:=fns,eqs:=eqs,LU:=DX Ag,qQ:=D5 qQ}
theorem l5{P:Program}{T:World->Prop}{fns:List (FuncId×Func)}{eqs:List (TypeId×List Bool)}{Ag:List (FuncId×bZ)}{qQ:List (FuncId×Nat×(Nat->St->M (Exit×St)))}
  (he:∀e∈eqs,pU P e.1 e.2=true) (hm:P.follows .mixedOrders=true) (hf:∀e∈fns,iL P e.1 e.2) (ho:lH P T Ag) (hl:wX P T qQ) {X:Nat->Prop} {w0:World} (h0:X 0) (hB:eB X w0) (hT:T w0):
  iA (tH P fns eqs Ag qQ) X w0 where
 eqs:=he
 mixed:=hm
 fns:=hf
 LU:=aba ho h0 hB hT
 qQ:=by
  intro f id F hF fn c hmem hb b' hbm base s e s' hbs hs;obtain⟨fn2,c2,h1,h2,h3,h4⟩:=abm hl h0 hB hT f id F hF;have h5:=(hf _ hmem).1;rw[h1]at h5;cases h5;rw[h2]at hb;cases hb;rw[Hy h3 hbm];exact h4 base s e s' hbs hs
theorem vT.aeO{P:Program}{T:World->Prop}{f:FuncId}{fn:Func}{c:Code}{id:Nat}{N b0:Nat}{keep Az:List Nat}{F:List Value->List ag->M (Exit×List Value×List ag)}
  (hf:P.funcs[f]?=some fn) (hb:fn.body=some c) (ho:(sF id c).isSome=true)
  (h:∀(X:Nat->Prop) (w0:World),X 0->eB X w0->T w0->∀vals lh e vals' bV,(F vals lh).get=some (e,vals',bV)->b0<=lh.length->dM P X w0 0 b0 (.block id (xY id c)) (unpack N keep vals lh) e (unpack N Az vals' bV)):
  vT P T f id (Ik N keep Az F b0):=
 ⟨fn,c,hf,hb,ho,fun X w0 h0 hB hT base s e s' hbs hs=>abo (Nat.zero_le _) (h X w0 h0 hB hT) hbs hs⟩
noncomputable def sure(P:Prop):Bool:= @decide P (Classical.propDecidable P)
theorem jv{P:Prop}:sure P=true↔P:=by
 unfold sure;exact @decide_eq_true_iff P (Classical.propDecidable P)
theorem jh{P:Prop}(h:P):sure P=true:=jv.2 h
def iR(E:Env)(fuel:Nat)(f:FuncId)(args:List Value)(lh:List ag):M (Value×List ag):=
 .bind (call E fuel f args lh) fun r=>.bind (xG 1 [0] lh.length ⟨[r.1],r.2⟩) fun q=>match q.1 with
  |[v]=>.ret (v,q.2)
  |_=>.bad
theorem A8{E:Env}{X:Nat->Prop}{w0:World}(hE:iA E X w0)(hG:E.G=0){fuel:Nat}{f:FuncId}{args:List Value}{lh:List ag}{r:Value×List ag}(h:(iR E fuel f args lh).get=some r):dK E.P X w0 E.G f args lh r:=by
 obtain⟨r1,h1,h⟩:=M.ay h;obtain⟨q,h2,h⟩:=M.ay h;split at h
 ·rename_i v hv
  simp only[M.ah,Option.some.injEq]at h;subst h;obtain⟨_,hk,hc⟩:=sO hE fuel f args lh r1 h1;obtain⟨k1,k2⟩:=xE (n:=X) (w0:=w0) (G:=E.G) h2 (by rw[hG];exact Nat.zero_le _) hk.1
  have hkB:=(hk.SN (Nat.le_refl _)).trans k1;refine⟨⟨hkB.1,hkB.2⟩,fun σ w args' hr ha=>(hc σ w args' hr ha).mono fun e w' hh=> ?_⟩
  obtain⟨v',rfl,σ',fQ,kS,hr'⟩:=hh
  obtain⟨Bw,hx,hrel⟩:=k2 σ' {tmps:= #[v'],defers:=[]} w' ⟨rfl,fun t=>by
   cases t with
   |zero=>exact kS
   |succ t=>exact .any _,rfl,hr'⟩
  refine⟨v',rfl,Bw,⟨fun k p hkk=> ?_,fun k hkk=>(hx k hkk).trans (fQ.2 k hkk)⟩,?_,hrel.hr⟩
  ·have hkl:=hr.dom k p hkk
   rw[hx k hkl,fQ.2 k hkl];exact hkk
  ·have:=hrel.tm 0
   rw[hv]at this;exact this
 ·cases h
theorem Sound.of_run{P:Program}{T:World->Prop}{f:FuncId}{fn:Func}(hf:iL P f fn){F:bZ}{E:Env}(hP:E.P=P)(hG:E.G=0)(hE:∀(X:Nat->Prop) (w0:World),X 0->eB X w0->T w0->iA E X w0)(fuel:Nat)
  (h:∀args lh r,(F args lh).get=some r->(iR E fuel f args lh).get=some r):Sound P T f F:=by
 refine⟨⟨fn,hf⟩,fun X w0 h0 hB hT args lh r hr=> ?_⟩
 have:=A8 (hE X w0 h0 hB hT) hG (h args lh r hr);rw[hP,hG]at this;exact this
end Go.Sx
namespace Go.Sx
open Go Go.RowKit
def JJ(K:Nat->Prop)(P:Program)(T:World->Prop)(f:FuncId)(F:bZ):Prop:=
 (∃fn,iL P f fn)/\∀(X:Nat->Prop) (w0:World),(∀k,K k->X k)->eB X w0->T w0->∀args lh r,(F args lh).get=some r->dK P X w0 0 f args lh r
theorem Sound.toG{K:Nat->Prop}{P:Program}{T T':World->Prop}{f:FuncId}{F:bZ}(hK:K 0)(hT:∀w,T' w->T w)(h:Sound P T f F):JJ K P T' f F:=⟨h.1,fun X w0 h0 hB hT'=>h.2 X w0 (h0 0 hK) hB (hT w0 hT')⟩
end Go.Sx
