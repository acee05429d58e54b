/- Group CaF: laws of the proof, joined. No condition of its own. -/
import Derived.Test.YteaflphddciglaaGreatDoorCaE
import Derived.Laws.StructEq
import Derived.Deep.AppendSrc
set_option linter.unusedVariables false
set_option linter.unusedSimpArgs false
namespace Go.Sx
open Go Go.RowKit
section
variable{P:Program} {n:Nat->Prop} {w0:World} {G:Kj} {σ:Nat->Option Pl} {lh:List ag} {w:World}
theorem Nu{v:Value}{xs:List Value}(h:cellsOf v=some xs):v.cells=xs.toArray:=by
 unfold cellsOf at h;split at h
 ·rename_i c
  cases hc:c.all uB<;>simp[hc]at h
  subst h;simp[Value.cells]
 ·cases h
 ·cases h
 ·rename_i h1 h2 h3
  cases h;cases v<;>first|rfl|exact absurd rfl (h1 _)
theorem YS{v v':Value}(h:VR σ v v')(hk:(cellsOf v).isSome=true):dY σ v.cells v'.cells:=by
 obtain⟨xs,hx⟩:=Option.isSome_iff_exists.1 hk;obtain⟨xs',h1,h2,h3,_⟩:=AV h hx;rw[Nu hx,h1];exact⟨by simp[h2],fun i x y hx hy=>h3 i x y (by simpa using hx) (by simpa using hy)⟩
theorem dY.set{a a':Array Value}(h:dY σ a a')(i:Nat){v v':Value}(hv:VR σ v v'):dY σ (a.setIfInBounds i v) (a'.setIfInBounds i v'):=by
 refine⟨by simp[h.1],fun j x y hx hy=> ?_⟩
 rw[Array.getElem?_setIfInBounds]at hx hy;rw[<-h.1]at hy;split at hx
 ·rename_i e
  rw[if_pos e]at hy;split at hx
  ·rename_i e2
   rw[if_pos e2]at hy;cases hx;cases hy;exact hv
  ·cases hx
 ·rename_i e
  rw[if_neg e]at hy;exact h.2 j x y hx hy
theorem Mx(off:Nat):∀(cs cs':List Value) (k:Nat) (z z':Array Value),dY σ z z'->cs.length=cs'.length->(∀(i:Nat) (x y:Value),cs[i]?=some x->cs'[i]?=some y->VR σ x y)->
  dY σ ((cs.zipIdx k).foldl (fun acc (c,j)=>acc.setIfInBounds (off+j) c) z) ((cs'.zipIdx k).foldl (fun acc (c,j)=>acc.setIfInBounds (off+j) c) z')
 |[],[],k,z,z',hz,_,_=>hz
 |[],_::_,_,_,_,_,h,_=>by simp at h
 |_::_,[],_,_,_,_,h,_=>by simp at h
 |c::cs,c'::cs',k,z,z',hz,hl,h=>by
  simp only[List.zipIdx_cons,List.foldl_cons];exact Mx off cs cs' (k+1) _ _ (hz.set _ (h 0 c c' rfl rfl)) (by simpa using hl) fun i x y hx hy=>h (i+1) x y (by simpa using hx) (by simpa using hy)
theorem AP(f:Nat->Option (Nat×Nat)):∀(ps ps':List (Nat×Value)) (z z':Array Value) (cs:Array Value),dY σ z z'->ps.map (·.1)=ps'.map (·.1)->
  (∀(i:Nat) (x y:Nat×Value),ps[i]?=some x->ps'[i]?=some y->VR σ x.2 y.2)->allKnown (ps.map (·.2))=true->Instr.fill f z ps=some cs->∃cs',Instr.fill f z' ps'=some cs'/\dY σ cs cs'
 |[],[],z,z',cs,hz,_,_,_,h=>by simp[Instr.fill]at h;subst h;exact⟨z',rfl,hz⟩
 |[],_::_,_,_,_,_,h,_,_,_=>by simp at h
 |_::_,[],_,_,_,_,h,_,_,_=>by simp at h
 |(i,v)::r,(i',v')::r',z,z',cs,hz,hi,hv,hk,h=>by
  simp only[List.map_cons,List.cons.injEq]at hi;obtain⟨rfl,hi⟩:=hi;simp only[allKnown,List.map_cons,List.all_cons,Bool.and_eq_true]at hk;have hvv:=YS (hv 0 _ _ rfl rfl) hk.1;simp only[Instr.fill]at h ⊢;cases hf:f i with
  |none=>rw[hf]at h;cases h
  |some os=>
   obtain⟨off,size⟩:=os;rw[hf]at h;simp only at h ⊢;rw[<-hvv.1, <-hz.1];split at h
   ·cases h
   ·rename_i hc
    rw[if_neg hc];refine AP f r r' _ _ cs ?_ hi (fun i x y hx hy=>hv (i+1) x y (by simpa using hx) (by simpa using hy)) hk.2 h
    rw[<-Array.foldl_toList, <-Array.foldl_toList,Array.toList_zipIdx,Array.toList_zipIdx];exact Mx off _ _ 0 _ _ hz (by simpa using hvv.1) fun j x y hx hy=>hvv.2 j x y (by simpa using hx) (by simpa using hy)
theorem Rz{z:Value}(hz:plain z=true)(hk:∀c,z≠.tuple c):dY σ z.cells z.cells:=by
 have:=VR.plain σ hz;refine⟨rfl,fun i x y hx hy=> ?_⟩
 obtain rfl:x=y:=Option.some.inj (hx.symm.trans hy)
 cases z<;>first
  |exact absurd rfl (hk _)
  |(simp only[Value.cells]at hx hy
    match i,hx with
    |0,hx=>simp at hx;subst hx;exact this
    |i+1,hx=>simp at hx)
  |(rename_i c
    simp only[plain]at hz;rw[Array.all_eq_true]at hz;obtain⟨hi,rfl⟩:=Array.getElem?_eq_some_iff.1 hx;exact VR.aN σ (hz i hi))
theorem run_places{fs:List Field}{ps:List (Nat×Nat)}(h:places P fs=some ps)(w:World):
  (fs.mapM fun f=>(do pure (f.offset, <-sizeOf f.type):Sem (Nat×Nat))).run P w=.ok ps w:=by
 induction fs generalizing ps with
 |nil=>simp[places]at h;subst h;simp
 |cons f r ih=>
  simp only[places]at h;cases hi:P.info? f.type with
  |none=>simp[hi]at h
  |some i=>
   cases hp:places P r with
   |none=>simp[hi,hp]at h
   |some qs=>
    simp[hi,hp]at h;subst h;simp only[List.mapM_cons,Sem.run_bind,run_sizeOf hi,Result.andThen_ok,Sem.run_pure,ih hp]
theorem LK{α:Type}(parts:Array (Nat×α))(f g:α->Value)(h:∀p∈parts,VR σ (f p.2) (g p.2)):
  ((parts.map fun(i,x)=>(i,f x)).toList.map (·.1))=((parts.map fun(i,x)=>(i,g x)).toList.map (·.1))/\
  ∀(i:Nat) (x y:Nat×Value),(parts.map fun(i,x)=>(i,f x)).toList[i]?=some x->(parts.map fun(i,x)=>(i,g x)).toList[i]?=some y->VR σ x.2 y.2:=by
 refine⟨by simp[Function.comp_def],fun i x y hx hy=> ?_⟩
 simp only[Array.toList_map,List.getElem?_map]at hx hy;cases hp:parts.toList[i]? with
 |none=>rw[hp]at hx;cases hx
 |some u=>rw[hp]at hx hy;cases hx;cases hy;exact h u (Array.mem_toList_iff.1 (List.mem_of_getElem? hp))
theorem Va(z:Value):(∃c,z=.tuple c)\/∀c,z≠.tuple c:=by
 cases z<;>first|exact .inl ⟨_,rfl⟩|exact .inr fun c=>by simp
theorem zK{z:Value}(h:plain z=true):dY σ z.cells z.cells:=by
 rcases Va z with⟨c,rfl⟩|hz
 ·refine⟨rfl,fun i x y hx hy=> ?_⟩
  obtain rfl:x=y:=Option.some.inj (hx.symm.trans hy);simp only[Value.cells]at hx;match i,hx with
  |0,hx=>simp at hx;subst hx;exact VR.plain σ h
  |i+1,hx=>simp at hx
 ·exact Rz h hz
theorem QL{t:TypeId}{α:Type}(parts:Array (Nat×α))(f g:α->Value)(hfg:∀p∈parts,VR σ (f p.2) (g p.2)){v:Value}(h:(QM P t (parts.map fun(i,x)=>(i,f x))).get=some v)(w:World):
  ∃v',(Instr.build t (parts.map fun(i,x)=>(i,g x))).run P w=.ok v' w/\VR σ v v':=by
 obtain⟨p1,p2⟩:=LK parts f g hfg;unfold QM at h;split at h
 ·rename_i z fs hz hu
  obtain⟨hz1,hz2⟩:=lU hz w;split at h
  ·rename_i ps hps hk
   split at h
   ·rename_i cs hf
    simp at h;subst h;obtain⟨cs',h1,h2⟩:=AP _ _ _ z.cells z.cells cs (zK (σ:=σ) hz2) p1 p2 hk hf;refine⟨.agg cs',?_,VR.agg h2.1 h2.2⟩;have hm:=run_places hps w;simp only[Instr.build,Sem.run_bind,hz1,Result.andThen_ok,run_underlying hu,Array.mapM_eq_mapM_toList,Sem.run_map,hm];have e:(fun(x:Nat)=>(List.toArray ps)[x]?)=fun(i:Nat)=>ps[i]?:=by funext i;simp
    rw[e,h1];rfl
   ·cases h
  ·cases h
 ·rename_i z len e hz hu
  obtain⟨hz1,hz2⟩:=lU hz w;split at h
  ·rename_i i hi hk
   split at h
   ·rename_i cs hf
    simp at h;subst h;obtain⟨cs',h1,h2⟩:=AP _ _ _ z.cells z.cells cs (zK (σ:=σ) hz2) p1 p2 hk hf;refine⟨.agg cs',?_,VR.agg h2.1 h2.2⟩;simp only[Instr.build,Sem.run_bind,hz1,Result.andThen_ok,run_underlying hu,run_sizeOf hi];rw[h1];rfl
   ·cases h
  ·cases h
 ·cases h
theorem Eu(hn:eB n w){t:TypeId}{len:Nat}{α:Type}(parts:Array (Nat×α))(f g:α->Value)(hfg:∀p∈parts,VR σ (f p.2) (g p.2)){r:(Nat->Value)×ag}(h:(yG P t len (parts.map fun(i,x)=>(i,f x))).get=some r):
  ∃v' o,(Instr.buildSlice t len (parts.map fun(i,x)=>(i,g x))).run P w=.ok v' (w.alloc o)/\sS n σ r v' w o:=by
 obtain⟨p1,p2⟩:=LK parts f g hfg;unfold yG at h;split at h
 ·rename_i e hu
  split at h
  ·rename_i i z hi hz hk
   obtain⟨hz1,hz2⟩:=lU hz w;split at h
   ·rename_i cs hle hf
    simp at h;subst h;have hzz:=zK (σ:=σ) hz2
    have hv:dY σ ((Array.range (len*i.size)).map fun j=>z.cells[j%z.cells.size]!) ((Array.range (len*i.size)).map fun j=>z.cells[j%z.cells.size]!):=by
     refine⟨rfl,fun j x y hx hy=> ?_⟩
     obtain rfl:x=y:=Option.some.inj (hx.symm.trans hy);rw[Array.getElem?_map]at hx;cases hj:(Array.range (len*i.size))[j]? with
     |none=>rw[hj]at hx;cases hx
     |some q=>
      rw[hj]at hx;cases hx;show VR σ (z.cells[q%z.cells.size]!) (z.cells[q%z.cells.size]!);rw[getElem!_def];cases hq:z.cells[q%z.cells.size]? with
      |none=>exact VR.bool _
      |some u=>exact hzz.2 _ u u hq hq
    obtain⟨cs',h1,h2⟩:=AP _ _ _ _ _ cs hv p1 p2 hk hf;refine⟨.slice (some ⟨w.heap.size,0,none⟩) len len,.cells cs' e,?_,⟨w.heap.size,0,0,0⟩,⟨rfl,rfl⟩,fun σ' a hs ha=>⟨VR.slice (off:=0) ha,BR.FO hn e (by simp[h2.1]) fun j x y hx hy=>(h2.2 j x y (by simpa using hx) hy).mono hs⟩⟩
    ·have hle':¬len*i.size>2^24:=by have:=fo hle;omega
     by_cases h0:len*i.size=0
     ·have e0:((Array.range (len*i.size)).map fun j=>z.cells[j%z.cells.size]!)=((Array.range (len*i.size)).map fun j=>(#[]:Array Value)[j%(#[]:Array Value).size]!):=by rw[h0];simp
      rw[e0]at h1;simp only[Instr.buildSlice,Sem.run_bind,run_underlying hu,Result.andThen_ok,run_sizeOf hi];rw[if_neg hle',if_pos h0];simp only[Sem.run_bind,Sem.run_pure,Result.andThen_ok];rw[h1];simp[newRow]
     ·simp only[Instr.buildSlice,Sem.run_bind,run_underlying hu,Result.andThen_ok,run_sizeOf hi]
      rw[if_neg hle',if_neg h0];simp only[Sem.run_bind,Sem.run_pure,Result.andThen_ok,hz1];rw[h1];simp[newRow]
   ·cases h
  ·cases h
 ·cases h
theorem Gf{s:TypeId}{x x' v:Value}{f:Nat}(hx:VR σ x x')(h:(AQ P s x f).get=some v)(w:World):∃v',(Instr.fieldAt s x' f).run P w=.ok v' w/\VR σ v v':=by
 unfold AQ at h;split at h
 ·rename_i fs hu
  split at h
  ·rename_i fd hfd
   split at h
   ·rename_i i hi
    split at h
    ·rename_i k off hb
     have hs:i.size≠0:=fun e=>by rw[e]at hb;cases hb
     simp at h;subst h;obtain⟨p,hk,rfl⟩:=hx.gL;refine⟨_,by simp[Instr.fieldAt,run_underlying hu,hfd,Instr.sureAddr,fieldPlace,run_sizeOf hi,hs];rfl,?_⟩
     rw[Addr.add_lit,Nat.add_assoc];exact VR.ptr hk
    ·rename_i k r j hb
     have hs:i.size≠0:=fun e=>by rw[e]at hb;cases hb
     simp at h;subst h;obtain⟨p,hk,rfl⟩:=hx.qL;refine⟨_,by simp[Instr.fieldAt,run_underlying hu,hfd,Instr.sureAddr,fieldPlace,run_sizeOf hi,hs];rfl,?_⟩
     rw[Addr.add_lit,show p.o+(r*p.wd+j)+fd.offset=p.o+(r*p.wd+(j+fd.offset))by omega]
     exact VR.lD hk
    ·cases h
   ·cases h
  ·cases h
 ·cases h
theorem EF{t:TypeId}{a a':Array Value}{off:Nat}{v:Value}(ha:dY σ a a')(h:(NH P t a off).get=some v)(w:World):∃v',(part t a' off).run P w=.ok v' w/\VR σ v v':=by
 unfold NH at h;split at h
 ·rename_i hag
  simp at h;obtain⟨y,h1,h2⟩:=ha.get off h;exact⟨y,by simp[part,Mk hag,h1],h2⟩
 ·rename_i m hag
  simp at h;subst h;obtain⟨h1,h2⟩:=Ml hag w;refine⟨.agg (a'.extract off (off+m)),by simp[part,h1,h2],VR.agg (by simp[ha.1]) fun i x y hx hy=> ?_⟩
  rw[Array.getElem?_extract]at hx hy;rw[<-ha.1]at hy;split at hx
  ·rename_i hi
   rw[if_pos hi]at hy;exact ha.2 _ x y hx hy
  ·cases hx
 ·cases h
theorem Qp{s:TypeId}{x x' v:Value}{f:Nat}(hx:VR σ x x')(h:(Qq P s x f).get=some v)(w:World):∃v',(Instr.field s x' f).run P w=.ok v' w/\VR σ v v':=by
 unfold Qq at h;split at h
 ·rename_i fs cs hu
  split at h
  ·rename_i fd hfd
   cases hx with
   |agg hs hp=>
    obtain⟨v',h1,h2⟩:=EF (P:=P) ⟨hs,hp⟩ h w;exact⟨v',by simp[Instr.field,run_underlying hu,hfd,asAgg,h1],h2⟩
  ·cases h
 ·cases h
theorem xN{α:Type}{i:Int}{f:Nat->M α}{a:α}:∀n,(PX i n f).get=some a->∃j,j<n/\i=(j:Int)/\(f j).get=some a
 |0,h=>by cases h
 |n+1,h=>by
  rcases M.af h with⟨hb,h⟩|⟨_,h⟩
  ·exact⟨n,by omega,by simpa using hb,h⟩
  ·obtain⟨j,h1,h2⟩:=xN n h
   exact⟨j,by omega,h2⟩
theorem gI{i:Int}{n:Nat}(h:gu i n=true):0<=i/\i<(n:Int):=by
 unfold gu at h;simpa using h
theorem iF{t e:TypeId}{inf:TypeInfo}{a:Addr}{len cap:Nat}{k:IntKind}{i:Int}(hu:P.underlying t=some (.slice e))(hi:P.info? e=some inf)(h:0<=i/\i<(len:Int))(w:World):
  (Instr.indexAt t (.slice (some a) len cap) (.int k i)).run P w=.ok (.pointer (some (a.add (i.toNat*inf.size)))) w:=by
 simp[Instr.indexAt,run_underlying hu,asIntOf,run_sizeOf hi,h]
theorem G6{t e:TypeId}{inf:TypeInfo}{a:Addr}{len:Nat}{k:IntKind}{i:Int}(hu:P.underlying t=some (.array len e))(hi:P.info? e=some inf)(h:0<=i/\i<(len:Int))(w:World):
  (Instr.indexAt t (.pointer (some a)) (.int k i)).run P w=.ok (.pointer (some (a.add (i.toNat*inf.size)))) w:=by
 simp[Instr.indexAt,run_underlying hu,asIntOf,run_sizeOf hi,h,Instr.sureAddr]
theorem VR.aH{k:IntKind}{i:Int}{v':Value}(h:VR σ (.int k i) v'):v'=.int k i:=h.aD rfl
theorem VR.p9{k off l c:Nat}{v':Value}(h:VR σ (.slice (some ⟨k,off,none⟩) l c) v'):∃p,σ k=some p/\v'=.slice (some ⟨p.b,p.o+off,none⟩) l c:=by
 cases h with
 |slice h=>exact⟨_,h,rfl⟩
theorem VR.OH{k i l c:Nat}{v':Value}(h:VR σ (.slice (some ⟨k,i,some 0⟩) l c) v'):∃p,σ k=some p/\v'=.slice (some ⟨p.b,p.o+i*p.wd,none⟩) l c:=by
 cases h with
 |si h=>exact⟨_,h,rfl⟩
theorem VR.yL{k l:Nat}{v':Value}(h:VR σ (.slice (some ⟨k,0,some 1⟩) l 0) v'):∃p,σ k=some p/\l<=p.cap/\v'=.slice (some ⟨p.b,p.o,none⟩) l p.cap:=by
 cases h with
 |vec h hl=>exact⟨_,h,hl,rfl⟩
theorem FV(hr:HR n w0 G σ lh w){t:TypeId}{x x' ix ix' v:Value}(hx:VR σ x x')(hix:VR σ ix ix')(h:(oh P t x ix lh).get=some v):
  ∃v',(Instr.indexAt t x' ix').run P w=.ok v' w/\VR σ v v':=by
 unfold oh at h;split at h
 ·rename_i ik i
  obtain rfl:=hix.aH;split at h
  ·rename_i len e k off hu
   obtain⟨p,hk,rfl⟩:=hx.gL;split at h
   ·rename_i inf hi
    obtain⟨j,hj,rfl,hv⟩:=xN _ h;simp at hv;subst hv;refine⟨_,G6 hu hi ⟨by omega,by omega⟩ w,?_⟩
    rw[Addr.add_lit,Int.toNat_natCast,Nat.add_assoc];exact VR.ptr hk
   ·cases h
  ·rename_i e k off len cap hu
   obtain⟨p,hk,rfl⟩:=hx.p9;split at h
   ·rename_i inf hi
    split at h
    ·obtain⟨j,hj,rfl,hv⟩:=xN _ h
     simp at hv;subst hv;refine⟨_,iF hu hi ⟨by omega,by omega⟩ w,?_⟩
     rw[Addr.add_lit,Int.toNat_natCast,Nat.add_assoc];exact VR.ptr hk
    ·split at h
     ·rename_i hsz
      rcases M.af h with⟨hb,hv⟩|⟨_,hv⟩
      ·simp at hv;subst hv
       refine⟨_,iF hu hi (gI hb) w,?_⟩;rw[Addr.add_lit,hsz,Nat.mul_one,Nat.add_assoc];exact VR.ptr hk
      ·cases hv
     ·cases h
    ·cases h
   ·cases h
  ·rename_i e k r len cap hu
   obtain⟨p,hk,rfl⟩:=hx.OH;split at h
   ·rename_i inf hi
    split at h
    ·rename_i ow wr wd m g hl
     rcases M.af h with⟨hb,h⟩|⟨_,hv⟩
     ·rcases M.af h with⟨hb2,hv⟩|⟨_,hv⟩
      ·simp at hv;subst hv
       refine⟨_,iF hu hi (gI hb2) w,?_⟩;have hwd:=(hr.sj hk hl).1;rw[Addr.add_lit, <-beq_true hb, <-hwd,show p.o+r*p.wd+i.toNat*p.wd=p.o+((r+i.toNat)*p.wd+0)by rw[Nat.add_mul];omega]
       exact VR.lD hk
      ·cases hv
     ·cases hv
    ·cases h
   ·cases h
  ·rename_i e k who len cap hu
   obtain⟨p,hk,ho,rfl⟩:∃p,σ k=some p/\p.o=who*p.wd/\x'=.slice (some ⟨p.b,0,none⟩) len cap:=by
    cases hx with
    |win h ho=>exact⟨_,h,ho,rfl⟩
   split at h
   ·rename_i inf hi
    split at h
    ·rename_i ow wr rr c hl
     rcases M.af h with⟨hb,h⟩|⟨_,hv⟩
     ·rcases M.af h with⟨hb2,h⟩|⟨_,hv⟩
      ·rcases M.af h with⟨hb3,hv⟩|⟨_,hv⟩
       ·simp at hv;subst hv
        refine⟨_,iF hu hi (gI hb2) w,?_⟩;have hwd:=(hr.zN hk hl).1;obtain rfl:=of_decide_eq_true hb3;rw[Addr.add_lit, <-beq_true hb, <-hwd,Int.toNat_natCast,Nat.zero_add, <-ho];exact VR.ptr (off:=0) hk
       ·cases hv
      ·cases hv
     ·cases hv
    ·cases h
   ·cases h
  ·rename_i e k len cap hu
   obtain⟨A,c',rfl,hA⟩:∃A c',x'=.slice A len c'/\((∃p,σ k=some p/\A=some ⟨p.b,p.o,none⟩)\/len=0):=by
    cases hx with
    |arg h hc=>exact⟨_,_,rfl,h⟩
   split at h
   ·rename_i inf hi
    split at h
    ·split at h
     ·rename_i hsz
      rcases M.af h with⟨hb,hv⟩|⟨_,hv⟩
      ·simp at hv;subst hv
       rcases hA with⟨p,hk,rfl⟩|rfl
       ·refine⟨_,iF hu hi (gI hb) w,?_⟩
        rw[Addr.add_lit,hsz,Nat.mul_one];exact VR.ptr hk
       ·exact absurd (gI hb).2 (by have:=(gI hb).1;omega)
      ·cases hv
     ·cases h
    ·rename_i ow wr wd m g hl
     rcases M.af h with⟨hb,h⟩|⟨_,hv⟩
     ·rcases M.af h with⟨hb2,hv⟩|⟨_,hv⟩
      ·simp at hv;subst hv
       rcases hA with⟨p,hk,rfl⟩|rfl
       ·refine⟨_,iF hu hi (gI hb2) w,?_⟩
        have hwd:=(hr.sj hk hl).1;rw[Addr.add_lit, <-beq_true hb, <-hwd,show p.o+i.toNat*p.wd=p.o+(i.toNat*p.wd+0)by omega]
        exact VR.lD hk
       ·exact absurd (gI hb2).2 (by have:=(gI hb2).1;omega)
      ·cases hv
     ·cases hv
    ·cases h
   ·cases h
  ·rename_i e k len cap hu
   split at h
   ·rename_i inf hi
    have hx0:=hx
    obtain⟨p,hk,hl0,rfl⟩:∃p,σ k=some p/\len<=p.cap/\x'=.slice (some ⟨p.b,p.o,none⟩) len p.cap:=by
     cases hx with
     |vec h hl=>exact⟨_,h,hl,rfl⟩
    split at h
    ·split at h
     ·rename_i hsz
      rcases M.af h with⟨hb,hv⟩|⟨_,hv⟩
      ·simp at hv;subst hv
       refine⟨_,iF hu hi (gI hb) w,?_⟩;rw[Addr.add_lit,hsz,Nat.mul_one];exact VR.ptr hk
      ·cases hv
     ·cases h
    ·rename_i ow wr wd m g hl
     rcases M.af h with⟨hb,h⟩|⟨_,hv⟩
     ·rcases M.af h with⟨hb2,hv⟩|⟨_,hv⟩
      ·simp at hv;subst hv
       refine⟨_,iF hu hi (gI hb2) w,?_⟩;have hwd:=(hr.sj hk hl).1;rw[Addr.add_lit, <-beq_true hb, <-hwd,show p.o+i.toNat*p.wd=p.o+(i.toNat*p.wd+0)by omega]
       exact VR.lD hk
      ·cases hv
     ·cases hv
    ·cases h
   ·cases h
  ·cases h
 ·cases h
theorem PV{t:TypeId}{x x' ix ix' v:Value}(hx:VR σ x x')(hix:VR σ ix ix')(h:(PW P t x ix).get=some v)(w:World):
  ∃v',(Instr.index t x' ix').run P w=.ok v' w/\VR σ v v':=by
 unfold PW at h;split at h
 ·rename_i k i len e cs hu
  obtain rfl:=hix.aH;split at h
  ·rename_i inf hi
   obtain⟨j,hj,rfl,hv⟩:=xN _ h;cases hx with
   |agg hs hp=>
    obtain⟨v',h1,h2⟩:=EF (P:=P) ⟨hs,hp⟩ hv w;refine⟨v',?_,h2⟩;have hb:(0:Int)<=(j:Int)/\(j:Int)<(len:Int):=⟨by omega,by omega⟩
    simp only[Instr.index,asIntOf,Sem.run_bind,Sem.run_pure,Result.andThen_ok,run_underlying hu];rw[if_pos hb];simp[run_sizeOf hi,h1]
  ·cases h
 ·cases h
theorem iT{x x':Value}{y r:Nat}(c:BoundsCode)(hx:VR σ x x')(h:(uK x y).get=some r)(w:World):(Instr.sliceBound x' y c).run P w=.ok r w:=by
 unfold uK at h;split at h
 ·rename_i k i
  obtain rfl:=hx.aH;rcases M.af h with⟨hb,hv⟩|⟨_,hv⟩
  ·simp at hv hb;subst hv
   simp[Instr.sliceBound,asIntOf,hb]
  ·cases hv
 ·cases h
def lM(σ:Nat->Option Pl):Option Value->Option Value->Prop
 |none,none=>True
 |some x,some y=>VR σ x y
 |_,_=>False
theorem pI{lo lo' hi hi' mx mx':Option Value}{len cap:Nat}{r:Nat×Nat×Nat}(b:Bool)(h1:lM σ lo lo')(h2:lM σ hi hi')(h3:lM σ mx mx')(h:(mY len cap lo hi mx).get=some r)(w:World):
  (Instr.sliceBounds b len cap lo' hi' mx').run P w=.ok r w:=by
 unfold mY at h;obtain⟨m,hm,h⟩:=M.ay h;obtain⟨q,hq,h⟩:=M.ay h;obtain⟨l,hl,h⟩:=M.ay h;simp at h;subst h;unfold Instr.sliceBounds;cases mx<;>cases mx'<;>simp only[lM]at h3<;>try exact h3.elim
 ·simp at hm;subst hm
  cases hi<;>cases hi'<;>simp only[lM]at h2<;>try exact h2.elim
  ·simp at hq;subst hq
   cases lo<;>cases lo'<;>simp only[lM]at h1<;>try exact h1.elim
   ·simp at hl;subst hl;simp
   ·simp[iT _ h1 hl]
  ·cases lo<;>cases lo'<;>simp only[lM]at h1<;>try exact h1.elim
   ·simp at hl;subst hl;simp[iT _ h2 hq]
   ·simp[iT _ h2 hq,iT _ h1 hl]
 ·cases hi<;>cases hi'<;>simp only[lM]at h2<;>try exact h2.elim
  ·cases hq
  ·cases lo<;>cases lo'<;>simp only[lM]at h1<;>try exact h1.elim
   ·simp at hl;subst hl;simp[iT _ h3 hm,iT _ h2 hq]
   ·simp[iT _ h3 hm,iT _ h2 hq,iT _ h1 hl]
theorem lM.map(f g:Operand->Value)(o:Option Operand)(h:∀x∈o,VR σ (f x) (g x)):lM σ (o.map f) (o.map g):=by
 cases o with
 |none=>trivial
 |some x=>exact h x rfl
end
end Go.Sx
namespace Go.Sx
open Go Go.RowKit
section
variable{P:Program} {n:Nat->Prop} {w0:World} {G:Kj} {σ:Nat->Option Pl} {lh:List ag} {w:World}
theorem Dh{len c c':Nat}{lo hi:Option Value}{mv:Value}{r:Nat×Nat×Nat}(hc:c<=c')(h:(mY len c lo hi (some mv)).get=some r):(mY len c' lo hi (some mv)).get=some r:=by
 unfold mY at h ⊢;obtain⟨m,hm,h⟩:=M.ay h
 have hm':(uK mv c').get=some m:=by
  simp only at hm;unfold uK at hm ⊢;split at hm
  ·rename_i k i
   rcases M.af hm with⟨hb,hv⟩|⟨_,hv⟩
   ·simp only[Bool.and_eq_true,decide_eq_true_eq]at hb
    simp only[M.fe];rw[if_pos (by simp;omega)]
    exact hv
   ·cases hv
  ·cases hm
 rw[M.get_bind];simp only;rw[hm'];cases hi<;>exact h
theorem OI{t:TypeId}{x x' v:Value}{lo lo' hi hi' mx mx':Option Value}(hx:VR σ x x')(h1:lM σ lo lo')(h2:lM σ hi hi')(h3:lM σ mx mx')(h:(OJ P t x lo hi mx).get=some v)(w:World):
  ∃v',(Instr.sliceAt t x' lo' hi' mx').run P w=.ok v' w/\VR σ v v':=by
 unfold OJ at h;split at h
 ·rename_i m e k off hu
  obtain⟨p,hk,rfl⟩:=hx.gL;split at h
  ·rename_i inf hi0
   rcases M.af h with⟨_,hv⟩|⟨hb,hv⟩
   ·cases hv
   ·simp at hv;subst hv
    cases lo'<;>simp only[lM]at h1
    cases hi'<;>simp only[lM]at h2
    cases mx'<;>simp only[lM]at h3
    refine⟨_,?_,VR.slice hk⟩;simp[Instr.sliceAt,run_underlying hu,Instr.sureAddr,Instr.sliceBounds,run_sizeOf hi0,Addr.add_zero']
  ·cases h
 ·rename_i e k off len cap hu
  obtain⟨p,hk,rfl⟩:=hx.p9;split at h
  ·rename_i inf hi0
   obtain⟨r,hr,h⟩:=M.ay h;have hb:=pI (P:=P) true h1 h2 h3 hr w
   have run:(Instr.sliceAt t (.slice (some ⟨p.b,p.o+off,none⟩) len cap) lo' hi' mx').run P w=.ok (.slice (if r.2.2=r.1 then some ⟨p.b,p.o+off,none⟩else some ⟨p.b,p.o+off+r.1*inf.size,none⟩) (r.2.1-r.1) (r.2.2-r.1)) w:=by
    simp only[Instr.sliceAt,Instr.slice,Sem.run_bind,run_underlying hu,Result.andThen_ok,hb,run_sizeOf hi0,Sem.run_pure,Option.map_some,Addr.add_lit]
   rcases M.af h with⟨hc,hv⟩|⟨hc,hv⟩
   ·simp at hv;subst hv
    rw[if_pos (beq_true hc)]at run;exact⟨_,run,VR.slice hk⟩
   ·simp at hv;subst hv
    rw[if_neg (fun e=>by rw[e,Nat.beq_refl]at hc;cases hc)]at run
    refine⟨_,run,?_⟩;rw[Nat.add_assoc];exact VR.slice hk
  ·cases h
 ·rename_i e k len cc hu
  obtain⟨A,c',rfl,hA,hle⟩:∃A c',x'=.slice A len c'/\((∃p,σ k=some p/\A=some ⟨p.b,p.o,none⟩)\/len=0)/\len<=c':=by
   cases hx with
   |arg h hc=>exact⟨_,_,rfl,h,hc⟩
  split at h
  ·rename_i inf mv hi0
   rcases M.af h with⟨h0,h⟩|⟨_,h⟩
   ·have h0:=kg h0
    obtain⟨p,hk,rfl⟩:∃p,σ k=some p/\A=some ⟨p.b,p.o,none⟩:=by
     rcases hA with h|h
     ·exact h
     ·omega
    obtain⟨r,hr,h⟩:=M.ay h;have hr':(mY len c' lo hi (some mv)).get=some r:=Dh hle hr;have hb:=pI (P:=P) true h1 h2 h3 hr' w
    have run:(Instr.sliceAt t (.slice (some ⟨p.b,p.o,none⟩) len c') lo' hi' mx').run P w=.ok (.slice (if r.2.2=r.1 then some ⟨p.b,p.o,none⟩else some ⟨p.b,p.o+r.1*inf.size,none⟩) (r.2.1-r.1) (r.2.2-r.1)) w:=by
     simp only[Instr.sliceAt,Instr.slice,Sem.run_bind,run_underlying hu,Result.andThen_ok,hb,run_sizeOf hi0,Sem.run_pure,Option.map_some,Addr.add_lit]
    rcases M.af h with⟨hc,hv⟩|⟨hc,hv⟩
    ·simp only[M.ah,Option.some.injEq]at hv;subst hv
     rw[if_pos (beq_true hc)]at run;exact⟨_,run,VR.slice (off:=0) hk⟩
    ·simp only[M.ah,Option.some.injEq]at hv;subst hv
     rw[if_neg (fun e=>by rw[e,Nat.beq_refl]at hc;cases hc)]at run
     refine⟨_,run,?_⟩;have:=VR.slice (off:=0+r.1*inf.size) (l:=r.2.1-r.1) (c:=r.2.2-r.1) hk;simpa using this
   ·cases h
  ·cases h
 ·rename_i e k off l c hu
  obtain⟨p,hk,hle,rfl⟩:∃p,σ k=some p/\l<=p.cap/\x'=.slice (some ⟨p.b,p.o,none⟩) l p.cap:=by
   cases hx with
   |vec h hl=>exact⟨_,h,hl,rfl⟩
  obtain⟨a,ha⟩:∃a:Addr,a=⟨p.b,p.o,none⟩:=⟨_,rfl⟩;split at h
  ·rename_i inf kk kk' hi0
   simp at h;subst h;cases lo'<;>simp only[lM]at h1
   cases hi'<;>simp only[lM]at h2
   cases mx'<;>simp only[lM]at h3
   obtain rfl:=h2.aH;obtain rfl:=h3.aH;rw[<-ha];refine⟨.slice (some a) 0 0,?_,VR.empty a⟩;simp[Instr.sliceAt,Instr.slice,run_underlying hu,Instr.sliceBounds,Instr.sliceBound,asIntOf,run_sizeOf hi0]
  ·rename_i inf kk kk' am1 hi0
   simp at h;subst h;cases lo'<;>simp only[lM]at h1
   cases hi'<;>simp only[lM]at h2
   cases mx'<;>simp only[lM]at h3
   obtain rfl:=h1.aH;obtain rfl:=h2.aH;obtain rfl:=h3.aH;rw[<-ha];refine⟨.slice (some a) 0 0,?_,VR.empty a⟩;simp[Instr.sliceAt,Instr.slice,run_underlying hu,Instr.sliceBounds,Instr.sliceBound,asIntOf,run_sizeOf hi0]
  ·rename_i inf mv hi1 _ _
   obtain⟨r,hr,h⟩:=M.ay h;have hr':=Dh hle hr;have hb:=pI (P:=P) true h1 h2 h3 hr' w
   have run:(Instr.sliceAt t (.slice (some ⟨p.b,p.o,none⟩) l p.cap) lo' hi' mx').run P w=.ok (.slice (if r.2.2=r.1 then some ⟨p.b,p.o,none⟩else some ⟨p.b,p.o+r.1*inf.size,none⟩) (r.2.1-r.1) (r.2.2-r.1)) w:=by
    simp only[Instr.sliceAt,Instr.slice,Sem.run_bind,run_underlying hu,Result.andThen_ok,hb,run_sizeOf hi1,Sem.run_pure,Option.map_some,Addr.add_lit]
   rcases M.af h with⟨hc,hv⟩|⟨hc,hv⟩
   ·simp only[M.ah,Option.some.injEq]at hv;subst hv
    rw[if_pos (beq_true hc)]at run;exact⟨_,run,VR.slice (off:=0) hk⟩
   ·simp only[M.ah,Option.some.injEq]at hv;subst hv
    rw[if_neg (fun e=>by rw[e,Nat.beq_refl]at hc;cases hc)]at run
    refine⟨_,run,?_⟩;have:=VR.slice (off:=0+r.1*inf.size) (l:=r.2.1-r.1) (c:=r.2.2-r.1) hk;simpa using this
  ·cases h
 ·rename_i e hu
  obtain rfl:=hx.aD rfl;split at h
  ·rename_i inf hi0
   obtain⟨r,hr,h⟩:=M.ay h;have hb:=pI (P:=P) true h1 h2 h3 hr w;simp at h;subst h;refine⟨.slice none (r.2.1-r.1) (r.2.2-r.1),?_,VR.kM _ _⟩;simp[Instr.sliceAt,Instr.slice,run_underlying hu,hb,run_sizeOf hi0]
  ·cases h
 ·cases h
theorem KZ{x x' v:Value}{i:Nat}(hx:VR σ x x')(h:(Gi x i).get=some v)(w:World):∃v',(Instr.extract x' i).run P w=.ok v' w/\VR σ v v':=by
 unfold Gi at h;split at h
 ·rename_i vs
  simp at h;cases hx with
  |any=>simp at h
  |tuple hs hp=>
   obtain⟨y,h1,h2⟩:=(show dY σ _ _ from⟨hs,hp⟩).get i h
   exact⟨y,by simp[Instr.extract,h1],h2⟩
 ·cases h
def xS(P:Program):List Field->Nat->List Bool->Bool
 |[],_,[]=>true
 |f::r,k,b::p=>Nat.beq f.offset k&&(f.name != "_")&&(match P.underlying f.type with|some .bool=>b|some (.int _)=> !b|_=>false)&&xS P r (k+1) p
 |_,_,_=>false
def pU(P:Program)(t:TypeId)(pat:List Bool):Bool:=
 match P.underlying t with
 |some (.struct fs)=> !(P.stoodInHeld t)&& !(P.eqGuardType P.depth t)&&xS P fs.toList 0 pat
 |_=>false
theorem BX{t:TypeId}{cs:Array Value}{k:Nat}{v:Value}(ht:P.underlying t=some .bool\/∃q,P.underlying t=some (.int q))(hv:cs[k]?=some v)(w:World):(part t cs k).run P w=.ok v w:=by
 have hag:(isAgg t).run P w=.ok false w:=by
  rcases ht with h|⟨q,h⟩<;>simp[isAgg,run_underlying h]
 simp[part,hag,hv]
theorem Dc(d:Nat)(xs ys:Array Value)(w:World):∀(fs:List Field) (k:Nat) (pat:List Bool) (b:Bool),xS P fs k pat=true->
  fD pat (xs.toList.drop k) (ys.toList.drop k)=some b->(Op.eqFields (d+1) xs ys fs).run P w=.ok b w
 |[],k,pat,b,hf,h=>by
  cases pat with
  |nil=>
   cases hx:xs.toList.drop k<;>cases hy:ys.toList.drop k<;>simp[fD,hx,hy]at h
   subst h;rfl
  |cons c p=>cases hf
 |f::r,k,pat,b,hf,h=>by
  cases pat with
  |nil=>cases hf
  |cons c p=>
   simp only[xS,Bool.and_eq_true]at hf;obtain⟨⟨⟨ho,hn⟩,ht⟩,hr⟩:=hf;have ho':f.offset=k:=beq_true ho;have hn':f.name≠ "_" :=by simpa using hn
   have ht':P.underlying f.type=some .bool/\c=true\/(∃q,P.underlying f.type=some (.int q))/\c=false:=by
    split at ht
    ·rename_i hu;exact .inl ⟨hu,ht⟩
    ·rename_i q hu;exact .inr ⟨⟨q,hu⟩,by simpa using ht⟩
    ·cases ht
   cases hx:xs.toList.drop k with
   |nil=>cases c<;>simp[fD,hx]at h
   |cons x rx=>
    cases hy:ys.toList.drop k with
    |nil=>cases c<;>cases x<;>simp[fD,hx,hy]at h
    |cons y ry=>
     have gx:xs[k]?=some x:=by
      have:=List.getElem?_drop (xs:=xs.toList) (i:=k) (j:=0);rw[hx]at this;simpa using this.symm
     have gy:ys[k]?=some y:=by
      have:=List.getElem?_drop (xs:=ys.toList) (i:=k) (j:=0);rw[hy]at this;simpa using this.symm
     have dx:rx=xs.toList.drop (k+1):=by rw[<-List.drop_drop,hx];rfl
     have dy:ry=ys.toList.drop (k+1):=by rw[<-List.drop_drop,hy];rfl
     rw[hx,hy]at h
     have key:∀(e:Bool),(Op.equalIn (d+1) f.type x y).run P w=.ok e w->(∃b',fD p rx ry=some b'/\b=(e&&b'))->(Op.eqFields (d+1) xs ys (f::r)).run P w=.ok b w:=by
      rintro e he ⟨b',hb',rfl⟩;have ih:=Dc d xs ys w r (k+1) p b' hr (by rw[<-dx, <-dy];exact hb')
      have PY:P.underlying f.type=some .bool\/∃q,P.underlying f.type=some (.int q):=by
       rcases ht' with h|h
       ·exact .inl h.1
       ·exact .inr h.1
      simp only[Op.eqFields,hn',ne_eq,not_false_eq_true,if_true,Sem.run_bind];rw[ho',BX PY gx,Result.andThen_ok,BX PY gy,Result.andThen_ok,he,Result.andThen_ok];cases e
      ·simp
      ·simpa using ih
     rcases ht' with⟨hu,rfl⟩|⟨⟨q,hu⟩,rfl⟩
     ·cases x<;>cases y<;>simp only[fD]at h<;>try cases h
      rename_i a a';cases hq:fD p rx ry with
      |none=>rw[hq]at h;cases h
      |some b'=>
       rw[hq]at h;simp at h;exact key _ (run_equalIn_bool' w d f.type a a' hu) ⟨b',hq,h.symm⟩
     ·cases x<;>cases y<;>simp only[fD]at h<;>try cases h
      rename_i k1 a k2 a';by_cases hkk:k1=k2
      ·subst hkk
       cases hq:fD p rx ry with
       |none=>rw[hq]at h;simp at h
       |some b'=>
        rw[hq]at h;simp at h;exact key _ (run_equalIn_int w d f.type k1 q a a' hu) ⟨b',hq,h.symm⟩
      ·simp[hkk]at h
theorem Bn{t:TypeId}{pat:List Bool}(hok:pU P t pat=true){xs ys:Array Value}{b:Bool}(h:fD pat xs.toList ys.toList=some b)(o1 o2:Operand)(w:World):
  (eqGuard .eql t o1 o2 (.agg xs) (.agg ys)).run P w=.ok () w/\(eqGuard .neq t o1 o2 (.agg xs) (.agg ys)).run P w=.ok () w/\(Op.equal t (.agg xs) (.agg ys)).run P w=.ok b w:=by
 unfold pU at hok;split at hok
 ·rename_i fs hu
  simp only[Bool.and_eq_true,Bool.not_eq_true']at hok;obtain⟨⟨hs,hg⟩,hf⟩:=hok;refine⟨by simp[eqGuard,hg],by simp[eqGuard,hg],?_⟩
  have hfo:P.fieldsOf t=fs:=by unfold Program.fieldsOf;rw[hu]
  unfold Op.equal;rw[show Op.maxDepth=9998+1+1 from rfl,run_equalIn_struct w (9998+1) t xs ys (by rw[hfo];exact hu) hs,hfo]
  exact Dc 9998 xs ys w _ 0 pat b hf (by simpa using h)
 ·cases hok
theorem pG:∀(pat:List Bool) (xs ys:List Value) (b:Bool),fD pat xs ys=some b->(∀x∈xs,aN x=true)/\∀y∈ys,aN y=true
 |[],[],[],_,_=>⟨by simp,by simp⟩
 |[],[],_::_,_,h=>by simp[fD]at h
 |[],_::_,_,_,h=>by simp[fD]at h
 |c::p,[],_,_,h=>by cases c<;>simp[fD]at h
 |c::p,x::_,[],_,h=>by cases c<;>cases x<;>simp[fD]at h
 |c::p,x::r,y::r',b,h=>by
  cases c<;>cases x<;>cases y<;>simp only[fD]at h<;>try cases h
  ·rename_i k a k' a'
   by_cases hk:k=k'
   ·cases hq:fD p r r' with
    |none=>rw[hq]at h;simp[hk]at h
    |some e=>
     obtain⟨h1,h2⟩:=pG p r r' e hq;exact⟨List.forall_mem_cons.2 ⟨rfl,h1⟩,List.forall_mem_cons.2 ⟨rfl,h2⟩⟩
   ·simp[hk]at h
  ·cases hq:fD p r r' with
   |none=>rw[hq]at h;cases h
   |some e=>
    obtain⟨h1,h2⟩:=pG p r r' e hq;exact⟨List.forall_mem_cons.2 ⟨rfl,h1⟩,List.forall_mem_cons.2 ⟨rfl,h2⟩⟩
theorem dY.kP{a a':Array Value}(h:dY σ a a')(hp:∀x∈a.toList,aN x=true):a'=a:=by
 refine Array.ext h.1.symm fun i h1 h2=> ?_
 exact(h.2 i _ _ (Array.getElem?_eq_getElem h2) (Array.getElem?_eq_getElem h1)).aD (hp _ (by simp))
def vN(E:Env):Prop:=∀e∈E.eqs,pU E.P e.1 e.2=true
theorem Qs{E:Env}(hE:vN E){t:TypeId}{p:List Bool}(h:NR E t=some p):pU E.P t p=true:=by
 unfold NR at h;cases hf:E.eqs.find? fun e=>Nat.beq e.1 t with
 |none=>rw[hf]at h;cases h
 |some e=>
  rw[hf]at h;cases h;have h1:=List.find?_some hf;have h2:=hE e (List.mem_of_find?_eq_some hf);rw[beq_true h1]at h2;exact h2
theorem Bl{t e:TypeId}(hu:P.underlying t=some (.pointer e))(a:Option Addr)(w:World):(Op.equal t (.pointer a) (.pointer none)).run P w=.ok a.isNone w:=by
 have key:∀d,(Op.equalIn (d+1) t (.pointer a) (.pointer none)).run P w=.ok a.isNone w:=by
  intro d;cases a<;>simp[Op.equalIn,run_underlying hu]
 exact key 9999
theorem ug{t e:TypeId}(hu:P.underlying t=some (.slice e))(a:Option Addr)(l c:Nat)(w:World):(Op.equal t (.slice a l c) (.slice none 0 0)).run P w=.ok a.isNone w:=by
 have key:∀d,(Op.equalIn (d+1) t (.slice a l c) (.slice none 0 0)).run P w=.ok a.isNone w:=by
  intro d;cases a<;>simp[Op.equalIn,run_underlying hu]
 exact key 9999
theorem vw{t:TypeId}{d1 d2 d3}(hu:P.underlying t=some (.func d1 d2 d3))(f:Fn)(a c:Array Value)(w:World):(Op.equal t (.func f a c) .nilFunc).run P w=.ok false w:=by
 have key:∀d,(Op.equalIn (d+1) t (.func f a c) .nilFunc).run P w=.ok false w:=by
  intro d;simp[Op.equalIn,run_underlying hu]
 exact key 9999
theorem wm{t:TypeId}{d1 d2 d3}(hu:P.underlying t=some (.func d1 d2 d3))(w:World):(Op.equal t .nilFunc .nilFunc).run P w=.ok true w:=by
 have key:∀d,(Op.equalIn (d+1) t .nilFunc .nilFunc).run P w=.ok true w:=by
  intro d;simp[Op.equalIn,run_underlying hu]
 exact key 9999
set_option maxHeartbeats 1000000 in
theorem WA{E:Env}(hE:vN E){op:BinOp}{t:TypeId}{x x' y y' v:Value}(o1 o2:Operand)(hx:VR σ x x')(hy:VR σ y y')(h:(acA E op t x y).get=some v)(w:World):
  ∃v',(do eqGuard op t o1 o2 x' y';binOp op t x' y').run E.P w=.ok v' w/\VR σ v v':=by
 have kk:∀{k k':IntKind} {m:M Value},(M.br (decide (k=k')) m .bad).get=some v->k=k'/\m.get=some v:=by
  intro k k' m h;rcases M.af h with⟨hb,h⟩|⟨_,h⟩
  ·exact⟨by simpa using hb,h⟩
  ·cases h
 unfold acA at h;split at h
 ·obtain rfl:=hx.aH;obtain rfl:=hy.aH
  rcases M.af h with⟨_,h⟩|⟨hb,h⟩
  ·cases h
  ·simp only[M.ah,Option.some.injEq]at h;simp at hb;subst h
   exact⟨_,by simp only[eqGuard_at_int,binOp_shl,Op.shift,if_neg (Int.not_lt.2 hb),Sem.run_bind,Sem.run_pure,Result.andThen_ok],VR.int _ _⟩
 ·obtain rfl:=hx.aH;obtain rfl:=hy.aH
  rcases M.af h with⟨_,h⟩|⟨hb,h⟩
  ·cases h
  ·simp only[M.ah,Option.some.injEq]at h;simp at hb;subst h
   exact⟨_,by simp only[eqGuard_at_int,binOp_shr,Op.shift,if_neg (Int.not_lt.2 hb),Sem.run_bind,Sem.run_pure,Result.andThen_ok],VR.int _ _⟩
 ·obtain rfl:=hx.aH;obtain rfl:=hy.aH
  obtain⟨rfl,hk⟩:=kk h;simp only[M.ah,Option.some.injEq]at hk;subst hk;exact⟨_,by simp only[eqGuard_at_int,binOp_add,Op.intArith,Sem.run_bind,Sem.run_pure,Result.andThen_ok],VR.int _ _⟩
 ·obtain rfl:=hx.aH;obtain rfl:=hy.aH
  obtain⟨rfl,hk⟩:=kk h;simp only[M.ah,Option.some.injEq]at hk;subst hk;exact⟨_,by simp only[eqGuard_at_int,binOp_sub,Op.intArith,Sem.run_bind,Sem.run_pure,Result.andThen_ok],VR.int _ _⟩
 ·obtain rfl:=hx.aH;obtain rfl:=hy.aH
  obtain⟨rfl,hk⟩:=kk h;simp only[M.ah,Option.some.injEq]at hk;subst hk;exact⟨_,by simp only[eqGuard_at_int,binOp_mul,Op.intArith,Sem.run_bind,Sem.run_pure,Result.andThen_ok],VR.int _ _⟩
 ·obtain rfl:=hx.aH;obtain rfl:=hy.aH
  obtain⟨rfl,hk⟩:=kk h;clear h;rcases M.af hk with⟨_,h⟩|⟨hb,h⟩
  ·cases h
  ·simp only[M.ah,Option.some.injEq]at h;simp at hb;subst h
   exact⟨_,by simp only[eqGuard_at_int,binOp_quo,Op.intDiv,if_neg hb,Sem.run_bind,Sem.run_pure,Result.andThen_ok],VR.int _ _⟩
 ·obtain rfl:=hx.aH;obtain rfl:=hy.aH
  obtain⟨rfl,hk⟩:=kk h;clear h;rcases M.af hk with⟨_,h⟩|⟨hb,h⟩
  ·cases h
  ·simp only[M.ah,Option.some.injEq]at h;simp at hb;subst h
   exact⟨_,by simp only[eqGuard_at_int,binOp_rem,Op.intDiv,if_neg hb,Sem.run_bind,Sem.run_pure,Result.andThen_ok],VR.int _ _⟩
 ·obtain rfl:=hx.aH;obtain rfl:=hy.aH
  obtain⟨rfl,hk⟩:=kk h;simp only[M.ah,Option.some.injEq]at hk;subst hk;exact⟨_,by simp only[eqGuard_at_int,binOp_and,intBits_and,Sem.run_bind,Sem.run_pure,Result.andThen_ok],VR.int _ _⟩
 ·obtain rfl:=hx.aH;obtain rfl:=hy.aH
  obtain⟨rfl,hk⟩:=kk h;simp only[M.ah,Option.some.injEq]at hk;subst hk;exact⟨_,by simp only[eqGuard_at_int,binOp_or,intBits_or,Sem.run_bind,Sem.run_pure,Result.andThen_ok],VR.int _ _⟩
 ·obtain rfl:=hx.aH;obtain rfl:=hy.aH
  obtain⟨rfl,hk⟩:=kk h;simp only[M.ah,Option.some.injEq]at hk;subst hk;exact⟨_,by simp only[eqGuard_at_int,binOp_xor,intBits_xor,Sem.run_bind,Sem.run_pure,Result.andThen_ok],VR.int _ _⟩
 ·obtain rfl:=hx.aH;obtain rfl:=hy.aH
  obtain⟨rfl,hk⟩:=kk h;simp only[M.ah,Option.some.injEq]at hk;subst hk;exact⟨_,by simp only[eqGuard_at_int,binOp_andNot,intBits_andNot,Sem.run_bind,Sem.run_pure,Result.andThen_ok],VR.int _ _⟩
 ·obtain rfl:=hx.aH;obtain rfl:=hy.aH
  obtain⟨rfl,hk⟩:=kk h;simp only[M.ah,Option.some.injEq]at hk;subst hk;exact⟨_,by simp only[eqGuard_at_int,binOp_eql,Sem.run_bind,Sem.run_pure,Result.andThen_ok],VR.bool _⟩
 ·obtain rfl:=hx.aH;obtain rfl:=hy.aH
  obtain⟨rfl,hk⟩:=kk h;simp only[M.ah,Option.some.injEq]at hk;subst hk;exact⟨_,by simp only[eqGuard_at_int,binOp_neq,Sem.run_bind,Sem.run_pure,Result.andThen_ok],VR.bool _⟩
 ·obtain rfl:=hx.aH;obtain rfl:=hy.aH
  obtain⟨rfl,hk⟩:=kk h;simp only[M.ah,Option.some.injEq]at hk;subst hk;exact⟨_,by simp only[eqGuard_at_int,binOp_lss,Sem.run_bind,Sem.run_pure,Result.andThen_ok],VR.bool _⟩
 ·simp only[M.ah,Option.some.injEq]at h;subst h
  obtain rfl:=hy.aH;generalize hz:Value.iface 901 _=z at hx;cases hx<;>first|cases hz|skip
  ·exact⟨.bool false,by
    simp only[eqGuard_at_int,binOp_lss,Sem.run_bind,Sem.run_pure,Result.andThen_ok];rename_i W i;rw[decide_eq_false (show¬((W:Int)+(i:Int)<0)by omega)],VR.bool _⟩
 ·obtain rfl:=hx.aH;obtain rfl:=hy.aH
  obtain⟨rfl,hk⟩:=kk h;simp only[M.ah,Option.some.injEq]at hk;subst hk;exact⟨_,by simp only[eqGuard_at_int,binOp_leq,Sem.run_bind,Sem.run_pure,Result.andThen_ok],VR.bool _⟩
 ·obtain rfl:=hx.aH;obtain rfl:=hy.aH
  obtain⟨rfl,hk⟩:=kk h;simp only[M.ah,Option.some.injEq]at hk;subst hk;exact⟨_,by simp only[eqGuard_at_int,binOp_gtr,Sem.run_bind,Sem.run_pure,Result.andThen_ok],VR.bool _⟩
 ·obtain rfl:=hx.aH;obtain rfl:=hy.aH
  obtain⟨rfl,hk⟩:=kk h;simp only[M.ah,Option.some.injEq]at hk;subst hk;exact⟨_,by simp only[eqGuard_at_int,binOp_geq,Sem.run_bind,Sem.run_pure,Result.andThen_ok],VR.bool _⟩
 ·rename_i a b
  obtain rfl:=hx.aD rfl;obtain rfl:=hy.aD rfl;split at h
  ·rename_i hu
   simp at h;subst h;refine⟨_,?_,VR.bool _⟩;have:=run_equalIn_bool' w 9999 t a b hu;simp only[eqGuard_at_bool,binOp,Sem.run_bind,Sem.run_pure,Result.andThen_ok,Op.equal,Op.maxDepth,this]
  ·cases h
 ·rename_i a b
  obtain rfl:=hx.aD rfl;obtain rfl:=hy.aD rfl;split at h
  ·rename_i hu
   simp only[M.ah,Option.some.injEq]at h;subst h;refine⟨_,?_,VR.bool _⟩;have:=run_equalIn_bool' w 9999 t a b hu;simp only[eqGuard_at_bool,binOp,Sem.run_bind,Sem.run_pure,Result.andThen_ok,Op.equal,Op.maxDepth,this]
  ·cases h
 ·rename_i a b
  obtain rfl:=hx.aD rfl;obtain rfl:=hy.aD rfl;simp only[M.ah,Option.some.injEq]at h;subst h;refine⟨_,?_,VR.bool _⟩;simp only[eqGuard_at_string,binOp,Op.stringOp,Sem.run_bind,Sem.run_pure,Result.andThen_ok,ByteArray.toList_eq]
 ·rename_i a b
  obtain rfl:=hx.aD rfl;obtain rfl:=hy.aD rfl;simp only[M.ah,Option.some.injEq]at h;subst h;refine⟨_,?_,VR.bool _⟩;simp only[eqGuard_at_string,binOp,Op.stringOp,Sem.run_bind,Sem.run_pure,Result.andThen_ok,ByteArray.toList_eq]
 ·rename_i a
  obtain rfl:=hy.aD rfl
  obtain⟨a',rfl,ha⟩:∃a',x'=.pointer a'/\a'.isNone=a.isNone:=by
   cases hx<;>exact⟨_,rfl,rfl⟩
  split at h
  ·rename_i e hu
   simp only[M.ah,Option.some.injEq]at h;subst h;refine⟨.bool a.isNone,?_,VR.bool _⟩;rw[<-ha];simp only[eqGuard_at_pointer,binOp,Sem.run_bind,Sem.run_pure,Result.andThen_ok,Bl hu]
  ·cases h
 ·rename_i a
  obtain rfl:=hy.aD rfl
  obtain⟨a',rfl,ha⟩:∃a',x'=.pointer a'/\a'.isNone=a.isNone:=by
   cases hx<;>exact⟨_,rfl,rfl⟩
  split at h
  ·rename_i e hu
   simp only[M.ah,Option.some.injEq]at h;subst h;refine⟨.bool (!a.isNone),?_,VR.bool _⟩;rw[<-ha];simp only[eqGuard_at_pointer,binOp,Sem.run_bind,Sem.run_pure,Result.andThen_ok,Bl hu]
  ·cases h
 ·rename_i a l c
  obtain rfl:=hy.aD rfl;split at h
  ·rename_i e hu
   rcases M.af h with⟨hnk,h⟩|⟨_,h⟩
   rotate_left
   ·cases h
   obtain⟨a',l',c',rfl,ha⟩:∃a' l' c',x'=.slice a' l' c'/\a'.isNone=a.isNone:=by
    cases hx<;>first|exact⟨_,_,_,rfl,rfl⟩|(simp[Ai]at hnk)
   simp only[M.ah,Option.some.injEq]at h;subst h;refine⟨.bool a.isNone,?_,VR.bool _⟩;rw[<-ha];simp only[eqGuard_at_slice,binOp,Sem.run_bind,Sem.run_pure,Result.andThen_ok,ug hu]
  ·cases h
 ·rename_i a l c
  obtain rfl:=hy.aD rfl;split at h
  ·rename_i e hu
   rcases M.af h with⟨hnk,h⟩|⟨_,h⟩
   rotate_left
   ·cases h
   obtain⟨a',l',c',rfl,ha⟩:∃a' l' c',x'=.slice a' l' c'/\a'.isNone=a.isNone:=by
    cases hx<;>first|exact⟨_,_,_,rfl,rfl⟩|(simp[Ai]at hnk)
   simp only[M.ah,Option.some.injEq]at h;subst h;refine⟨.bool (!a.isNone),?_,VR.bool _⟩;rw[<-ha];simp only[eqGuard_at_slice,binOp,Sem.run_bind,Sem.run_pure,Result.andThen_ok,ug hu]
  ·cases h
 ·obtain rfl:=hy.aD rfl
  obtain⟨f',a',c',rfl⟩:∃f' a' c',x'=.func f' a' c':=by
   cases hx;exact⟨_,_,_,rfl⟩
  split at h
  ·rename_i hu
   simp only[M.ah,Option.some.injEq]at h;subst h;exact⟨.bool false,by simp only[eqGuard_at_func,binOp,Sem.run_bind,Sem.run_pure,Result.andThen_ok,vw hu],VR.bool _⟩
  ·cases h
 ·obtain rfl:=hy.aD rfl
  obtain⟨f',a',c',rfl⟩:∃f' a' c',x'=.func f' a' c':=by
   cases hx;exact⟨_,_,_,rfl⟩
  split at h
  ·rename_i hu
   simp only[M.ah,Option.some.injEq]at h;subst h;exact⟨.bool true,by simp only[eqGuard_at_func,binOp,Sem.run_bind,Sem.run_pure,Result.andThen_ok,vw hu,Bool.not_false],VR.bool _⟩
  ·cases h
 ·obtain rfl:=hy.aD rfl
  obtain rfl:=hx.aD rfl;split at h
  ·rename_i hu
   simp only[M.ah,Option.some.injEq]at h;subst h;exact⟨.bool true,by simp only[eqGuard_at_nilFunc,binOp,Sem.run_bind,Sem.run_pure,Result.andThen_ok,wm hu],VR.bool _⟩
  ·cases h
 ·obtain rfl:=hy.aD rfl
  obtain rfl:=hx.aD rfl;split at h
  ·rename_i hu
   simp only[M.ah,Option.some.injEq]at h;subst h;exact⟨.bool false,by simp only[eqGuard_at_nilFunc,binOp,Sem.run_bind,Sem.run_pure,Result.andThen_ok,wm hu,Bool.not_true],VR.bool _⟩
  ·cases h
 ·rename_i xs ys
  split at h
  ·rename_i pat hp
   split at h
   ·rename_i b hb
    simp only[M.ah,Option.some.injEq]at h;subst h;obtain⟨h1,h2⟩:=pG _ _ _ _ hb;cases hx with
    |agg hs hpx=>
     cases hy with
     |agg hs' hpy=>
      obtain rfl:=(show dY σ _ _ from⟨hs,hpx⟩).kP h1
      obtain rfl:=(show dY σ _ _ from⟨hs',hpy⟩).kP h2
      obtain⟨e1,e2,e3⟩:=Bn (Qs hE hp) hb o1 o2 w;exact⟨.bool b,by simp only[Sem.run_bind,e1,Result.andThen_ok,binOp,e3,Sem.run_pure],VR.bool _⟩
   ·cases h
  ·cases h
 ·rename_i xs ys
  split at h
  ·rename_i pat hp
   split at h
   ·rename_i b hb
    simp only[M.ah,Option.some.injEq]at h;subst h;obtain⟨h1,h2⟩:=pG _ _ _ _ hb;cases hx with
    |agg hs hpx=>
     cases hy with
     |agg hs' hpy=>
      obtain rfl:=(show dY σ _ _ from⟨hs,hpx⟩).kP h1
      obtain rfl:=(show dY σ _ _ from⟨hs',hpy⟩).kP h2
      obtain⟨e1,e2,e3⟩:=Bn (Qs hE hp) hb o1 o2 w;exact⟨.bool (!b),by simp only[Sem.run_bind,e2,Result.andThen_ok,binOp,e3,Sem.run_pure],VR.bool _⟩
   ·cases h
  ·cases h
 ·cases h
end
end Go.Sx
namespace Go.Sx
open Go Go.RowKit
section
variable{P:Program} {n:Nat->Prop} {w0:World} {G:Kj} {σ:Nat->Option Pl} {lh:List ag} {w:World}
theorem WX{op:UnOp}{x x' v:Value}(hx:VR σ x x')(h:(unM op x).get=some v)(w:World):∃v',(Op.unary op x').run P w=.ok v' w/\VR σ v v':=by
 unfold unM at h;split at h
 ·obtain rfl:=hx.aD rfl
  simp only[M.ah,Option.some.injEq]at h;subst h;exact⟨_,by simp only[Op.unary,Sem.run_pure],VR.bool _⟩
 ·obtain rfl:=hx.aD rfl
  simp only[M.ah,Option.some.injEq]at h;subst h;exact⟨_,by simp only[Op.unary,Op.intArith,Sem.run_pure],VR.int _ _⟩
 ·obtain rfl:=hx.aD rfl
  rename_i k a;simp only[M.ah,Option.some.injEq]at h;subst h;refine⟨_,?_,VR.int _ _⟩;simp only[Op.unary,intBits_xor,Sem.run_pure];cases k.signed<;>rfl
 ·cases h
theorem K7{s d:TypeId}{x x' v:Value}(hx:VR σ x x')(h:(Gn P s d x).get=some v)(w:World):∃v',(convert s d x').run P w=.ok v' w/\VR σ v v':=by
 unfold Gn at h;split at h
 ·rename_i ds k k' a hs hd
  obtain rfl:=hx.aD rfl;simp only[M.ah,Option.some.injEq]at h;subst h;exact⟨_,by simp only[convert,Sem.run_bind,run_underlying hs,run_underlying hd,Result.andThen_ok,Conv.intToInt,Sem.run_pure],VR.int _ _⟩
 ·cases h
theorem RB{c c' a a' b b' v:Value}(hc:VR σ c c')(ha:VR σ a a')(hb:VR σ b b')(h:(Ve c a b).get=some v)(w:World):
  ∃v',(do pure (Next.value (if<-asBool c' then a' else b')):Sem Next).run P w=.ok (.value v') w/\VR σ v v':=by
 unfold Ve at h;split at h
 ·rename_i t
  obtain rfl:=hc.aD rfl;rcases M.af h with⟨rfl,hv⟩|⟨rfl,hv⟩
  ·simp only[M.ah,Option.some.injEq]at hv;subst hv
   exact⟨a',by simp[asBool],ha⟩
  ·simp only[M.ah,Option.some.injEq]at hv;subst hv
   exact⟨b',by simp[asBool],hb⟩
 ·cases h
theorem H7{x x' v:Value}(hx:VR σ x x')(h:(Cr x).get=some v):x'≠.pointer none/\x'≠.nilIface/\x'≠.nilFunc/\(∀m a c,x'≠.func (.method m) a c)/\VR σ v x':=by
 unfold Cr at h;split at h
 ·simp only[M.ah,Option.some.injEq]at h;subst h
  cases hx<;>exact⟨by simp,by simp,by simp,by simp,by constructor;assumption⟩
 ·simp only[M.ah,Option.some.injEq]at h;subst h
  refine⟨?_,?_,?_,?_,hx⟩<;>cases hx<;>simp
 ·cases h
theorem VC{t ty:TypeId}{x x' v:Value}(hx:VR σ x x')(h:(abz P t x).get=some v)(w:World):∃v',(Builtin.len_ #[t] ty #[x']).run P w=.ok v' w/\VR σ v v':=by
 unfold abz at h;split at h
 ·rename_i e a l c hu
  simp only[M.ah,Option.some.injEq]at h;subst h
  obtain⟨a',c',rfl⟩:∃a' c',x'=.slice a' l c':=by
   cases hx<;>exact⟨_,_,rfl⟩
  exact⟨_,by simp[Builtin.len_,run_underlying hu];rfl,VR.int _ _⟩
 ·rename_i l e hu
  simp only[M.ah,Option.some.injEq]at h;subst h;exact⟨_,by simp[Builtin.len_,run_underlying hu];rfl,VR.int _ _⟩
 ·cases h
theorem RP{ts:Array TypeId}{ty:TypeId}{x x' y y' v:Value}(hx:VR σ x x')(hy:VR σ y y')(h:(Vr x y).get=some v)(w:World):∃v',(Builtin.min_ ts ty #[x',y']).run P w=.ok v' w/\VR σ v v':=by
 unfold Vr at h;split at h
 ·obtain rfl:=hx.aH
  obtain rfl:=hy.aH;simp only[M.ah,Option.some.injEq]at h;subst h;exact⟨_,by simp[Builtin.min_,Builtin.min2],VR.int _ _⟩
 ·cases h
theorem RS{ts:Array TypeId}{ty:TypeId}{x x' y y' v:Value}(hx:VR σ x x')(hy:VR σ y y')(h:(Vu x y).get=some v)(w:World):∃v',(Builtin.max_ ts ty #[x',y']).run P w=.ok v' w/\VR σ v v':=by
 unfold Vu at h;split at h
 ·obtain rfl:=hx.aH
  obtain rfl:=hy.aH;simp only[M.ah,Option.some.injEq]at h;subst h;exact⟨_,by simp[Builtin.max_,Builtin.max2],VR.int _ _⟩
 ·cases h
theorem wrap_small{l:Int}(h0:0<=l)(h1:l<=1048576):IntKind.i64.wrap l=l:=by
 simp[IntKind.wrap,IntKind.bits,IntKind.signed];omega
theorem kU{t e:TypeId}{i:TypeInfo}{z:Value}{l:Int}(hu:P.underlying t=some (.slice e))(hi:P.info? e=some i)(hz:∀w,(zeroValue e).run P w=.ok z w)(hzc:z.cells= #[z])(hsz:i.size=1)(hby:i.bytes<=8)(h0:0<=l)(h1:l<=1048576)(w:World):
  (Instr.makeSlice t (.int .i64 l) (.int .i64 l)).run P w=.ok (.slice (some ⟨w.heap.size,0,none⟩) l.toNat l.toNat) (w.alloc (.cells (Array.replicate l.toNat z) e)):=by
 have hw:=wrap_small h0 h1;simp only[Instr.makeSlice,Sem.run_bind,run_underlying hu,Result.andThen_ok,asInt,asIntOf,Sem.run_pure,run_typeInfo hi,hw];have hm:(i.bytes:Int)*l<=8*l:=Int.mul_le_mul_of_nonneg_right (by omega) h0
 have c2:¬(((decide (l<0)||decide ((i.bytes:Int)*l>2^48))||decide (l<0)||decide (l>l))=true):=by
  simp;omega
 rw[if_neg c2];simp only[Sem.run_bind,Result.andThen_ok,run_askRoom,run_sizeOf hi,hsz,Nat.mul_one];by_cases h00:l.toNat=0
 ·simp[h00,newRow,Array.range_zero']
 ·simp only[h00,if_false,Sem.run_bind,hz,Result.andThen_ok,Sem.run_pure,newRow,run_newObj,World.alloc_eq]
  congr 3;apply Array.ext
  ·simp
  ·intro j h1 h2
   simp[hzc,Nat.mod_one]
theorem FT(hn:eB n w){t:TypeId}{l l' c c':Value}{r:(Nat->Value)×ag}(hl:VR σ l l')(hc:VR σ c c')(h:(Ap P t l c).get=some r):
  ∃v' o,(Instr.makeSlice t l' c').run P w=.ok v' (w.alloc o)/\sS n σ r v' w o:=by
 unfold Ap at h;split at h
 ·rename_i e l c hu
  obtain rfl:=hl.aH;obtain rfl:=hc.aH;split at h
  ·rename_i i hi hz
   rcases M.af h with⟨hs,h⟩|⟨_,h⟩
   ·rcases M.af h with⟨he,h⟩|⟨_,h⟩
    ·rcases M.af h with⟨hb,h⟩|⟨_,h⟩
     ·simp only[M.ah,Option.some.injEq]at h;subst h
      simp only[Bool.and_eq_true,decide_eq_true_eq]at hs he hb;subst he;obtain⟨h0,h1⟩:=hb;refine⟨.slice (some ⟨w.heap.size,0,none⟩) l.toNat l.toNat,.cells (Array.replicate l.toNat (.int .i64 0)) e,kU hu hi (fun w=>(lU hz w).1) rfl (beq_true hs.1) (by rw[beq_true hs.2];omega) h0 h1 w,⟨w.heap.size,0,1,l.toNat⟩,⟨rfl,rfl⟩,fun σ' a hs' ha=>⟨VR.slice (off:=0) ha,?_⟩⟩
      have:=BR.Tv (σ:=σ') hn (List.replicate l.toNat 0) e (c':=Array.replicate l.toNat (.int .i64 0)) fun j x hx=>by
       have hj:j<l.toNat:=by have:=(List.getElem?_eq_some_iff.1 hx).1;simpa using this
       simp[hj]at hx;simp[hj, <-hx]
      simpa using this
     ·cases h
    ·cases h
   ·cases h
  ·rename_i i hi hz
   rcases M.af h with⟨hs,h⟩|⟨_,h⟩
   ·rcases M.af h with⟨he,h⟩|⟨_,h⟩
    ·rcases M.af h with⟨hb,h⟩|⟨_,h⟩
     ·simp only[M.ah,Option.some.injEq]at h;subst h
      simp only[Bool.and_eq_true,decide_eq_true_eq]at hs he hb;subst he;obtain⟨h0,h1⟩:=hb;refine⟨.slice (some ⟨w.heap.size,0,none⟩) l.toNat l.toNat,.cells (Array.replicate l.toNat (.bool false)) e,kU hu hi (fun w=>(lU hz w).1) rfl (beq_true hs.1) (fo hs.2) h0 h1 w,⟨w.heap.size,0,0,0⟩,⟨rfl,rfl⟩,fun σ' a hs' ha=>⟨VR.slice (off:=0) ha,?_⟩⟩
      refine BR.FO hn e (by simp) fun j x y hx hy=> ?_
      have hj:j<l.toNat:=by have:=(List.getElem?_eq_some_iff.1 hx).1;simpa using this
      simp[hj]at hx hy;rw[<-hx, <-hy];exact VR.bool _
     ·cases h
    ·cases h
   ·cases h
  ·cases h
 ·cases h
theorem GH{E:Env}(hE:vN E)(hr:HR n w0 G σ lh w){ev ev':Operand->Value}{o:Oper}(hop:∀x∈o.op.operands,VR σ (ev x) (ev' x)){v:Value}(h:(E8 E ev lh o.op).get=some v):
  ∃v',(execOp ev' o).run E.P w=.ok (.value v') w/\VR σ v v':=by
 obtain⟨dst,op,ty,pos,after,guard⟩:=o;simp only at h hop;unfold E8 at h;split at h
 ·rename_i x
  simp only[M.ah,Option.some.injEq]at h;subst h;exact⟨_,by simp only[execOp,Sem.run_pure],hop x (by simp[Op.operands])⟩
 ·rename_i x
  simp only[M.ah,Option.some.injEq]at h;subst h;exact⟨_,by simp only[execOp,Sem.run_pure],hop x (by simp[Op.operands])⟩
 ·rename_i c a b
  obtain⟨v',h1,h2⟩:=RB (P:=E.P) (hop c (by simp[Op.operands])) (hop a (by simp[Op.operands])) (hop b (by simp[Op.operands])) h w
  exact⟨v',by simpa[execOp]using h1,h2⟩
 ·rename_i t parts
  obtain⟨v',h1,h2⟩:=QL (P:=E.P) parts ev ev' (fun p hp=>hop p.2 (by simp only[Op.operands,List.mem_toArray,List.mem_map];exact⟨p,Array.mem_toList_iff.2 hp,rfl⟩)) h w
  exact⟨v',by simp only[execOp,Sem.run_bind,h1,Result.andThen_ok,Sem.run_pure],h2⟩
 ·rename_i t a
  obtain⟨v',h1,h2⟩:=EL hr (hop a (by simp[Op.operands])) h
  exact⟨v',by simp only[execOp,Sem.run_bind,h1,Result.andThen_ok,Sem.run_pure],h2⟩
 ·rename_i x
  have hx:=hop x (by simp[Op.operands])
  obtain⟨h1,h2,h3,h4,h5⟩:=H7 hx h;refine⟨ev' x,?_,h5⟩;simp only[execOp];rfl
 ·rename_i op t x y yt
  obtain⟨v',h1,h2⟩:=WA hE x y (hop x (by simp[Op.operands])) (hop y (by simp[Op.operands])) h w
  exact⟨v',by simp only[execOp];rw[Sem.run_bind,h1];rfl,h2⟩
 ·rename_i op t x
  obtain⟨v',h1,h2⟩:=WX (P:=E.P) (hop x (by simp[Op.operands])) h w
  exact⟨v',by simp only[execOp,Sem.run_bind,h1,Result.andThen_ok,Sem.run_pure],h2⟩
 ·rename_i s d x
  obtain⟨v',h1,h2⟩:=K7 (hop x (by simp[Op.operands])) h w
  exact⟨v',by simp only[execOp,Sem.run_bind,h1,Result.andThen_ok,Sem.run_pure],h2⟩
 ·rename_i f first captured
  simp only[M.ah,Option.some.injEq]at h;subst h;have h1:=dY.map (σ:=σ) ev ev' first fun x hx=>hop x (by simp[Op.operands,hx])
  have h2:=dY.map (σ:=σ) ev ev' captured fun x hx=>hop x (by simp[Op.operands,hx])
  exact⟨.func (.func f) (first.map ev') (captured.map ev'),by simp[execOp,Instr.makeFunc],VR.func f h1.1 h2.1 h1.2 h2.2⟩
 ·rename_i t x lo hi mx
  obtain⟨v',h1,h2⟩:=OI (P:=E.P) (hop x (by simp[Op.operands])) (lM.map ev ev' lo fun y hy=>hop y (by simp[Op.operands,Option.mem_def.1 hy])) (lM.map ev ev' hi fun y hy=>hop y (by simp[Op.operands,Option.mem_def.1 hy])) (lM.map ev ev' mx fun y hy=>hop y (by simp[Op.operands,Option.mem_def.1 hy])) h w
  exact⟨v',by simp only[execOp,Sem.run_bind,h1,Result.andThen_ok,Sem.run_pure],h2⟩
 ·rename_i s x f
  obtain⟨v',h1,h2⟩:=Gf (P:=E.P) (hop x (by simp[Op.operands])) h w
  exact⟨v',by simp only[execOp,Sem.run_bind,h1,Result.andThen_ok,Sem.run_pure],h2⟩
 ·rename_i s x f
  obtain⟨v',h1,h2⟩:=Qp (P:=E.P) (hop x (by simp[Op.operands])) h w
  exact⟨v',by simp only[execOp,Sem.run_bind,h1,Result.andThen_ok,Sem.run_pure],h2⟩
 ·rename_i t x ix
  obtain⟨v',h1,h2⟩:=FV hr (hop x (by simp[Op.operands])) (hop ix (by simp[Op.operands])) h
  exact⟨v',by simp only[execOp,Sem.run_bind,h1,Result.andThen_ok,Sem.run_pure],h2⟩
 ·rename_i t x ix
  obtain⟨v',h1,h2⟩:=PV (P:=E.P) (hop x (by simp[Op.operands])) (hop ix (by simp[Op.operands])) h w
  exact⟨v',by simp only[execOp,Sem.run_bind,h1,Result.andThen_ok,Sem.run_pure],h2⟩
 ·rename_i t ix
  obtain⟨v',h1,h2⟩:=KZ (P:=E.P) (hop t (by simp[Op.operands])) h w
  exact⟨v',by simp only[execOp,Sem.run_bind,h1,Result.andThen_ok,Sem.run_pure],h2⟩
 ·rename_i t m ix ok
  obtain⟨v',h1,h2⟩:=Nl hr (hop m (by simp[Op.operands])) (hop ix (by simp[Op.operands])) h
  exact⟨v',by simp only[execOp,Sem.run_bind,h1,Result.andThen_ok,Sem.run_pure],h2⟩
 ·rename_i c
  obtain⟨callee,args,ats⟩:=c;simp only at h;split at h
  ·rename_i ahv hargs abS
   obtain rfl:args= #[_]:=Array.toList_inj.1 hargs;obtain rfl:ats= #[_]:=Array.toList_inj.1 abS;obtain⟨v',h1,h2⟩:=VC (P:=E.P) (ty:=ty) (hop _ (by simp[Op.operands,Call.operands])) h w
   exact⟨v',by simp[execOp,resolve,invoke,builtin,h1],h2⟩
  ·rename_i ahv hargs
   obtain rfl:args= #[_,_]:=Array.toList_inj.1 hargs;obtain⟨v',h1,h2⟩:=RP (P:=E.P) (ts:=ats) (ty:=ty) (hop _ (by simp[Op.operands,Call.operands])) (hop _ (by simp[Op.operands,Call.operands])) h w
   exact⟨v',by simp[execOp,resolve,invoke,builtin,h1],h2⟩
  ·rename_i ahv hargs
   obtain rfl:args= #[_,_]:=Array.toList_inj.1 hargs;obtain⟨v',h1,h2⟩:=RS (P:=E.P) (ts:=ats) (ty:=ty) (hop _ (by simp[Op.operands,Call.operands])) (hop _ (by simp[Op.operands,Call.operands])) h w
   exact⟨v',by simp[execOp,resolve,invoke,builtin,h1],h2⟩
  ·cases h
 ·cases h
theorem Ia{E:Env}(hn:eB n w){ev ev':Operand->Value}{o:Oper}(hop:∀x∈o.op.operands,VR σ (ev x) (ev' x)){r:(Nat->Value)×ag}(h:(Pm E ev o.op).get=some r):
  ∃v' ob,(execOp ev' o).run E.P w=.ok (.value v') (w.alloc ob)/\sS n σ r v' w ob:=by
 obtain⟨dst,op,ty,pos,after,guard⟩:=o;simp only at h hop;unfold Pm at h;split at h
 ·rename_i t
  obtain⟨v',ob,h1,h2⟩:=QV (P:=E.P) hn h;exact⟨v',ob,by simp only[execOp,Sem.run_bind,h1,Result.andThen_ok,Sem.run_pure],h2⟩
 ·rename_i t x
  obtain⟨v',ob,h1,h2⟩:=JA (P:=E.P) (t:=t) hn (hop x (by simp[Op.operands])) h
  exact⟨v',ob,by simp only[execOp,Sem.run_bind,h1,Result.andThen_ok,Sem.run_pure],h2⟩
 ·rename_i t len parts
  obtain⟨v',ob,h1,h2⟩:=Eu (P:=E.P) hn parts ev ev' (fun p hp=>hop p.2 (by simp only[Op.operands,List.mem_toArray,List.mem_map];exact⟨p,Array.mem_toList_iff.2 hp,rfl⟩)) h
  exact⟨v',ob,by simp only[execOp,Sem.run_bind,h1,Result.andThen_ok,Sem.run_pure],h2⟩
 ·rename_i t l c
  obtain⟨v',ob,h1,h2⟩:=FT (P:=E.P) hn (hop l (by simp[Op.operands])) (hop c (by simp[Op.operands])) h
  exact⟨v',ob,by simp only[execOp,Sem.run_bind,h1,Result.andThen_ok,Sem.run_pure],h2⟩
 ·rename_i t
  simp only[M.ah,Option.some.injEq]at h;subst h
  refine⟨.map (some w.heap.size),.map #[] 0,by simp[execOp,Instr.makeMap],⟨w.heap.size,0,0,0⟩,⟨rfl,rfl⟩,fun σ' a hs ha=>⟨VR.Ao ha,fun _=>⟨hn.new,fun o=>by
   have e:(w.alloc (.map #[] 0)).heap[w.heap.size]?=some (.map #[] 0):=by show(w.heap.push _)[w.heap.size]?=_;simp
   unfold World.frozen?;rw[e],fun j hj=>by simp at hj⟩, #[],0,?_,rfl,fun i k v hv=>by simp at hv⟩⟩
  show(w.heap.push _)[w.heap.size]?=_;simp
 ·cases h
end
end Go.Sx
namespace Go.Sx
open Go Go.RowKit
section
variable{P:Program} {n:Nat->Prop} {w0:World} {G:Kj} {σ:Nat->Option Pl} {lh:List ag} {w:World}
theorem Wu{σ:Nat->Option Pl}{v y:Value}{x:Int}(h:zC v=some x)(hv:VR σ v y):y=.int .i64 x:=by
 unfold zC at h;split at h
 ·cases h
  exact hv.aH
 ·rename_i a
  split at h
  ·rename_i hl
   cases h;generalize hz:Value.iface 900 (.agg a)=z at hv;cases hv<;>cases hz
   simp at hl;obtain⟨rfl,rfl,rfl,rfl,rfl,rfl,rfl,rfl,rfl⟩:=hl;rfl
  ·cases h
 ·cases h
theorem wL:∀(c:List Value) (l:List Int),mU c=some l->l.length=c.length/\∀(i:Nat) (x:Int),l[i]?=some x->∃v,c[i]?=some v/\zC v=some x
 |[],l,h=>by simp[mU]at h;subst h;exact⟨rfl,fun i x hx=>by simp at hx⟩
 |x::r,l,h=>by
  unfold mU at h;cases hx:zC x with
  |none=>rw[hx]at h;cases h
  |some a=>
   cases hr:mU r with
   |none=>rw[hx,hr]at h;cases h
   |some l'=>
    rw[hx,hr]at h;cases h;obtain⟨h1,h2⟩:=wL r l' hr;refine⟨by simp[h1],fun i y hy=> ?_⟩
    cases i with
    |zero=>simp at hy;subst hy;exact⟨x,rfl,hx⟩
    |succ i=>
     simp only[List.getElem?_cons_succ]at hy ⊢;exact h2 i y hy
def Holds(P:Program)(w:World)(m:Nat)(x':Value)(len:Nat)(cs:List Value):Prop:=
 (∀u∈cs,u.oneCell'=true)/\cs.length=len*m/\((∃c,x'=.slice none 0 c/\len=0)\/∃a c,x'=.slice (some a) len c/\∀j v,cs[j]?=some v->w.cell? (a.add j)=some v)
theorem jX{b o len c m:Nat}{cs:List Value}(h1:∀u∈cs,u.oneCell'=true)(hl:cs.length=len*m)(h:∀j v,cs[j]?=some v->w.cell? ⟨b,o+j,none⟩=some v):Holds P w m (.slice (some ⟨b,o,none⟩) len c) len cs:=
 ⟨h1,hl,.inr ⟨_,_,rfl,fun j v hv=>by rw[Addr.add_lit];exact h j v hv⟩⟩
theorem Ah(xs:List Int):∀u∈xs.map (Value.int .i64),u.oneCell'=true:=fun u hu=>by
 obtain⟨_,_,rfl⟩:=List.mem_map.1 hu;rfl
theorem Holds.src{m len:Nat}{x':Value}{cs:List Value}(h:Holds P w m x' len cs){tx e':TypeId}(hk:P.underlying tx=some (.slice e')):Src P m tx x' len cs w:=by
 obtain⟨h1,hl,⟨c,rfl,rfl⟩|⟨a,c,rfl,hc⟩⟩:=h
 ·obtain rfl:cs=[]:=List.eq_nil_of_length_eq_zero (by simpa using hl)
  exact Src.ofNil w hk c
 ·exact Src.ofSlice w hk a len c cs hl hc h1
theorem Holds.old{m len:Nat}{x':Value}{cs:List Value}(h:Holds P w m x' len cs):(Builtin.firstCells m len x').run P w.drew=.ok cs.toArray w.drew:=by
 obtain⟨h1,hl,⟨c,rfl,rfl⟩|⟨a,c,rfl,hc⟩⟩:=h
 ·obtain rfl:cs=[]:=List.eq_nil_of_length_eq_zero (by simpa using hl)
  exact run_firstCells_none w.drew m 0 0 c
 ·exact run_firstCells_some w.drew m len a len c cs hl (by simpa using hc)
theorem Bi(hr:HR n w0 G σ lh w){x x':Value}{xs:List Int}(hx:VR σ x x')(h:(DD lh x).get=some xs):Holds P w 1 x' xs.length (xs.map (Value.int .i64)):=by
 unfold DD at h;split at h
 ·simp at h;subst h
  obtain rfl:=hx.aD rfl;exact⟨by simp,rfl,.inl ⟨0,rfl,rfl⟩⟩
 ·simp at h;subst h
  cases hx with
  |empty a=>exact⟨by simp,rfl,.inr ⟨a,0,rfl,fun j v hv=>by simp at hv⟩⟩
 ·rename_i k off l c
  obtain⟨p,hk,rfl⟩:=hx.p9;split at h
  ·rename_i ow wr ys hl
   rcases M.af h with⟨hb,h⟩|⟨_,h⟩
   ·simp at h;subst h
    have hle:=fo hb;have hlen:((ys.drop off).take l).length=l:=by simp;omega
    rw[hlen];refine jX (Ah _) (by simp;omega) fun j v hv=> ?_
    simp only[List.getElem?_map,Option.map_eq_some_iff]at hv;obtain⟨u,hu,rfl⟩:=hv;rw[List.getElem?_take]at hu;split at hu
    ·rw[List.getElem?_drop]at hu
     rw[Nat.add_assoc];exact(hr.ints_at hk hl).2 _ _ hu
    ·cases hu
   ·cases h
  ·rename_i ow wr ys hl
   rcases M.af h with⟨hb,h⟩|⟨_,h⟩
   ·simp at h
    have hle:=fo hb;obtain⟨hs1,hs2⟩:=wL _ _ h
    have hlen:xs.length=l:=by
     simp at hs1;omega
    rw[hlen];refine jX (Ah _) (by simp;omega) fun j v hv=> ?_
    simp only[List.getElem?_map,Option.map_eq_some_iff]at hv;obtain⟨u,hu,rfl⟩:=hv;obtain⟨v0,hv,hc⟩:=hs2 j u hu;rw[List.getElem?_take]at hv;split at hv
    ·rw[List.getElem?_drop]at hv
     obtain⟨v',h1,h2⟩:=hr.jB hk hl hv;rw[Nat.add_assoc,h1,Wu hc h2]
    ·cases hv
   ·cases h
  ·cases h
 ·rename_i k l
  obtain⟨p,hk,hl0,rfl⟩:∃p,σ k=some p/\l<=p.cap/\x'=.slice (some ⟨p.b,p.o,none⟩) l p.cap:=by
   cases hx with
   |vec h hl=>exact⟨_,h,hl,rfl⟩
  split at h
  ·rename_i ow wr ys hl
   rcases M.af h with⟨hb,h⟩|⟨_,h⟩
   ·simp at h;subst h
    have hle:=fo hb;have hlen:(ys.take l).length=l:=by simp;omega
    rw[hlen];refine jX (Ah _) (by simp;omega) fun j v hv=> ?_
    simp only[List.getElem?_map,Option.map_eq_some_iff]at hv;obtain⟨u,hu,rfl⟩:=hv;rw[List.getElem?_take]at hu;split at hu
    ·exact(hr.ints_at hk hl).2 _ _ hu
    ·cases hu
   ·cases h
  ·cases h
 ·cases h
theorem NW{e:TypeId}{i:TypeInfo}{z:Value}(hi:P.info? e=some i)(hz:zeroOf P e=some z):i.zero=some z:=by
 unfold zeroOf at hz;rw[hi]at hz;simp only[Option.bind_some]at hz;cases hq:i.zero with
 |none=>rw[hq]at hz;cases hz
 |some u=>
  rw[hq]at hz;cases hp:plain u<;>simp[hp]at hz
  rw[hz]
theorem xP(hr:HR n w0 G σ lh w){t u e e2 ty:TypeId}{i:TypeInfo}{base:Option Addr}{sLen sCap:Nat}{x':Value}{ys xs:List Int}(ht:P.underlying t=some (.slice e))(hu:P.underlying u=some (.slice e2))(hi:P.info? e=some i)(hz:zeroOf P e=some (.int .i64 0))
  (hsz:i.size=1) (hby:i.bytes=8) (ho:Holds P w 1 (.slice base sLen sCap) sLen (ys.map (Value.int .i64))) (hx:Holds P w 1 x' xs.length (xs.map (Value.int .i64))) (Iu:sCap<sLen+xs.length) (hsm:sLen+xs.length<=1073741824):
  ∃v' w',(Builtin.append_ #[t,u] ty #[.slice base sLen sCap,x']).run P w=.ok v' w'/\Good n w0 G σ lh.length (iJ lh.length (sLen+xs.length),lh++[.ints true true (ys++xs)]) v' w':=by
 have hfit:=growslice_fits Iu (bytes:=i.bytes) (by rw[hby];omega)
 have hyl:ys.length=sLen:=by have:=ho.2.1;simpa using this
 have run:=run_append_grow_src (P:=P) w t u ty e i (.int .i64 0) ht hi (NW hi hz) base sLen sCap (ys.map (Value.int .i64)) (by rw[hsz];exact ho.old) x' xs.length (xs.map (Value.int .i64)) (by rw[hsz];exact hx.src hu) Iu (by omega) hfit
 refine⟨_,_,run,?_⟩;have hcap:=grownCap_ge w (sLen+xs.length) sCap e;generalize grownCap w (sLen+xs.length) sCap e=cap at*
 have hsize:(((ys.map (Value.int .i64)++xs.map (Value.int .i64)).toArray++Builtin.zeroCells (Value.int .i64 0).cells (cap-(sLen+xs.length)))).size=cap:=by
  simp[size_zeroCells,Value.cells];omega
 have hb:=BR.Tv (σ:=upd σ lh.length ⟨w.drew.heap.size,0,1,cap⟩) (w:=w.drew) hr.drew.size (ys++xs) e (c':=(ys.map (Value.int .i64)++xs.map (Value.int .i64)).toArray++Builtin.zeroCells (Value.int .i64 0).cells (cap-(sLen+xs.length))) fun j x hj=>by
  rw[Array.getElem?_append_left (by simp;have:=(List.getElem?_eq_some_iff.1 hj).1;simpa using this)]
  rw[<-List.map_append];simp only[List.getElem?_toArray,List.getElem?_map,hj,Option.map_some]
 rw[hsize]at hb;exact⟨_,hr.drew.sK _,VR.vec (p:=⟨w.drew.heap.size,0,1,cap⟩) (upd_same _ _ _) hcap,hr.drew.new _ _ _ rfl hb⟩
theorem HR.alias(h:HR n w0 G σ lh w){p:Pl}(hfree:∀i q,σ i=some q->(lh.getD i .dead).alive=true->q.b≠p.b)(hlt:p.b<w.heap.size)(blk:ag)(hb:BR n (upd σ lh.length p) blk p w)(hab:iB n G (upd σ lh.length p) (lh++[blk]) w):
  HR n w0 G (upd σ lh.length p) (lh++[blk]) w:=by
 have hle:=h.wK p;refine⟨h.hn,h.below,hab,fun k q hk=> ?_,fun k q hk=> ?_,fun k k' q q' hk hk' ho ha hbb=> ?_,fun k q hk=> ?_⟩
 ·by_cases e:k=lh.length
  ·subst e;simp
  ·rw[dF _ _ e]at hk
   have:=h.dom k q hk;simp;omega
 ·by_cases e:k=lh.length
  ·subst e
   rw[upd_same]at hk;cases hk;exact hlt
  ·rw[dF _ _ e]at hk
   exact h.lt k q hk
 ·by_cases e:k=lh.length
  ·by_cases e':k'=lh.length
   ·rw[e,e']
   ·rw[e,upd_same]at hk;cases hk
    rw[dF _ _ e']at hk';rw[bY _ _ _ (h.dom k' q' hk')]at ha;exact absurd hbb.symm (hfree k' q' hk' ha)
  ·rw[dF _ _ e]at hk
   by_cases e':k'=lh.length
   ·rw[e',upd_same]at hk';cases hk'
    rw[bY _ _ _ (h.dom k q hk)]at ho;refine absurd hbb (hfree k q hk ?_);cases hx:lh.getD k .dead with
    |dead=>rw[hx]at ho;cases ho
    |_=>rfl
   ·rw[dF _ _ e']at hk'
    rw[bY _ _ _ (h.dom k q hk)]at ho;rw[bY _ _ _ (h.dom k' q' hk')]at ha;exact h.inj k k' q q' hk hk' ho ha hbb
 ·by_cases e:k=lh.length
  ·subst e
   rw[upd_same]at hk;cases hk;rw[iQ];exact hb
  ·rw[dF _ _ e]at hk
   rw[bY _ _ _ (h.dom k q hk)];exact(h.blk k q hk).mono hle rfl
theorem HR.X8(hr:HR n w0 G σ lh w){k:Nat}{p:Pl}(hk:σ k=some p)(ho:(lh.getD k .dead).owned=true)(o:Nat)(vs:List Value)(blk:ag)(hb:BR n (upd σ lh.length p) blk p (w.setCells p.b o vs))(sH:blk.aM=some none:=by first|rfl|assumption):
  HR n w0 G (upd σ lh.length p) (lh.set k .dead++[blk]) (w.setCells p.b o vs):=by
 have h1:=hr.stores hk ho o vs .dead (fun e=>by cases e) ⟨fun e=>(by cases e),trivial⟩
 have hl:(lh.set k .dead).length=lh.length:=by simp
 have hkl:=hr.dom k p hk
 have hsz:(w.setCells p.b o vs).heap.size=w.heap.size:=by
  have:∀(vs:List Value) (o:Nat) (w:World),(w.setCells p.b o vs).heap.size=w.heap.size:=by
   intro vs;induction vs with
   |nil=>intro o w;rfl
   |cons v r ih=>intro o w;rw[World.setCells,ih,World.size_setCell]
  exact this vs o w
 have hab:iB n G (upd σ lh.length p) (lh.set k .dead++[blk]) (w.setCells p.b o vs):=by
  refine hr.ab.id hr.lt (by rw[hsz];exact Nat.le_refl _) (fun j _=> ?_) (fun i q hi=> ?_)
  ·by_cases e:j=p.b
   ·exact .inr ⟨k,p,hk,jd ho,e.symm⟩
   ·exact .inl (heap_setCells_other vs o w e)
  ·by_cases e:i=lh.length
   ·subst e
    rw[upd_same]at hi;cases hi;have:(lh.set k .dead++[blk]).getD lh.length .dead=blk:=by rw[<-hl];exact iQ _ _
    rw[this];exact .inr (.inr ⟨.inr ⟨k,p,hk,jd ho,rfl⟩,sH⟩)
   ·rw[dF _ _ e]at hi
    rw[bY _ _ _ (by rw[hl];exact hr.dom i q hi)]
    by_cases e':i=k
    ·subst e'
     rw[dA _ _ _ hkl];exact .inl rfl
    ·rw[aX _ _ e'];exact .inr (.inl ⟨hi,rfl⟩)
 have h2:=h1.alias (p:=p) (fun i q hi ha e=> ?_) (h1.lt k p hk) blk (by rw[hl];exact hb) (by rw[hl];exact hab)
 ·rw[hl]at h2;exact h2
 ·by_cases hik:i=k
  ·subst hik
   rw[dA _ _ _ (hr.dom i p hk)]at ha;cases ha
  ·rw[aX _ _ hik]at ha
   exact hik (hr.inj k i p q hk hi ho ha e.symm).symm
theorem Gs(hr:HR n w0 G σ lh w){t u e e2 ty:TypeId}{i:TypeInfo}{s s' x':Value}{xs:List Int}{r:Value×List ag}(ht:P.underlying t=some (.slice e))(hu:P.underlying u=some (.slice e2))(hi:P.info? e=some i)(hz:zeroOf P e=some (.int .i64 0))
  (hsz:i.size=1) (hby:i.bytes=8) (hs:VR σ s s') (hx:Holds P w 1 x' xs.length (xs.map (Value.int .i64))) (h:(rz s xs lh).get=some r):
  ∃v' w',(Builtin.append_ #[t,u] ty #[s',x']).run P w=.ok v' w'/\Good n w0 G σ lh.length r v' w':=by
 have stay:∀(base:Option Addr) (l c:Nat),xs.length=0->l<=c->VR σ s (.slice base l c)->∃v' w',(Builtin.append_ #[t,u] ty #[.slice base l c,x']).run P w=.ok v' w'/\Good n w0 G σ lh.length (s,lh) v' w':=by
  intro base l c hl hlc hv;refine⟨.slice base l c,w,?_,σ,Ext.refl _ _,hv,hr⟩;have hsrc:=hx.src hu;rw[hl]at hsrc;obtain rfl:xs=[]:=List.eq_nil_of_length_eq_zero hl;have h1:=hsrc.len w;have h2:=hsrc.cells;simp only[List.map_nil]at h2;cases base<;>simp[Builtin.append_,run_underlying ht,run_underlying hu,sizeOf,typeInfo,hi,h1,hlc,hsz,h2,storeCells]
 unfold rz at h;split at h
 ·obtain rfl:=hs.aD rfl
  rcases M.af h with⟨hb,hv⟩|⟨hb,h⟩
  ·simp only[M.ah,Option.some.injEq]at hv;subst hv
   exact stay _ _ _ (beq_true hb) (Nat.le_refl _) hs
  ·rcases M.af h with⟨hc,hv⟩|⟨_,hv⟩
   ·simp only[M.ah,Option.some.injEq]at hv;subst hv
    have hpos:0<xs.length:=Nat.pos_of_ne_zero fun e=>by rw[e]at hb;cases hb
    have:=xP (ty:=ty) hr (sCap:=0) (base:=none) (sLen:=0) (ys:=[]) ht hu hi hz hsz hby ⟨by simp,rfl,.inl ⟨0,rfl,rfl⟩⟩ hx (by omega) (by have:=fo hc;omega)
    simpa using this
   ·cases hv
 ·obtain⟨a,rfl⟩:∃a,s'=.slice (some a) 0 0:=by
   cases hs with
   |empty a=>exact⟨a,rfl⟩
  rcases M.af h with⟨hb,hv⟩|⟨hb,h⟩
  ·simp only[M.ah,Option.some.injEq]at hv;subst hv
   exact stay _ _ _ (beq_true hb) (Nat.le_refl _) hs
  ·rcases M.af h with⟨hc,hv⟩|⟨_,hv⟩
   ·simp only[M.ah,Option.some.injEq]at hv;subst hv
    have hpos:0<xs.length:=Nat.pos_of_ne_zero fun e=>by rw[e]at hb;cases hb
    have:=xP (ty:=ty) hr (sCap:=0) (base:=some a) (sLen:=0) (ys:=[]) ht hu hi hz hsz hby ⟨by simp,rfl,.inr ⟨a,0,rfl,fun j v hv=>by simp at hv⟩⟩ hx (by omega) (by have:=fo hc;omega)
    simpa using this
   ·cases hv
 ·rename_i k off l c
  rcases M.af h with⟨hlc,h⟩|⟨_,h⟩
  ·obtain rfl:=beq_true hlc
   obtain⟨p,hk,rfl⟩:=hs.p9;rcases M.af h with⟨hb,hv⟩|⟨hb,h⟩
   ·cases hv
   ·obtain⟨ys,hy,h⟩:=M.ay h
    rcases M.af h with⟨hc,hv⟩|⟨_,hv⟩
    ·simp only[M.ah,Option.some.injEq]at hv;subst hv
     have hpos:0<xs.length:=Nat.pos_of_ne_zero fun e=>by rw[e]at hb;cases hb
     have ho:=Bi (P:=P) hr hs hy;obtain⟨h1,h2,h3⟩:=ho
     have hyl:ys.length=l:=by
      rcases h3 with⟨c,hc0,_⟩|⟨a,c,hc0,_⟩
      ·cases hc0
      ·cases hc0;rfl
     rw[hyl]at h3 h2;exact xP (ty:=ty) hr ht hu hi hz hsz hby ⟨h1,h2,h3⟩ hx (by omega) (fo hc)
    ·cases hv
  ·cases h
 ·rename_i k l
  obtain⟨p,hk,hl0,rfl⟩:∃p,σ k=some p/\l<=p.cap/\s'=.slice (some ⟨p.b,p.o,none⟩) l p.cap:=by
   cases hs with
   |vec h hl=>exact⟨_,h,hl,rfl⟩
  split at h
  ·rename_i ys hl
   rcases M.af h with⟨hly,h⟩|⟨_,h⟩
   ·obtain rfl:=beq_true hly
    rcases M.af h with⟨hb,hv⟩|⟨hb,h⟩
    ·simp only[M.ah,Option.some.injEq]at hv;subst hv
     exact stay _ _ _ (beq_true hb) hl0 hs
    ·rcases M.af h with⟨hc,hv⟩|⟨_,hv⟩
     ·simp only[M.ah,Option.some.injEq]at hv;subst hv
      have hpos:0<xs.length:=Nat.pos_of_ne_zero fun e=>by rw[e]at hb;cases hb
      have hown:(lh.getD k .dead).owned=true:=by rw[hl];rfl
      obtain⟨hnb,hfz,hroom⟩:=(hr.blk k p hk).1 hown;obtain⟨hwd,hat⟩:=hr.ints_at hk hl;rw[hwd]at hroom;by_cases hroom0:ys.length+xs.length<=p.cap
      ·have hsome:∀j,j<(xs.map (Value.int .i64)).length->(w.cell? ⟨p.b,p.o+ys.length+j,none⟩).isSome=true:=fun j hj=>by
        rw[Nat.add_assoc];exact hroom _ (by simp at hj;omega)
       have run:=run_append_room_src (P:=P) w t u ty e i ht hi p.b p.o ys.length p.cap x' xs.length (xs.map (Value.int .i64)) (by rw[hsz];exact hx.src hu) hroom0 (by rw[hsz,Nat.mul_one];exact hsome) (fun j _=>hfz _)
       rw[hsz,Nat.mul_one]at run;refine⟨_,_,run,_,hr.sK p,VR.vec (upd_same _ _ _) hroom0,hr.X8 hk hown _ _ _ ⟨fun _=>⟨hnb,fun o=>(World.frozen?_setCells _ _ _ _ _).trans (hfz o),fun j hj=>mH _ _ _ _ hsome _ (hroom j (by rw[hwd]at hj;exact hj))⟩,hwd,fun j v hv=> ?_⟩⟩
       rcases Nat.lt_or_ge j ys.length with hj|hj
       ·rw[List.getElem?_append_left hj]at hv
        rw[World.cell?_setCells_out _ _ _ _ ⟨p.b,p.o+j,none⟩ (fun _ _=>by simp;omega)]
        exact hat j v hv
       ·rw[List.getElem?_append_right hj]at hv
        have hj2:=(List.getElem?_eq_some_iff.1 hv).1;have:=World.cell?_setCells_in p.b (xs.map (Value.int .i64)) (p.o+ys.length) w hsome (j-ys.length) (by simpa using hj2)
        rw[show p.o+ys.length+(j-ys.length)=p.o+j by omega]at this
        rw[this];simp only[List.getElem_map];obtain⟨_,rfl⟩:=List.getElem?_eq_some_iff.1 hv;rfl
      ·have VK:HR n w0 G σ (lh.set k .dead) w:=hr.re hk .dead (fun e=>by cases e) (fun e=>by cases e) ⟨fun e=>(by cases e),trivial⟩
       have ho:Holds P w 1 (.slice (some ⟨p.b,p.o,none⟩) ys.length p.cap) ys.length (ys.map (Value.int .i64)):=jX (Ah _) (by simp) fun j v hv=>by
        simp only[List.getElem?_map,Option.map_eq_some_iff]at hv;obtain⟨q,hq,rfl⟩:=hv;exact hat j q hq
       have:=xP (ty:=ty) VK ht hu hi hz hsz hby ho hx (by omega) (fo hc)
       simpa using this
     ·cases hv
   ·cases h
  ·cases h
 ·cases h
theorem Mv(hr:HR n w0 G σ lh w){t u e e2 ty:TypeId}{i:TypeInfo}{base:Option Addr}{W sLen sCap:Nat}{x':Value}{z:Value}{ys cs:List Value}{g':Rows}(ht:P.underlying t=some (.slice e))(hu:P.underlying u=some (.slice e2))(hi:P.info? e=some i)(hz:zeroOf P e=some z)
  (hsz:i.size=W) (hzs:z.cells.size=W) (hW:1<=W) (hby:i.bytes<=1024) (ho:Holds P w W (.slice base sLen sCap) sLen ys) (hx:Holds P w W x' 1 cs) (Iu:sCap<sLen+1) (hsm:sLen+1<=1073741824)
  (hg:∀(i j:Nat) (v:Value),j<W->(ys++cs)[i*W+j]?=some v->VR σ (g'.at i j).val v):
  ∃v' w',(Builtin.append_ #[t,u] ty #[.slice base sLen sCap,x']).run P w=.ok v' w'/\Good n w0 G σ lh.length (iJ lh.length (sLen+1),lh++[.rows true true W (sLen+1) g']) v' w':=by
 have hfit:=growslice_fits Iu (bytes:=i.bytes) (Nat.le_trans (Nat.mul_le_mul hsm hby) (by decide))
 have run:=run_append_grow_src (P:=P) w t u ty e i z ht hi (NW hi hz) base sLen sCap ys (by rw[hsz];exact ho.old) x' 1 cs (by rw[hsz];exact hx.src hu) Iu (by omega) hfit
 refine⟨_,_,run,?_⟩;have hcap:=grownCap_ge w (sLen+1) sCap e;generalize grownCap w (sLen+1) sCap e=cap at*;have hyl:=ho.2.1;have hcl:=hx.2.1;have hlen:(ys++cs).length=(sLen+1)*W:=by rw[List.length_append,hyl,hcl, <-Nat.add_mul]
 have hsize:(((ys++cs).toArray++Builtin.zeroCells z.cells (cap-(sLen+1)))).size=cap*W:=by
  rw[Array.size_append,List.size_toArray,hlen,size_zeroCells];show(sLen+1)*W+(cap-(sLen+1))*z.cells.size=cap*W;rw[hzs, <-Nat.add_mul];congr 1;omega
 have hb:BR n (upd σ lh.length ⟨w.drew.heap.size,0,W,cap⟩) (.rows true true W (sLen+1) g') ⟨w.drew.heap.size,0,W,cap⟩ (w.drew.alloc (.cells ((ys++cs).toArray++Builtin.zeroCells z.cells (cap-(sLen+1))) e)):=by
  refine⟨fun _=>⟨hr.drew.size.new,fun o=>World.frozen?_alloc_new _ _ _ _,fun j hj=> ?_⟩,rfl,fun q j hq hj=> ?_⟩
  ·rw[Nat.zero_add,World.cell?_alloc_new]
   have:j<cap*W:=hj;rw[Array.getElem?_eq_getElem (by rw[hsize];exact this)];rfl
  ·have hlt:q*W+j<(ys++cs).length:=by
    rw[hlen]
    calc q*W+j<q*W+W:=by omega
     _=(q+1)*W:=by rw[Nat.add_mul];omega
     _<=(sLen+1)*W:=Nat.mul_le_mul_right _ (by omega)
   refine⟨(ys++cs)[q*W+j],?_,(hg q j _ hj (List.getElem?_eq_getElem hlt)).mono (hr.wK _)⟩;rw[Nat.zero_add,World.cell?_alloc_new,Array.getElem?_append_left (by simpa using hlt)]
   simp only[List.getElem?_toArray];exact List.getElem?_eq_getElem hlt
 exact⟨_,hr.drew.sK _,VR.vec (p:=⟨w.drew.heap.size,0,W,cap⟩) (upd_same _ _ _) hcap,hr.drew.new _ _ _ rfl hb⟩
theorem X4{W i j:Nat}(hj:j<W):(i*W+j)/W=i/\(i*W+j)%W=j:=by
 have hW:0<W:=by omega
 constructor
 ·rw[Nat.add_comm,Nat.add_mul_div_right _ _ hW,Nat.div_eq_of_lt hj];omega
 ·rw[Nat.add_comm,Nat.add_mul_mod_self_right,Nat.mod_eq_of_lt hj]
theorem RZ{v:Value}(h:oV v=true):uB v=true:=by
 cases v<;>first|rfl|cases h
theorem yf(hr:HR n w0 G σ lh w){t u e e2 ty:TypeId}{i:TypeInfo}{s s':Value}{z:Value}{k0:Nat}{p0:Pl}{ow wr:Bool}{c:List Value}{r:Value×List ag}(ht:P.underlying t=some (.slice e))(hu:P.underlying u=some (.slice e2))(hi:P.info? e=some i)(hz:zeroOf P e=some z)
  (hcl:c.length=i.size) (hzs:z.cells.size=i.size) (hW:1<=i.size) (hby:i.bytes<=1024) (hcell:c.all oV=true) (hs:VR σ s s') (hk0:σ k0=some p0) (hl0:lh.getD k0 .dead=.cells ow wr c) (h:(qA i.size s c lh).get=some r):
  ∃v' w',(Builtin.append_ #[t,u] ty #[s',.slice (some ⟨p0.b,p0.o,none⟩) 1 1]).run P w=.ok v' w'/\Good n w0 G σ lh.length r v' w':=by
 obtain⟨cs,ahu,hcs⟩:=mW (Q:=fun q v'=>w.cell? ⟨p0.b,p0.o+q,none⟩=some v'/\VR σ (c.getD q undef) v') i.size (fun q hq=>by
  obtain⟨v',h1,h2⟩:=hr.jB hk0 hl0 (List.getElem?_eq_getElem (by omega:q<c.length))
  exact⟨v',h1,by simpa[hcl,hq]using h2⟩)
 have hsc:∀j,j<i.size->uB (c.getD j undef)=true/\oV (c.getD j undef)=true:=fun j hj=>by
  rw[List.all_eq_true]at hcell
  have h1:=hcell (c.getD j undef) (by
   rw[List.getD_eq_getElem?_getD,List.getElem?_eq_getElem (by omega)]
   exact List.getElem_mem _)
  exact⟨RZ h1,h1⟩
 have hone:∀v∈cs,v.oneCell'=true:=fun v hv=>by
  obtain⟨q,hq,rfl⟩:=List.mem_iff_getElem.1 hv;exact qR (hcs q _ (List.getElem?_eq_getElem hq)).2 (hsc _ (by omega)).1
 have hx:Holds P w i.size (.slice (some ⟨p0.b,p0.o,none⟩) 1 1) 1 cs:=jX hone (by omega) fun j v hv=>(hcs j v hv).1
 unfold qA at h;split at h
 ·simp only[M.ah,Option.some.injEq]at h;subst h
  obtain rfl:=hs.aD rfl
  have:=Mv (ty:=ty) hr (sCap:=0) (base:=none) (sLen:=0) (ys:=[]) (g':=rowOf c) ht hu hi hz rfl hzs hW hby ⟨by simp,by simp,.inl ⟨0,rfl,rfl⟩⟩ hx (by omega) (by omega) (fun q j v hj hv=>by
   have hq:q=0:=by
    have:=(List.getElem?_eq_some_iff.1 hv).1;simp only[List.nil_append,ahu]at this;rcases Nat.eq_zero_or_pos q with h0|h0
    ·exact h0
    ·have:=Nat.mul_le_mul_right i.size h0;omega
   subst hq;simp only[List.nil_append,Nat.zero_mul,Nat.zero_add]at hv;rw[aaQ (by omega) (hsc j hj).2]
   exact(hcs j v hv).2)
  simpa using this
 ·rename_i k l
  obtain⟨p,hk,hle,rfl⟩:∃p,σ k=some p/\l<=p.cap/\s'=.slice (some ⟨p.b,p.o,none⟩) l p.cap:=by
   cases hs with
   |vec h hl=>exact⟨_,h,hl,rfl⟩
  split at h
  ·rename_i wd m g hl
   rcases M.af h with⟨hwd,h⟩|⟨_,h⟩
   ·rcases M.af h with⟨hlm,h⟩|⟨_,h⟩
    ·rcases M.af h with⟨abI,h⟩|⟨_,h⟩
     ·simp only[M.ah,Option.some.injEq]at h;subst h
      obtain rfl:=beq_true hlm;have alf:wd=i.size:=beq_true hwd;subst alf;rw[Bool.and_eq_true]at abI;have alp:=abI.2;have ali:l+1<=1073741824:=fo abI.1;obtain⟨hpw,hat⟩:=hr.sj hk hl
      obtain⟨ys,CV,hys⟩:=mW (Q:=fun q v'=>w.cell? ⟨p.b,p.o+q,none⟩=some v'/\VR σ (g.at (q/i.size) (q%i.size)).val v') (l*i.size) (fun q hq=>by
       have hq1:q/i.size<l:=Nat.div_lt_of_lt_mul (by rw[Nat.mul_comm];exact hq)
       have hq2:q%i.size<i.size:=Nat.mod_lt _ (by omega)
       obtain⟨v',h1,h2⟩:=hat _ _ hq1 hq2;refine⟨v',?_,h2⟩;rwa[show q/i.size*i.size+q%i.size=q by rw[Nat.mul_comm];exact Nat.div_add_mod q i.size]at h1)
      have ajt:∀v∈ys,v.oneCell'=true:=fun v hv=>by
       obtain⟨q,hq,rfl⟩:=List.mem_iff_getElem.1 hv;refine qR (hys q _ (List.getElem?_eq_getElem hq)).2 ?_;cases g.at (q/i.size) (q%i.size)<;>rfl
      have hgv:∀(q j:Nat) (v:Value),j<i.size->(ys++cs)[q*i.size+j]?=some v->VR σ ((eY l c g).at q j).val v:=by
       intro q j v hj hv;rcases Nat.lt_or_ge q l with hq|hq
       ·have hlt:q*i.size+j<ys.length:=by
         rw[CV]
         calc q*i.size+j<q*i.size+i.size:=by omega
          _=(q+1)*i.size:=by rw[Nat.add_mul];omega
          _<=l*i.size:=Nat.mul_le_mul_right _ hq
        rw[List.getElem?_append_left hlt]at hv;have h2:=(hys _ v hv).2;rw[(X4 hj).1,(X4 hj).2]at h2;rw[EH (by omega)];exact h2
       ·have hlt:=(List.getElem?_eq_some_iff.1 hv).1
        rw[List.length_append,CV,ahu]at hlt
        have hq':q=l:=by
         rcases Nat.lt_or_ge l q with h1|h1
         ·have:=Nat.mul_le_mul_right i.size h1
          rw[Nat.succ_mul]at this;omega
         ·omega
        subst hq';rw[List.getElem?_append_right (by rw[CV];omega),CV,Nat.add_sub_cancel_left]at hv
        rw[EI alp (by omega) (hsc j hj).2]
        exact(hcs j v hv).2
      have hown:(lh.getD k .dead).owned=true:=by rw[hl];rfl
      obtain⟨hnb,hfz,hroom⟩:=(hr.blk k p hk).1 hown;rw[hpw]at hroom;by_cases hroom0:l+1<=p.cap
      ·have hle2:(l+1)*i.size<=p.cap*i.size:=Nat.mul_le_mul_right _ hroom0
       rw[Nat.succ_mul]at hle2
       have hsome:∀j,j<cs.length->(w.cell? ⟨p.b,p.o+l*i.size+j,none⟩).isSome=true:=fun j hj=>by
        rw[Nat.add_assoc];exact hroom _ (by omega)
       have run:=run_append_room_src (P:=P) w t u ty e i ht hi p.b p.o l p.cap (.slice (some ⟨p0.b,p0.o,none⟩) 1 1) 1 cs (hx.src hu) hroom0 hsome (fun j _=>hfz _)
       refine⟨_,_,run,_,hr.sK p,VR.vec (upd_same _ _ _) hroom0,hr.X8 hk hown _ _ _ ⟨fun _=>⟨hnb,fun o=>(World.frozen?_setCells _ _ _ _ _).trans (hfz o),fun j hj=>mH _ _ _ _ hsome _ (hroom j (by rw[hpw]at hj;exact hj))⟩,hpw,fun q j hq hj=> ?_⟩⟩
       rcases Nat.lt_or_ge q l with hql|hql
       ·have hlt:q*i.size+j<ys.length:=by
         rw[CV]
         calc q*i.size+j<q*i.size+i.size:=by omega
          _=(q+1)*i.size:=by rw[Nat.add_mul];omega
          _<=l*i.size:=Nat.mul_le_mul_right _ hql
        refine⟨ys[q*i.size+j],?_,(hgv q j _ hj (by rw[List.getElem?_append_left hlt];exact List.getElem?_eq_getElem hlt)).mono (hr.wK p)⟩
        rw[World.cell?_setCells_out _ _ _ _ ⟨p.b,p.o+(q*i.size+j),none⟩ (fun _ _=>by simp;omega)]
        exact(hys _ _ (List.getElem?_eq_getElem hlt)).1
       ·obtain rfl:q=l:=by omega
        have hlt:j<cs.length:=by omega
        refine⟨cs[j],?_,(hgv q j _ hj (by rw[List.getElem?_append_right (by rw[CV];omega),CV,Nat.add_sub_cancel_left];exact List.getElem?_eq_getElem hlt)).mono (hr.wK p)⟩
        have:=World.cell?_setCells_in p.b cs (p.o+q*i.size) w hsome j hlt;rw[show p.o+q*i.size+j=p.o+(q*i.size+j)by omega]at this
        rw[this]
      ·have VK:HR n w0 G σ (lh.set k .dead) w:=hr.re hk .dead (fun e=>by cases e) (fun e=>by cases e) ⟨fun e=>(by cases e),trivial⟩
       have ho:Holds P w i.size (.slice (some ⟨p.b,p.o,none⟩) l p.cap) l ys:=jX ajt CV fun j v hv=>(hys j v hv).1
       have:=Mv (ty:=ty) VK (g':=eY l c g) ht hu hi hz rfl hzs hW hby ho hx (by omega) ali hgv
       simpa using this
     ·cases h
    ·cases h
   ·cases h
  ·cases h
 ·cases h
end
end Go.Sx
namespace Go.Sx
open Go Go.RowKit
def bu(lh bV:List ag):Prop:=lh.length<=bV.length/\∀k,k<lh.length->(lh.getD k .dead).vo=false->bV.getD k .dead=lh.getD k .dead
theorem bu.refl(lh:List ag):bu lh lh:=⟨Nat.le_refl _,fun _ _ _=>rfl⟩
theorem bu.trans{a b c:List ag}(h:bu a b)(k:bu b c):bu a c:=
 ⟨Nat.le_trans h.1 k.1,fun i hi hw=>by
  have h1:=h.2 i hi hw;have h2:=k.2 i (Nat.lt_of_lt_of_le hi h.1) (by rw[h1];exact hw)
  rw[h2,h1]⟩
theorem bu.append(lh N:List ag):bu lh (lh++N):=⟨by simp,fun k hk _=>by simp[List.getElem?_append_left hk]⟩
theorem bu.set(lh:List ag){k:Nat}(blk:ag)(hw:(lh.getD k .dead).vo=true):bu lh (lh.set k blk):=
 ⟨by simp,fun i hi hiw=>by
  have e:i≠k:=fun e=>by subst e;rw[hw]at hiw;cases hiw
  exact aX _ _ e⟩
section
variable{n:Nat->Prop} {w0:World} {G:Kj}
def iL(P:Program)(f:FuncId)(fn:Func):Prop:=P.funcs[f]?=some fn/\(fn.name== "runtime.NumGoroutine")=false/\fn.body.isSome=true
theorem iL.run{P:Program}{f:FuncId}{fn:Func}(h:iL P f fn)(as:Array Value)(w:World):(callFunc f as).run P w=.ok (.enter f as) w:=by
 obtain⟨h1,h2,h3⟩:=h;have h2':¬fn.name= "runtime.NumGoroutine" :=by simpa using h2
 have h4':¬fn.body=none:=fun e=>by rw[e]at h3;cases h3
 simp[callFunc,h1,h2',h4']
def dK(P:Program)(n:Nat->Prop)(w0:World)(G:Kj)(f:FuncId)(args:List Value)(lh:List ag)(r:Value×List ag):Prop:=
 bu lh r.2/\∀σ w args',HR n w0 G σ lh w->dY σ args.toArray args'->Calls P f args' w fun e w'=>∃v',e=.returned v'/\Good n w0 G σ lh.length r v' w'
def kF(P:Program)(n:Nat->Prop)(w0:World)(G:Kj)(bB:FuncId->List Value->List ag->M (Value×List ag)):Prop:=
 ∀f args lh r,(bB f args lh).get=some r->(∃fn,iL P f fn)/\dK P n w0 G f args lh r
theorem Ov{P:Program}{t:TypeId}{a x:Value}{lh bV:List ag}(h:(BP P t a x lh).get=some bV):bu lh bV:=by
 unfold BP at h;split at h
 ·split at h
  ·rename_i hl
   rcases M.af h with⟨_,h⟩|⟨_,h⟩
   ·rcases M.af h with⟨_,h⟩|⟨_,h⟩
    ·simp only[M.ah,Option.some.injEq]at h;subst h
     exact bu.set _ _ (by rw[hl];rfl)
    ·cases h
   ·cases h
  ·rename_i hl
   rcases M.af h with⟨_,h⟩|⟨_,h⟩
   ·rcases M.af h with⟨_,h⟩|⟨_,h⟩
    ·simp only[M.ah,Option.some.injEq]at h;subst h
     exact bu.set _ _ (by rw[hl];rfl)
    ·cases h
   ·cases h
  ·rename_i hl
   split at h
   ·rcases M.af h with⟨_,h⟩|⟨_,h⟩
    ·rcases M.af h with⟨_,h⟩|⟨_,h⟩
     ·simp only[M.ah,Option.some.injEq]at h;subst h
      exact bu.set _ _ (by rw[hl];rfl)
     ·cases h
    ·cases h
   ·cases h
  ·cases h
 ·cases h
theorem Gt{s:Value}{xs:List Int}{lh:List ag}{r:Value×List ag}(h:(rz s xs lh).get=some r):bu lh r.2:=by
 unfold rz at h;split at h
 ·rcases M.af h with⟨_,h⟩|⟨_,h⟩
  ·simp only[M.ah,Option.some.injEq]at h;subst h;exact bu.refl _
  ·rcases M.af h with⟨_,h⟩|⟨_,h⟩
   ·simp only[M.ah,Option.some.injEq]at h;subst h;exact bu.append _ _
   ·cases h
 ·rcases M.af h with⟨_,h⟩|⟨_,h⟩
  ·simp only[M.ah,Option.some.injEq]at h;subst h;exact bu.refl _
  ·rcases M.af h with⟨_,h⟩|⟨_,h⟩
   ·simp only[M.ah,Option.some.injEq]at h;subst h;exact bu.append _ _
   ·cases h
 ·rcases M.af h with⟨_,h⟩|⟨_,h⟩
  ·rcases M.af h with⟨_,h⟩|⟨_,h⟩
   ·cases h
   ·obtain⟨ys,_,h⟩:=M.ay h
    rcases M.af h with⟨_,h⟩|⟨_,h⟩
    ·simp only[M.ah,Option.some.injEq]at h;subst h;exact bu.append _ _
    ·cases h
  ·cases h
 ·split at h
  ·rename_i hl
   rcases M.af h with⟨_,h⟩|⟨_,h⟩
   ·rcases M.af h with⟨_,h⟩|⟨_,h⟩
    ·simp only[M.ah,Option.some.injEq]at h;subst h;exact bu.refl _
    ·rcases M.af h with⟨_,h⟩|⟨_,h⟩
     ·simp only[M.ah,Option.some.injEq]at h;subst h
      exact(bu.set _ _ (by rw[hl];rfl)).trans (bu.append _ _)
     ·cases h
   ·cases h
  ·cases h
 ·cases h
theorem yg{m:Nat}{s:Value}{c:List Value}{lh:List ag}{r:Value×List ag}(h:(qA m s c lh).get=some r):bu lh r.2:=by
 unfold qA at h;split at h
 ·simp only[M.ah,Option.some.injEq]at h;subst h;exact bu.append _ _
 ·split at h
  ·rename_i hl
   rcases M.af h with⟨_,h⟩|⟨_,h⟩
   ·rcases M.af h with⟨_,h⟩|⟨_,h⟩
    ·rcases M.af h with⟨_,h⟩|⟨_,h⟩
     ·simp only[M.ah,Option.some.injEq]at h;subst h
      exact(bu.set _ _ (by rw[hl];rfl)).trans (bu.append _ _)
     ·cases h
    ·cases h
   ·cases h
  ·cases h
 ·cases h
theorem Nw{P:Program}{t u:TypeId}{s x:Value}{lh:List ag}{r:Value×List ag}(h:(zG P t u s x lh).get=some r):bu lh r.2:=by
 unfold zG at h;split at h
 ·split at h
  ·rcases M.af h with⟨_,h⟩|⟨_,h⟩
   ·obtain⟨ys,_,h⟩:=M.ay h
    exact Gt h
   ·cases h
  ·split at h
   ·split at h
    ·rcases M.af h with⟨_,h⟩|⟨_,h⟩
     ·exact yg h
     ·cases h
    ·cases h
   ·cases h
  ·split at h
   ·split at h
    ·rcases M.af h with⟨_,h⟩|⟨_,h⟩
     ·exact yg h
     ·cases h
    ·cases h
   ·cases h
  ·cases h
 ·cases h
theorem Nv{P:Program}{σ:Nat->Option Pl}{lh:List ag}{w:World}(hr:HR n w0 G σ lh w){t u ty:TypeId}{s s' x x':Value}{r:Value×List ag}(hs:VR σ s s')(hx:VR σ x x')(h:(zG P t u s x lh).get=some r):
  ∃v' w',(Builtin.append_ #[t,u] ty #[s',x']).run P w=.ok v' w'/\Good n w0 G σ lh.length r v' w':=by
 unfold zG at h;split at h
 ·rename_i e e2 ht hu
  split at h
  ·rename_i i hi hk hz
   rcases M.af h with⟨hb,h⟩|⟨_,h⟩
   ·obtain⟨ys,hy,h⟩:=M.ay h
    simp only[Bool.and_eq_true]at hb;exact Gs hr ht hu hi hz (beq_true hb.1) (beq_true hb.2) hs (Bi hr hx hy) h
   ·cases h
  ·rename_i i fs z hi hk hz
   split at h
   ·rename_i k
    split at h
    ·rename_i ow wr c hl
     rcases M.af h with⟨hb,h⟩|⟨_,h⟩
     ·simp only[Bool.and_eq_true]at hb
      obtain⟨⟨⟨⟨b1,b2⟩,b3⟩,b4⟩,b5⟩:=hb;obtain⟨p,hkp,rfl⟩:=hx.p9;have:=yf (ty:=ty) hr ht hu hi hz (beq_true b1) (beq_true b2) (fo b3) (fo b4) b5 hs hkp hl h;simpa using this
     ·cases h
    ·cases h
   ·cases h
  ·rename_i i z hi hk hz
   split at h
   ·rename_i k
    split at h
    ·rename_i ow wr c hl
     rcases M.af h with⟨hb,h⟩|⟨_,h⟩
     ·simp only[Bool.and_eq_true]at hb
      obtain⟨⟨⟨⟨b1,b2⟩,b3⟩,b4⟩,b5⟩:=hb;obtain⟨p,hkp,rfl⟩:=hx.p9;have:=yf (ty:=ty) hr ht hu hi hz (beq_true b1) (show(Value.bool z).cells.size=_ from beq_true b2) (fo b3) (fo b4) b5 hs hkp hl h
      simpa using this
     ·cases h
    ·cases h
   ·cases h
  ·cases h
 ·cases h
theorem Nr{P:Program}{t:TypeId}{m k v:Value}{lh bV:List ag}(h:(zo P t m k v lh).get=some bV):bu lh bV:=by
 unfold zo at h;split at h
 ·split at h
  ·split at h
   ·rename_i hl
    obtain⟨u,hf,h⟩:=M.ay h;simp only[M.ah,Option.some.injEq]at h;subst h;exact bu.set lh _ (by rw[hl];rfl)
   ·cases h
  ·cases h
 ·cases h
theorem yD{E:Env}{bB:FuncId->List Value->List ag->M (Value×List ag)}(hc:kF E.P n w0 G bB){ev:Operand->Value}{lh:List ag}{op:Op}{r:Value×List ag}(h:(Ar E bB ev lh op).get=some r):bu lh r.2:=by
 unfold Ar at h;split at h
 ·obtain⟨l,hl,h⟩:=M.ay h
  simp only[M.ah,Option.some.injEq]at h;subst h;exact Ov hl
 ·obtain⟨l,hl,h⟩:=M.ay h
  simp only[M.ah,Option.some.injEq]at h;subst h;exact Nr hl
 ·split at h
  ·split at h
   ·exact(hc _ _ _ _ h).2.1
   ·cases h
  ·split at h
   ·exact Nw h
   ·cases h
  ·cases h
 ·cases h
theorem EJ{E:Env}{bB:FuncId->List Value->List ag->M (Value×List ag)}(hc:kF E.P n w0 G bB){σ:Nat->Option Pl}{lh:List ag}{w:World}(hr:HR n w0 G σ lh w){ev:Operand->Value}{a:Act}{o:Oper}
  (hop:∀x∈o.op.operands,VR σ (ev x) (a.eval x)) {r:Value×List ag} (h:(Ar E bB ev lh o.op).get=some r) {next:Act->World->Prop} {Q:Exit->Act->World->Prop}
  (hn:∀v' w',Good n w0 G σ lh.length r v' w'->next (a.put o.dst v') w'):o.wp E.P a w next Q:=by
 obtain⟨dst,op,ty,pos,after,guard⟩:=o;simp only at h hop hn;unfold Ar at h;split at h
 ·rename_i t x y
  obtain⟨l,hl,h⟩:=M.ay h;simp only[M.ah,Option.some.injEq]at h;subst h;obtain⟨w',h1,h2⟩:=Ou hr (hop x (by simp[Op.operands])) (hop y (by simp[Op.operands])) hl
  unfold Oper.wp;simp only[execOp,Sem.run_bind,h1,Result.andThen_ok,Sem.run_pure,Oper.upon_skip];exact hn _ _ ⟨σ,Ext.refl _ _,VR.any _,h2⟩
 ·rename_i t m k x
  obtain⟨l,hl,h⟩:=M.ay h;simp only[M.ah,Option.some.injEq]at h;subst h;obtain⟨w',h1,h2⟩:=Np hr (hop m (by simp[Op.operands])) (hop k (by simp[Op.operands])) (hop x (by simp[Op.operands])) hl
  unfold Oper.wp;simp only[execOp,Sem.run_bind,h1,Result.andThen_ok,Sem.run_pure,Oper.upon_skip];exact hn _ _ ⟨σ,Ext.refl _ _,VR.any _,h2⟩
 ·rename_i c
  obtain⟨callee,args,ats⟩:=c;simp only at h;split at h
  ·rename_i f
   split at h
   ·rename_i g fa cp hf
    obtain⟨⟨fn,hfn⟩,_,hcall⟩:=hc _ _ _ _ h;have hfv:=hop f (by simp[Op.operands,Call.operands])
    rw[hf]at hfv
    obtain⟨fa',cp',hev,ha,hcp⟩:∃fa' cp',a.eval f=.func (.func g) fa' cp'/\dY σ fa fa'/\dY σ cp cp':=by
     cases he:a.eval f<;>rw[he]at hfv<;>cases hfv
     rename_i a1 a2 a3 a4 a5 a6;exact⟨_,_,rfl,⟨a3,a4⟩,⟨a5,a6⟩⟩
    have hargs:=dY.map (σ:=σ) ev a.eval args fun x hx=>hop x (by simp[Op.operands,Call.operands,hx])
    have hall:dY σ (fa.toList++args.toList.map ev++cp.toList).toArray (fa'++args.map a.eval++cp'):=by
     have:=(ha.append hargs).append hcp
     have e:(fa.toList++args.toList.map ev++cp.toList).toArray=fa++args.map ev++cp:=by
      apply Array.toList_inj.1;simp
     rw[e];exact this
    have:=hcall σ w _ hr hall;unfold Oper.wp;simp only[execOp,resolve,hev,Deferred.ofValue,Sem.run_bind,Sem.run_pure,Result.andThen_ok,invoke,hfn.run,Oper.upon_enter];refine this.mono fun e w' hh=> ?_
    obtain⟨v',rfl,hg⟩:=hh;exact hn _ _ hg
   ·cases h
  ·split at h
   ·rename_i hargs abS
    obtain rfl:args= #[_,_]:=Array.toList_inj.1 hargs;obtain rfl:ats= #[_,_]:=Array.toList_inj.1 abS;obtain⟨v',w',h1,h2⟩:=Nv (ty:=ty) hr (hop _ (by simp[Op.operands,Call.operands])) (hop _ (by simp[Op.operands,Call.operands])) h
    unfold Oper.wp;simp only[execOp,resolve,invoke,builtin,Sem.run_bind,Sem.run_pure,Result.andThen_ok,List.map_toArray,List.map_cons,List.map_nil,h1,Oper.upon_value];exact hn _ _ h2
   ·cases h
  ·cases h
 ·cases h
theorem LV{E:Env}{bB:FuncId->List Value->List ag->M (Value×List ag)}(hc:kF E.P n w0 G bB){ev:Operand->Value}{lh:List ag}{op:Op}{r:Value×List ag}(h:(Yu E bB ev lh op).get=some r):bu lh r.2:=by
 unfold Yu at h;split at h
 ·obtain⟨v,_,h⟩:=M.ay h
  simp only[M.ah,Option.some.injEq]at h;subst h;exact bu.refl _
 ·obtain⟨v,_,h⟩:=M.ay h
  simp only[M.ah,Option.some.injEq]at h;subst h;exact bu.append _ _
 ·exact yD hc h
theorem Yt{E:Env}(hE:vN E){bB:FuncId->List Value->List ag->M (Value×List ag)}(hc:kF E.P n w0 G bB){σ:Nat->Option Pl}{lh:List ag}{w:World}(hr:HR n w0 G σ lh w){ev:Operand->Value}{a:Act}{o:Oper}
  (hop:∀x∈o.op.operands,VR σ (ev x) (a.eval x)) {r:Value×List ag} (h:(Yu E bB ev lh o.op).get=some r) {next:Act->World->Prop} {Q:Exit->Act->World->Prop}
  (hn:∀v' w',Good n w0 G σ lh.length r v' w'->next (a.put o.dst v') w'):o.wp E.P a w next Q:=by
 unfold Yu at h;split at h
 ·obtain⟨v,hv,h⟩:=M.ay h
  simp only[M.ah,Option.some.injEq]at h;subst h;obtain⟨v',h1,h2⟩:=GH hE hr hop hv;unfold Oper.wp;rw[h1,Oper.upon_value];exact hn _ _ ⟨σ,Ext.refl _ _,h2,hr⟩
 ·obtain⟨q,hq,h⟩:=M.ay h
  simp only[M.ah,Option.some.injEq]at h;subst h;obtain⟨v',ob,h1,h2⟩:=Ia hr.size hop hq;unfold Oper.wp;rw[h1,Oper.upon_value];exact hn _ _ (h2.good hr)
 ·exact EJ hc hr hop h hn
structure Rel(n:Nat->Prop)(w0:World)(G:Kj)(σ:Nat->Option Pl)(s:St)(a:Act)(w:World):Prop where
 sz:a.tmps.size=s.tmps.length
 tm:∀t,VR σ (s.tmps.getD t undef) (a.tmps.getD t undef)
 df:a.defers=[]
 hr:HR n w0 G σ s.lh w
theorem C9(tm:List Value)(dst:Option Tmp)(v:Value)(t:Nat):(lY tm dst v).getD t undef=if dst=some t/\t<tm.length then v else tm.getD t undef:=by
 cases dst with
 |none=>simp[lY]
 |some d=>
  simp only[lY,List.getD_eq_getElem?_getD,List.getElem?_set];by_cases e:d=t
  ·subst e
   by_cases hl:d<tm.length
   ·simp[hl]
   ·simp[hl]
  ·simp[e]
theorem Qi(a:Act)(dst:Option Tmp)(v:Value)(t:Nat):(a.put dst v).tmps.getD t undef=if dst=some t/\t<a.tmps.size then v else a.tmps.getD t undef:=by
 cases dst with
 |none=>simp[Act.put]
 |some d=>
  simp only[Act.put,Array.getD_eq_getD_getElem?,Array.getElem?_setIfInBounds];by_cases e:d=t
  ·subst e
   by_cases hl:d<a.tmps.size
   ·simp[hl]
   ·simp[hl]
  ·simp[e]
theorem EE(tm:List Value)(dst:Option Tmp)(v:Value):(lY tm dst v).length=tm.length:=by cases dst<;>simp[lY]
theorem O0(a:Act)(dst:Option Tmp)(v:Value):(a.put dst v).tmps.size=a.tmps.size:=by cases dst<;>simp[Act.put]
theorem put_defers(a:Act)(dst:Option Tmp)(v:Value):(a.put dst v).defers=a.defers:=by cases dst<;>rfl
theorem Rel.put{σ σ':Nat->Option Pl}{s:St}{a:Act}{w w':World}(h:Rel n w0 G σ s a w)(hs:Le σ σ')(dst:Option Tmp){v v':Value}(hv:VR σ' v v'){bV:List ag}(hr:HR n w0 G σ' bV w'):
  Rel n w0 G σ' ⟨lY s.tmps dst v,bV⟩ (a.put dst v') w':=by
 refine⟨by rw[O0,EE];exact h.sz,fun t=> ?_,by rw[put_defers];exact h.df,hr⟩
 rw[C9,Qi,h.sz];split
 ·exact hv
 ·exact(h.tm t).mono hs
theorem Rel.ev{σ:Nat->Option Pl}{s:St}{a:Act}{w:World}(h:Rel n w0 G σ s a w)(x:Operand):VR σ (qx G s.tmps x) (a.eval x):=by
 cases x with
 |tmp t=>exact h.tm t
 |const v=>
  simp only[qx,Act.eval];cases hp:plain v with
  |true=>exact VR.plain σ hp
  |false=>exact VR.any _
 |global g=>
  exact VR.any _
 |func f=>exact VR.func f rfl rfl (fun i x y hx=>by simp at hx) fun i x y hx=>by simp at hx
theorem Rel.afL{σ:Nat->Option Pl}{s:St}{a:Act}{w:World}(h:Rel n w0 G σ s a w){t:Nat}{b:Bool}(hb:s.tmps.getD t undef=.bool b):a.tmps[t]?=some (.bool b):=by
 have:=h.tm t;rw[hb]at this;have e:=this.aD rfl;rw[Array.getD_eq_getD_getElem?]at e;cases hx:a.tmps[t]? with
 |none=>rw[hx]at e;simp[undef]at e
 |some v=>rw[hx]at e;simp at e;rw[e]
theorem aaL(tm:List Value){t:Nat}{v:Value}(h:tm.getD t undef=v)(hv:v≠undef):tm.set t v=tm:=by
 have hl:t<tm.length:=by
  rcases Nat.lt_or_ge t tm.length with h1|h1
  ·exact h1
  ·exact absurd (by rw[<-h];simp[List.getElem?_eq_none h1]) hv
 have:tm[t]=v:=by simpa[hl]using h
 rw[<-this];exact List.set_getElem_self hl
theorem Ew{σ:Nat->Option Pl}{ops:Array Oper}{o:Oper}{j:Nat}{want:Bool}{t:Tmp}{tm:Array Value}{x:Option Nat}(hg:o.guard=some (j,want))(ht:(ops[j]?).bind (·.dst)=some t)(hv:VR σ (.chan x) (tm.getD t undef)):Region.wanted o (yielded ops tm)=false:=by
 have e:tm.getD t undef=undef:=by
  generalize tm.getD t undef=v at hv;cases hv with
  |skip=>rfl
 simp only[Region.wanted,hg,yielded,ht,Option.bind_some];cases hx:tm[t]? with
 |none=>rfl
 |some v=>
  rw[Array.getD_eq_getD_getElem?,hx]at e;simp at e;subst e;rfl
theorem EO{α:Type}{ops:Array Oper}{o:Oper}{s:St}{yes no:St->M α}{x:α}(h:(C8 ops o s yes no).get=some x):
  ∃g:Bool,(g=true->(yes s).get=some x)/\(g=false->(no s).get=some x)/\(∀σ a w,Rel n w0 G σ s a w->Region.wanted o (yielded ops a.tmps)=g)/\
   (o.guard=none/\g=true\/(∃j want t b,o.guard=some (j,want)/\(ops[j]?).bind (·.dst)=some t/\s.tmps.getD t undef=.bool b/\g=(b==want))\/∃j want t x,o.guard=some (j,want)/\(ops[j]?).bind (·.dst)=some t/\s.tmps.getD t undef=.chan x/\g=false):=by
 unfold C8 at h;split at h
 ·rename_i hg
  exact⟨true,fun _=>h,fun e=>(by cases e),fun _ _ _ _=>(by simp[Region.wanted,hg]),.inl ⟨hg,rfl⟩⟩
 ·rename_i j want hg
  split at h
  ·cases h
  ·rename_i t ht
   split at h
   ·rename_i b hb
    have hw:∀σ a w,Rel n w0 G σ s a w->Region.wanted o (yielded ops a.tmps)=(b==want):=by
     intro σ a w hrel;simp only[Region.wanted,hg,yielded,ht,Option.bind_some,hrel.afL hb];cases b<;>cases want<;>rfl
    have hset:∀c,b=c->(⟨s.tmps.set t (.bool c),s.lh⟩:St)=s:=by
     rintro c rfl;rw[aaL _ hb (by simp[undef])]
    rcases M.af h with⟨rfl,h⟩|⟨rfl,h⟩
    ·rw[hset true rfl]at h
     refine⟨_,?_,?_,hw,.inr (.inl ⟨j,want,t,true,hg,ht,hb,rfl⟩)⟩
     ·intro e;cases want<;>first|exact h|cases e
     ·intro e;cases want<;>first|exact h|cases e
    ·rw[hset false rfl]at h
     refine⟨_,?_,?_,hw,.inr (.inl ⟨j,want,t,false,hg,ht,hb,rfl⟩)⟩
     ·intro e;cases want<;>first|exact h|cases e
     ·intro e;cases want<;>first|exact h|cases e
   ·rename_i x hb
    refine⟨false,fun e=>(by cases e),fun _=>h,fun σ a w hrel=> ?_,.inr (.inr ⟨j,want,t,x,hg,ht,hb,rfl⟩)⟩
    have hv:=hrel.tm t;rw[hb]at hv;exact Ew hg ht hv
   ·cases h
theorem Ey{E:Env}(hE:vN E)(hG:E.G=G){bB:FuncId->List Value->List ag->M (Value×List ag)}(hc:kF E.P n w0 G bB)(ops:Array Oper):∀(l:List Nat) (s s':St),(GX (Ow E bB ops) l s).get=some s'->
  bu s.lh s'.lh/\∀σ a w (Q:Exit->Act->World->Prop),Rel n w0 G σ s a w->(∀σ' a' w',Ext s.lh.length σ σ'->Rel n w0 G σ' s' a' w'->Q .normal a' w')->wpOps E.P ops Q l a w
 |[],s,s',h=>by
  simp only[GX,M.ah,Option.some.injEq]at h;subst h;exact⟨bu.refl _,fun σ a w Q hrel hq=>hq σ a w (Ext.refl _ _) hrel⟩
 |i::r,s,s',h=>by
  obtain⟨s1,h1,h2⟩:=M.ay h;obtain⟨ik,ih⟩:=Ey hE hG hc ops r s1 s' h2;unfold Ow at h1;split at h1
  ·rename_i ho
   simp only[M.ah,Option.some.injEq]at h1;subst h1;refine⟨ik,fun σ a w Q hrel hq=> ?_⟩
   simp only[wpOps,ho];exact ih σ a w Q hrel hq
  ·rename_i o ho
   obtain⟨g,hy,hno,hw,_⟩:=EO (n:=n) (w0:=w0) (G:=G) h1;cases g with
   |true=>
    obtain⟨q,hq,hs1⟩:=M.ay (hy rfl);simp only[M.ah,Option.some.injEq]at hs1;subst hs1;refine⟨(LV hc hq).trans ik,fun σ a w Q hrel hfin=> ?_⟩
    simp only[wpOps,ho,hw σ a w hrel,if_true];refine .inl (Yt hE hc hrel.hr (fun x _=>by rw[hG];exact hrel.ev x) hq fun v' w' hgood=> ?_)
    obtain⟨σ',hle,hv,hr⟩:=hgood;exact ih σ' _ w' Q (hrel.put hle.1 o.dst hv hr) fun Bw a' w'' hle' hrel'=>hfin Bw a' w'' (hle.trans hle' (LV hc hq).1) hrel'
   |false=>
    have h3:=hno rfl;simp only[XI,M.ah,Option.some.injEq]at h3;subst h3;refine⟨ik,fun σ a w Q hrel hfin=> ?_⟩
    simp only[wpOps,ho,hw σ a w hrel,Bool.false_eq_true,if_false];exact ih σ _ w Q (hrel.put (Le.refl _) o.dst VR.skip hrel.hr) hfin
end
end Go.Sx
namespace Go.Sx
open Go Go.RowKit
def NU(acc:List Nat)(o:Oper):Nat:=o.after.toList.foldl (fun s e=>cond (Region.binds .any e) (s|||2^e.on|||acc.getD e.on 0) s) 0
theorem IG(acc:List Nat)(j:Nat):∀(l:List Edge) (s:Nat),Nat.testBit (l.foldl (fun s e=>cond (Region.binds .any e) (s|||2^e.on|||acc.getD e.on 0) s) s) j=true->
  Nat.testBit s j=true\/∃e∈l,Region.binds .any e=true/\(j=e.on\/Nat.testBit (acc.getD e.on 0) j=true)
 |[],s,h=>.inl h
 |e::l,s,h=>by
  rw[List.foldl_cons]at h;rcases IG acc j l _ h with h|⟨e',he',hb⟩
  ·cases hb:Region.binds .any e with
   |false=>rw[hb]at h;exact .inl h
   |true=>
    rw[hb]at h;simp only[cond_true,Nat.testBit_or,Bool.or_eq_true]at h;rcases h with(h|h)|h
    ·exact .inl h
    ·rw[Nat.testBit_two_pow]at h
     exact .inr ⟨e,List.mem_cons_self,hb,.inl (by simpa using (of_decide_eq_true h).symm)⟩
    ·exact .inr ⟨e,List.mem_cons_self,hb,.inr h⟩
  ·exact .inr ⟨e',List.mem_cons_of_mem _ he',hb⟩
theorem Un:∀(ops:List Oper) (acc:List Nat),let L:=ops.foldl (fun acc o=>acc++[NU acc o]) acc
  L.length=acc.length+ops.length/\(∀i,i<acc.length->L[i]?=acc[i]?)/\∀q o,ops[q]?=some o->L[acc.length+q]?=some (NU (L.take (acc.length+q)) o)
 |[],acc=>by simp
 |o::ops,acc=>by
  have ih:=Un ops (acc++[NU acc o]);simp only[List.foldl_cons]at ih ⊢;obtain⟨h1,h2,h3⟩:=ih;refine⟨by rw[h1];simp;omega,fun i hi=> ?_,fun q o' hq=> ?_⟩
  ·rw[h2 i (by simp;omega),List.getElem?_append_left hi]
  ·cases q with
   |zero=>
    simp at hq;subst hq;rw[Nat.add_zero,h2 acc.length (by simp)]
    rw[List.getElem?_append_right (Nat.le_refl _)];simp only[Nat.sub_self,List.getElem?_cons_zero,Option.some.injEq];congr 1;apply List.ext_getElem?;intro i;rw[List.getElem?_take];split
    ·rename_i hi
     rw[h2 i (by simp;omega),List.getElem?_append_left hi]
    ·rename_i hi
     rw[List.getElem?_eq_none (by omega)]
   |succ q=>
    have:=h3 q o' (by simpa using hq)
    simp only[List.length_append,List.length_cons,List.length_nil,Nat.zero_add]at this;rw[show acc.length+(q+1)=acc.length+1+q by omega]
    exact this
theorem afR(ops:List Oper):oO ops=ops.foldl (fun acc o=>acc++[NU acc o]) []:=rfl
theorem acG{ops:List Oper}{i j:Nat}{o:Oper}(ho:ops[i]?=some o)(h:Nat.testBit ((oO ops).getD i 0) j=true):
  ∃e∈o.after.toList,Region.binds .any e=true/\(j=e.on\/Nat.testBit ((oO ops).getD e.on 0) j=true):=by
 obtain⟨_,_,h3⟩:=Un ops [];have hi:=h3 i o ho;simp only[List.length_nil,Nat.zero_add, <-afR]at hi;rw[List.getD_eq_getElem?_getD,hi,Option.getD_some]at h;rcases IG _ j _ 0 h with h|⟨e,he,hb,h⟩
 ·simp at h
 ·refine⟨e,he,hb,?_⟩
  rcases h with h|h
  ·exact .inl h
  ·right
   rw[List.getD_eq_getElem?_getD,List.getElem?_take]at h;split at h
   ·rw[List.getD_eq_getElem?_getD];exact h
   ·simp at h
theorem Hw{iY kinds:List Nat}:∀(l:List Nat) (m:Nat) (pre:List Nat),(∀j,Nat.testBit m j=true↔j∈pre)->NJ iY kinds l m=true->
  (∀q i,l[q]?=some i->∀j,Nat.testBit (iY.getD i 0) j=true->j∈pre++l.take q)/\
  (∀q i,l[q]?=some i->∀j,j∈pre++l.take q->kinds[j]?=some 2->Nat.testBit (iY.getD i 0) j=true)/\
  (∀q i,l[q]?=some i->i∉pre++l.take q)
 |[],m,pre,_,_=>⟨fun q i h=>by simp at h,fun q i h=>by simp at h,fun q i h=>by simp at h⟩
 |x::l,m,pre,hm,h=>by
  simp only[NJ,Bool.and_eq_true]at h;obtain⟨⟨hr,hk⟩,ho⟩:=h
  have hm':∀j,Nat.testBit (m|||2^x) j=true↔j∈pre++[x]:=by
   intro j;rw[Nat.testBit_or,Bool.or_eq_true,hm,Nat.testBit_two_pow,List.mem_append,List.mem_singleton];simp[eq_comm]
  obtain⟨i1,i2,i3⟩:=Hw l _ (pre++[x]) hm' ho;simp only[Kq,Bool.and_eq_true,Bool.not_eq_true']at hr;obtain⟨hn,ha⟩:=hr;have ha':iY.getD x 0&&&m=iY.getD x 0:=beq_true ha;have e:∀q,pre++(x::l).take (q+1)=pre++[x]++l.take q:=fun q=>by simp
  refine⟨fun q i hq j hj=> ?_,fun q i hq j hj hkj=> ?_,fun q i hq=> ?_⟩
  ·cases q with
   |zero=>
    simp at hq;subst hq;rw[<-ha',Nat.testBit_and,Bool.and_eq_true]at hj;simpa using (hm j).1 hj.2
   |succ q=>rw[e];exact i1 q i (by simpa using hq) j hj
  ·cases q with
   |zero=>
    simp at hq hj;subst hq;rw[List.all_eq_true]at hk;have:=hk (2,j) (by rw[List.mem_zipIdx_iff_getElem?];exact hkj)
    simp[(hm j).2 hj]at this;exact this
   |succ q=>rw[e]at hj;exact i2 q i (by simpa using hq) j hj hkj
  ·cases q with
   |zero=>
    simp at hq;subst hq;simp only[List.take_zero,List.append_nil];intro hx;rw[(hm x).2 hx]at hn;cases hn
   |succ q=>rw[e];exact i3 q i (by simpa using hq)
theorem nM(U:List Nat)(lh:List ag):(tC U lh).length=lh.length:=by
 induction U generalizing lh with
 |nil=>rfl
 |cons k U ih=>rw[tC,List.foldl_cons];exact(ih _).trans (by simp)
theorem Yg(b:ag):b.uW.uW=b.uW:=by cases b<;>rfl
theorem aa1(b:ag):b.uW.vo=false:=by cases b<;>rfl
theorem Hg(b:ag):b.uW.owned=b.owned:=by cases b<;>rfl
theorem Hl(b:ag):b.uW.aM=b.aM:=by cases b<;>rfl
theorem Us{n:Nat->Prop}{σ:Nat->Option Pl}{b:ag}{p:Pl}{w:World}:BR n σ b.uW p w↔BR n σ b p w:=by
 cases b<;>exact Iff.rfl
theorem qM(U:List Nat)(lh:List ag)(k:Nat):(tC U lh).getD k .dead=if k∈U then(lh.getD k .dead).uW else lh.getD k .dead:=by
 induction U generalizing lh with
 |nil=>rfl
 |cons x U ih=>
  rw[tC,List.foldl_cons];show(tC U _).getD k .dead=_;rw[ih];by_cases e:k=x
  ·subst e
   rw[if_pos (show k∈k::U from List.mem_cons_self)]
   by_cases hk:k<lh.length
   ·rw[dA _ _ _ hk,Yg];split<;>rfl
   ·have:lh.getD k .dead=.dead:=by simp[List.getElem?_eq_none (Nat.le_of_not_lt hk)]
    have h2:lh.set k (lh.getD k .dead).uW=lh:=List.set_eq_of_length_le (by omega)
    rw[h2,this];split<;>rfl
  ·rw[aX _ _ e]
   by_cases hu:k∈U
   ·rw[if_pos hu,if_pos (List.mem_cons_of_mem _ hu)]
   ·rw[if_neg hu,if_neg (by simp[e,hu])]
theorem rW(U:List Nat)(orig lh:List ag):(kZ U orig lh).length=lh.length:=by
 induction U generalizing lh with
 |nil=>rfl
 |cons k U ih=>rw[kZ,List.foldl_cons];exact(ih _).trans (by simp)
theorem vV(U:List Nat)(orig lh:List ag)(k:Nat)(hk:k<lh.length):(kZ U orig lh).getD k .dead=if k∈U then orig.getD k .dead else lh.getD k .dead:=by
 induction U generalizing lh with
 |nil=>rfl
 |cons x U ih=>
  rw[kZ,List.foldl_cons];show(kZ U orig _).getD k .dead=_;rw[ih _ (by simpa using hk)]
  by_cases e:k=x
  ·subst e
   rw[if_pos (show k∈k::U from List.mem_cons_self),dA _ _ _ hk];split<;>rfl
  ·rw[aX _ _ e]
   by_cases hu:k∈U
   ·rw[if_pos hu,if_pos (List.mem_cons_of_mem _ hu)]
   ·rw[if_neg hu,if_neg (by simp[e,hu])]
theorem acH{b b':ag}(h:b.aM=b'.aM):b.alive=b'.alive:=by
 cases b<;>cases b'<;>first|rfl|cases h
theorem HR.swap{n:Nat->Prop}{w0:World}{G:Kj}{σ:Nat->Option Pl}{lh rO:List ag}{w:World}(h:HR n w0 G σ lh w)(hl:rO.length=lh.length)
  (he:∀k,k<lh.length->(rO.getD k .dead).owned=(lh.getD k .dead).owned/\(rO.getD k .dead).aM=(lh.getD k .dead).aM/\∀p,BR n σ (lh.getD k .dead) p w->BR n σ (rO.getD k .dead) p w):HR n w0 G σ rO w:=by
 have al:∀k,k<lh.length->(rO.getD k .dead).alive=(lh.getD k .dead).alive:=fun k hk=>by
  exact acH (he k hk).2.1
 refine⟨h.hn,h.below,h.ab.id h.lt (Nat.le_refl _) (fun _ _=>.inl rfl) (fun k p hk=>.inr (.inl ⟨hk,(he k (h.dom k p hk)).2.1.symm⟩)),fun k p hk=>by rw[hl];exact h.dom k p hk,h.lt,fun k k' p p' hk hk' ho ha hb=> ?_,fun k p hk=> ?_⟩
 ·rw[(he k (h.dom k p hk)).1]at ho
  rw[al k' (h.dom k' p' hk')]at ha;exact h.inj k k' p p' hk hk' ho ha hb
 ·exact(he k (h.dom k p hk)).2.2 p (h.blk k p hk)
theorem HR.uW{n:Nat->Prop}{w0:World}{G:Kj}{σ:Nat->Option Pl}{lh:List ag}{w:World}(h:HR n w0 G σ lh w)(U:List Nat):HR n w0 G σ (tC U lh) w:=
 h.swap (nM U lh) fun k hk=>by
  rw[qM];split
  ·exact⟨Hg _,Hl _,fun p hp=>Us.2 hp⟩
  ·exact⟨rfl,rfl,fun p hp=>hp⟩
theorem PT{U:List Nat}{lh bV:List ag}(h:bu (tC U lh) bV):bu lh (kZ U lh bV):=by
 have hl:=h.1;rw[nM]at hl;refine⟨by rw[rW];exact hl,fun k hk hw=> ?_⟩
 rw[vV _ _ _ _ (by omega)]
 split
 ·rfl
 ·rename_i hu
  have:=h.2 k (by rw[nM];exact hk) (by rw[qM,if_neg hu];exact hw)
  rw[this,qM,if_neg hu]
theorem HR.af1{n:Nat->Prop}{w0:World}{G:Kj}{σ:Nat->Option Pl}{U:List Nat}{lh bV:List ag}{w:World}(h:HR n w0 G σ bV w)(hk:bu (tC U lh) bV)(hU:∀k∈U,k<lh.length):HR n w0 G σ (kZ U lh bV) w:=
 h.swap (rW _ _ _) fun k hkl=>by
  rw[vV _ _ _ _ hkl];split
  ·rename_i hu
   have:=hk.2 k (by rw[nM];exact hU k hu) (by rw[qM,if_pos hu];exact aa1 _)
   rw[this,qM,if_pos hu];exact⟨(Hg _).symm,(Hl _).symm,fun p hp=>Us.1 hp⟩
  ·exact⟨rfl,rfl,fun p hp=>hp⟩
theorem RU{P:Program}{t:TypeId}{a:Value}{lh rO:List ag}(h:∀k∈oN a,lh.getD k .dead=rO.getD k .dead):vK P t a lh=vK P t a rO:=by
 unfold vK;split
 ·rename_i k off hag
  rw[h k (by simp[oN])]
 ·rename_i k i j hag
  rw[h k (by simp[oN])]
 ·rename_i m k off hag
  rw[h k (by simp[oN])]
 ·rename_i m k i j hag
  rw[h k (by simp[oN])]
 ·rfl
theorem FW{P:Program}{t:TypeId}{x ix:Value}{lh rO:List ag}(h:∀k∈oN x,lh.getD k .dead=rO.getD k .dead):oh P t x ix lh=oh P t x ix rO:=by
 unfold oh;split
 ·split
  ·rfl
  ·rename_i e k off len cap hu
   rw[h k (by simp[oN])]
  ·rename_i e k r len cap hu
   rw[h k (by simp[oN])]
  ·rename_i e k who len cap hu
   rw[h k (by simp[oN])]
  ·rename_i e k len cap hu
   rw[h k (by simp[oN])]
  ·rename_i e k len cap hu
   rw[h k (by simp[oN])]
  ·rfl
 ·rfl
theorem Nn{P:Program}{t:TypeId}{m ix:Value}{ok:Bool}{lh rO:List ag}(h:∀k∈oN m,lh.getD k .dead=rO.getD k .dead):vP P t m ix ok lh=vP P t m ix ok rO:=by
 unfold vP;split
 ·split
  ·rename_i z b x hk hz
   rw[h b (by simp[oN])]
  ·rfl
 ·rfl
theorem UB{E:Env}{ev:Operand->Value}{lh rO:List ag}{op:Op}(h:∀k∈readsOf ev op,lh.getD k .dead=rO.getD k .dead):E8 E ev lh op=E8 E ev rO op:=by
 cases op<;>try rfl
 case load t a=>exact RU h
 case indexAddr t x ix=>exact FW h
 case lookup t m ix ok=>exact Nn h
 case makeFunc fn a c=>cases fn<;>rfl
end Go.Sx
namespace Go.Sx
open Go Go.RowKit
structure Step where
 i:Nat
 k:Nat
 s:St
 v:Value
 bV:List ag
 U:List Nat
 ids:List Nat
abbrev Er:=FuncId->List Value->List ag->M (Value×List ag)
def Li(ops:Array Oper)(o:Oper)(s:St)(g:Bool):Prop:=
 o.guard=none/\g=true\/(∃j want t b,o.guard=some (j,want)/\(ops[j]?).bind (·.dst)=some t/\s.tmps.getD t undef=.bool b/\g=(b==want))\/∃j want t x,o.guard=some (j,want)/\(ops[j]?).bind (·.dst)=some t/\s.tmps.getD t undef=.chan x/\g=false
def ZT(E:Env)(bB:Er)(ops:Array Oper)(t:Step):Prop:=
 ∃o,ops[t.i]?=some o/\∃g,Li ops o t.s g/\
  ((g=false/\t.k=3/\t.v=.chan (some 0)/\t.bV=t.s.lh)\/
   (g=true/\t.k=0/\t.ids=readsOf (qx E.G t.s.tmps) o.op/\(∀k∈t.ids,k<t.s.lh.length)/\(E8 E (qx E.G t.s.tmps) t.s.lh o.op).get=some t.v/\t.bV=t.s.lh)\/
   (g=true/\t.k=1/\t.ids=[t.s.lh.length]/\∃q,(Pm E (qx E.G t.s.tmps) o.op).get=some q/\t.v=q.1 t.s.lh.length/\t.bV=t.s.lh++[q.2])\/
   (g=true/\t.k=2/\kindOf o.op=2/\∃q,(Ar E bB (qx E.G t.s.tmps) (tC t.U t.s.lh) o.op).get=some q/\t.v=q.1/\t.bV=kZ t.U t.s.lh q.2))
def oo(ops:Array Oper)(t:Step):Option Tmp:=(ops[t.i]?).bind (·.dst)
def nxt(ops:Array Oper)(t:Step):St:=⟨lY t.s.tmps (oo ops t) t.v,t.bV⟩
def chain(ops:Array Oper):St->List Step->St->Prop
 |s,[],sf=>s=sf
 |s,t::T,sf=>t.s=s/\chain ops (nxt ops t) T sf
def Cov(iY:List Nat)(p r:Step):Prop:=p.k<2->r.k=2->Nat.testBit (iY.getD r.i 0) p.i=false->∀k∈p.ids,k∈r.U
theorem abF{op:Op}(h0:kindOf op≠0)(h1:kindOf op≠1):kindOf op=2:=by
 unfold kindOf at*;split at h0<;>first|rfl|exact absurd rfl h1|exact absurd rfl h0|(split at h0<;>first|rfl|exact absurd rfl h0)
theorem Y4{α:Type}{ops:Array Oper}{o:Oper}{s:St}{yes no:St->M α}{x:α}(h:(C8 ops o s yes no).get=some x):
  ∃g:Bool,(g=true->(yes s).get=some x)/\(g=false->(no s).get=some x)/\Li ops o s g:=by
 obtain⟨g,h1,h2,_,h4⟩:=EO (n:=fun _=>False) (w0:=default) (G:=0) h
 exact⟨g,h1,h2,h4⟩
def ah9(t:Step):Prop:=bu t.s.lh t.bV/\(t.k=2->∀k∈t.U,k<t.s.lh.length)
theorem vX{n:Nat->Prop}{w0:World}{G:Kj}{E:Env}{bB:Er}(hc:kF E.P n w0 G bB){ops:Array Oper}{iY:List Nat}:∀(l:List Nat) (pr:List (Nat×List Nat)) (s sf:St),(∀e∈pr,∀k∈e.2,k<s.lh.length)->(qV E bB ops iY l pr s).get=some sf->
  ∃T:List Step,T.map (·.i)=l/\chain ops s T sf/\(∀t∈T,ZT E bB ops t)/\T.Pairwise (Cov iY)/\
   (∀e∈pr,∀t∈T,t.k=2->Nat.testBit (iY.getD t.i 0) e.1=false->∀k∈e.2,k∈t.U)/\∀t∈T,ah9 t
 |[],pr,s,sf,hpr,h=>by
  simp only[qV,M.ah,Option.some.injEq]at h;exact⟨[],rfl,h,by simp,List.Pairwise.nil,by simp,by simp⟩
 |i::l,pr,s,sf,hpr,h=>by
  simp only[qV]at h;split at h
  ·cases h
  ·rename_i o ho
   obtain⟨g,hy,hn,hg⟩:=Y4 h
   have hd:∀(k:Nat) (v:Value) (bV:List ag) (U ids:List Nat),nxt ops ⟨i,k,s,v,bV,U,ids⟩=⟨lY s.tmps o.dst v,bV⟩:=fun k v bV U ids=>by
    simp only[nxt,oo,ho,Option.bind_some]
   cases g with
   |false=>
    obtain⟨T,h1,h2,h3,h4,h5,h6⟩:=vX hc l pr ⟨lY s.tmps o.dst (.chan (some 0)),s.lh⟩ sf hpr (hn rfl);refine⟨⟨i,3,s,.chan (some 0),s.lh,[],[]⟩::T,by simp[h1],⟨rfl,by rw[hd];exact h2⟩,?_,List.Pairwise.cons (fun r _ hk=>absurd hk (by show¬3<2;omega)) h4,?_,List.forall_mem_cons.2 ⟨⟨bu.refl _,fun hk=>by cases hk⟩,h6⟩⟩
    ·intro t ht
     rcases List.mem_cons.1 ht with rfl|ht
     ·exact⟨o,ho,false,hg,.inl ⟨rfl,rfl,rfl,rfl⟩⟩
     ·exact h3 t ht
    ·intro e he t ht
     rcases List.mem_cons.1 ht with rfl|ht
     ·intro hk;cases hk
     ·exact h5 e he t ht
   |true=>
    have hb:=hy rfl;split at hb
    ·rename_i hk
     rcases M.af hb with⟨hr,hb⟩|⟨_,hb⟩
     ·obtain⟨v,hv,hb⟩:=M.ay hb
      have hrr:∀k∈readsOf (qx E.G s.tmps) o.op,k<s.lh.length:=fun k hk=>by
       rw[List.all_eq_true]at hr;exact kg (hr k hk)
      obtain⟨T,h1,h2,h3,h4,h5,h6⟩:=vX hc l ((i,readsOf (qx E.G s.tmps) o.op)::pr) ⟨lY s.tmps o.dst v,s.lh⟩ sf (List.forall_mem_cons.2 ⟨hrr,hpr⟩) hb;refine⟨⟨i,0,s,v,s.lh,[],readsOf (qx E.G s.tmps) o.op⟩::T,by simp[h1],⟨rfl,by rw[hd];exact h2⟩,?_,List.Pairwise.cons (fun r hr _ hk ha=>h5 _ List.mem_cons_self r hr hk ha) h4,?_,List.forall_mem_cons.2 ⟨⟨bu.refl _,fun hk=>by cases hk⟩,h6⟩⟩
      ·intro t ht
       rcases List.mem_cons.1 ht with rfl|ht
       ·refine⟨o,ho,true,hg,.inr (.inl ⟨rfl,rfl,rfl,hrr,hv,rfl⟩)⟩
       ·exact h3 t ht
      ·intro e he t ht
       rcases List.mem_cons.1 ht with rfl|ht
       ·intro hk;cases hk
       ·exact h5 e (List.mem_cons_of_mem _ he) t ht
     ·cases hb
    ·rename_i hk
     obtain⟨q,hq,hb⟩:=M.ay hb;obtain⟨T,h1,h2,h3,h4,h5,h6⟩:=vX hc l _ _ sf (List.forall_mem_cons.2 ⟨fun k hk=>by simp at hk;simp;omega,fun e he k hk=>by have:=hpr e he k hk;simp;omega⟩) hb
     refine⟨⟨i,1,s,q.1 s.lh.length,s.lh++[q.2],[],[s.lh.length]⟩::T,by simp[h1],⟨rfl,by rw[hd];exact h2⟩,?_,List.Pairwise.cons (fun r hr _ hk ha=>h5 _ List.mem_cons_self r hr hk ha) h4,?_,List.forall_mem_cons.2 ⟨⟨bu.append _ _,fun hk=>by cases hk⟩,h6⟩⟩
     ·intro t ht
      rcases List.mem_cons.1 ht with rfl|ht
      ·exact⟨o,ho,true,hg,.inr (.inr (.inl ⟨rfl,rfl,rfl,q,hq,rfl,rfl⟩))⟩
      ·exact h3 t ht
     ·intro e he t ht
      rcases List.mem_cons.1 ht with rfl|ht
      ·intro hk;cases hk
      ·exact h5 e (List.mem_cons_of_mem _ he) t ht
    ·rename_i hk0 hk1
     obtain⟨q,hq,hb⟩:=M.ay hb;have hkp:=PT (yD hc hq);obtain⟨T,h1,h2,h3,h4,h5,h6⟩:=vX hc l _ _ sf (fun e he k hk=>Nat.lt_of_lt_of_le (hpr e he k hk) hkp.1) hb
     refine⟨⟨i,2,s,q.1,kZ (pr.flatMap fun e=>cond (Nat.testBit (iY.getD i 0) e.1) [] e.2) s.lh q.2,pr.flatMap fun e=>cond (Nat.testBit (iY.getD i 0) e.1) [] e.2,[]⟩::T,by simp[h1],⟨rfl,by rw[hd];exact h2⟩,?_,List.Pairwise.cons (fun r hr hk=>absurd hk (by show¬2<2;omega)) h4,?_,List.forall_mem_cons.2 ⟨⟨hkp,fun _ k hk=> ?_⟩,h6⟩⟩
     ·intro t ht
      rcases List.mem_cons.1 ht with rfl|ht
      ·exact⟨o,ho,true,hg,.inr (.inr (.inr ⟨rfl,rfl,abF hk0 hk1,q,hq,rfl,rfl⟩))⟩
      ·exact h3 t ht
     ·intro e he t ht
      rcases List.mem_cons.1 ht with rfl|ht
      ·intro _ ha k hk
       refine List.mem_flatMap.2 ⟨e,he,?_⟩;simp only at ha;rw[ha];exact hk
      ·exact h5 e he t ht
     ·obtain⟨e,he,hke⟩:=List.mem_flatMap.1 hk
      refine hpr e he k ?_;cases hx:Nat.testBit (iY.getD i 0) e.1<;>rw[hx]at hke
      ·exact hke
      ·cases hke
def bW(T:List Step)(sf:St)(q:Nat):St:=match T[q]? with|some t=>t.s|none=>sf
theorem dS{T:List Step}{sf:St}{q:Nat}{t:Step}(h:T[q]?=some t):bW T sf q=t.s:=by simp[bW,h]
theorem gJ{ops:Array Oper}:∀{T:List Step} {s sf:St},chain ops s T sf->bW T sf 0=s/\∀q t,T[q]?=some t->bW T sf (q+1)=nxt ops t
 |[],s,sf,h=>⟨h.symm,fun q t hq=>by simp at hq⟩
 |u::T,s,sf,h=>by
  obtain⟨h1,h2⟩:=gJ h.2;refine⟨h.1,fun q t hq=> ?_⟩
  cases q with
  |zero=>
   simp at hq;subst hq;rw[<-h1];simp[bW]
  |succ q=>
   have:=h2 q t (by simpa using hq)
   rw[<-this];simp[bW]
theorem sV{T:List Step}{sf:St}:bW T sf T.length=sf:=by simp[bW]
section
variable{E:Env} {bB:Er} {ops:Array Oper} {T:List Step} {s0 sf:St}
structure Tr(E:Env)(bB:Er)(ops:Array Oper)(T:List Step)(s0 sf:St):Prop where
 ch:chain ops s0 T sf
 ok:∀t∈T,ZT E bB ops t
 cov:T.Pairwise (Cov (oO ops.toList))
 kk:∀t∈T,bu t.s.lh t.bV
 ub:∀t∈T,t.k=2->∀k∈t.U,k<t.s.lh.length
 lt:∀t∈T,t.i<ops.size
 mem:∀i,i<ops.size->∃(q:Nat) (t:Step),T[q]?=some t/\t.i=i
 inj:∀(p q:Nat) (t u:Step),T[p]?=some t->T[q]?=some u->t.i=u.i->p=q
 before:∀(q:Nat) (t:Step) (j:Nat),T[q]?=some t->Nat.testBit ((oO ops.toList).getD t.i 0) j=true->∃(p:Nat) (u:Step),p<q/\T[p]?=some u/\u.i=j
 loud:∀(p q:Nat) (t u:Step),p<q->T[p]?=some t->T[q]?=some u->t.k=2->Nat.testBit ((oO ops.toList).getD u.i 0) t.i=true
 tmps:∀(p q:Nat) (t u:Step) (o:Oper) (tt:Nat),T[p]?=some t->T[q]?=some u->ops[u.i]?=some o->tt∈named ops o->oo ops t=some tt->p≠q->ordered (oO ops.toList) u.i t.i=true
theorem gF{q:Nat}{t:Step}(h:T[q]?=some t):t∈T:=List.mem_of_getElem? h
theorem Tr.l9(h:Tr E bB ops T s0 sf):∀{p q:Nat},p<=q->q<=T.length->(bW T sf p).lh.length<=(bW T sf q).lh.length:=by
 intro p q hpq;induction q with
 |zero=>intro _;obtain rfl:p=0:=by omega
        exact Nat.le_refl _
 |succ q ih=>
  intro hq;rcases Nat.lt_or_ge p (q+1)with hlt|hge
  ·have hT:T[q]?=some T[q]:=List.getElem?_eq_getElem (by omega)
   have h1:=ih (by omega) (by omega)
   rw[(gJ h.ch).2 q _ hT];rw[dS hT]at h1;have:=(h.kk _ (gF hT)).1;exact Nat.le_trans h1 this
  ·obtain rfl:p=q+1:=by omega
   exact Nat.le_refl _
theorem Tr.stays(h:Tr E bB ops T s0 sf){p:Nat}{k:Nat}(hk:k<(bW T sf p).lh.length):∀{c:Nat},p<=c->c<=T.length->
  (∀r t,p<=r->r<c->T[r]?=some t->t.k=2->k∈t.U)->(bW T sf c).lh.getD k .dead=(bW T sf p).lh.getD k .dead:=by
 intro c;induction c with
 |zero=>intro hpc _ _;obtain rfl:p=0:=by omega
        rfl
 |succ c ih=>
  intro hpc hc hU;rcases Nat.lt_or_ge p (c+1)with hlt|hge
  ·have hT:T[c]?=some T[c]:=List.getElem?_eq_getElem (by omega)
   have h1:=ih (by omega) (by omega) fun r t hr hrc ht hk2=>hU r t hr (by omega) ht hk2
   rw[(gJ h.ch).2 c _ hT]
   have hlen:k<T[c].s.lh.length:=by
    have:=h.l9 (show p<=c by omega) (show c<=T.length by omega)
    rw[dS hT]at this;omega
   rw[<-h1,dS hT];obtain⟨o,ho,g,hg,hcase⟩:=h.ok _ (gF hT);rcases hcase with⟨_,_,_,e⟩|⟨_,_,_,_,_,e⟩|⟨_,_,_,q,_,_,e⟩|⟨_,h2,_,q,hq,_,e⟩
   ·show T[c].bV.getD k .dead=_;rw[e]
   ·show T[c].bV.getD k .dead=_;rw[e]
   ·show T[c].bV.getD k .dead=_
    rw[e,bY _ _ _ hlen]
   ·show T[c].bV.getD k .dead=_
    have ajv:k<q.2.length:=by
     have:=(h.kk _ (gF hT)).1;rw[e,rW]at this;omega
    rw[e,vV _ _ _ _ ajv,if_pos (hU c _ (by omega) (by omega) hT h2)]
  ·obtain rfl:p=c+1:=by omega
   rfl
theorem Tr.Ls(h:Tr E bB ops T s0 sf){p tt:Nat}:∀{c:Nat},p<=c->c<=T.length->(∀r t,p<=r->r<c->T[r]?=some t->oo ops t≠some tt)->
  (bW T sf c).tmps.getD tt undef=(bW T sf p).tmps.getD tt undef:=by
 intro c;induction c with
 |zero=>intro hpc _ _;obtain rfl:p=0:=by omega
        rfl
 |succ c ih=>
  intro hpc hc hU;rcases Nat.lt_or_ge p (c+1)with hlt|hge
  ·have hT:T[c]?=some T[c]:=List.getElem?_eq_getElem (by omega)
   have h1:=ih (by omega) (by omega) fun r t hr hrc ht=>hU r t hr (by omega) ht
   rw[(gJ h.ch).2 c _ hT, <-h1,dS hT];show(lY _ _ _).getD tt undef=_;rw[C9,if_neg];rintro⟨e,_⟩;exact hU c _ (by omega) (by omega) hT e
  ·obtain rfl:p=c+1:=by omega
   rfl
theorem Tr.Ob(h:Tr E bB ops T s0 sf):∀{q:Nat},q<=T.length->(bW T sf q).tmps.length=s0.tmps.length:=by
 intro q;induction q with
 |zero=>intro _;rw[(gJ h.ch).1]
 |succ q ih=>
  intro hq;have hT:T[q]?=some T[q]:=List.getElem?_eq_getElem (by omega)
  rw[(gJ h.ch).2 q _ hT];show(lY _ _ _).length=_;rw[EE, <-dS (sf:=sf) hT];exact ih (by omega)
end
end Go.Sx
namespace Go.Sx
open Go Go.RowKit
section
variable{n:Nat->Prop} {w0:World} {G:Kj} {E:Env} {bB:Er} {ops:Array Oper} {T:List Step} {s0 sf:St}
theorem Tr.ai7(hc:kF E.P n w0 G bB)(hd:IW ops=true)(h:(qV E bB ops (oO ops.toList) (Ae ops.toList) [] s0).get=some sf):∃T,Tr E bB ops T s0 sf:=by
 obtain⟨T,hT,hch,hok,FX,_,hin⟩:=vX hc _ _ _ _ (by simp) h
 simp only[IW,Bool.and_eq_true]at hd;obtain⟨⟨⟨⟨_,htm⟩,abL⟩,hmem⟩,hlt⟩:=hd;obtain⟨o1,o2,o3⟩:=Hw _ 0 [] (fun j=>by simp) abL
 have hat:∀(q:Nat) (t:Step),T[q]?=some t->(Ae ops.toList)[q]?=some t.i:=fun q t hq=>by rw[<-hT,List.getElem?_map,hq];rfl
 have hta:∀(q i:Nat),(Ae ops.toList)[q]?=some i->∃t,T[q]?=some t/\t.i=i:=fun q i hq=>by
  rw[<-hT,List.getElem?_map]at hq;cases ht:T[q]? with
  |none=>rw[ht]at hq;cases hq
  |some t=>rw[ht]at hq;cases hq;exact⟨t,rfl,rfl⟩
 have hinj:∀(p q:Nat) (t u:Step),T[p]?=some t->T[q]?=some u->t.i=u.i->p=q:=by
  have key:∀(p q:Nat) (t u:Step),p<q->T[p]?=some t->T[q]?=some u->t.i≠u.i:=fun p q t u hpq ht hu e=>by
   refine o3 q u.i (hat q u hu) ?_;rw[<-e,List.nil_append];refine List.mem_of_getElem? (i:=p) ?_;rw[List.getElem?_take_of_lt hpq];exact hat p t ht
  intro p q t u ht hu e;rcases Nat.lt_trichotomy p q with h|h|h
  ·exact absurd e (key p q t u h ht hu)
  ·exact h
  ·exact absurd e.symm (key q p u t h hu ht)
 refine⟨T,hch,hok,FX,fun t ht=>(hin t ht).1,fun t ht=>(hin t ht).2,fun t ht=> ?_,fun i hi=> ?_,hinj,fun q t j hq hj=> ?_,fun p q t u hpq ht hu hk=> ?_,fun p q t u o tt ht hu ho PY hdst hpq=> ?_⟩
 ·obtain⟨o,ho,_⟩:=hok t ht
  exact(Array.getElem?_eq_some_iff.1 ho).1
 ·rw[List.all_eq_true]at hmem
  have:=hmem i (by simpa using hi)
  rw[List.any_eq_true]at this;obtain⟨j,hj,e⟩:=this;obtain⟨q,hq,hqj⟩:=List.mem_iff_getElem.1 hj;obtain⟨t,h1,h2⟩:=hta q j (by rw[List.getElem?_eq_getElem hq,hqj])
  exact⟨q,t,h1,by rw[h2];exact(beq_true e).symm⟩
 ·have:=o1 q t.i (hat q t hq) j hj
  rw[List.nil_append]at this;obtain⟨p,hp⟩:=List.mem_iff_getElem?.1 this;rw[List.getElem?_take]at hp;split at hp
  ·rename_i hpq
   obtain⟨u,h1,h2⟩:=hta p j hp;exact⟨p,u,hpq,h1,h2⟩
  ·cases hp
 ·refine o2 q u.i (hat q u hu) t.i ?_ ?_
  ·rw[List.nil_append]
   refine List.mem_of_getElem? (i:=p) ?_;rw[List.getElem?_take_of_lt hpq];exact hat p t ht
  ·obtain⟨o,ho,g,_,hcase⟩:=hok t (gF ht)
   have hk2:kindOf o.op=2:=by
    rcases hcase with⟨_,e,_⟩|⟨_,e,_⟩|⟨_,e,_⟩|⟨_,_,e,_⟩
    ·rw[hk]at e;cases e
    ·rw[hk]at e;cases e
    ·rw[hk]at e;cases e
    ·exact e
   rw[List.getElem?_map,Array.getElem?_toList,ho];simp[hk2]
 ·unfold Xb at htm
  rw[List.all_eq_true]at htm;have h1:=htm (o,u.i) (by rw[List.mem_zipIdx_iff_getElem?];simpa using ho)
  simp only at h1;rw[List.all_eq_true]at h1;have h2:=h1 tt PY;rw[List.all_eq_true]at h2;unfold oo at hdst;cases hot:ops[t.i]? with
  |none=>rw[hot]at hdst;cases hdst
  |some q'=>
   rw[hot,Option.bind_some]at hdst;have h3:=h2 (q',t.i) (by rw[List.mem_zipIdx_iff_getElem?];simpa using hot)
   simp only[hdst,Nat.beq_refl,Bool.not_true,Bool.false_or,Bool.or_eq_true]at h3;rcases h3 with h3|h3
   ·exact absurd (hinj p q t u ht hu (beq_true h3).symm) hpq
   ·exact h3
structure rD(n:Nat->Prop)(w0:World)(G:Kj)(ops:Array Oper)(T:List Step)(s0 sf:St)(σ0 σ:Nat->Option Pl)(c:Nat)(listed:Array Bool)(a:Act)(w:World):Prop where
 cle:c<=T.length
 size:listed.size=ops.size
 ext:Ext s0.lh.length σ0 σ
 closed:∀i j,listed.getD i false=true->Nat.testBit ((oO ops.toList).getD i 0) j=true->listed.getD j false=true
 below:∀(q:Nat) (t:Step),T[q]?=some t->listed.getD t.i false=true->q<c
 Ij:∀(q:Nat) (t:Step),T[q]?=some t->q<c->t.k=2->listed.getD t.i false=true
 at_:c=T.length\/∃t,T[c]?=some t/\t.k=2
 hr:HR n w0 G σ (bW T sf c).lh w
 free:∀(q:Nat) (t:Step),T[q]?=some t->q<c->t.k=1->listed.getD t.i false=false->σ t.s.lh.length=none
 sz:a.tmps.size=s0.tmps.length
 df:a.defers=[]
 tm:∀(tt q:Nat),q<=T.length->(∀(r:Nat) (t:Step),T[r]?=some t->oo ops t=some tt->(r<q↔listed.getD t.i false=true))->VR σ ((bW T sf q).tmps.getD tt undef) (a.tmps.getD tt undef)
theorem IJ(T:List Step)(m:Nat)(hm:m<=T.length):∃c,m<=c/\c<=T.length/\(∀(q:Nat) (t:Step),m<=q->q<c->T[q]?=some t->t.k≠2)/\(c=T.length\/∃t,T[c]?=some t/\t.k=2):=by
 obtain⟨d,hd⟩:∃d,T.length-m=d:=⟨_,rfl⟩;induction d generalizing m with
 |zero=>exact⟨m,Nat.le_refl _,hm,fun q t h1 h2=>by omega,.inl (by omega)⟩
 |succ d ih=>
  have hT:T[m]?=some T[m]:=List.getElem?_eq_getElem (by omega)
  by_cases hk:T[m].k=2
  ·exact⟨m,Nat.le_refl _,hm,fun q t h1 h2=>by omega,.inr ⟨_,hT,hk⟩⟩
  ·obtain⟨c,h1,h2,h3,h4⟩:=ih (m+1) (by omega) (by omega)
   refine⟨c,by omega,h2,fun q t hq hqc ht=> ?_,h4⟩
   rcases Nat.lt_or_ge m q with h|h
   ·exact h3 q t h hqc ht
   ·obtain rfl:q=m:=by omega
    rw[hT]at ht;cases ht;exact hk
theorem Tr.quiet(h:Tr E bB ops T s0 sf){p c:Nat}(hpc:p<=c)(hc:c<=T.length)(hq:∀(q:Nat) (t:Step),p<=q->q<c->T[q]?=some t->t.k≠2):∃N,(bW T sf c).lh=(bW T sf p).lh++N:=by
 obtain⟨d,rfl⟩:=Nat.exists_eq_add_of_le hpc;induction d with
 |zero=>exact⟨[],by simp⟩
 |succ d ih=>
  obtain⟨N,hN⟩:=ih (by omega) (by omega) fun q t h1 h2=>hq q t h1 (by omega)
  have hT:T[p+d]?=some T[p+d]:=List.getElem?_eq_getElem (by omega)
  rw[show p+(d+1)=p+d+1 by omega,(gJ h.ch).2 _ _ hT]
  rw[dS hT]at hN;have hk:=hq _ _ (by omega) (by omega) hT
  obtain⟨o,ho,g,hg,hcase⟩:=h.ok _ (gF hT);show∃N,T[p+d].bV=_;rcases hcase with⟨_,_,_,e⟩|⟨_,_,_,_,_,e⟩|⟨_,_,_,q,_,_,e⟩|⟨_,h2,_⟩
  ·exact⟨N,by rw[e,hN]⟩
  ·exact⟨N,by rw[e,hN]⟩
  ·exact⟨N++[q.2],by rw[e,hN,List.append_assoc]⟩
  ·exact absurd h2 hk
theorem rD.start(h:Tr E bB ops T s0 sf){σ:Nat->Option Pl}{a:Act}{w:World}(hrel:Rel n w0 G σ s0 a w):∃c,rD n w0 G ops T s0 sf σ σ c (Array.replicate ops.size false) a w:=by
 obtain⟨c,h1,h2,h3,h4⟩:=IJ T 0 (by omega)
 have hf:∀i,(Array.replicate ops.size false).getD i false=false:=fun i=>by
  rw[Array.getD_eq_getD_getElem?,Array.getElem?_replicate];split<;>rfl
 have h0:=(gJ h.ch).1;refine⟨c,h2,by simp,Ext.refl _ _,fun i j hi=>(by rw[hf]at hi;cases hi),fun q t _ hl=>(by rw[hf]at hl;cases hl),fun q t ht hq hk=>absurd hk (h3 q t (by omega) hq ht),h4,?_,fun q t ht hq hk _=> ?_,hrel.sz,hrel.df,fun tt q hq hw=> ?_⟩
 ·obtain⟨N,hN⟩:=h.quiet h1 h2 h3
  rw[hN,h0];exact hrel.hr.extend N
 ·have:=h.l9 (Nat.zero_le q) (by omega)
  rw[h0,dS ht]at this;cases e:σ t.s.lh.length with
  |none=>rfl
  |some p=>have:=hrel.hr.dom _ _ e;omega
 ·rw[h.Ls (p:=0) (tt:=tt) (Nat.zero_le q) hq fun r t _ hr ht hd=> ?_,h0]
  ·exact hrel.tm tt
  ·have:=(hw r t ht hd).1 hr
   rw[hf]at this;cases this
theorem yF{listed:Array Bool}{i:Nat}(hi:i<listed.size)(j:Nat):(listed.setIfInBounds i true).getD j false=if j=i then true else listed.getD j false:=by
 rw[Array.getD_eq_getD_getElem?,Array.getElem?_setIfInBounds];by_cases e:i=j
 ·subst e;simp[hi]
 ·rw[if_neg e,if_neg (Ne.symm e),Array.getD_eq_getD_getElem?]
theorem rD.next(h:Tr E bB ops T s0 sf){σ0 σ σ':Nat->Option Pl}{c c':Nat}{listed:Array Bool}{a:Act}{w w':World}(hi:rD n w0 G ops T s0 sf σ0 σ c listed a w){q:Nat}{t:Step}(ht:T[q]?=some t)
  (hn:listed.getD t.i false=false) (Eb:∀j,Nat.testBit ((oO ops.toList).getD t.i 0) j=true->listed.getD j false=true) {v':Value} (fQ:Ext s0.lh.length σ0 σ') (hle:Le σ σ') (hv:VR σ' t.v v')
  (alr:c'<=T.length) (hbelow:∀(p:Nat) (u:Step),T[p]?=some u->listed.getD u.i false=true\/p=q->p<c')
  (aho:∀(p:Nat) (u:Step),T[p]?=some u->p<c'->u.k=2->listed.getD u.i false=true\/p=q) (hat:c'=T.length\/∃u,T[c']?=some u/\u.k=2) (CW:HR n w0 G σ' (bW T sf c').lh w')
  (hfree:∀(p:Nat) (u:Step),T[p]?=some u->p<c'->u.k=1->listed.getD u.i false=false->p≠q->σ' u.s.lh.length=none):
  rD n w0 G ops T s0 sf σ0 σ' c' (listed.setIfInBounds t.i true) (a.put (oo ops t) v') w':=by
 have hlt:t.i<listed.size:=by rw[hi.size];exact h.lt t (gF ht)
 have hL:=yF hlt;have hpq:∀(p:Nat) (u:Step),T[p]?=some u->(u.i=t.i↔p=q):=fun p u hu=>⟨fun e=>h.inj p q u t hu ht e,fun e=>by subst e;rw[ht]at hu;cases hu;rfl⟩
 have hL2:∀(p:Nat) (u:Step),T[p]?=some u->((listed.setIfInBounds t.i true).getD u.i false=true↔listed.getD u.i false=true\/p=q):=fun p u hu=>by
  rw[hL, <-hpq p u hu];split
  ·rename_i e;simp[e]
  ·rename_i e;simp[e]
 refine⟨alr,by simp[hi.size],fQ,fun i j hij hj=> ?_,fun p u hu hl=>hbelow p u hu ((hL2 p u hu).1 hl),fun p u hu hp hk=>(hL2 p u hu).2 (aho p u hu hp hk),hat,CW,fun p u hu hp hk hl=> ?_,by rw[O0];exact hi.sz,by rw[put_defers];exact hi.df,fun tt p hp hw=> ?_⟩
 ·rw[hL]at hij ⊢
  split
  ·rfl
  ·split at hij
   ·rename_i e;subst e;exact Eb j hj
   ·exact hi.closed i j hij hj
 ·have hnl:¬(listed.getD u.i false=true\/p=q):=fun hh=>by rw[(hL2 p u hu).2 hh]at hl;cases hl
  refine hfree p u hu hp hk ?_ fun e=>hnl (.inr e)
  cases e:listed.getD u.i false with
  |false=>rfl
  |true=>exact absurd (.inl e) hnl
 ·rw[Qi,hi.sz]
  by_cases hd:oo ops t=some tt
  ·
   have hqp:q<p:=(hw q t ht hd).2 ((hL2 q t ht).2 (.inr rfl));obtain⟨o,ho,_⟩:=h.ok t (gF ht)
   have hlast:∀(r:Nat) (u:Step),q+1<=r->r<p->T[r]?=some u->oo ops u≠some tt:=fun r u hr hrp hu Iy=>by
    have h1:=(hL2 r u hu).1 ((hw r u hu Iy).1 hrp);rcases h1 with h1|h1
    ·obtain⟨ou,hou,_⟩:=h.ok u (gF hu)
     have hn2:tt∈named ops ou:=by
      have:ou.dst=some tt:=by rw[oo,hou,Option.bind_some]at Iy;exact Iy
      simp[named,this]
     have hor:=h.tmps q r t u ou tt ht hu hou hn2 hd (by omega)
     simp only[ordered,Bool.or_eq_true]at hor;rcases hor with hor|hor
     ·have:=hi.closed u.i t.i h1 hor
      rw[hn]at this;cases this
     ·obtain⟨p',u',hp',hu',e⟩:=h.before q t u.i ht hor
      have:=h.inj p' r u' u hu' hu e;omega
    ·omega
   have hst:=h.Ls (p:=q+1) (tt:=tt) (c:=p) (by omega) hp hlast
   rw[(gJ h.ch).2 q t ht]at hst;have alh:(bW T sf p).tmps.getD tt undef=(lY t.s.tmps (oo ops t) t.v).getD tt undef:=hst;rw[alh,C9]
   have hlen:t.s.tmps.length=s0.tmps.length:=by
    have:=h.Ob (q:=q) (by have:=(List.getElem?_eq_some_iff.1 ht).1;omega)
    rwa[dS ht]at this
   rw[hlen];by_cases hb:tt<s0.tmps.length
   ·rw[if_pos ⟨hd,hb⟩,if_pos ⟨hd,hb⟩];exact hv
   ·rw[if_neg (fun hh=>hb hh.2),if_neg (fun hh=>hb hh.2)]
    have:t.s.tmps.getD tt undef=undef:=by simp[List.getElem?_eq_none (show t.s.tmps.length<=tt by omega)]
    rw[this];exact VR.any _
  ·rw[if_neg (fun hh=>hd hh.1)]
   refine(hi.tm tt p hp fun r u hu Iy=> ?_).mono hle
   rw[hw r u hu Iy,hL2 r u hu];constructor
   ·rintro(hh|hh)
    ·exact hh
    ·subst hh;rw[ht]at hu;cases hu;exact absurd Iy hd
   ·exact .inl
end
end Go.Sx
namespace Go.Sx
open Go Go.RowKit
section
variable{n:Nat->Prop} {w0:World} {G:Kj} {E:Env} {bB:Er} {ops:Array Oper} {T:List Step} {s0 sf:St}
theorem qE{x:Nat}:∀{l:List Operand},Operand.tmp x∈l->x∈tmpsOf l
 | .tmp t::r,h=>by
  simp only[tmpsOf];rcases List.mem_cons.1 h with h|h
  ·cases h;exact List.mem_cons_self
  ·exact List.mem_cons_of_mem _ (qE h)
 | .const v::r,h=>by
  rcases List.mem_cons.1 h with h|h
  ·cases h
  ·exact(qE (l:=r) h:x∈tmpsOf r)
 | .global v::r,h=>by
  rcases List.mem_cons.1 h with h|h
  ·cases h
  ·exact(qE (l:=r) h:x∈tmpsOf r)
 | .func v::r,h=>by
  rcases List.mem_cons.1 h with h|h
  ·cases h
  ·exact(qE (l:=r) h:x∈tmpsOf r)
theorem ab8{σ:Nat->Option Pl}{lh:List ag}{w:World}(hr:HR n w0 G σ lh w)(a:Act)(tm:List Value)(x:Operand)(hx:∀t,x=.tmp t->VR σ (tm.getD t undef) (a.tmps.getD t undef)):VR σ (qx G tm x) (a.eval x):=by
 cases x with
 |tmp t=>exact hx t rfl
 |const v=>
  simp only[qx,Act.eval];cases hp:plain v with
  |true=>exact VR.plain σ hp
  |false=>exact VR.any _
 |global g=>
  exact VR.any _
 |func f=>exact VR.func f rfl rfl (fun i x y hx=>by simp at hx) fun i x y hx=>by simp at hx
theorem WT{σ:Nat->Option Pl}{o:Oper}{s:St}{a:Act}{g:Bool}(hg:Li ops o s g)(hn:∀tt∈named ops o,VR σ (s.tmps.getD tt undef) (a.tmps.getD tt undef)):Region.wanted o (yielded ops a.tmps)=g:=by
 rcases hg with⟨h1,rfl⟩|⟨j,want,t,b,h1,h2,h3,rfl⟩|⟨j,want,t,x,h1,h2,h3,rfl⟩
 ·simp[Region.wanted,h1]
 ·have hv:=hn t (by simp[named,h1,h2])
  rw[h3]at hv;have e:=hv.aD rfl
  have hb:a.tmps[t]?=some (.bool b):=by
   rw[Array.getD_eq_getD_getElem?]at e;cases hx:a.tmps[t]? with
   |none=>rw[hx]at e;simp[undef]at e
   |some v=>rw[hx]at e;simp at e;rw[e]
  simp only[Region.wanted,h1,yielded,h2,Option.bind_some,hb];cases b<;>cases want<;>rfl
 ·have hv:=hn t (by simp[named,h1,h2])
  rw[h3]at hv;exact Ew h1 h2 hv
theorem rD.step(hE:vN E)(hG:E.G=G)(hc:kF E.P n w0 G bB)(h:Tr E bB ops T s0 sf){σ0 σ:Nat->Option Pl}{c:Nat}{listed:Array Bool}{a:Act}{w:World}(hi:rD n w0 G ops T s0 sf σ0 σ c listed a w){i:Nat}(hlt:i<ops.size)
  (hn:listed.getD i false=false) (Eb:∀j,Nat.testBit ((oO ops.toList).getD i 0) j=true->listed.getD j false=true) (Q:Exit->Act->World->Prop) (K:Act->World->Prop)
  (hK:∀σ' c' a' w',rD n w0 G ops T s0 sf σ0 σ' c' (listed.setIfInBounds i true) a' w'->K a' w'):wpOp E.P ops Q i K a w:=by
 obtain⟨q,t,ht,rfl⟩:=h.mem i hlt;have adh:q<T.length:=(List.getElem?_eq_some_iff.1 ht).1;obtain⟨o,ho,g,hg,hcase⟩:=h.ok t (gF ht)
 have hq:q<c\/(q=c/\t.k=2):=by
  rcases Nat.lt_trichotomy q c with hh|hh|hh
  ·exact .inl hh
  ·right
   refine⟨hh,?_⟩;rcases hi.at_ with e|⟨u,hu,hk⟩
   ·omega
   ·rw[<-hh,ht]at hu;cases hu;exact hk
  ·rcases hi.at_ with e|⟨u,hu,hk⟩
   ·omega
   ·have:=Eb u.i (h.loud c q u t hh hu ht hk)
    have:=hi.below c u hu this;omega
 have hnm:∀tt∈named ops o,VR σ (t.s.tmps.getD tt undef) (a.tmps.getD tt undef):=by
  intro tt PY
  have:=hi.tm tt q (by omega) fun r u hu Iy=>by
   rcases Nat.lt_trichotomy r q with hrq|hrq|hrq
   ·refine⟨fun _=> ?_,fun _=>hrq⟩
    have hor:=h.tmps r q u t o tt hu ht ho PY Iy (by omega)
    simp only[ordered,Bool.or_eq_true]at hor;rcases hor with hor|hor
    ·exact Eb _ hor
    ·obtain⟨p',u',hp',hu',e⟩:=h.before r u t.i hu hor
     have:=h.inj p' q u' t hu' ht e;omega
   ·subst hrq
    rw[ht]at hu;cases hu;exact⟨fun hh=>by omega,fun hh=>by rw[hn]at hh;cases hh⟩
   ·refine⟨fun hh=>by omega,fun hl=> ?_⟩
    have hor:=h.tmps r q u t o tt hu ht ho PY Iy (by omega)
    simp only[ordered,Bool.or_eq_true]at hor;rcases hor with hor|hor
    ·obtain⟨p',u',hp',hu',e⟩:=h.before q t u.i ht hor
     have:=h.inj p' r u' u hu' hu e;omega
    ·have:=hi.closed u.i t.i hl hor
     rw[hn]at this;cases this
  rwa[dS ht]at this
 have hop:∀x∈o.op.operands,VR σ (qx E.G t.s.tmps x) (a.eval x):=fun x hx=>by
  rw[hG]
  exact ab8 hi.hr a _ x fun tt e=>hnm tt (by
   subst e;simp only[named,List.mem_append];exact .inl (.inr (qE (by simpa using hx))))
 have hdst:oo ops t=o.dst:=by rw[oo,ho,Option.bind_some]
 have hw:=WT hg hnm;unfold wpOp;simp only[ho]
 have quiet:∀{σ':Nat->Option Pl} {v':Value} {w':World},t.k≠2->Ext s0.lh.length σ0 σ'->Le σ σ'->VR σ' t.v v'->HR n w0 G σ' (bW T sf c).lh w'->
   (∀(p:Nat) (u:Step),T[p]?=some u->p<c->u.k=1->listed.getD u.i false=false->p≠q->σ' u.s.lh.length=none)->K (a.put o.dst v') w':=by
  intro σ' v' w' hk2 fQ hle hv CW hfree;have hqc:q<c:=hq.elim id fun hh=>absurd hh.2 hk2
  rw[<-hdst];exact hK σ' c _ _ (hi.next h ht hn Eb fQ hle hv hi.cle (fun p u hu hh=>hh.elim (hi.below p u hu) fun e=>by omega) (fun p u hu hp hk=>.inl (hi.Ij p u hu hp hk)) hi.at_ CW hfree)
 rcases hcase with⟨rfl,hk,hv,hl⟩|⟨rfl,hk,VI,alq,hv,hl⟩|⟨rfl,hk,VI,r,hr,hv,hl⟩|⟨rfl,hk,hkind,r,hr,hv,hl⟩
 ·rw[hw,if_neg (by simp)]
  exact quiet (by rw[hk];decide) hi.ext (Le.refl _) (by rw[hv];exact VR.skip) hi.hr fun p u hu hp hk' hl' _=>hi.free p u hu hp hk' hl'
 ·rw[hw,if_pos rfl]
  left;have hqc:q<c:=hq.elim id fun hh=>absurd hh.2 (by rw[hk];decide)
  have hsame:∀k∈readsOf (qx E.G t.s.tmps) o.op,t.s.lh.getD k .dead=(bW T sf c).lh.getD k .dead:=fun k hkr=>by
   have:=h.stays (p:=q) (k:=k) (c:=c) (by rw[dS ht];exact alq k (by rw[VI];exact hkr)) (by omega) hi.cle fun r u hr hrc hu hk2=>by
    rcases Nat.lt_or_ge q r with hqr|hqr
    ·have FX:=List.pairwise_iff_getElem.1 h.cov q r adh (List.getElem?_eq_some_iff.1 hu).1 hqr
     rw[(List.getElem?_eq_some_iff.1 ht).2,(List.getElem?_eq_some_iff.1 hu).2]at FX;refine FX (by rw[hk];decide) hk2 ?_ k (by rw[VI];exact hkr)
     cases hb:Nat.testBit ((oO ops.toList).getD u.i 0) t.i with
     |false=>rfl
     |true=>
      have:=hi.closed u.i t.i (hi.Ij r u hu hrc hk2) hb;rw[hn]at this;cases this
    ·obtain rfl:r=q:=by omega
     rw[ht]at hu;cases hu;rw[hk]at hk2;cases hk2
   rw[this,dS ht]
  rw[UB hsame]at hv;obtain⟨v',h1,h2⟩:=GH hE hi.hr hop hv;unfold Oper.wp;rw[h1,Oper.upon_value];exact quiet (by rw[hk];decide) hi.ext (Le.refl _) h2 hi.hr fun p u hu hp hk' hl' _=>hi.free p u hu hp hk' hl'
 ·rw[hw,if_pos rfl]
  left;have hqc:q<c:=hq.elim id fun hh=>absurd hh.2 (by rw[hk];decide)
  obtain⟨v',ob,h1,p,⟨hp,hpa⟩,h2⟩:=Ia hi.hr.size hop hr;have hnext:(bW T sf (q+1)).lh=t.s.lh++[r.2]:=by rw[(gJ h.ch).2 q t ht];exact hl
  have hal:t.s.lh.length<(bW T sf (q+1)).lh.length:=by rw[hnext];simp
  have hac:t.s.lh.length<(bW T sf c).lh.length:=Nat.lt_of_lt_of_le hal (h.l9 (by omega) hi.cle)
  have hent:(bW T sf c).lh.getD t.s.lh.length .dead=r.2:=by
   have:=h.stays (p:=q+1) (k:=t.s.lh.length) (c:=c) hal (by omega) hi.cle fun r' u hr' hrc hu hk2=>by
    have FX:=List.pairwise_iff_getElem.1 h.cov q r' adh (List.getElem?_eq_some_iff.1 hu).1 (by omega)
    rw[(List.getElem?_eq_some_iff.1 ht).2,(List.getElem?_eq_some_iff.1 hu).2]at FX;refine FX (by rw[hk];decide) hk2 ?_ _ (by rw[VI];simp)
    cases hb:Nat.testBit ((oO ops.toList).getD u.i 0) t.i with
    |false=>rfl
    |true=>
     have:=hi.closed u.i t.i (hi.Ij r' u hu hrc hk2) hb;rw[hn]at this;cases this
   rw[this,hnext,iQ]
  have hfree:=hi.free q t ht hqc hk hn;obtain⟨h3,h4⟩:=h2 (upd σ t.s.lh.length p) t.s.lh.length (tK hfree p) (upd_same _ _ _);unfold Oper.wp;rw[h1,Oper.upon_value]
  have hs0:s0.lh.length<=t.s.lh.length:=by
   have:=h.l9 (Nat.zero_le q) (by omega)
   rwa[(gJ h.ch).1,dS ht]at this
  refine quiet (by rw[hk];decide) ⟨hi.ext.1.trans (tK hfree p),fun k hk0=>by rw[dF _ _ (by omega)];exact hi.ext.2 k hk0⟩ (tK hfree p) (by rw[hv];exact h3)
   (hi.hr.fill hac hfree p ob hp (by rw[hent];exact h4) (by rw[hent];exact hpa)) fun p' u hu hp' hk' hl' hne=> ?_
  rw[dF]
  ·exact hi.free p' u hu hp' hk' hl'
  ·have hup:(bW T sf (p'+1)).lh.length=u.s.lh.length+1:=by
    rw[(gJ h.ch).2 p' u hu];obtain⟨o',ho',g',hg',P7⟩:=h.ok u (gF hu);show u.bV.length=_;rcases P7 with⟨_,e,_⟩|⟨_,e,_⟩|⟨_,_,_,r',_,_,e⟩|⟨_,e,_⟩
    ·rw[hk']at e;cases e
    ·rw[hk']at e;cases e
    ·rw[e];simp
    ·rw[hk']at e;cases e
   rcases Nat.lt_or_ge p' q with hpq|hpq
   ·have:=h.l9 (show p'+1<=q by omega) (by omega)
    rw[dS ht]at this;omega
   ·have:=h.l9 (show q+1<=p' by omega) (by have:=(List.getElem?_eq_some_iff.1 hu).1;omega)
    rw[dS hu]at this;omega
 ·rw[hw,if_pos rfl]
  left
  obtain rfl:q=c:=by
   rcases hq with hh|⟨hh,_⟩
   ·have:=hi.Ij q t ht hh hk
    rw[hn]at this;cases this
   ·exact hh
  have hst:=dS (sf:=sf) ht;have CW:HR n w0 G σ t.s.lh w:=by have:=hi.hr;rwa[hst]at this
  refine EJ hc (CW.uW t.U) hop hr fun v' w' hgood=> ?_
  obtain⟨σ',fQ,kS,hr'⟩:=hgood;rw[nM]at fQ;have hkp:=yD hc hr;have hr2:=hr'.af1 hkp (h.ub t (gF ht) hk);obtain⟨c',hc1,hc2,hc3,hc4⟩:=IJ T (q+1) (by omega)
  obtain⟨N,hN⟩:=h.quiet hc1 hc2 hc3;have hnext:(bW T sf (q+1)).lh=kZ t.U t.s.lh r.2:=by rw[(gJ h.ch).2 q t ht];exact hl
  have hs0:s0.lh.length<=t.s.lh.length:=by
   have:=h.l9 (Nat.zero_le q) (by omega)
   rwa[(gJ h.ch).1,hst]at this
  rw[<-hdst];refine hK σ' c' _ _ (hi.next h ht hn Eb (hi.ext.trans fQ hs0) fQ.1 (by rw[hv];exact kS) hc2 (fun p u hu hh=> ?_) (fun p u hu hp hk'=> ?_) hc4 (by rw[hN,hnext];exact hr2.extend N) fun p u hu hp hk' hl' hne=> ?_)
  ·rcases hh with hh|hh
   ·have:=hi.below p u hu hh;omega
   ·omega
  ·rcases Nat.lt_trichotomy p q with hh|hh|hh
   ·exact .inl (hi.Ij p u hu hh hk')
   ·exact .inr hh
   ·exact absurd hk' (hc3 p u (by omega) hp hu)
  ·rcases Nat.lt_or_ge p q with hpq|hpq
   ·have hlt2:u.s.lh.length<t.s.lh.length:=by
     have h1:(bW T sf (p+1)).lh.length=u.s.lh.length+1:=by
      rw[(gJ h.ch).2 p u hu];obtain⟨o',ho',g',hg',P7⟩:=h.ok u (gF hu);show u.bV.length=_;rcases P7 with⟨_,e,_⟩|⟨_,e,_⟩|⟨_,_,_,r',_,_,e⟩|⟨_,e,_⟩
      ·rw[hk']at e;cases e
      ·rw[hk']at e;cases e
      ·rw[e];simp
      ·rw[hk']at e;cases e
     have:=h.l9 (show p+1<=q by omega) (by omega)
     rw[hst]at this;omega
    rw[fQ.2 _ hlt2];exact hi.free p u hu hpq hk' hl'
   ·have:=h.l9 (show q+1<=p by omega) (by have:=(List.getElem?_eq_some_iff.1 hu).1;omega)
    rw[dS hu,hnext]at this;cases e:σ' u.s.lh.length with
    |none=>rfl
    |some p0=>have:=hr2.dom _ _ e;omega
theorem ET{p q:Nat->Bool}:∀{l:List Nat} {x:Nat},x∈l->p x=true->q x=false->(∀y,q y=true->p y=true)->(l.filter q).length<(l.filter p).length
 |y::l,x,hx,hp,hq,hpq=>by
  have hle:∀l:List Nat,(l.filter q).length<=(l.filter p).length:=by
   intro l;induction l with
   |nil=>exact Nat.le_refl _
   |cons z l ih=>
    simp only[List.filter_cons];cases hz:q z with
    |true=>rw[hpq z hz];simpa using ih
    |false=>cases p z<;>simp<;>omega
  rcases List.mem_cons.1 hx with rfl|hx
  ·simp only[List.filter_cons,hp,hq]
   have:=hle l;simp;omega
  ·have ih:=ET hx hp hq hpq
   simp only[List.filter_cons];cases hz:q y with
   |true=>rw[hpq y hz];simpa using ih
   |false=>cases p y<;>simp<;>omega
theorem WB(hb:Dk ops.toList=true){listed:Array Bool}(hsz:listed.size=ops.size)(hr:Region.ready .any ops listed=[]):∀i,i<ops.size->listed.getD i false=true:=by
 intro i;induction i using Nat.strongRecOn with
 |_ i ih=>
  intro hi;cases hl:listed.getD i false with
  |true=>rfl
  |false=>
   exfalso
   have hmem:i∈Region.ready .any ops listed:=by
    simp only[Region.ready,List.mem_filter,List.mem_range,Bool.and_eq_true,Bool.not_eq_true'];refine⟨hi,?_,?_⟩
    ·rw[Array.getD_eq_getD_getElem?]at hl ⊢
     rw[Array.getElem?_eq_getElem (by omega)]at hl ⊢
     simpa using hl
    ·rw[Array.getElem?_eq_getElem hi]
     simp only[Option.map_some,Option.getD_some,Array.all_eq_true];intro j hj;simp only[Bool.or_eq_true,Bool.not_eq_true'];cases hbd:Region.binds .any (ops[i].after[j])with
     |false=>exact .inl rfl
     |true=>
      right;unfold Dk at hb;rw[List.all_eq_true]at hb;have h1:=hb (ops[i],i) (by rw[List.mem_zipIdx_iff_getElem?];simp[hi])
      simp only at h1;rw[List.all_eq_true]at h1;have h2:=h1 (ops[i].after[j]) (by simp)
      rw[hbd]at h2;simp at h2;exact ih _ h2 (by omega)
   rw[hr]at hmem;cases hmem
theorem rD.run(hE:vN E)(hG:E.G=G)(hc:kF E.P n w0 G bB)(hb:Dk ops.toList=true)(h:Tr E bB ops T s0 sf){σ0:Nat->Option Pl}{Q:Exit->Act->World->Prop}
  (hfin:∀σ' a' w',Ext s0.lh.length σ0 σ'->Rel n w0 G σ' sf a' w'->Q .normal a' w'):∀(fuel:Nat) (listed:Array Bool) (a:Act) (w:World) (σ:Nat->Option Pl) (c:Nat),rD n w0 G ops T s0 sf σ0 σ c listed a w->
  ((List.range ops.size).filter fun i=> !listed.getD i false).length<=fuel->wpAny E.P .any ops Q fuel listed a w:=by
 have fin:∀(listed:Array Bool) (a:Act) (w:World) (σ:Nat->Option Pl) (c:Nat),rD n w0 G ops T s0 sf σ0 σ c listed a w->(∀i,i<ops.size->listed.getD i false=true)->Q .normal a w:=by
  intro listed a w σ c hi hall
  have hce:c=T.length:=by
   rcases hi.at_ with e|⟨u,hu,hk⟩
   ·exact e
   ·have:=hi.below c u hu (hall _ (h.lt u (gF hu)))
    omega
  have CW:=hi.hr;rw[hce,sV]at CW;have hlen:=h.Ob (Nat.le_refl T.length);rw[sV]at hlen;refine hfin σ a w hi.ext ⟨by rw[hi.sz,hlen],fun t=> ?_,hi.df,CW⟩
  have:=hi.tm t T.length (Nat.le_refl _) fun r u hu _=>⟨fun _=>hall _ (h.lt u (gF hu)),fun _=>(List.getElem?_eq_some_iff.1 hu).1⟩
  rwa[sV]at this
 intro fuel;induction fuel with
 |zero=>
  intro listed a w σ c hi hf
  have hall:∀i,i<ops.size->listed.getD i false=true:=by
   intro i hlt;have:(List.range ops.size).filter (fun i=> !listed.getD i false)=[]:=List.eq_nil_of_length_eq_zero (by omega)
   rw[List.filter_eq_nil_iff]at this;have:=this i (List.mem_range.2 hlt);simpa using this
  refine⟨?_,fin listed a w σ c hi hall⟩;rw[Region.ready,List.filter_eq_nil_iff];intro i hmem;have hlt:=List.mem_range.1 hmem;have:=hall i hlt;rw[Array.getD_eq_getD_getElem?,Array.getElem?_eq_getElem (by rw[hi.size];exact hlt)]at this
  have h2:listed.getD i true=true:=by
   rw[Array.getD_eq_getD_getElem?,Array.getElem?_eq_getElem (by rw[hi.size];exact hlt)];simpa using this
  rw[h2];simp
 |succ fuel ih=>
  intro listed a w σ c hi hf;refine⟨fun hr=>fin listed a w σ c hi (WB hb hi.size hr),fun i hmem=> ?_⟩
  simp only[Region.ready,List.mem_filter,List.mem_range,Bool.and_eq_true,Bool.not_eq_true']at hmem;obtain⟨hlt,hnl,P6⟩:=hmem;have hls:i<listed.size:=by rw[hi.size];exact hlt
  have hn:listed.getD i false=false:=by
   rw[Array.getD_eq_getD_getElem?,Array.getElem?_eq_getElem hls]at hnl ⊢;simpa using hnl
  refine hi.step hE hG hc h hlt hn (fun j hj=> ?_) Q _ fun σ' c' a' w' hi'=>ih _ a' w' σ' c' hi' ?_
  ·have ho:ops.toList[i]?=some ops[i]:=by simp[hlt]
   obtain⟨e,he,hbd,hcase⟩:=acG ho hj;rw[Array.getElem?_eq_getElem hlt]at P6;simp only[Option.map_some,Option.getD_some,Array.all_eq_true]at P6;obtain⟨k,hk,rfl⟩:=List.mem_iff_getElem.1 he;have:=P6 k (by simpa using hk)
   rw[Array.getElem_toList]at hbd hcase;rw[hbd]at this;simp only[Bool.not_true,Bool.false_or]at this;rcases hcase with rfl|hcase
   ·exact this
   ·exact hi.closed _ _ this hcase
  ·have hlt2:=ET (l:=List.range ops.size) (x:=i) (p:=fun i=> !listed.getD i false) (q:=fun j=> !(listed.setIfInBounds i true).getD j false) (List.mem_range.2 hlt) (by simp only[hn];rfl) (by simp only[yF hls,if_true];rfl) (fun y hy=>by
    simp only[yF hls]at hy;split at hy
    ·cases hy
    ·exact hy)
   omega
theorem Si(hE:vN E)(hG:E.G=G)(hm:E.P.follows .mixedOrders=true)(hc:kF E.P n w0 G bB){id:Nat}{s s':St}(h:(V6 E bB ops s).get=some s'):
  bu s.lh s'.lh/\∀σ a w (Q:Exit->Act->World->Prop),Rel n w0 G σ s a w->(∀σ' a' w',Ext s.lh.length σ σ'->Rel n w0 G σ' s' a' w'->Q .normal a' w')->(Code.region id ops true).wp E.P Q a w:=by
 unfold V6 at h;rcases M.af h with⟨hd,h⟩|⟨_,h⟩
 ·obtain⟨T,hT⟩:=Tr.ai7 hc hd h
  have hb:Dk ops.toList=true:=by
   simp only[IW,Bool.and_eq_true]at hd;exact hd.1.1.1.1
  refine⟨?_,fun σ a w Q hrel hfin=> ?_⟩
  ·have key:∀q,q<=T.length->bu s.lh (bW T s' q).lh:=by
    intro q;induction q with
    |zero=>intro _;rw[(gJ hT.ch).1];exact bu.refl _
    |succ q ih=>
     intro hq;have ht:T[q]?=some T[q]:=List.getElem?_eq_getElem (by omega)
     have h1:=ih (by omega)
     rw[dS ht]at h1;rw[(gJ hT.ch).2 q _ ht];exact h1.trans (hT.kk _ (gF ht))
   have:=key T.length (Nat.le_refl _);rwa[sV]at this
  ·obtain⟨c,hi⟩:=rD.start hT hrel
   refine wp_region_any hm ?_;have hi':rD n w0 G ops T s s' σ σ c (Array.replicate ops.size false) a w.drew:={hi with hr:=hi.hr.drew}
   exact rD.run hE hG hc hb hT hfin ops.size _ a _ σ c hi' (by
    have:=List.length_filter_le (fun i=> !(Array.replicate ops.size false).getD i false) (List.range ops.size)
    simpa using this)
 ·cases h
end
end Go.Sx
