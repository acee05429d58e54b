/- Laws of the proof, joined. No condition of its own. -/
import Derived.Lib.SmallJoins
import Derived.Test.YteaflphddciglaaGreatDoorCards
import Derived.Test.YteaflphddciglaaGreatDoorTie
import Derived.Deep.DeepHandedRow
import Derived.Test.YteaflphddciglaaGreatDoorCdB
set_option linter.all false
def rL:=@Go.DataW.trod_int
namespace Go.Proofs.YteaflphddciglaaGreatDoor
section
open Go.ChangeShapes Go.WideShapes Go.ChangeAt Go.RowKit Go.Joins Go.bn Go.Deep
theorem own:ownKnob Tryz.prog.godebug=none:=by kernel_rfl
theorem laidOut:laidOutB Tryz.prog=true:=by kernel_rfl
theorem sQ{n:Int}(h:(Lit.int .u8 n).wf=true):0<=n/\n<=255:=by
 simp[Lit.wf,IntKind.min,IntKind.max,IntKind.signed,IntKind.bits]at h;omega
section
variable{H:Type} {enc:TypeId×Value->H} {P:Program} {w:World} {base:Nat} {spare:Nat->Bool} {held:Bool}
theorem Et{t e:TypeId}{fs:Array Field}{fuel:Nat}{cs:List Value}{x:DataW H×List MemPlace}(ht:P.underlying t=some (.slice e))(he:P.underlying e=some (.struct fs))
  (hone:oneCellFields P fs=true) (hC:P.cellsOf e=fs.size) (h:DataW.trod enc P w base spare held fuel t cs=some x):
  (cs=[.slice none 0 0]/\x=(.nil,[]))\/
  ∃(a:Addr) (len cap m:Nat) (D:Nat->DataW H) (Pl:Nat->List MemPlace),cs=[.slice (some a) len cap]/\base<=a.block/\len<=cap/\cap<=maxLen/\m=(if spare a.block then cap else len)/\
   x=(.slice ((List.range len).map D) ((List.range (m-len)).map λj=>D (len+j)),MemPlace.row a (m*fs.size)++(List.range m).flatMap Pl)/\
   ∀i,i<m->∃(ys:List (DataW H×List MemPlace)) (n:Nat),D i=.agg (ys.map (·.1))/\Pl i=ys.flatMap (·.2)/\ys.length=fs.size/\
    ∀(j:Nat) (f:Field),fs[j]?=some f->∃(v:Value) (y:DataW H×List MemPlace),w.cell? (a.add (i*fs.size+j))=some v/\ys[j]?=some y/\DataW.trod enc P w base spare held n f.type [v]=some y:=by
 rcases open_slice ht h with h0|⟨a,len,cap,m,n,D,Pl,hcs,hb,hl,hm,hmm,hx,hi⟩
 .exact .inl h0
 .refine .inr ⟨a,len,cap,m,D,Pl,hcs,hb,hl,hm,hmm,by rw[hC]at hx;exact hx,fun i him=> ?_⟩
  obtain⟨cs',hc,ht'⟩:=hi i him;rw[hC]at hc;obtain⟨ys,n',hn',hy,hlen,hyl,hf⟩:=DataW.trod_struct he ht';obtain⟨_,hcl,hat⟩:=World.cells?_some hc;simp only[kB]at hy;refine⟨ys,n',hy.1,hy.2,hyl,λj f hj=> ?_⟩;obtain⟨ho,hk⟩:=hone_of hone j f hj;have hjl:j<fs.size:=(bk.1 hj).1;have hcell:=hat j hjl;have hv:cs'[j]?=some (cs'[j]'(by omega)):=aw (by omega);have h1:=hf j f hj;rw[ho,hk]at h1;have hone':(cs'.drop j).take 1=[cs'[j]'(by omega)]:=by
   rw[lj (by omega)];rfl
  rw[hone']at h1;have hys:ys[j]?=some (ys[j]'(by omega)):=aw (by omega);refine⟨_,_,?_,hys,h1.trans hys⟩;rw[<-Go.Deep.add_add,hcell,hv]
end
section
variable{H:Type} {enc:TypeId×Value->H} {P:Program} {w:World} {base:Nat} {spare:Nat->Bool} {held:Bool}
end
def NI{H:Type}(f:Int×Int):DataW H:=.agg [.lit (.int .i64 f.1),.lit (.int .i64 f.2)]
theorem LM:∀zs:List (Int×Int),(zs.flatMap fun f=>[Value.int .i64 f.1,Value.int .i64 f.2]).length=zs.length*2
 |[]=>rfl
 |a::l=>by rw[oY,cE,LM l,ct];simp;omega
theorem La{H:Type}{enc:TypeId×Value->H}{P:Program}{w:World}{base:Nat}{sp:Nat->Bool}{held:Bool}{fuel:Nat}{t e i:TypeId}{f0 f1:Field}{n:Nat}{cs:List Value}{zs:List (Int×Int)}{p:List MemPlace}
  (ht:P.underlying t=some (.array n e)) (he:P.underlying e=some (.struct #[f0,f1])) (hone:oneCellFields P #[f0,f1]=true) (hce:P.cellsOf e=2) (hct:P.cellsOf t=n*2) (h0:f0.type=i) (h1:f1.type=i) (hi:P.underlying i=some (.int .i64))
  (h:DataW.trod enc P w base sp held fuel t cs=some (.agg (zs.map NI),p)):cs=zs.flatMap λf=>[Value.int .i64 f.1,Value.int .i64 f.2]:=by
 cases fuel with
 |zero=>simp[DataW.trod]at h
 |succ fuel=>
  simp only[DataW.trod,ht,hce,hct]at h;split at h
  .rename_i hl
   obtain⟨xs,hm,hx⟩:=ia.1 h;have hxs:xs.map (·.1)=zs.map λz=>(NI z:DataW H):=by
    have:=fT Prod.fst hx;simpa using this
   have hxl:xs.length=n:=by simpa using Lib.mapM_length hm
   have hzl:zs.length=n:=by
    have:=fT List.length hxs;simp at this;omega
   have hlen:(zs.flatMap λf=>[Value.int .i64 f.1,Value.int .i64 f.2]).length=n*2:=by
    rw[<-hzl];exact LM zs
   apply o4;intro j;by_cases hj:j<n*2
   .obtain⟨b,hb,hf⟩:=Lib.mapM_at hm (j/2) (j/2) (ot (by omega))
    have hz:zs[j/2]?=some (zs[j/2]'(by omega)):=aw (by omega);have h2:(xs.map (·.1))[j/2]?=(zs.map λz=>(NI z:DataW H))[j/2]?:=by rw[hxs]
    rw[cG,cG,hb,hz]at h2;simp only[eR,cq]at h2;obtain⟨y0,y1,m,hy,_,t0,t1⟩:=trod_struct2 he hf;obtain⟨o0,k0⟩:=hone_of hone 0 f0 rfl;obtain⟨o1,k1⟩:=hone_of hone 1 f1 rfl;rw[hy]at h2;simp only[NI,DataW.agg.injEq,iS,oA]at h2;rw[h0]at t0;rw[h1]at t1;rw[<-h0,k0,o0,h0]at t0;rw[<-h1,k1,o1,h1]at t1;obtain⟨z0,c0,e0,_⟩:=rL hi t0;obtain⟨z1,c1,e1,_⟩:=rL hi t1;subst e0 e1;simp only[DataW.lit.injEq,Lit.int.injEq,true_and]at h2;obtain⟨rfl,rfl⟩:=h2;have r:=flat_get (λf:Int×Int=>[Value.int .i64 f.1,Value.int .i64 f.2]) 2 (λ_=>rfl) zs (j/2) (j%2) (zs[j/2]'(by omega));have q0:cs[j/2*2]?=some (.int .i64 (zs[j/2]'(by omega)).1):=by
     have:=fT (·[0]?) c0;simpa[gC,fj]using this
    have q1:cs[j/2*2+1]?=some (.int .i64 (zs[j/2]'(by omega)).2):=by
     have:=fT (·[0]?) c1;simpa[gC,fj]using this
    rcases Nat.mod_two_eq_zero_or_one j with h|h
    .have r':=r (.int .i64 (zs[j/2]'(by omega)).1) hz (by rw[h];rfl)
     rw[show j/2*2+j%2=j by omega]at r';rw[show j/2*2=j by omega]at q0;rw[r',q0]
    .have r':=r (.int .i64 (zs[j/2]'(by omega)).2) hz (by rw[h];rfl)
     rw[show j/2*2+j%2=j by omega]at r';rw[show j/2*2+1=j by omega]at q1;rw[r',q1]
   .rw[ez (by omega),ez (by omega)]
  .cases h
theorem table{W:World}(h:laidMetH Tryz.prog [("coachhouse/slot.fields",Rows.laid_coachhouse_slot_fields)] W):cB W:=by
 have h':laidMet Tryz.prog [("coachhouse/slot.fields",Rows.laid_coachhouse_slot_fields)] W:=h;obtain⟨ps,⟨g',t',cs,fuel,p,q,hg',ht',hvar,hd,_,_⟩,_⟩:=h';obtain rfl:=b9 ((show Tryz.prog.globalNamed "coachhouse/slot.fields" =some 0 by kernel_rfl).symm.trans hg');obtain rfl:=b9 ((show(Tryz.prog.globals[0]?).map (·.type)=some 152 by kernel_rfl).symm.trans ht');have hcs:=La (zs:=fC) (i:=3) Tryz.underlying152 Tryz.underlying151 (by kernel_rfl) (by kernel_rfl) (by kernel_rfl) rfl rfl Tryz.underlying3 hd;unfold World.var? at hvar;rw[hg']at hvar;simp only[jt]at hvar;split at hvar
 .rename_i c t fr hb
  refine⟨t,fr,hb.trans ?_⟩;rw[b9 hvar,show cs=je from e8.1 (hcs.trans (by rfl))]
 .cases hvar
noncomputable def Mg(os:Os):World:=
 {World.holding Tryz.prog os ⟨#[], #[],[]⟩with heap:=(World.holding Tryz.prog os ⟨#[], #[],[]⟩).heap.modify 0 fun
   | .cells _ t frozen=>.cells je t frozen
   |o=>o}
end
section
open Go.ChangeShapes Go.WideShapes Go.ChangeAt Go.RowKit Go.Joins Go.bn Go.Deep Go.Sx
theorem CS{P:Program}{x:String×DataW Unit}{r:List (String×DataW Unit)}{w:World}(h:laidMet P (x::r) w):laidMet P r w:=by
 obtain⟨ps,hv,hnd,hrows⟩:=h;obtain⟨n,d⟩:=x;obtain⟨g,t,cs,fuel,p,q,_,_,_,_,hq,rfl⟩:=hv;exact⟨q,hq,List.Nodup.sublist (List.sublist_append_right _ _) hnd,λb off hm=>hrows b off (pP _ hm)⟩
def aiP:List Int:=[0,1,56,2,57,49,28,3,61,58,42,50,38,29,17,4,62,47,59,36,45,43,51,22,53,39,33,30,24,18,12,5,63,55,48,27,60,41,37,16,46,35,44,21,52,32,23,11,54,26,40,15,34,20,31,10,25,14,19,9,13,8,7,6]
theorem aeh{r:List (String×DataW Unit)}{W:World}(h:laidMet Tryz.prog (("math/bits.deBruijn64tab",Rows.laid_math_bits_deBruijn64tab)::r) W):jm W:=by
 have ht:Lib.TabIs Tryz.prog W "math/bits.deBruijn64tab" .u8 aiP:=Lib.tabIs_of_head (g:=2) (t:=259) (e:=5) (n:=64) (by kernel_rfl) (by kernel_rfl) Tryz.underlying259 Tryz.underlying5 (by kernel_rfl) (by kernel_rfl) h;unfold Lib.TabIs World.var? at ht;rw[show Tryz.prog.globalNamed "math/bits.deBruijn64tab" =some 2 by kernel_rfl]at ht;simp only[jt]at ht;split at ht
 .rename_i c t fr hb
  refine⟨t,fr,hb.trans ?_⟩;rw[b9 ht];rfl
 .cases ht
theorem tables{W:World}(h:laidMetH Tryz.prog [("math/bits.deBruijn32tab",Rows.laid_math_bits_deBruijn32tab),("math/bits.deBruijn64tab",Rows.laid_math_bits_deBruijn64tab),("coachhouse/slot.fields",Rows.laid_coachhouse_slot_fields)] W):TT W:=by
 have h':laidMet Tryz.prog [("math/bits.deBruijn32tab",Rows.laid_math_bits_deBruijn32tab),("math/bits.deBruijn64tab",Rows.laid_math_bits_deBruijn64tab),("coachhouse/slot.fields",Rows.laid_coachhouse_slot_fields)] W:=h;exact⟨table (show laidMetH Tryz.prog [("coachhouse/slot.fields",Rows.laid_coachhouse_slot_fields)] W from CS (CS h')),aeh (CS h')⟩
def aiQ:Array Value:= #[.int .u8 0,.int .u8 1,.int .u8 28,.int .u8 2,.int .u8 29,.int .u8 14,.int .u8 24,.int .u8 3,.int .u8 30,.int .u8 22,.int .u8 20,.int .u8 15,.int .u8 25,.int .u8 17,.int .u8 4,.int .u8 8,.int .u8 31,.int .u8 27,.int .u8 13,.int .u8 23,.int .u8 21,.int .u8 19,.int .u8 16,.int .u8 7,.int .u8 26,.int .u8 12,.int .u8 18,.int .u8 6,.int .u8 11,.int .u8 5,.int .u8 10,.int .u8 9]
noncomputable def Ay(os:Os):World:=
 {Mg os with heap:=((Mg os).heap.modify 1 fun
   | .cells _ t frozen=>.cells aiQ t frozen
   |o=>o).modify 2 λ
   | .cells _ t frozen=>.cells UF t frozen
   |o=>o}
end
namespace bq
section
open Go.ChangeShapes Go.WideShapes Go.ChangeAt Go.RowKit Go.Joins Go.bn Go.Deep Go.Sx
structure uR(w:World)(A:Option Addr)(n cap wd:Nat)(R:Go.Sx.Rows):Prop where
 le:n<=cap
 cells:n=0\/∃b off,A=some ⟨b,off,none⟩/\b<w.heap.size/\∀i j,i<n->j<wd->w.cell? ⟨b,off+(i*wd+j),none⟩=some (R.at i j).val
 wf:∀i j k,i<n->j<wd->R.ks.getD j .bo=.it k->(Lit.int k (R.gi i j)).wf=true
def YV(P:Program)(t:TypeId):Go.Sx.Kd->Bool
 | .it k=>match P.underlying t with
  |some (.int k')=>decide (k=k')
  |_=>false
 | .bo=>match P.underlying t with
  |some .bool=>true
  |_=>false
def aha(P:Program)(fs:Array Field)(ks:List Go.Sx.Kd):Bool:=Nat.beq ks.length fs.size&&(List.range fs.size).all λj=>match fs[j]? with
 |some f=>YV P f.type (ks.getD j .bo)
 |none=>false
section
variable{H:Type} {enc:TypeId×Value->H} {P:Program} {w:World} {base:Nat} {held:Bool} {spare:Nat->Bool}
def Hf(w:World)(a:Addr)(wd:Nat)(ks:List Go.Sx.Kd):Go.Sx.Rows:=⟨ks,λi j=>uC ((w.cell? (a.add (i*wd+j))).getD undef),λi j=>vR ((w.cell? (a.add (i*wd+j))).getD undef)⟩
theorem SL{t:TypeId}{kd:Go.Sx.Kd}(h:YV P t kd=true){fuel:Nat}{v:Value}{x:DataW H×List MemPlace}(ht:DataW.trod enc P w base spare held fuel t [v]=some x):
  (match kd with| .it k=>Gw.int k (uC v)| .bo=>.bool (vR v)).val=v/\∀k,kd=.it k->(Lit.int k (uC v)).wf=true:=by
 cases kd with
 |it k=>
  unfold YV at h;simp only at h;split at h
  .rename_i k' hu
   have:=ij h;subst this;obtain⟨n,e,_,hw⟩:=rL hu ht;simp only[iS,oA]at e;subst e;exact⟨rfl,λk' hk=>by cases hk;exact hw⟩
  .cases h
 |bo=>
  unfold YV at h;simp only at h;split at h
  .rename_i hu
   obtain⟨b,e,_⟩:=DataW.trod_bool hu ht;simp only[iS,oA]at e;subst e;exact⟨rfl,λk' hk=>by cases hk⟩
  .cases h
theorem MI{a:Addr}{n cap wd:Nat}{ks:List Go.Sx.Kd}(hle:n<=cap)(hwd:0<wd)(h:∀i j,i<n->j<wd->∃v,w.cell? (a.add (i*wd+j))=some v/\(match ks.getD j .bo with| .it k=>Gw.int k (uC v)| .bo=>.bool (vR v)).val=v/\∀k,ks.getD j .bo=.it k->(Lit.int k (uC v)).wf=true):
  uR w (some a) n cap wd (Hf w a wd ks):=by
 refine⟨hle,?_,λi j k hi hj hk=> ?_⟩
 .rcases lf n with h0|h0
  .exact .inl h0
  right;obtain⟨v0,hc0,_⟩:=h 0 0 h0 hwd;obtain⟨b,off,spot⟩:=a;have hspot:spot=none:=by simpa[Addr.add]using World.cell?_spot hc0
  subst hspot;have hb:b<w.heap.size:=by simpa[Addr.add]using Ei (b:=b) (o:=off) (by simpa[Addr.add]using hc0)
  refine⟨b,off,rfl,hb,λi j hi hj=> ?_⟩;obtain⟨v,hc,hv,_⟩:=h i j hi hj;have hc':=hc;rw[gw]at hc;rw[hc];unfold Hf Go.Sx.Rows.at;simp only[hc',lO];exact fT some hv.symm
 .obtain⟨v,hc,_,hw⟩:=h i j hi hj
  unfold Hf;simp only[hc,lO];exact hw k hk
theorem Yp{t e:TypeId}{fs:Array Field}{ks:List Go.Sx.Kd}{fuel:Nat}{v:Value}{x:DataW H×List MemPlace}(ht:P.underlying t=some (.slice e))(he:P.underlying e=some (.struct fs))(hone:oneCellFields P fs=true)(hC:P.cellsOf e=fs.size)(hk:aha P fs ks=true)(h0:0<fs.size)
  (h:DataW.trod enc P w base (λ_=>true) held fuel t [v]=some x):∃A n cap R,v=.slice A n cap/\R.ks=ks/\uR w A n cap fs.size R:=by
 rcases Et ht he hone hC h with⟨hcs,_⟩|⟨a,l,c,m,D,Pl,hcs,_,hl,hm,hmm,_,hcell⟩
 .simp only[iS,oA]at hcs
  subst hcs;exact⟨none,0,0,⟨ks,λ_ _=>0,λ_ _=>false⟩,rfl,rfl,aq _,.inl rfl,λi j k hi=>by omega⟩
 .simp only[iS,oA]at hcs
  subst hcs;simp only[if_true]at hmm;subst hmm;refine⟨some a,l,m,Hf w a fs.size ks,rfl,rfl,MI hl h0 λi j hi hj=> ?_⟩;obtain⟨ys,n,_,_,_,hfl⟩:=hcell i (by omega);obtain⟨f,hf⟩:∃f,fs[j]?=some f:=⟨fs[j],cj hj⟩;obtain⟨v0,y0,hc0,_,t0⟩:=hfl j f hf;refine⟨v0,hc0,SL ?_ t0⟩;unfold aha at hk;rw[bj,bp]at hk;have:=hk.2 j (eA.2 hj);rw[hf]at this;exact this
theorem Yr{t e:TypeId}{kd:Go.Sx.Kd}{fuel:Nat}{v:Value}{x:DataW H×List MemPlace}(ht:P.underlying t=some (.slice e))(hC:P.cellsOf e=1)(hk:YV P e kd=true)
  (h:DataW.trod enc P w base (λ_=>true) held fuel t [v]=some x):∃A n cap R,v=.slice A n cap/\R.ks=[kd]/\uR w A n cap 1 R:=by
 rcases open_slice1 ht hC h with⟨hcs,_⟩|⟨a,l,c,m,n,V,D,Pl,hcs,_,hl,hm,hmm,_,hcell⟩
 .simp only[iS,oA]at hcs
  subst hcs;exact⟨none,0,0,⟨[kd],λ_ _=>0,λ_ _=>false⟩,rfl,rfl,aq _,.inl rfl,λi j k hi=>by omega⟩
 .simp only[iS,oA]at hcs
  subst hcs;simp only[if_true]at hmm;subst hmm;refine⟨some a,l,m,Hf w a 1 [kd],rfl,rfl,MI hl (by decide) λi j hi hj=> ?_⟩;obtain rfl:j=0:=by omega
  obtain⟨h1,h2⟩:=hcell i (by omega);refine⟨V i,by rw[lr,qq];exact h1,?_⟩;exact SL (kd:=kd) hk h2
end
section
variable{H:Type} {enc:TypeId×Value->H} {w:World} {base:Nat} {held:Bool}
theorem Qx{cs:List Value}{i:Nat}{v:Value}(h:cs[i]?=some v):(cs.drop i).take 1=[v]:=by
 obtain⟨hi,rfl⟩:=aE.1 h;rw[lj hi];rfl
theorem ajf{α:Type}{l:List α}(h:l.length=5):∃v0 v1 v2 v3 v4,l=[v0,v1,v2,v3,v4]:=by
 match l,h with
 |[v0,v1,v2,v3,v4],_=>exact⟨v0,v1,v2,v3,v4,rfl⟩
theorem ab6{P:Program}{t tu:TypeId}{κ:IntKind}{f0 f1 f2 f3 f4:Field}(hs:P.underlying t=some (.struct #[f0,f1,f2,f3,f4]))(hone:oneCellFields P #[f0,f1,f2,f3,f4]=true)(hC:P.cellsOf t=5)(hu:P.underlying tu=some (.int κ))(t0:f0.type=tu)(t1:f1.type=tu)(t2:f2.type=tu)(t3:f3.type=tu)(t4:f4.type=tu)
  {b0:Nat} {r:Go.Reach} {v:Value} {d:DataW H} {p:List MemPlace} (hv:Value.okWide P w r b0 t v) (h:DataW.Trod enc P w base (λ_=>true) held t v d p):
  ∃a b c d e,v=.agg #[.int κ a,.int κ b,.int κ c,.int κ d,.int κ e]/\(Lit.int κ a).wf=true/\(Lit.int κ b).wf=true/\(Lit.int κ c).wf=true/\(Lit.int κ d).wf=true/\(Lit.int κ e).wf=true:=by
 obtain⟨cs,rfl,hsz⟩:=okWide_struct hs hv;rw[hC]at hsz;obtain⟨fuel,hf⟩:=h;obtain⟨l⟩:=cs;obtain⟨v0,v1,v2,v3,v4,rfl⟩:=ajf hsz;obtain⟨zs,m,_,_,_,hzl,hh⟩:=DataW.trod_struct hs hf;have one:∀(i:Nat) (f:Field) (v:Value),(#[f0,f1,f2,f3,f4]:Array Field)[i]?=some f->([v0,v1,v2,v3,v4]:List Value)[i]?=some v->f.type=tu->∃a,v=.int κ a/\(Lit.int κ a).wf=true:=by
  intro i f v hf hv ht;have h:=hh i f hf;obtain⟨ho,hk⟩:=hone_of hone i f hf;have hi:i<5:=by have:=(aE.1 hv).1;simpa using this
  rw[ho,hk]at h;have hz:zs[i]?=some (zs[i]'(by rw[hzl];exact hi)):=aw _;rw[hz]at h;have h2:=h;rw[show((Value.agg [v0,v1,v2,v3,v4].toArray).cells.toList.drop i).take 1=[v]from Qx hv,ht]at h2;obtain⟨a,e0,_,w0⟩:=rL hu h2;simp only[iS,oA]at e0;exact⟨a,e0,w0⟩
 obtain⟨a,e0,w0⟩:=one 0 f0 v0 rfl rfl t0;obtain⟨b,e1,w1⟩:=one 1 f1 v1 rfl rfl t1;obtain⟨c,e2,w2⟩:=one 2 f2 v2 rfl rfl t2;obtain⟨d,e3,w3⟩:=one 3 f3 v3 rfl rfl t3;obtain⟨e,e4,w4⟩:=one 4 f4 v4 rfl rfl t4;subst e0 e1 e2 e3 e4;exact⟨a,b,c,d,e,rfl,w0,w1,w2,w3,w4⟩
set_option maxRecDepth 4000 in
theorem Pe{b0:Nat}{r:Go.Reach}{v:Value}{d:DataW H}{p:List MemPlace}(hv:Value.okWide Tryz.prog w r b0 23 v)(h:DataW.Trod enc Tryz.prog w base (fun _=>true) held 23 v d p):
  ∃a b c d e,v=.agg #[.int .u8 a,.int .u8 b,.int .u8 c,.int .u8 d,.int .u8 e]/\(0<=a/\a<=255)/\(0<=b/\b<=255)/\(0<=c/\c<=255)/\(0<=d/\d<=255)/\0<=e/\e<=255:=by
 obtain⟨a,b,c,d',e,h1,h2,h3,h4,h5,h6⟩:=ab6 (P:=Tryz.prog) (t:=23) (w:=w) (r:=r) (b0:=b0) (v:=v) (d:=d) (p:=p) Tryz.underlying23 (by kernel_rfl) (by kernel_rfl) Tryz.underlying5 rfl rfl rfl rfl rfl hv h;exact⟨a,b,c,d',e,h1,sQ h2,sQ h3,sQ h4,sQ h5,sQ h6⟩
abbrev ada:List Go.Sx.Kd:=[.it .u8,.it .u8,.it .u8,.it .u8,.it .u8,.it .u8]
theorem Vm{fuel:Nat}{v:Value}{x:DataW H×List MemPlace}(h:DataW.trod enc Tryz.prog w base (λ_=>true) held fuel 24 [v]=some x):∃A n cap R,v=.slice A n cap/\R.ks=ada/\uR w A n cap 6 R:=
 Yp Tryz.underlying24 Tryz.underlying103 (by kernel_rfl) (by kernel_rfl) (by kernel_rfl) (by decide) h
theorem Vn{fuel:Nat}{v:Value}{x:DataW H×List MemPlace}(h:DataW.trod enc Tryz.prog w base (λ_=>true) held fuel 25 [v]=some x):∃A n cap R,v=.slice A n cap/\R.ks=[.it .u8]/\uR w A n cap 1 R:=
 Yr Tryz.underlying25 (by kernel_rfl) (by kernel_rfl) h
theorem acS{A:Option Addr}{n cap wd:Nat}{R:Go.Sx.Rows}(h:uR w A n cap wd R){i j:Nat}(hi:i<n)(hj:j<wd)(hk:R.ks.getD j .bo=.it .u8):U8 (R.gi i j)/\(R.at i j).val=.int .u8 (R.gi i j):=by
 refine⟨?_,?_⟩
 .obtain⟨h1,h2⟩:=sQ (h.wf i j .u8 hi hj hk)
  exact⟨h1,h2⟩
 .unfold Rows.at
  rw[hk];rfl
theorem aah{A:Option Addr}{n cap:Nat}{R:Go.Sx.Rows}(hk:R.ks=ada)(h:uR w A n cap 6 R):Dq w A n:=⟨λk hkn=>by
 rcases h.cells with h0|⟨b,off,rfl,hb,hc⟩
 .omega
 .have g:∀j,j<6->U8 (R.gi k j)/\w.cell? ⟨b,off+(k*6+j),none⟩=some (.int .u8 (R.gi k j)):=λj hj=>by
   have q:=acS h hkn hj (by rw[hk];match j,hj with|0,_|1,_|2,_|3,_|4,_|5,_=>rfl);exact⟨q.1,by rw[hc k j hkn hj,q.2]⟩
  have e:∀j,off+(k*6+j)=off+k*6+j:=λj=>(Nat.add_assoc _ _ _).symm;refine⟨b,off,_,_,_,_,_,_,rfl,hb,⟨(g 0 (by omega)).1,(g 1 (by omega)).1,(g 2 (by omega)).1,(g 3 (by omega)).1,(g 4 (by omega)).1,(g 5 (by omega)).1⟩,?_,?_,?_,?_,?_,?_⟩
  .exact(g 0 (by omega)).2
  .rw[<-e];exact(g 1 (by omega)).2
  .rw[<-e];exact(g 2 (by omega)).2
  .rw[<-e];exact(g 3 (by omega)).2
  .rw[<-e];exact(g 4 (by omega)).2
  .rw[<-e];exact(g 5 (by omega)).2⟩
theorem aa'{A:Option Addr}{n cap:Nat}{R:Go.Sx.Rows}(hk:R.ks=[.it .u8])(h:uR w A n cap 1 R):oP (· <w.heap.size) w A n:=⟨λk hkn=>by
 rcases h.cells with h0|⟨b,off,rfl,hb,hc⟩
 .omega
 .have q:=acS h hkn (j:=0) (by omega) (by rw[hk];rfl)
  refine⟨b,off,_,rfl,hb,q.1,?_⟩;have:=hc k 0 hkn (by omega);rw[q.2,show k*1+0=k by omega]at this;exact this⟩
