import Derived.Lib.SmallJoins
import Derived.Test.YteaflphddciglaaGreatDoorCards
import Derived.Test.YteaflphddciglaaGreatDoorTie
import Derived.Deep.DeepHandedRow
import Derived.Test.YteaflphddciglaaGreatDoorCdB
set_option linter.all false
def rL:=@Go.DataW.trod_int
namespace Go.Proofs.YteaflphddciglaaGreatDoor
section
open Go.ChangeShapes Go.WideShapes Go.ChangeAt Go.RowKit Go.Joins Go.bn Go.Deep
def own:ownKnob Tryz.prog.godebug=none:=by kernel_rfl
def laidOut:laidOutB Tryz.prog=true:=by kernel_rfl
def sQ{n:Int}(h:(Lit.int .u8 n).wf=true):0<=n/\n<=255:=by
 simp[Lit.wf,IntKind.min,IntKind.max,IntKind.signed,IntKind.bits]at h;omega
section
variable{H:Type} {b:TypeId×Value->H} {P:Program} {w:World} {c:Nat} {d:Nat->Bool} {k:Bool}
def Et{t e:TypeId}{p:Array Field}{z:Nat}{E:List Value}{x:DataW H×List MemPlace}(W:P.underlying t=some (.slice e))(X:P.underlying e=some (.struct p))
  (A:oneCellFields P p=true) (S:P.cellsOf e=p.size) (h:DataW.trod b P w c d k z t E=some x):
  (E=[.slice none 0 0]/\x=(.nil,[]))\/
  ∃(a:Addr) (l o m:Nat) (D:Nat->DataW H) (C:Nat->List MemPlace),E=[.slice (some a) l o]/\c<=a.block/\l<=o/\o<=maxLen/\m=(if d a.block then o else l)/\
   x=(.slice ((List.range l).map D) ((List.range (m-l)).map λj=>D (l+j)),MemPlace.row a (m*p.size)++(List.range m).flatMap C)/\
   ∀i,i<m->∃(q:List (DataW H×List MemPlace)) (n:Nat),D i=.agg (q.map (·.1))/\C i=q.flatMap (·.2)/\q.length=p.size/\
    ∀(j:Nat) (f:Field),p[j]?=some f->∃(v:Value) (y:DataW H×List MemPlace),w.cell? (a.add (i*p.size+j))=some v/\q[j]?=some y/\DataW.trod b P w c d k n f.type [v]=some y:=by
 rcases open_slice W h with Y|⟨a,l,o,m,n,D,C,F,Z,hl,hm,G,T,hi⟩
 .exact .inl Y
 .refine .inr ⟨a,l,o,m,D,C,F,Z,hl,hm,G,by rw[S]at T;exact T,fun i I=> ?_⟩
  obtain⟨s,U,J⟩:=hi i I;rw[S]at U;obtain⟨q,n',ac,K,V,L,hf⟩:=DataW.trod_struct X J;obtain⟨_,am,N⟩:=World.cells?_some U;simp only[kB]at K;refine⟨q,n',K.1,K.2,L,λj f O=> ?_⟩;obtain⟨ho,hk⟩:=hone_of A j f O;have Q:j<p.size:=(bk.1 O).1;have r:=N j Q;have hv:s[j]?=some (s[j]'(by omega)):=tD (by omega);have R:=hf j f O;rw[ho,hk]at R;have u:(s.drop j).take 1=[s[j]'(by omega)]:=by
   rw[lj (by omega)];rfl
  rw[u]at R;have B:q[j]?=some (q[j]'(by omega)):=tD (by omega);refine⟨_,_,?_,B,R.trans B⟩;rw[<-Go.Deep.add_add,r,hv]
end
section
variable{H:Type} {a:TypeId×Value->H} {P:Program} {w:World} {b:Nat} {c:Nat->Bool} {d:Bool}
end
def NI{H:Type}(f:Int×Int):DataW H:=.agg [.lit (.int .i64 f.1),.lit (.int .i64 f.2)]
theorem LM:∀z:List (Int×Int),(z.flatMap fun f=>[Value.int .i64 f.1,Value.int .i64 f.2]).length=z.length*2
 |[]=>rfl
 |a::l=>by rw[oY,cE,LM l,ct];simp;omega
def La{H:Type}{q:TypeId×Value->H}{P:Program}{w:World}{c:Nat}{O:Nat->Bool}{d:Bool}{u:Nat}{t e i:TypeId}{f0 l:Field}{n:Nat}{s:List Value}{zs:List (Int×Int)}{p:List MemPlace}
  (Q:P.underlying t=some (.array n e)) (R:P.underlying e=some (.struct #[f0,l])) (o:oneCellFields P #[f0,l]=true) (v:P.cellsOf e=2) (y:P.cellsOf t=n*2) (A:f0.type=i) (B:l.type=i) (I:P.underlying i=some (.int .i64))
  (h:DataW.trod q P w c O d u t s=some (.agg (zs.map NI),p)):s=zs.flatMap λf=>[Value.int .i64 f.1,Value.int .i64 f.2]:=by
 cases u with
 |zero=>simp[DataW.trod]at h
 |succ u=>
  simp only[DataW.trod,Q,v,y]at h;split at h
  .rename_i hl
   obtain⟨C,J,S⟩:=ia.1 h;have x:C.map (·.1)=zs.map λz=>(NI z:DataW H):=by
    have:=tI Prod.fst S;simpa using this
   have T:C.length=n:=by simpa using Lib.mapM_length J
   have D:zs.length=n:=by
    have:=tI List.length x;simp at this;omega
   have K:(zs.flatMap λf=>[Value.int .i64 f.1,Value.int .i64 f.2]).length=n*2:=by
    rw[<-D];exact LM zs
   apply o4;intro j;by_cases hj:j<n*2
   .obtain⟨b,U,V⟩:=Lib.mapM_at J (j/2) (j/2) (tU (by omega))
    have E:zs[j/2]?=some (zs[j/2]'(by omega)):=tD (by omega);have a:(C.map (·.1))[j/2]?=(zs.map λz=>(NI z:DataW H))[j/2]?:=by rw[x]
    rw[cG,cG,U,E]at a;simp only[eR,cq]at a;obtain⟨y0,y1,m,W,_,F,G⟩:=trod_struct2 R V;obtain⟨X,Y⟩:=hone_of o 0 f0 rfl;obtain⟨Z,k1⟩:=hone_of o 1 l rfl;rw[W]at a;simp only[NI,DataW.agg.injEq,iS,oA]at a;rw[A]at F;rw[B]at G;rw[<-A,Y,X,A]at F;rw[<-B,k1,Z,B]at G;obtain⟨z0,c0,e0,_⟩:=rL I F;obtain⟨z1,c1,e1,_⟩:=rL I G;subst e0 e1;simp only[DataW.lit.injEq,Lit.int.injEq,true_and]at a;obtain⟨rfl,rfl⟩:=a;have r:=flat_get (λf:Int×Int=>[Value.int .i64 f.1,Value.int .i64 f.2]) 2 (λ_=>rfl) zs (j/2) (j%2) (zs[j/2]'(by omega));have L:s[j/2*2]?=some (.int .i64 (zs[j/2]'(by omega)).1):=by
     have:=tI (·[0]?) c0;simpa[gC,fj]using this
    have N:s[j/2*2+1]?=some (.int .i64 (zs[j/2]'(by omega)).2):=by
     have:=tI (·[0]?) c1;simpa[gC,fj]using this
    rcases Nat.mod_two_eq_zero_or_one j with h|h
    .have k:=r (.int .i64 (zs[j/2]'(by omega)).1) E (by rw[h];rfl)
     rw[show j/2*2+j%2=j by omega]at k;rw[show j/2*2=j by omega]at L;rw[k,L]
    .have k:=r (.int .i64 (zs[j/2]'(by omega)).2) E (by rw[h];rfl)
     rw[show j/2*2+j%2=j by omega]at k;rw[show j/2*2+1=j by omega]at N;rw[k,N]
   .rw[ez (by omega),ez (by omega)]
  .cases h
def table{W:World}(h:laidMetH Tryz.prog [("coachhouse/slot.fields",Rows.laid_coachhouse_slot_fields)] W):cB W:=by
 have e:laidMet Tryz.prog [("coachhouse/slot.fields",Rows.laid_coachhouse_slot_fields)] W:=h;obtain⟨m,⟨n,o,s,f,p,q,a,b,v,k,_,_⟩,_⟩:=e;obtain rfl:=b9 ((show Tryz.prog.globalNamed "coachhouse/slot.fields" =some 0 by kernel_rfl).symm.trans a);obtain rfl:=b9 ((show(Tryz.prog.globals[0]?).map (·.type)=some 152 by kernel_rfl).symm.trans b);have d:=La (zs:=fC) (i:=3) Tryz.underlying152 Tryz.underlying151 (by kernel_rfl) (by kernel_rfl) (by kernel_rfl) rfl rfl Tryz.underlying3 k;unfold World.var? at v;rw[a]at v;simp only[jt]at v;split at v
 .rename_i c t fr l
  refine⟨t,fr,l.trans ?_⟩;rw[b9 v,show s=je from e8.1 (d.trans (by rfl))]
 .cases v
noncomputable def Mg(s:Os):World:=
 {World.holding Tryz.prog s ⟨#[], #[],[]⟩with heap:=(World.holding Tryz.prog s ⟨#[], #[],[]⟩).heap.modify 0 fun
   | .cells _ t f=>.cells je t f
   |o=>o}
end
section
open Go.ChangeShapes Go.WideShapes Go.ChangeAt Go.RowKit Go.Joins Go.bn Go.Deep Go.Sx
def CS{P:Program}{x:String×DataW Unit}{r:List (String×DataW Unit)}{w:World}(h:laidMet P (x::r) w):laidMet P r w:=by
 obtain⟨s,v,c,a⟩:=h;obtain⟨n,d⟩:=x;obtain⟨g,t,i,f,p,q,_,_,_,_,e,rfl⟩:=v;exact⟨q,e,List.Nodup.sublist (List.sublist_append_right _ _) c,λb o m=>a b o (pP _ m)⟩
def aiP:List Int:=[0,1,56,2,57,49,28,3,61,58,42,50,38,29,17,4,62,47,59,36,45,43,51,22,53,39,33,30,24,18,12,5,63,55,48,27,60,41,37,16,46,35,44,21,52,32,23,11,54,26,40,15,34,20,31,10,25,14,19,9,13,8,7,6]
def aeh{r:List (String×DataW Unit)}{W:World}(h:laidMet Tryz.prog (("math/bits.deBruijn64tab",Rows.laid_math_bits_deBruijn64tab)::r) W):jm W:=by
 have a:Lib.TabIs Tryz.prog W "math/bits.deBruijn64tab" .u8 aiP:=Lib.tabIs_of_head (g:=2) (t:=259) (e:=5) (n:=64) (by kernel_rfl) (by kernel_rfl) Tryz.underlying259 Tryz.underlying5 (by kernel_rfl) (by kernel_rfl) h;unfold Lib.TabIs World.var? at a;rw[show Tryz.prog.globalNamed "math/bits.deBruijn64tab" =some 2 by kernel_rfl]at a;simp only[jt]at a;split at a
 .rename_i c t fr b
  refine⟨t,fr,b.trans ?_⟩;rw[b9 a];rfl
 .cases a
def tables{W:World}(h:laidMetH Tryz.prog [("math/bits.deBruijn32tab",Rows.laid_math_bits_deBruijn32tab),("math/bits.deBruijn64tab",Rows.laid_math_bits_deBruijn64tab),("coachhouse/slot.fields",Rows.laid_coachhouse_slot_fields)] W):TT W:=by
 have a:laidMet Tryz.prog [("math/bits.deBruijn32tab",Rows.laid_math_bits_deBruijn32tab),("math/bits.deBruijn64tab",Rows.laid_math_bits_deBruijn64tab),("coachhouse/slot.fields",Rows.laid_coachhouse_slot_fields)] W:=h;exact⟨table (show laidMetH Tryz.prog [("coachhouse/slot.fields",Rows.laid_coachhouse_slot_fields)] W from CS (CS a)),aeh (CS a)⟩
def aiQ:Array Value:= #[.int .u8 0,.int .u8 1,.int .u8 28,.int .u8 2,.int .u8 29,.int .u8 14,.int .u8 24,.int .u8 3,.int .u8 30,.int .u8 22,.int .u8 20,.int .u8 15,.int .u8 25,.int .u8 17,.int .u8 4,.int .u8 8,.int .u8 31,.int .u8 27,.int .u8 13,.int .u8 23,.int .u8 21,.int .u8 19,.int .u8 16,.int .u8 7,.int .u8 26,.int .u8 12,.int .u8 18,.int .u8 6,.int .u8 11,.int .u8 5,.int .u8 10,.int .u8 9]
noncomputable def Ay(s:Os):World:=
 {Mg s with heap:=((Mg s).heap.modify 1 fun
   | .cells _ t f=>.cells aiQ t f
   |o=>o).modify 2 λ
   | .cells _ t f=>.cells UF t f
   |o=>o}
end
namespace bq
section
open Go.ChangeShapes Go.WideShapes Go.ChangeAt Go.RowKit Go.Joins Go.bn Go.Deep Go.Sx
structure uR(w:World)(A:Option Addr)(n cap wd:Nat)(R:Go.Sx.Rows):Prop where
 le:n<=cap
 cells:n=0\/∃b off,A=some ⟨b,off,none⟩/\b<w.heap.size/\∀i j,i<n->j<wd->w.cell? ⟨b,off+(i*wd+j),none⟩=some (R.at i j).val
 wf:∀i j k,i<n->j<wd->R.ks.getD j .bo=.it k->(Lit.int k (R.gi i j)).wf=true
def YV(P:Program)(t:TypeId):Go.Sx.Kd->Bool
 | .it k=>match P.underlying t with
  |some (.int a)=>decide (k=a)
  |_=>false
 | .bo=>match P.underlying t with
  |some .bool=>true
  |_=>false
def aha(P:Program)(s:Array Field)(k:List Go.Sx.Kd):Bool:=Nat.beq k.length s.size&&(List.range s.size).all λj=>match s[j]? with
 |some f=>YV P f.type (k.getD j .bo)
 |none=>false
section
variable{H:Type} {d:TypeId×Value->H} {P:Program} {w:World} {p:Nat} {q:Bool} {r:Nat->Bool}
def Hf(w:World)(a:Addr)(b:Nat)(k:List Go.Sx.Kd):Go.Sx.Rows:=⟨k,λi j=>uC ((w.cell? (a.add (i*b+j))).getD undef),λi j=>vR ((w.cell? (a.add (i*b+j))).getD undef)⟩
def SL{t:TypeId}{kd:Go.Sx.Kd}(h:YV P t kd=true){f:Nat}{v:Value}{x:DataW H×List MemPlace}(c:DataW.trod d P w p r q f t [v]=some x):
  (match kd with| .it k=>Gw.int k (uC v)| .bo=>.bool (vR v)).val=v/\∀k,kd=.it k->(Lit.int k (uC v)).wf=true:=by
 cases kd with
 |it k=>
  unfold YV at h;simp only at h;split at h
  .rename_i i u
   have:=ij h;subst this;obtain⟨n,e,_,l⟩:=rL u c;simp only[iS,oA]at e;subst e;exact⟨rfl,λi a=>by cases a;exact l⟩
  .cases h
 |bo=>
  unfold YV at h;simp only at h;split at h
  .rename_i u
   obtain⟨b,e,_⟩:=DataW.trod_bool u c;simp only[iS,oA]at e;subst e;exact⟨rfl,λi a=>by cases a⟩
  .cases h
def MI{a:Addr}{n c e:Nat}{x:List Go.Sx.Kd}(y:n<=c)(z:0<e)(h:∀i j,i<n->j<e->∃v,w.cell? (a.add (i*e+j))=some v/\(match x.getD j .bo with| .it k=>Gw.int k (uC v)| .bo=>.bool (vR v)).val=v/\∀k,x.getD j .bo=.it k->(Lit.int k (uC v)).wf=true):
  uR w (some a) n c e (Hf w a e x):=by
 refine⟨y,?_,λi j k A B E=> ?_⟩
 .rcases lf n with C|C
  .exact .inl C
  right;obtain⟨J,f,_⟩:=h 0 0 C z;obtain⟨b,l,m⟩:=a;have s:m=none:=by simpa[Addr.add]using World.cell?_spot f
  subst s;have F:b<w.heap.size:=by simpa[Addr.add]using Ei (b:=b) (o:=l) (by simpa[Addr.add]using f)
  refine⟨b,l,rfl,F,λi j A B=> ?_⟩;obtain⟨v,u,G,_⟩:=h i j A B;have D:=u;rw[gw]at u;rw[u];unfold Hf Go.Sx.Rows.at;simp only[D,lO];exact tI some G.symm
 .obtain⟨v,u,_,I⟩:=h i j A B
  unfold Hf;simp only[u,lO];exact I k E
def Yp{t e:TypeId}{s:Array Field}{C:List Go.Sx.Kd}{u:Nat}{v:Value}{x:DataW H×List MemPlace}(K:P.underlying t=some (.slice e))(L:P.underlying e=some (.struct s))(y:oneCellFields P s=true)(N:P.cellsOf e=s.size)(E:aha P s C=true)(O:0<s.size)
  (h:DataW.trod d P w p (λ_=>true) q u t [v]=some x):∃A n z R,v=.slice A n z/\R.ks=C/\uR w A n z s.size R:=by
 rcases Et K L y N h with⟨b,_⟩|⟨a,l,c,m,D,V,b,_,Q,W,B,_,o⟩
 .simp only[iS,oA]at b
  subst b;exact⟨none,0,0,⟨C,λ_ _=>0,λ_ _=>false⟩,rfl,rfl,aq _,.inl rfl,λi j k S=>by omega⟩
 .simp only[iS,oA]at b
  subst b;simp only[if_true]at B;subst B;refine⟨some a,l,m,Hf w a s.size C,rfl,rfl,MI Q O λi j S I=> ?_⟩;obtain⟨X,n,_,_,_,F⟩:=o i (by omega);obtain⟨f,J⟩:∃f,s[j]?=some f:=⟨s[j],cj I⟩;obtain⟨T,Y,G,_,U⟩:=F j f J;refine⟨T,G,SL ?_ U⟩;unfold aha at E;rw[bj,bp]at E;have:=E.2 j (eA.2 I);rw[J]at this;exact this
def Yr{t e:TypeId}{o:Go.Sx.Kd}{u:Nat}{v:Value}{x:DataW H×List MemPlace}(z:P.underlying t=some (.slice e))(C:P.cellsOf e=1)(B:YV P e o=true)
  (h:DataW.trod d P w p (λ_=>true) q u t [v]=some x):∃A n s R,v=.slice A n s/\R.ks=[o]/\uR w A n s 1 R:=by
 rcases open_slice1 z C h with⟨b,_⟩|⟨a,l,c,m,n,V,D,J,b,_,E,K,y,_,f⟩
 .simp only[iS,oA]at b
  subst b;exact⟨none,0,0,⟨[o],λ_ _=>0,λ_ _=>false⟩,rfl,rfl,aq _,.inl rfl,λi j k F=>by omega⟩
 .simp only[iS,oA]at b
  subst b;simp only[if_true]at y;subst y;refine⟨some a,l,m,Hf w a 1 [o],rfl,rfl,MI E (by decide) λi j F L=> ?_⟩;obtain rfl:j=0:=by omega
  obtain⟨G,I⟩:=f i (by omega);refine⟨V i,by rw[lr,qq];exact G,?_⟩;exact SL (kd:=o) B I
end
section
variable{H:Type} {enc:TypeId×Value->H} {w:World} {base:Nat} {held:Bool}
def Qx{c:List Value}{i:Nat}{v:Value}(h:c[i]?=some v):(c.drop i).take 1=[v]:=by
 obtain⟨a,rfl⟩:=aE.1 h;rw[lj a];rfl
def ajf{α:Type}{l:List α}(h:l.length=5):∃v a b c d,l=[v,a,b,c,d]:=by
 match l,h with
 |[v,a,b,c,d],_=>exact⟨v,a,b,c,d,rfl⟩
def ab6{P:Program}{t u:TypeId}{κ:IntKind}{f0 k n q s:Field}(K:P.underlying t=some (.struct #[f0,k,n,q,s]))(x:oneCellFields P #[f0,k,n,q,s]=true)(Q:P.cellsOf t=5)(R:P.underlying u=some (.int κ))(S:f0.type=u)(T:k.type=u)(U:n.type=u)(V:q.type=u)(W:s.type=u)
  {b0:Nat} {r:Go.Reach} {v:Value} {d:DataW H} {p:List MemPlace} (z:Value.okWide P w r b0 t v) (h:DataW.Trod enc P w base (λ_=>true) held t v d p):
  ∃a b c d e,v=.agg #[.int κ a,.int κ b,.int κ c,.int κ d,.int κ e]/\(Lit.int κ a).wf=true/\(Lit.int κ b).wf=true/\(Lit.int κ c).wf=true/\(Lit.int κ d).wf=true/\(Lit.int κ e).wf=true:=by
 obtain⟨X,rfl,y⟩:=okWide_struct K z;rw[Q]at y;obtain⟨L,A⟩:=h;obtain⟨l⟩:=X;obtain⟨C,D,E,F,G,rfl⟩:=ajf y;obtain⟨N,m,_,_,_,I,Y⟩:=DataW.trod_struct K A;have o:∀(i:Nat) (f:Field) (v:Value),(#[f0,k,n,q,s]:Array Field)[i]?=some f->([C,D,E,F,G]:List Value)[i]?=some v->f.type=u->∃a,v=.int κ a/\(Lit.int κ a).wf=true:=by
  intro i f v A z Z;have h:=Y i f A;obtain⟨ho,hk⟩:=hone_of x i f A;have hi:i<5:=by have:=(aE.1 z).1;simpa using this
  rw[ho,hk]at h;have hz:N[i]?=some (N[i]'(by rw[I];exact hi)):=tD _;rw[hz]at h;have O:=h;rw[show((Value.agg [C,D,E,F,G].toArray).cells.toList.drop i).take 1=[v]from Qx z,Z]at O;obtain⟨a,B,_,J⟩:=rL R O;simp only[iS,oA]at B;exact⟨a,B,J⟩
 obtain⟨a,B,J⟩:=o 0 f0 C rfl rfl S;obtain⟨b,e1,w1⟩:=o 1 k D rfl rfl T;obtain⟨c,e2,w2⟩:=o 2 n E rfl rfl U;obtain⟨d,e3,w3⟩:=o 3 q F rfl rfl V;obtain⟨e,e4,w4⟩:=o 4 s G rfl rfl W;subst B e1 e2 e3 e4;exact⟨a,b,c,d,e,rfl,J,w1,w2,w3,w4⟩
set_option maxRecDepth 4000 in
def Pe{f:Nat}{r:Go.Reach}{v:Value}{d:DataW H}{p:List MemPlace}(i:Value.okWide Tryz.prog w r f 23 v)(h:DataW.Trod enc Tryz.prog w base (fun _=>true) held 23 v d p):
  ∃a b c d e,v=.agg #[.int .u8 a,.int .u8 b,.int .u8 c,.int .u8 d,.int .u8 e]/\(0<=a/\a<=255)/\(0<=b/\b<=255)/\(0<=c/\c<=255)/\(0<=d/\d<=255)/\0<=e/\e<=255:=by
 obtain⟨a,b,c,k,e,l,m,n,o,q,s⟩:=ab6 (P:=Tryz.prog) (t:=23) (w:=w) (r:=r) (b0:=f) (v:=v) (d:=d) (p:=p) Tryz.underlying23 (by kernel_rfl) (by kernel_rfl) Tryz.underlying5 rfl rfl rfl rfl rfl i h;exact⟨a,b,c,k,e,l,sQ m,sQ n,sQ o,sQ q,sQ s⟩
abbrev ada:List Go.Sx.Kd:=[.it .u8,.it .u8,.it .u8,.it .u8,.it .u8,.it .u8]
def Vm{f:Nat}{v:Value}{x:DataW H×List MemPlace}(h:DataW.trod enc Tryz.prog w base (λ_=>true) held f 24 [v]=some x):∃A n c R,v=.slice A n c/\R.ks=ada/\uR w A n c 6 R:=
 Yp Tryz.underlying24 Tryz.underlying103 (by kernel_rfl) (by kernel_rfl) (by kernel_rfl) (by decide) h
def Vn{f:Nat}{v:Value}{x:DataW H×List MemPlace}(h:DataW.trod enc Tryz.prog w base (λ_=>true) held f 25 [v]=some x):∃A n c R,v=.slice A n c/\R.ks=[.it .u8]/\uR w A n c 1 R:=
 Yr Tryz.underlying25 (by kernel_rfl) (by kernel_rfl) h
def acS{A:Option Addr}{n c d:Nat}{R:Go.Sx.Rows}(h:uR w A n c d R){i j:Nat}(a:i<n)(b:j<d)(k:R.ks.getD j .bo=.it .u8):U8 (R.gi i j)/\(R.at i j).val=.int .u8 (R.gi i j):=by
 refine⟨?_,?_⟩
 .obtain⟨e,f⟩:=sQ (h.wf i j .u8 a b k)
  exact⟨e,f⟩
 .unfold Rows.at
  rw[k];rfl
def aah{A:Option Addr}{n c:Nat}{R:Go.Sx.Rows}(f:R.ks=ada)(h:uR w A n c 6 R):Dq w A n:=⟨λk a=>by
 rcases h.cells with m|⟨b,o,rfl,i,l⟩
 .omega
 .have g:∀j,j<6->U8 (R.gi k j)/\w.cell? ⟨b,o+(k*6+j),none⟩=some (.int .u8 (R.gi k j)):=λj d=>by
   have q:=acS h a d (by rw[f];match j,d with|0,_|1,_|2,_|3,_|4,_|5,_=>rfl);exact⟨q.1,by rw[l k j a d,q.2]⟩
  have e:∀j,o+(k*6+j)=o+k*6+j:=λj=>(Nat.add_assoc _ _ _).symm;refine⟨b,o,_,_,_,_,_,_,rfl,i,⟨(g 0 (by omega)).1,(g 1 (by omega)).1,(g 2 (by omega)).1,(g 3 (by omega)).1,(g 4 (by omega)).1,(g 5 (by omega)).1⟩,?_,?_,?_,?_,?_,?_⟩
  .exact(g 0 (by omega)).2
  .rw[<-e];exact(g 1 (by omega)).2
  .rw[<-e];exact(g 2 (by omega)).2
  .rw[<-e];exact(g 3 (by omega)).2
  .rw[<-e];exact(g 4 (by omega)).2
  .rw[<-e];exact(g 5 (by omega)).2⟩
def aa'{A:Option Addr}{n c:Nat}{R:Go.Sx.Rows}(d:R.ks=[.it .u8])(h:uR w A n c 1 R):oP (· <w.heap.size) w A n:=⟨λk a=>by
 rcases h.cells with i|⟨b,o,rfl,e,f⟩
 .omega
 .have q:=acS h a (j:=0) (by omega) (by rw[d];rfl)
  refine⟨b,o,_,rfl,e,q.1,?_⟩;have:=f k 0 a (by omega);rw[q.2,show k*1+0=k by omega]at this;exact this⟩
