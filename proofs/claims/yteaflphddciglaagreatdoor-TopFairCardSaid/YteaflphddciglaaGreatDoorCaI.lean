import Derived.Test.YteaflphddciglaaGreatDoorCaH
set_option linter.all false
def gh:=@Bool.and_true
def mA:=@Nat.ble_eq_true_of_le
namespace Go.Proofs.YteaflphddciglaaGreatDoor
section
open Go.RowKit Go.bn Go.Sx
def LX{s t}{k own more}(h:az s k own more=some t):Facts s/\0<=own/\own<=15/\∃r,uT s k own more=some r/\t={r with cz:=(s.cz+1)%32768}:=by
 unfold az at h;split at h
 .rename_i c
  obtain⟨r,a,rfl⟩:=ia.1 h;exact⟨kN.1 c.1,c.2.1,c.2.2,r,a,rfl⟩
 .cases h
theorem aeW{s}{k own more}(F:Facts s)(h:0<=own)(a:own<=15):az s k own more=(uT s k own more).map λt=>{t with cz:=(s.cz+1)%32768}:=by
 unfold az;rw[tz ⟨kN.2 F,h,a⟩]
def YL(c):0<=bA c/\bA c<=8:=by
 unfold bA;repeat' split
 all_goals omega
def PD:(List.range 256).all (λn:Nat=>decide (8<=bA n)||(decide ((n:Int)+2^(bA n).toNat<=255)&&decide (0<=(n:Int)+2^(bA n).toNat)))=true:=by kernel_rfl
def abn{c}(a:0<=c)(b:c<=255)(h:bA c<8):c+2^(bA c).toNat<=255/\0<=c+2^(bA c).toNat:=by
 have q:=bp.1 PD c.toNat (eA.2 (by omega));rw[show((c.toNat:Nat):Int)=c by omega]at q;simp only[eV,bj,tG]at q;rcases q with q|q
 .omega
 .exact q
def XJ{c m:Int}(a:0<=c)(b:c<=255)(d:0<=m)(e:m<=7)(h:c/2^m.toNat%2=1):c-2^m.toNat<=255/\0<=c-2^m.toNat:=by
 rcases(show m=0\/m=1\/m=2\/m=3\/m=4\/m=5\/m=6\/m=7 by omega)with rfl|rfl|rfl|rfl|rfl|rfl|rfl|rfl<;>simp at h ⊢ <;>omega
def X3{s r}{k own more}(h:uT s k own more=some r):k=0/\row0 s own=some r\/k=1/\yB s own=some r\/k=2/\Ce s own=some r\/k=3/\uU s own=some r\/k=4/\yA s own=some r\/k=5/\yz s own=some r\/k=6/\yx s own=some r\/k=7/\yu s own=some r\/k=8/\oK s=some r\/k=9/\Cc s own=some r\/k=10/\xu s=some r\/k=11/\tq s more=some r\/k=12/\xq s=some r\/k=13/\xm s=some r\/k=14/\aZ s own more=some r\/k=15/\vH s own more=some r\/k=16/\sZ s own=some r\/k=17/\xk s more=some r:=by
 unfold uT at h;by_cases a:k=0
 .rw[tz a]at h;exact .inl ⟨a,h⟩
 by_cases b:k=1
 .rw[ck a,tz b]at h;exact .inr<|.inl ⟨b,h⟩
 by_cases e:k=2
 .rw[ck a,ck b,tz e]at h;exact .inr<|.inr<|.inl ⟨e,h⟩
 by_cases f:k=3
 .rw[ck a,ck b,ck e,tz f]at h;exact .inr<|.inr<|.inr<|.inl ⟨f,h⟩
 by_cases l:k=4
 .rw[ck a,ck b,ck e,ck f,tz l]at h;exact .inr<|.inr<|.inr<|.inr<|.inl ⟨l,h⟩
 by_cases m:k=5
 .rw[ck a,ck b,ck e,ck f,ck l,tz m]at h;exact .inr<|.inr<|.inr<|.inr<|.inr<|.inl ⟨m,h⟩
 by_cases o:k=6
 .rw[ck a,ck b,ck e,ck f,ck l,ck m,tz o]at h;exact .inr<|.inr<|.inr<|.inr<|.inr<|.inr<|.inl ⟨o,h⟩
 by_cases p:k=7
 .rw[ck a,ck b,ck e,ck f,ck l,ck m,ck o,tz p]at h;exact .inr<|.inr<|.inr<|.inr<|.inr<|.inr<|.inr<|.inl ⟨p,h⟩
 by_cases u:k=8
 .rw[ck a,ck b,ck e,ck f,ck l,ck m,ck o,ck p,tz u]at h;exact .inr<|.inr<|.inr<|.inr<|.inr<|.inr<|.inr<|.inr<|.inl ⟨u,h⟩
 by_cases v:k=9
 .rw[ck a,ck b,ck e,ck f,ck l,ck m,ck o,ck p,ck u,tz v]at h;exact .inr<|.inr<|.inr<|.inr<|.inr<|.inr<|.inr<|.inr<|.inr<|.inl ⟨v,h⟩
 by_cases c:k=10
 .rw[ck a,ck b,ck e,ck f,ck l,ck m,ck o,ck p,ck u,ck v,tz c]at h;exact .inr<|.inr<|.inr<|.inr<|.inr<|.inr<|.inr<|.inr<|.inr<|.inr<|.inl ⟨c,h⟩
 by_cases d:k=11
 .rw[ck a,ck b,ck e,ck f,ck l,ck m,ck o,ck p,ck u,ck v,ck c,tz d]at h;exact .inr<|.inr<|.inr<|.inr<|.inr<|.inr<|.inr<|.inr<|.inr<|.inr<|.inr<|.inl ⟨d,h⟩
 by_cases i:k=12
 .rw[ck a,ck b,ck e,ck f,ck l,ck m,ck o,ck p,ck u,ck v,ck c,ck d,tz i]at h;exact .inr<|.inr<|.inr<|.inr<|.inr<|.inr<|.inr<|.inr<|.inr<|.inr<|.inr<|.inr<|.inl ⟨i,h⟩
 by_cases n:k=13
 .rw[ck a,ck b,ck e,ck f,ck l,ck m,ck o,ck p,ck u,ck v,ck c,ck d,ck i,tz n]at h;exact .inr<|.inr<|.inr<|.inr<|.inr<|.inr<|.inr<|.inr<|.inr<|.inr<|.inr<|.inr<|.inr<|.inl ⟨n,h⟩
 by_cases q:k=14
 .rw[ck a,ck b,ck e,ck f,ck l,ck m,ck o,ck p,ck u,ck v,ck c,ck d,ck i,ck n,tz q]at h;exact .inr<|.inr<|.inr<|.inr<|.inr<|.inr<|.inr<|.inr<|.inr<|.inr<|.inr<|.inr<|.inr<|.inr<|.inl ⟨q,h⟩
 by_cases w:k=15
 .rw[ck a,ck b,ck e,ck f,ck l,ck m,ck o,ck p,ck u,ck v,ck c,ck d,ck i,ck n,ck q,tz w]at h;exact .inr<|.inr<|.inr<|.inr<|.inr<|.inr<|.inr<|.inr<|.inr<|.inr<|.inr<|.inr<|.inr<|.inr<|.inr<|.inl ⟨w,h⟩
 by_cases x:k=16
 .rw[ck a,ck b,ck e,ck f,ck l,ck m,ck o,ck p,ck u,ck v,ck c,ck d,ck i,ck n,ck q,ck w,tz x]at h;exact .inr<|.inr<|.inr<|.inr<|.inr<|.inr<|.inr<|.inr<|.inr<|.inr<|.inr<|.inr<|.inr<|.inr<|.inr<|.inr<|.inl ⟨x,h⟩
 by_cases y:k=17
 .rw[ck a,ck b,ck e,ck f,ck l,ck m,ck o,ck p,ck u,ck v,ck c,ck d,ck i,ck n,ck q,ck w,ck x,tz y]at h;exact .inr<|.inr<|.inr<|.inr<|.inr<|.inr<|.inr<|.inr<|.inr<|.inr<|.inr<|.inr<|.inr<|.inr<|.inr<|.inr<|.inr<|⟨y,h⟩
 rw[ck a,ck b,ck e,ck f,ck l,ck m,ck o,ck p,ck u,ck v,ck c,ck d,ck i,ck n,ck q,ck w,ck x,ck y]at h;cases h
def XZ{s r}{k own more}(F:Facts s)(G:0<=own)(H:own<=15)(h:uT s k own more=some r)(v)(m:0<=v)(n:v<=32767):Facts {r with cz:=v}:=by
 have o:=X3 h;clear h;obtain⟨a,b,c,d,e,f,g,h,i⟩:=s;obtain⟨u,w,l,x,y,z,A,B,C,R,D,Q,E⟩:=F;simp only at u w l x y z A B C R D Q E;have I:=YL c;rcases o with⟨_,h⟩|⟨_,h⟩|⟨_,h⟩|⟨_,h⟩|⟨_,h⟩|⟨_,h⟩|⟨_,h⟩|⟨_,h⟩|⟨_,h⟩|⟨_,h⟩|⟨_,h⟩|⟨_,h⟩|⟨_,h⟩|⟨_,h⟩|⟨_,h⟩|⟨_,h⟩|⟨_,h⟩|⟨_,h⟩
 .simp only[row0,dU,fM]at h
  split at h
  .cases h
   constructor<;>simp only<;>first|omega|(simp_all;done)|(simp_all;omega)|(split<;>omega)
  .cases h
 .simp only[yB,dU,fM]at h
  split at h
  .cases h
   constructor<;>simp only<;>first|omega|(simp_all;done)|(simp_all;omega)|(split<;>omega)
  .cases h
 .simp only[Ce,dU,fM]at h
  split at h
  .cases h
   constructor<;>simp only<;>first|omega|(simp_all;done)|(simp_all;omega)|(split<;>omega)
  .cases h
 .simp only[uU,dU,fM]at h
  split at h
  .cases h
   constructor<;>simp only<;>first|omega|(simp_all;done)|(simp_all;omega)|(split<;>omega)
  .cases h
 .simp only[yA,dU,fM]at h
  split at h
  .cases h
   constructor<;>simp only<;>first|omega|(simp_all;done)|(simp_all;omega)|(split<;>omega)
  .cases h
 .simp only[yz,dU,fM]at h
  split at h
  .cases h
   constructor<;>simp only<;>first|omega|(simp_all;done)|(simp_all;omega)|(split<;>omega)
  .cases h
 .simp only[yx,dU,fM]at h
  split at h
  .cases h
   constructor<;>simp only<;>first|omega|(simp_all;done)|(simp_all;omega)|(split<;>omega)
  .cases h
 .simp only[yu,dU,fM]at h
  split at h
  .cases h
   constructor<;>simp only<;>first|omega|(simp_all;done)|(simp_all;omega)|(split<;>omega)
  .cases h
 .simp only[oK,dU,fM]at h
  split at h
  .cases h
   constructor<;>simp only<;>first|omega|(simp_all;done)|(simp_all;omega)|(split<;>omega)
  .cases h
 .simp only[Cc,dU,fM]at h
  split at h
  .cases h
   constructor<;>simp only<;>first|omega|(simp_all;done)|(simp_all;omega)|(split<;>omega)
  .cases h
 .simp only[xu,dU,fM]at h
  split at h
  .cases h
   constructor<;>simp only<;>first|omega|(simp_all;done)|(simp_all;omega)|(split<;>omega)
  .cases h
 .simp only[tq,dU,fM]at h
  split at h
  .cases h
   constructor<;>simp only<;>first|omega|(simp_all;done)|(simp_all;omega)|(split<;>omega)
  .cases h
 .simp only[xq,dU,fM]at h
  split at h
  .cases h
   constructor<;>simp only<;>first|omega|(simp_all;done)|(simp_all;omega)|(split<;>omega)
  .cases h
 .simp only[xm,dU,fM]at h
  split at h
  .cases h
   constructor<;>simp only<;>first|omega|(simp_all;done)|(simp_all;omega)|(split<;>omega)
  .cases h
 .simp only[aZ]at h
  split at h
  .rename_i q
   cases h;have p:(c+2^(bA c).toNat<=255/\0<=c+2^(bA c).toNat):=abn l.1 l.2 q.2.2.2.2;constructor<;>simp only<;>first|omega|(simp_all;done)|(simp_all;omega)
  .cases h
 .simp only[vH]at h
  split at h
  .rename_i q
   cases h;have p:(c-2^more.toNat<=255/\0<=c-2^more.toNat):=XJ l.1 l.2 q.2.2.1 q.2.2.2.1 q.2.2.2.2;constructor<;>simp only<;>first|omega|(simp_all;done)|(simp_all;omega)
  .cases h
 .simp only[sZ,dU,fM]at h
  split at h
  .cases h
   constructor<;>simp only<;>first|omega|(simp_all;done)|(simp_all;omega)|(split<;>omega)
  .split at h
   .cases h
    constructor<;>simp only<;>first|omega|(simp_all;done)|(simp_all;omega)
   .cases h
 .simp only[xk,dU,fM]at h
  split at h
  .cases h
   constructor<;>simp only<;>first|omega|(simp_all;done)|(simp_all;omega)|(split<;>omega)
  .cases h
abbrev aR(x:Int):Int:=IntKind.i64.wrap x
def FE(x:Int):aa:=⟨x.tmod 8,(aR (x.tdiv 8)).tmod 16,(aR (x.tdiv 128)).tmod 256,(aR (x.tdiv 32768)).tmod 2==1,(aR (x.tdiv 65536)).tmod 2==1,(aR (x.tdiv 131072)).tmod 64,(aR (x.tdiv 8388608)).tmod 4096,(aR (x.tdiv 34359738368)).tmod 4096,aR (x.tdiv 140737488355328)⟩
def Gm(x:Int):Option aa:=if x<0 then none else if di (FE x)then some (FE x)else none
def Gx(x:Int):Prop:= -9223372036854775808<=x/\x<=9223372036854775807
def fA{x:Int}(h:Gx x):aR x=x:=by
 unfold aR Gx at*;simp[IntKind.wrap,IntKind.signed,IntKind.bits];omega
def WW(x:Int):aR x=if 9223372036854775808<=x%18446744073709551616 then x%18446744073709551616-18446744073709551616 else x%18446744073709551616:=by
 unfold aR;simp[IntKind.wrap,IntKind.signed,IntKind.bits]
def acQ(x:Int):Gx (aR x):=by
 rw[WW];unfold Gx;split<;>omega
def jW(x:Int):∃q,aR x=x+q*18446744073709551616:=by
 refine⟨(aR x-x)/18446744073709551616,?_⟩;rw[WW];split<;>omega
def tT{x y q:Int}(h:x=y+q*18446744073709551616):aR x=aR y:=by
 obtain⟨a,e⟩:=jW x;obtain⟨b,f⟩:=jW y;have c:=acQ x;have d:=acQ y;unfold Gx at c d;omega
def afC(x:Int)(h:Gx x):Gm x=jf x:=by
 rw[ahU x h.2];unfold Gm Qy;by_cases b:x<0
 .rw[tz b,tz b]
 .rw[ck b,ck b]
  have c:0<=x:=by omega
  have e:∀d:Int,0<d->aR (x.tdiv d)=x/d/\(0:Int)<=x/d:=λd i=>by
   rw[Int.tdiv_eq_ediv_of_nonneg c];have k:x/d<=x:=by
    have:=Int.ediv_le_self (a:=x) d c;exact this
   have f:0<=x/d:=Int.ediv_nonneg c (by omega);exact⟨fA ⟨by omega,by have:=h.2;omega⟩,f⟩
  have r:FE x=su x:=by
   unfold FE su
   rw[(e 8 (by decide)).1,(e 128 (by decide)).1,(e 32768 (by decide)).1,(e 65536 (by decide)).1,(e 131072 (by decide)).1,(e 8388608 (by decide)).1,(e 34359738368 (by decide)).1,(e 140737488355328 (by decide)).1,
    g9 c,g9 (e 8 (by decide)).2,g9 (e 128 (by decide)).2,g9 (e 32768 (by decide)).2,g9 (e 65536 (by decide)).2,
    g9 (e 131072 (by decide)).2,g9 (e 8388608 (by decide)).2,g9 (e 34359738368 (by decide)).2]
  rw[r]
def Gl:bZ:=λa l=>match a with|[.int .i64 x]=>.ret (gP (jf x),l)|_=>.bad
def Qv:bZ:=λa l=>match a with|[s]=>pq s λs=>.ret (FK (encS s),l)|_=>.bad
def Ak:bZ:=λa l=>match a with|[s,.int .i64 k,.int .i64 own,.int .i64 more]=>pq s λs=>.ret (gP (az s k own more),l)|_=>.bad
def MG(s:aa)(k own more:Int):[s.val,.int .i64 k,.int .i64 own,.int .i64 more].all eX=true:=by simp[aa.val,eX,aN]
def uH:Sound Tryz.prog cB 73 Gl:=by
 refine Sound.pure ⟨Tryz.func73,by kernel_rfl,by kernel_rfl⟩ λa l r h=> ?_;unfold Gl at h;split at h
 .cases h
  exact⟨rfl,rfl,kG _,λw T=>K5 _ w T⟩
 .cases h
def xU:Sound Tryz.prog cB 75 Qv:=by
 refine Sound.pure ⟨Tryz.func75,by kernel_rfl,by kernel_rfl⟩ λa l r h=> ?_;unfold Qv at h;split at h
 .obtain⟨s,rfl,b⟩:=iq h
  cases b;exact⟨rfl,Dl s,Ht _,λw T=>by rw[<-aeN];exact K4 _ _ _ _ _ _ _ _ _ w T⟩
 .cases h
def Aj:Sound Tryz.prog cB 74 Ak:=by
 refine Sound.pure ⟨Tryz.func74,by kernel_rfl,by kernel_rfl⟩ λa l r h=> ?_;unfold Ak at h;split at h
 .obtain⟨s,rfl,b⟩:=iq h
  cases b;exact⟨rfl,MG _ _ _ _,kG _,λw T=>abw _ _ _ _ w T⟩
 .cases h
noncomputable def SE:List (FuncId×Func):=[(31,Tryz.f31)]
def Uy:∀e∈SE,iL Tryz.prog e.1 e.2:=
 fk Tryz.func31<|jL rfl
def acO:List (FuncId×bZ):=[(73,Gl),(75,Qv),(74,Ak),(48,uk)]
def Z8:lH Tryz.prog cB acO:=bL uH<|bL xU<|bL Aj<|bL wu<|jI
noncomputable def JM:Env:=tH Tryz.prog SE [GZ] acO []
def Uz(X:Nat->Prop)(w:World)(h:X 0)(B:eB X w)(T:cB w):iA JM X w:=l5 BQ (by kernel_rfl) Uy Z8 iO h B T
def We:bZ:=λa l=>match a with|[.int .i64 x]=>.ret (gP (Gm x),l)|_=>.bad
def iN(o:Option aa):aa:=o.getD aa.zero
def Zw(x:Int):(iR JM 40 31 [.int .i64 x] []).get=bif decide (x<0)then some (gP none,[])else bif !di (FE x)then some (gP none,[])else some (gP (some (FE x)),[]):=by kernel_rfl
def aci(x:Int):(iR JM 40 31 [.int .i64 x] []).get=some (gP (Gm x),[]):=by
 refine(Zw x).trans ?_;unfold Gm;by_cases h:x<0
 .rw[tz h,cN h];rfl
 .rw[ck h,cT h]
  cases di (FE x)<;>rfl
def Sound.pQ{f:FuncId}{o:Func}(p:iL Tryz.prog f o){F:bZ}{E:Env}(P:E.P=Tryz.prog)(G:E.G=0)(q:∀(X:Nat->Prop) (b:World),X 0->eB X b->cB b->iA E X b)(u:Nat)
  (h:∀a l r,(F a l).get=some r->r.2=l/\a.all eX=true/\Go.Sx.plain r.1=true/\r.1≠undef/\(iR E u f a []).get=some (r.1,[])):Sound Tryz.prog cB f F:=by
 refine Sound.pure p λa l r c=> ?_;obtain⟨s,d,m,i,x⟩:=h a l r c;refine⟨s,d,m,λw T=> ?_⟩;have n:=A8 (q (· <w.heap.size) w T.lt (Gr w) T) G x;have c:HR (· <w.heap.size) w E.G (λ_=>none) [] w:=by rw[G];exact Fx
 have y:a.all Go.Sx.plain=true:=by
  rw[bp]at d ⊢;intro v z;have:=d v z;unfold eX at this;split at this
  .exact this
  .cases v<;>first|exact this|rfl|(simp[Go.Sx.plain,aN]at this ⊢)
 rw[P]at n;refine(n.2 _ w a.toArray c (dY.plain a y)).mono λe B A=> ?_;obtain⟨C,rfl,D,_,S,k⟩:=A;rw[VR.kP S m i];exact⟨rfl,k.below.below⟩
def Ef(o:Option aa):gP o≠undef:=by simp[gP,undef]
def aeM(o:Option Int):FK o≠undef:=by simp[FK,undef]
def Wd:Sound Tryz.prog cB 31 We:=by
 refine Sound.pQ ⟨Tryz.func31,by kernel_rfl,by kernel_rfl⟩ rfl rfl Uz 40 λa l r h=> ?_;unfold We at h;split at h
 .cases h
  exact⟨rfl,rfl,kG _,Ef _,aci _⟩
 .cases h
def N7:List (FuncId×bZ):=[(73,Gl),(75,Qv),(74,Ak),(31,We),(48,uk)]
def Rf:lH Tryz.prog cB N7:=bL uH<|bL xU<|bL Aj<|bL Wd<|bL wu<|jI
def V8{w:Int}{s:aa}(h:encS s=some w):jf w=some s:=by
 have a:=(Ee s w h).1;unfold jf;rw[a,tz h]
def xV{s:aa}(h:Facts s):∃w,encS s=some w/\jf w=some s:=by
 have r:=kN.2 h;have e:encS s=some (uS s):=by rw[sM];unfold encR;rw[tz r]
 exact⟨_,e,V8 e⟩
def H8{s t:aa}{k own more:Int}(h:az s k own more=some t):Facts t/\t.cz=(s.cz+1)%32768:=by
 obtain⟨F,a,b,r,c,rfl⟩:=LX h;have:=F.cz;exact⟨XZ F a b c _ (by omega) (by omega),rfl⟩
noncomputable def YE:List (FuncId×Func):=[(54,Tryz.f54),(55,Tryz.f55),(168,Tryz.f168),(281,Tryz.f281),(30,Tryz.f30),(76,Tryz.f76),(78,Tryz.f78),(77,Tryz.f77),(79,Tryz.f79),(224,Tryz.f224),(282,Tryz.f282),(47,Tryz.f47),(41,Tryz.f41),(57,Tryz.f57),(40,Tryz.f40),(56,Tryz.f56),(58,Tryz.f58),(52,Tryz.f52)]
def YD:∀e∈YE,iL Tryz.prog e.1 e.2:=
 fk Tryz.func54<|fk Tryz.func55<|fk Tryz.func168<|fk Tryz.func281<|fk Tryz.func30<|fk Tryz.func76<|fk Tryz.func78<|fk Tryz.func77<|fk Tryz.func79<|fk Tryz.func224<|fk Tryz.func282<|fk Tryz.func47<|fk Tryz.func41<|fk Tryz.func57<|fk Tryz.func40<|fk Tryz.func56<|fk Tryz.func58<|fk Tryz.func52<|jL rfl
noncomputable def zf:Env:=tH Tryz.prog YE [] [] []
def uz(X)(w0)(h:X 0)(B:eB X w0)(T:cB w0):iA zf X w0:=l5 (λe a=>by cases a) (by kernel_rfl) YD jI iO h B T
def qo(n:Nat)(i:Int):Bool:=decide (0<=i)&&decide (i<(n:Int))
def xL(n:Nat)(l:List Int)(i:Int):Int:=if qo n i then l.getD i.toNat 0 else 0
def vv(n:Nat)(l:List Int)(i v:Int):List Int:=if qo n i then l.set i.toNat v else l
def rF(n:Nat)(i t:Int):Int:=if qo n i then IntKind.i64.wrap (t+1)else t
def AZ(n:Nat)(l:List Int)(i a:Int):Bool:=qo n i&&(xL n l i==a)
def QI(n:Nat)(l:List Int)(i a b:Int):List Int:=if AZ n l i a then vv n l i b else l
def Lh(n:Nat)(l:List Int)(i d:Int):List Int:=vv n l i (IntKind.i64.wrap (xL n l i+d))
def rM(n:Nat)(l:List Int):Bool:=Nat.beq n l.length&&Nat.blt 0 n&&fG n
theorem qi{n}{l}:rM n l=true↔n=l.length/\0<n/\n<=1073741824:=by
 unfold rM fG;rw[bj,bj,ir,and_assoc];exact⟨λ⟨a,b,c⟩=>⟨cJ a,b,ey c⟩,λ⟨a,b,c⟩=>⟨by rw[<-a];exact ju n,b,mA c⟩⟩
abbrev gq(n c:Nat)(t:Int)(l:List Int):List Go.Sx.ag:=[.cells true true [.slice (some ⟨1,0,none⟩) n c,.int .i64 t],.ints true true l]
abbrev p0:Value:=.pointer (some ⟨0,0,none⟩)
def Kv{α:Type}(n:Nat)(i:Int)(x y:α)(bad:α)(l:List Int)(o:Nat):α:=
 bif decide (i<0)then x else bif decide (i>=(n:Int))then x else bif gu i n then bif Nat.blt (o+i.toNat) l.length then y else bad else bad
def DW{α}{n}{i}{x y bad z:α}{l}{o}(h:n=l.length)(k:o=0)(a:qo n i=false->x=z)(b:qo n i=true->y=z):Kv n i x y bad l o=z:=by
 unfold Kv;unfold qo at a b;by_cases c:i<0
 .rw[cN c];exact a (by simp;omega)
 .rw[cT c]
  by_cases d:i>=(n:Int)
  .rw[cN d];exact a (by simp;omega)
  .rw[cT d]
   have e:gu i n=true:=by unfold gu;simp;omega
   have f:Nat.blt (o+i.toNat) l.length=true:=by rw[ir];omega
   rw[e,f];exact b (by simp;omega)
def Pp:bZ:=λa h=>match a,h with
 |[.pointer (some ⟨0,0,none⟩),.int .i64 i],[.cells true true [.slice (some ⟨1,0,none⟩) n c,.int .i64 t],.ints true true l]=>.br (rM n l) (.ret (.int .i64 (xL n l i),gq n c (rF n i t) l)) .bad
 |_,_=>.bad
def Ma:bZ:=λa h=>match a,h with
 |[.pointer (some ⟨0,0,none⟩),.int .i64 i,.int .i64 v],[.cells true true [.slice (some ⟨1,0,none⟩) n c,.int .i64 t],.ints true true l]=>.br (rM n l) (.ret (.bool (qo n i),gq n c (rF n i t) (vv n l i v))) .bad
 |_,_=>.bad
def TA:bZ:=λr h=>match r,h with
 |[.pointer (some ⟨0,0,none⟩),.int .i64 i,.int .i64 a,.int .i64 b],[.cells true true [.slice (some ⟨1,0,none⟩) n c,.int .i64 t],.ints true true l]=>.br (rM n l) (.ret (.bool (AZ n l i a),gq n c (rF n i t) (QI n l i a b))) .bad
 |_,_=>.bad
def TB:bZ:=λa h=>match a,h with
 |[.pointer (some ⟨0,0,none⟩),.int .i64 i,.int .i64 d],[.cells true true [.slice (some ⟨1,0,none⟩) n c,.int .i64 t],.ints true true l]=>.br (rM n l) (.ret (.int .i64 (xL n l i),gq n c (rF n i t) (Lh n l i d))) .bad
 |_,_=>.bad
def L9:bZ:=λa h=>match a,h with
 |[.pointer (some ⟨0,0,none⟩)],[.cells true true [.slice (some ⟨1,0,none⟩) n c,.int .i64 t],.ints true true l]=>.br (rM n l) (.ret (iJ 2 n,gq n c t l++[.ints true true l])) .bad
 |_,_=>.bad
def YN(n c)(t)(l)(i):(iR zf 40 54 [p0,.int .i64 i] (gq n c t l)).get=
  Kv n i (some (.int .i64 0,gq n c t l)) (some (.int .i64 (l.getD (0+i.toNat) 0),gq n c (IntKind.i64.wrap (t+1)) l)) none l 0:=by kernel_rfl
def UH(n c)(t)(l)(i v):(iR zf 40 55 [p0,.int .i64 i,.int .i64 v] (gq n c t l)).get=
  Kv n i (some (.bool false,gq n c t l)) (some (.bool true,gq n c (IntKind.i64.wrap (t+1)) (l.set (0+i.toNat) v))) none l 0:=by kernel_rfl
def acr(n c)(t)(l)(i a b):(iR zf 40 168 [p0,.int .i64 i,.int .i64 a,.int .i64 b] (gq n c t l)).get=
  Kv n i (some (.bool false,gq n c t l)) (bif l.getD (0+i.toNat) 0 != a then some (.bool false,gq n c (IntKind.i64.wrap (t+1)) l)else bif Nat.blt (0+i.toNat) l.length then some (.bool true,gq n c (IntKind.i64.wrap (t+1)) (l.set (0+i.toNat) b))else none) none l 0:=by kernel_rfl
def acI(n c)(t)(l)(i d):(iR zf 40 281 [p0,.int .i64 i,.int .i64 d] (gq n c t l)).get=
  Kv n i (some (.int .i64 0,gq n c t l)) (bif Nat.blt (0+i.toNat) l.length then bif Nat.blt (0+i.toNat) l.length then some (.int .i64 (l.getD (0+i.toNat) 0),gq n c (IntKind.i64.wrap (t+1)) (l.set (0+i.toNat) (IntKind.i64.wrap (l.getD (0+i.toNat) 0+d))))else none else none) none l 0:=by kernel_rfl
def Ux(n c)(t)(l):(iR zf 40 30 [p0] (gq n c t l)).get=
  bif Nat.ble (0+n) l.length then bif Nat.beq ((l.drop 0).take n).length 0 then none else
  bif fG (0+((l.drop 0).take n).length)then some (iJ 2 (0+((l.drop 0).take n).length),gq n c t l++[.ints true true ((l.drop 0).take n)])else none else none:=by kernel_rfl
def Uj{l:List Int}{n}{i}(h:n=l.length)(r:qo n i=true):Nat.blt (0+i.toNat) l.length=true:=by
 unfold qo at r;simp only[bj,tG]at r;rw[ir];omega
def Bp:Sound Tryz.prog cB 54 Pp:=by
 refine Sound.of_run ⟨Tryz.func54,by kernel_rfl,by kernel_rfl⟩ rfl rfl uz 40 λd k r a=> ?_;unfold Pp at a;split at a
 .rename_i i n c t l
  rcases M.af a with⟨e,b⟩|⟨e,b⟩
  .cases b
   obtain⟨f,_,_⟩:=qi.1 e;refine((YN n c t l i).trans (DW f rfl (λh=> ?_) λh=> ?_))
   .simp[xL,rF,h]
   .simp[xL,rF,h]
  .cases b
 .cases a
def ze:Sound Tryz.prog cB 55 Ma:=by
 refine Sound.of_run ⟨Tryz.func55,by kernel_rfl,by kernel_rfl⟩ rfl rfl uz 40 λd k r a=> ?_;unfold Ma at a;split at a
 .rename_i i v n c t l
  rcases M.af a with⟨e,b⟩|⟨e,b⟩
  .cases b
   obtain⟨f,_,_⟩:=qi.1 e;refine((UH n c t l i v).trans (DW f rfl (λh=> ?_) λh=> ?_))
   .simp[vv,rF,h]
   .simp[vv,rF,h]
  .cases b
 .cases a
def Cu:Sound Tryz.prog cB 168 TA:=by
 refine Sound.of_run ⟨Tryz.func168,by kernel_rfl,by kernel_rfl⟩ rfl rfl uz 40 λk q r d=> ?_;unfold TA at d;split at d
 .rename_i i a b n c t l
  rcases M.af d with⟨m,e⟩|⟨m,e⟩
  .cases e
   obtain⟨o,_,_⟩:=qi.1 m;refine((acr n c t l i a b).trans (DW o rfl (λh=> ?_) λh=> ?_))
   .simp[QI,AZ,rF,h]
   .rw[Uj o h]
    have p:xL n l i=l.getD i.toNat 0:=by simp[xL,h]
    cases x:(l.getD i.toNat 0==a)with
    |true=>
     have f:AZ n l i a=true:=by unfold AZ;rw[h,p,x];rfl
     simp only[cg,bne,x,QI,f,rF,vv,h,if_true,eN,jj];rfl
    |false=>
     have f:AZ n l i a=false:=by unfold AZ;rw[h,p,x];rfl
     simp only[cg,bne,x,QI,f,rF,vv,h,if_true,eN,jj];rfl
  .cases e
 .cases d
def Cv:Sound Tryz.prog cB 281 TB:=by
 refine Sound.of_run ⟨Tryz.func281,by kernel_rfl,by kernel_rfl⟩ rfl rfl uz 40 λe m r a=> ?_;unfold TB at a;split at a
 .rename_i i d n c t l
  rcases M.af a with⟨f,b⟩|⟨f,b⟩
  .cases b
   obtain⟨k,_,_⟩:=qi.1 f;refine((acI n c t l i d).trans (DW k rfl (λh=> ?_) λh=> ?_))
   .simp[Lh,vv,xL,rF,h]
   .rw[Uj k h]
    simp[Lh,vv,xL,rF,h]
  .cases b
 .cases a
def za:Sound Tryz.prog cB 30 L9:=by
 refine Sound.of_run ⟨Tryz.func30,by kernel_rfl,by kernel_rfl⟩ rfl rfl uz 40 λb o r h=> ?_;unfold L9 at h;split at h
 .rename_i n c t l
  rcases M.af h with⟨d,a⟩|⟨d,a⟩
  .cases a
   obtain⟨e,p,q⟩:=qi.1 d;refine((Ux n c t l).trans ?_);have f:(l.drop 0).take n=l:=by rw[List.drop_zero,e];exact lP
   have i:Nat.ble (0+n) l.length=true:=mA (by omega);have k:Nat.beq l.length 0=false:=by cases x:Nat.beq l.length 0;rfl;exact tA (cJ x) (by omega)
   have m:fG l.length=true:=mA (by omega);rw[f,i,k,cg,m,e];rfl
  .cases a
 .cases h
structure Cf where
 w:Int
 s:Int
 st:Int
 wt:Int
 u:Int
def Cf.val(c:Cf):Value:=.agg #[.int .i64 c.w,.int .i64 c.s,.int .i64 c.st,.int .i64 c.wt,.int .i64 c.u]
def QB:List Value->Option Cf
 |[.int .i64 a,.int .i64 b,.int .i64 c,.int .i64 d,.int .i64 e]=>some ⟨a,b,c,d,e⟩
 |_=>none
def Sk{c}{s}(h:QB c.toList=some s):Value.agg c=s.val:=by
 unfold QB at h;split at h
 .rename_i a
  cases h;unfold Cf.val;congr 1;exact e8.1 a
 .cases h
def AU{α:Type}(v:Value)(F:Cf->M α):M α:=
 match v with
 | .agg c=>match QB c.toList with
  |some s=>F s
  |none=>.bad
 |_=>.bad
def oq{α}{v}{F:Cf->M α}{x}(h:(AU v F).get=some x):∃s,v=s.val/\(F s).get=some x:=by
 unfold AU at h;split at h
 .split at h
  .rename_i c
   exact⟨_,Sk c,h⟩
  .cases h
 .cases h
def oQ(c:Cf):Bool:=decide (1<=c.w)&&decide (c.w<=8)&&decide (1<=c.s)&&decide (c.s<=16)&&decide (0<=c.st)&&decide (c.st<=8)&&decide (0<=c.wt)&&decide (c.wt<=8)&&decide (1<=c.u)&&decide (c.u<=60)
structure fI(c:Cf):Prop where
 w:1<=c.w/\c.w<=8
 s:1<=c.s/\c.s<=16
 st:0<=c.st/\c.st<=8
 wt:0<=c.wt/\c.wt<=8
 u:1<=c.u/\c.u<=60
def vI{c}:oQ c=true↔fI c:=by
 unfold oQ;simp only[bj,tG];exact⟨λ⟨⟨⟨⟨⟨⟨⟨⟨⟨a,b⟩,c⟩,d⟩,e⟩,f⟩,g⟩,h⟩,i⟩,j⟩=>⟨⟨a,b⟩,⟨c,d⟩,⟨e,f⟩,⟨g,h⟩,⟨i,j⟩⟩,λ⟨⟨a,b⟩,⟨c,d⟩,⟨e,f⟩,⟨g,h⟩,⟨i,j⟩⟩=>⟨⟨⟨⟨⟨⟨⟨⟨⟨a,b⟩,c⟩,d⟩,e⟩,f⟩,g⟩,h⟩,i⟩,j⟩⟩
def uD(m i:Int):Bool:=decide (0<=i)&&decide (i<m)
def cellC(c:Cf)(i:Int):Int:=if uD c.s i then aR (3+2*c.w+i)else -1
def De(c:Cf):Int:=aR (cellC c (aR (c.s-1))+1)
def fT(c:Cf):Nat:=(3+2*c.w+c.s).toNat
def fI.cellC{c}(h:fI c){i}(a:0<=i)(b:i<c.s):cellC c i=3+2*c.w+i:=by
 have:=h.w;have:=h.s;unfold Go.Proofs.YteaflphddciglaaGreatDoor.cellC uD;rw[tz (by simp;omega)];exact fA ⟨by omega,by omega⟩
def fI.De{c}(h:fI c):De c=3+2*c.w+c.s:=by
 have:=h.w;have:=h.s;unfold Go.Proofs.YteaflphddciglaaGreatDoor.De;rw[fA (x:=c.s-1) ⟨by omega,by omega⟩,h.cellC (by omega) (by omega)];rw[fA ⟨by omega,by omega⟩];omega
def fI.fT{c}(h:fI c):((fT c:Nat):Int)=3+2*c.w+c.s/\6<=fT c/\fT c<=35:=by
 have:=h.w;have:=h.s;unfold Go.Proofs.YteaflphddciglaaGreatDoor.fT;omega
def Eg(a b c d e:Int):Cf:=⟨aR (1+aR (a.tmod 4)),aR (1+aR (b.tmod 5)),aR (c.tmod 4),aR (d.tmod 4),aR (1+aR (e.tmod 4))⟩
def jl{a k}(h:0<=a)(b:0<k)(c:k<100):aR (a.tmod k)=a%k/\0<=a%k/\a%k<k:=by
 rw[g9 h];have d:=rm a (show k≠0 by omega);have e:=oE a b;exact⟨fA ⟨by omega,by omega⟩,d,e⟩
structure Q4(c:Cf):Prop where
 w:1<=c.w/\c.w<=4
 s:1<=c.s/\c.s<=5
 st:0<=c.st/\c.st<=3
 wt:0<=c.wt/\c.wt<=3
 u:1<=c.u/\c.u<=4
def Q4.right{c}(h:Q4 c):fI c:=⟨⟨h.w.1,by have:=h.w;omega⟩,⟨h.s.1,by have:=h.s;omega⟩,⟨h.st.1,by have:=h.st;omega⟩,⟨h.wt.1,by have:=h.wt;omega⟩,⟨h.u.1,by have:=h.u;omega⟩⟩
def Sn{a b c d e}(h:0<=a)(f:0<=b)(i:0<=c)(l:0<=d)(m:0<=e):Q4 (Eg a b c d e):=by
 obtain⟨n,v,w⟩:=jl (k:=4) h (by decide) (by decide);obtain⟨o,y,z⟩:=jl (k:=5) f (by decide) (by decide);obtain⟨p,q,A⟩:=jl (k:=4) i (by decide) (by decide);obtain⟨r,s,B⟩:=jl (k:=4) l (by decide) (by decide);obtain⟨u,C,D⟩:=jl (k:=4) m (by decide) (by decide);unfold Eg;rw[n,o,p,r,u,fA (x:=1+a%4) ⟨by omega,by omega⟩,fA (x:=1+b%5) ⟨by omega,by omega⟩,fA (x:=1+e%4) ⟨by omega,by omega⟩];exact⟨⟨by show 1<=1+a%4;omega,by show 1+a%4<=4;omega⟩,⟨by show 1<=1+b%5;omega,by show 1+b%5<=5;omega⟩,⟨q,by show c%4<=3;omega⟩,⟨s,by show d%4<=3;omega⟩,⟨by show 1<=1+e%4;omega,by show 1+e%4<=4;omega⟩⟩
noncomputable def K8:List (FuncId×Func):=[(41,Tryz.f41),(57,Tryz.f57),(40,Tryz.f40),(56,Tryz.f56),(58,Tryz.f58),(52,Tryz.f52),(25,Tryz.f25),(44,Tryz.f44),(28,Tryz.f28)]
def Jv:∀e∈K8,iL Tryz.prog e.1 e.2:=
 fk Tryz.func41<|fk Tryz.func57<|fk Tryz.func40<|fk Tryz.func56<|fk Tryz.func58<|fk Tryz.func52<|fk Tryz.func25<|fk Tryz.func44<|fk Tryz.func28<|jL rfl
noncomputable def sN:Env:=tH Tryz.prog K8 [] [] []
def oz(X)(w0)(h:X 0)(B:eB X w0)(T:cB w0):iA sN X w0:=l5 (λe a=>by cases a) (by kernel_rfl) Jv jI iO h B T
def nC(c:Cf):Int:=aR (aR (3+aR (2*c.w))+c.s)
def jF:Option (Value×List Go.Sx.ag):=some (.tuple #[.pointer none,.int .i64 1],[])
def memT(c:Cf):Option (Value×List Go.Sx.ag):=
 bif decide (1<=c.w)then bif decide (c.w<=8)then bif decide (1<=c.s)then bif decide (c.s<=16)then bif decide (0<=c.st)then bif decide (c.st<=8)then bif decide (0<=c.wt)then bif decide (c.wt<=8)then bif decide (1<=c.u)then
  bif !decide (c.u<=60)then jF else bif decide (nC c<1)then jF else bif decide (nC c>4096)then jF else
  bif decide (nC c=nC c)then bif decide (0<=nC c)&&decide (nC c<=1048576)then some (.tuple #[p0,.int .i64 0],gq (nC c).toNat (nC c).toNat 0 (List.replicate (nC c).toNat 0))else none else none
 else jF else jF else jF else jF else jF else jF else jF else jF else jF
def abf(c):(iR sN 40 41 [c.val] []).get=memT c:=by kernel_rfl
def Vq(c):nC c=aR (3+2*c.w+c.s):=by
 obtain⟨a,h⟩:=jW (2*c.w);obtain⟨b,d⟩:=jW (3+aR (2*c.w));unfold nC;exact tT (q:=a+b) (by omega)
def ae3(c):memT c=if oQ c then some (.tuple #[p0,.int .i64 0],gq (fT c) (fT c) 0 (List.replicate (fT c) 0))else jF:=by
 cases r:oQ c with
 |true=>
  have h:=vI.1 r;obtain⟨e,f,i,k,l⟩:=h;have n:nC c=3+2*c.w+c.s:=by rw[Vq];exact fA ⟨by omega,by omega⟩
  have N:(nC c).toNat=fT c:=by rw[n];rfl
  unfold memT
  rw[cN e.1,cN e.2,cN f.1,cN f.2,cN i.1,cN i.2,cN k.1,cN k.2,cN l.1,cN l.2,
   cT (show¬nC c<1 by omega),cT (show¬nC c>4096 by omega),cN (show 0<=nC c by omega),cN (show nC c<=1048576 by omega),cN (rfl:nC c=nC c),N]
  rfl
 |false=>
  have h:¬fI c:=λm=>by rw[vI.2 m]at r;cases r
  have b:∀(p:Prop) [Decidable p] (X:Option (Value×List Go.Sx.ag)),(p->X=jF)->(bif decide p then X else jF)=jF:=by
   intro p _ X x;by_cases a:p
   .rw[cN a];exact x a
   .rw[cT a];rfl
  unfold memT;refine b _ _ λo=>b _ _ λq=>b _ _ λs=>b _ _ λu=>b _ _ λv=>b _ _ λw=>b _ _ λy=>b _ _ λz=>b _ _ λA=> ?_;have:¬c.u<=60:=λd=>h ⟨⟨o,q⟩,⟨s,u⟩,⟨v,w⟩,⟨y,z⟩,⟨A,d⟩⟩;rw[cT this];rfl
def Gp:bZ:=λa l=>match a,l with
 |[c],[]=>AU c λc=>.br (oQ c) (.ret (.tuple #[p0,.int .i64 0],gq (fT c) (fT c) 0 (List.replicate (fT c) 0))) (.ret (.tuple #[.pointer none,.int .i64 1],[]))
 |_,_=>.bad
def Nt:Sound Tryz.prog cB 41 Gp:=by
 refine Sound.of_run ⟨Tryz.func41,by kernel_rfl,by kernel_rfl⟩ rfl rfl oz 40 λd l r h=> ?_;unfold Gp at h;split at h
 .obtain⟨c,rfl,e⟩:=oq h
  refine((abf c).trans (ae3 c)).trans ?_;rcases M.af e with⟨a,b⟩|⟨a,b⟩
  .cases b
   rw[a];rfl
  .cases b
   rw[a];rfl
 .cases h
def qz(c:Cf)(l)(h:l.all eX=true):(c.val::l).all eX=true:=by
 rw[List.all_cons,h,gh];simp[Cf.val,eX,aN]
def two(m i:Int)(x:Int):Option (Value×List Go.Sx.ag):=bif decide (i<0)then some (.int .i64 (-1),[])else bif decide (i>=m)then some (.int .i64 (-1),[])else some (.int .i64 x,[])
def N8(m i x y)(h:x=y):two m i x=some (.int .i64 (if uD m i then y else -1),[]):=by
 unfold two uD;subst h;by_cases a:i<0
 .rw[cN a,ck (by simp;omega)];rfl
 .rw[cT a]
  by_cases b:i>=m
  .rw[cN b,ck (by simp;omega)];rfl
  .rw[cT b,tz (by simp;omega)];rfl
def XD(c:Cf)(i):(iR sN 40 52 [c.val,.int .i64 i] []).get=two c.s i (aR (aR (3+aR (2*c.w))+i)):=by kernel_rfl
def UK(c:Cf)(i):(iR sN 40 25 [c.val,.int .i64 i] []).get=two c.s i (aR (aR (aR (3+c.w)+c.w)+i)):=by kernel_rfl
def Ju(a b c d e):(iR sN 40 44 [.agg #[.int .u8 a,.int .u8 b,.int .u8 c,.int .u8 d,.int .u8 e]] []).get=some ((Eg a b c d e).val,[]):=by kernel_rfl
def vZ:bZ:=λa l=>match a with|[c,.int .i64 i]=>AU c λc=>.ret (.int .i64 (cellC c i),l)|_=>.bad
def Wl:bZ:=λa l=>match a with|[c]=>AU c λc=>.ret (.int .i64 (De c),l)|_=>.bad
def QC:bZ:=λr l=>match r with
 |[.agg g]=>match g.toList with|[.int .u8 a,.int .u8 b,.int .u8 c,.int .u8 d,.int .u8 e]=>.ret ((Eg a b c d e).val,l)|_=>.bad
 |_=>.bad
def Rs:Sound Tryz.prog cB 52 vZ:=by
 refine Sound.pQ ⟨Tryz.func52,by kernel_rfl,by kernel_rfl⟩ rfl rfl oz 40 λd l r h=> ?_;unfold vZ at h;split at h
 .rename_i i
  obtain⟨c,rfl,e⟩:=oq h;cases e;refine⟨rfl,qz c _ rfl,rfl,by simp[undef],(XD c i).trans (N8 _ _ _ _ ?_)⟩;obtain⟨a,f⟩:=jW (2*c.w);obtain⟨b,k⟩:=jW (3+aR (2*c.w));exact tT (q:=a+b) (by omega)
 .cases h
def EA:Sound Tryz.prog cB 25 vZ:=by
 refine Sound.pQ ⟨Tryz.func25,by kernel_rfl,by kernel_rfl⟩ rfl rfl oz 40 λd l r h=> ?_;unfold vZ at h;split at h
 .rename_i i
  obtain⟨c,rfl,e⟩:=oq h;cases e;refine⟨rfl,qz c _ rfl,rfl,by simp[undef],(UK c i).trans (N8 _ _ _ _ ?_)⟩;obtain⟨a,f⟩:=jW (3+c.w);obtain⟨b,k⟩:=jW (aR (3+c.w)+c.w);exact tT (q:=a+b) (by omega)
 .cases h
noncomputable def QD:Env:=tH Tryz.prog K8 [] [(25,vZ)] []
def Sq(X)(w0)(h:X 0)(B:eB X w0)(T:cB w0):iA QD X w0:=l5 (λe a=>by cases a) (by kernel_rfl) Jv (bL EA jI) iO h B T
def Zy(c):(iR QD 40 28 [c.val] []).get=some (.int .i64 (De c),[]):=by kernel_rfl
def Wj:Sound Tryz.prog cB 28 Wl:=by
 refine Sound.pQ ⟨Tryz.func28,by kernel_rfl,by kernel_rfl⟩ rfl rfl Sq 40 λa l r h=> ?_;unfold Wl at h;split at h
 .obtain⟨c,rfl,b⟩:=oq h
  cases b;exact⟨rfl,qz c _ rfl,rfl,by simp[undef],Zy c⟩
 .cases h
def Sl:Sound Tryz.prog cB 44 QC:=by
 refine Sound.pQ ⟨Tryz.func44,by kernel_rfl,by kernel_rfl⟩ rfl rfl oz 40 λf l r h=> ?_;unfold QC at h;split at h
 .rename_i g
  split at h
  .rename_i a b c d e i
   cases h;obtain rfl:g= #[.int .u8 a,.int .u8 b,.int .u8 c,.int .u8 d,.int .u8 e]:=e8.1 i;exact⟨rfl,by simp[eX,aN],by simp[Cf.val,Go.Sx.plain,aN],by simp[Cf.val,undef],Ju a b c d e⟩
  .cases h
 .cases h
def QA:List (FuncId×bZ):=[(41,IE Gp),(52,vZ),(25,vZ),(28,Wl),(44,QC)]
def Sj:lH Tryz.prog cB QA:=bL (Nt.frame aay)<|bL Rs<|bL EA<|bL Wj<|bL Sl jI
def slV(s:Bool)(k n c:Nat):Value:=bif s then .slice (some ⟨k,0,some 1⟩) n 0 else .slice (some ⟨k,0,none⟩) n c
def ixB(s:Bool)(i:Int):Nat:=bif s then i.toNat else 0+i.toNat
def UO(k:Nat):Value->Option (Bool×Nat×Nat)
 | .slice (some ⟨a,0,none⟩) n c=>cond (Nat.beq a k) (some (false,n,c)) none
 | .slice (some ⟨a,0,some 1⟩) n 0=>cond (Nat.beq a k) (some (true,n,0)) none
 |_=>none
def LB{k n c:Nat}{s:Bool}{v:Value}(h:UO k v=some (s,n,c)):v=slV s k n c:=by
 unfold UO at h;split at h
 .rename_i b d e
  cases a:Nat.beq b k with
  |false=>rw[a]at h;cases h
  |true=>rw[a]at h;cases h;rw[cJ a];rfl
 .rename_i b d
  cases a:Nat.beq b k with
  |false=>rw[a]at h;cases h
  |true=>rw[a]at h;cases h;rw[cJ a];rfl
 .cases h
def aaf{i:Nat}(h:i<4611686018427387904):aR ((i:Int)+1)=((i+1:Nat):Int):=by
 rw[fA ⟨by omega,by omega⟩];omega
abbrev ak8:List Kd:=[.it .i64,.it .i64,.it .i64,.bo,.bo,.it .i64,.it .i64,.it .i64,.it .i64]
def md0:List (FuncId×bZ):=QA++N7
def YF:lH Tryz.prog cB md0:=Nf Sj Rf
abbrev afJ(c:Cf):List Value:=[.int .i64 c.w,.int .i64 c.s,.int .i64 c.st,.int .i64 c.wt,.int .i64 c.u]
def afK{c}(h:fI c){i:Nat}(a:(i:Int)<c.s){l:List Int}(b:l.length=fT c):gu (cellC c i) (fT c)=true/\Nat.blt (0+(cellC c i).toNat) l.length=true:=by
 have e:=h.cellC (i:=i) (by omega) a;have d:=h.fT;have w:=h.w;rw[e];unfold gu;rw[ir];refine⟨by simp;omega,by omega⟩
def ak7(s:aa):Nat->Int
 |0=>s.st
 |1=>s.own
 |2=>s.str
 |5=>s.uses
 |6=>s.gen
 |7=>s.ep
 |8=>s.cz
 |_=>0
def UJ(s:aa):Nat->Bool
 |3=>s.brk
 |4=>s.fO
 |_=>false
def rG(D:Nat->aa):Go.Sx.Rows:=⟨ak8,λi j=>ak7 (D i) j,λi j=>UJ (D i) j⟩
abbrev rZ(s:aa):List Value:=[.int .i64 s.st,.int .i64 s.own,.int .i64 s.str,.bool s.brk,.bool s.fO,.int .i64 s.uses,.int .i64 s.gen,.int .i64 s.ep,.int .i64 s.cz]
def aaH(D:Nat->aa)(m:Nat):eY m (rZ (D m)) (rG D)=rG D:=by
 unfold eY rG;congr 1
 .funext i j
  cases h:Nat.beq i m with
  |false=>rfl
  |true=>
   have e:=cJ h;subst e;rw[pN];match j with
   |0|1|2|3|4|5|6|7|8=>rfl
   |j+9=>rfl
 .funext i j
  cases h:Nat.beq i m with
  |false=>rfl
  |true=>
   have e:=cJ h;subst e;rw[pN];match j with
   |0|1|2|3|4|5|6|7|8=>rfl
   |j+9=>rfl
def XG(D:Nat->aa):∀i j,i<1->j<9->((rowOf (rZ (D 0))).at i j).val=((rG D).at i j).val:=by
 intro i j a h;obtain rfl:i=0:=by omega
 match j,h with
 |0,_|1,_|2,_|3,_|4,_|5,_|6,_|7,_|8,_=>rfl
noncomputable def UQ:List (FuncId×Func):=[(12,Tryz.f12)]
def OM:∀e∈UQ,iL Tryz.prog e.1 e.2:=fk Tryz.func12<|jL rfl
noncomputable def BS:Env:=tH Tryz.prog UQ [] md0 []
def XH(X:Nat->Prop)(w:World)(h:X 0)(B:eB X w)(T:cB w):iA BS X w:=l5 (λe a=>by cases a) (by kernel_rfl) OM YF iO h B T
noncomputable def OO:Code:=Tryz.f12.body.getD .skip
noncomputable def yP:Code:=lpB (xY 0 OO)
def aeu:xY 0 OO=.loop yP:=by kernel_rfl
abbrev yQ(s:Bool)(n c:Nat)(v:Value)(i:Int):List Value:=[slV s 0 n c,.pointer (some ⟨1,0,none⟩),v,.int .i64 i]
abbrev yR(o w:Bool)(l:List Int)(c:Cf):List Go.Sx.ag:=[.ints o w l,.cells true true (afJ c)]
def rH(c:Cf)(l:List Int)(i:Nat):aa:=iN (Gm (l.getD (cellC c i).toNat 0))
def S9(s:Bool)(c:Cf)(n:Nat)(l:List Int)(i:Int)(K:aa->Option (Exit×List Value×List Go.Sx.ag))(E:Option (Exit×List Value×List Go.Sx.ag)):Option (Exit×List Value×List Go.Sx.ag):=
 bif decide (i<c.s)then bif (n:Int)==De c then bif gu (cellC c i) n then bif Nat.blt (ixB s (cellC c i)) l.length then K (iN (Gm (l.getD (ixB s (cellC c i)) 0)))else none else none else E else E
def aaG(a o w:Bool)(n c:Nat)(l:List Int)(f:Cf)(i:Int):
  (OU BS 30 Vo 37 [1,2,5,6] 1 yP (unpack 37 [1,2,5,6] (yQ a n c (.slice none 0 0) i) (yR o w l f))).get=
  S9 a f n l i (λs=>some (.normal,yQ a n c (iJ 2 1) (aR (i+1)),yR o w l f++[.rows true true 9 1 (rowOf (rZ s))])) (some (.exit 0,yQ a n c (.slice none 0 0) i,yR o w l f)):=by
 cases a<;>kernel_rfl
def OL(a o w:Bool)(n c m:Nat)(R:Nat->aa)(l:List Int)(f:Cf)(i:Int):
  (OU BS 30 Vo 37 [1,2,5,6] 1 yP (unpack 37 [1,2,5,6] (yQ a n c (iJ 2 m) i) (yR o w l f++[.rows true true 9 m (rG R)]))).get=
  S9 a f n l i (λs=>bif Nat.beq m m then bif fG (m+1)&&true then some (.normal,yQ a n c (iJ 2 (m+1)) (aR (i+1)),yR o w l f++[.rows true true 9 (m+1) (eY m (rZ s) (rG R))])else none else none) (some (.exit 0,yQ a n c (iJ 2 m) i,yR o w l f++[.rows true true 9 m (rG R)])):=by
 cases a<;>kernel_rfl
def XF{s1:Bool}{c:Cf}(h:fI c){l:List Int}(d:l.length=fT c){i:Nat}(a:(i:Int)<c.s){K:aa->Option (Exit×List Value×List Go.Sx.ag)}{E:Option (Exit×List Value×List Go.Sx.ag)}:S9 s1 c (fT c) l i K E=K (rH c l i):=by
 obtain⟨f,b⟩:=afK h a d;have q:=h.De;have k:=h.fT;unfold S9 rH;rw[cN a,show(((fT c:Nat):Int)==De c)=true by simp;omega,f];have e:ixB s1 (cellC c i)=(cellC c i).toNat:=by unfold ixB;cases s1<;>simp
 rw[cg]at b;rw[e,b];rfl
def aev{s:Bool}{c:Cf}{n:Nat}{l:List Int}{i:Int}(h:¬i<c.s){K:aa->Option (Exit×List Value×List Go.Sx.ag)}{E:Option (Exit×List Value×List Go.Sx.ag)}:S9 s c n l i K E=E:=by
 unfold S9;rw[cT h];rfl
theorem LA{X:Nat->Prop}{b:World}(E:iA BS X b)(s o w:Bool)(c:Nat)(l:List Int)(f:Cf)(h:fI f)(d:l.length=fT f):∀(k i:Nat),1<=i->i+k=f.s.toNat->
  fP Tryz.prog X b 0 1 yP (unpack 37 [1,2,5,6] (yQ s (fT f) c (iJ 2 i) i) (yR o w l f++[.rows true true 9 i (rG (rH f l))])) (.exit 0) (unpack 37 [1,2,5,6] (yQ s (fT f) c (iJ 2 f.s.toNat) f.s.toNat) (yR o w l f++[.rows true true 9 f.s.toNat (rG (rH f l))]))
 |0,i,e,m=>by
  have a:=OL s o w (fT f) c i (rH f l) l f i;rw[aev (by omega)]at a;obtain rfl:i=f.s.toNat:=by omega
  exact fP.exit (zX E (FN _) a (tE _) (show 1<=3 by decide)) (by simp)
 |k+1,i,e,m=>by
  have a:=OL s o w (fT f) c i (rH f l) l f i;have n:=h.s;rw[XF h d (by omega),ju,show fG (i+1)=true from mA (by omega),aaf (by omega),aaH]at a;exact fP.step (zX E (FN _) a (tE _) (show 1<=3 by decide)) (LA E s o w c l f h d k (i+1) (by omega) (by omega))
def agj{X:Nat->Prop}{d:World}(k:iA BS X d)(a o w:Bool)(c:Nat)(l:List Int)(f:Cf)(h:fI f)(m:l.length=fT f):
  fP Tryz.prog X d 0 1 yP (unpack 37 [1,2,5,6] (yQ a (fT f) c (.slice none 0 0) 0) (yR o w l f)) (.exit 0) (unpack 37 [1,2,5,6] (yQ a (fT f) c (iJ 2 f.s.toNat) f.s.toNat) (yR o w l f++[.rows true true 9 f.s.toNat (rG (rH f l))])):=by
 have n:=aaG a o w (fT f) c l f 0;have p:=h.s;have e:=XF (s1:=a) h m (i:=0) (by omega) (K:=λs=>some (.normal,yQ a (fT f) c (iJ 2 1) (aR (0+1)),yR o w l f++[.rows true true 9 1 (rowOf (rZ s))])) (E:=some (.exit 0,yQ a (fT f) c (.slice none 0 0) 0,yR o w l f));have b:=n.trans e;have r:=(zX k (FN _) b (tE _) (show 1<=2 by decide)).rows 2 (o:=true) (R:=rowOf (rZ (rH f l 0))) (rG (rH f l)) rfl (XG (rH f l)) (by decide);exact fP.step r (LA k a o w c l f h m (f.s.toNat-1) 1 (aq _) (by omega))
def slF(v:List Value)(h:List Go.Sx.ag):M (Exit×List Value×List Go.Sx.ag):=
 match v,h with
 |[a,.pointer (some ⟨1,0,none⟩),.slice none 0 0,.int .i64 0],[.ints o w l,.cells true true [.int .i64 b,.int .i64 s,.int .i64 c,.int .i64 U,.int .i64 cu]]=>
  match UO 0 a with
  |some (_,n,_)=>.br (oQ ⟨b,s,c,U,cu⟩&&rM n l&&Nat.beq n (fT ⟨b,s,c,U,cu⟩)) (.ret (.normal,[iJ 1 s.toNat],[.ints o w l,.rows true true 9 s.toNat (rG (rH ⟨b,s,c,U,cu⟩ l))])) .bad
  |_=>.bad
 |_,_=>.bad
def aet(s o w:Bool)(n c m:Nat)(l:List Int)(f:Cf)(i:Int)(D:Nat->aa):(xG 37 [5] 1 (unpack 37 [1,2,5,6] (yQ s n c (iJ 2 m) i) (yR o w l f++[.rows true true 9 m (rG D)]))).get=some ([iJ 1 m],[.ints o w l,.rows true true 9 m (rG D)]):=by kernel_rfl
def aiX:vT Tryz.prog cB 12 0 (Ik 37 [1,2,5,6] [5] slF 1):=by
 refine vT.aeO (c:=OO) Tryz.func12 (by kernel_rfl) (by kernel_rfl) λX r u B T v A e x V F C=> ?_;unfold slF at F;split at F
 .rename_i a o w l k b s U cu
  split at F
  .rename_i m n c y
   obtain rfl:=LB y;rcases M.af F with⟨p,h⟩|⟨_,h⟩
   .clear F
    simp only[bj]at p;obtain⟨⟨d,f⟩,i⟩:=p;obtain⟨D,E,G⟩:=qi.1 f;have z:=cJ i;simp only[M.ah,cq,kB]at h;obtain⟨rfl,rfl,rfl⟩:=h;have q:=agj (XH X r u B T) m o w c l ⟨k,b,s,U,cu⟩ (vI.1 d) (by omega);rw[aeu];rw[<-z]at q;exact q.runs.JB.norm (aet m o w n c b.toNat l ⟨k,b,s,U,cu⟩ _ _) (tE _)
   .cases h
  .cases F
 .cases F
noncomputable def ac1:Env:=tH Tryz.prog UQ [] md0 [(12,0,Ik 37 [1,2,5,6] [5] slF 1)]
def aaJ(X:Nat->Prop)(w:World)(h:X 0)(B:eB X w)(T:cB w):iA ac1 X w:=l5 (λe a=>by cases a) (by kernel_rfl) OM YF (Nk aiX iO) h B T
def aaI(s o w:Bool)(n c:Nat)(l:List Int)(f:Cf):(iR ac1 40 12 [f.val,slV s 0 n c] [.ints o w l]).get=
  bif oQ f&&rM n l&&Nat.beq n (fT f)then some (iJ 1 f.s.toNat,[.ints o w l,.rows true true 9 f.s.toNat (rG (rH f l))])else none:=by
 cases s<;>kernel_rfl
def OE:bZ:=λr h=>match r,h with
 |[c,a],[.ints o w l]=>AU c λc=>
  match UO 0 a with
  |some (_,n,_)=>.br (oQ c&&rM n l&&Nat.beq n (fT c)) (.ret (iJ 1 c.s.toNat,[.ints o w l,.rows true true 9 c.s.toNat (rG (rH c l))])) .bad
  |_=>.bad
 |_,_=>.bad
def Rn:Sound Tryz.prog cB 12 OE:=by
 refine Sound.of_run ⟨Tryz.func12,by kernel_rfl,by kernel_rfl⟩ rfl rfl aaJ 40 λe m r d=> ?_;unfold OE at d;split at d
 .rename_i f a o w l
  obtain⟨f,rfl,h⟩:=oq d;clear d;split at h
  .rename_i s n c i
   obtain rfl:=LB i;rcases M.af h with⟨k,b⟩|⟨_,b⟩
   .cases b
    refine(aaI s o w n c l f).trans ?_;rw[k];rfl
   .cases b
  .cases h
 .cases d
def kI(s:aa)(k own:Int):Bool:=
 bif k==0 then(bif s.st==2 then(bif !s.brk then s.own==own else false)else false)else
 bif k==1 then(bif s.st==2 then !s.brk else false)else
 bif k==2 then s.st==0 else
 bif k==3 then(bif s.st==2 then(bif !s.brk then true else s.st==0)else s.st==0)else
 bif k==4 then(bif s.st==2 then(bif s.brk then true else(bif own==1 then true else own==2))else(bif s.st==3 then own==2 else false))else
 bif k==5 then s.st==6 else bif k==6 then s.st==2 else false
def VT(s:aa)(k own:Int):Option (Value×List Go.Sx.ag):=
 bif k==0 then(bif s.st==2 then(bif !s.brk then some (.bool (s.own==own),[])else some (.bool false,[]))else some (.bool false,[]))else
 bif k==1 then(bif s.st==2 then some (.bool (!s.brk),[])else some (.bool false,[]))else
 bif k==2 then some (.bool (s.st==0),[])else
 bif k==3 then(bif s.st==2 then(bif !s.brk then some (.bool true,[])else some (.bool (s.st==0),[]))else some (.bool (s.st==0),[]))else
 bif k==4 then(bif s.st==2 then(bif s.brk then some (.bool true,[])else(bif own==1 then some (.bool true,[])else some (.bool (own==2),[])))else(bif s.st==3 then some (.bool (own==2),[])else some (.bool false,[])))else
 bif k==5 then some (.bool (s.st==6),[])else bif k==6 then some (.bool (s.st==2),[])else some (.bool false,[])
def acB(c:Bool)(x y:Bool):(bif c then some (Value.bool x,([]:List Go.Sx.ag))else some (.bool y,[]))=some (.bool (bif c then x else y),[]):=by cases c<;>rfl
def ab7(s:aa)(k own:Int):VT s k own=some (.bool (kI s k own),[]):=by
 unfold VT kI;simp only[acB]
noncomputable def adt:List (FuncId×Func):=[(87,Tryz.f87),(121,Tryz.f121),(177,Tryz.f177),(178,Tryz.f178),(179,Tryz.f179),(180,Tryz.f180),(181,Tryz.f181),(182,Tryz.f182),(183,Tryz.f183)]
def ab4:∀e∈adt,iL Tryz.prog e.1 e.2:=
 fk Tryz.func87<|fk Tryz.func121<|fk Tryz.func177<|fk Tryz.func178<|fk Tryz.func179<|fk Tryz.func180<|fk Tryz.func181<|fk Tryz.func182<|fk Tryz.func183<|jL rfl
noncomputable def Zh:Env:=tH Tryz.prog adt [] [] []
def Zg(X:Nat->Prop)(w:World)(h:X 0)(B:eB X w)(T:cB w):iA Zh X w:=l5 (λe a=>by cases a) (by kernel_rfl) ab4 jI iO h B T
def afy(s:aa)(k own:Int):(iR Zh 40 87 [s.val,.int .i64 k,.int .i64 own] []).get=VT s k own:=by kernel_rfl
def II:bZ:=λa l=>match a with|[s,.int .i64 k,.int .i64 own]=>pq s λs=>.ret (.bool (kI s k own),l)|_=>.bad
def MH(s:aa)(k own:Int):[s.val,.int .i64 k,.int .i64 own].all eX=true:=by simp[aa.val,eX,aN]
def VS:Sound Tryz.prog cB 87 II:=by
 refine Sound.pQ ⟨Tryz.func87,by kernel_rfl,by kernel_rfl⟩ rfl rfl Zg 40 λa l r h=> ?_;unfold II at h;split at h
 .obtain⟨s,rfl,b⟩:=iq h
  cases b;exact⟨rfl,MH _ _ _,rfl,by simp[undef],(afy _ _ _).trans (ab7 _ _ _)⟩
 .cases h
end
section
open Go.RowKit Go.bn Go.Sx
attribute [local go_sem ↓] Go.wp_at_zero Go.wp_at_succ
def UF:Array Value:= #[.int .u8 0,.int .u8 1,.int .u8 56,.int .u8 2,.int .u8 57,.int .u8 49,.int .u8 28,.int .u8 3,.int .u8 61,.int .u8 58,.int .u8 42,.int .u8 50,.int .u8 38,.int .u8 29,.int .u8 17,.int .u8 4,.int .u8 62,.int .u8 47,.int .u8 59,.int .u8 36,.int .u8 45,.int .u8 43,.int .u8 51,.int .u8 22,.int .u8 53,.int .u8 39,.int .u8 33,.int .u8 30,.int .u8 24,.int .u8 18,.int .u8 12,.int .u8 5,.int .u8 63,.int .u8 55,.int .u8 48,.int .u8 27,.int .u8 60,.int .u8 41,.int .u8 37,.int .u8 16,.int .u8 46,.int .u8 35,.int .u8 44,.int .u8 21,.int .u8 52,.int .u8 32,.int .u8 23,.int .u8 11,.int .u8 54,.int .u8 26,.int .u8 40,.int .u8 15,.int .u8 34,.int .u8 20,.int .u8 31,.int .u8 10,.int .u8 25,.int .u8 14,.int .u8 19,.int .u8 9,.int .u8 13,.int .u8 8,.int .u8 7,.int .u8 6]
def jm(w:World):Prop:=∃t fr,w.heap[2]?=some (.cells UF t fr)
def jm.lt{w:World}(h:jm w):2<w.heap.size:=by
 obtain⟨t,fr,h⟩:=h;exact(bk.1 h).1
def jm.mR{n:Nat->Prop}{a w:World}(h:jm a)(b:n 2)(c:Kept n a w):jm w:=by
 obtain⟨t,fr,d⟩:=h;exact⟨t,fr,(c.block 2 b).trans d⟩
def KT(k:Nat):Prop:=k=0\/k=2
def TT(w:World):Prop:=cB w/\jm w
def lg:∀(X:Nat->Prop) (w a:World),(∀k,KT k->X k)->TT w->Kept X w a->TT a:=λX w a b h c=>⟨h.1.mR (b 0 (.inl rfl)) c,h.2.mR (b 2 (.inr rfl)) c⟩
def TT.lt{w:World}(h:TT w):∀k,KT k->k<w.heap.size:=λk a=>by
 rcases a with rfl|rfl
 .exact h.1.lt
 .exact h.2.lt
def adw{f:FuncId}{F:bZ}(h:Sound Tryz.prog cB f F):JJ KT Tryz.prog TT f F:=h.toG (.inl rfl) λ_ h=>h.1
def jm.cell{w:World}(h:jm w)(j:Nat):w.cell? ⟨2,j,none⟩=UF[j]?:=by
 obtain⟨t,fr,h⟩:=h;simp[World.cell?,h]
def BF(x:Int):Int:=if x=1 then 0 else if x=2 then 1 else if x=4 then 2 else if x=8 then 3 else if x=16 then 4 else if x=32 then 5 else if x=64 then 6 else 7
def vW(x:Int):Bool:=x==1||x==2||x==4||x==8||x==16||x==32||x==64||x==128
theorem ait:IntKind.u64.wrap (bits BinOp.and IntKind.u64 1 (IntKind.u64.wrap (-1))*285870213051353865)/288230376151711744=0:=by kernel_rfl
attribute [local go_sem] ait
def aiB(w:World)(h:jm w):Calls Tryz.prog 272 #[.int .u64 1] w λe a=>e=.returned (.int .i64 0)/\w=a:=by
 have c:w.cell? ⟨2,0,none⟩=some (.int .u8 0):=h.cell 0;go_enter Tryz.func272,Tryz.ntmps272
 go_wp2;go_ret;exact⟨rfl,rfl⟩
def ak3(w:World)(h:jm w):Calls Tryz.prog 258 #[.int .u64 1] w λe a=>e=.returned (.int .i64 0)/\w=a:=by
 go_enter Tryz.func258,Tryz.ntmps258
 go_wp2_with fail
 refine(aiB _ h).mono ?_;rintro e b ⟨rfl,rfl⟩;go_wp2;go_ret;exact⟨rfl,rfl⟩
theorem ais:IntKind.u64.wrap (bits BinOp.and IntKind.u64 2 (IntKind.u64.wrap (-2))*285870213051353865)/288230376151711744=1:=by kernel_rfl
attribute [local go_sem] ais
def aiA(w:World)(h:jm w):Calls Tryz.prog 272 #[.int .u64 2] w λe a=>e=.returned (.int .i64 1)/\w=a:=by
 have c:w.cell? ⟨2,1,none⟩=some (.int .u8 1):=h.cell 1;go_enter Tryz.func272,Tryz.ntmps272
 go_wp2;go_ret;exact⟨rfl,rfl⟩
def ak2(w:World)(h:jm w):Calls Tryz.prog 258 #[.int .u64 2] w λe a=>e=.returned (.int .i64 1)/\w=a:=by
 go_enter Tryz.func258,Tryz.ntmps258
 go_wp2_with fail
 refine(aiA _ h).mono ?_;rintro e b ⟨rfl,rfl⟩;go_wp2;go_ret;exact⟨rfl,rfl⟩
theorem air:IntKind.u64.wrap (bits BinOp.and IntKind.u64 4 (IntKind.u64.wrap (-4))*285870213051353865)/288230376151711744=3:=by kernel_rfl
attribute [local go_sem] air
def aiz(w:World)(h:jm w):Calls Tryz.prog 272 #[.int .u64 4] w λe a=>e=.returned (.int .i64 2)/\w=a:=by
 have c:w.cell? ⟨2,3,none⟩=some (.int .u8 2):=h.cell 3;go_enter Tryz.func272,Tryz.ntmps272
 go_wp2;go_ret;exact⟨rfl,rfl⟩
def ak1(w:World)(h:jm w):Calls Tryz.prog 258 #[.int .u64 4] w λe a=>e=.returned (.int .i64 2)/\w=a:=by
 go_enter Tryz.func258,Tryz.ntmps258
 go_wp2_with fail
 refine(aiz _ h).mono ?_;rintro e b ⟨rfl,rfl⟩;go_wp2;go_ret;exact⟨rfl,rfl⟩
theorem aiq:IntKind.u64.wrap (bits BinOp.and IntKind.u64 8 (IntKind.u64.wrap (-8))*285870213051353865)/288230376151711744=7:=by kernel_rfl
attribute [local go_sem] aiq
def aiy(w:World)(h:jm w):Calls Tryz.prog 272 #[.int .u64 8] w λe a=>e=.returned (.int .i64 3)/\w=a:=by
 have c:w.cell? ⟨2,7,none⟩=some (.int .u8 3):=h.cell 7;go_enter Tryz.func272,Tryz.ntmps272
 go_wp2;go_ret;exact⟨rfl,rfl⟩
def ak0(w:World)(h:jm w):Calls Tryz.prog 258 #[.int .u64 8] w λe a=>e=.returned (.int .i64 3)/\w=a:=by
 go_enter Tryz.func258,Tryz.ntmps258
 go_wp2_with fail
 refine(aiy _ h).mono ?_;rintro e b ⟨rfl,rfl⟩;go_wp2;go_ret;exact⟨rfl,rfl⟩
theorem aip:IntKind.u64.wrap (bits BinOp.and IntKind.u64 16 (IntKind.u64.wrap (-16))*285870213051353865)/288230376151711744=15:=by kernel_rfl
attribute [local go_sem] aip
def aix(w:World)(h:jm w):Calls Tryz.prog 272 #[.int .u64 16] w λe a=>e=.returned (.int .i64 4)/\w=a:=by
 have c:w.cell? ⟨2,15,none⟩=some (.int .u8 4):=h.cell 15;go_enter Tryz.func272,Tryz.ntmps272
 go_wp2;go_ret;exact⟨rfl,rfl⟩
def akZ(w:World)(h:jm w):Calls Tryz.prog 258 #[.int .u64 16] w λe a=>e=.returned (.int .i64 4)/\w=a:=by
 go_enter Tryz.func258,Tryz.ntmps258
 go_wp2_with fail
 refine(aix _ h).mono ?_;rintro e b ⟨rfl,rfl⟩;go_wp2;go_ret;exact⟨rfl,rfl⟩
theorem aio:IntKind.u64.wrap (bits BinOp.and IntKind.u64 32 (IntKind.u64.wrap (-32))*285870213051353865)/288230376151711744=31:=by kernel_rfl
attribute [local go_sem] aio
def aiw(w:World)(h:jm w):Calls Tryz.prog 272 #[.int .u64 32] w λe a=>e=.returned (.int .i64 5)/\w=a:=by
 have c:w.cell? ⟨2,31,none⟩=some (.int .u8 5):=h.cell 31;go_enter Tryz.func272,Tryz.ntmps272
 go_wp2;go_ret;exact⟨rfl,rfl⟩
def akY(w:World)(h:jm w):Calls Tryz.prog 258 #[.int .u64 32] w λe a=>e=.returned (.int .i64 5)/\w=a:=by
 go_enter Tryz.func258,Tryz.ntmps258
 go_wp2_with fail
 refine(aiw _ h).mono ?_;rintro e b ⟨rfl,rfl⟩;go_wp2;go_ret;exact⟨rfl,rfl⟩
theorem ain:IntKind.u64.wrap (bits BinOp.and IntKind.u64 64 (IntKind.u64.wrap (-64))*285870213051353865)/288230376151711744=63:=by kernel_rfl
attribute [local go_sem] ain
def aiv(w:World)(h:jm w):Calls Tryz.prog 272 #[.int .u64 64] w λe a=>e=.returned (.int .i64 6)/\w=a:=by
 have c:w.cell? ⟨2,63,none⟩=some (.int .u8 6):=h.cell 63;go_enter Tryz.func272,Tryz.ntmps272
 go_wp2;go_ret;exact⟨rfl,rfl⟩
def akX(w:World)(h:jm w):Calls Tryz.prog 258 #[.int .u64 64] w λe a=>e=.returned (.int .i64 6)/\w=a:=by
 go_enter Tryz.func258,Tryz.ntmps258
 go_wp2_with fail
 refine(aiv _ h).mono ?_;rintro e b ⟨rfl,rfl⟩;go_wp2;go_ret;exact⟨rfl,rfl⟩
theorem aim:IntKind.u64.wrap (bits BinOp.and IntKind.u64 128 (IntKind.u64.wrap (-128))*285870213051353865)/288230376151711744=62:=by kernel_rfl
attribute [local go_sem] aim
def aiu(w:World)(h:jm w):Calls Tryz.prog 272 #[.int .u64 128] w λe a=>e=.returned (.int .i64 7)/\w=a:=by
 have c:w.cell? ⟨2,62,none⟩=some (.int .u8 7):=h.cell 62;go_enter Tryz.func272,Tryz.ntmps272
 go_wp2;go_ret;exact⟨rfl,rfl⟩
def akW(w:World)(h:jm w):Calls Tryz.prog 258 #[.int .u64 128] w λe a=>e=.returned (.int .i64 7)/\w=a:=by
 go_enter Tryz.func258,Tryz.ntmps258
 go_wp2_with fail
 refine(aiu _ h).mono ?_;rintro e b ⟨rfl,rfl⟩;go_wp2;go_ret;exact⟨rfl,rfl⟩
def WY:bZ:=λa l=>match a with
 |[.int .u64 x]=>.br (vW x) (.ret (.int .i64 (BF x),l)) .bad
 |_=>.bad
def aag:JJ KT Tryz.prog TT 258 WY:=by
 refine⟨⟨Tryz.f258,Tryz.func258,by kernel_rfl,by kernel_rfl⟩,λX n l B T k o r b=> ?_⟩;unfold WY at b;split at b
 .rename_i x
  rcases M.af b with⟨i,b⟩|⟨_,b⟩
  .cases b
   refine dK.pure rfl rfl λw m=> ?_;have c:jm w:=T.2.mR (l 2 (.inr rfl)) m;have d:Below w.heap.size w w:=Below.refl _ _;unfold vW at i;simp only[eV,kA]at i;rcases i with((((((h|h)|h)|h)|h)|h)|h)|h<;>subst h
   .refine(ak3 w c).mono λe f a=> ?_;obtain⟨rfl,rfl⟩:=a;exact⟨rfl,d⟩
   .refine(ak2 w c).mono λe f a=> ?_;obtain⟨rfl,rfl⟩:=a;exact⟨rfl,d⟩
   .refine(ak1 w c).mono λe f a=> ?_;obtain⟨rfl,rfl⟩:=a;exact⟨rfl,d⟩
   .refine(ak0 w c).mono λe f a=> ?_;obtain⟨rfl,rfl⟩:=a;exact⟨rfl,d⟩
   .refine(akZ w c).mono λe f a=> ?_;obtain⟨rfl,rfl⟩:=a;exact⟨rfl,d⟩
   .refine(akY w c).mono λe f a=> ?_;obtain⟨rfl,rfl⟩:=a;exact⟨rfl,d⟩
   .refine(akX w c).mono λe f a=> ?_;obtain⟨rfl,rfl⟩:=a;exact⟨rfl,d⟩
   .refine(akW w c).mono λe f a=> ?_;obtain⟨rfl,rfl⟩:=a;exact⟨rfl,d⟩
  .cases b
 .cases b
end
section
open Go.RowKit Go.bn Go.Sx
def sX(a b:Int):Int:=IntKind.u64.wrap (bits .xor .i64 a b)
def adB(s:Int):Bool:=bif decide (bA s<8)then vW (sX s (s+2^(bA s).toNat))&&(BF (sX s (s+2^(bA s).toNat))==bA s)else true
def adC(s:Int)(k:Nat):Bool:=bif s/2^k%2==1 then vW (sX s (s-2^k))&&(BF (sX s (s-2^k))==(k:Int))else true
def ZL:(List.range 256).all (λs=>adB s)=true:=by kernel_rfl
def ZM:(List.range 256).all (λs=>(List.range 8).all λk=>adC s k)=true:=by kernel_rfl
def acy{s:Int}(h:0<=s/\s<=255)(l:bA s<8):vW (sX s (s+2^(bA s).toNat))=true/\BF (sX s (s+2^(bA s).toNat))=bA s:=by
 have a:=bp.1 ZL s.toNat (eA.2 (by omega));rw[show((s.toNat:Nat):Int)=s by omega]at a;unfold adB at a;rw[cN l,pN,bj,kA]at a;exact a
def acz{s k:Int}(h:0<=s/\s<=255)(c:0<=k/\k<=7)(b:s/2^k.toNat%2=1):vW (sX s (s-2^k.toNat))=true/\BF (sX s (s-2^k.toNat))=k:=by
 have a:=bp.1 (bp.1 ZM s.toNat (eA.2 (by omega))) k.toNat (eA.2 (by omega));rw[show((s.toNat:Nat):Int)=s by omega]at a;unfold adC at a;rw[show(s/2^k.toNat%2==1)=true by rw[kA];exact b,pN,bj,kA,show((k.toNat:Nat):Int)=k by omega]at a;exact a
