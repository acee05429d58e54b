/- For every input the law TopFair returns true, and each argument reads afterwards as it did: the tied card. No condition of its own. -/
import Derived.Test.YteaflphddciglaaGreatDoorCdF
import Derived.Test.YteaflphddciglaaGreatDoorCdD
set_option linter.all false
namespace Go.Proofs.YteaflphddciglaaGreatDoor.TopFair
open Go.ChangeShapes Go.WideShapes Go.ChangeAt Go.RowKit Go.Joins Go.bn
set_option maxRecDepth 8000 in
def contract(H:Type)(n:TypeId×Value->H)(W:World)(d:Nat)(a:Array Value)(K gs:List (DataW H))(c:List MemPlace)
  (b:∀(j:Nat) t v,Tryz.f4.params[j]?=some t->a[j]?=some v->Value.okWide Tryz.prog W .any d t v)
  (L:DataW.Whole n Tryz.prog Tryz.f4.params.toList Rows.topFairSpec.vars false W a.toList K gs c) (hL:laidMetH Tryz.prog Rows.topFairRow.laid W):
  Calls Tryz.prog 4 a W λe N=>∃v,e=.returned v/\Rows.topFairSpec.post n Tryz.prog Tryz.f4 false true false false W a v N:=by
 have s:=L;obtain⟨p,q,A,hV,rfl,ac,am⟩:=L;have O:DataW.TrodAll n Tryz.prog W 0 (λ_=>true) true Tryz.f4.params.toList a.toList K p:=A;rw[Tryz.params4]at O b;obtain⟨P,ao,d0,ar,p0,q0,u,rfl,rfl,Q,r0⟩:=trodAll_cons O;obtain⟨R,bi,d1,bm,p1,q1,rfl,rfl,rfl,S,r1⟩:=trodAll_cons r0;obtain⟨T,bv,d2,ca,p2,q2,rfl,rfl,rfl,U,r2⟩:=trodAll_cons r1;obtain⟨rfl,rfl,rfl⟩:=trodAll_nil r2;obtain rfl:a= #[P,R,T]:=by cases a;simp_all
 obtain⟨rfl,rfl⟩:=trodVars_none hV;have V:=Q;have w:∀x∈p0,x.block<W.heap.size:=by obtain⟨m,f⟩:=V;exact DataW.trod_lt m _ _ _ f
 have X:=S;have y:∀x∈p1,x.block<W.heap.size:=by obtain⟨m,f⟩:=X;exact DataW.trod_lt m _ _ _ f
 have Y:=U;have z:∀x∈p2,x.block<W.heap.size:=by obtain⟨m,f⟩:=Y;exact DataW.trod_lt m _ _ _ f
 obtain⟨cb,ce,co,d5,d6,rfl,i,k,l,o,r⟩:=bq.Pe (b 0 23 P rfl rfl) Q;obtain⟨m1,B⟩:=S;obtain⟨_,_,_,rfl⟩:=okWide_slice Tryz.underlying24 (b 1 24 R rfl rfl);obtain⟨_,_,_,_,C,D,E⟩:=bq.Vm B;cases C;obtain⟨m2,F⟩:=U;obtain⟨_,_,_,rfl⟩:=okWide_slice Tryz.underlying25 (b 2 25 T rfl rfl);obtain⟨_,_,_,_,G,I,J⟩:=bq.Vn F;cases G;clear A;have hT:TT W:=tables hL;refine(bq.aqG ⟨i.1,i.2⟩ ⟨k.1,k.2⟩ ⟨l.1,l.2⟩ ⟨o.1,o.2⟩ ⟨r.1,r.2⟩ bq.WU W hT (bq.aah D E) (bq.aa' I J)).mono λe N ⟨he,Z⟩=> ?_;subst he;exact⟨_,rfl,_,_,_,[],_,[],s,trodAll_mk1 (shut_bool Tryz.underlying4 _),(trodAll_cons_mk (Below.trod laidOut (by kernel_rfl) (ij (by kernel_rfl)) V Z w) (trodAll_cons_mk (Below.trod laidOut (by kernel_rfl) (ij (by kernel_rfl)) X Z y) (trodAll_cons_mk (Below.trod laidOut (by kernel_rfl) (ij (by kernel_rfl)) Y Z z) trodAll_mk0))),rfl,Z.frame _,λh=>by cases h⟩
def abA(o:Os):laidMet Tryz.prog Rows.topFairRow.laid ((Ay o).forCall (λ_ _=>0) ⟨#[], #[.agg #[.int .u8 0,.int .u8 0,.int .u8 0,.int .u8 0,.int .u8 0],.slice none 0 0,.slice none 0 0],[]⟩).memory:=
 laidMet_of_run' 8 (by kernel_rfl) (by kernel_rfl)
def reads(o:Os){H:Type}(e:TypeId×Value->H):∃places,DataW.whole e Tryz.prog ((Ay o).forCall (λ_ _=>0) ⟨#[], #[.agg #[.int .u8 0,.int .u8 0,.int .u8 0,.int .u8 0,.int .u8 0],.slice none 0 0,.slice none 0 0],[]⟩).memory Tryz.f4.params.toList Rows.topFairSpec.vars false (#[.agg #[.int .u8 0,.int .u8 0,.int .u8 0,.int .u8 0,.int .u8 0],.slice none 0 0,.slice none 0 0]:Array Value).toList 8=some ([.agg [.lit (.int .u8 0),.lit (.int .u8 0),.lit (.int .u8 0),.lit (.int .u8 0),.lit (.int .u8 0)],.nil,.nil],[],places):=
 ⟨[],by kernel_rfl⟩
set_option maxRecDepth 100000 in
def lifted(o:Os)(a:o.Started)(H:Type)(e:TypeId×Value->H)(F:Stop.Interp):
  ReturnsInHanded {} Tryz.checked o 4 .any ((OpenSpec.ofChange Rows.topFairSpec).preRow e Tryz.prog Tryz.f4 Rows.topFairRow.domain false Rows.topFairRow.laid) (((OpenSpec.ofChange Rows.topFairSpec).at F).post e Tryz.prog Tryz.f4 false true false false):=by
 obtain⟨places,x⟩:=reads o e
 refine returnsInHanded_of_row (C:=Tryz.checked) (s:=OpenSpec.ofChange Rows.topFairSpec) own a (by kernel_rfl) Tryz.func4
  (witness_row_at (enc:=e) (C:=Tryz.checked) false (Ay o) #[.agg #[.int .u8 0,.int .u8 0,.int .u8 0,.int .u8 0,.int .u8 0],.slice none 0 0,.slice none 0 0] rfl (by kernel_rfl) (by kernel_rfl) (by kernel_rfl)
   (OpenSpec.preRow_of_cond 8 x (by kernel_rfl) (λk d=>by cases d) (by kernel_rfl) (abA o))) ?_
 intro W c r f i b h l _ _ _ L _ _;exact contract H e W c r f i b h l L
set_option maxHeartbeats 8000000 in
def closed:joinedFacts Tryz.pinned.checked.prog 4 Tryz.f4 (OpenSpec.ofChange Rows.topFairSpec).bare Rows.topFairRow=true:=by
 unfold joinedFacts;simp only[bj];repeat' apply And.intro
 all_goals (as_aux_lemma=>kernel_rfl)
def named:Tryz.pinned.checked.prog.funcNamed Rows.topFairRow.func=some 4:=by kernel_rfl
def inst:Tryz.f4.isInstance Tryz.pinned.checked.prog Rows.topFairRow.origin Rows.topFairRow.targs:=ij (by kernel_rfl)
def wrapper:Tryz.f4.isWrapper Tryz.pinned.checked.prog Rows.topFairRow.wrapper Rows.topFairRow.mainSum:=by unfold Func.isWrapper;first|(rw[tz (by decide +kernel)];kernel_rfl)|(rw[ck (by decide +kernel)];exact⟨rfl,rfl⟩)
def said:Rows.TopFairSaid:=
 OpenClaim.holds_of_cond 4 Tryz.f4 rfl rfl rfl rfl rfl rfl rfl ⟨rfl,rfl,rfl,rfl,rfl⟩ rfl rfl rfl rfl rfl named Tryz.func4 closed inst wrapper
  (λo s H e _ F=>by rw[OpenClaim.pre_eq_preRow];exact lifted o s H e F)
theorem plain(f:FuncId)(n:Func)(b:Tryz.pinned.checked.prog.funcNamed "coachhouse/coachhousetop.TopFair" =some f)(h:Tryz.pinned.checked.prog.funcs[f]?=some n):
  false=Tryz.pinned.checked.prog.looks []/\∀(j:Nat) t,n.params[j]?=some t->Tryz.pinned.checked.prog.wantsStandIn t=false:=by
 obtain rfl:f=4:=b9 ((show Tryz.prog.funcNamed "coachhouse/coachhousetop.TopFair" =some 4 by kernel_rfl).symm.trans b) |>.symm;obtain rfl:n=Tryz.f4:=(b9 (Tryz.func4.symm.trans h)).symm;refine⟨by kernel_rfl,λj t a=> ?_⟩;rw[Tryz.params4]at a;have m:=tS a;simp only[sE,db,List.not_mem_nil,or_false]at m;rcases m with rfl|rfl|rfl
 .exact(show Tryz.prog.wantsStandIn 23=false by kernel_rfl)
 .exact(show Tryz.prog.wantsStandIn 24=false by kernel_rfl)
 .exact(show Tryz.prog.wantsStandIn 25=false by kernel_rfl)
theorem proved:Rows.TopFairCardSaid:=
 Claim7.holds_tied_plain_at .later [] _ _ _ _ said (λ_ h=>by cases h) (by kernel_rfl) (λ_ h=>by cases h) topFair_row_tie rfl ⟨rfl,rfl⟩ (by kernel_rfl) rfl plain (by kernel_rfl)
