/- For every input the law TopClosed returns true, and each argument reads afterwards as it did: the tied card. No condition of its own. -/
import Derived.Test.YteaflphddciglaaGreatDoorCdF
import Derived.Test.YteaflphddciglaaGreatDoorCdD
set_option linter.all false
def ox:=@Go.trodAll_cons_mk
def pH:=@Go.DataW.trod_lt
namespace Go.Proofs.YteaflphddciglaaGreatDoor.TopClosed
open Go.ChangeShapes Go.WideShapes Go.ChangeAt Go.RowKit Go.Joins Go.bn
set_option maxRecDepth 8000 in
theorem contract(H:Type)(enc:TypeId×Value->H)(W:World)(base:Nat)(args:Array Value)(ds gs:List (DataW H))(before:List MemPlace)
  (hval:∀(j:Nat) t v,Tryz.f5.params[j]?=some t->args[j]?=some v->Value.okWide Tryz.prog W .any base t v)
  (hW:DataW.Whole enc Tryz.prog Tryz.f5.params.toList Rows.topClosedSpec.vars false W args.toList ds gs before) (hL:laidMetH Tryz.prog Rows.topClosedRow.laid W):
  Calls Tryz.prog 5 args W λe W'=>∃v,e=.returned v/\Rows.topClosedSpec.post enc Tryz.prog Tryz.f5 false true false false W args v W':=by
 have hW':=hW;obtain⟨p,q,hA0,hV,rfl,hfz,hnd⟩:=hW;have hA:DataW.TrodAll enc Tryz.prog W 0 (λ_=>true) true Tryz.f5.params.toList args.toList ds p:=hA0;rw[Tryz.params5]at hA hval;obtain⟨v0,vs0,d0,ds0,p0,q0,hargs,rfl,rfl,h0,r0⟩:=trodAll_cons hA;obtain⟨v1,vs1,d1,ds1,p1,q1,rfl,rfl,rfl,h1,r1⟩:=trodAll_cons r0;obtain⟨v2,vs2,d2,ds2,p2,q2,rfl,rfl,rfl,h2,r2⟩:=trodAll_cons r1;obtain⟨v3,vs3,d3,ds3,p3,q3,rfl,rfl,rfl,h3,r3⟩:=trodAll_cons r2;obtain⟨v4,vs4,d4,ds4,p4,q4,rfl,rfl,rfl,h4,r4⟩:=trodAll_cons r3;obtain⟨rfl,rfl,rfl⟩:=trodAll_nil r4;obtain rfl:args= #[v0,v1,v2,v3,v4]:=by cases args;simp_all
 obtain⟨rfl,rfl⟩:=trodVars_none hV;have k0:=h0;have lt0:∀x∈p0,x.block<W.heap.size:=by obtain⟨m,hm⟩:=k0;exact pH m _ _ _ hm
 have k1:=h1;have lt1:∀x∈p1,x.block<W.heap.size:=by obtain⟨m,hm⟩:=k1;exact pH m _ _ _ hm
 have k2:=h2;have lt2:∀x∈p2,x.block<W.heap.size:=by obtain⟨m,hm⟩:=k2;exact pH m _ _ _ hm
 have k3:=h3;have lt3:∀x∈p3,x.block<W.heap.size:=by obtain⟨m,hm⟩:=k3;exact pH m _ _ _ hm
 have k4:=h4;have lt4:∀x∈p4,x.block<W.heap.size:=by obtain⟨m,hm⟩:=k4;exact pH m _ _ _ hm
 obtain⟨ga0,gb0,gc0,gd0,ge0,rfl,ha0,hb0,hc0,hd0,he0⟩:=bq.Pe (hval 0 23 v0 rfl rfl) h0;obtain⟨m1,hm1⟩:=h1;obtain⟨_,_,_,rfl⟩:=okWide_slice Tryz.underlying24 (hval 1 24 v1 rfl rfl);obtain⟨_,_,_,_,ee1,kk1,rr1⟩:=bq.Vm hm1;cases ee1;obtain⟨m2,hm2⟩:=h2;obtain⟨_,_,_,rfl⟩:=okWide_slice Tryz.underlying25 (hval 2 25 v2 rfl rfl);obtain⟨_,_,_,_,ee2,kk2,rr2⟩:=bq.Vn hm2;cases ee2;obtain⟨x3,rfl,rfl,rfl,wx3⟩:=open_int Tryz.underlying5 (hval 3 5 v3 rfl rfl) h3;have b3:=sQ wx3;obtain⟨x4,rfl,rfl,rfl⟩:=open_bool Tryz.underlying4 (hval 4 4 v4 rfl rfl) h4;clear hA0;have hT:TT W:=tables hL;refine(bq.anR ⟨ha0.1,ha0.2⟩ ⟨hb0.1,hb0.2⟩ ⟨hc0.1,hc0.2⟩ ⟨hd0.1,hd0.2⟩ ⟨he0.1,he0.2⟩ ⟨b3.1,b3.2⟩ bq.WU W hT (bq.aah kk1 rr1) (bq.aa' kk2 rr2)).mono λe W' ⟨he,qZ⟩=> ?_;subst he;exact⟨_,rfl,_,_,_,[],_,[],hW',trodAll_mk1 (shut_bool Tryz.underlying4 _),(ox (Below.trod laidOut (by kernel_rfl) (ij (by kernel_rfl)) k0 qZ lt0) (ox (Below.trod laidOut (by kernel_rfl) (ij (by kernel_rfl)) k1 qZ lt1) (ox (Below.trod laidOut (by kernel_rfl) (ij (by kernel_rfl)) k2 qZ lt2) (ox (Below.trod laidOut (by kernel_rfl) (ij (by kernel_rfl)) k3 qZ lt3) (ox (Below.trod laidOut (by kernel_rfl) (ij (by kernel_rfl)) k4 qZ lt4) trodAll_mk0))))),rfl,qZ.frame _,λh=>by cases h⟩
theorem abA(os:Os):laidMet Tryz.prog Rows.topClosedRow.laid ((Ay os).forCall (λ_ _=>0) ⟨#[], #[.agg #[.int .u8 0,.int .u8 0,.int .u8 0,.int .u8 0,.int .u8 0],.slice none 0 0,.slice none 0 0,.int .u8 0,.bool false],[]⟩).memory:=
 laidMet_of_run' 8 (by kernel_rfl) (by kernel_rfl)
theorem reads(os:Os){H:Type}(enc:TypeId×Value->H):∃places,DataW.whole enc Tryz.prog ((Ay os).forCall (λ_ _=>0) ⟨#[], #[.agg #[.int .u8 0,.int .u8 0,.int .u8 0,.int .u8 0,.int .u8 0],.slice none 0 0,.slice none 0 0,.int .u8 0,.bool false],[]⟩).memory Tryz.f5.params.toList Rows.topClosedSpec.vars false (#[.agg #[.int .u8 0,.int .u8 0,.int .u8 0,.int .u8 0,.int .u8 0],.slice none 0 0,.slice none 0 0,.int .u8 0,.bool false]:Array Value).toList 8=some ([.agg [.lit (.int .u8 0),.lit (.int .u8 0),.lit (.int .u8 0),.lit (.int .u8 0),.lit (.int .u8 0)],.nil,.nil,.lit (.int .u8 0),.lit (.bool false)],[],places):=
 ⟨[],by kernel_rfl⟩
set_option maxRecDepth 100000 in
theorem lifted(os:Os)(started:os.Started)(H:Type)(enc:TypeId×Value->H)(F:Stop.Interp):
  ReturnsInHanded {} Tryz.checked os 5 .any ((OpenSpec.ofChange Rows.topClosedSpec).preRow enc Tryz.prog Tryz.f5 Rows.topClosedRow.domain false Rows.topClosedRow.laid) (((OpenSpec.ofChange Rows.topClosedSpec).at F).post enc Tryz.prog Tryz.f5 false true false false):=by
 obtain⟨places,hx⟩:=reads os enc
 refine returnsInHanded_of_row (C:=Tryz.checked) (s:=OpenSpec.ofChange Rows.topClosedSpec) own started (by kernel_rfl) Tryz.func5
  (witness_row_at (enc:=enc) (C:=Tryz.checked) false (Ay os) #[.agg #[.int .u8 0,.int .u8 0,.int .u8 0,.int .u8 0,.int .u8 0],.slice none 0 0,.slice none 0 0,.int .u8 0,.bool false] rfl (by kernel_rfl) (by kernel_rfl) (by kernel_rfl)
   (OpenSpec.preRow_of_cond 8 hx (by kernel_rfl) (λk hk=>by cases hk) (by kernel_rfl) (abA os))) ?_
 intro W base args ds gs before hval hW _ _ _ hL _ _;exact contract H enc W base args ds gs before hval hW hL
set_option maxHeartbeats 8000000 in
theorem closed:joinedFacts Tryz.pinned.checked.prog 5 Tryz.f5 (OpenSpec.ofChange Rows.topClosedSpec).bare Rows.topClosedRow=true:=by
 unfold joinedFacts;simp only[bj];repeat' apply And.intro
 all_goals (as_aux_lemma=>kernel_rfl)
theorem named:Tryz.pinned.checked.prog.funcNamed Rows.topClosedRow.func=some 5:=by kernel_rfl
theorem inst:Tryz.f5.isInstance Tryz.pinned.checked.prog Rows.topClosedRow.origin Rows.topClosedRow.targs:=ij (by kernel_rfl)
theorem wrapper:Tryz.f5.isWrapper Tryz.pinned.checked.prog Rows.topClosedRow.wrapper Rows.topClosedRow.mainSum:=by unfold Func.isWrapper;first|(rw[if_pos (by decide +kernel)];kernel_rfl)|(rw[if_neg (by decide +kernel)];exact⟨rfl,rfl⟩)
theorem said:Rows.TopClosedSaid:=
 OpenClaim.holds_of_cond 5 Tryz.f5 rfl rfl rfl rfl rfl rfl rfl ⟨rfl,rfl,rfl,rfl,rfl⟩ rfl rfl rfl rfl rfl named Tryz.func5 closed inst wrapper
  (λos started H enc _ F=>by rw[OpenClaim.pre_eq_preRow];exact lifted os started H enc F)
theorem plain(f:FuncId)(fn:Func)(hf:Tryz.pinned.checked.prog.funcNamed "coachhouse/coachhousetop.TopClosed" =some f)(hfn:Tryz.pinned.checked.prog.funcs[f]?=some fn):
  false=Tryz.pinned.checked.prog.looks []/\∀(j:Nat) t,fn.params[j]?=some t->Tryz.pinned.checked.prog.wantsStandIn t=false:=by
 obtain rfl:f=5:=b9 ((show Tryz.prog.funcNamed "coachhouse/coachhousetop.TopClosed" =some 5 by kernel_rfl).symm.trans hf) |>.symm;obtain rfl:fn=Tryz.f5:=(b9 (Tryz.func5.symm.trans hfn)).symm;refine⟨by kernel_rfl,λj t ht=> ?_⟩;rw[Tryz.params5]at ht;have hm:=nq ht;simp only[sE,db,List.not_mem_nil,or_false]at hm;rcases hm with rfl|rfl|rfl|rfl|rfl
 .exact(show Tryz.prog.wantsStandIn 23=false by kernel_rfl)
 .exact(show Tryz.prog.wantsStandIn 24=false by kernel_rfl)
 .exact(show Tryz.prog.wantsStandIn 25=false by kernel_rfl)
 .exact(show Tryz.prog.wantsStandIn 5=false by kernel_rfl)
 .exact(show Tryz.prog.wantsStandIn 4=false by kernel_rfl)
theorem proved:Rows.TopClosedCardSaid:=
 Claim7.holds_tied_plain_at .later [] _ _ _ _ said (λ_ h=>by cases h) (by kernel_rfl) (λ_ h=>by cases h) topClosed_row_tie rfl ⟨rfl,rfl⟩ (by kernel_rfl) rfl plain (by kernel_rfl)
