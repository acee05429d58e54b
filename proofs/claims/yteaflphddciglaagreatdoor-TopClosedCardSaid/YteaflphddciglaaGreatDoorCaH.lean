/- Laws of the proof, joined. No condition of its own. -/
import Derived.Test.YteaflphddciglaaGreatDoorCaG
import Derived.Test.YteaflphddciglaaGreatDoorCaD
set_option linter.all false
def cN:=@decide_eq_true
def g9:=@Int.tmod_eq_emod_of_nonneg
def j0:=@beq_eq_false_iff_ne
def j8:=@Int.toNat_of_nonneg
def kA:=@beq_iff_eq
def na:=@beq_false_of_ne
def nq:=@Array.mem_of_getElem?
def nF:=@Bool.cond_eq_ite
def oS:=@cond_false
def rB:=@Bool.not_not
namespace Go.Sx
open Go Go.RowKit
def eX:Value->Bool
 | .agg c=>c.all aN
 |v=>aN v
theorem VR.jS{σ:Nat->Option Pl}{v v':Value}(h:VR σ v v')(hp:eX v=true):v'=v:=by
 unfold eX at hp;split at hp
 .rename_i c
  cases h with
  |agg hs hh=>
   have:=(show dY σ _ _ from⟨hs,hh⟩).kP (λx hx=>by
    rw[jN]at hp;obtain⟨i,hi,rfl⟩:=ff.1 hx;simpa using hp i (by simpa using hi))
   rw[this]
 .exact h.aD hp
theorem dY.jS{σ:Nat->Option Pl}{args:List Value}{args':Array Value}(h:dY σ args.toArray args')(hp:args.all eX=true):args'=args.toArray:=by
 refine Array.ext h.1.symm λi h1 h2=> ?_;have hv:=h.2 i _ _ (cj h2) (cj h1);rw[bp]at hp;exact hv.jS (hp _ (by simp))
theorem dK.pure{P:Program}{n:Nat->Prop}{w0:World}{G:Kj}{f:FuncId}{args:List Value}{lh:List ag}{v:Value}(ha:args.all eX=true)(hv:plain v=true)
  (h:∀w,Kept n w0 w->Calls P f args.toArray w λe w'=>e=.returned v/\Below w.heap.size w w'):dK P n w0 G f args lh (v,lh):=by
 refine⟨bu.refl _,λσ w args' hr hargs=> ?_⟩;rw[hargs.jS ha];refine(h w hr.below).mono λe w' hh=> ?_;obtain⟨rfl,hb⟩:=hh;exact⟨v,rfl,σ,Ext.refl _ _,VR.plain σ hv,hr.kept hb⟩
theorem VR.kP{σ:Nat->Option Pl}{v v':Value}(h:VR σ v v')(hp:Go.Sx.plain v=true)(hne:v≠undef):v'=v:=by
 have arr:∀c c':Array Value,dY σ c c'->c.all Go.Sx.aN=true->c'=c:=λc c' hv hc=>hv.kP (λx hx=>by
  rw[jN]at hc;obtain⟨i,hi,rfl⟩:=ff.1 hx;simpa using hc i (by simpa using hi))
 unfold Go.Sx.plain at hp;split at hp
 .rename_i c
  cases h with
  |agg hs hh=>rw[arr _ _ ⟨hs,hh⟩ hp]
 .rename_i c
  cases h with
  |any=>exact absurd rfl hne
  |tuple hs hh=>
   rename_i c';have:c'=c:=by
    refine Array.ext hs.symm λi h1 h2=> ?_;have hv:=hh i _ _ (cj h2) (cj h1);rw[jN]at hp;have hpi:=hp i h2;split at hpi
    .rename_i d hd
     rw[hd]at hv ⊢;generalize c'[i]=y at hv;cases hv with
     |agg hs hh=>rw[arr _ _ ⟨hs,hh⟩ hpi]
    .exact hv.aD hpi
   rw[this]
 .exact h.aD hp
theorem Ww{E:Env}{n:Nat->Prop}{w0:World}(hE:iA E n w0){fuel f:Nat}{args:List Value}{lh:List ag}{v:Value}(h:(call E fuel f args lh).run (Option Value) none (fun r=>some r.1)=some v)(hv:Go.Sx.plain v=true)(hne:v≠undef)
  {σ:Nat->Option Pl} {w:World} {args':Array Value} (hr:HR n w0 E.G σ lh w) (ha:dY σ args.toArray args'):Calls E.P f args' w λe w'=>e=.returned v/\Kept n w0 w':=by
 rw[M.run_eq]at h;cases hx:(call E fuel f args lh).get with
 |none=>rw[hx]at h;cases h
 |some r=>
  rw[hx]at h;simp only[Option.elim_some,cq]at h;obtain⟨_,_,hc⟩:=sO hE fuel f args lh r hx;refine(hc σ w args' hr ha).mono λe w' hh=> ?_;obtain⟨v',rfl,σ',_,kS,hr'⟩:=hh;rw[h]at kS;rw[VR.kP kS hv hne];exact⟨rfl,hr'.below⟩
end Go.Sx
namespace Go.Proofs.YteaflphddciglaaGreatDoor
open Go.RowKit Go.bn Go.Sx
theorem cB.mR{n:Nat->Prop}{w0 w:World}(h:cB w0)(hn:n 0)(hb:Kept n w0 w):cB w:=by
 obtain⟨t,fr,h'⟩:=h;exact⟨t,fr,(hb.block 0 hn).trans h'⟩
theorem Sound.pure{f:FuncId}{fn:Func}(hf:iL Tryz.prog f fn){F:bZ}(h:∀args lh r,(F args lh).get=some r->r.2=lh/\args.all eX=true/\Go.Sx.plain r.1=true/\∀w,cB w->Calls Tryz.prog f args.toArray w λe w'=>e=.returned r.1/\Below w.heap.size w w'):Sound Tryz.prog cB f F:=by
 refine⟨⟨fn,hf⟩,λX w0 h0 hB hT args lh r hr=> ?_⟩;obtain⟨rfl,h1,h2,h3⟩:=h args lh r hr;exact dK.pure h1 h2 λw hk=>h3 w (hT.mR h0 hk)
def OG:List Value->Option aa
 |[.int .i64 a,.int .i64 b,.int .i64 c,.bool d,.bool e,.int .i64 f,.int .i64 g,.int .i64 h,.int .i64 i]=>some ⟨a,b,c,d,e,f,g,h,i⟩
 |_=>none
theorem Rq{c:Array Value}{s:aa}(h:OG c.toList=some s):Value.agg c=s.val:=by
 unfold OG at h;split at h
 .rename_i hc
  cases h;unfold aa.val;congr 1;exact e8.1 hc
 .cases h
def pq{α:Type}(v:Value)(F:aa->M α):M α:=
 match v with
 | .agg c=>match OG c.toList with
  |some s=>F s
  |none=>.bad
 |_=>.bad
theorem iq{α:Type}{v:Value}{F:aa->M α}{x:α}(h:(pq v F).get=some x):∃s,v=s.val/\(F s).get=some x:=by
 unfold pq at h;split at h
 .split at h
  .rename_i hc
   exact⟨_,Rq hc,h⟩
  .cases h
 .cases h
def FK(o:Option Int):Value:=.tuple #[.int .i64 (o.getD 0),.bool o.isSome]
theorem aeN(o:Option Int):DV o=FK o:=Ad o
theorem aa.Yh(s:aa):eX s.val=true:=by simp[aa.val,eX,aN]
theorem Dl(s:aa):[s.val].all eX=true:=by simp[aa.Yh]
theorem Ht(o:Option Int):plain (FK o)=true:=by simp[FK,plain,aN]
theorem kG(o:Option aa):plain (gP o)=true:=by simp[gP,plain,aN,aa.val]
theorem dY.plain{σ:Nat->Option Pl}(l:List Value)(h:l.all Go.Sx.plain=true):dY σ l.toArray l.toArray:=by
 refine⟨rfl,λi x y hx hy=> ?_⟩;obtain rfl:x=y:=b9 (hx.symm.trans hy);rw[bp]at h;exact VR.plain σ (h x (by simpa using nq hx))
theorem Fx{w:World}:HR (· <w.heap.size) w 0 (λ_=>none) [] w:=
 ⟨λ_ h=>h,Kept.refl _ _,iB.no (λk p h=>by cases h),λk p h=>(by cases h),λk p h=>(by cases h),λk k' p p' h=>(by cases h),λk p h=>(by cases h)⟩
theorem Wv{E:Env}{w:World}(hE:iA E (· <w.heap.size) w)(hG:E.G=0){fuel f:Nat}{args:List Value}{v:Value}(h:(call E fuel f args []).run (Option Value) none (fun r=>some r.1)=some v)(hv:Go.Sx.plain v=true)(hne:v≠undef)(ha:args.all Go.Sx.plain=true):
  Calls E.P f args.toArray w λe w'=>e=.returned v/\Below w.heap.size w w':=by
 have hr:HR (· <w.heap.size) w E.G (λ_=>none) [] w:=by rw[hG];exact Fx
 exact(Ww hE h hv hne hr (dY.plain args ha)).mono λe w' hh=>⟨hh.1,hh.2.below⟩
theorem Gr(w:World):eB (· <w.heap.size) w:=λ_ h=>h
end Go.Proofs.YteaflphddciglaaGreatDoor
namespace Go.Proofs.YteaflphddciglaaGreatDoor
section
open Go.RowKit Go.bn Go.Sx
def bA(n:Int):Int:=if n%2≠1 then 0 else if n/2%2≠1 then 1 else if n/4%2≠1 then 2 else if n/8%2≠1 then 3 else if n/16%2≠1 then 4 else if n/32%2≠1 then 5 else if n/64%2≠1 then 6 else if n/128%2≠1 then 7 else 8
def dU(s:aa)(st own:Int):aa:=⟨st,own,0,false,false,0,s.gen,0,s.cz⟩
def fM(s:aa)(own:Int):aa:=⟨3,own,0,s.brk,false,if 63<s.uses+1 then 63 else s.uses+1,(s.gen+1)%4096,0,s.cz⟩
def row0(s:aa)(own:Int):Option aa:=if s.st=0 then some (dU s 1 own)else none
def yB(s:aa)(own:Int):Option aa:=if s.st=1/\s.own=own then some (fM (dU s 1 own) own)else none
def Ce(s:aa)(own:Int):Option aa:=if s.st=1/\s.own=own then some (dU s 0 0)else none
def uU(s:aa)(own:Int):Option aa:=if s.st=2/\s.brk=false then some (fM s own)else none
def yA(s:aa)(own:Int):Option aa:=if s.st=3/\s.own=own/\s.str=0 then some {s with st:=2}else none
def yz(s:aa)(own:Int):Option aa:=if s.st=2/\s.brk=false then some {s with st:=4,own:=own,fO:=false}else none
def yx(s:aa)(own:Int):Option aa:=if s.st=4 then some {s with st:=2,own:=own}else none
def yu(s:aa)(own:Int):Option aa:=if s.st=0 then some (dU s 5 own)else none
def oK(s:aa):Option aa:=if s.st=5 then some (dU s 0 0)else none
def Cc(s:aa)(own:Int):Option aa:=if s.st=2 then some {s with own:=own}else none
def xu(s:aa):Option aa:=if s.st=2/\s.fO=false then some {s with fO:=true}else none
def tq(s:aa)(more:Int):Option aa:=if(s.st=2\/s.st=3)/\0<=more/\more<=4095 then some {dU s 6 0 with ep:=more}else none
def xq(s:aa):Option aa:=if s.st=6 then some (dU s 0 0)else none
def xm(s:aa):Option aa:=if(s.st=2\/s.st=3\/s.st=4)/\s.brk=false then some {s with brk:=true}else none
def aZ(s:aa)(own more:Int):Option aa:=if s.st=3/\s.own=own/\s.brk=false/\bA s.str<more/\bA s.str<8 then some {s with str:=s.str+2^(bA s.str).toNat}else none
def vH(s:aa)(own more:Int):Option aa:=if s.st=3/\s.own=own/\0<=more/\more<=7/\s.str/2^more.toNat%2=1 then some {s with str:=s.str-2^more.toNat}else none
def sZ(s:aa)(own:Int):Option aa:=if s.st=4/\s.own=own then some (fM s own)else if s.st=5/\s.own=own then some (dU s 1 own)else none
def xk(s:aa)(more:Int):Option aa:=if s.st=6/\0<=more/\more<=4095 then some {s with ep:=more}else none
def uT(s:aa)(k own more:Int):Option aa:=
 if k=0 then row0 s own else if k=1 then yB s own else if k=2 then Ce s own else if k=3 then uU s own else if k=4 then yA s own else if k=5 then yz s own else
 if k=6 then yx s own else if k=7 then yu s own else if k=8 then oK s else if k=9 then Cc s own else if k=10 then xu s else if k=11 then tq s more else
 if k=12 then xq s else if k=13 then xm s else if k=14 then aZ s own more else if k=15 then vH s own more else if k=16 then sZ s own else if k=17 then xk s more else none
def az(s:aa)(k own more:Int):Option aa:=
 if di s=true/\0<=own/\own<=15 then(uT s k own more).map λt=>{t with cz:=(s.cz+1)%32768}else none
theorem kN{s:aa}:di s=true↔Facts s:=by
 obtain⟨a,b,c,d,e,f,g,h,i⟩:=s;constructor
 .intro hr
  simp only[di,kH,fr,bj,dj,eI,Bool.or_eq_false_iff,eV,kA]at hr;obtain⟨⟨⟨⟨⟨⟨⟨⟨h1,h2⟩,h3⟩,h4⟩,h5⟩,h6⟩,h7⟩,⟨⟨h8,h9⟩,h10⟩,h11⟩,h12,CZ⟩:=hr;refine⟨h1,h2,h3,h4,h5,h6,h7,?_,?_,?_,?_,h12,CZ⟩
  .show c=0\/a=3
   by_cases h3':a=3
   .exact .inr h3'
   .left;simp[h3']at h8;have:0<=c:=h3.1;omega
  .cases d
   .exact .inl rfl
   .right
    by_cases hl:a=2\/a=3\/a=4
    .exact hl
    .have q:(a==2||a==3||a==4)=false:=by
      rw[sx];intro hq;simp[or_assoc]at hq;exact hl hq
     rw[q]at h9;cases h9
  .show f=0\/a=2\/a=3\/a=4
   by_cases hl:a=2\/a=3\/a=4
   .exact .inr hl
   .left
    have q:(a==2||a==3||a==4)=false:=by
     rw[sx];intro hq;simp[or_assoc]at hq;exact hl hq
    rw[q]at h10;simp at h10;have:0<=f:=h4.1;omega
  .cases e
   .exact .inl rfl
   .right;simpa using h11
 .rintro⟨h1,h2,h3,h4,h5,h6,h7,h8,h9,h10,h11,h12,CZ⟩
  simp only at h1 h2 h3 h4 h5 h6 h7 h8 h9 h10 h11 h12 CZ;simp only[di,kH,fr,bj,dj,eI,Bool.or_eq_false_iff,eV,kA];refine⟨⟨⟨⟨⟨⟨⟨⟨h1,h2⟩,h3⟩,h4⟩,h5⟩,h6⟩,h7⟩,⟨⟨?_,?_⟩,?_⟩,?_⟩,h12,CZ⟩
  .rcases h8 with h|h<;>simp[h]
  .rcases h9 with h|h|h|h<;>simp[h]
  .rcases h10 with h|h|h|h<;>simp[h]
  .rcases h11 with h|h<;>simp[h]
theorem wrap_small{k:Int}(h0:0<=k)(h1:k<9223372036854775808):IntKind.i64.wrap k=k:=by
 simp[IntKind.wrap,IntKind.signed,IntKind.bits];omega
def yes(s:aa):Option Value:=some (gP (some s))
def no:Option Value:=some (gP none)
theorem abd{s:aa}{k own more:Int}{X:Option Value}(h:Facts s->0<=own->own<=15->X=some (gP ((uT s k own more).map fun t=>{t with cz:=(s.cz+1)%32768}))):
  (bif !di s then no else bif decide (own<0)then no else bif decide (own>15)then no else X)=some (gP (az s k own more)):=by
 unfold az;cases hr:di s with
 |false=>simp[no]
 |true=>
  by_cases h0:own<0
  .simp[h0,no,show¬0<=own by omega]
  .by_cases h1:own>15
   .simp[h0,h1,no,show¬own<=15 by omega]
   .rw[if_pos ⟨rfl,by omega,by omega⟩]
    simp only[Bool.not_true,oS,cT h0,cT h1];exact h (kN.1 hr) (by omega) (by omega)
end
section
open Go.RowKit Go.bn
attribute [local go_sem ↓] Go.wp_at_zero Go.wp_at_succ GY
theorem U1(a b c:Int)(d e:Bool)(f g h i:Int)(w:World)(hT:cB w):
  Calls Tryz.prog 98 #[.agg #[.int .i64 a,.int .i64 b,.int .i64 c,.bool d,.bool e,.int .i64 f,.int .i64 g,.int .i64 h,.int .i64 i]] w λen w'=>en=.returned (.bool (encS ⟨a,b,c,d,e,f,g,h,i⟩).isSome)/\Below w.heap.size w w':=by
 have hT1:cB (w.alloc (.cells #[.int .i64 a,.int .i64 b,.int .i64 c,.bool d,.bool e,.int .i64 f,.int .i64 g,.int .i64 h,.int .i64 i] 44)):=hT.below ((Below.refl _ _).alloc (aq _) _);go_enter Tryz.func98,Tryz.ntmps98
 go_wp2_with fail
 refine(K4 _ _ _ _ _ _ _ _ _ _ hT1).mono ?_;rintro en w1 ⟨rfl,hb⟩;rw[Ad];go_wp2;go_ret;exact⟨rfl,((Below.refl _ _).alloc (aq _) _).trans (hb.mono (by simp))⟩
theorem acv{w:World}{g:Nat}{t:TypeId}{x0 x1 x2 x3 x4 x5 x6 x7 x8:Value}(h:ag w g t #[x0,x1,x2,x3,x4,x5,x6,x7,x8]){n:Nat}{w0 W:World}(hB:Below n w0 w)(hg:n<=g){v0 v1 v2 v3 v4 v5 v6 v7 v8:Value}(e:(((((((((w.setCell ⟨g,0,none⟩ v0).setCell ⟨g,1,none⟩ v1).setCell ⟨g,2,none⟩ v2).setCell ⟨g,3,none⟩ v3).setCell ⟨g,4,none⟩ v4).setCell ⟨g,5,none⟩ v5).setCell ⟨g,6,none⟩ v6).setCell ⟨g,7,none⟩ v7).setCell ⟨g,8,none⟩ v8)=W):ag W g t #[v0,v1,v2,v3,v4,v5,v6,v7,v8]/\Below n w0 W:=by
 subst e;exact⟨by simpa using (((((((((h.zV 0 v0).zV 1 v1).zV 2 v2).zV 3 v3).zV 4 v4).zV 5 v5).zV 6 v6).zV 7 v7).zV 8 v8),(((((((((hB.setCell (p:=⟨g,0,none⟩) hg v0).setCell (p:=⟨g,1,none⟩) hg v1).setCell (p:=⟨g,2,none⟩) hg v2).setCell (p:=⟨g,3,none⟩) hg v3).setCell (p:=⟨g,4,none⟩) hg v4).setCell (p:=⟨g,5,none⟩) hg v5).setCell (p:=⟨g,6,none⟩) hg v6).setCell (p:=⟨g,7,none⟩) hg v7).setCell (p:=⟨g,8,none⟩) hg v8)⟩
set_option maxHeartbeats 8000000 in
theorem K5(x:Int)(w:World)(hT:cB w):
  Calls Tryz.prog 73 #[.int .i64 x] w λen w'=>en=.returned (gP (jf x))/\Below w.heap.size w w':=by
 obtain⟨tt,fr,hg1⟩:=hT;have abO:=(bk.1 hg1).1;obtain⟨W1,hW1⟩:∃W1,w.alloc (.cells #[.int .i64 0,.int .i64 0,.int .i64 0,.bool false,.bool false,.int .i64 0,.int .i64 0,.int .i64 0,.int .i64 0] 44)=W1:=⟨_,rfl⟩;have hB1:Below w.heap.size w W1:=hW1▸(Below.refl _ _).alloc (aq _) _;have hg2:=(hB1.block 0 abO).trans hg1;have mM:ag W1 w.heap.size 44 #[.int .i64 0,.int .i64 0,.int .i64 0,.bool false,.bool false,.int .i64 0,.int .i64 0,.int .i64 0,.int .i64 0]:=hW1▸ag.new w 44 _;have hst:=Lu W1;have hts:je.size=18:=rfl;go_enter Tryz.func73,Tryz.ntmps73
 go_wp2_with (refine wpList_load_row rfl 152 _ rfl 0 rfl tt _ fr _ hg2 Tryz.underlying152 rfl (by kernel_rfl) ?_)
 refine(Yk x _ 9 fC (by decide) (by decide) _ (by have:=Cb Qw (xs:=fC) (ag.new W1 152 je) rfl;simpa using this)).mono ?_;rintro en w2 ⟨⟨v,rfl,hs⟩,hb⟩;have hB2:Below w.heap.size w w2:=(hB1.alloc hB1.size _).trans (hb.mono (eM hB1.size (by simp)));have hR2:ag w2 w.heap.size 44 #[.int .i64 0,.int .i64 0,.int .i64 0,.bool false,.bool false,.int .i64 0,.int .i64 0,.int .i64 0,.int .i64 0]:=(Di mM (.cells je 152)).below hb (by have:=mM.lt;simp;omega);have rQ:cB w2:=⟨tt,fr,(hB2.block 0 abO).trans hg1⟩;have hraw:zY x=⟨bF x 0 3,bF x 3 4,bF x 7 8,bF x 15 1==1,bF x 16 1==1,bF x 17 6,bF x 23 12,bF x 35 12,bF x 47 15⟩:=rfl;have hps:qN x fC=[bF x 0 3,bF x 3 4,bF x 7 8,bF x 15 1,bF x 16 1,bF x 17 6,bF x 23 12,bF x 35 12,bF x 47 15]:=rfl;generalize bF x 0 3=n0,bF x 3 4=n1,bF x 7 8=n2,bF x 15 1=n3,bF x 16 1=n4,bF x 17 6=n5,bF x 23 12=n6,bF x 35 12=n7,bF x 47 15=n8 at hraw hps;rw[hps]at hs;obtain⟨A2,cp,rfl,hcp,hrow⟩:=hs;obtain⟨b,off,rfl,hbl,hcell⟩:=hrow (by simp);have hc:∀i n,[n0,n1,n2,n3,n4,n5,n6,n7,n8][i]?=some n->w2.cell? ⟨b,off+i,none⟩=some (.int .i64 n):=λi n h=>by have:=hcell i n h 0 _ rfl;simpa using this
 have c0:=hc 0 _ rfl;have c1:=hc 1 _ rfl;have c2:=hc 2 _ rfl;have c3:=hc 3 _ rfl;have c4:=hc 4 _ rfl;have c5:=hc 5 _ rfl;have c6:=hc 6 _ rfl;have c7:=hc 7 _ rfl;have c8:=hc 8 _ rfl;have hZ2:w.heap.size<w2.heap.size:=hR2.lt;obtain⟨E,hE⟩:∃E,E=encS (zY x):=⟨_,rfl⟩;have hD:jf x=if E=some x then some (zY x)else none:=by unfold jf;rw[<-hE]
 rw[hraw]at hE hD;have HE:=Lib.hid hE.symm;have HD:=Lib.hid hD;have HT2:=Lib.hid rQ;have am5:9<=cp:=hcp;clear hW1 hg2 hB1 mM hst hts hb hcell hcp hps hraw hE hD rQ hg1 hc;simp only[ct,cW,Nat.reduceAdd];go_wp2_with fail
 go_region_held3 (fun w'=>w'.cell? ⟨b,off,none⟩=some (.int .i64 n0)/\w'.cell? ⟨b,off+1,none⟩=some (.int .i64 n1)/\w'.cell? ⟨b,off+2,none⟩=some (.int .i64 n2)/\w'.cell? ⟨b,off+3,none⟩=some (.int .i64 n3)/\w'.cell? ⟨b,off+4,none⟩=some (.int .i64 n4)/\w'.cell? ⟨b,off+5,none⟩=some (.int .i64 n5)/\w'.cell? ⟨b,off+6,none⟩=some (.int .i64 n6)/\w'.cell? ⟨b,off+7,none⟩=some (.int .i64 n7)/\w'.cell? ⟨b,off+8,none⟩=some (.int .i64 n8)/\ag w' w.heap.size 44 #[.int .i64 0,.int .i64 0,.int .i64 0,.bool false,.bool false,.int .i64 0,.int .i64 0,.int .i64 0,.int .i64 0]/\Below w.heap.size w w'/\w2.heap.size<=w'.heap.size)
  (first|exact⟨c0,c1,c2,c3,c4,c5,c6,c7,c8,hR2,hB2.drew,aq _⟩|exact⟨aL c0 _,aL c1 _,aL c2 _,aL c3 _,aL c4 _,aL c5 _,aL c6 _,aL c7 _,aL c8 _,Di hR2 _,(hB2.alloc (gl hZ2) _).drew,by simp⟩)
  (fail)
 generalize hW3:World.drew (w2.alloc _)=W3;have hB3:Below w.heap.size w W3:=hW3▸(hB2.alloc (gl hZ2) _).drew;have EM:ag W3 w.heap.size 44 #[.int .i64 0,.int .i64 0,.int .i64 0,.bool false,.bool false,.int .i64 0,.int .i64 0,.int .i64 0,.int .i64 0]:=hW3▸Di hR2 _;have mK:ag W3 w2.heap.size 44 #[.int .i64 n0,.int .i64 n1,.int .i64 n2,.bool (n3==1),.bool (n4==1),.int .i64 n5,.int .i64 n6,.int .i64 n7,.int .i64 n8]:=hW3▸ag.new w2 44 _;have TQ:cB W3:=hW3▸HT2.out.below ((Below.refl _ _).alloc (aq _) _).drew;generalize w2.heap.size=sb at*;clear hW3 hB2 hR2 c0 c1 c2 c3 c4 c5 c6 c7 c8;obtain⟨s0,s1,s2,s3,s4,s5,s6,s7,s8⟩:=nine mK;go_wp2_with fail
 refine(K4 _ _ _ _ _ _ _ _ _ _ TQ).mono ?_;rintro en w4 ⟨rfl,hb⟩;rw[HE.out];have hB4:=hB3.trans (hb.mono hB3.size);have oZ:=EM.below hb EM.lt;have oW:=mK.below hb mK.lt;clear s0 s1 s2 s3 s4 s5 s6 s7 s8 hB3 EM mK TQ hb;have f0:=oZ.frozen 0;have f1:=oZ.frozen 1;have f2:=oZ.frozen 2;have f3:=oZ.frozen 3;have f4:=oZ.frozen 4;have f5:=oZ.frozen 5;have f6:=oZ.frozen 6;have f7:=oZ.frozen 7;have f8:=oZ.frozen 8;obtain⟨s0,s1,s2,s3,s4,s5,s6,s7,s8⟩:=nine oW;obtain⟨z0,z1,z2,z3,z4,z5,z6,z7,z8⟩:=nine oZ;have am3:w.heap.size≠sb:=by omega
 cases E with
 |none=>
  have Y3:jf x=none:=by have:=HD.out;simpa using this
  clear s0 s1 s2 s3 s4 s5 s6 s7 s8 oW;rw[show DV none=.tuple #[.int .i64 0,.bool false]from rfl];go_wp2;generalize Mr:World.setCell _ ⟨w.heap.size,8,none⟩ _=W5;obtain⟨jT,Bt⟩:=acv oZ hB4 (aq _) Mr;obtain⟨r0,r1,r2,r3,r4,r5,r6,r7,r8⟩:=nine jT;rw[Y3];refine cC (v:=gP none) ?_ rfl ⟨rfl,Bt⟩;simp[results,Tryz.f73,go_sem,gP,aa.val,aa.zero,r0,r1,r2,r3,r4,r5,r6,r7,r8]
 |some y=>
  rw[show DV (some y)=.tuple #[.int .i64 y,.bool true]from rfl];by_cases hy:y=x
  .have Y3:jf x=some ⟨n0,n1,n2,n3==1,n4==1,n5,n6,n7,n8⟩:=by have:=HD.out;rw[hy,if_pos rfl]at this;exact this
   subst hy;go_wp2;generalize Mr:World.setCell _ ⟨w.heap.size,8,none⟩ _=W5;obtain⟨jT,Bt⟩:=acv oZ hB4 (aq _) Mr;obtain⟨r0,r1,r2,r3,r4,r5,r6,r7,r8⟩:=nine jT;rw[Y3];refine cC (v:=gP (some ⟨n0,n1,n2,n3==1,n4==1,n5,n6,n7,n8⟩)) ?_ rfl ⟨rfl,Bt⟩;simp[results,Tryz.f73,go_sem,gP,aa.val,aa.zero,r0,r1,r2,r3,r4,r5,r6,r7,r8]
  .have Y3:jf x=none:=by have:=HD.out;rw[if_neg (by simpa using hy)]at this;exact this
   have hyb:(y != x)=true:=by simpa using hy
   clear hy s0 s1 s2 s3 s4 s5 s6 s7 s8 oW;go_wp2;generalize Mr:World.setCell _ ⟨w.heap.size,8,none⟩ _=W5;obtain⟨jT,Bt⟩:=acv oZ hB4 (aq _) Mr;obtain⟨r0,r1,r2,r3,r4,r5,r6,r7,r8⟩:=nine jT;rw[Y3];refine cC (v:=gP none) ?_ rfl ⟨rfl,Bt⟩;simp[results,Tryz.f73,go_sem,gP,aa.val,aa.zero,r0,r1,r2,r3,r4,r5,r6,r7,r8]
end
section
open Go.RowKit Go.bn
attribute [local go_sem ↓] Go.wp_at_zero Go.wp_at_succ
theorem Zi(n m:Int)(w:World):Calls Tryz.prog 61 #[.int .i64 n,.int .i64 m] w λe w'=>e=.returned (.bool (fr n m))/\w=w':=by
 by_cases h0:0<=n
 .have e0:decide (0<=n)=true:=by simpa using h0
  have hq:fr n m=decide (n<=m):=by unfold fr;rw[e0];rfl
  rw[hq];clear hq h0;go_enter Tryz.func61,Tryz.ntmps61
  go_wp2;go_ret;exact⟨rfl,rfl⟩
 .have e0:decide (0<=n)=false:=by simpa using h0
  have hq:fr n m=false:=by unfold fr;rw[e0];rfl
  rw[hq];clear hq h0;go_enter Tryz.func61,Tryz.ntmps61
  go_wp2;go_ret;exact⟨rfl,rfl⟩
theorem aB{n m:Int}{q:Bool}(h:Hid (fr n m=q))(w:World):Calls Tryz.prog 61 #[.int .i64 n,.int .i64 m] w λe w'=>e=.returned (.bool q)/\w=w':=by
 rw[<-h.out];exact Zi n m w
set_option maxHeartbeats 4000000 in
theorem U2(a b c:Int)(d e:Bool)(f g h i:Int)(w:World):
  Calls Tryz.prog 48 #[.agg #[.int .i64 a,.int .i64 b,.int .i64 c,.bool d,.bool e,.int .i64 f,.int .i64 g,.int .i64 h,.int .i64 i]] w λen w'=>en=.returned (.bool (di ⟨a,b,c,d,e,f,g,h,i⟩))/\Below w.heap.size w w':=by
 obtain⟨W1,hW1⟩:∃W1,w.alloc (.cells #[.int .i64 a,.int .i64 b,.int .i64 c,.bool d,.bool e,.int .i64 f,.int .i64 g,.int .i64 h,.int .i64 i] 44)=W1:=⟨_,rfl⟩;have hB1:Below w.heap.size w W1:=by rw[<-hW1];exact(Below.refl _ _).alloc (aq _) _
 have hcs:∀j,W1.cell? ⟨w.heap.size,j,none⟩=(#[.int .i64 a,.int .i64 b,.int .i64 c,.bool d,.bool e,.int .i64 f,.int .i64 g,.int .i64 h,.int .i64 i]:Array Value)[j]?:=λj=>by rw[<-hW1];exact(ag.new w 44 _).cell j
 have c0:W1.cell? ⟨w.heap.size,0,none⟩=some (.int .i64 a):=hcs 0;have c1:W1.cell? ⟨w.heap.size,1,none⟩=some (.int .i64 b):=hcs 1;have c2:W1.cell? ⟨w.heap.size,2,none⟩=some (.int .i64 c):=hcs 2;have c3:W1.cell? ⟨w.heap.size,3,none⟩=some (.bool d):=hcs 3;have c4:W1.cell? ⟨w.heap.size,4,none⟩=some (.bool e):=hcs 4;have c5:W1.cell? ⟨w.heap.size,5,none⟩=some (.int .i64 f):=hcs 5;have c6:W1.cell? ⟨w.heap.size,6,none⟩=some (.int .i64 g):=hcs 6;have c7:W1.cell? ⟨w.heap.size,7,none⟩=some (.int .i64 h):=hcs 7;have c8:W1.cell? ⟨w.heap.size,8,none⟩=some (.int .i64 i):=hcs 8;obtain⟨r,hr⟩:∃r,r=di ⟨a,b,c,d,e,f,g,h,i⟩:=⟨_,rfl⟩;have HR:=Lib.hid hr;rw[<-hr];obtain⟨q0,h0⟩:∃q,fr a 6=q:=⟨_,rfl⟩;obtain⟨q1,h1⟩:∃q,fr b 15=q:=⟨_,rfl⟩;obtain⟨q2,h2⟩:∃q,fr c 255=q:=⟨_,rfl⟩;obtain⟨q3,h3⟩:∃q,fr f 63=q:=⟨_,rfl⟩;obtain⟨q4,h4⟩:∃q,fr g 4095=q:=⟨_,rfl⟩;obtain⟨q5,h5⟩:∃q,fr h 4095=q:=⟨_,rfl⟩;obtain⟨q6,h6⟩:∃q,fr i 32767=q:=⟨_,rfl⟩;have H0:=Lib.hid h0;have H1:=Lib.hid h1;have H2:=Lib.hid h2;have H3:=Lib.hid h3;have H4:=Lib.hid h4;have H5:=Lib.hid h5;have H6:=Lib.hid h6;clear hcs hr h0 h1 h2 h3 h4 h5 h6;go_enter Tryz.func48,Tryz.ntmps48
 cases q0 with
 |false=>
  go_wp2_with (with_reducible refine(aB (by assumption) _).mono ?_;rintro en w1 ⟨rfl,rfl⟩)
  go_ret;exact⟨ji (by rw[HR.out];simp[di,kH,H0.out]),hB1⟩
 |true=>
  cases q1 with
  |false=>
   go_wp2_with (with_reducible refine(aB (by assumption) _).mono ?_;rintro en w1 ⟨rfl,rfl⟩)
   go_ret;exact⟨ji (by rw[HR.out];simp[di,kH,H0.out,H1.out]),hB1⟩
  |true=>
   cases q2 with
   |false=>
    go_wp2_with (with_reducible refine(aB (by assumption) _).mono ?_;rintro en w1 ⟨rfl,rfl⟩)
    go_ret;exact⟨ji (by rw[HR.out];simp[di,kH,H0.out,H1.out,H2.out]),hB1⟩
   |true=>
    cases q3 with
    |false=>
     go_wp2_with (with_reducible refine(aB (by assumption) _).mono ?_;rintro en w1 ⟨rfl,rfl⟩)
     go_ret;exact⟨ji (by rw[HR.out];simp[di,kH,H0.out,H1.out,H2.out,H3.out]),hB1⟩
    |true=>
     cases q4 with
     |false=>
      go_wp2_with (with_reducible refine(aB (by assumption) _).mono ?_;rintro en w1 ⟨rfl,rfl⟩)
      go_ret;exact⟨ji (by rw[HR.out];simp[di,kH,H0.out,H1.out,H2.out,H3.out,H4.out]),hB1⟩
     |true=>
      cases q5 with
      |false=>
       go_wp2_with (with_reducible refine(aB (by assumption) _).mono ?_;rintro en w1 ⟨rfl,rfl⟩)
       go_ret;exact⟨ji (by rw[HR.out];simp[di,kH,H0.out,H1.out,H2.out,H3.out,H4.out,H5.out]),hB1⟩
      |true=>
       cases q6 with
       |false=>
        go_wp2_with (with_reducible refine(aB (by assumption) _).mono ?_;rintro en w1 ⟨rfl,rfl⟩)
        go_ret;exact⟨ji (by rw[HR.out];simp[di,kH,H0.out,H1.out,H2.out,H3.out,H4.out,H5.out,H6.out]),hB1⟩
       |true=>
        have hcases:a=0\/a=2\/a=3\/a=4\/a=6\/(a≠0/\a≠2/\a≠3/\a≠4/\a≠6):=by omega
        rcases hcases with ha|ha|ha|ha|ha|⟨ha0,ha2,ha3,ha4,ha6⟩
        case inr.inr.inr.inr.inr=>
         have s0:(a==0)=false:=by simp[ha0]
         have s2:(a==2)=false:=by simp[ha2]
         have s3:(a==3)=false:=by simp[ha3]
         have s4:(a==4)=false:=by simp[ha4]
         have s6:(a==6)=false:=by simp[ha6]
         have t2:(a != 2)=true:=by simp[ha2]
         have t3:(a != 3)=true:=by simp[ha3]
         have HA0:=Lib.hid ha0;have HA6:=Lib.hid ha6;have hp:decide (0<a)=true:=by have:=H0.out;unfold fr at this;simp at this;simp;omega
         have hp6:decide (a<6)=true:=by have:=H0.out;unfold fr at this;simp at this;simp;omega
         clear ha0 ha2 ha3 ha4 ha6;go_wp2_with (with_reducible refine(aB (by assumption) _).mono ?_;rintro en w1 ⟨rfl,rfl⟩)
         all_goals (clear c0 c1 c2 c3 c4 c5 c6 c7 c8;go_ret)
         all_goals (refine⟨ji ?_,hB1⟩;rw[HR.out];simp only[di,kH,H0.out,H1.out,H2.out,H3.out,H4.out,H5.out,H6.out])
         all_goals (first|(simp[*];done)|(simp[*];omega))
        all_goals
         subst ha;go_wp2_with (with_reducible refine(aB (by assumption) _).mono ?_;rintro en w1 ⟨rfl,rfl⟩)
         all_goals (clear c0 c1 c2 c3 c4 c5 c6 c7 c8;go_ret)
         all_goals (refine⟨ji ?_,hB1⟩;rw[HR.out];simp only[di,kH,H0.out,H1.out,H2.out,H3.out,H4.out,H5.out,H6.out])
         all_goals (first|(simp[*];done)|(simp[*];omega))
end
section
open Go.RowKit Go.bn Go.Sx
def uk:bZ:=λargs lh=>match args with|[s]=>pq s λs=>.ret (.bool (di s),lh)|_=>.bad
theorem RY(s:aa):(encS s).isSome=di s:=by
 rw[sM];unfold encR;cases di s<;>rfl
theorem OW:Sound Tryz.prog cB 98 uk:=by
 refine Sound.pure ⟨Tryz.func98,by kernel_rfl,by kernel_rfl⟩ λargs lh r hr=> ?_;unfold uk at hr;split at hr
 .obtain⟨s,rfl,h2⟩:=iq hr
  cases h2;exact⟨rfl,Dl s,rfl,λw hT=>by rw[<-RY];exact U1 _ _ _ _ _ _ _ _ _ w hT⟩
 .cases hr
theorem wu:Sound Tryz.prog cB 48 uk:=by
 refine Sound.pure ⟨Tryz.func48,by kernel_rfl,by kernel_rfl⟩ λargs lh r hr=> ?_;unfold uk at hr;split at hr
 .obtain⟨s,rfl,h2⟩:=iq hr
  cases h2;exact⟨rfl,Dl s,rfl,λw hT=>U2 _ _ _ _ _ _ _ _ _ w⟩
 .cases hr
def LD:List (FuncId×bZ):=[(98,uk),(48,uk)]
theorem OV:lH Tryz.prog cB LD:=bL OW<|bL wu jI
noncomputable def TF:List (FuncId×Func):=[(74,Tryz.f74),(97,Tryz.f97),(134,Tryz.f134),(135,Tryz.f135),(136,Tryz.f136),(137,Tryz.f137),(138,Tryz.f138),(139,Tryz.f139),(140,Tryz.f140),(141,Tryz.f141),(142,Tryz.f142),(143,Tryz.f143),(144,Tryz.f144),(145,Tryz.f145),(146,Tryz.f146),(147,Tryz.f147),(148,Tryz.f148),(149,Tryz.f149),(150,Tryz.f150),(151,Tryz.f151),(208,Tryz.f208),(209,Tryz.f209),(210,Tryz.f210),(211,Tryz.f211),(212,Tryz.f212),(213,Tryz.f213)]
def GZ:TypeId×List Bool:=(44,[false,false,false,true,true,false,false,false,false])
noncomputable def TG:Env:=tH Tryz.prog TF [GZ] LD []
theorem BQ:∀e∈[GZ],pU Tryz.prog e.1 e.2=true:=by
 intro e he;rw[cY]at he;subst he;kernel_rfl
theorem VA:∀e∈TF,iL Tryz.prog e.1 e.2:=
  fk Tryz.func74<|fk Tryz.func97<|fk Tryz.func134<|fk Tryz.func135<|fk Tryz.func136<|fk Tryz.func137<|fk Tryz.func138<|fk Tryz.func139<|fk Tryz.func140<|fk Tryz.func141<|fk Tryz.func142<|fk Tryz.func143<|fk Tryz.func144<|fk Tryz.func145<|fk Tryz.func146<|fk Tryz.func147<|fk Tryz.func148<|fk Tryz.func149<|fk Tryz.func150<|fk Tryz.func151<|fk Tryz.func208<|fk Tryz.func209<|fk Tryz.func210<|fk Tryz.func211<|fk Tryz.func212<|fk Tryz.func213<|jL rfl
theorem VB(X:Nat->Prop)(w0:World)(h0:X 0)(hB:eB X w0)(hT:cB w0):iA TG X w0:=l5 BQ (by kernel_rfl) VA OV iO h0 hB hT
def aO(s:aa)(o:Option aa):Option Value:=some (gP (o.map λt=>{t with cz:=(s.cz+1)%32768}))
def CP(s:aa)(own more:Int):Option Value:=bif !s.st==0 then no else yes (aa.mk 1 own 0 false false 0 s.gen 0 (Int.tmod (IntKind.i64.wrap (s.cz+1)) 32768))
def CO(s:aa)(own more:Int):Option Value:=bif s.st==1 then bif !s.own==own then no else yes (aa.mk 3 own s.str s.brk false (if 63<IntKind.i64.wrap (s.uses+1)then 63 else IntKind.i64.wrap (s.uses+1)) (Int.tmod (IntKind.i64.wrap (s.gen+1)) 4096) 0 (Int.tmod (IntKind.i64.wrap (s.cz+1)) 32768))else no
def CL(s:aa)(own more:Int):Option Value:=bif s.st==1 then bif !s.own==own then no else yes (aa.mk 0 0 0 false false 0 s.gen 0 (Int.tmod (IntKind.i64.wrap (s.cz+1)) 32768))else no
def CK(s:aa)(own more:Int):Option Value:=bif s.st==2 then bif !!s.brk then no else yes (aa.mk 3 own s.str s.brk false (if 63<IntKind.i64.wrap (s.uses+1)then 63 else IntKind.i64.wrap (s.uses+1)) (Int.tmod (IntKind.i64.wrap (s.gen+1)) 4096) 0 (Int.tmod (IntKind.i64.wrap (s.cz+1)) 32768))else no
def CJ(s:aa)(own more:Int):Option Value:=bif s.st==3 then bif s.own==own then bif !s.str==0 then no else yes (aa.mk 2 own 0 s.brk s.fO s.uses s.gen 0 (Int.tmod (IntKind.i64.wrap (s.cz+1)) 32768))else no else no
def CG(s:aa)(own more:Int):Option Value:=bif s.st==2 then bif !!s.brk then no else yes (aa.mk 4 own 0 s.brk false s.uses s.gen 0 (Int.tmod (IntKind.i64.wrap (s.cz+1)) 32768))else no
def CF(s:aa)(own more:Int):Option Value:=bif !s.st==4 then no else yes (aa.mk 2 own 0 s.brk s.fO s.uses s.gen 0 (Int.tmod (IntKind.i64.wrap (s.cz+1)) 32768))
def CE(s:aa)(own more:Int):Option Value:=bif !s.st==0 then no else yes (aa.mk 5 own 0 false false 0 s.gen 0 (Int.tmod (IntKind.i64.wrap (s.cz+1)) 32768))
def CB(s:aa)(own more:Int):Option Value:=bif !s.st==5 then no else yes (aa.mk 0 0 0 false false 0 s.gen 0 (Int.tmod (IntKind.i64.wrap (s.cz+1)) 32768))
def Cz(s:aa)(own more:Int):Option Value:=bif !s.st==2 then no else yes (aa.mk 2 own 0 s.brk s.fO s.uses s.gen 0 (Int.tmod (IntKind.i64.wrap (s.cz+1)) 32768))
def zm(s:aa)(own more:Int):Option Value:=bif s.st==2 then bif !!s.fO then no else yes (aa.mk s.st s.own s.str s.brk true s.uses s.gen s.ep (Int.tmod (IntKind.i64.wrap (s.cz+1)) 32768))else no
def zl(s:aa)(own more:Int):Option Value:=bif decide (more>=0)then bif decide (more<=4095)then bif s.st==2 then yes (aa.mk 6 0 0 false false 0 s.gen more (Int.tmod (IntKind.i64.wrap (s.cz+1)) 32768))else bif !s.st==3 then no else yes (aa.mk 6 0 0 false false 0 s.gen more (Int.tmod (IntKind.i64.wrap (s.cz+1)) 32768))else no else no
def zk(s:aa)(own more:Int):Option Value:=bif !s.st==6 then no else yes (aa.mk 0 0 0 false false 0 s.gen 0 (Int.tmod (IntKind.i64.wrap (s.cz+1)) 32768))
def zi(s:aa)(own more:Int):Option Value:=bif !s.brk then bif s.st==2 then yes (aa.mk s.st s.own s.str true s.fO s.uses s.gen s.ep (Int.tmod (IntKind.i64.wrap (s.cz+1)) 32768))else bif s.st==3 then yes (aa.mk s.st s.own s.str true s.fO s.uses s.gen s.ep (Int.tmod (IntKind.i64.wrap (s.cz+1)) 32768))else bif !s.st==4 then no else yes (aa.mk s.st s.own s.str true s.fO s.uses s.gen s.ep (Int.tmod (IntKind.i64.wrap (s.cz+1)) 32768))else no
def g14(s:aa)(L:Int):Nat->Nat->Option Value
 |0,_=>none
 |f+1,k=>bif decide ((k:Int)<L)then bif bits .and .i64 s.str ((2^k:Nat):Int)==0 then bif Nat.blt k 9 then yes {s with str:=bits .or .i64 s.str ((2^k:Nat):Int),cz:=Int.tmod (IntKind.i64.wrap (s.cz+1)) 32768}else none else g14 s L f (k+1)else no
def aK(s:aa)(own more:Int):Option Value:=bif s.st==3 then bif !s.own==own then no else bif s.brk then no else g14 s (if 8<more then 8 else more) 12 0 else no
def D7(s:aa)(own more:Int):Option Value:=bif s.st==3 then bif !s.own==own then no else bif decide (more<0)then no else bif decide (more>=8)then no else bif decide (more<0)then none else bif bits BinOp.and IntKind.i64 s.str (IntKind.i64.wrap (1*2^min (Int.toNat more) 64))==0 then no else bif decide (more<0)then none else yes (aa.mk s.st s.own (bits BinOp.andNot IntKind.i64 s.str (IntKind.i64.wrap (1*2^min (Int.toNat more) 64))) s.brk s.fO s.uses s.gen s.ep (Int.tmod (IntKind.i64.wrap (s.cz+1)) 32768))else no
def zh(s:aa)(own more:Int):Option Value:=bif s.st==5 then bif s.own==own then yes (aa.mk 1 own 0 false false 0 s.gen 0 (Int.tmod (IntKind.i64.wrap (s.cz+1)) 32768))else bif s.st==4 then bif !s.own==own then no else yes (aa.mk 3 own s.str s.brk false (if 63<IntKind.i64.wrap (s.uses+1)then 63 else IntKind.i64.wrap (s.uses+1)) (Int.tmod (IntKind.i64.wrap (s.gen+1)) 4096) 0 (Int.tmod (IntKind.i64.wrap (s.cz+1)) 32768))else no else bif s.st==4 then bif !s.own==own then no else yes (aa.mk 3 own s.str s.brk false (if 63<IntKind.i64.wrap (s.uses+1)then 63 else IntKind.i64.wrap (s.uses+1)) (Int.tmod (IntKind.i64.wrap (s.gen+1)) 4096) 0 (Int.tmod (IntKind.i64.wrap (s.cz+1)) 32768))else no
def zg(s:aa)(own more:Int):Option Value:=bif decide (more>=0)then bif decide (more<=4095)then bif !s.st==6 then no else yes (aa.mk 6 0 0 false false 0 s.gen more (Int.tmod (IntKind.i64.wrap (s.cz+1)) 32768))else no else no
def Av(s:aa)(k own more:Int):Option Value:=bif decide (k<0)then no else bif decide (k>=18)then no else bif decide (k=17)then zg s own more else bif decide (k=16)then zh s own more else bif decide (k=15)then D7 s own more else bif decide (k=14)then aK s own more else bif decide (k=13)then zi s own more else bif decide (k=12)then zk s own more else bif decide (k=11)then zl s own more else bif decide (k=10)then zm s own more else bif decide (k=9)then Cz s own more else bif decide (k=8)then CB s own more else bif decide (k=7)then CE s own more else bif decide (k=6)then CF s own more else bif decide (k=5)then CG s own more else bif decide (k=4)then CJ s own more else bif decide (k=3)then CK s own more else bif decide (k=2)then CL s own more else bif decide (k=1)then CO s own more else bif decide (k=0)then CP s own more else none
theorem mT{k m:Int}(h:k<m/\k<8):decide (k<if 8<m then 8 else m)=true:=cN (by split<;>omega)
theorem mF{k m:Int}(h:¬(k<m/\k<8)):decide (k<if 8<m then 8 else m)=false:=cT (by split<;>omega)
theorem YQ(s:aa)(k own more:Int):(call TG 30 74 [s.val,.int .i64 k,.int .i64 own,.int .i64 more] []).run (Option Value) none (λr=>some r.1)=
  bif !di s then no else bif decide (own<0)then no else bif decide (own>15)then no else Av s k own more:=by kernel_rfl
theorem iZ{s:aa}{own more:Int}(F:Facts s)(h0:0<=own)(h1:own<=15):CP s own more=aO s (row0 s own)/\CO s own more=aO s (yB s own)/\CL s own more=aO s (Ce s own)/\CK s own more=aO s (uU s own)/\CJ s own more=aO s (yA s own)/\CG s own more=aO s (yz s own)/\CF s own more=aO s (yx s own)/\CE s own more=aO s (yu s own)/\CB s own more=aO s (oK s)/\Cz s own more=aO s (Cc s own)/\zm s own more=aO s (xu s)/\zl s own more=aO s (tq s more)/\zk s own more=aO s (xq s)/\zi s own more=aO s (xm s)/\zh s own more=aO s (sZ s own)/\zg s own more=aO s (xk s more):=by
 obtain⟨a,b,c,d,e,f,g,h,i⟩:=s;obtain⟨F1,F2,F3,F4,F5,F6,F7,F8,F9,Rb,Ra,Q9,Q8⟩:=F;simp only at F1 F2 F3 F4 F5 F6 F7 F8 F9 Rb Ra Q9 Q8;have w1:IntKind.i64.wrap (i+1)=i+1:=wrap_small (by omega) (by omega);have w2:IntKind.i64.wrap (g+1)=g+1:=wrap_small (by omega) (by omega);have w3:IntKind.i64.wrap (f+1)=f+1:=wrap_small (by omega) (by omega);have t1:(i+1).tmod 32768=(i+1)%32768:=g9 (by omega);have t2:(g+1).tmod 4096=(g+1)%4096:=g9 (by omega);refine⟨?_,?_,?_,?_,?_,?_,?_,?_,?_,?_,?_,?_,?_,?_,?_,?_⟩<;>simp only[CP,row0,CO,yB,CL,Ce,CK,uU,CJ,yA,CG,yz,CF,yx,CE,yu,CB,oK,Cz,Cc,zm,xu,zl,tq,zk,xq,zi,xm,zh,sZ,zg,xk,dU,fM,w1,w2,w3,t1,t2,yes,no,aO,nF,dj,kA,eI,j0,gE,rB]<;>(repeat' split)<;>(first|rfl|(simp_all;done)|(simp_all;omega)|(exfalso;simp_all;omega)|(simp_all[Option.map,gP,aa.val];omega))
theorem ajq{s:aa}{own more:Int}(F:Facts s)(h0:0<=own)(h1:own<=15):CP s own more=aO s (row0 s own):=(iZ F h0 h1).1
theorem ajp{s:aa}{own more:Int}(F:Facts s)(h0:0<=own)(h1:own<=15):CO s own more=aO s (yB s own):=(iZ F h0 h1).2.1
theorem ajo{s:aa}{own more:Int}(F:Facts s)(h0:0<=own)(h1:own<=15):CL s own more=aO s (Ce s own):=(iZ F h0 h1).2.2.1
theorem ajn{s:aa}{own more:Int}(F:Facts s)(h0:0<=own)(h1:own<=15):CK s own more=aO s (uU s own):=(iZ F h0 h1).2.2.2.1
theorem ajm{s:aa}{own more:Int}(F:Facts s)(h0:0<=own)(h1:own<=15):CJ s own more=aO s (yA s own):=(iZ F h0 h1).2.2.2.2.1
theorem ajl{s:aa}{own more:Int}(F:Facts s)(h0:0<=own)(h1:own<=15):CG s own more=aO s (yz s own):=(iZ F h0 h1).2.2.2.2.2.1
theorem ajk{s:aa}{own more:Int}(F:Facts s)(h0:0<=own)(h1:own<=15):CF s own more=aO s (yx s own):=(iZ F h0 h1).2.2.2.2.2.2.1
theorem ajj{s:aa}{own more:Int}(F:Facts s)(h0:0<=own)(h1:own<=15):CE s own more=aO s (yu s own):=(iZ F h0 h1).2.2.2.2.2.2.2.1
theorem aji{s:aa}{own more:Int}(F:Facts s)(h0:0<=own)(h1:own<=15):CB s own more=aO s (oK s):=(iZ F h0 h1).2.2.2.2.2.2.2.2.1
theorem ajh{s:aa}{own more:Int}(F:Facts s)(h0:0<=own)(h1:own<=15):Cz s own more=aO s (Cc s own):=(iZ F h0 h1).2.2.2.2.2.2.2.2.2.1
theorem ag6{s:aa}{own more:Int}(F:Facts s)(h0:0<=own)(h1:own<=15):zm s own more=aO s (xu s):=(iZ F h0 h1).2.2.2.2.2.2.2.2.2.2.1
theorem ag5{s:aa}{own more:Int}(F:Facts s)(h0:0<=own)(h1:own<=15):zl s own more=aO s (tq s more):=(iZ F h0 h1).2.2.2.2.2.2.2.2.2.2.2.1
theorem ag4{s:aa}{own more:Int}(F:Facts s)(h0:0<=own)(h1:own<=15):zk s own more=aO s (xq s):=(iZ F h0 h1).2.2.2.2.2.2.2.2.2.2.2.2.1
theorem ag3{s:aa}{own more:Int}(F:Facts s)(h0:0<=own)(h1:own<=15):zi s own more=aO s (xm s):=(iZ F h0 h1).2.2.2.2.2.2.2.2.2.2.2.2.2.1
theorem ag0{s:aa}{own more:Int}(F:Facts s)(h0:0<=own)(h1:own<=15):zh s own more=aO s (sZ s own):=(iZ F h0 h1).2.2.2.2.2.2.2.2.2.2.2.2.2.2.1
theorem agZ{s:aa}{own more:Int}(F:Facts s)(h0:0<=own)(h1:own<=15):zg s own more=aO s (xk s more):=(iZ F h0 h1).2.2.2.2.2.2.2.2.2.2.2.2.2.2.2
def ZH(n i:Nat):Bool:=(decide (bits .and .i64 n (2^i:Nat)=if n/2^i%2=1 then((2^i:Nat):Int)else 0))&&(decide (n/2^i%2=1)||decide (bits .or .i64 n (2^i:Nat)=((n+2^i:Nat):Int)))&&(decide (n/2^i%2=0)||decide (bits .andNot .i64 n (2^i:Nat)=((n-2^i:Nat):Int)))
theorem acw:(List.range 256).all (λn=>(List.range 8).all (ZH n))=true:=by kernel_rfl
theorem oD{c:Int}(h0:0<=c)(h1:c<=255)(i:Nat)(hi:i<8):(bits .and .i64 c (2^i:Nat)=if c/(2^i:Nat)%2=1 then((2^i:Nat):Int)else 0)/\(c/(2^i:Nat)%2≠1->bits .or .i64 c (2^i:Nat)=c+(2^i:Nat))/\(c/(2^i:Nat)%2=1->bits .andNot .i64 c (2^i:Nat)=c-(2^i:Nat)):=by
 have h:=bp.1 (bp.1 acw c.toNat (eA.2 (by omega))) i (eA.2 hi);simp only[ZH,bj,eV,dj]at h;obtain⟨n,rfl⟩:∃n:Nat,c=n:=⟨c.toNat,by omega⟩;simp only[cH]at h;obtain⟨⟨h2,h3⟩,h4⟩:=h;have e:((n:Int)/((2^i:Nat):Int)%2)=((n/2^i%2:Nat):Int):=by simp
 rw[e];refine⟨?_,λhh=> ?_,λhh=> ?_⟩
 .rw[h2]
  by_cases q:n/2^i%2=1
  .rw[if_pos q,if_pos (by omega)]
  .rw[if_neg q,if_neg (by omega)]
 .rcases h3 with h3|h3
  .omega
  .rw[h3];omega
 .rcases h4 with h4|h4
  .omega
  .rw[h4]
   have:2^i<=n:=by
    rcases cn n (2^i)with hlt|hge
    .rw[Nat.div_eq_of_lt hlt]at hh;simp at hh
    .exact hge
   omega
theorem ag1{s:aa}{own more:Int}(F:Facts s)(h0:0<=own)(h1:own<=15):D7 s own more=aO s (vH s own more):=by
 obtain⟨a,b,c,d,e,f,g,h,i⟩:=s;obtain⟨F1,F2,F3,F4,F5,F6,F7,F8,F9,Rb,Ra,Q9,Q8⟩:=F;simp only at F1 F2 F3 F4 F5 F6 F7 F8 F9 Rb Ra Q9 Q8;have w1:IntKind.i64.wrap (i+1)=i+1:=wrap_small (by omega) (by omega);have t1:(i+1).tmod 32768=(i+1)%32768:=g9 (by omega);simp only[D7,vH,yes,no,aO];by_cases m0:more<0
 .simp only[w1,nF,dj,kA,eI,j0,gE,rB]
  repeat' split
  all_goals first|rfl|(simp_all;done)|(exfalso;simp_all;omega)
 by_cases m7:more>=8
 .simp only[w1,nF,dj,kA,eI,j0,gE,rB]
  repeat' split
  all_goals first|rfl|(simp_all;done)|(exfalso;simp_all;omega)
 have hb:=oD F3.1 F3.2 more.toNat (by omega);have p:((2^more.toNat:Nat):Int)=(2:Int)^more.toNat:=by simp
 rw[p]at hb;have e2:IntKind.i64.wrap (1*2^min (Int.toNat more) 64)=(2:Int)^more.toNat:=by
  rcases(show more=0\/more=1\/more=2\/more=3\/more=4\/more=5\/more=6\/more=7 by omega)with rfl|rfl|rfl|rfl|rfl|rfl|rfl|rfl<;>decide
 have e7:(2:Int)^more.toNat≠0:=by
  rcases(show more=0\/more=1\/more=2\/more=3\/more=4\/more=5\/more=6\/more=7 by omega)with rfl|rfl|rfl|rfl|rfl|rfl|rfl|rfl<;>decide
 rw[e2];generalize (2:Int)^more.toNat=q at hb e7 ⊢;obtain⟨b1,b2,b3⟩:=hb;by_cases hq:c/q%2=1
 .rw[if_pos hq]at b1
  rw[b1,b3 hq];simp only[w1,t1,m0,m7,nF,dj,kA,eI,j0,gE,rB];repeat' split
  all_goals first|rfl|(simp_all;done)|(simp_all;omega)|(exfalso;simp_all;omega)|(simp_all[Option.map,gP,aa.val];omega)
 .rw[if_neg hq]at b1
  rw[b1];simp only[w1,t1,m0,m7,nF,dj,kA,eI,j0,gE,rB];repeat' split
  all_goals first|rfl|(simp_all;done)|(simp_all;omega)|(exfalso;simp_all;omega)|(simp_all[Option.map,gP,aa.val];omega)
theorem aoI{s:aa}{more L:Int}(hL:L=if 8<more then 8 else more)(h0:0<=s.str)(h1:s.str<=255){j:Nat}(hj:j<=8)(hb:∀i<j,s.str/((2^i:Nat):Int)%2=1)(hn:j<8->s.str/((2^j:Nat):Int)%2≠1)(f):
  ∀d i,i+d=j->g14 s L (f+d+1) i=if(j:Int)<more/\j<8 then yes {s with str:=s.str+((2^j:Nat):Int),cz:=Int.tmod (IntKind.i64.wrap (s.cz+1)) 32768}else no
 |0,i,e=>by
  obtain rfl:i=j:=e;unfold g14;by_cases h:(i:Int)<more/\i<8
  .have q:=oD h0 h1 i h.2
   rw[cN (by grind),q.1,if_neg (hn h.2),q.2.1 (hn h.2),show Nat.blt i 9=true from by simp;omega,if_pos h];rfl
  .rw[cT (by grind),if_neg h]
   rfl
 |d+1,i,e=>by
  unfold g14;by_cases h:(i:Int)<more
  .rw[cN (by grind),(oD h0 h1 i (by omega)).1,if_pos (hb i (by omega)), <-aoI hL h0 h1 hj hb hn f d (i+1) (by omega),na (by have:=Nat.two_pow_pos i;omega)]
   rfl
  .rw[cT (by grind),if_neg (by omega)]
   rfl
theorem aqQ(c:Int):∃j:Nat,j<=8/\bA c=j/\(∀i<j,c/((2^i:Nat):Int)%2=1)/\(j<8->c/((2^j:Nat):Int)%2≠1):=by
 unfold bA;repeat' split
 all_goals
  refine⟨_,?_,(j8 ?_).symm,λi hi=> ?_,λ_=> ?_⟩<;>try decide
  .match i,hi with
   |0,_|1,_|2,_|3,_|4,_|5,_|6,_|7,_=>simp at* <;>omega
  .simp at* <;>omega
theorem ag2{s:aa}{own more:Int}(F:Facts s)(h0:0<=own)(h1:own<=15):aK s own more=aO s (aZ s own more):=by
 obtain⟨F1,F2,F3,F4,F5,F6,F7,F8,F9,Rb,Ra,Q9,Q8⟩:=F;obtain⟨j,hj,hl,hb,hn⟩:=aqQ s.str;have k:=aoI (more:=more) rfl F3.1 F3.2 hj hb hn (11-j) j 0 (by omega);rw[show 11-j+j+1=12 by omega,wrap_small (by omega) (by omega),g9 (by omega)]at k;unfold aK aZ aO;rw[k,hl];grind [yes,no]
theorem abx(s:aa)(k own more:Int)(F:Facts s)(h0:0<=own)(h1:own<=15):Av s k own more=aO s (uT s k own more):=by
 by_cases hk:k<0\/k>=18
 .have hr:uT s k own more=none:=by
   unfold uT;rw[if_neg (by omega),if_neg (by omega),if_neg (by omega),if_neg (by omega),if_neg (by omega),if_neg (by omega),if_neg (by omega),if_neg (by omega),if_neg (by omega),if_neg (by omega),if_neg (by omega),if_neg (by omega),if_neg (by omega),if_neg (by omega),if_neg (by omega),if_neg (by omega),if_neg (by omega),if_neg (by omega)]
  rw[hr];rcases hk with hk|hk
  .simp[Av,hk,aO,no]
  .simp[Av,hk,show¬k<0 by omega,aO,no]
 .rcases(show k=0\/k=1\/k=2\/k=3\/k=4\/k=5\/k=6\/k=7\/k=8\/k=9\/k=10\/k=11\/k=12\/k=13\/k=14\/k=15\/k=16\/k=17 by omega)with rfl|rfl|rfl|rfl|rfl|rfl|rfl|rfl|rfl|rfl|rfl|rfl|rfl|rfl|rfl|rfl|rfl|rfl
  .exact Eq.trans (b:=CP s own more) (by kernel_rfl) ((ajq F h0 h1).trans (by kernel_rfl))
  .exact Eq.trans (b:=CO s own more) (by kernel_rfl) ((ajp F h0 h1).trans (by kernel_rfl))
  .exact Eq.trans (b:=CL s own more) (by kernel_rfl) ((ajo F h0 h1).trans (by kernel_rfl))
  .exact Eq.trans (b:=CK s own more) (by kernel_rfl) ((ajn F h0 h1).trans (by kernel_rfl))
  .exact Eq.trans (b:=CJ s own more) (by kernel_rfl) ((ajm F h0 h1).trans (by kernel_rfl))
  .exact Eq.trans (b:=CG s own more) (by kernel_rfl) ((ajl F h0 h1).trans (by kernel_rfl))
  .exact Eq.trans (b:=CF s own more) (by kernel_rfl) ((ajk F h0 h1).trans (by kernel_rfl))
  .exact Eq.trans (b:=CE s own more) (by kernel_rfl) ((ajj F h0 h1).trans (by kernel_rfl))
  .exact Eq.trans (b:=CB s own more) (by kernel_rfl) ((aji F h0 h1).trans (by kernel_rfl))
  .exact Eq.trans (b:=Cz s own more) (by kernel_rfl) ((ajh F h0 h1).trans (by kernel_rfl))
  .exact Eq.trans (b:=zm s own more) (by kernel_rfl) ((ag6 F h0 h1).trans (by kernel_rfl))
  .exact Eq.trans (b:=zl s own more) (by kernel_rfl) ((ag5 F h0 h1).trans (by kernel_rfl))
  .exact Eq.trans (b:=zk s own more) (by kernel_rfl) ((ag4 F h0 h1).trans (by kernel_rfl))
  .exact Eq.trans (b:=zi s own more) (by kernel_rfl) ((ag3 F h0 h1).trans (by kernel_rfl))
  .exact Eq.trans (b:=aK s own more) (by kernel_rfl) ((ag2 F h0 h1).trans (by kernel_rfl))
  .exact Eq.trans (b:=D7 s own more) (by kernel_rfl) ((ag1 F h0 h1).trans (by kernel_rfl))
  .exact Eq.trans (b:=zh s own more) (by kernel_rfl) ((ag0 F h0 h1).trans (by kernel_rfl))
  .exact Eq.trans (b:=zg s own more) (by kernel_rfl) ((agZ F h0 h1).trans (by kernel_rfl))
theorem abw(s:aa)(k own more:Int)(w:World)(hT:cB w):Calls Tryz.prog 74 #[s.val,.int .i64 k,.int .i64 own,.int .i64 more] w λe w'=>e=.returned (gP (az s k own more))/\Below w.heap.size w w':=
 Wv (VB _ w hT.lt (Gr w) hT) rfl (fuel:=30) (args:=[s.val,.int .i64 k,.int .i64 own,.int .i64 more]) ((YQ s k own more).trans (abd λF h0 h1=>abx s k own more F h0 h1)) (kG _) (by simp[gP,undef]) (by simp[aa.val,Go.Sx.plain,aN])
