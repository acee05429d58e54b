/- Group CaH: laws of the proof, joined. No condition of its own. -/
import Derived.Test.YteaflphddciglaaGreatDoorCaG
import Derived.Test.YteaflphddciglaaGreatDoorCaC
import Derived.Test.YteaflphddciglaaGreatDoorCaD
import Derived.BigQuiet
set_option linter.unusedVariables false
set_option linter.unusedSimpArgs false
namespace Go.Sx
open Go Go.RowKit
def eX:Value->Bool
 | .agg c=>c.all aN
 |v=>aN v
theorem VR.jS{σ:Nat->Option Pl}{v v':Value}(h:VR σ v v')(hp:eX v=true):v'=v:=by
 unfold eX at hp;split at hp
 ·rename_i c
  cases h with
  |agg hs hh=>
   have:=(show dY σ _ _ from⟨hs,hh⟩).kP (λx hx=>by
    rw[Array.all_eq_true]at hp;obtain⟨i,hi,rfl⟩:=List.mem_iff_getElem.1 hx;simpa using hp i (by simpa using hi))
   rw[this]
 ·exact h.aD hp
theorem dY.jS{σ:Nat->Option Pl}{args:List Value}{args':Array Value}(h:dY σ args.toArray args')(hp:args.all eX=true):args'=args.toArray:=by
 refine Array.ext h.1.symm λi h1 h2=> ?_
 have hv:=h.2 i _ _ (Array.getElem?_eq_getElem h2) (Array.getElem?_eq_getElem h1);rw[List.all_eq_true]at hp;exact hv.jS (hp _ (by simp))
theorem dK.pure{P:Program}{n:Nat->Prop}{w0:World}{G:Kj}{f:FuncId}{args:List Value}{lh:List ag}{v:Value}(ha:args.all eX=true)(hv:plain v=true)
  (h:∀w,Kept n w0 w->Calls P f args.toArray w λe w'=>e=.returned v/\Below w.heap.size w w'):dK P n w0 G f args lh (v,lh):=by
 refine⟨bu.refl _,λσ w args' hr hargs=> ?_⟩
 rw[hargs.jS ha];refine(h w hr.below).mono λe w' hh=> ?_
 obtain⟨rfl,hb⟩:=hh;exact⟨v,rfl,σ,Ext.refl _ _,VR.plain σ hv,hr.kept hb⟩
theorem VR.kP{σ:Nat->Option Pl}{v v':Value}(h:VR σ v v')(hp:Go.Sx.plain v=true)(hne:v≠undef):v'=v:=by
 have arr:∀c c':Array Value,dY σ c c'->c.all Go.Sx.aN=true->c'=c:=λc c' hv hc=>hv.kP (λx hx=>by
  rw[Array.all_eq_true]at hc;obtain⟨i,hi,rfl⟩:=List.mem_iff_getElem.1 hx;simpa using hc i (by simpa using hi))
 unfold Go.Sx.plain at hp;split at hp
 ·rename_i c
  cases h with
  |agg hs hh=>rw[arr _ _ ⟨hs,hh⟩ hp]
 ·rename_i c
  cases h with
  |any=>exact absurd rfl hne
  |tuple hs hh=>
   rename_i c'
   have:c'=c:=by
    refine Array.ext hs.symm λi h1 h2=> ?_
    have hv:=hh i _ _ (Array.getElem?_eq_getElem h2) (Array.getElem?_eq_getElem h1);rw[Array.all_eq_true]at hp;have hpi:=hp i h2;split at hpi
    ·rename_i d hd
     rw[hd]at hv ⊢;generalize c'[i]=y at hv;cases hv with
     |agg hs hh=>rw[arr _ _ ⟨hs,hh⟩ hpi]
    ·exact hv.aD hpi
   rw[this]
 ·exact h.aD hp
theorem Ww{E:Env}{n:Nat->Prop}{w0:World}(hE:iA E n w0){fuel f:Nat}{args:List Value}{lh:List ag}{v:Value}(h:(call E fuel f args lh).run (Option Value) none (fun r=>some r.1)=some v)(hv:Go.Sx.plain v=true)(hne:v≠undef)
  {σ:Nat->Option Pl} {w:World} {args':Array Value} (hr:HR n w0 E.G σ lh w) (ha:dY σ args.toArray args'):Calls E.P f args' w λe w'=>e=.returned v/\Kept n w0 w':=by
 rw[M.run_eq]at h;cases hx:(call E fuel f args lh).get with
 |none=>rw[hx]at h;cases h
 |some r=>
  rw[hx]at h;simp only[Option.elim_some,Option.some.injEq]at h;obtain⟨_,_,hc⟩:=sO hE fuel f args lh r hx;refine(hc σ w args' hr ha).mono λe w' hh=> ?_
  obtain⟨v',rfl,σ',_,kS,hr'⟩:=hh;rw[h]at kS;rw[VR.kP kS hv hne];exact⟨rfl,hr'.below⟩
end Go.Sx
namespace Go.Proofs.YteaflphddciglaaGreatDoor
open Go.RowKit Go.bn Go.Sx
theorem cB.mR{n:Nat->Prop}{w0 w:World}(h:cB w0)(hn:n 0)(hb:Kept n w0 w):cB w:=by
 obtain⟨t,fr,h'⟩:=h;exact⟨t,fr,(hb.block 0 hn).trans h'⟩
theorem aay:∀(X:Nat->Prop) (w w':World),X 0->cB w->Kept X w w'->cB w':=λX w w' h0 h hk=>h.mR h0 hk
theorem Sound.pure{f:FuncId}{fn:Func}(hf:iL Tryz.prog f fn){F:bZ}(h:∀args lh r,(F args lh).get=some r->r.2=lh/\args.all eX=true/\Go.Sx.plain r.1=true/\∀w,cB w->Calls Tryz.prog f args.toArray w λe w'=>e=.returned r.1/\Below w.heap.size w w'):Sound Tryz.prog cB f F:=by
 refine⟨⟨fn,hf⟩,λX w0 h0 hB hT args lh r hr=> ?_⟩
 obtain⟨rfl,h1,h2,h3⟩:=h args lh r hr;exact dK.pure h1 h2 λw hk=>h3 w (hT.mR h0 hk)
def OG:List Value->Option aa
 |[.int .i64 a,.int .i64 b,.int .i64 c,.bool d,.bool e,.int .i64 f,.int .i64 g,.int .i64 h,.int .i64 i]=>some ⟨a,b,c,d,e,f,g,h,i⟩
 |_=>none
theorem Rq{c:Array Value}{s:aa}(h:OG c.toList=some s):Value.agg c=s.val:=by
 unfold OG at h;split at h
 ·rename_i hc
  cases h;unfold aa.val;congr 1;exact Array.toList_inj.1 hc
 ·cases h
def pq{α:Type}(v:Value)(F:aa->M α):M α:=
 match v with
 | .agg c=>match OG c.toList with
  |some s=>F s
  |none=>.bad
 |_=>.bad
theorem iq{α:Type}{v:Value}{F:aa->M α}{x:α}(h:(pq v F).get=some x):∃s,v=s.val/\(F s).get=some x:=by
 unfold pq at h;split at h
 ·split at h
  ·rename_i hc
   exact⟨_,Rq hc,h⟩
  ·cases h
 ·cases h
def FK(o:Option Int):Value:=.tuple #[.int .i64 (o.getD 0),.bool o.isSome]
theorem aeN(o:Option Int):DV o=FK o:=Ad o
theorem aa.Yh(s:aa):eX s.val=true:=by simp[aa.val,eX,aN]
theorem Dl(s:aa):[s.val].all eX=true:=by simp[aa.Yh]
theorem Ht(o:Option Int):plain (FK o)=true:=by simp[FK,plain,aN]
theorem kG(o:Option aa):plain (gP o)=true:=by simp[gP,plain,aN,aa.val]
theorem dY.plain{σ:Nat->Option Pl}(l:List Value)(h:l.all Go.Sx.plain=true):dY σ l.toArray l.toArray:=by
 refine⟨rfl,λi x y hx hy=> ?_⟩
 obtain rfl:x=y:=Option.some.inj (hx.symm.trans hy);rw[List.all_eq_true]at h;exact VR.plain σ (h x (by simpa using Array.mem_of_getElem? hx))
theorem Fx{w:World}:HR (· <w.heap.size) w 0 (λ_=>none) [] w:=
 ⟨λ_ h=>h,Kept.refl _ _,iB.no (λk p h=>by cases h),λk p h=>(by cases h),λk p h=>(by cases h),λk k' p p' h=>(by cases h),λk p h=>(by cases h)⟩
theorem Wv{E:Env}{w:World}(hE:iA E (· <w.heap.size) w)(hG:E.G=0){fuel f:Nat}{args:List Value}{v:Value}(h:(call E fuel f args []).run (Option Value) none (fun r=>some r.1)=some v)(hv:Go.Sx.plain v=true)(hne:v≠undef)(ha:args.all Go.Sx.plain=true):
  Calls E.P f args.toArray w λe w'=>e=.returned v/\Below w.heap.size w w':=by
 have hr:HR (· <w.heap.size) w E.G (λ_=>none) [] w:=by rw[hG];exact Fx
 exact(Ww hE h hv hne hr (dY.plain args ha)).mono λe w' hh=>⟨hh.1,hh.2.below⟩
theorem Gr(w:World):eB (· <w.heap.size) w:=λ_ h=>h
end Go.Proofs.YteaflphddciglaaGreatDoor
namespace Go.Proofs.YteaflphddciglaaGreatDoor
section
open Go.RowKit Go.bn Go.Sx
def bA(n:Int):Int:=if n%2≠1 then 0 else if n/2%2≠1 then 1 else if n/4%2≠1 then 2 else if n/8%2≠1 then 3 else if n/16%2≠1 then 4 else if n/32%2≠1 then 5 else if n/64%2≠1 then 6 else if n/128%2≠1 then 7 else 8
def dU(s:aa)(st own:Int):aa:=⟨st,own,0,false,false,0,s.gen,0,s.cz⟩
def fM(s:aa)(own:Int):aa:=⟨3,own,0,s.brk,false,if 63<s.uses+1 then 63 else s.uses+1,(s.gen+1)%4096,0,s.cz⟩
def row0(s:aa)(own:Int):Option aa:=if s.st=0 then some (dU s 1 own)else none
def yB(s:aa)(own:Int):Option aa:=if s.st=1/\s.own=own then some (fM (dU s 1 own) own)else none
def Ce(s:aa)(own:Int):Option aa:=if s.st=1/\s.own=own then some (dU s 0 0)else none
def uU(s:aa)(own:Int):Option aa:=if s.st=2/\s.brk=false then some (fM s own)else none
def yA(s:aa)(own:Int):Option aa:=if s.st=3/\s.own=own/\s.str=0 then some {s with st:=2}else none
def yz(s:aa)(own:Int):Option aa:=if s.st=2/\s.brk=false then some {s with st:=4,own:=own,fO:=false}else none
def yx(s:aa)(own:Int):Option aa:=if s.st=4 then some {s with st:=2,own:=own}else none
def yu(s:aa)(own:Int):Option aa:=if s.st=0 then some (dU s 5 own)else none
def oK(s:aa):Option aa:=if s.st=5 then some (dU s 0 0)else none
def Cc(s:aa)(own:Int):Option aa:=if s.st=2 then some {s with own:=own}else none
def xu(s:aa):Option aa:=if s.st=2/\s.fO=false then some {s with fO:=true}else none
def tq(s:aa)(more:Int):Option aa:=if(s.st=2\/s.st=3)/\0<=more/\more<=4095 then some {dU s 6 0 with ep:=more}else none
def xq(s:aa):Option aa:=if s.st=6 then some (dU s 0 0)else none
def xm(s:aa):Option aa:=if(s.st=2\/s.st=3\/s.st=4)/\s.brk=false then some {s with brk:=true}else none
def aZ(s:aa)(own more:Int):Option aa:=if s.st=3/\s.own=own/\s.brk=false/\bA s.str<more/\bA s.str<8 then some {s with str:=s.str+2^(bA s.str).toNat}else none
def vH(s:aa)(own more:Int):Option aa:=if s.st=3/\s.own=own/\0<=more/\more<=7/\s.str/2^more.toNat%2=1 then some {s with str:=s.str-2^more.toNat}else none
def sZ(s:aa)(own:Int):Option aa:=if s.st=4/\s.own=own then some (fM s own)else if s.st=5/\s.own=own then some (dU s 1 own)else none
def xk(s:aa)(more:Int):Option aa:=if s.st=6/\0<=more/\more<=4095 then some {s with ep:=more}else none
def uT(s:aa)(k own more:Int):Option aa:=
 if k=0 then row0 s own else if k=1 then yB s own else if k=2 then Ce s own else if k=3 then uU s own else if k=4 then yA s own else if k=5 then yz s own else
 if k=6 then yx s own else if k=7 then yu s own else if k=8 then oK s else if k=9 then Cc s own else if k=10 then xu s else if k=11 then tq s more else
 if k=12 then xq s else if k=13 then xm s else if k=14 then aZ s own more else if k=15 then vH s own more else if k=16 then sZ s own else if k=17 then xk s more else none
def az(s:aa)(k own more:Int):Option aa:=
 if di s=true/\0<=own/\own<=15 then(uT s k own more).map λt=>{t with cz:=(s.cz+1)%32768}else none
theorem kN{s:aa}:di s=true↔Facts s:=by
 obtain⟨a,b,c,d,e,f,g,h,i⟩:=s;constructor
 ·intro hr
  simp only[di,kH,fr,Bool.and_eq_true,decide_eq_true_eq,Bool.not_eq_true',Bool.or_eq_false_iff,Bool.or_eq_true,beq_iff_eq]at hr;obtain⟨⟨⟨⟨⟨⟨⟨⟨h1,h2⟩,h3⟩,h4⟩,h5⟩,h6⟩,h7⟩,⟨⟨h8,h9⟩,h10⟩,h11⟩,h12,CZ⟩:=hr;refine⟨h1,h2,h3,h4,h5,h6,h7,?_,?_,?_,?_,h12,CZ⟩
  ·show c=0\/a=3
   by_cases h3':a=3
   ·exact .inr h3'
   ·left;simp[h3']at h8;have:0<=c:=h3.1;omega
  ·cases d
   ·exact .inl rfl
   ·right
    by_cases hl:a=2\/a=3\/a=4
    ·exact hl
    ·have q:(a==2||a==3||a==4)=false:=by
      rw[Bool.eq_false_iff];intro hq;simp[or_assoc]at hq;exact hl hq
     rw[q]at h9;cases h9
  ·show f=0\/a=2\/a=3\/a=4
   by_cases hl:a=2\/a=3\/a=4
   ·exact .inr hl
   ·left
    have q:(a==2||a==3||a==4)=false:=by
     rw[Bool.eq_false_iff];intro hq;simp[or_assoc]at hq;exact hl hq
    rw[q]at h10;simp at h10;have:0<=f:=h4.1;omega
  ·cases e
   ·exact .inl rfl
   ·right;simpa using h11
 ·rintro⟨h1,h2,h3,h4,h5,h6,h7,h8,h9,h10,h11,h12,CZ⟩
  simp only at h1 h2 h3 h4 h5 h6 h7 h8 h9 h10 h11 h12 CZ;simp only[di,kH,fr,Bool.and_eq_true,decide_eq_true_eq,Bool.not_eq_true',Bool.or_eq_false_iff,Bool.or_eq_true,beq_iff_eq];refine⟨⟨⟨⟨⟨⟨⟨⟨h1,h2⟩,h3⟩,h4⟩,h5⟩,h6⟩,h7⟩,⟨⟨?_,?_⟩,?_⟩,?_⟩,h12,CZ⟩
  ·rcases h8 with h|h<;>simp[h]
  ·rcases h9 with h|h|h|h<;>simp[h]
  ·rcases h10 with h|h|h|h<;>simp[h]
  ·rcases h11 with h|h<;>simp[h]
theorem wrap_small{k:Int}(h0:0<=k)(h1:k<9223372036854775808):IntKind.i64.wrap k=k:=by
 simp[IntKind.wrap,IntKind.signed,IntKind.bits];omega
def yes(s:aa):Option Value:=some (gP (some s))
def no:Option Value:=some (gP none)
theorem abd{s:aa}{k own more:Int}{X:Option Value}(h:Facts s->0<=own->own<=15->X=some (gP ((uT s k own more).map fun t=>{t with cz:=(s.cz+1)%32768}))):
  (bif !di s then no else bif decide (own<0)then no else bif decide (own>15)then no else X)=some (gP (az s k own more)):=by
 unfold az;cases hr:di s with
 |false=>simp[no]
 |true=>
  by_cases h0:own<0
  ·simp[h0,no,show¬0<=own by omega]
  ·by_cases h1:own>15
   ·simp[h0,h1,no,show¬own<=15 by omega]
   ·rw[if_pos ⟨rfl,by omega,by omega⟩]
    simp only[Bool.not_true,cond_false,decide_eq_false h0,decide_eq_false h1];exact h (kN.1 hr) (by omega) (by omega)
end
section
open Go.RowKit Go.bn
attribute [local go_sem ↓] Go.wp_at_zero Go.wp_at_succ GY
theorem U1(a b c:Int)(d e:Bool)(f g h i:Int)(w:World)(hT:cB w):
  Calls Tryz.prog 98 #[.agg #[.int .i64 a,.int .i64 b,.int .i64 c,.bool d,.bool e,.int .i64 f,.int .i64 g,.int .i64 h,.int .i64 i]] w λen w'=>en=.returned (.bool (encS ⟨a,b,c,d,e,f,g,h,i⟩).isSome)/\Below w.heap.size w w':=by
 have hT1:cB (w.alloc (.cells #[.int .i64 a,.int .i64 b,.int .i64 c,.bool d,.bool e,.int .i64 f,.int .i64 g,.int .i64 h,.int .i64 i] 44)):=hT.below ((Below.refl _ _).alloc (Nat.le_refl _) _);go_enter Tryz.func98,Tryz.ntmps98
 go_wp2_with fail
 refine(K4 _ _ _ _ _ _ _ _ _ _ hT1).mono ?_;rintro en w1 ⟨rfl,hb⟩;rw[Ad];go_wp2
 go_ret
 exact⟨rfl,((Below.refl _ _).alloc (Nat.le_refl _) _).trans (hb.mono (by simp))⟩
theorem acv{w:World}{g:Nat}{t:TypeId}{x0 x1 x2 x3 x4 x5 x6 x7 x8:Value}(h:ag w g t #[x0,x1,x2,x3,x4,x5,x6,x7,x8])(v0 v1 v2 v3 v4 v5 v6 v7 v8:Value):
  ag (((((((((w.setCell ⟨g,0,none⟩ v0).setCell ⟨g,1,none⟩ v1).setCell ⟨g,2,none⟩ v2).setCell ⟨g,3,none⟩ v3).setCell ⟨g,4,none⟩ v4).setCell ⟨g,5,none⟩ v5).setCell ⟨g,6,none⟩ v6).setCell ⟨g,7,none⟩ v7).setCell ⟨g,8,none⟩ v8) g t #[v0,v1,v2,v3,v4,v5,v6,v7,v8]:=by
 have:=((((((((h.zV 0 v0).zV 1 v1).zV 2 v2).zV 3 v3).zV 4 v4).zV 5 v5).zV 6 v6).zV 7 v7).zV 8 v8;simpa using this
set_option maxHeartbeats 8000000 in
theorem K5(x:Int)(w:World)(hT:cB w):
  Calls Tryz.prog 73 #[.int .i64 x] w λen w'=>en=.returned (gP (jf x))/\Below w.heap.size w w':=by
 obtain⟨tt,fr,hg1⟩:=hT;have abO:=(Array.getElem?_eq_some_iff.1 hg1).1;obtain⟨W1,hW1⟩:∃W1,w.alloc (.cells #[.int .i64 0,.int .i64 0,.int .i64 0,.bool false,.bool false,.int .i64 0,.int .i64 0,.int .i64 0,.int .i64 0] 44)=W1:=⟨_,rfl⟩;have hg2:W1.heap[0]?=some (.cells je tt fr):=by rw[<-hW1];exact(Below.heap_alloc w _ 0 abO).trans hg1
 have hB1:Below w.heap.size w W1:=by rw[<-hW1];exact(Below.refl _ _).alloc (Nat.le_refl _) _
 have mM:ag W1 w.heap.size 44 #[.int .i64 0,.int .i64 0,.int .i64 0,.bool false,.bool false,.int .i64 0,.int .i64 0,.int .i64 0,.int .i64 0]:=by rw[<-hW1];exact ag.new w 44 _
 have hst:=Lu W1;have hts:je.size=18:=rfl;go_enter Tryz.func73,Tryz.ntmps73
 go_wp2_with (refine wpList_load_row rfl 152 _ rfl 0 rfl tt _ fr _ hg2 Tryz.underlying152 rfl (by kernel_rfl) ?_)
 refine(Yk x _ 9 fC (by decide) (by decide) _ (by have:=Cb Qw (xs:=fC) (ag.new W1 152 je) rfl;simpa using this)).mono ?_
 rintro en w2 ⟨⟨v,rfl,hs⟩,hb⟩;have hB2:Below w.heap.size w w2:=(hB1.alloc hB1.size _).trans (hb.mono (Nat.le_trans hB1.size (by simp)))
 have hR2:ag w2 w.heap.size 44 #[.int .i64 0,.int .i64 0,.int .i64 0,.bool false,.bool false,.int .i64 0,.int .i64 0,.int .i64 0,.int .i64 0]:=(Di mM (.cells je 152)).below hb (by have:=mM.lt;simp;omega)
 have rQ:cB w2:=⟨tt,fr,(hB2.block 0 abO).trans hg1⟩;obtain⟨n0,hn0⟩:∃n,n=bF x 0 3:=⟨_,rfl⟩;obtain⟨n1,hn1⟩:∃n,n=bF x 3 4:=⟨_,rfl⟩;obtain⟨n2,hn2⟩:∃n,n=bF x 7 8:=⟨_,rfl⟩;obtain⟨n3,hn3⟩:∃n,n=bF x 15 1:=⟨_,rfl⟩;obtain⟨n4,hn4⟩:∃n,n=bF x 16 1:=⟨_,rfl⟩;obtain⟨n5,hn5⟩:∃n,n=bF x 17 6:=⟨_,rfl⟩;obtain⟨n6,hn6⟩:∃n,n=bF x 23 12:=⟨_,rfl⟩;obtain⟨n7,hn7⟩:∃n,n=bF x 35 12:=⟨_,rfl⟩;obtain⟨n8,hn8⟩:∃n,n=bF x 47 15:=⟨_,rfl⟩
 have hps:qN x fC=[n0,n1,n2,n3,n4,n5,n6,n7,n8]:=by
  rw[hn0,hn1,hn2,hn3,hn4,hn5,hn6,hn7,hn8];rfl
 have hraw:zY x=⟨n0,n1,n2,n3==1,n4==1,n5,n6,n7,n8⟩:=by rw[hn0,hn1,hn2,hn3,hn4,hn5,hn6,hn7,hn8];rfl
 rw[hps]at hs;obtain⟨A2,cp,rfl,hcp,hrow⟩:=hs;obtain⟨b,off,rfl,hbl,hcell⟩:=hrow (by simp)
 have c0:w2.cell? ⟨b,off,none⟩=some (.int .i64 n0):=by have:=hcell 0 n0 rfl 0 _ rfl;simpa using this
 have c1:w2.cell? ⟨b,off+1,none⟩=some (.int .i64 n1):=by have:=hcell 1 n1 rfl 0 _ rfl;simpa using this
 have c2:w2.cell? ⟨b,off+2,none⟩=some (.int .i64 n2):=by have:=hcell 2 n2 rfl 0 _ rfl;simpa using this
 have c3:w2.cell? ⟨b,off+3,none⟩=some (.int .i64 n3):=by have:=hcell 3 n3 rfl 0 _ rfl;simpa using this
 have c4:w2.cell? ⟨b,off+4,none⟩=some (.int .i64 n4):=by have:=hcell 4 n4 rfl 0 _ rfl;simpa using this
 have c5:w2.cell? ⟨b,off+5,none⟩=some (.int .i64 n5):=by have:=hcell 5 n5 rfl 0 _ rfl;simpa using this
 have c6:w2.cell? ⟨b,off+6,none⟩=some (.int .i64 n6):=by have:=hcell 6 n6 rfl 0 _ rfl;simpa using this
 have c7:w2.cell? ⟨b,off+7,none⟩=some (.int .i64 n7):=by have:=hcell 7 n7 rfl 0 _ rfl;simpa using this
 have c8:w2.cell? ⟨b,off+8,none⟩=some (.int .i64 n8):=by have:=hcell 8 n8 rfl 0 _ rfl;simpa using this
 have hZ2:w.heap.size<w2.heap.size:=hR2.lt;obtain⟨E,hE⟩:∃E,E=encS (zY x):=⟨_,rfl⟩;rw[hraw]at hE;have hD:jf x=if E=some x then some ⟨n0,n1,n2,n3==1,n4==1,n5,n6,n7,n8⟩else none:=by unfold jf;rw[hraw, <-hE]
 have HE:=Lib.hid hE.symm;have HD:=Lib.hid hD;have HT2:=Lib.hid rQ;have am5:9<=cp:=hcp;clear hW1 hg2 hB1 mM hst hts hb hcell hcp hps hraw hE hD rQ hn0 hn1 hn2 hn3 hn4 hn5 hn6 hn7 hn8 hg1;simp only[List.length_cons,List.length_nil,Nat.reduceAdd];go_wp2_with fail
 go_region_held3 (fun w'=>w'.cell? ⟨b,off,none⟩=some (.int .i64 n0)/\w'.cell? ⟨b,off+1,none⟩=some (.int .i64 n1)/\w'.cell? ⟨b,off+2,none⟩=some (.int .i64 n2)/\w'.cell? ⟨b,off+3,none⟩=some (.int .i64 n3)/\w'.cell? ⟨b,off+4,none⟩=some (.int .i64 n4)/\w'.cell? ⟨b,off+5,none⟩=some (.int .i64 n5)/\w'.cell? ⟨b,off+6,none⟩=some (.int .i64 n6)/\w'.cell? ⟨b,off+7,none⟩=some (.int .i64 n7)/\w'.cell? ⟨b,off+8,none⟩=some (.int .i64 n8)/\ag w' w.heap.size 44 #[.int .i64 0,.int .i64 0,.int .i64 0,.bool false,.bool false,.int .i64 0,.int .i64 0,.int .i64 0,.int .i64 0]/\Below w.heap.size w w'/\w2.heap.size<=w'.heap.size)
  (first|exact⟨c0,c1,c2,c3,c4,c5,c6,c7,c8,hR2,hB2.drew,Nat.le_refl _⟩|exact⟨aL c0 _,aL c1 _,aL c2 _,aL c3 _,aL c4 _,aL c5 _,aL c6 _,aL c7 _,aL c8 _,Di hR2 _,(hB2.alloc (Nat.le_of_lt hZ2) _).drew,by simp⟩)
  (fail)
 have hB3:Below w.heap.size w (w2.alloc (.cells #[.int .i64 n0,.int .i64 n1,.int .i64 n2,.bool (n3==1),.bool (n4==1),.int .i64 n5,.int .i64 n6,.int .i64 n7,.int .i64 n8] 44)).drew:=(hB2.alloc (Nat.le_of_lt hZ2) _).drew;have EM:ag (w2.alloc (.cells #[.int .i64 n0,.int .i64 n1,.int .i64 n2,.bool (n3==1),.bool (n4==1),.int .i64 n5,.int .i64 n6,.int .i64 n7,.int .i64 n8] 44)).drew w.heap.size 44 #[.int .i64 0,.int .i64 0,.int .i64 0,.bool false,.bool false,.int .i64 0,.int .i64 0,.int .i64 0,.int .i64 0]:=Di hR2 _;have mK:ag (w2.alloc (.cells #[.int .i64 n0,.int .i64 n1,.int .i64 n2,.bool (n3==1),.bool (n4==1),.int .i64 n5,.int .i64 n6,.int .i64 n7,.int .i64 n8] 44)).drew w2.heap.size 44 #[.int .i64 n0,.int .i64 n1,.int .i64 n2,.bool (n3==1),.bool (n4==1),.int .i64 n5,.int .i64 n6,.int .i64 n7,.int .i64 n8]:=ag.new w2 44 _;have TQ:cB (w2.alloc (.cells #[.int .i64 n0,.int .i64 n1,.int .i64 n2,.bool (n3==1),.bool (n4==1),.int .i64 n5,.int .i64 n6,.int .i64 n7,.int .i64 n8] 44)).drew:=HT2.out.below (((Below.refl _ _).alloc (Nat.le_refl _) _).drew);obtain⟨W3,hW3⟩:∃W3,(w2.alloc (.cells #[.int .i64 n0,.int .i64 n1,.int .i64 n2,.bool (n3==1),.bool (n4==1),.int .i64 n5,.int .i64 n6,.int .i64 n7,.int .i64 n8] 44)).drew=W3:=⟨_,rfl⟩;rw[hW3]at hB3 EM mK TQ ⊢;obtain⟨sb,hsb⟩:∃sb,sb=w2.heap.size:=⟨_,rfl⟩;rw[<-hsb]at mK hZ2 ⊢;clear hW3 hsb hB2 hR2 c0 c1 c2 c3 c4 c5 c6 c7 c8;have s0:W3.cell? ⟨sb,0,none⟩=some (.int .i64 n0):=mK.cell 0;have s1:W3.cell? ⟨sb,1,none⟩=some (.int .i64 n1):=mK.cell 1;have s2:W3.cell? ⟨sb,2,none⟩=some (.int .i64 n2):=mK.cell 2;have s3:W3.cell? ⟨sb,3,none⟩=some (.bool (n3==1)):=mK.cell 3;have s4:W3.cell? ⟨sb,4,none⟩=some (.bool (n4==1)):=mK.cell 4;have s5:W3.cell? ⟨sb,5,none⟩=some (.int .i64 n5):=mK.cell 5;have s6:W3.cell? ⟨sb,6,none⟩=some (.int .i64 n6):=mK.cell 6;have s7:W3.cell? ⟨sb,7,none⟩=some (.int .i64 n7):=mK.cell 7;have s8:W3.cell? ⟨sb,8,none⟩=some (.int .i64 n8):=mK.cell 8;go_wp2_with fail
 refine(K4 _ _ _ _ _ _ _ _ _ _ TQ).mono ?_;rintro en w4 ⟨rfl,hb⟩;rw[HE.out];have hB4:=hB3.trans (hb.mono hB3.size);have oZ:=EM.below hb EM.lt;have oW:=mK.below hb mK.lt;clear s0 s1 s2 s3 s4 s5 s6 s7 s8 hB3 EM mK TQ hb;have f0:=oZ.frozen 0;have f1:=oZ.frozen 1;have f2:=oZ.frozen 2;have f3:=oZ.frozen 3;have f4:=oZ.frozen 4;have f5:=oZ.frozen 5;have f6:=oZ.frozen 6;have f7:=oZ.frozen 7;have f8:=oZ.frozen 8;have s0:w4.cell? ⟨sb,0,none⟩=some (.int .i64 n0):=oW.cell 0;have s1:w4.cell? ⟨sb,1,none⟩=some (.int .i64 n1):=oW.cell 1;have s2:w4.cell? ⟨sb,2,none⟩=some (.int .i64 n2):=oW.cell 2;have s3:w4.cell? ⟨sb,3,none⟩=some (.bool (n3==1)):=oW.cell 3;have s4:w4.cell? ⟨sb,4,none⟩=some (.bool (n4==1)):=oW.cell 4;have s5:w4.cell? ⟨sb,5,none⟩=some (.int .i64 n5):=oW.cell 5;have s6:w4.cell? ⟨sb,6,none⟩=some (.int .i64 n6):=oW.cell 6;have s7:w4.cell? ⟨sb,7,none⟩=some (.int .i64 n7):=oW.cell 7;have s8:w4.cell? ⟨sb,8,none⟩=some (.int .i64 n8):=oW.cell 8;have z0:w4.cell? ⟨w.heap.size,0,none⟩=some (.int .i64 0):=oZ.cell 0;have z1:w4.cell? ⟨w.heap.size,1,none⟩=some (.int .i64 0):=oZ.cell 1;have z2:w4.cell? ⟨w.heap.size,2,none⟩=some (.int .i64 0):=oZ.cell 2;have z3:w4.cell? ⟨w.heap.size,3,none⟩=some (.bool false):=oZ.cell 3;have z4:w4.cell? ⟨w.heap.size,4,none⟩=some (.bool false):=oZ.cell 4;have z5:w4.cell? ⟨w.heap.size,5,none⟩=some (.int .i64 0):=oZ.cell 5;have z6:w4.cell? ⟨w.heap.size,6,none⟩=some (.int .i64 0):=oZ.cell 6;have z7:w4.cell? ⟨w.heap.size,7,none⟩=some (.int .i64 0):=oZ.cell 7;have z8:w4.cell? ⟨w.heap.size,8,none⟩=some (.int .i64 0):=oZ.cell 8;have am3:w.heap.size≠sb:=by omega
 cases E with
 |none=>
  have Y3:jf x=none:=by have:=HD.out;simpa using this
  clear s0 s1 s2 s3 s4 s5 s6 s7 s8 oW;rw[show DV none=.tuple #[.int .i64 0,.bool false]from rfl]
  go_wp2
  have jT:ag (((((((((w4.setCell ⟨w.heap.size,0,none⟩ (.int .i64 0)).setCell ⟨w.heap.size,1,none⟩ (.int .i64 0)).setCell ⟨w.heap.size,2,none⟩ (.int .i64 0)).setCell ⟨w.heap.size,3,none⟩ (.bool false)).setCell ⟨w.heap.size,4,none⟩ (.bool false)).setCell ⟨w.heap.size,5,none⟩ (.int .i64 0)).setCell ⟨w.heap.size,6,none⟩ (.int .i64 0)).setCell ⟨w.heap.size,7,none⟩ (.int .i64 0)).setCell ⟨w.heap.size,8,none⟩ (.int .i64 0)) w.heap.size 44 #[.int .i64 0,.int .i64 0,.int .i64 0,.bool false,.bool false,.int .i64 0,.int .i64 0,.int .i64 0,.int .i64 0]:=acv oZ (.int .i64 0) (.int .i64 0) (.int .i64 0) (.bool false) (.bool false) (.int .i64 0) (.int .i64 0) (.int .i64 0) (.int .i64 0);have Bt:Below w.heap.size w (((((((((w4.setCell ⟨w.heap.size,0,none⟩ (.int .i64 0)).setCell ⟨w.heap.size,1,none⟩ (.int .i64 0)).setCell ⟨w.heap.size,2,none⟩ (.int .i64 0)).setCell ⟨w.heap.size,3,none⟩ (.bool false)).setCell ⟨w.heap.size,4,none⟩ (.bool false)).setCell ⟨w.heap.size,5,none⟩ (.int .i64 0)).setCell ⟨w.heap.size,6,none⟩ (.int .i64 0)).setCell ⟨w.heap.size,7,none⟩ (.int .i64 0)).setCell ⟨w.heap.size,8,none⟩ (.int .i64 0)):=(((((((((hB4.setCell (p:=⟨w.heap.size,0,none⟩) (Nat.le_refl _) (.int .i64 0)).setCell (p:=⟨w.heap.size,1,none⟩) (Nat.le_refl _) (.int .i64 0)).setCell (p:=⟨w.heap.size,2,none⟩) (Nat.le_refl _) (.int .i64 0)).setCell (p:=⟨w.heap.size,3,none⟩) (Nat.le_refl _) (.bool false)).setCell (p:=⟨w.heap.size,4,none⟩) (Nat.le_refl _) (.bool false)).setCell (p:=⟨w.heap.size,5,none⟩) (Nat.le_refl _) (.int .i64 0)).setCell (p:=⟨w.heap.size,6,none⟩) (Nat.le_refl _) (.int .i64 0)).setCell (p:=⟨w.heap.size,7,none⟩) (Nat.le_refl _) (.int .i64 0)).setCell (p:=⟨w.heap.size,8,none⟩) (Nat.le_refl _) (.int .i64 0));obtain⟨W5,Mr⟩:∃W5,(((((((((w4.setCell ⟨w.heap.size,0,none⟩ (.int .i64 0)).setCell ⟨w.heap.size,1,none⟩ (.int .i64 0)).setCell ⟨w.heap.size,2,none⟩ (.int .i64 0)).setCell ⟨w.heap.size,3,none⟩ (.bool false)).setCell ⟨w.heap.size,4,none⟩ (.bool false)).setCell ⟨w.heap.size,5,none⟩ (.int .i64 0)).setCell ⟨w.heap.size,6,none⟩ (.int .i64 0)).setCell ⟨w.heap.size,7,none⟩ (.int .i64 0)).setCell ⟨w.heap.size,8,none⟩ (.int .i64 0))=W5:=⟨_,rfl⟩;rw[Mr]at jT Bt ⊢;clear Mr;have r0:W5.cell? ⟨w.heap.size,0,none⟩=some (.int .i64 0):=jT.cell 0;have r1:W5.cell? ⟨w.heap.size,1,none⟩=some (.int .i64 0):=jT.cell 1;have r2:W5.cell? ⟨w.heap.size,2,none⟩=some (.int .i64 0):=jT.cell 2;have r3:W5.cell? ⟨w.heap.size,3,none⟩=some (.bool false):=jT.cell 3;have r4:W5.cell? ⟨w.heap.size,4,none⟩=some (.bool false):=jT.cell 4;have r5:W5.cell? ⟨w.heap.size,5,none⟩=some (.int .i64 0):=jT.cell 5;have r6:W5.cell? ⟨w.heap.size,6,none⟩=some (.int .i64 0):=jT.cell 6;have r7:W5.cell? ⟨w.heap.size,7,none⟩=some (.int .i64 0):=jT.cell 7;have r8:W5.cell? ⟨w.heap.size,8,none⟩=some (.int .i64 0):=jT.cell 8;rw[Y3];refine bodyPost_ret (v:=gP none) ?_ rfl ⟨rfl,Bt⟩;simp[results,Tryz.f73,go_sem,gP,aa.val,aa.zero,r0,r1,r2,r3,r4,r5,r6,r7,r8]
 |some y=>
  rw[show DV (some y)=.tuple #[.int .i64 y,.bool true]from rfl]
  by_cases hy:y=x
  ·have Y3:jf x=some ⟨n0,n1,n2,n3==1,n4==1,n5,n6,n7,n8⟩:=by have:=HD.out;rw[hy,if_pos rfl]at this;exact this
   subst hy;go_wp2
   have jT:ag (((((((((w4.setCell ⟨w.heap.size,0,none⟩ (.int .i64 n0)).setCell ⟨w.heap.size,1,none⟩ (.int .i64 n1)).setCell ⟨w.heap.size,2,none⟩ (.int .i64 n2)).setCell ⟨w.heap.size,3,none⟩ (.bool (n3==1))).setCell ⟨w.heap.size,4,none⟩ (.bool (n4==1))).setCell ⟨w.heap.size,5,none⟩ (.int .i64 n5)).setCell ⟨w.heap.size,6,none⟩ (.int .i64 n6)).setCell ⟨w.heap.size,7,none⟩ (.int .i64 n7)).setCell ⟨w.heap.size,8,none⟩ (.int .i64 n8)) w.heap.size 44 #[.int .i64 n0,.int .i64 n1,.int .i64 n2,.bool (n3==1),.bool (n4==1),.int .i64 n5,.int .i64 n6,.int .i64 n7,.int .i64 n8]:=acv oZ (.int .i64 n0) (.int .i64 n1) (.int .i64 n2) (.bool (n3==1)) (.bool (n4==1)) (.int .i64 n5) (.int .i64 n6) (.int .i64 n7) (.int .i64 n8);have Bt:Below w.heap.size w (((((((((w4.setCell ⟨w.heap.size,0,none⟩ (.int .i64 n0)).setCell ⟨w.heap.size,1,none⟩ (.int .i64 n1)).setCell ⟨w.heap.size,2,none⟩ (.int .i64 n2)).setCell ⟨w.heap.size,3,none⟩ (.bool (n3==1))).setCell ⟨w.heap.size,4,none⟩ (.bool (n4==1))).setCell ⟨w.heap.size,5,none⟩ (.int .i64 n5)).setCell ⟨w.heap.size,6,none⟩ (.int .i64 n6)).setCell ⟨w.heap.size,7,none⟩ (.int .i64 n7)).setCell ⟨w.heap.size,8,none⟩ (.int .i64 n8)):=(((((((((hB4.setCell (p:=⟨w.heap.size,0,none⟩) (Nat.le_refl _) (.int .i64 n0)).setCell (p:=⟨w.heap.size,1,none⟩) (Nat.le_refl _) (.int .i64 n1)).setCell (p:=⟨w.heap.size,2,none⟩) (Nat.le_refl _) (.int .i64 n2)).setCell (p:=⟨w.heap.size,3,none⟩) (Nat.le_refl _) (.bool (n3==1))).setCell (p:=⟨w.heap.size,4,none⟩) (Nat.le_refl _) (.bool (n4==1))).setCell (p:=⟨w.heap.size,5,none⟩) (Nat.le_refl _) (.int .i64 n5)).setCell (p:=⟨w.heap.size,6,none⟩) (Nat.le_refl _) (.int .i64 n6)).setCell (p:=⟨w.heap.size,7,none⟩) (Nat.le_refl _) (.int .i64 n7)).setCell (p:=⟨w.heap.size,8,none⟩) (Nat.le_refl _) (.int .i64 n8));obtain⟨W5,Mr⟩:∃W5,(((((((((w4.setCell ⟨w.heap.size,0,none⟩ (.int .i64 n0)).setCell ⟨w.heap.size,1,none⟩ (.int .i64 n1)).setCell ⟨w.heap.size,2,none⟩ (.int .i64 n2)).setCell ⟨w.heap.size,3,none⟩ (.bool (n3==1))).setCell ⟨w.heap.size,4,none⟩ (.bool (n4==1))).setCell ⟨w.heap.size,5,none⟩ (.int .i64 n5)).setCell ⟨w.heap.size,6,none⟩ (.int .i64 n6)).setCell ⟨w.heap.size,7,none⟩ (.int .i64 n7)).setCell ⟨w.heap.size,8,none⟩ (.int .i64 n8))=W5:=⟨_,rfl⟩;rw[Mr]at jT Bt ⊢;clear Mr;have r0:W5.cell? ⟨w.heap.size,0,none⟩=some (.int .i64 n0):=jT.cell 0;have r1:W5.cell? ⟨w.heap.size,1,none⟩=some (.int .i64 n1):=jT.cell 1;have r2:W5.cell? ⟨w.heap.size,2,none⟩=some (.int .i64 n2):=jT.cell 2;have r3:W5.cell? ⟨w.heap.size,3,none⟩=some (.bool (n3==1)):=jT.cell 3;have r4:W5.cell? ⟨w.heap.size,4,none⟩=some (.bool (n4==1)):=jT.cell 4;have r5:W5.cell? ⟨w.heap.size,5,none⟩=some (.int .i64 n5):=jT.cell 5;have r6:W5.cell? ⟨w.heap.size,6,none⟩=some (.int .i64 n6):=jT.cell 6;have r7:W5.cell? ⟨w.heap.size,7,none⟩=some (.int .i64 n7):=jT.cell 7;have r8:W5.cell? ⟨w.heap.size,8,none⟩=some (.int .i64 n8):=jT.cell 8;rw[Y3];refine bodyPost_ret (v:=gP (some ⟨n0,n1,n2,n3==1,n4==1,n5,n6,n7,n8⟩)) ?_ rfl ⟨rfl,Bt⟩;simp[results,Tryz.f73,go_sem,gP,aa.val,aa.zero,r0,r1,r2,r3,r4,r5,r6,r7,r8]
  ·have Y3:jf x=none:=by have:=HD.out;rw[if_neg (by simpa using hy)]at this;exact this
   have hyb:(y != x)=true:=by simpa using hy
   clear hy s0 s1 s2 s3 s4 s5 s6 s7 s8 oW;go_wp2
   have jT:ag (((((((((w4.setCell ⟨w.heap.size,0,none⟩ (.int .i64 0)).setCell ⟨w.heap.size,1,none⟩ (.int .i64 0)).setCell ⟨w.heap.size,2,none⟩ (.int .i64 0)).setCell ⟨w.heap.size,3,none⟩ (.bool false)).setCell ⟨w.heap.size,4,none⟩ (.bool false)).setCell ⟨w.heap.size,5,none⟩ (.int .i64 0)).setCell ⟨w.heap.size,6,none⟩ (.int .i64 0)).setCell ⟨w.heap.size,7,none⟩ (.int .i64 0)).setCell ⟨w.heap.size,8,none⟩ (.int .i64 0)) w.heap.size 44 #[.int .i64 0,.int .i64 0,.int .i64 0,.bool false,.bool false,.int .i64 0,.int .i64 0,.int .i64 0,.int .i64 0]:=acv oZ (.int .i64 0) (.int .i64 0) (.int .i64 0) (.bool false) (.bool false) (.int .i64 0) (.int .i64 0) (.int .i64 0) (.int .i64 0);have Bt:Below w.heap.size w (((((((((w4.setCell ⟨w.heap.size,0,none⟩ (.int .i64 0)).setCell ⟨w.heap.size,1,none⟩ (.int .i64 0)).setCell ⟨w.heap.size,2,none⟩ (.int .i64 0)).setCell ⟨w.heap.size,3,none⟩ (.bool false)).setCell ⟨w.heap.size,4,none⟩ (.bool false)).setCell ⟨w.heap.size,5,none⟩ (.int .i64 0)).setCell ⟨w.heap.size,6,none⟩ (.int .i64 0)).setCell ⟨w.heap.size,7,none⟩ (.int .i64 0)).setCell ⟨w.heap.size,8,none⟩ (.int .i64 0)):=(((((((((hB4.setCell (p:=⟨w.heap.size,0,none⟩) (Nat.le_refl _) (.int .i64 0)).setCell (p:=⟨w.heap.size,1,none⟩) (Nat.le_refl _) (.int .i64 0)).setCell (p:=⟨w.heap.size,2,none⟩) (Nat.le_refl _) (.int .i64 0)).setCell (p:=⟨w.heap.size,3,none⟩) (Nat.le_refl _) (.bool false)).setCell (p:=⟨w.heap.size,4,none⟩) (Nat.le_refl _) (.bool false)).setCell (p:=⟨w.heap.size,5,none⟩) (Nat.le_refl _) (.int .i64 0)).setCell (p:=⟨w.heap.size,6,none⟩) (Nat.le_refl _) (.int .i64 0)).setCell (p:=⟨w.heap.size,7,none⟩) (Nat.le_refl _) (.int .i64 0)).setCell (p:=⟨w.heap.size,8,none⟩) (Nat.le_refl _) (.int .i64 0));obtain⟨W5,Mr⟩:∃W5,(((((((((w4.setCell ⟨w.heap.size,0,none⟩ (.int .i64 0)).setCell ⟨w.heap.size,1,none⟩ (.int .i64 0)).setCell ⟨w.heap.size,2,none⟩ (.int .i64 0)).setCell ⟨w.heap.size,3,none⟩ (.bool false)).setCell ⟨w.heap.size,4,none⟩ (.bool false)).setCell ⟨w.heap.size,5,none⟩ (.int .i64 0)).setCell ⟨w.heap.size,6,none⟩ (.int .i64 0)).setCell ⟨w.heap.size,7,none⟩ (.int .i64 0)).setCell ⟨w.heap.size,8,none⟩ (.int .i64 0))=W5:=⟨_,rfl⟩;rw[Mr]at jT Bt ⊢;clear Mr;have r0:W5.cell? ⟨w.heap.size,0,none⟩=some (.int .i64 0):=jT.cell 0;have r1:W5.cell? ⟨w.heap.size,1,none⟩=some (.int .i64 0):=jT.cell 1;have r2:W5.cell? ⟨w.heap.size,2,none⟩=some (.int .i64 0):=jT.cell 2;have r3:W5.cell? ⟨w.heap.size,3,none⟩=some (.bool false):=jT.cell 3;have r4:W5.cell? ⟨w.heap.size,4,none⟩=some (.bool false):=jT.cell 4;have r5:W5.cell? ⟨w.heap.size,5,none⟩=some (.int .i64 0):=jT.cell 5;have r6:W5.cell? ⟨w.heap.size,6,none⟩=some (.int .i64 0):=jT.cell 6;have r7:W5.cell? ⟨w.heap.size,7,none⟩=some (.int .i64 0):=jT.cell 7;have r8:W5.cell? ⟨w.heap.size,8,none⟩=some (.int .i64 0):=jT.cell 8;rw[Y3];refine bodyPost_ret (v:=gP none) ?_ rfl ⟨rfl,Bt⟩;simp[results,Tryz.f73,go_sem,gP,aa.val,aa.zero,r0,r1,r2,r3,r4,r5,r6,r7,r8]
end
section
open Go.RowKit Go.bn
attribute [local go_sem ↓] Go.wp_at_zero Go.wp_at_succ
theorem Zi(n m:Int)(w:World):Calls Tryz.prog 61 #[.int .i64 n,.int .i64 m] w λe w'=>e=.returned (.bool (fr n m))/\w=w':=by
 by_cases h0:0<=n
 ·have e0:decide (0<=n)=true:=by simpa using h0
  have hq:fr n m=decide (n<=m):=by unfold fr;rw[e0];rfl
  rw[hq];clear hq h0;go_enter Tryz.func61,Tryz.ntmps61
  go_wp2
  go_ret
  exact⟨rfl,rfl⟩
 ·have e0:decide (0<=n)=false:=by simpa using h0
  have hq:fr n m=false:=by unfold fr;rw[e0];rfl
  rw[hq];clear hq h0;go_enter Tryz.func61,Tryz.ntmps61
  go_wp2
  go_ret
  exact⟨rfl,rfl⟩
theorem aB{n m:Int}{q:Bool}(h:Hid (fr n m=q))(w:World):Calls Tryz.prog 61 #[.int .i64 n,.int .i64 m] w λe w'=>e=.returned (.bool q)/\w=w':=by
 rw[<-h.out];exact Zi n m w
set_option maxHeartbeats 4000000 in
theorem U2(a b c:Int)(d e:Bool)(f g h i:Int)(w:World):
  Calls Tryz.prog 48 #[.agg #[.int .i64 a,.int .i64 b,.int .i64 c,.bool d,.bool e,.int .i64 f,.int .i64 g,.int .i64 h,.int .i64 i]] w λen w'=>en=.returned (.bool (di ⟨a,b,c,d,e,f,g,h,i⟩))/\Below w.heap.size w w':=by
 obtain⟨W1,hW1⟩:∃W1,w.alloc (.cells #[.int .i64 a,.int .i64 b,.int .i64 c,.bool d,.bool e,.int .i64 f,.int .i64 g,.int .i64 h,.int .i64 i] 44)=W1:=⟨_,rfl⟩;have hB1:Below w.heap.size w W1:=by rw[<-hW1];exact(Below.refl _ _).alloc (Nat.le_refl _) _
 have hcs:∀j,W1.cell? ⟨w.heap.size,j,none⟩=(#[.int .i64 a,.int .i64 b,.int .i64 c,.bool d,.bool e,.int .i64 f,.int .i64 g,.int .i64 h,.int .i64 i]:Array Value)[j]?:=λj=>by rw[<-hW1];exact(ag.new w 44 _).cell j
 have c0:W1.cell? ⟨w.heap.size,0,none⟩=some (.int .i64 a):=hcs 0;have c1:W1.cell? ⟨w.heap.size,1,none⟩=some (.int .i64 b):=hcs 1;have c2:W1.cell? ⟨w.heap.size,2,none⟩=some (.int .i64 c):=hcs 2;have c3:W1.cell? ⟨w.heap.size,3,none⟩=some (.bool d):=hcs 3;have c4:W1.cell? ⟨w.heap.size,4,none⟩=some (.bool e):=hcs 4;have c5:W1.cell? ⟨w.heap.size,5,none⟩=some (.int .i64 f):=hcs 5;have c6:W1.cell? ⟨w.heap.size,6,none⟩=some (.int .i64 g):=hcs 6;have c7:W1.cell? ⟨w.heap.size,7,none⟩=some (.int .i64 h):=hcs 7;have c8:W1.cell? ⟨w.heap.size,8,none⟩=some (.int .i64 i):=hcs 8;obtain⟨r,hr⟩:∃r,r=di ⟨a,b,c,d,e,f,g,h,i⟩:=⟨_,rfl⟩;have HR:=Lib.hid hr;rw[<-hr];obtain⟨q0,h0⟩:∃q,fr a 6=q:=⟨_,rfl⟩;obtain⟨q1,h1⟩:∃q,fr b 15=q:=⟨_,rfl⟩;obtain⟨q2,h2⟩:∃q,fr c 255=q:=⟨_,rfl⟩;obtain⟨q3,h3⟩:∃q,fr f 63=q:=⟨_,rfl⟩;obtain⟨q4,h4⟩:∃q,fr g 4095=q:=⟨_,rfl⟩;obtain⟨q5,h5⟩:∃q,fr h 4095=q:=⟨_,rfl⟩;obtain⟨q6,h6⟩:∃q,fr i 32767=q:=⟨_,rfl⟩;have H0:=Lib.hid h0;have H1:=Lib.hid h1;have H2:=Lib.hid h2;have H3:=Lib.hid h3;have H4:=Lib.hid h4;have H5:=Lib.hid h5;have H6:=Lib.hid h6;clear hcs hr h0 h1 h2 h3 h4 h5 h6;go_enter Tryz.func48,Tryz.ntmps48
 cases q0 with
 |false=>
  go_wp2_with (first|(with_reducible refine(aB H0 _).mono ?_;rintro en w1 ⟨rfl,rfl⟩)|(with_reducible refine(aB H1 _).mono ?_;rintro en w1 ⟨rfl,rfl⟩)|(with_reducible refine(aB H2 _).mono ?_;rintro en w1 ⟨rfl,rfl⟩)|(with_reducible refine(aB H3 _).mono ?_;rintro en w1 ⟨rfl,rfl⟩)|(with_reducible refine(aB H4 _).mono ?_;rintro en w1 ⟨rfl,rfl⟩)|(with_reducible refine(aB H5 _).mono ?_;rintro en w1 ⟨rfl,rfl⟩)|(with_reducible refine(aB H6 _).mono ?_;rintro en w1 ⟨rfl,rfl⟩))
  go_ret
  exact⟨ji (by rw[HR.out];simp[di,kH,H0.out]),hB1⟩
 |true=>
  cases q1 with
  |false=>
   go_wp2_with (first|(with_reducible refine(aB H0 _).mono ?_;rintro en w1 ⟨rfl,rfl⟩)|(with_reducible refine(aB H1 _).mono ?_;rintro en w1 ⟨rfl,rfl⟩)|(with_reducible refine(aB H2 _).mono ?_;rintro en w1 ⟨rfl,rfl⟩)|(with_reducible refine(aB H3 _).mono ?_;rintro en w1 ⟨rfl,rfl⟩)|(with_reducible refine(aB H4 _).mono ?_;rintro en w1 ⟨rfl,rfl⟩)|(with_reducible refine(aB H5 _).mono ?_;rintro en w1 ⟨rfl,rfl⟩)|(with_reducible refine(aB H6 _).mono ?_;rintro en w1 ⟨rfl,rfl⟩))
   go_ret
   exact⟨ji (by rw[HR.out];simp[di,kH,H0.out,H1.out]),hB1⟩
  |true=>
   cases q2 with
   |false=>
    go_wp2_with (first|(with_reducible refine(aB H0 _).mono ?_;rintro en w1 ⟨rfl,rfl⟩)|(with_reducible refine(aB H1 _).mono ?_;rintro en w1 ⟨rfl,rfl⟩)|(with_reducible refine(aB H2 _).mono ?_;rintro en w1 ⟨rfl,rfl⟩)|(with_reducible refine(aB H3 _).mono ?_;rintro en w1 ⟨rfl,rfl⟩)|(with_reducible refine(aB H4 _).mono ?_;rintro en w1 ⟨rfl,rfl⟩)|(with_reducible refine(aB H5 _).mono ?_;rintro en w1 ⟨rfl,rfl⟩)|(with_reducible refine(aB H6 _).mono ?_;rintro en w1 ⟨rfl,rfl⟩))
    go_ret
    exact⟨ji (by rw[HR.out];simp[di,kH,H0.out,H1.out,H2.out]),hB1⟩
   |true=>
    cases q3 with
    |false=>
     go_wp2_with (first|(with_reducible refine(aB H0 _).mono ?_;rintro en w1 ⟨rfl,rfl⟩)|(with_reducible refine(aB H1 _).mono ?_;rintro en w1 ⟨rfl,rfl⟩)|(with_reducible refine(aB H2 _).mono ?_;rintro en w1 ⟨rfl,rfl⟩)|(with_reducible refine(aB H3 _).mono ?_;rintro en w1 ⟨rfl,rfl⟩)|(with_reducible refine(aB H4 _).mono ?_;rintro en w1 ⟨rfl,rfl⟩)|(with_reducible refine(aB H5 _).mono ?_;rintro en w1 ⟨rfl,rfl⟩)|(with_reducible refine(aB H6 _).mono ?_;rintro en w1 ⟨rfl,rfl⟩))
     go_ret
     exact⟨ji (by rw[HR.out];simp[di,kH,H0.out,H1.out,H2.out,H3.out]),hB1⟩
    |true=>
     cases q4 with
     |false=>
      go_wp2_with (first|(with_reducible refine(aB H0 _).mono ?_;rintro en w1 ⟨rfl,rfl⟩)|(with_reducible refine(aB H1 _).mono ?_;rintro en w1 ⟨rfl,rfl⟩)|(with_reducible refine(aB H2 _).mono ?_;rintro en w1 ⟨rfl,rfl⟩)|(with_reducible refine(aB H3 _).mono ?_;rintro en w1 ⟨rfl,rfl⟩)|(with_reducible refine(aB H4 _).mono ?_;rintro en w1 ⟨rfl,rfl⟩)|(with_reducible refine(aB H5 _).mono ?_;rintro en w1 ⟨rfl,rfl⟩)|(with_reducible refine(aB H6 _).mono ?_;rintro en w1 ⟨rfl,rfl⟩))
      go_ret
      exact⟨ji (by rw[HR.out];simp[di,kH,H0.out,H1.out,H2.out,H3.out,H4.out]),hB1⟩
     |true=>
      cases q5 with
      |false=>
       go_wp2_with (first|(with_reducible refine(aB H0 _).mono ?_;rintro en w1 ⟨rfl,rfl⟩)|(with_reducible refine(aB H1 _).mono ?_;rintro en w1 ⟨rfl,rfl⟩)|(with_reducible refine(aB H2 _).mono ?_;rintro en w1 ⟨rfl,rfl⟩)|(with_reducible refine(aB H3 _).mono ?_;rintro en w1 ⟨rfl,rfl⟩)|(with_reducible refine(aB H4 _).mono ?_;rintro en w1 ⟨rfl,rfl⟩)|(with_reducible refine(aB H5 _).mono ?_;rintro en w1 ⟨rfl,rfl⟩)|(with_reducible refine(aB H6 _).mono ?_;rintro en w1 ⟨rfl,rfl⟩))
       go_ret
       exact⟨ji (by rw[HR.out];simp[di,kH,H0.out,H1.out,H2.out,H3.out,H4.out,H5.out]),hB1⟩
      |true=>
       cases q6 with
       |false=>
        go_wp2_with (first|(with_reducible refine(aB H0 _).mono ?_;rintro en w1 ⟨rfl,rfl⟩)|(with_reducible refine(aB H1 _).mono ?_;rintro en w1 ⟨rfl,rfl⟩)|(with_reducible refine(aB H2 _).mono ?_;rintro en w1 ⟨rfl,rfl⟩)|(with_reducible refine(aB H3 _).mono ?_;rintro en w1 ⟨rfl,rfl⟩)|(with_reducible refine(aB H4 _).mono ?_;rintro en w1 ⟨rfl,rfl⟩)|(with_reducible refine(aB H5 _).mono ?_;rintro en w1 ⟨rfl,rfl⟩)|(with_reducible refine(aB H6 _).mono ?_;rintro en w1 ⟨rfl,rfl⟩))
        go_ret
        exact⟨ji (by rw[HR.out];simp[di,kH,H0.out,H1.out,H2.out,H3.out,H4.out,H5.out,H6.out]),hB1⟩
       |true=>
        have hcases:a=0\/a=2\/a=3\/a=4\/a=6\/(a≠0/\a≠2/\a≠3/\a≠4/\a≠6):=by omega
        rcases hcases with ha|ha|ha|ha|ha|⟨ha0,ha2,ha3,ha4,ha6⟩
        case inr.inr.inr.inr.inr=>
         have s0:(a==0)=false:=by simp[ha0]
         have s2:(a==2)=false:=by simp[ha2]
         have s3:(a==3)=false:=by simp[ha3]
         have s4:(a==4)=false:=by simp[ha4]
         have s6:(a==6)=false:=by simp[ha6]
         have t2:(a != 2)=true:=by simp[ha2]
         have t3:(a != 3)=true:=by simp[ha3]
         have HA0:=Lib.hid ha0;have HA6:=Lib.hid ha6;have hp:decide (0<a)=true:=by have:=H0.out;unfold fr at this;simp at this;simp;omega
         have hp6:decide (a<6)=true:=by have:=H0.out;unfold fr at this;simp at this;simp;omega
         clear ha0 ha2 ha3 ha4 ha6;go_wp2_with (first|(with_reducible refine(aB H0 _).mono ?_;rintro en w1 ⟨rfl,rfl⟩)|(with_reducible refine(aB H1 _).mono ?_;rintro en w1 ⟨rfl,rfl⟩)|(with_reducible refine(aB H2 _).mono ?_;rintro en w1 ⟨rfl,rfl⟩)|(with_reducible refine(aB H3 _).mono ?_;rintro en w1 ⟨rfl,rfl⟩)|(with_reducible refine(aB H4 _).mono ?_;rintro en w1 ⟨rfl,rfl⟩)|(with_reducible refine(aB H5 _).mono ?_;rintro en w1 ⟨rfl,rfl⟩)|(with_reducible refine(aB H6 _).mono ?_;rintro en w1 ⟨rfl,rfl⟩))
         all_goals (clear c0 c1 c2 c3 c4 c5 c6 c7 c8;go_ret)
         all_goals (refine⟨ji ?_,hB1⟩;rw[HR.out];simp only[di,kH,H0.out,H1.out,H2.out,H3.out,H4.out,H5.out,H6.out])
         all_goals (first|(simp[*];done)|(simp[*];omega))
        all_goals
         subst ha;go_wp2_with (first|(with_reducible refine(aB H0 _).mono ?_;rintro en w1 ⟨rfl,rfl⟩)|(with_reducible refine(aB H1 _).mono ?_;rintro en w1 ⟨rfl,rfl⟩)|(with_reducible refine(aB H2 _).mono ?_;rintro en w1 ⟨rfl,rfl⟩)|(with_reducible refine(aB H3 _).mono ?_;rintro en w1 ⟨rfl,rfl⟩)|(with_reducible refine(aB H4 _).mono ?_;rintro en w1 ⟨rfl,rfl⟩)|(with_reducible refine(aB H5 _).mono ?_;rintro en w1 ⟨rfl,rfl⟩)|(with_reducible refine(aB H6 _).mono ?_;rintro en w1 ⟨rfl,rfl⟩))
         all_goals (clear c0 c1 c2 c3 c4 c5 c6 c7 c8;go_ret)
         all_goals (refine⟨ji ?_,hB1⟩;rw[HR.out];simp only[di,kH,H0.out,H1.out,H2.out,H3.out,H4.out,H5.out,H6.out])
         all_goals (first|(simp[*];done)|(simp[*];omega))
end
section
open Go.RowKit Go.bn Go.Sx
def uk:bZ:=λargs lh=>match args with|[s]=>pq s λs=>.ret (.bool (di s),lh)|_=>.bad
theorem RY(s:aa):(encS s).isSome=di s:=by
 rw[sM];unfold encR;cases di s<;>rfl
theorem OW:Sound Tryz.prog cB 98 uk:=by
 refine Sound.pure ⟨Tryz.func98,by kernel_rfl,by kernel_rfl⟩ λargs lh r hr=> ?_
 unfold uk at hr;split at hr
 ·obtain⟨s,rfl,h2⟩:=iq hr
  simp only[M.ah,Option.some.injEq]at h2;subst h2;exact⟨rfl,Dl s,rfl,λw hT=>by rw[<-RY];exact U1 _ _ _ _ _ _ _ _ _ w hT⟩
 ·cases hr
theorem wu:Sound Tryz.prog cB 48 uk:=by
 refine Sound.pure ⟨Tryz.func48,by kernel_rfl,by kernel_rfl⟩ λargs lh r hr=> ?_
 unfold uk at hr;split at hr
 ·obtain⟨s,rfl,h2⟩:=iq hr
  simp only[M.ah,Option.some.injEq]at h2;subst h2;exact⟨rfl,Dl s,rfl,λw hT=>U2 _ _ _ _ _ _ _ _ _ w⟩
 ·cases hr
def LD:List (FuncId×bZ):=[(98,uk),(48,uk)]
theorem OV:lH Tryz.prog cB LD:=bL OW<|bL wu jI
noncomputable def TF:List (FuncId×Func):=[(74,Tryz.f74),(97,Tryz.f97),(134,Tryz.f134),(135,Tryz.f135),(136,Tryz.f136),(137,Tryz.f137),(138,Tryz.f138),(139,Tryz.f139),(140,Tryz.f140),(141,Tryz.f141),(142,Tryz.f142),(143,Tryz.f143),(144,Tryz.f144),(145,Tryz.f145),(146,Tryz.f146),(147,Tryz.f147),(148,Tryz.f148),(149,Tryz.f149),(150,Tryz.f150),(151,Tryz.f151),(208,Tryz.f208),(209,Tryz.f209),(210,Tryz.f210),(211,Tryz.f211),(212,Tryz.f212),(213,Tryz.f213)]
def GZ:TypeId×List Bool:=(44,[false,false,false,true,true,false,false,false,false])
noncomputable def TG:Env:=tH Tryz.prog TF [GZ] LD []
theorem BQ:∀e∈[GZ],pU Tryz.prog e.1 e.2=true:=by
 intro e he;rw[List.mem_singleton]at he;subst he;kernel_rfl
theorem VA:∀e∈TF,iL Tryz.prog e.1 e.2:=
  fk Tryz.func74<|fk Tryz.func97<|fk Tryz.func134<|fk Tryz.func135<|fk Tryz.func136<|fk Tryz.func137<|fk Tryz.func138<|fk Tryz.func139<|fk Tryz.func140<|fk Tryz.func141<|fk Tryz.func142<|fk Tryz.func143<|fk Tryz.func144<|fk Tryz.func145<|fk Tryz.func146<|fk Tryz.func147<|fk Tryz.func148<|fk Tryz.func149<|fk Tryz.func150<|fk Tryz.func151<|fk Tryz.func208<|fk Tryz.func209<|fk Tryz.func210<|fk Tryz.func211<|fk Tryz.func212<|fk Tryz.func213<|jL rfl
theorem VB(X:Nat->Prop)(w0:World)(h0:X 0)(hB:eB X w0)(hT:cB w0):iA TG X w0:=l5 BQ (by kernel_rfl) VA OV iO h0 hB hT
end
section
open Go.RowKit Go.bn Go.Sx
def aO(s:aa)(o:Option aa):Option Value:=some (gP (o.map λt=>{t with cz:=(s.cz+1)%32768}))
def CP(s:aa)(own more:Int):Option Value:=bif !s.st==0 then no else yes (aa.mk 1 own 0 false false 0 s.gen 0 (Int.tmod (IntKind.i64.wrap (s.cz+1)) 32768))
def CO(s:aa)(own more:Int):Option Value:=bif s.st==1 then bif !s.own==own then no else yes (aa.mk 3 own s.str s.brk false (if 63<IntKind.i64.wrap (s.uses+1)then 63 else IntKind.i64.wrap (s.uses+1)) (Int.tmod (IntKind.i64.wrap (s.gen+1)) 4096) 0 (Int.tmod (IntKind.i64.wrap (s.cz+1)) 32768))else no
def CL(s:aa)(own more:Int):Option Value:=bif s.st==1 then bif !s.own==own then no else yes (aa.mk 0 0 0 false false 0 s.gen 0 (Int.tmod (IntKind.i64.wrap (s.cz+1)) 32768))else no
def CK(s:aa)(own more:Int):Option Value:=bif s.st==2 then bif !!s.brk then no else yes (aa.mk 3 own s.str s.brk false (if 63<IntKind.i64.wrap (s.uses+1)then 63 else IntKind.i64.wrap (s.uses+1)) (Int.tmod (IntKind.i64.wrap (s.gen+1)) 4096) 0 (Int.tmod (IntKind.i64.wrap (s.cz+1)) 32768))else no
def CJ(s:aa)(own more:Int):Option Value:=bif s.st==3 then bif s.own==own then bif !s.str==0 then no else yes (aa.mk 2 own 0 s.brk s.fO s.uses s.gen 0 (Int.tmod (IntKind.i64.wrap (s.cz+1)) 32768))else no else no
def CG(s:aa)(own more:Int):Option Value:=bif s.st==2 then bif !!s.brk then no else yes (aa.mk 4 own 0 s.brk false s.uses s.gen 0 (Int.tmod (IntKind.i64.wrap (s.cz+1)) 32768))else no
def CF(s:aa)(own more:Int):Option Value:=bif !s.st==4 then no else yes (aa.mk 2 own 0 s.brk s.fO s.uses s.gen 0 (Int.tmod (IntKind.i64.wrap (s.cz+1)) 32768))
def CE(s:aa)(own more:Int):Option Value:=bif !s.st==0 then no else yes (aa.mk 5 own 0 false false 0 s.gen 0 (Int.tmod (IntKind.i64.wrap (s.cz+1)) 32768))
def CB(s:aa)(own more:Int):Option Value:=bif !s.st==5 then no else yes (aa.mk 0 0 0 false false 0 s.gen 0 (Int.tmod (IntKind.i64.wrap (s.cz+1)) 32768))
def Cz(s:aa)(own more:Int):Option Value:=bif !s.st==2 then no else yes (aa.mk 2 own 0 s.brk s.fO s.uses s.gen 0 (Int.tmod (IntKind.i64.wrap (s.cz+1)) 32768))
def zm(s:aa)(own more:Int):Option Value:=bif s.st==2 then bif !!s.fO then no else yes (aa.mk s.st s.own s.str s.brk true s.uses s.gen s.ep (Int.tmod (IntKind.i64.wrap (s.cz+1)) 32768))else no
def zl(s:aa)(own more:Int):Option Value:=bif decide (more>=0)then bif decide (more<=4095)then bif s.st==2 then yes (aa.mk 6 0 0 false false 0 s.gen more (Int.tmod (IntKind.i64.wrap (s.cz+1)) 32768))else bif !s.st==3 then no else yes (aa.mk 6 0 0 false false 0 s.gen more (Int.tmod (IntKind.i64.wrap (s.cz+1)) 32768))else no else no
def zk(s:aa)(own more:Int):Option Value:=bif !s.st==6 then no else yes (aa.mk 0 0 0 false false 0 s.gen 0 (Int.tmod (IntKind.i64.wrap (s.cz+1)) 32768))
def zi(s:aa)(own more:Int):Option Value:=bif !s.brk then bif s.st==2 then yes (aa.mk s.st s.own s.str true s.fO s.uses s.gen s.ep (Int.tmod (IntKind.i64.wrap (s.cz+1)) 32768))else bif s.st==3 then yes (aa.mk s.st s.own s.str true s.fO s.uses s.gen s.ep (Int.tmod (IntKind.i64.wrap (s.cz+1)) 32768))else bif !s.st==4 then no else yes (aa.mk s.st s.own s.str true s.fO s.uses s.gen s.ep (Int.tmod (IntKind.i64.wrap (s.cz+1)) 32768))else no
def aK(s:aa)(own more:Int):Option Value:=bif s.st==3 then bif !s.own==own then no else bif s.brk then no else bif decide (0<if 8<more then 8 else more)then bif bits BinOp.and IntKind.i64 s.str 1==0 then yes (aa.mk s.st s.own (bits BinOp.or IntKind.i64 s.str 1) s.brk s.fO s.uses s.gen s.ep (Int.tmod (IntKind.i64.wrap (s.cz+1)) 32768))else bif decide (1<if 8<more then 8 else more)then bif bits BinOp.and IntKind.i64 s.str 2==0 then yes (aa.mk s.st s.own (bits BinOp.or IntKind.i64 s.str 2) s.brk s.fO s.uses s.gen s.ep (Int.tmod (IntKind.i64.wrap (s.cz+1)) 32768))else bif decide (2<if 8<more then 8 else more)then bif bits BinOp.and IntKind.i64 s.str 4==0 then yes (aa.mk s.st s.own (bits BinOp.or IntKind.i64 s.str 4) s.brk s.fO s.uses s.gen s.ep (Int.tmod (IntKind.i64.wrap (s.cz+1)) 32768))else bif decide (3<if 8<more then 8 else more)then bif bits BinOp.and IntKind.i64 s.str 8==0 then yes (aa.mk s.st s.own (bits BinOp.or IntKind.i64 s.str 8) s.brk s.fO s.uses s.gen s.ep (Int.tmod (IntKind.i64.wrap (s.cz+1)) 32768))else bif decide (4<if 8<more then 8 else more)then bif bits BinOp.and IntKind.i64 s.str 16==0 then yes (aa.mk s.st s.own (bits BinOp.or IntKind.i64 s.str 16) s.brk s.fO s.uses s.gen s.ep (Int.tmod (IntKind.i64.wrap (s.cz+1)) 32768))else bif decide (5<if 8<more then 8 else more)then bif bits BinOp.and IntKind.i64 s.str 32==0 then yes (aa.mk s.st s.own (bits BinOp.or IntKind.i64 s.str 32) s.brk s.fO s.uses s.gen s.ep (Int.tmod (IntKind.i64.wrap (s.cz+1)) 32768))else bif decide (6<if 8<more then 8 else more)then bif bits BinOp.and IntKind.i64 s.str 64==0 then yes (aa.mk s.st s.own (bits BinOp.or IntKind.i64 s.str 64) s.brk s.fO s.uses s.gen s.ep (Int.tmod (IntKind.i64.wrap (s.cz+1)) 32768))else bif decide (7<if 8<more then 8 else more)then bif bits BinOp.and IntKind.i64 s.str 128==0 then yes (aa.mk s.st s.own (bits BinOp.or IntKind.i64 s.str 128) s.brk s.fO s.uses s.gen s.ep (Int.tmod (IntKind.i64.wrap (s.cz+1)) 32768))else bif decide (8<if 8<more then 8 else more)then bif bits BinOp.and IntKind.i64 s.str 256==0 then yes (aa.mk s.st s.own (bits BinOp.or IntKind.i64 s.str 256) s.brk s.fO s.uses s.gen s.ep (Int.tmod (IntKind.i64.wrap (s.cz+1)) 32768))else bif decide (9<if 8<more then 8 else more)then bif bits BinOp.and IntKind.i64 s.str 512==0 then none else bif decide (10<if 8<more then 8 else more)then bif bits BinOp.and IntKind.i64 s.str 1024==0 then none else bif decide (11<if 8<more then 8 else more)then bif bits BinOp.and IntKind.i64 s.str 2048==0 then none else none else no else no else no else no else no else no else no else no else no else no else no else no else no
def D7(s:aa)(own more:Int):Option Value:=bif s.st==3 then bif !s.own==own then no else bif decide (more<0)then no else bif decide (more>=8)then no else bif decide (more<0)then none else bif bits BinOp.and IntKind.i64 s.str (IntKind.i64.wrap (1*2^min (Int.toNat more) 64))==0 then no else bif decide (more<0)then none else yes (aa.mk s.st s.own (bits BinOp.andNot IntKind.i64 s.str (IntKind.i64.wrap (1*2^min (Int.toNat more) 64))) s.brk s.fO s.uses s.gen s.ep (Int.tmod (IntKind.i64.wrap (s.cz+1)) 32768))else no
def zh(s:aa)(own more:Int):Option Value:=bif s.st==5 then bif s.own==own then yes (aa.mk 1 own 0 false false 0 s.gen 0 (Int.tmod (IntKind.i64.wrap (s.cz+1)) 32768))else bif s.st==4 then bif !s.own==own then no else yes (aa.mk 3 own s.str s.brk false (if 63<IntKind.i64.wrap (s.uses+1)then 63 else IntKind.i64.wrap (s.uses+1)) (Int.tmod (IntKind.i64.wrap (s.gen+1)) 4096) 0 (Int.tmod (IntKind.i64.wrap (s.cz+1)) 32768))else no else bif s.st==4 then bif !s.own==own then no else yes (aa.mk 3 own s.str s.brk false (if 63<IntKind.i64.wrap (s.uses+1)then 63 else IntKind.i64.wrap (s.uses+1)) (Int.tmod (IntKind.i64.wrap (s.gen+1)) 4096) 0 (Int.tmod (IntKind.i64.wrap (s.cz+1)) 32768))else no
def zg(s:aa)(own more:Int):Option Value:=bif decide (more>=0)then bif decide (more<=4095)then bif !s.st==6 then no else yes (aa.mk 6 0 0 false false 0 s.gen more (Int.tmod (IntKind.i64.wrap (s.cz+1)) 32768))else no else no
def Av(s:aa)(k own more:Int):Option Value:=bif decide (k<0)then no else bif decide (k>=18)then no else bif decide (k=17)then zg s own more else bif decide (k=16)then zh s own more else bif decide (k=15)then D7 s own more else bif decide (k=14)then aK s own more else bif decide (k=13)then zi s own more else bif decide (k=12)then zk s own more else bif decide (k=11)then zl s own more else bif decide (k=10)then zm s own more else bif decide (k=9)then Cz s own more else bif decide (k=8)then CB s own more else bif decide (k=7)then CE s own more else bif decide (k=6)then CF s own more else bif decide (k=5)then CG s own more else bif decide (k=4)then CJ s own more else bif decide (k=3)then CK s own more else bif decide (k=2)then CL s own more else bif decide (k=1)then CO s own more else bif decide (k=0)then CP s own more else none
theorem mT{k m:Int}(h:k<m/\k<8):decide (k<if 8<m then 8 else m)=true:=decide_eq_true (by split<;>omega)
theorem mF{k m:Int}(h:¬(k<m/\k<8)):decide (k<if 8<m then 8 else m)=false:=decide_eq_false (by split<;>omega)
theorem YQ(s:aa)(k own more:Int):(call TG 30 74 [s.val,.int .i64 k,.int .i64 own,.int .i64 more] []).run (Option Value) none (λr=>some r.1)=
  bif !di s then no else bif decide (own<0)then no else bif decide (own>15)then no else Av s k own more:=by kernel_rfl
theorem iZ{s:aa}{own more:Int}(F:Facts s)(h0:0<=own)(h1:own<=15):CP s own more=aO s (row0 s own)/\CO s own more=aO s (yB s own)/\CL s own more=aO s (Ce s own)/\CK s own more=aO s (uU s own)/\CJ s own more=aO s (yA s own)/\CG s own more=aO s (yz s own)/\CF s own more=aO s (yx s own)/\CE s own more=aO s (yu s own)/\CB s own more=aO s (oK s)/\Cz s own more=aO s (Cc s own)/\zm s own more=aO s (xu s)/\zl s own more=aO s (tq s more)/\zk s own more=aO s (xq s)/\zi s own more=aO s (xm s)/\zh s own more=aO s (sZ s own)/\zg s own more=aO s (xk s more):=by
 obtain⟨a,b,c,d,e,f,g,h,i⟩:=s;obtain⟨F1,F2,F3,F4,F5,F6,F7,F8,F9,Rb,Ra,Q9,Q8⟩:=F;simp only at F1 F2 F3 F4 F5 F6 F7 F8 F9 Rb Ra Q9 Q8;have w1:IntKind.i64.wrap (i+1)=i+1:=wrap_small (by omega) (by omega)
 have w2:IntKind.i64.wrap (g+1)=g+1:=wrap_small (by omega) (by omega)
 have w3:IntKind.i64.wrap (f+1)=f+1:=wrap_small (by omega) (by omega)
 have t1:(i+1).tmod 32768=(i+1)%32768:=Int.tmod_eq_emod_of_nonneg (by omega)
 have t2:(g+1).tmod 4096=(g+1)%4096:=Int.tmod_eq_emod_of_nonneg (by omega)
 refine⟨?_,?_,?_,?_,?_,?_,?_,?_,?_,?_,?_,?_,?_,?_,?_,?_⟩<;>simp only[CP,row0,CO,yB,CL,Ce,CK,uU,CJ,yA,CG,yz,CF,yx,CE,yu,CB,oK,Cz,Cc,zm,xu,zl,tq,zk,xq,zi,xm,zh,sZ,zg,xk,dU,fM,w1,w2,w3,t1,t2,yes,no,aO,Bool.cond_eq_ite,decide_eq_true_eq,beq_iff_eq,Bool.not_eq_true',beq_eq_false_iff_ne,decide_eq_false_iff_not,Bool.not_not]<;>(repeat' split)<;>(first|rfl|(simp_all;done)|(simp_all;omega)|(exfalso;simp_all;omega)|(simp_all[Option.map,gP,aa.val];omega))
theorem ajq{s:aa}{own more:Int}(F:Facts s)(h0:0<=own)(h1:own<=15):CP s own more=aO s (row0 s own):=(iZ F h0 h1).1
theorem ajp{s:aa}{own more:Int}(F:Facts s)(h0:0<=own)(h1:own<=15):CO s own more=aO s (yB s own):=(iZ F h0 h1).2.1
theorem ajo{s:aa}{own more:Int}(F:Facts s)(h0:0<=own)(h1:own<=15):CL s own more=aO s (Ce s own):=(iZ F h0 h1).2.2.1
theorem ajn{s:aa}{own more:Int}(F:Facts s)(h0:0<=own)(h1:own<=15):CK s own more=aO s (uU s own):=(iZ F h0 h1).2.2.2.1
theorem ajm{s:aa}{own more:Int}(F:Facts s)(h0:0<=own)(h1:own<=15):CJ s own more=aO s (yA s own):=(iZ F h0 h1).2.2.2.2.1
theorem ajl{s:aa}{own more:Int}(F:Facts s)(h0:0<=own)(h1:own<=15):CG s own more=aO s (yz s own):=(iZ F h0 h1).2.2.2.2.2.1
theorem ajk{s:aa}{own more:Int}(F:Facts s)(h0:0<=own)(h1:own<=15):CF s own more=aO s (yx s own):=(iZ F h0 h1).2.2.2.2.2.2.1
theorem ajj{s:aa}{own more:Int}(F:Facts s)(h0:0<=own)(h1:own<=15):CE s own more=aO s (yu s own):=(iZ F h0 h1).2.2.2.2.2.2.2.1
theorem aji{s:aa}{own more:Int}(F:Facts s)(h0:0<=own)(h1:own<=15):CB s own more=aO s (oK s):=(iZ F h0 h1).2.2.2.2.2.2.2.2.1
theorem ajh{s:aa}{own more:Int}(F:Facts s)(h0:0<=own)(h1:own<=15):Cz s own more=aO s (Cc s own):=(iZ F h0 h1).2.2.2.2.2.2.2.2.2.1
theorem ag6{s:aa}{own more:Int}(F:Facts s)(h0:0<=own)(h1:own<=15):zm s own more=aO s (xu s):=(iZ F h0 h1).2.2.2.2.2.2.2.2.2.2.1
theorem ag5{s:aa}{own more:Int}(F:Facts s)(h0:0<=own)(h1:own<=15):zl s own more=aO s (tq s more):=(iZ F h0 h1).2.2.2.2.2.2.2.2.2.2.2.1
theorem ag4{s:aa}{own more:Int}(F:Facts s)(h0:0<=own)(h1:own<=15):zk s own more=aO s (xq s):=(iZ F h0 h1).2.2.2.2.2.2.2.2.2.2.2.2.1
theorem ag3{s:aa}{own more:Int}(F:Facts s)(h0:0<=own)(h1:own<=15):zi s own more=aO s (xm s):=(iZ F h0 h1).2.2.2.2.2.2.2.2.2.2.2.2.2.1
theorem ag0{s:aa}{own more:Int}(F:Facts s)(h0:0<=own)(h1:own<=15):zh s own more=aO s (sZ s own):=(iZ F h0 h1).2.2.2.2.2.2.2.2.2.2.2.2.2.2.1
theorem agZ{s:aa}{own more:Int}(F:Facts s)(h0:0<=own)(h1:own<=15):zg s own more=aO s (xk s more):=(iZ F h0 h1).2.2.2.2.2.2.2.2.2.2.2.2.2.2.2
def ZH(n i:Nat):Bool:=(decide (bits .and .i64 n (2^i:Nat)=if n/2^i%2=1 then((2^i:Nat):Int)else 0))&&(decide (n/2^i%2=1)||decide (bits .or .i64 n (2^i:Nat)=((n+2^i:Nat):Int)))&&(decide (n/2^i%2=0)||decide (bits .andNot .i64 n (2^i:Nat)=((n-2^i:Nat):Int)))
theorem acw:(List.range 256).all (λn=>(List.range 8).all (ZH n))=true:=by kernel_rfl
theorem oD{c:Int}(h0:0<=c)(h1:c<=255)(i:Nat)(hi:i<8):(bits .and .i64 c (2^i:Nat)=if c/(2^i:Nat)%2=1 then((2^i:Nat):Int)else 0)/\(c/(2^i:Nat)%2≠1->bits .or .i64 c (2^i:Nat)=c+(2^i:Nat))/\(c/(2^i:Nat)%2=1->bits .andNot .i64 c (2^i:Nat)=c-(2^i:Nat)):=by
 have h:=List.all_eq_true.1 (List.all_eq_true.1 acw c.toNat (List.mem_range.2 (by omega))) i (List.mem_range.2 hi)
 simp only[ZH,Bool.and_eq_true,Bool.or_eq_true,decide_eq_true_eq]at h;obtain⟨n,rfl⟩:∃n:Nat,c=n:=⟨c.toNat,by omega⟩
 simp only[Int.toNat_natCast]at h;obtain⟨⟨h2,h3⟩,h4⟩:=h;have e:((n:Int)/((2^i:Nat):Int)%2)=((n/2^i%2:Nat):Int):=by simp
 rw[e];refine⟨?_,λhh=> ?_,λhh=> ?_⟩
 ·rw[h2]
  by_cases q:n/2^i%2=1
  ·rw[if_pos q,if_pos (by omega)]
  ·rw[if_neg q,if_neg (by omega)]
 ·rcases h3 with h3|h3
  ·omega
  ·rw[h3];omega
 ·rcases h4 with h4|h4
  ·omega
  ·rw[h4]
   have:2^i<=n:=by
    rcases Nat.lt_or_ge n (2^i)with hlt|hge
    ·rw[Nat.div_eq_of_lt hlt]at hh;simp at hh
    ·exact hge
   omega
theorem ag1{s:aa}{own more:Int}(F:Facts s)(h0:0<=own)(h1:own<=15):D7 s own more=aO s (vH s own more):=by
 obtain⟨a,b,c,d,e,f,g,h,i⟩:=s;obtain⟨F1,F2,F3,F4,F5,F6,F7,F8,F9,Rb,Ra,Q9,Q8⟩:=F;simp only at F1 F2 F3 F4 F5 F6 F7 F8 F9 Rb Ra Q9 Q8;have w1:IntKind.i64.wrap (i+1)=i+1:=wrap_small (by omega) (by omega)
 have t1:(i+1).tmod 32768=(i+1)%32768:=Int.tmod_eq_emod_of_nonneg (by omega)
 simp only[D7,vH,yes,no,aO];by_cases m0:more<0
 ·simp only[w1,Bool.cond_eq_ite,decide_eq_true_eq,beq_iff_eq,Bool.not_eq_true',beq_eq_false_iff_ne,decide_eq_false_iff_not,Bool.not_not]
  repeat' split
  all_goals first|rfl|(simp_all;done)|(exfalso;simp_all;omega)
 by_cases m7:more>=8
 ·simp only[w1,Bool.cond_eq_ite,decide_eq_true_eq,beq_iff_eq,Bool.not_eq_true',beq_eq_false_iff_ne,decide_eq_false_iff_not,Bool.not_not]
  repeat' split
  all_goals first|rfl|(simp_all;done)|(exfalso;simp_all;omega)
 have hb:=oD F3.1 F3.2 more.toNat (by omega)
 have p:((2^more.toNat:Nat):Int)=(2:Int)^more.toNat:=by simp
 rw[p]at hb
 have e2:IntKind.i64.wrap (1*2^min (Int.toNat more) 64)=(2:Int)^more.toNat:=by
  rcases(show more=0\/more=1\/more=2\/more=3\/more=4\/more=5\/more=6\/more=7 by omega)with rfl|rfl|rfl|rfl|rfl|rfl|rfl|rfl<;>decide
 have e7:(2:Int)^more.toNat≠0:=by
  rcases(show more=0\/more=1\/more=2\/more=3\/more=4\/more=5\/more=6\/more=7 by omega)with rfl|rfl|rfl|rfl|rfl|rfl|rfl|rfl<;>decide
 rw[e2];generalize (2:Int)^more.toNat=q at hb e7 ⊢;obtain⟨b1,b2,b3⟩:=hb;by_cases hq:c/q%2=1
 ·rw[if_pos hq]at b1
  rw[b1,b3 hq];simp only[w1,t1,m0,m7,Bool.cond_eq_ite,decide_eq_true_eq,beq_iff_eq,Bool.not_eq_true',beq_eq_false_iff_ne,decide_eq_false_iff_not,Bool.not_not];repeat' split
  all_goals first|rfl|(simp_all;done)|(simp_all;omega)|(exfalso;simp_all;omega)|(simp_all[Option.map,gP,aa.val];omega)
 ·rw[if_neg hq]at b1
  rw[b1];simp only[w1,t1,m0,m7,Bool.cond_eq_ite,decide_eq_true_eq,beq_iff_eq,Bool.not_eq_true',beq_eq_false_iff_ne,decide_eq_false_iff_not,Bool.not_not];repeat' split
  all_goals first|rfl|(simp_all;done)|(simp_all;omega)|(exfalso;simp_all;omega)|(simp_all[Option.map,gP,aa.val];omega)
theorem ag2{s:aa}{own more:Int}(F:Facts s)(h0:0<=own)(h1:own<=15):aK s own more=aO s (aZ s own more):=by
 obtain⟨a,b,c,d,e,f,g,h,i⟩:=s;obtain⟨F1,F2,F3,F4,F5,F6,F7,F8,F9,Rb,Ra,Q9,Q8⟩:=F;simp only at F1 F2 F3 F4 F5 F6 F7 F8 F9 Rb Ra Q9 Q8;have w1:IntKind.i64.wrap (i+1)=i+1:=wrap_small (by omega) (by omega)
 have t1:(i+1).tmod 32768=(i+1)%32768:=Int.tmod_eq_emod_of_nonneg (by omega)
 have q0:=oD F3.1 F3.2 0 (by decide)
 rw[show((2^0:Nat):Int)=1 from rfl]at q0
 have q1:=oD F3.1 F3.2 1 (by decide)
 rw[show((2^1:Nat):Int)=2 from rfl]at q1
 have q2:=oD F3.1 F3.2 2 (by decide)
 rw[show((2^2:Nat):Int)=4 from rfl]at q2
 have q3:=oD F3.1 F3.2 3 (by decide)
 rw[show((2^3:Nat):Int)=8 from rfl]at q3
 have q4:=oD F3.1 F3.2 4 (by decide)
 rw[show((2^4:Nat):Int)=16 from rfl]at q4
 have q5:=oD F3.1 F3.2 5 (by decide)
 rw[show((2^5:Nat):Int)=32 from rfl]at q5
 have q6:=oD F3.1 F3.2 6 (by decide)
 rw[show((2^6:Nat):Int)=64 from rfl]at q6
 have q7:=oD F3.1 F3.2 7 (by decide)
 rw[show((2^7:Nat):Int)=128 from rfl]at q7
 simp only[Int.ediv_one]at q0;have hN:some (gP (Option.map (λt:aa=>{t with cz:=(i+1)%32768}) none))=some (gP none):=rfl
 by_cases ha:a=3
 case neg=>
  have e1:(a==3)=false:=by simpa using ha
  simp only[aK,aZ,no,aO,e1,cond_false];rw[if_neg (λhh=>ha hh.1)]
  rfl
 by_cases hb:b=own
 case neg=>
  have e1:(b==own)=false:=by simpa using hb
  have e2:(a==3)=true:=by simpa using ha
  simp only[aK,aZ,no,aO,e1,e2,cond_true,Bool.not_false];rw[if_neg (λhh=>hb hh.2.1)]
  rfl
 cases d with
 |true=>
  have e1:(b==own)=true:=by simpa using hb
  have e2:(a==3)=true:=by simpa using ha
  simp only[aK,aZ,no,aO,e1,e2,cond_true,cond_false,Bool.not_true];rw[if_neg (λhh=>by cases hh.2.2.1)]
  rfl
 |false=>
 have e1:(b==own)=true:=by simpa using hb
 have e2:(a==3)=true:=by simpa using ha
 by_cases z0:c%2=1
 case neg=>
  have hl:bA c=0:=by simp[bA,z0]
  have A0:(bits .and .i64 c 1==0)=true:=by rw[q0.1,if_neg z0];rfl
  have B:bits .or .i64 c 1=c+1:=q0.2.1 z0;have hp:(2:Int)^(0:Int).toNat=1:=by decide
  by_cases hm:(0:Int)<more
  ·skip
   have M0:=mT (k:=0) (m:=more) (by omega)
   simp only[aK,aZ,yes,no,aO,hl,e1,e2,A0,M0,cond_true,cond_false,Bool.not_true,w1,t1,hp,B];rw[if_pos (by refine⟨ha,hb,?_,hm,?_⟩<;>first|trivial|rfl|decide)]
   rfl
  have M0:=mF (k:=0) (m:=more) (by omega)
  simp only[aK,aZ,yes,no,aO,hl,e1,e2,A0,M0,cond_true,cond_false,Bool.not_true,w1,t1,hp,B];rw[if_neg (λhh=>by have:=hh.2.2.2;omega)]
  rfl
 by_cases z1:c/2%2=1
 case neg=>
  have hl:bA c=1:=by simp[bA,z0,z1]
  have A0:(bits .and .i64 c 1==0)=false:=by rw[q0.1,if_pos z0];rfl
  have A1:(bits .and .i64 c 2==0)=true:=by rw[q1.1,if_neg z1];rfl
  have B:bits .or .i64 c 2=c+2:=q1.2.1 z1;have hp:(2:Int)^(1:Int).toNat=2:=by decide
  by_cases hm:(1:Int)<more
  ·skip
   have M0:=mT (k:=0) (m:=more) (by omega)
   have M1:=mT (k:=1) (m:=more) (by omega)
   simp only[aK,aZ,yes,no,aO,hl,e1,e2,A0,A1,M0,M1,cond_true,cond_false,Bool.not_true,w1,t1,hp,B];rw[if_pos (by refine⟨ha,hb,?_,hm,?_⟩<;>first|trivial|rfl|decide)]
   rfl
  by_cases n0:more<=0
  ·skip
   have M0:=mF (k:=0) (m:=more) (by omega)
   simp only[aK,aZ,yes,no,aO,hl,e1,e2,A0,A1,M0,cond_true,cond_false,Bool.not_true,w1,t1,hp,B];rw[if_neg (λhh=>by have:=hh.2.2.2;omega)]
   rfl
  have M0:=mT (k:=0) (m:=more) (by omega)
  have M1:=mF (k:=1) (m:=more) (by omega)
  simp only[aK,aZ,yes,no,aO,hl,e1,e2,A0,A1,M0,M1,cond_true,cond_false,Bool.not_true,w1,t1,hp,B];rw[if_neg (λhh=>by have:=hh.2.2.2;omega)]
  rfl
 by_cases z2:c/4%2=1
 case neg=>
  have hl:bA c=2:=by simp[bA,z0,z1,z2]
  have A0:(bits .and .i64 c 1==0)=false:=by rw[q0.1,if_pos z0];rfl
  have A1:(bits .and .i64 c 2==0)=false:=by rw[q1.1,if_pos z1];rfl
  have A2:(bits .and .i64 c 4==0)=true:=by rw[q2.1,if_neg z2];rfl
  have B:bits .or .i64 c 4=c+4:=q2.2.1 z2;have hp:(2:Int)^(2:Int).toNat=4:=by decide
  by_cases hm:(2:Int)<more
  ·skip
   have M0:=mT (k:=0) (m:=more) (by omega)
   have M1:=mT (k:=1) (m:=more) (by omega)
   have M2:=mT (k:=2) (m:=more) (by omega)
   simp only[aK,aZ,yes,no,aO,hl,e1,e2,A0,A1,A2,M0,M1,M2,cond_true,cond_false,Bool.not_true,w1,t1,hp,B];rw[if_pos (by refine⟨ha,hb,?_,hm,?_⟩<;>first|trivial|rfl|decide)]
   rfl
  by_cases n0:more<=0
  ·skip
   have M0:=mF (k:=0) (m:=more) (by omega)
   simp only[aK,aZ,yes,no,aO,hl,e1,e2,A0,A1,A2,M0,cond_true,cond_false,Bool.not_true,w1,t1,hp,B];rw[if_neg (λhh=>by have:=hh.2.2.2;omega)]
   rfl
  by_cases n1:more<=1
  ·skip
   have M0:=mT (k:=0) (m:=more) (by omega)
   have M1:=mF (k:=1) (m:=more) (by omega)
   simp only[aK,aZ,yes,no,aO,hl,e1,e2,A0,A1,A2,M0,M1,cond_true,cond_false,Bool.not_true,w1,t1,hp,B];rw[if_neg (λhh=>by have:=hh.2.2.2;omega)]
   rfl
  have M0:=mT (k:=0) (m:=more) (by omega)
  have M1:=mT (k:=1) (m:=more) (by omega)
  have M2:=mF (k:=2) (m:=more) (by omega)
  simp only[aK,aZ,yes,no,aO,hl,e1,e2,A0,A1,A2,M0,M1,M2,cond_true,cond_false,Bool.not_true,w1,t1,hp,B];rw[if_neg (λhh=>by have:=hh.2.2.2;omega)]
  rfl
 by_cases z3:c/8%2=1
 case neg=>
  have hl:bA c=3:=by simp[bA,z0,z1,z2,z3]
  have A0:(bits .and .i64 c 1==0)=false:=by rw[q0.1,if_pos z0];rfl
  have A1:(bits .and .i64 c 2==0)=false:=by rw[q1.1,if_pos z1];rfl
  have A2:(bits .and .i64 c 4==0)=false:=by rw[q2.1,if_pos z2];rfl
  have A3:(bits .and .i64 c 8==0)=true:=by rw[q3.1,if_neg z3];rfl
  have B:bits .or .i64 c 8=c+8:=q3.2.1 z3;have hp:(2:Int)^(3:Int).toNat=8:=by decide
  by_cases hm:(3:Int)<more
  ·skip
   have M0:=mT (k:=0) (m:=more) (by omega)
   have M1:=mT (k:=1) (m:=more) (by omega)
   have M2:=mT (k:=2) (m:=more) (by omega)
   have M3:=mT (k:=3) (m:=more) (by omega)
   simp only[aK,aZ,yes,no,aO,hl,e1,e2,A0,A1,A2,A3,M0,M1,M2,M3,cond_true,cond_false,Bool.not_true,w1,t1,hp,B];rw[if_pos (by refine⟨ha,hb,?_,hm,?_⟩<;>first|trivial|rfl|decide)]
   rfl
  by_cases n0:more<=0
  ·skip
   have M0:=mF (k:=0) (m:=more) (by omega)
   simp only[aK,aZ,yes,no,aO,hl,e1,e2,A0,A1,A2,A3,M0,cond_true,cond_false,Bool.not_true,w1,t1,hp,B];rw[if_neg (λhh=>by have:=hh.2.2.2;omega)]
   rfl
  by_cases n1:more<=1
  ·skip
   have M0:=mT (k:=0) (m:=more) (by omega)
   have M1:=mF (k:=1) (m:=more) (by omega)
   simp only[aK,aZ,yes,no,aO,hl,e1,e2,A0,A1,A2,A3,M0,M1,cond_true,cond_false,Bool.not_true,w1,t1,hp,B];rw[if_neg (λhh=>by have:=hh.2.2.2;omega)]
   rfl
  by_cases n2:more<=2
  ·skip
   have M0:=mT (k:=0) (m:=more) (by omega)
   have M1:=mT (k:=1) (m:=more) (by omega)
   have M2:=mF (k:=2) (m:=more) (by omega)
   simp only[aK,aZ,yes,no,aO,hl,e1,e2,A0,A1,A2,A3,M0,M1,M2,cond_true,cond_false,Bool.not_true,w1,t1,hp,B];rw[if_neg (λhh=>by have:=hh.2.2.2;omega)]
   rfl
  have M0:=mT (k:=0) (m:=more) (by omega)
  have M1:=mT (k:=1) (m:=more) (by omega)
  have M2:=mT (k:=2) (m:=more) (by omega)
  have M3:=mF (k:=3) (m:=more) (by omega)
  simp only[aK,aZ,yes,no,aO,hl,e1,e2,A0,A1,A2,A3,M0,M1,M2,M3,cond_true,cond_false,Bool.not_true,w1,t1,hp,B];rw[if_neg (λhh=>by have:=hh.2.2.2;omega)]
  rfl
 by_cases z4:c/16%2=1
 case neg=>
  have hl:bA c=4:=by simp[bA,z0,z1,z2,z3,z4]
  have A0:(bits .and .i64 c 1==0)=false:=by rw[q0.1,if_pos z0];rfl
  have A1:(bits .and .i64 c 2==0)=false:=by rw[q1.1,if_pos z1];rfl
  have A2:(bits .and .i64 c 4==0)=false:=by rw[q2.1,if_pos z2];rfl
  have A3:(bits .and .i64 c 8==0)=false:=by rw[q3.1,if_pos z3];rfl
  have A4:(bits .and .i64 c 16==0)=true:=by rw[q4.1,if_neg z4];rfl
  have B:bits .or .i64 c 16=c+16:=q4.2.1 z4;have hp:(2:Int)^(4:Int).toNat=16:=by decide
  by_cases hm:(4:Int)<more
  ·skip
   have M0:=mT (k:=0) (m:=more) (by omega)
   have M1:=mT (k:=1) (m:=more) (by omega)
   have M2:=mT (k:=2) (m:=more) (by omega)
   have M3:=mT (k:=3) (m:=more) (by omega)
   have M4:=mT (k:=4) (m:=more) (by omega)
   simp only[aK,aZ,yes,no,aO,hl,e1,e2,A0,A1,A2,A3,A4,M0,M1,M2,M3,M4,cond_true,cond_false,Bool.not_true,w1,t1,hp,B];rw[if_pos (by refine⟨ha,hb,?_,hm,?_⟩<;>first|trivial|rfl|decide)]
   rfl
  by_cases n0:more<=0
  ·skip
   have M0:=mF (k:=0) (m:=more) (by omega)
   simp only[aK,aZ,yes,no,aO,hl,e1,e2,A0,A1,A2,A3,A4,M0,cond_true,cond_false,Bool.not_true,w1,t1,hp,B];rw[if_neg (λhh=>by have:=hh.2.2.2;omega)]
   rfl
  by_cases n1:more<=1
  ·skip
   have M0:=mT (k:=0) (m:=more) (by omega)
   have M1:=mF (k:=1) (m:=more) (by omega)
   simp only[aK,aZ,yes,no,aO,hl,e1,e2,A0,A1,A2,A3,A4,M0,M1,cond_true,cond_false,Bool.not_true,w1,t1,hp,B];rw[if_neg (λhh=>by have:=hh.2.2.2;omega)]
   rfl
  by_cases n2:more<=2
  ·skip
   have M0:=mT (k:=0) (m:=more) (by omega)
   have M1:=mT (k:=1) (m:=more) (by omega)
   have M2:=mF (k:=2) (m:=more) (by omega)
   simp only[aK,aZ,yes,no,aO,hl,e1,e2,A0,A1,A2,A3,A4,M0,M1,M2,cond_true,cond_false,Bool.not_true,w1,t1,hp,B];rw[if_neg (λhh=>by have:=hh.2.2.2;omega)]
   rfl
  by_cases n3:more<=3
  ·skip
   have M0:=mT (k:=0) (m:=more) (by omega)
   have M1:=mT (k:=1) (m:=more) (by omega)
   have M2:=mT (k:=2) (m:=more) (by omega)
   have M3:=mF (k:=3) (m:=more) (by omega)
   simp only[aK,aZ,yes,no,aO,hl,e1,e2,A0,A1,A2,A3,A4,M0,M1,M2,M3,cond_true,cond_false,Bool.not_true,w1,t1,hp,B];rw[if_neg (λhh=>by have:=hh.2.2.2;omega)]
   rfl
  have M0:=mT (k:=0) (m:=more) (by omega)
  have M1:=mT (k:=1) (m:=more) (by omega)
  have M2:=mT (k:=2) (m:=more) (by omega)
  have M3:=mT (k:=3) (m:=more) (by omega)
  have M4:=mF (k:=4) (m:=more) (by omega)
  simp only[aK,aZ,yes,no,aO,hl,e1,e2,A0,A1,A2,A3,A4,M0,M1,M2,M3,M4,cond_true,cond_false,Bool.not_true,w1,t1,hp,B];rw[if_neg (λhh=>by have:=hh.2.2.2;omega)]
  rfl
 by_cases z5:c/32%2=1
 case neg=>
  have hl:bA c=5:=by simp[bA,z0,z1,z2,z3,z4,z5]
  have A0:(bits .and .i64 c 1==0)=false:=by rw[q0.1,if_pos z0];rfl
  have A1:(bits .and .i64 c 2==0)=false:=by rw[q1.1,if_pos z1];rfl
  have A2:(bits .and .i64 c 4==0)=false:=by rw[q2.1,if_pos z2];rfl
  have A3:(bits .and .i64 c 8==0)=false:=by rw[q3.1,if_pos z3];rfl
  have A4:(bits .and .i64 c 16==0)=false:=by rw[q4.1,if_pos z4];rfl
  have A5:(bits .and .i64 c 32==0)=true:=by rw[q5.1,if_neg z5];rfl
  have B:bits .or .i64 c 32=c+32:=q5.2.1 z5;have hp:(2:Int)^(5:Int).toNat=32:=by decide
  by_cases hm:(5:Int)<more
  ·skip
   have M0:=mT (k:=0) (m:=more) (by omega)
   have M1:=mT (k:=1) (m:=more) (by omega)
   have M2:=mT (k:=2) (m:=more) (by omega)
   have M3:=mT (k:=3) (m:=more) (by omega)
   have M4:=mT (k:=4) (m:=more) (by omega)
   have M5:=mT (k:=5) (m:=more) (by omega)
   simp only[aK,aZ,yes,no,aO,hl,e1,e2,A0,A1,A2,A3,A4,A5,M0,M1,M2,M3,M4,M5,cond_true,cond_false,Bool.not_true,w1,t1,hp,B];rw[if_pos (by refine⟨ha,hb,?_,hm,?_⟩<;>first|trivial|rfl|decide)]
   rfl
  by_cases n0:more<=0
  ·skip
   have M0:=mF (k:=0) (m:=more) (by omega)
   simp only[aK,aZ,yes,no,aO,hl,e1,e2,A0,A1,A2,A3,A4,A5,M0,cond_true,cond_false,Bool.not_true,w1,t1,hp,B];rw[if_neg (λhh=>by have:=hh.2.2.2;omega)]
   rfl
  by_cases n1:more<=1
  ·skip
   have M0:=mT (k:=0) (m:=more) (by omega)
   have M1:=mF (k:=1) (m:=more) (by omega)
   simp only[aK,aZ,yes,no,aO,hl,e1,e2,A0,A1,A2,A3,A4,A5,M0,M1,cond_true,cond_false,Bool.not_true,w1,t1,hp,B];rw[if_neg (λhh=>by have:=hh.2.2.2;omega)]
   rfl
  by_cases n2:more<=2
  ·skip
   have M0:=mT (k:=0) (m:=more) (by omega)
   have M1:=mT (k:=1) (m:=more) (by omega)
   have M2:=mF (k:=2) (m:=more) (by omega)
   simp only[aK,aZ,yes,no,aO,hl,e1,e2,A0,A1,A2,A3,A4,A5,M0,M1,M2,cond_true,cond_false,Bool.not_true,w1,t1,hp,B];rw[if_neg (λhh=>by have:=hh.2.2.2;omega)]
   rfl
  by_cases n3:more<=3
  ·skip
   have M0:=mT (k:=0) (m:=more) (by omega)
   have M1:=mT (k:=1) (m:=more) (by omega)
   have M2:=mT (k:=2) (m:=more) (by omega)
   have M3:=mF (k:=3) (m:=more) (by omega)
   simp only[aK,aZ,yes,no,aO,hl,e1,e2,A0,A1,A2,A3,A4,A5,M0,M1,M2,M3,cond_true,cond_false,Bool.not_true,w1,t1,hp,B];rw[if_neg (λhh=>by have:=hh.2.2.2;omega)]
   rfl
  by_cases n4:more<=4
  ·skip
   have M0:=mT (k:=0) (m:=more) (by omega)
   have M1:=mT (k:=1) (m:=more) (by omega)
   have M2:=mT (k:=2) (m:=more) (by omega)
   have M3:=mT (k:=3) (m:=more) (by omega)
   have M4:=mF (k:=4) (m:=more) (by omega)
   simp only[aK,aZ,yes,no,aO,hl,e1,e2,A0,A1,A2,A3,A4,A5,M0,M1,M2,M3,M4,cond_true,cond_false,Bool.not_true,w1,t1,hp,B];rw[if_neg (λhh=>by have:=hh.2.2.2;omega)]
   rfl
  have M0:=mT (k:=0) (m:=more) (by omega)
  have M1:=mT (k:=1) (m:=more) (by omega)
  have M2:=mT (k:=2) (m:=more) (by omega)
  have M3:=mT (k:=3) (m:=more) (by omega)
  have M4:=mT (k:=4) (m:=more) (by omega)
  have M5:=mF (k:=5) (m:=more) (by omega)
  simp only[aK,aZ,yes,no,aO,hl,e1,e2,A0,A1,A2,A3,A4,A5,M0,M1,M2,M3,M4,M5,cond_true,cond_false,Bool.not_true,w1,t1,hp,B];rw[if_neg (λhh=>by have:=hh.2.2.2;omega)]
  rfl
 by_cases z6:c/64%2=1
 case neg=>
  have hl:bA c=6:=by simp[bA,z0,z1,z2,z3,z4,z5,z6]
  have A0:(bits .and .i64 c 1==0)=false:=by rw[q0.1,if_pos z0];rfl
  have A1:(bits .and .i64 c 2==0)=false:=by rw[q1.1,if_pos z1];rfl
  have A2:(bits .and .i64 c 4==0)=false:=by rw[q2.1,if_pos z2];rfl
  have A3:(bits .and .i64 c 8==0)=false:=by rw[q3.1,if_pos z3];rfl
  have A4:(bits .and .i64 c 16==0)=false:=by rw[q4.1,if_pos z4];rfl
  have A5:(bits .and .i64 c 32==0)=false:=by rw[q5.1,if_pos z5];rfl
  have A6:(bits .and .i64 c 64==0)=true:=by rw[q6.1,if_neg z6];rfl
  have B:bits .or .i64 c 64=c+64:=q6.2.1 z6;have hp:(2:Int)^(6:Int).toNat=64:=by decide
  by_cases hm:(6:Int)<more
  ·skip
   have M0:=mT (k:=0) (m:=more) (by omega)
   have M1:=mT (k:=1) (m:=more) (by omega)
   have M2:=mT (k:=2) (m:=more) (by omega)
   have M3:=mT (k:=3) (m:=more) (by omega)
   have M4:=mT (k:=4) (m:=more) (by omega)
   have M5:=mT (k:=5) (m:=more) (by omega)
   have M6:=mT (k:=6) (m:=more) (by omega)
   simp only[aK,aZ,yes,no,aO,hl,e1,e2,A0,A1,A2,A3,A4,A5,A6,M0,M1,M2,M3,M4,M5,M6,cond_true,cond_false,Bool.not_true,w1,t1,hp,B];rw[if_pos (by refine⟨ha,hb,?_,hm,?_⟩<;>first|trivial|rfl|decide)]
   rfl
  by_cases n0:more<=0
  ·skip
   have M0:=mF (k:=0) (m:=more) (by omega)
   simp only[aK,aZ,yes,no,aO,hl,e1,e2,A0,A1,A2,A3,A4,A5,A6,M0,cond_true,cond_false,Bool.not_true,w1,t1,hp,B];rw[if_neg (λhh=>by have:=hh.2.2.2;omega)]
   rfl
  by_cases n1:more<=1
  ·skip
   have M0:=mT (k:=0) (m:=more) (by omega)
   have M1:=mF (k:=1) (m:=more) (by omega)
   simp only[aK,aZ,yes,no,aO,hl,e1,e2,A0,A1,A2,A3,A4,A5,A6,M0,M1,cond_true,cond_false,Bool.not_true,w1,t1,hp,B];rw[if_neg (λhh=>by have:=hh.2.2.2;omega)]
   rfl
  by_cases n2:more<=2
  ·skip
   have M0:=mT (k:=0) (m:=more) (by omega)
   have M1:=mT (k:=1) (m:=more) (by omega)
   have M2:=mF (k:=2) (m:=more) (by omega)
   simp only[aK,aZ,yes,no,aO,hl,e1,e2,A0,A1,A2,A3,A4,A5,A6,M0,M1,M2,cond_true,cond_false,Bool.not_true,w1,t1,hp,B];rw[if_neg (λhh=>by have:=hh.2.2.2;omega)]
   rfl
  by_cases n3:more<=3
  ·skip
   have M0:=mT (k:=0) (m:=more) (by omega)
   have M1:=mT (k:=1) (m:=more) (by omega)
   have M2:=mT (k:=2) (m:=more) (by omega)
   have M3:=mF (k:=3) (m:=more) (by omega)
   simp only[aK,aZ,yes,no,aO,hl,e1,e2,A0,A1,A2,A3,A4,A5,A6,M0,M1,M2,M3,cond_true,cond_false,Bool.not_true,w1,t1,hp,B];rw[if_neg (λhh=>by have:=hh.2.2.2;omega)]
   rfl
  by_cases n4:more<=4
  ·skip
   have M0:=mT (k:=0) (m:=more) (by omega)
   have M1:=mT (k:=1) (m:=more) (by omega)
   have M2:=mT (k:=2) (m:=more) (by omega)
   have M3:=mT (k:=3) (m:=more) (by omega)
   have M4:=mF (k:=4) (m:=more) (by omega)
   simp only[aK,aZ,yes,no,aO,hl,e1,e2,A0,A1,A2,A3,A4,A5,A6,M0,M1,M2,M3,M4,cond_true,cond_false,Bool.not_true,w1,t1,hp,B];rw[if_neg (λhh=>by have:=hh.2.2.2;omega)]
   rfl
  by_cases n5:more<=5
  ·skip
   have M0:=mT (k:=0) (m:=more) (by omega)
   have M1:=mT (k:=1) (m:=more) (by omega)
   have M2:=mT (k:=2) (m:=more) (by omega)
   have M3:=mT (k:=3) (m:=more) (by omega)
   have M4:=mT (k:=4) (m:=more) (by omega)
   have M5:=mF (k:=5) (m:=more) (by omega)
   simp only[aK,aZ,yes,no,aO,hl,e1,e2,A0,A1,A2,A3,A4,A5,A6,M0,M1,M2,M3,M4,M5,cond_true,cond_false,Bool.not_true,w1,t1,hp,B];rw[if_neg (λhh=>by have:=hh.2.2.2;omega)]
   rfl
  have M0:=mT (k:=0) (m:=more) (by omega)
  have M1:=mT (k:=1) (m:=more) (by omega)
  have M2:=mT (k:=2) (m:=more) (by omega)
  have M3:=mT (k:=3) (m:=more) (by omega)
  have M4:=mT (k:=4) (m:=more) (by omega)
  have M5:=mT (k:=5) (m:=more) (by omega)
  have M6:=mF (k:=6) (m:=more) (by omega)
  simp only[aK,aZ,yes,no,aO,hl,e1,e2,A0,A1,A2,A3,A4,A5,A6,M0,M1,M2,M3,M4,M5,M6,cond_true,cond_false,Bool.not_true,w1,t1,hp,B];rw[if_neg (λhh=>by have:=hh.2.2.2;omega)]
  rfl
 by_cases z7:c/128%2=1
 case neg=>
  have hl:bA c=7:=by simp[bA,z0,z1,z2,z3,z4,z5,z6,z7]
  have A0:(bits .and .i64 c 1==0)=false:=by rw[q0.1,if_pos z0];rfl
  have A1:(bits .and .i64 c 2==0)=false:=by rw[q1.1,if_pos z1];rfl
  have A2:(bits .and .i64 c 4==0)=false:=by rw[q2.1,if_pos z2];rfl
  have A3:(bits .and .i64 c 8==0)=false:=by rw[q3.1,if_pos z3];rfl
  have A4:(bits .and .i64 c 16==0)=false:=by rw[q4.1,if_pos z4];rfl
  have A5:(bits .and .i64 c 32==0)=false:=by rw[q5.1,if_pos z5];rfl
  have A6:(bits .and .i64 c 64==0)=false:=by rw[q6.1,if_pos z6];rfl
  have A7:(bits .and .i64 c 128==0)=true:=by rw[q7.1,if_neg z7];rfl
  have B:bits .or .i64 c 128=c+128:=q7.2.1 z7;have hp:(2:Int)^(7:Int).toNat=128:=by decide
  by_cases hm:(7:Int)<more
  ·skip
   have M0:=mT (k:=0) (m:=more) (by omega)
   have M1:=mT (k:=1) (m:=more) (by omega)
   have M2:=mT (k:=2) (m:=more) (by omega)
   have M3:=mT (k:=3) (m:=more) (by omega)
   have M4:=mT (k:=4) (m:=more) (by omega)
   have M5:=mT (k:=5) (m:=more) (by omega)
   have M6:=mT (k:=6) (m:=more) (by omega)
   have M7:=mT (k:=7) (m:=more) (by omega)
   simp only[aK,aZ,yes,no,aO,hl,e1,e2,A0,A1,A2,A3,A4,A5,A6,A7,M0,M1,M2,M3,M4,M5,M6,M7,cond_true,cond_false,Bool.not_true,w1,t1,hp,B];rw[if_pos (by refine⟨ha,hb,?_,hm,?_⟩<;>first|trivial|rfl|decide)]
   rfl
  by_cases n0:more<=0
  ·skip
   have M0:=mF (k:=0) (m:=more) (by omega)
   simp only[aK,aZ,yes,no,aO,hl,e1,e2,A0,A1,A2,A3,A4,A5,A6,A7,M0,cond_true,cond_false,Bool.not_true,w1,t1,hp,B];rw[if_neg (λhh=>by have:=hh.2.2.2;omega)]
   rfl
  by_cases n1:more<=1
  ·skip
   have M0:=mT (k:=0) (m:=more) (by omega)
   have M1:=mF (k:=1) (m:=more) (by omega)
   simp only[aK,aZ,yes,no,aO,hl,e1,e2,A0,A1,A2,A3,A4,A5,A6,A7,M0,M1,cond_true,cond_false,Bool.not_true,w1,t1,hp,B];rw[if_neg (λhh=>by have:=hh.2.2.2;omega)]
   rfl
  by_cases n2:more<=2
  ·skip
   have M0:=mT (k:=0) (m:=more) (by omega)
   have M1:=mT (k:=1) (m:=more) (by omega)
   have M2:=mF (k:=2) (m:=more) (by omega)
   simp only[aK,aZ,yes,no,aO,hl,e1,e2,A0,A1,A2,A3,A4,A5,A6,A7,M0,M1,M2,cond_true,cond_false,Bool.not_true,w1,t1,hp,B];rw[if_neg (λhh=>by have:=hh.2.2.2;omega)]
   rfl
  by_cases n3:more<=3
  ·skip
   have M0:=mT (k:=0) (m:=more) (by omega)
   have M1:=mT (k:=1) (m:=more) (by omega)
   have M2:=mT (k:=2) (m:=more) (by omega)
   have M3:=mF (k:=3) (m:=more) (by omega)
   simp only[aK,aZ,yes,no,aO,hl,e1,e2,A0,A1,A2,A3,A4,A5,A6,A7,M0,M1,M2,M3,cond_true,cond_false,Bool.not_true,w1,t1,hp,B];rw[if_neg (λhh=>by have:=hh.2.2.2;omega)]
   rfl
  by_cases n4:more<=4
  ·skip
   have M0:=mT (k:=0) (m:=more) (by omega)
   have M1:=mT (k:=1) (m:=more) (by omega)
   have M2:=mT (k:=2) (m:=more) (by omega)
   have M3:=mT (k:=3) (m:=more) (by omega)
   have M4:=mF (k:=4) (m:=more) (by omega)
   simp only[aK,aZ,yes,no,aO,hl,e1,e2,A0,A1,A2,A3,A4,A5,A6,A7,M0,M1,M2,M3,M4,cond_true,cond_false,Bool.not_true,w1,t1,hp,B];rw[if_neg (λhh=>by have:=hh.2.2.2;omega)]
   rfl
  by_cases n5:more<=5
  ·skip
   have M0:=mT (k:=0) (m:=more) (by omega)
   have M1:=mT (k:=1) (m:=more) (by omega)
   have M2:=mT (k:=2) (m:=more) (by omega)
   have M3:=mT (k:=3) (m:=more) (by omega)
   have M4:=mT (k:=4) (m:=more) (by omega)
   have M5:=mF (k:=5) (m:=more) (by omega)
   simp only[aK,aZ,yes,no,aO,hl,e1,e2,A0,A1,A2,A3,A4,A5,A6,A7,M0,M1,M2,M3,M4,M5,cond_true,cond_false,Bool.not_true,w1,t1,hp,B];rw[if_neg (λhh=>by have:=hh.2.2.2;omega)]
   rfl
  by_cases n6:more<=6
  ·skip
   have M0:=mT (k:=0) (m:=more) (by omega)
   have M1:=mT (k:=1) (m:=more) (by omega)
   have M2:=mT (k:=2) (m:=more) (by omega)
   have M3:=mT (k:=3) (m:=more) (by omega)
   have M4:=mT (k:=4) (m:=more) (by omega)
   have M5:=mT (k:=5) (m:=more) (by omega)
   have M6:=mF (k:=6) (m:=more) (by omega)
   simp only[aK,aZ,yes,no,aO,hl,e1,e2,A0,A1,A2,A3,A4,A5,A6,A7,M0,M1,M2,M3,M4,M5,M6,cond_true,cond_false,Bool.not_true,w1,t1,hp,B];rw[if_neg (λhh=>by have:=hh.2.2.2;omega)]
   rfl
  have M0:=mT (k:=0) (m:=more) (by omega)
  have M1:=mT (k:=1) (m:=more) (by omega)
  have M2:=mT (k:=2) (m:=more) (by omega)
  have M3:=mT (k:=3) (m:=more) (by omega)
  have M4:=mT (k:=4) (m:=more) (by omega)
  have M5:=mT (k:=5) (m:=more) (by omega)
  have M6:=mT (k:=6) (m:=more) (by omega)
  have M7:=mF (k:=7) (m:=more) (by omega)
  simp only[aK,aZ,yes,no,aO,hl,e1,e2,A0,A1,A2,A3,A4,A5,A6,A7,M0,M1,M2,M3,M4,M5,M6,M7,cond_true,cond_false,Bool.not_true,w1,t1,hp,B];rw[if_neg (λhh=>by have:=hh.2.2.2;omega)]
  rfl
 have hl:bA c=8:=by simp[bA,z0,z1,z2,z3,z4,z5,z6,z7]
 have A0:(bits .and .i64 c 1==0)=false:=by rw[q0.1,if_pos z0];rfl
 have A1:(bits .and .i64 c 2==0)=false:=by rw[q1.1,if_pos z1];rfl
 have A2:(bits .and .i64 c 4==0)=false:=by rw[q2.1,if_pos z2];rfl
 have A3:(bits .and .i64 c 8==0)=false:=by rw[q3.1,if_pos z3];rfl
 have A4:(bits .and .i64 c 16==0)=false:=by rw[q4.1,if_pos z4];rfl
 have A5:(bits .and .i64 c 32==0)=false:=by rw[q5.1,if_pos z5];rfl
 have A6:(bits .and .i64 c 64==0)=false:=by rw[q6.1,if_pos z6];rfl
 have A7:(bits .and .i64 c 128==0)=false:=by rw[q7.1,if_pos z7];rfl
 have hp:(2:Int)^(8:Int).toNat=256:=by decide
 by_cases n0:more<=0
 ·skip
  have M0:=mF (k:=0) (m:=more) (by omega)
  simp only[aK,aZ,yes,no,aO,hl,e1,e2,A0,A1,A2,A3,A4,A5,A6,A7,M0,cond_true,cond_false,Bool.not_true,w1,t1,hp];rw[if_neg (λhh=>by have:=hh.2.2.2;omega)]
  rfl
 by_cases n1:more<=1
 ·skip
  have M0:=mT (k:=0) (m:=more) (by omega)
  have M1:=mF (k:=1) (m:=more) (by omega)
  simp only[aK,aZ,yes,no,aO,hl,e1,e2,A0,A1,A2,A3,A4,A5,A6,A7,M0,M1,cond_true,cond_false,Bool.not_true,w1,t1,hp];rw[if_neg (λhh=>by have:=hh.2.2.2;omega)]
  rfl
 by_cases n2:more<=2
 ·skip
  have M0:=mT (k:=0) (m:=more) (by omega)
  have M1:=mT (k:=1) (m:=more) (by omega)
  have M2:=mF (k:=2) (m:=more) (by omega)
  simp only[aK,aZ,yes,no,aO,hl,e1,e2,A0,A1,A2,A3,A4,A5,A6,A7,M0,M1,M2,cond_true,cond_false,Bool.not_true,w1,t1,hp];rw[if_neg (λhh=>by have:=hh.2.2.2;omega)]
  rfl
 by_cases n3:more<=3
 ·skip
  have M0:=mT (k:=0) (m:=more) (by omega)
  have M1:=mT (k:=1) (m:=more) (by omega)
  have M2:=mT (k:=2) (m:=more) (by omega)
  have M3:=mF (k:=3) (m:=more) (by omega)
  simp only[aK,aZ,yes,no,aO,hl,e1,e2,A0,A1,A2,A3,A4,A5,A6,A7,M0,M1,M2,M3,cond_true,cond_false,Bool.not_true,w1,t1,hp];rw[if_neg (λhh=>by have:=hh.2.2.2;omega)]
  rfl
 by_cases n4:more<=4
 ·skip
  have M0:=mT (k:=0) (m:=more) (by omega)
  have M1:=mT (k:=1) (m:=more) (by omega)
  have M2:=mT (k:=2) (m:=more) (by omega)
  have M3:=mT (k:=3) (m:=more) (by omega)
  have M4:=mF (k:=4) (m:=more) (by omega)
  simp only[aK,aZ,yes,no,aO,hl,e1,e2,A0,A1,A2,A3,A4,A5,A6,A7,M0,M1,M2,M3,M4,cond_true,cond_false,Bool.not_true,w1,t1,hp];rw[if_neg (λhh=>by have:=hh.2.2.2;omega)]
  rfl
 by_cases n5:more<=5
 ·skip
  have M0:=mT (k:=0) (m:=more) (by omega)
  have M1:=mT (k:=1) (m:=more) (by omega)
  have M2:=mT (k:=2) (m:=more) (by omega)
  have M3:=mT (k:=3) (m:=more) (by omega)
  have M4:=mT (k:=4) (m:=more) (by omega)
  have M5:=mF (k:=5) (m:=more) (by omega)
  simp only[aK,aZ,yes,no,aO,hl,e1,e2,A0,A1,A2,A3,A4,A5,A6,A7,M0,M1,M2,M3,M4,M5,cond_true,cond_false,Bool.not_true,w1,t1,hp];rw[if_neg (λhh=>by have:=hh.2.2.2;omega)]
  rfl
 by_cases n6:more<=6
 ·skip
  have M0:=mT (k:=0) (m:=more) (by omega)
  have M1:=mT (k:=1) (m:=more) (by omega)
  have M2:=mT (k:=2) (m:=more) (by omega)
  have M3:=mT (k:=3) (m:=more) (by omega)
  have M4:=mT (k:=4) (m:=more) (by omega)
  have M5:=mT (k:=5) (m:=more) (by omega)
  have M6:=mF (k:=6) (m:=more) (by omega)
  simp only[aK,aZ,yes,no,aO,hl,e1,e2,A0,A1,A2,A3,A4,A5,A6,A7,M0,M1,M2,M3,M4,M5,M6,cond_true,cond_false,Bool.not_true,w1,t1,hp];rw[if_neg (λhh=>by have:=hh.2.2.2;omega)]
  rfl
 by_cases n7:more<=7
 ·skip
  have M0:=mT (k:=0) (m:=more) (by omega)
  have M1:=mT (k:=1) (m:=more) (by omega)
  have M2:=mT (k:=2) (m:=more) (by omega)
  have M3:=mT (k:=3) (m:=more) (by omega)
  have M4:=mT (k:=4) (m:=more) (by omega)
  have M5:=mT (k:=5) (m:=more) (by omega)
  have M6:=mT (k:=6) (m:=more) (by omega)
  have M7:=mF (k:=7) (m:=more) (by omega)
  simp only[aK,aZ,yes,no,aO,hl,e1,e2,A0,A1,A2,A3,A4,A5,A6,A7,M0,M1,M2,M3,M4,M5,M6,M7,cond_true,cond_false,Bool.not_true,w1,t1,hp];rw[if_neg (λhh=>by have:=hh.2.2.2;omega)]
  rfl
 have M0:=mT (k:=0) (m:=more) (by omega)
 have M1:=mT (k:=1) (m:=more) (by omega)
 have M2:=mT (k:=2) (m:=more) (by omega)
 have M3:=mT (k:=3) (m:=more) (by omega)
 have M4:=mT (k:=4) (m:=more) (by omega)
 have M5:=mT (k:=5) (m:=more) (by omega)
 have M6:=mT (k:=6) (m:=more) (by omega)
 have M7:=mT (k:=7) (m:=more) (by omega)
 have M8:=mF (k:=8) (m:=more) (by omega)
 simp only[aK,aZ,yes,no,aO,hl,e1,e2,A0,A1,A2,A3,A4,A5,A6,A7,M0,M1,M2,M3,M4,M5,M6,M7,M8,cond_true,cond_false,Bool.not_true,w1,t1,hp];rw[if_neg (λhh=>by have:=hh.2.2.2;omega)]
 rfl
theorem abx(s:aa)(k own more:Int)(F:Facts s)(h0:0<=own)(h1:own<=15):Av s k own more=aO s (uT s k own more):=by
 by_cases hk:k<0\/k>=18
 ·have hr:uT s k own more=none:=by
   unfold uT;rw[if_neg (by omega),if_neg (by omega),if_neg (by omega),if_neg (by omega),if_neg (by omega),if_neg (by omega),if_neg (by omega),if_neg (by omega),if_neg (by omega),if_neg (by omega),if_neg (by omega),if_neg (by omega),if_neg (by omega),if_neg (by omega),if_neg (by omega),if_neg (by omega),if_neg (by omega),if_neg (by omega)]
  rw[hr];rcases hk with hk|hk
  ·simp[Av,hk,aO,no]
  ·simp[Av,hk,show¬k<0 by omega,aO,no]
 ·rcases(show k=0\/k=1\/k=2\/k=3\/k=4\/k=5\/k=6\/k=7\/k=8\/k=9\/k=10\/k=11\/k=12\/k=13\/k=14\/k=15\/k=16\/k=17 by omega)with rfl|rfl|rfl|rfl|rfl|rfl|rfl|rfl|rfl|rfl|rfl|rfl|rfl|rfl|rfl|rfl|rfl|rfl
  ·exact Eq.trans (b:=CP s own more) (by kernel_rfl) ((ajq F h0 h1).trans (by kernel_rfl))
  ·exact Eq.trans (b:=CO s own more) (by kernel_rfl) ((ajp F h0 h1).trans (by kernel_rfl))
  ·exact Eq.trans (b:=CL s own more) (by kernel_rfl) ((ajo F h0 h1).trans (by kernel_rfl))
  ·exact Eq.trans (b:=CK s own more) (by kernel_rfl) ((ajn F h0 h1).trans (by kernel_rfl))
  ·exact Eq.trans (b:=CJ s own more) (by kernel_rfl) ((ajm F h0 h1).trans (by kernel_rfl))
  ·exact Eq.trans (b:=CG s own more) (by kernel_rfl) ((ajl F h0 h1).trans (by kernel_rfl))
  ·exact Eq.trans (b:=CF s own more) (by kernel_rfl) ((ajk F h0 h1).trans (by kernel_rfl))
  ·exact Eq.trans (b:=CE s own more) (by kernel_rfl) ((ajj F h0 h1).trans (by kernel_rfl))
  ·exact Eq.trans (b:=CB s own more) (by kernel_rfl) ((aji F h0 h1).trans (by kernel_rfl))
  ·exact Eq.trans (b:=Cz s own more) (by kernel_rfl) ((ajh F h0 h1).trans (by kernel_rfl))
  ·exact Eq.trans (b:=zm s own more) (by kernel_rfl) ((ag6 F h0 h1).trans (by kernel_rfl))
  ·exact Eq.trans (b:=zl s own more) (by kernel_rfl) ((ag5 F h0 h1).trans (by kernel_rfl))
  ·exact Eq.trans (b:=zk s own more) (by kernel_rfl) ((ag4 F h0 h1).trans (by kernel_rfl))
  ·exact Eq.trans (b:=zi s own more) (by kernel_rfl) ((ag3 F h0 h1).trans (by kernel_rfl))
  ·exact Eq.trans (b:=aK s own more) (by kernel_rfl) ((ag2 F h0 h1).trans (by kernel_rfl))
  ·exact Eq.trans (b:=D7 s own more) (by kernel_rfl) ((ag1 F h0 h1).trans (by kernel_rfl))
  ·exact Eq.trans (b:=zh s own more) (by kernel_rfl) ((ag0 F h0 h1).trans (by kernel_rfl))
  ·exact Eq.trans (b:=zg s own more) (by kernel_rfl) ((agZ F h0 h1).trans (by kernel_rfl))
theorem abw(s:aa)(k own more:Int)(w:World)(hT:cB w):Calls Tryz.prog 74 #[s.val,.int .i64 k,.int .i64 own,.int .i64 more] w λe w'=>e=.returned (gP (az s k own more))/\Below w.heap.size w w':=
 Wv (VB _ w hT.lt (Gr w) hT) rfl (fuel:=30) (args:=[s.val,.int .i64 k,.int .i64 own,.int .i64 more]) ((YQ s k own more).trans (abd λF h0 h1=>abx s k own more F h0 h1)) (kG _) (by simp[gP,undef]) (by simp[aa.val,Go.Sx.plain,aN])
end
end Go.Proofs.YteaflphddciglaaGreatDoor
