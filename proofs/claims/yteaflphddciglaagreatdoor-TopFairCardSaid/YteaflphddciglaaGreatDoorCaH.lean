import Derived.Test.YteaflphddciglaaGreatDoorCaG
import Derived.Test.YteaflphddciglaaGreatDoorCaD
set_option linter.all false
def cN:=@decide_eq_true
def g9:=@Int.tmod_eq_emod_of_nonneg
def na:=@beq_false_of_ne
def j0:=@beq_eq_false_iff_ne
def kA:=@beq_iff_eq
def j8:=@Int.toNat_of_nonneg
def tS:=@Array.mem_of_getElem?
def nF:=@Bool.cond_eq_ite
def rB:=@Bool.not_not
namespace Go.Sx
open Go Go.RowKit
def eX:Value->Bool
 | .agg c=>c.all aN
 |v=>aN v
def VR.jS{σ:Nat->Option Pl}{v a:Value}(h:VR σ v a)(p:eX v=true):a=v:=by
 unfold eX at p;split at p
 .rename_i c
  cases h with
  |agg s b=>
   have:=(show dY σ _ _ from⟨s,b⟩).kP (λx d=>by
    rw[jN]at p;obtain⟨i,e,rfl⟩:=ff.1 d;simpa using p i (by simpa using e))
   rw[this]
 .exact h.aD p
def dY.jS{σ:Nat->Option Pl}{a:List Value}{r:Array Value}(h:dY σ a.toArray r)(p:a.all eX=true):r=a.toArray:=by
 refine Array.ext h.1.symm λi b c=> ?_;have v:=h.2 i _ _ (cj c) (cj b);rw[bp]at p;exact v.jS (p _ (by simp))
def dK.pure{P:Program}{n:Nat->Prop}{c:World}{G:Kj}{f:FuncId}{a:List Value}{l:List ag}{v:Value}(k:a.all eX=true)(m:plain v=true)
  (h:∀w,Kept n c w->Calls P f a.toArray w λe d=>e=.returned v/\Below w.heap.size w d):dK P n c G f a l (v,l):=by
 refine⟨bu.refl _,λσ w r i b=> ?_⟩;rw[b.jS k];refine(h w i.below).mono λe d o=> ?_;obtain⟨rfl,p⟩:=o;exact⟨v,rfl,σ,Ext.refl _ _,VR.plain σ m,i.kept p⟩
def VR.kP{σ:Nat->Option Pl}{v k:Value}(h:VR σ v k)(a:Go.Sx.plain v=true)(n:v≠undef):k=v:=by
 have r:∀c b:Array Value,dY σ c b->c.all Go.Sx.aN=true->b=c:=λc b e l=>e.kP (λx o=>by
  rw[jN]at l;obtain⟨i,q,rfl⟩:=ff.1 o;simpa using l i (by simpa using q))
 unfold Go.Sx.plain at a;split at a
 .rename_i c
  cases h with
  |agg s f=>rw[r _ _ ⟨s,f⟩ a]
 .rename_i c
  cases h with
  |any=>exact tA rfl n
  |tuple s f=>
   rename_i b;have:b=c:=by
    refine Array.ext s.symm λi u m=> ?_;have e:=f i _ _ (cj m) (cj u);rw[jN]at a;have p:=a i m;split at p
    .rename_i d w
     rw[w]at e ⊢;generalize b[i]=y at e;cases e with
     |agg s f=>rw[r _ _ ⟨s,f⟩ p]
    .exact e.aD p
   rw[this]
 .exact h.aD a
def Ww{E:Env}{n:Nat->Prop}{c:World}(m:iA E n c){u f:Nat}{b:List Value}{l:List ag}{v:Value}(h:(call E u f b l).run (Option Value) none (fun r=>some r.1)=some v)(o:Go.Sx.plain v=true)(d:v≠undef)
  {σ:Nat->Option Pl} {w:World} {a:Array Value} (p:HR n c E.G σ l w) (q:dY σ b.toArray a):Calls E.P f a w λe k=>e=.returned v/\Kept n c k:=by
 rw[M.run_eq]at h;cases x:(call E u f b l).get with
 |none=>rw[x]at h;cases h
 |some r=>
  rw[x]at h;simp only[Option.elim_some,cq]at h;obtain⟨_,_,s⟩:=sO m u f b l r x;refine(s σ w a p q).mono λe k y=> ?_;obtain⟨z,rfl,A,_,S,i⟩:=y;rw[h]at S;rw[VR.kP S o d];exact⟨rfl,i.below⟩
end Go.Sx
namespace Go.Proofs.YteaflphddciglaaGreatDoor
open Go.RowKit Go.bn Go.Sx
def cB.mR{n:Nat->Prop}{a w:World}(h:cB a)(b:n 0)(c:Kept n a w):cB w:=by
 obtain⟨t,fr,d⟩:=h;exact⟨t,fr,(c.block 0 b).trans d⟩
def aay:∀(X:Nat->Prop) (w a:World),X 0->cB w->Kept X w a->cB a:=λX w a b h k=>h.mR b k
def Sound.pure{f:FuncId}{n:Func}(b:iL Tryz.prog f n){F:bZ}(h:∀a l r,(F a l).get=some r->r.2=l/\a.all eX=true/\Go.Sx.plain r.1=true/\∀w,cB w->Calls Tryz.prog f a.toArray w λe c=>e=.returned r.1/\Below w.heap.size w c):Sound Tryz.prog cB f F:=by
 refine⟨⟨n,b⟩,λX q d B T a l r i=> ?_⟩;obtain⟨rfl,k,m,o⟩:=h a l r i;exact dK.pure k m λw p=>o w (T.mR d p)
def OG:List Value->Option aa
 |[.int .i64 a,.int .i64 b,.int .i64 c,.bool d,.bool e,.int .i64 f,.int .i64 g,.int .i64 h,.int .i64 i]=>some ⟨a,b,c,d,e,f,g,h,i⟩
 |_=>none
def Rq{c:Array Value}{s:aa}(h:OG c.toList=some s):Value.agg c=s.val:=by
 unfold OG at h;split at h
 .rename_i a
  cases h;unfold aa.val;congr 1;exact e8.1 a
 .cases h
def pq{α:Type}(v:Value)(F:aa->M α):M α:=
 match v with
 | .agg c=>match OG c.toList with
  |some s=>F s
  |none=>.bad
 |_=>.bad
def iq{α:Type}{v:Value}{F:aa->M α}{x:α}(h:(pq v F).get=some x):∃s,v=s.val/\(F s).get=some x:=by
 unfold pq at h;split at h
 .split at h
  .rename_i c
   exact⟨_,Rq c,h⟩
  .cases h
 .cases h
def FK(o:Option Int):Value:=.tuple #[.int .i64 (o.getD 0),.bool o.isSome]
def aeN(o:Option Int):DV o=FK o:=Ad o
def aa.Yh(s:aa):eX s.val=true:=by simp[aa.val,eX,aN]
def Dl(s:aa):[s.val].all eX=true:=by simp[aa.Yh]
def Ht(o:Option Int):plain (FK o)=true:=by simp[FK,plain,aN]
def kG(o:Option aa):plain (gP o)=true:=by simp[gP,plain,aN,aa.val]
theorem dY.plain{σ:Nat->Option Pl}(l:List Value)(h:l.all Go.Sx.plain=true):dY σ l.toArray l.toArray:=by
 refine⟨rfl,λi x y a b=> ?_⟩;obtain rfl:x=y:=b9 (a.symm.trans b);rw[bp]at h;exact VR.plain σ (h x (by simpa using tS a))
def Fx{w:World}:HR (· <w.heap.size) w 0 (λ_=>none) [] w:=
 ⟨λ_ h=>h,Kept.refl _ _,iB.no (λk p h=>by cases h),λk p h=>(by cases h),λk p h=>(by cases h),λk a p b h=>(by cases h),λk p h=>(by cases h)⟩
def Wv{E:Env}{w:World}(c:iA E (· <w.heap.size) w)(G:E.G=0){fuel f:Nat}{args:List Value}{v:Value}(h:(call E fuel f args []).run (Option Value) none (fun r=>some r.1)=some v)(d:Go.Sx.plain v=true)(n:v≠undef)(i:args.all Go.Sx.plain=true):
  Calls E.P f args.toArray w λe a=>e=.returned v/\Below w.heap.size w a:=by
 have k:HR (· <w.heap.size) w E.G (λ_=>none) [] w:=by rw[G];exact Fx
 exact(Ww c h d n k (dY.plain args i)).mono λe a b=>⟨b.1,b.2.below⟩
def Gr(w:World):eB (· <w.heap.size) w:=λ_ h=>h
end Go.Proofs.YteaflphddciglaaGreatDoor
namespace Go.Proofs.YteaflphddciglaaGreatDoor
section
open Go.RowKit Go.bn Go.Sx
def bA(n:Int):Int:=if n%2≠1 then 0 else if n/2%2≠1 then 1 else if n/4%2≠1 then 2 else if n/8%2≠1 then 3 else if n/16%2≠1 then 4 else if n/32%2≠1 then 5 else if n/64%2≠1 then 6 else if n/128%2≠1 then 7 else 8
def dU(s:aa)(a own:Int):aa:=⟨a,own,0,false,false,0,s.gen,0,s.cz⟩
def fM(s:aa)(own:Int):aa:=⟨3,own,0,s.brk,false,if 63<s.uses+1 then 63 else s.uses+1,(s.gen+1)%4096,0,s.cz⟩
def row0(s:aa)(own:Int):Option aa:=if s.st=0 then some (dU s 1 own)else none
def yB(s:aa)(own:Int):Option aa:=if s.st=1/\s.own=own then some (fM (dU s 1 own) own)else none
def Ce(s:aa)(own:Int):Option aa:=if s.st=1/\s.own=own then some (dU s 0 0)else none
def uU(s:aa)(own:Int):Option aa:=if s.st=2/\s.brk=false then some (fM s own)else none
def yA(s:aa)(own:Int):Option aa:=if s.st=3/\s.own=own/\s.str=0 then some {s with st:=2}else none
def yz(s:aa)(own:Int):Option aa:=if s.st=2/\s.brk=false then some {s with st:=4,own:=own,fO:=false}else none
def yx(s:aa)(own:Int):Option aa:=if s.st=4 then some {s with st:=2,own:=own}else none
def yu(s:aa)(own:Int):Option aa:=if s.st=0 then some (dU s 5 own)else none
def oK(s:aa):Option aa:=if s.st=5 then some (dU s 0 0)else none
def Cc(s:aa)(own:Int):Option aa:=if s.st=2 then some {s with own:=own}else none
def xu(s:aa):Option aa:=if s.st=2/\s.fO=false then some {s with fO:=true}else none
def tq(s:aa)(more:Int):Option aa:=if(s.st=2\/s.st=3)/\0<=more/\more<=4095 then some {dU s 6 0 with ep:=more}else none
def xq(s:aa):Option aa:=if s.st=6 then some (dU s 0 0)else none
def xm(s:aa):Option aa:=if(s.st=2\/s.st=3\/s.st=4)/\s.brk=false then some {s with brk:=true}else none
def aZ(s:aa)(own more:Int):Option aa:=if s.st=3/\s.own=own/\s.brk=false/\bA s.str<more/\bA s.str<8 then some {s with str:=s.str+2^(bA s.str).toNat}else none
def vH(s:aa)(own more:Int):Option aa:=if s.st=3/\s.own=own/\0<=more/\more<=7/\s.str/2^more.toNat%2=1 then some {s with str:=s.str-2^more.toNat}else none
def sZ(s:aa)(own:Int):Option aa:=if s.st=4/\s.own=own then some (fM s own)else if s.st=5/\s.own=own then some (dU s 1 own)else none
def xk(s:aa)(more:Int):Option aa:=if s.st=6/\0<=more/\more<=4095 then some {s with ep:=more}else none
def uT(s:aa)(k own more:Int):Option aa:=
 if k=0 then row0 s own else if k=1 then yB s own else if k=2 then Ce s own else if k=3 then uU s own else if k=4 then yA s own else if k=5 then yz s own else
 if k=6 then yx s own else if k=7 then yu s own else if k=8 then oK s else if k=9 then Cc s own else if k=10 then xu s else if k=11 then tq s more else
 if k=12 then xq s else if k=13 then xm s else if k=14 then aZ s own more else if k=15 then vH s own more else if k=16 then sZ s own else if k=17 then xk s more else none
def az(s:aa)(k own more:Int):Option aa:=
 if di s=true/\0<=own/\own<=15 then(uT s k own more).map λt=>{t with cz:=(s.cz+1)%32768}else none
def kN{s:aa}:di s=true↔Facts s:=by
 obtain⟨a,b,c,d,e,f,g,h,i⟩:=s;constructor
 .intro D
  simp only[di,kH,fr,bj,tG,eI,Bool.or_eq_false_iff,eV,kA]at D;obtain⟨⟨⟨⟨⟨⟨⟨⟨w,x⟩,n⟩,o⟩,y⟩,z⟩,A⟩,⟨⟨B,p⟩,k⟩,l⟩,m,C⟩:=D;refine⟨w,x,n,o,y,z,A,?_,?_,?_,?_,m,C⟩
  .show c=0\/a=3
   by_cases r:a=3
   .exact .inr r
   .left;simp[r]at B;have:0<=c:=n.1;omega
  .cases d
   .exact .inl rfl
   .right
    by_cases u:a=2\/a=3\/a=4
    .exact u
    .have q:(a==2||a==3||a==4)=false:=by
      rw[sx];intro v;simp[or_assoc]at v;exact u v
     rw[q]at p;cases p
  .show f=0\/a=2\/a=3\/a=4
   by_cases u:a=2\/a=3\/a=4
   .exact .inr u
   .left
    have q:(a==2||a==3||a==4)=false:=by
     rw[sx];intro v;simp[or_assoc]at v;exact u v
    rw[q]at k;simp at k;have:0<=f:=o.1;omega
  .cases e
   .exact .inl rfl
   .right;simpa using l
 .rintro⟨w,x,n,o,y,z,A,B,p,k,l,m,C⟩
  simp only at w x n o y z A B p k l m C;simp only[di,kH,fr,bj,tG,eI,Bool.or_eq_false_iff,eV,kA];refine⟨⟨⟨⟨⟨⟨⟨⟨w,x⟩,n⟩,o⟩,y⟩,z⟩,A⟩,⟨⟨?_,?_⟩,?_⟩,?_⟩,m,C⟩
  .rcases B with h|h<;>simp[h]
  .rcases p with h|h|h|h<;>simp[h]
  .rcases k with h|h|h|h<;>simp[h]
  .rcases l with h|h<;>simp[h]
def wrap_small{k:Int}(h:0<=k)(a:k<9223372036854775808):IntKind.i64.wrap k=k:=by
 simp[IntKind.wrap,IntKind.signed,IntKind.bits];omega
def yes(s:aa):Option Value:=some (gP (some s))
def no:Option Value:=some (gP none)
def abd{s:aa}{k own more:Int}{X:Option Value}(h:Facts s->0<=own->own<=15->X=some (gP ((uT s k own more).map fun t=>{t with cz:=(s.cz+1)%32768}))):
  (bif !di s then no else bif decide (own<0)then no else bif decide (own>15)then no else X)=some (gP (az s k own more)):=by
 unfold az;cases r:di s with
 |false=>simp[no]
 |true=>
  by_cases a:own<0
  .simp[a,no,show¬0<=own by omega]
  .by_cases b:own>15
   .simp[a,b,no,show¬own<=15 by omega]
   .rw[tz ⟨rfl,by omega,by omega⟩]
    simp only[Bool.not_true,oS,cT a,cT b];exact h (kN.1 r) (by omega) (by omega)
end
section
open Go.RowKit Go.bn
attribute [local go_sem ↓] Go.wp_at_zero Go.wp_at_succ GY
def U1(a b c:Int)(d e:Bool)(f g h i:Int)(w:World)(k:cB w):
  Calls Tryz.prog 98 #[.agg #[.int .i64 a,.int .i64 b,.int .i64 c,.bool d,.bool e,.int .i64 f,.int .i64 g,.int .i64 h,.int .i64 i]] w λn l=>n=.returned (.bool (encS ⟨a,b,c,d,e,f,g,h,i⟩).isSome)/\Below w.heap.size w l:=by
 have T:cB (w.alloc (.cells #[.int .i64 a,.int .i64 b,.int .i64 c,.bool d,.bool e,.int .i64 f,.int .i64 g,.int .i64 h,.int .i64 i] 44)):=k.below ((Below.refl _ _).alloc (aq _) _);go_enter Tryz.func98,Tryz.ntmps98
 go_wp2_with fail
 refine(K4 _ _ _ _ _ _ _ _ _ _ T).mono ?_;rintro n o ⟨rfl,m⟩;rw[Ad];go_wp2;go_ret;exact⟨rfl,((Below.refl _ _).alloc (aq _) _).trans (m.mono (by simp))⟩
def acv{w:World}{g:Nat}{t:TypeId}{x q r s u y z A B:Value}(h:ag w g t #[x,q,r,s,u,y,z,A,B]){n:Nat}{o W:World}(C:Below n o w)(a:n<=g){v b c d f i k l m:Value}(e:(((((((((w.setCell ⟨g,0,none⟩ v).setCell ⟨g,1,none⟩ b).setCell ⟨g,2,none⟩ c).setCell ⟨g,3,none⟩ d).setCell ⟨g,4,none⟩ f).setCell ⟨g,5,none⟩ i).setCell ⟨g,6,none⟩ k).setCell ⟨g,7,none⟩ l).setCell ⟨g,8,none⟩ m)=W):ag W g t #[v,b,c,d,f,i,k,l,m]/\Below n o W:=by
 subst e;exact⟨by simpa using (((((((((h.zV 0 v).zV 1 b).zV 2 c).zV 3 d).zV 4 f).zV 5 i).zV 6 k).zV 7 l).zV 8 m),(((((((((C.setCell (p:=⟨g,0,none⟩) a v).setCell (p:=⟨g,1,none⟩) a b).setCell (p:=⟨g,2,none⟩) a c).setCell (p:=⟨g,3,none⟩) a d).setCell (p:=⟨g,4,none⟩) a f).setCell (p:=⟨g,5,none⟩) a i).setCell (p:=⟨g,6,none⟩) a k).setCell (p:=⟨g,7,none⟩) a l).setCell (p:=⟨g,8,none⟩) a m)⟩
set_option maxHeartbeats 8000000 in
def K5(x:Int)(w:World)(hT:cB w):
  Calls Tryz.prog 73 #[.int .i64 x] w λen a=>en=.returned (gP (jf x))/\Below w.heap.size w a:=by
 obtain⟨tt,fr,k⟩:=hT;have z:=(bk.1 k).1;obtain⟨u,m⟩:∃u,w.alloc (.cells #[.int .i64 0,.int .i64 0,.int .i64 0,.bool false,.bool false,.int .i64 0,.int .i64 0,.int .i64 0,.int .i64 0] 44)=u:=⟨_,rfl⟩;have B:Below w.heap.size w u:=m▸(Below.refl _ _).alloc (aq _) _;have A:=(B.block 0 z).trans k;have mM:ag u w.heap.size 44 #[.int .i64 0,.int .i64 0,.int .i64 0,.bool false,.bool false,.int .i64 0,.int .i64 0,.int .i64 0,.int .i64 0]:=m▸ag.new w 44 _;have ac:=Lu u;have am:je.size=18:=rfl;go_enter Tryz.func73,Tryz.ntmps73
 go_wp2_with (refine wpList_load_row rfl 152 _ rfl 0 rfl tt _ fr _ A Tryz.underlying152 rfl (by kernel_rfl) ?_)
 refine(Yk x _ 9 fC (by decide) (by decide) _ (by have:=Cb Qw (xs:=fC) (ag.new u 152 je) rfl;simpa using this)).mono ?_;rintro en e ⟨⟨v,rfl,hs⟩,l⟩;have c:Below w.heap.size w e:=(B.alloc B.size _).trans (l.mono (eM B.size (by simp)));have R:ag e w.heap.size 44 #[.int .i64 0,.int .i64 0,.int .i64 0,.bool false,.bool false,.int .i64 0,.int .i64 0,.int .i64 0,.int .i64 0]:=(Di mM (.cells je 152)).below l (by have:=mM.lt;simp;omega);have rQ:cB e:=⟨tt,fr,(c.block 0 z).trans k⟩;have r:zY x=⟨bF x 0 3,bF x 3 4,bF x 7 8,bF x 15 1==1,bF x 16 1==1,bF x 17 6,bF x 23 12,bF x 35 12,bF x 47 15⟩:=rfl;have p:qN x fC=[bF x 0 3,bF x 3 4,bF x 7 8,bF x 15 1,bF x 16 1,bF x 17 6,bF x 23 12,bF x 35 12,bF x 47 15]:=rfl;generalize bF x 0 3=n0,bF x 3 4=n1,bF x 7 8=n2,bF x 15 1=n3,bF x 16 1=n4,bF x 17 6=n5,bF x 23 12=n6,bF x 35 12=n7,bF x 47 15=C at r p;rw[p]at hs;obtain⟨A2,cp,rfl,D,F⟩:=hs;obtain⟨b,o,rfl,ar,d⟩:=F (by simp);have f:∀i n,[n0,n1,n2,n3,n4,n5,n6,n7,C][i]?=some n->e.cell? ⟨b,o+i,none⟩=some (.int .i64 n):=λi n h=>by have:=d i n h 0 _ rfl;simpa using this
 have c0:=f 0 _ rfl;have c1:=f 1 _ rfl;have c2:=f 2 _ rfl;have c3:=f 3 _ rfl;have c4:=f 4 _ rfl;have c5:=f 5 _ rfl;have c6:=f 6 _ rfl;have c7:=f 7 _ rfl;have c8:=f 8 _ rfl;have G:w.heap.size<e.heap.size:=R.lt;obtain⟨E,X⟩:∃E,E=encS (zY x):=⟨_,rfl⟩;have hD:jf x=if E=some x then some (zY x)else none:=by unfold jf;rw[<-X]
 rw[r]at X hD;have HE:=Lib.hid X.symm;have HD:=Lib.hid hD;have ao:=Lib.hid rQ;have bi:9<=cp:=D;clear m A B mM ac am l d D p r X hD rQ k f;simp only[ct,cW,Nat.reduceAdd];go_wp2_with fail
 go_region_held3 (fun a=>a.cell? ⟨b,o,none⟩=some (.int .i64 n0)/\a.cell? ⟨b,o+1,none⟩=some (.int .i64 n1)/\a.cell? ⟨b,o+2,none⟩=some (.int .i64 n2)/\a.cell? ⟨b,o+3,none⟩=some (.int .i64 n3)/\a.cell? ⟨b,o+4,none⟩=some (.int .i64 n4)/\a.cell? ⟨b,o+5,none⟩=some (.int .i64 n5)/\a.cell? ⟨b,o+6,none⟩=some (.int .i64 n6)/\a.cell? ⟨b,o+7,none⟩=some (.int .i64 n7)/\a.cell? ⟨b,o+8,none⟩=some (.int .i64 C)/\ag a w.heap.size 44 #[.int .i64 0,.int .i64 0,.int .i64 0,.bool false,.bool false,.int .i64 0,.int .i64 0,.int .i64 0,.int .i64 0]/\Below w.heap.size w a/\e.heap.size<=a.heap.size)
  (first|exact⟨c0,c1,c2,c3,c4,c5,c6,c7,c8,R,c.drew,aq _⟩|exact⟨aL c0 _,aL c1 _,aL c2 _,aL c3 _,aL c4 _,aL c5 _,aL c6 _,aL c7 _,aL c8 _,Di R _,(c.alloc (gl G) _).drew,by simp⟩)
  (fail)
 generalize W:World.drew (e.alloc _)=W3;have q:Below w.heap.size w W3:=W▸(c.alloc (gl G) _).drew;have EM:ag W3 w.heap.size 44 #[.int .i64 0,.int .i64 0,.int .i64 0,.bool false,.bool false,.int .i64 0,.int .i64 0,.int .i64 0,.int .i64 0]:=W▸Di R _;have mK:ag W3 e.heap.size 44 #[.int .i64 n0,.int .i64 n1,.int .i64 n2,.bool (n3==1),.bool (n4==1),.int .i64 n5,.int .i64 n6,.int .i64 n7,.int .i64 C]:=W▸ag.new e 44 _;have TQ:cB W3:=W▸ao.out.below ((Below.refl _ _).alloc (aq _) _).drew;generalize e.heap.size=sb at*;clear W c R c0 c1 c2 c3 c4 c5 c6 c7 c8;obtain⟨s0,s1,s2,s3,s4,s5,s6,s7,s8⟩:=nine mK;go_wp2_with fail
 refine(K4 _ _ _ _ _ _ _ _ _ _ TQ).mono ?_;rintro en w4 ⟨rfl,l⟩;rw[HE.out];have s:=q.trans (l.mono q.size);have Z:=EM.below l EM.lt;have oW:=mK.below l mK.lt;clear s0 s1 s2 s3 s4 s5 s6 s7 s8 q EM mK TQ l;have f0:=Z.frozen 0;have f1:=Z.frozen 1;have f2:=Z.frozen 2;have f3:=Z.frozen 3;have f4:=Z.frozen 4;have f5:=Z.frozen 5;have f6:=Z.frozen 6;have f7:=Z.frozen 7;have f8:=Z.frozen 8;obtain⟨s0,s1,s2,s3,s4,s5,s6,s7,s8⟩:=nine oW;obtain⟨z0,z1,z2,z3,z4,z5,z6,z7,z8⟩:=nine Z;have bm:w.heap.size≠sb:=by omega
 cases E with
 |none=>
  have Y:jf x=none:=by have:=HD.out;simpa using this
  clear s0 s1 s2 s3 s4 s5 s6 s7 s8 oW;rw[show DV none=.tuple #[.int .i64 0,.bool false]from rfl];go_wp2;generalize H:World.setCell _ ⟨w.heap.size,8,none⟩ _=W5;obtain⟨T,I⟩:=acv Z s (aq _) H;obtain⟨J,K,L,N,O,P,Q,S,U⟩:=nine T;rw[Y];refine cC (v:=gP none) ?_ rfl ⟨rfl,I⟩;simp[results,Tryz.f73,go_sem,gP,aa.val,aa.zero,J,K,L,N,O,P,Q,S,U]
 |some y=>
  rw[show DV (some y)=.tuple #[.int .i64 y,.bool true]from rfl];by_cases V:y=x
  .have Y:jf x=some ⟨n0,n1,n2,n3==1,n4==1,n5,n6,n7,C⟩:=by have:=HD.out;rw[V,tz rfl]at this;exact this
   subst V;go_wp2;generalize H:World.setCell _ ⟨w.heap.size,8,none⟩ _=W5;obtain⟨T,I⟩:=acv Z s (aq _) H;obtain⟨J,K,L,N,O,P,Q,S,U⟩:=nine T;rw[Y];refine cC (v:=gP (some ⟨n0,n1,n2,n3==1,n4==1,n5,n6,n7,C⟩)) ?_ rfl ⟨rfl,I⟩;simp[results,Tryz.f73,go_sem,gP,aa.val,aa.zero,J,K,L,N,O,P,Q,S,U]
  .have Y:jf x=none:=by have:=HD.out;rw[ck (by simpa using V)]at this;exact this
   have bv:(y != x)=true:=by simpa using V
   clear V s0 s1 s2 s3 s4 s5 s6 s7 s8 oW;go_wp2;generalize H:World.setCell _ ⟨w.heap.size,8,none⟩ _=W5;obtain⟨T,I⟩:=acv Z s (aq _) H;obtain⟨J,K,L,N,O,P,Q,S,U⟩:=nine T;rw[Y];refine cC (v:=gP none) ?_ rfl ⟨rfl,I⟩;simp[results,Tryz.f73,go_sem,gP,aa.val,aa.zero,J,K,L,N,O,P,Q,S,U]
end
section
open Go.RowKit Go.bn
attribute [local go_sem ↓] Go.wp_at_zero Go.wp_at_succ
def Zi(n m:Int)(w:World):Calls Tryz.prog 61 #[.int .i64 n,.int .i64 m] w λe c=>e=.returned (.bool (fr n m))/\w=c:=by
 by_cases a:0<=n
 .have b:decide (0<=n)=true:=by simpa using a
  have h:fr n m=decide (n<=m):=by unfold fr;rw[b];rfl
  rw[h];clear h a;go_enter Tryz.func61,Tryz.ntmps61
  go_wp2;go_ret;exact⟨rfl,rfl⟩
 .have b:decide (0<=n)=false:=by simpa using a
  have h:fr n m=false:=by unfold fr;rw[b];rfl
  rw[h];clear h a;go_enter Tryz.func61,Tryz.ntmps61
  go_wp2;go_ret;exact⟨rfl,rfl⟩
def aB{n m:Int}{q:Bool}(h:Hid (fr n m=q))(w:World):Calls Tryz.prog 61 #[.int .i64 n,.int .i64 m] w λe a=>e=.returned (.bool q)/\w=a:=by
 rw[<-h.out];exact Zi n m w
set_option maxHeartbeats 4000000 in
def U2(a b c:Int)(d e:Bool)(f g h i:Int)(w:World):
  Calls Tryz.prog 48 #[.agg #[.int .i64 a,.int .i64 b,.int .i64 c,.bool d,.bool e,.int .i64 f,.int .i64 g,.int .i64 h,.int .i64 i]] w λn w'=>n=.returned (.bool (di ⟨a,b,c,d,e,f,g,h,i⟩))/\Below w.heap.size w w':=by
 obtain⟨W,z⟩:∃W,w.alloc (.cells #[.int .i64 a,.int .i64 b,.int .i64 c,.bool d,.bool e,.int .i64 f,.int .i64 g,.int .i64 h,.int .i64 i] 44)=W:=⟨_,rfl⟩;have B:Below w.heap.size w W:=by rw[<-z];exact(Below.refl _ _).alloc (aq _) _
 have k:∀j,W.cell? ⟨w.heap.size,j,none⟩=(#[.int .i64 a,.int .i64 b,.int .i64 c,.bool d,.bool e,.int .i64 f,.int .i64 g,.int .i64 h,.int .i64 i]:Array Value)[j]?:=λj=>by rw[<-z];exact(ag.new w 44 _).cell j
 have I:W.cell? ⟨w.heap.size,0,none⟩=some (.int .i64 a):=k 0;have J:W.cell? ⟨w.heap.size,1,none⟩=some (.int .i64 b):=k 1;have K:W.cell? ⟨w.heap.size,2,none⟩=some (.int .i64 c):=k 2;have L:W.cell? ⟨w.heap.size,3,none⟩=some (.bool d):=k 3;have N:W.cell? ⟨w.heap.size,4,none⟩=some (.bool e):=k 4;have O:W.cell? ⟨w.heap.size,5,none⟩=some (.int .i64 f):=k 5;have P:W.cell? ⟨w.heap.size,6,none⟩=some (.int .i64 g):=k 6;have Q:W.cell? ⟨w.heap.size,7,none⟩=some (.int .i64 h):=k 7;have R:W.cell? ⟨w.heap.size,8,none⟩=some (.int .i64 i):=k 8;obtain⟨r,F⟩:∃r,r=di ⟨a,b,c,d,e,f,g,h,i⟩:=⟨_,rfl⟩;have HR:=Lib.hid F;rw[<-F];obtain⟨q0,S⟩:∃q,fr a 6=q:=⟨_,rfl⟩;obtain⟨q1,T⟩:∃q,fr b 15=q:=⟨_,rfl⟩;obtain⟨q2,U⟩:∃q,fr c 255=q:=⟨_,rfl⟩;obtain⟨q3,V⟩:∃q,fr f 63=q:=⟨_,rfl⟩;obtain⟨q4,X⟩:∃q,fr g 4095=q:=⟨_,rfl⟩;obtain⟨q5,Y⟩:∃q,fr h 4095=q:=⟨_,rfl⟩;obtain⟨q6,Z⟩:∃q,fr i 32767=q:=⟨_,rfl⟩;have H:=Lib.hid S;have m:=Lib.hid T;have p:=Lib.hid U;have y:=Lib.hid V;have A:=Lib.hid X;have E:=Lib.hid Y;have G:=Lib.hid Z;clear k F S T U V X Y Z;go_enter Tryz.func48,Tryz.ntmps48
 cases q0 with
 |false=>
  go_wp2_with (with_reducible refine(aB (by assumption) _).mono ?_;rintro n o ⟨rfl,rfl⟩)
  go_ret;exact⟨ji (by rw[HR.out];simp[di,kH,H.out]),B⟩
 |true=>
  cases q1 with
  |false=>
   go_wp2_with (with_reducible refine(aB (by assumption) _).mono ?_;rintro n o ⟨rfl,rfl⟩)
   go_ret;exact⟨ji (by rw[HR.out];simp[di,kH,H.out,m.out]),B⟩
  |true=>
   cases q2 with
   |false=>
    go_wp2_with (with_reducible refine(aB (by assumption) _).mono ?_;rintro n o ⟨rfl,rfl⟩)
    go_ret;exact⟨ji (by rw[HR.out];simp[di,kH,H.out,m.out,p.out]),B⟩
   |true=>
    cases q3 with
    |false=>
     go_wp2_with (with_reducible refine(aB (by assumption) _).mono ?_;rintro n o ⟨rfl,rfl⟩)
     go_ret;exact⟨ji (by rw[HR.out];simp[di,kH,H.out,m.out,p.out,y.out]),B⟩
    |true=>
     cases q4 with
     |false=>
      go_wp2_with (with_reducible refine(aB (by assumption) _).mono ?_;rintro n o ⟨rfl,rfl⟩)
      go_ret;exact⟨ji (by rw[HR.out];simp[di,kH,H.out,m.out,p.out,y.out,A.out]),B⟩
     |true=>
      cases q5 with
      |false=>
       go_wp2_with (with_reducible refine(aB (by assumption) _).mono ?_;rintro n o ⟨rfl,rfl⟩)
       go_ret;exact⟨ji (by rw[HR.out];simp[di,kH,H.out,m.out,p.out,y.out,A.out,E.out]),B⟩
      |true=>
       cases q6 with
       |false=>
        go_wp2_with (with_reducible refine(aB (by assumption) _).mono ?_;rintro n o ⟨rfl,rfl⟩)
        go_ret;exact⟨ji (by rw[HR.out];simp[di,kH,H.out,m.out,p.out,y.out,A.out,E.out,G.out]),B⟩
       |true=>
        have l:a=0\/a=2\/a=3\/a=4\/a=6\/(a≠0/\a≠2/\a≠3/\a≠4/\a≠6):=by omega
        rcases l with C|C|C|C|C|⟨s,u,v,D,x⟩
        case inr.inr.inr.inr.inr=>
         have s0:(a==0)=false:=by simp[s]
         have s2:(a==2)=false:=by simp[u]
         have s3:(a==3)=false:=by simp[v]
         have s4:(a==4)=false:=by simp[D]
         have s6:(a==6)=false:=by simp[x]
         have t2:(a != 2)=true:=by simp[u]
         have t3:(a != 3)=true:=by simp[v]
         have ac:=Lib.hid s;have am:=Lib.hid x;have hp:decide (0<a)=true:=by have:=H.out;unfold fr at this;simp at this;simp;omega
         have ao:decide (a<6)=true:=by have:=H.out;unfold fr at this;simp at this;simp;omega
         clear s u v D x;go_wp2_with (with_reducible refine(aB (by assumption) _).mono ?_;rintro n o ⟨rfl,rfl⟩)
         all_goals (clear I J K L N O P Q R;go_ret)
         all_goals (refine⟨ji ?_,B⟩;rw[HR.out];simp only[di,kH,H.out,m.out,p.out,y.out,A.out,E.out,G.out])
         all_goals (first|(simp[*];done)|(simp[*];omega))
        all_goals
         subst C;go_wp2_with (with_reducible refine(aB (by assumption) _).mono ?_;rintro n o ⟨rfl,rfl⟩)
         all_goals (clear I J K L N O P Q R;go_ret)
         all_goals (refine⟨ji ?_,B⟩;rw[HR.out];simp only[di,kH,H.out,m.out,p.out,y.out,A.out,E.out,G.out])
         all_goals (first|(simp[*];done)|(simp[*];omega))
end
section
open Go.RowKit Go.bn Go.Sx
def uk:bZ:=λa l=>match a with|[s]=>pq s λs=>.ret (.bool (di s),l)|_=>.bad
def RY(s:aa):(encS s).isSome=di s:=by
 rw[sM];unfold encR;cases di s<;>rfl
def OW:Sound Tryz.prog cB 98 uk:=by
 refine Sound.pure ⟨Tryz.func98,by kernel_rfl,by kernel_rfl⟩ λa l r h=> ?_;unfold uk at h;split at h
 .obtain⟨s,rfl,b⟩:=iq h
  cases b;exact⟨rfl,Dl s,rfl,λw T=>by rw[<-RY];exact U1 _ _ _ _ _ _ _ _ _ w T⟩
 .cases h
def wu:Sound Tryz.prog cB 48 uk:=by
 refine Sound.pure ⟨Tryz.func48,by kernel_rfl,by kernel_rfl⟩ λa l r h=> ?_;unfold uk at h;split at h
 .obtain⟨s,rfl,b⟩:=iq h
  cases b;exact⟨rfl,Dl s,rfl,λw T=>U2 _ _ _ _ _ _ _ _ _ w⟩
 .cases h
def LD:List (FuncId×bZ):=[(98,uk),(48,uk)]
def OV:lH Tryz.prog cB LD:=bL OW<|bL wu jI
noncomputable def TF:List (FuncId×Func):=[(74,Tryz.f74),(97,Tryz.f97),(134,Tryz.f134),(135,Tryz.f135),(136,Tryz.f136),(137,Tryz.f137),(138,Tryz.f138),(139,Tryz.f139),(140,Tryz.f140),(141,Tryz.f141),(142,Tryz.f142),(143,Tryz.f143),(144,Tryz.f144),(145,Tryz.f145),(146,Tryz.f146),(147,Tryz.f147),(148,Tryz.f148),(149,Tryz.f149),(150,Tryz.f150),(151,Tryz.f151),(208,Tryz.f208),(209,Tryz.f209),(210,Tryz.f210),(211,Tryz.f211),(212,Tryz.f212),(213,Tryz.f213)]
def GZ:TypeId×List Bool:=(44,[false,false,false,true,true,false,false,false,false])
noncomputable def TG:Env:=tH Tryz.prog TF [GZ] LD []
def BQ:∀e∈[GZ],pU Tryz.prog e.1 e.2=true:=by
 intro e h;rw[cY]at h;subst h;kernel_rfl
def VA:∀e∈TF,iL Tryz.prog e.1 e.2:=
  fk Tryz.func74<|fk Tryz.func97<|fk Tryz.func134<|fk Tryz.func135<|fk Tryz.func136<|fk Tryz.func137<|fk Tryz.func138<|fk Tryz.func139<|fk Tryz.func140<|fk Tryz.func141<|fk Tryz.func142<|fk Tryz.func143<|fk Tryz.func144<|fk Tryz.func145<|fk Tryz.func146<|fk Tryz.func147<|fk Tryz.func148<|fk Tryz.func149<|fk Tryz.func150<|fk Tryz.func151<|fk Tryz.func208<|fk Tryz.func209<|fk Tryz.func210<|fk Tryz.func211<|fk Tryz.func212<|fk Tryz.func213<|jL rfl
def VB(X:Nat->Prop)(w:World)(h:X 0)(B:eB X w)(T:cB w):iA TG X w:=l5 BQ (by kernel_rfl) VA OV iO h B T
def aO(s:aa)(o:Option aa):Option Value:=some (gP (o.map λt=>{t with cz:=(s.cz+1)%32768}))
def CP(s:aa)(own more:Int):Option Value:=bif !s.st==0 then no else yes (aa.mk 1 own 0 false false 0 s.gen 0 (Int.tmod (IntKind.i64.wrap (s.cz+1)) 32768))
def CO(s:aa)(own more:Int):Option Value:=bif s.st==1 then bif !s.own==own then no else yes (aa.mk 3 own s.str s.brk false (if 63<IntKind.i64.wrap (s.uses+1)then 63 else IntKind.i64.wrap (s.uses+1)) (Int.tmod (IntKind.i64.wrap (s.gen+1)) 4096) 0 (Int.tmod (IntKind.i64.wrap (s.cz+1)) 32768))else no
def CL(s:aa)(own more:Int):Option Value:=bif s.st==1 then bif !s.own==own then no else yes (aa.mk 0 0 0 false false 0 s.gen 0 (Int.tmod (IntKind.i64.wrap (s.cz+1)) 32768))else no
def CK(s:aa)(own more:Int):Option Value:=bif s.st==2 then bif !!s.brk then no else yes (aa.mk 3 own s.str s.brk false (if 63<IntKind.i64.wrap (s.uses+1)then 63 else IntKind.i64.wrap (s.uses+1)) (Int.tmod (IntKind.i64.wrap (s.gen+1)) 4096) 0 (Int.tmod (IntKind.i64.wrap (s.cz+1)) 32768))else no
def CJ(s:aa)(own more:Int):Option Value:=bif s.st==3 then bif s.own==own then bif !s.str==0 then no else yes (aa.mk 2 own 0 s.brk s.fO s.uses s.gen 0 (Int.tmod (IntKind.i64.wrap (s.cz+1)) 32768))else no else no
def CG(s:aa)(own more:Int):Option Value:=bif s.st==2 then bif !!s.brk then no else yes (aa.mk 4 own 0 s.brk false s.uses s.gen 0 (Int.tmod (IntKind.i64.wrap (s.cz+1)) 32768))else no
def CF(s:aa)(own more:Int):Option Value:=bif !s.st==4 then no else yes (aa.mk 2 own 0 s.brk s.fO s.uses s.gen 0 (Int.tmod (IntKind.i64.wrap (s.cz+1)) 32768))
def CE(s:aa)(own more:Int):Option Value:=bif !s.st==0 then no else yes (aa.mk 5 own 0 false false 0 s.gen 0 (Int.tmod (IntKind.i64.wrap (s.cz+1)) 32768))
def CB(s:aa)(own more:Int):Option Value:=bif !s.st==5 then no else yes (aa.mk 0 0 0 false false 0 s.gen 0 (Int.tmod (IntKind.i64.wrap (s.cz+1)) 32768))
def Cz(s:aa)(own more:Int):Option Value:=bif !s.st==2 then no else yes (aa.mk 2 own 0 s.brk s.fO s.uses s.gen 0 (Int.tmod (IntKind.i64.wrap (s.cz+1)) 32768))
def zm(s:aa)(own more:Int):Option Value:=bif s.st==2 then bif !!s.fO then no else yes (aa.mk s.st s.own s.str s.brk true s.uses s.gen s.ep (Int.tmod (IntKind.i64.wrap (s.cz+1)) 32768))else no
def zl(s:aa)(own more:Int):Option Value:=bif decide (more>=0)then bif decide (more<=4095)then bif s.st==2 then yes (aa.mk 6 0 0 false false 0 s.gen more (Int.tmod (IntKind.i64.wrap (s.cz+1)) 32768))else bif !s.st==3 then no else yes (aa.mk 6 0 0 false false 0 s.gen more (Int.tmod (IntKind.i64.wrap (s.cz+1)) 32768))else no else no
def zk(s:aa)(own more:Int):Option Value:=bif !s.st==6 then no else yes (aa.mk 0 0 0 false false 0 s.gen 0 (Int.tmod (IntKind.i64.wrap (s.cz+1)) 32768))
def zi(s:aa)(own more:Int):Option Value:=bif !s.brk then bif s.st==2 then yes (aa.mk s.st s.own s.str true s.fO s.uses s.gen s.ep (Int.tmod (IntKind.i64.wrap (s.cz+1)) 32768))else bif s.st==3 then yes (aa.mk s.st s.own s.str true s.fO s.uses s.gen s.ep (Int.tmod (IntKind.i64.wrap (s.cz+1)) 32768))else bif !s.st==4 then no else yes (aa.mk s.st s.own s.str true s.fO s.uses s.gen s.ep (Int.tmod (IntKind.i64.wrap (s.cz+1)) 32768))else no
def g14(s:aa)(L:Int):Nat->Nat->Option Value
 |0,_=>none
 |f+1,k=>bif decide ((k:Int)<L)then bif bits .and .i64 s.str ((2^k:Nat):Int)==0 then bif Nat.blt k 9 then yes {s with str:=bits .or .i64 s.str ((2^k:Nat):Int),cz:=Int.tmod (IntKind.i64.wrap (s.cz+1)) 32768}else none else g14 s L f (k+1)else no
def aK(s:aa)(own more:Int):Option Value:=bif s.st==3 then bif !s.own==own then no else bif s.brk then no else g14 s (if 8<more then 8 else more) 12 0 else no
def D7(s:aa)(own more:Int):Option Value:=bif s.st==3 then bif !s.own==own then no else bif decide (more<0)then no else bif decide (more>=8)then no else bif decide (more<0)then none else bif bits BinOp.and IntKind.i64 s.str (IntKind.i64.wrap (1*2^min (Int.toNat more) 64))==0 then no else bif decide (more<0)then none else yes (aa.mk s.st s.own (bits BinOp.andNot IntKind.i64 s.str (IntKind.i64.wrap (1*2^min (Int.toNat more) 64))) s.brk s.fO s.uses s.gen s.ep (Int.tmod (IntKind.i64.wrap (s.cz+1)) 32768))else no
def zh(s:aa)(own more:Int):Option Value:=bif s.st==5 then bif s.own==own then yes (aa.mk 1 own 0 false false 0 s.gen 0 (Int.tmod (IntKind.i64.wrap (s.cz+1)) 32768))else bif s.st==4 then bif !s.own==own then no else yes (aa.mk 3 own s.str s.brk false (if 63<IntKind.i64.wrap (s.uses+1)then 63 else IntKind.i64.wrap (s.uses+1)) (Int.tmod (IntKind.i64.wrap (s.gen+1)) 4096) 0 (Int.tmod (IntKind.i64.wrap (s.cz+1)) 32768))else no else bif s.st==4 then bif !s.own==own then no else yes (aa.mk 3 own s.str s.brk false (if 63<IntKind.i64.wrap (s.uses+1)then 63 else IntKind.i64.wrap (s.uses+1)) (Int.tmod (IntKind.i64.wrap (s.gen+1)) 4096) 0 (Int.tmod (IntKind.i64.wrap (s.cz+1)) 32768))else no
def zg(s:aa)(own more:Int):Option Value:=bif decide (more>=0)then bif decide (more<=4095)then bif !s.st==6 then no else yes (aa.mk 6 0 0 false false 0 s.gen more (Int.tmod (IntKind.i64.wrap (s.cz+1)) 32768))else no else no
def Av(s:aa)(k own more:Int):Option Value:=bif decide (k<0)then no else bif decide (k>=18)then no else bif decide (k=17)then zg s own more else bif decide (k=16)then zh s own more else bif decide (k=15)then D7 s own more else bif decide (k=14)then aK s own more else bif decide (k=13)then zi s own more else bif decide (k=12)then zk s own more else bif decide (k=11)then zl s own more else bif decide (k=10)then zm s own more else bif decide (k=9)then Cz s own more else bif decide (k=8)then CB s own more else bif decide (k=7)then CE s own more else bif decide (k=6)then CF s own more else bif decide (k=5)then CG s own more else bif decide (k=4)then CJ s own more else bif decide (k=3)then CK s own more else bif decide (k=2)then CL s own more else bif decide (k=1)then CO s own more else bif decide (k=0)then CP s own more else none
def mT(k m:Int)(h:k<m/\k<8:=by omega):decide (k<if 8<m then 8 else m)=true:=cN (by split<;>omega)
def mF(k m:Int)(h:¬(k<m/\k<8):=by omega):decide (k<if 8<m then 8 else m)=false:=cT (by split<;>omega)
def YQ(s:aa)(k own more:Int):(call TG 30 74 [s.val,.int .i64 k,.int .i64 own,.int .i64 more] []).run (Option Value) none (λr=>some r.1)=
  bif !di s then no else bif decide (own<0)then no else bif decide (own>15)then no else Av s k own more:=by kernel_rfl
def iZ{s:aa}{own more:Int}(F:Facts s)(C:0<=own)(D:own<=15):CP s own more=aO s (row0 s own)/\CO s own more=aO s (yB s own)/\CL s own more=aO s (Ce s own)/\CK s own more=aO s (uU s own)/\CJ s own more=aO s (yA s own)/\CG s own more=aO s (yz s own)/\CF s own more=aO s (yx s own)/\CE s own more=aO s (yu s own)/\CB s own more=aO s (oK s)/\Cz s own more=aO s (Cc s own)/\zm s own more=aO s (xu s)/\zl s own more=aO s (tq s more)/\zk s own more=aO s (xq s)/\zi s own more=aO s (xm s)/\zh s own more=aO s (sZ s own)/\zg s own more=aO s (xk s more):=by
 obtain⟨a,b,c,d,e,f,g,h,i⟩:=s;obtain⟨k,l,m,n,o,p,q,r,u,R,v,Q,w⟩:=F;simp only at k l m n o p q r u R v Q w;have x:IntKind.i64.wrap (i+1)=i+1:=wrap_small (by omega) (by omega);have y:IntKind.i64.wrap (g+1)=g+1:=wrap_small (by omega) (by omega);have z:IntKind.i64.wrap (f+1)=f+1:=wrap_small (by omega) (by omega);have A:(i+1).tmod 32768=(i+1)%32768:=g9 (by omega);have B:(g+1).tmod 4096=(g+1)%4096:=g9 (by omega);refine⟨?_,?_,?_,?_,?_,?_,?_,?_,?_,?_,?_,?_,?_,?_,?_,?_⟩<;>simp only[CP,row0,CO,yB,CL,Ce,CK,uU,CJ,yA,CG,yz,CF,yx,CE,yu,CB,oK,Cz,Cc,zm,xu,zl,tq,zk,xq,zi,xm,zh,sZ,zg,xk,dU,fM,x,y,z,A,B,yes,no,aO,nF,tG,kA,eI,j0,gE,rB]<;>(repeat' split)<;>(first|rfl|(simp_all;done)|(simp_all;omega)|(exfalso;simp_all;omega)|(simp_all[Option.map,gP,aa.val];omega))
def ajq{s:aa}{own more:Int}(F:Facts s)(h:0<=own)(a:own<=15):CP s own more=aO s (row0 s own):=(iZ F h a).1
def ajp{s:aa}{own more:Int}(F:Facts s)(h:0<=own)(a:own<=15):CO s own more=aO s (yB s own):=(iZ F h a).2.1
def ajo{s:aa}{own more:Int}(F:Facts s)(h:0<=own)(a:own<=15):CL s own more=aO s (Ce s own):=(iZ F h a).2.2.1
def ajn{s:aa}{own more:Int}(F:Facts s)(h:0<=own)(a:own<=15):CK s own more=aO s (uU s own):=(iZ F h a).2.2.2.1
def ajm{s:aa}{own more:Int}(F:Facts s)(h:0<=own)(a:own<=15):CJ s own more=aO s (yA s own):=(iZ F h a).2.2.2.2.1
def ajl{s:aa}{own more:Int}(F:Facts s)(h:0<=own)(a:own<=15):CG s own more=aO s (yz s own):=(iZ F h a).2.2.2.2.2.1
def ajk{s:aa}{own more:Int}(F:Facts s)(h:0<=own)(a:own<=15):CF s own more=aO s (yx s own):=(iZ F h a).2.2.2.2.2.2.1
def ajj{s:aa}{own more:Int}(F:Facts s)(h:0<=own)(a:own<=15):CE s own more=aO s (yu s own):=(iZ F h a).2.2.2.2.2.2.2.1
def aji{s:aa}{own more:Int}(F:Facts s)(h:0<=own)(a:own<=15):CB s own more=aO s (oK s):=(iZ F h a).2.2.2.2.2.2.2.2.1
def ajh{s:aa}{own more:Int}(F:Facts s)(h:0<=own)(a:own<=15):Cz s own more=aO s (Cc s own):=(iZ F h a).2.2.2.2.2.2.2.2.2.1
def ag6{s:aa}{own more:Int}(F:Facts s)(h:0<=own)(a:own<=15):zm s own more=aO s (xu s):=(iZ F h a).2.2.2.2.2.2.2.2.2.2.1
def ag5{s:aa}{own more:Int}(F:Facts s)(h:0<=own)(a:own<=15):zl s own more=aO s (tq s more):=(iZ F h a).2.2.2.2.2.2.2.2.2.2.2.1
def ag4{s:aa}{own more:Int}(F:Facts s)(h:0<=own)(a:own<=15):zk s own more=aO s (xq s):=(iZ F h a).2.2.2.2.2.2.2.2.2.2.2.2.1
def ag3{s:aa}{own more:Int}(F:Facts s)(h:0<=own)(a:own<=15):zi s own more=aO s (xm s):=(iZ F h a).2.2.2.2.2.2.2.2.2.2.2.2.2.1
def ag0{s:aa}{own more:Int}(F:Facts s)(h:0<=own)(a:own<=15):zh s own more=aO s (sZ s own):=(iZ F h a).2.2.2.2.2.2.2.2.2.2.2.2.2.2.1
def agZ{s:aa}{own more:Int}(F:Facts s)(h:0<=own)(a:own<=15):zg s own more=aO s (xk s more):=(iZ F h a).2.2.2.2.2.2.2.2.2.2.2.2.2.2.2
def ZH(n i:Nat):Bool:=(decide (bits .and .i64 n (2^i:Nat)=if n/2^i%2=1 then((2^i:Nat):Int)else 0))&&(decide (n/2^i%2=1)||decide (bits .or .i64 n (2^i:Nat)=((n+2^i:Nat):Int)))&&(decide (n/2^i%2=0)||decide (bits .andNot .i64 n (2^i:Nat)=((n-2^i:Nat):Int)))
def acw:(List.range 256).all (λn=>(List.range 8).all (ZH n))=true:=by kernel_rfl
def oD{c:Int}(o:0<=c)(p:c<=255)(i:Nat)(k:i<8):(bits .and .i64 c (2^i:Nat)=if c/(2^i:Nat)%2=1 then((2^i:Nat):Int)else 0)/\(c/(2^i:Nat)%2≠1->bits .or .i64 c (2^i:Nat)=c+(2^i:Nat))/\(c/(2^i:Nat)%2=1->bits .andNot .i64 c (2^i:Nat)=c-(2^i:Nat)):=by
 have h:=bp.1 (bp.1 acw c.toNat (eA.2 (by omega))) i (eA.2 k);simp only[ZH,bj,eV,tG]at h;obtain⟨n,rfl⟩:∃n:Nat,c=n:=⟨c.toNat,by omega⟩;simp only[cH]at h;obtain⟨⟨m,a⟩,b⟩:=h;have e:((n:Int)/((2^i:Nat):Int)%2)=((n/2^i%2:Nat):Int):=by simp
 rw[e];refine⟨?_,λd=> ?_,λd=> ?_⟩
 .rw[m]
  by_cases q:n/2^i%2=1
  .rw[tz q,tz (by omega)]
  .rw[ck q,ck (by omega)]
 .rcases a with a|a
  .omega
  .rw[a];omega
 .rcases b with b|b
  .omega
  .rw[b]
   have:2^i<=n:=by
    rcases cn n (2^i)with l|f
    .rw[Nat.div_eq_of_lt l]at d;simp at d
    .exact f
   omega
def ag1{s:aa}{own more:Int}(F:Facts s)(K:0<=own)(L:own<=15):D7 s own more=aO s (vH s own more):=by
 obtain⟨a,b,c,d,e,f,g,h,i⟩:=s;obtain⟨v,x,l,y,z,A,B,C,D,R,E,Q,G⟩:=F;simp only at v x l y z A B C D R E Q G;have w:IntKind.i64.wrap (i+1)=i+1:=wrap_small (by omega) (by omega);have o:(i+1).tmod 32768=(i+1)%32768:=g9 (by omega);simp only[D7,vH,yes,no,aO];by_cases r:more<0
 .simp only[w,nF,tG,kA,eI,j0,gE,rB]
  repeat' split
  all_goals first|rfl|(simp_all;done)|(exfalso;simp_all;omega)
 by_cases u:more>=8
 .simp only[w,nF,tG,kA,eI,j0,gE,rB]
  repeat' split
  all_goals first|rfl|(simp_all;done)|(exfalso;simp_all;omega)
 have m:=oD l.1 l.2 more.toNat (by omega);have p:((2^more.toNat:Nat):Int)=(2:Int)^more.toNat:=by simp
 rw[p]at m;have H:IntKind.i64.wrap (1*2^min (Int.toNat more) 64)=(2:Int)^more.toNat:=by
  rcases(show more=0\/more=1\/more=2\/more=3\/more=4\/more=5\/more=6\/more=7 by omega)with rfl|rfl|rfl|rfl|rfl|rfl|rfl|rfl<;>decide
 have I:(2:Int)^more.toNat≠0:=by
  rcases(show more=0\/more=1\/more=2\/more=3\/more=4\/more=5\/more=6\/more=7 by omega)with rfl|rfl|rfl|rfl|rfl|rfl|rfl|rfl<;>decide
 rw[H];generalize (2:Int)^more.toNat=q at m I ⊢;obtain⟨k,N,J⟩:=m;by_cases n:c/q%2=1
 .rw[tz n]at k
  rw[k,J n];simp only[w,o,r,u,nF,tG,kA,eI,j0,gE,rB];repeat' split
  all_goals first|rfl|(simp_all;done)|(simp_all;omega)|(exfalso;simp_all;omega)|(simp_all[Option.map,gP,aa.val];omega)
 .rw[ck n]at k
  rw[k];simp only[w,o,r,u,nF,tG,kA,eI,j0,gE,rB];repeat' split
  all_goals first|rfl|(simp_all;done)|(simp_all;omega)|(exfalso;simp_all;omega)|(simp_all[Option.map,gP,aa.val];omega)
theorem aoI{s:aa}{more L:Int}(k:L=if 8<more then 8 else more)(a:0<=s.str)(b:s.str<=255){j:Nat}(l:j<=8)(c:∀i<j,s.str/((2^i:Nat):Int)%2=1)(n:j<8->s.str/((2^j:Nat):Int)%2≠1)(f):
  ∀d i,i+d=j->g14 s L (f+d+1) i=if(j:Int)<more/\j<8 then yes {s with str:=s.str+((2^j:Nat):Int),cz:=Int.tmod (IntKind.i64.wrap (s.cz+1)) 32768}else no
 |0,i,e=>by
  obtain rfl:i=j:=e;unfold g14;by_cases h:(i:Int)<more/\i<8
  .have q:=oD a b i h.2
   rw[cN (by grind),q.1,ck (n h.2),q.2.1 (n h.2),show Nat.blt i 9=true from by simp;omega,tz h];rfl
  .rw[cT (by grind),ck h]
   rfl
 |d+1,i,e=>by
  unfold g14;by_cases h:(i:Int)<more
  .rw[cN (by grind),(oD a b i (by omega)).1,tz (c i (by omega)), <-aoI k a b l c n f d (i+1) (by omega),na (by have:=Nat.two_pow_pos i;omega)]
   rfl
  .rw[cT (by grind),ck (by omega)]
   rfl
def aqQ(c:Int):∃j:Nat,j<=8/\bA c=j/\(∀i<j,c/((2^i:Nat):Int)%2=1)/\(j<8->c/((2^j:Nat):Int)%2≠1):=by
 unfold bA;repeat' split
 all_goals
  refine⟨_,?_,(j8 ?_).symm,λi h=> ?_,λ_=> ?_⟩<;>try decide
  .match i,h with
   |0,_|1,_|2,_|3,_|4,_|5,_|6,_|7,_=>simp at* <;>omega
  .simp at* <;>omega
def ag2{s:aa}{own more:Int}(F:Facts s)(c:0<=own)(d:own<=15):aK s own more=aO s (aZ s own more):=by
 obtain⟨e,f,a,i,m,o,p,q,r,R,u,Q,v⟩:=F;obtain⟨j,h,l,b,n⟩:=aqQ s.str;have k:=aoI (more:=more) rfl a.1 a.2 h b n (11-j) j 0 (by omega);rw[show 11-j+j+1=12 by omega,wrap_small (by omega) (by omega),g9 (by omega)]at k;unfold aK aZ aO;rw[k,l];grind [yes,no]
def abx(s:aa)(k own more:Int)(F:Facts s)(h:0<=own)(a:own<=15):Av s k own more=aO s (uT s k own more):=by
 by_cases c:k<0\/k>=18
 .have r:uT s k own more=none:=by
   unfold uT;rw[ck (by omega),ck (by omega),ck (by omega),ck (by omega),ck (by omega),ck (by omega),ck (by omega),ck (by omega),ck (by omega),ck (by omega),ck (by omega),ck (by omega),ck (by omega),ck (by omega),ck (by omega),ck (by omega),ck (by omega),ck (by omega)]
  rw[r];rcases c with c|c
  .simp[Av,c,aO,no]
  .simp[Av,c,show¬k<0 by omega,aO,no]
 .rcases(show k=0\/k=1\/k=2\/k=3\/k=4\/k=5\/k=6\/k=7\/k=8\/k=9\/k=10\/k=11\/k=12\/k=13\/k=14\/k=15\/k=16\/k=17 by omega)with rfl|rfl|rfl|rfl|rfl|rfl|rfl|rfl|rfl|rfl|rfl|rfl|rfl|rfl|rfl|rfl|rfl|rfl
  .exact Eq.trans (b:=CP s own more) (by kernel_rfl) ((ajq F h a).trans (by kernel_rfl))
  .exact Eq.trans (b:=CO s own more) (by kernel_rfl) ((ajp F h a).trans (by kernel_rfl))
  .exact Eq.trans (b:=CL s own more) (by kernel_rfl) ((ajo F h a).trans (by kernel_rfl))
  .exact Eq.trans (b:=CK s own more) (by kernel_rfl) ((ajn F h a).trans (by kernel_rfl))
  .exact Eq.trans (b:=CJ s own more) (by kernel_rfl) ((ajm F h a).trans (by kernel_rfl))
  .exact Eq.trans (b:=CG s own more) (by kernel_rfl) ((ajl F h a).trans (by kernel_rfl))
  .exact Eq.trans (b:=CF s own more) (by kernel_rfl) ((ajk F h a).trans (by kernel_rfl))
  .exact Eq.trans (b:=CE s own more) (by kernel_rfl) ((ajj F h a).trans (by kernel_rfl))
  .exact Eq.trans (b:=CB s own more) (by kernel_rfl) ((aji F h a).trans (by kernel_rfl))
  .exact Eq.trans (b:=Cz s own more) (by kernel_rfl) ((ajh F h a).trans (by kernel_rfl))
  .exact Eq.trans (b:=zm s own more) (by kernel_rfl) ((ag6 F h a).trans (by kernel_rfl))
  .exact Eq.trans (b:=zl s own more) (by kernel_rfl) ((ag5 F h a).trans (by kernel_rfl))
  .exact Eq.trans (b:=zk s own more) (by kernel_rfl) ((ag4 F h a).trans (by kernel_rfl))
  .exact Eq.trans (b:=zi s own more) (by kernel_rfl) ((ag3 F h a).trans (by kernel_rfl))
  .exact Eq.trans (b:=aK s own more) (by kernel_rfl) ((ag2 F h a).trans (by kernel_rfl))
  .exact Eq.trans (b:=D7 s own more) (by kernel_rfl) ((ag1 F h a).trans (by kernel_rfl))
  .exact Eq.trans (b:=zh s own more) (by kernel_rfl) ((ag0 F h a).trans (by kernel_rfl))
  .exact Eq.trans (b:=zg s own more) (by kernel_rfl) ((agZ F h a).trans (by kernel_rfl))
def abw(s:aa)(k own more:Int)(w:World)(h:cB w):Calls Tryz.prog 74 #[s.val,.int .i64 k,.int .i64 own,.int .i64 more] w λe a=>e=.returned (gP (az s k own more))/\Below w.heap.size w a:=
 Wv (VB _ w h.lt (Gr w) h) rfl (fuel:=30) (args:=[s.val,.int .i64 k,.int .i64 own,.int .i64 more]) ((YQ s k own more).trans (abd λF b c=>abx s k own more F b c)) (kG _) (by simp[gP,undef]) (by simp[aa.val,Go.Sx.plain,aN])
