/- Laws of the proof, joined. No condition of its own. -/
import Derived.Test.YteaflphddciglaaGreatDoorCaC
set_option linter.all false
namespace Go.Proofs.YteaflphddciglaaGreatDoor
section
open Go.RowKit Go.bn
def je:Array Value:= #[.int .i64 0,.int .i64 3,.int .i64 3,.int .i64 4,.int .i64 7,.int .i64 8,.int .i64 15,.int .i64 1,.int .i64 16,.int .i64 1,.int .i64 17,.int .i64 6,.int .i64 23,.int .i64 12,.int .i64 35,.int .i64 12,.int .i64 47,.int .i64 15]
set_option maxHeartbeats 1000000 in
theorem Lu(w:World):(storeCells ⟨w.heap.size,0,none⟩ je.toList).run Tryz.prog (w.alloc (.cells #[.int .i64 0,.int .i64 0,.int .i64 0,.int .i64 0,.int .i64 0,.int .i64 0,.int .i64 0,.int .i64 0,.int .i64 0,.int .i64 0,.int .i64 0,.int .i64 0,.int .i64 0,.int .i64 0,.int .i64 0,.int .i64 0,.int .i64 0,.int .i64 0] 152))=.ok () (w.alloc (.cells je 152)):=by
 unfold je;go_simp
end
section
open Go.RowKit Go.bn
attribute [local go_sem ↓] Go.wp_at_zero Go.wp_at_succ GY
def cB(w:World):Prop:=∃t fr,w.heap[0]?=some (.cells je t fr)
theorem cB.lt{w:World}(h:cB w):0<w.heap.size:=by
 obtain⟨t,fr,h⟩:=h;exact(bk.1 h).1
theorem cB.below{w w':World}(h:cB w)(hb:Below w.heap.size w w'):cB w':=by
 obtain⟨t,fr,h'⟩:=h;exact⟨t,fr,(hb.block 0 (bk.1 h').1).trans h'⟩
theorem Cb{α:Type}{enc:α->List Value}{size:Nat}(hs:∀x,(enc x).length=size){w:World}{g:Nat}{t:TypeId}{cs:Array Value}{xs:List α}(h:ag w g t cs)(hcs:cs=(xs.flatMap enc).toArray):dN enc size w w.heap.size (some ⟨g,0,none⟩) xs:=λ_=>by
 refine⟨g,0,rfl,h.lt,λk x hx j u hu=> ?_⟩;rw[h.cell,hcs];have:=flat_get enc size hs xs k j x u hx hu;simpa using this
theorem Qw(x:Int×Int):(wO x).length=2:=rfl
theorem acf(x:Int):(encI x).length=1:=rfl
theorem Di{w:World}{g:Nat}{t:TypeId}{cs:Array Value}(h:ag w g t cs)(o:Obj):ag (w.alloc o) g t cs:=(b7 w o g h.lt).trans h
theorem nine{w:World}{g:Nat}{t:TypeId}{x0 x1 x2 x3 x4 x5 x6 x7 x8:Value}(h:ag w g t #[x0,x1,x2,x3,x4,x5,x6,x7,x8]):w.cell? ⟨g,0,none⟩=some x0/\w.cell? ⟨g,1,none⟩=some x1/\w.cell? ⟨g,2,none⟩=some x2/\w.cell? ⟨g,3,none⟩=some x3/\w.cell? ⟨g,4,none⟩=some x4/\w.cell? ⟨g,5,none⟩=some x5/\w.cell? ⟨g,6,none⟩=some x6/\w.cell? ⟨g,7,none⟩=some x7/\w.cell? ⟨g,8,none⟩=some x8:=
 ⟨h.cell 0,h.cell 1,h.cell 2,h.cell 3,h.cell 4,h.cell 5,h.cell 6,h.cell 7,h.cell 8⟩
set_option maxHeartbeats 2000000 in
theorem K4(a b c:Int)(d e:Bool)(f g h i:Int)(w:World)(hT:cB w):
  Calls Tryz.prog 75 #[.agg #[.int .i64 a,.int .i64 b,.int .i64 c,.bool d,.bool e,.int .i64 f,.int .i64 g,.int .i64 h,.int .i64 i]] w λen w'=>en=.returned (DV (encS ⟨a,b,c,d,e,f,g,h,i⟩))/\Below w.heap.size w w':=by
 have hN:=ag.new w 44 #[.int .i64 a,.int .i64 b,.int .i64 c,.bool d,.bool e,.int .i64 f,.int .i64 g,.int .i64 h,.int .i64 i];obtain⟨c0,c1,c2,c3,c4,c5,c6,c7,c8⟩:=nine hN;have hB0:=(Below.refl _ w).alloc (aq _) (.cells #[.int .i64 a,.int .i64 b,.int .i64 c,.bool d,.bool e,.int .i64 f,.int .i64 g,.int .i64 h,.int .i64 i] 44);have hZ0:=hN.lt;clear hN;by_cases h6:6<a
 .have hz:encS ⟨a,b,c,d,e,f,g,h,i⟩=none:=by unfold encS;rw[if_pos (.inl h6)]
  have HZ:=Lib.hid hz;have hg:decide (6<a)=true:=by simpa using h6
  clear hz h6;go_enter Tryz.func75,Tryz.ntmps75
  go_wp2
  go_quiet (fail)
  go_wp2
  go_ret2
  exact⟨by rw[HZ.out];rfl,fR hB0 _⟩
 .have hg:decide (6<a)=false:=by simpa using h6
  obtain⟨bs,hbs⟩:∃bs,bs=tO ⟨a,b,c,d,e,f,g,h,i⟩:=⟨_,rfl⟩;have HBS:=Lib.hid hbs;clear hbs;obtain⟨a',b',c',d',e',f',g',h',i'⟩:=bs;obtain⟨q,hsq⟩:∃q,seq (⟨a,b,c,d,e,f,g,h,i⟩:aa) ⟨a',b',c',d',e',f',g',h',i'⟩=q:=⟨_,rfl⟩;have HQ:=Lib.hid (And.intro hsq h6);go_enter Tryz.func75,Tryz.ntmps75
  go_wp2
  go_region_held3 (fun w'=>w'.cell? ⟨w.heap.size,0,none⟩=some (.int .i64 a)/\w'.cell? ⟨w.heap.size,1,none⟩=some (.int .i64 b)/\w'.cell? ⟨w.heap.size,2,none⟩=some (.int .i64 c)/\w'.cell? ⟨w.heap.size,3,none⟩=some (.bool d)/\w'.cell? ⟨w.heap.size,4,none⟩=some (.bool e)/\w'.cell? ⟨w.heap.size,5,none⟩=some (.int .i64 f)/\w'.cell? ⟨w.heap.size,6,none⟩=some (.int .i64 g)/\w'.cell? ⟨w.heap.size,7,none⟩=some (.int .i64 h)/\w'.cell? ⟨w.heap.size,8,none⟩=some (.int .i64 i)/\Below w.heap.size w w'/\w.heap.size<w'.heap.size)
   (first|exact⟨c0,c1,c2,c3,c4,c5,c6,c7,c8,hB0.drew,hZ0⟩|(obtain⟨g0,g1,g2,g3,g4,g5,g6,g7,g8,gB,gZ⟩:=‹World.cell? _ _=_/\_/\_/\_/\_/\_/\_/\_/\_/\Below _ _ _/\_<_›;first|exact⟨(hb.cell (p:=⟨w.heap.size,0,none⟩) gZ).trans g0,(hb.cell (p:=⟨w.heap.size,1,none⟩) gZ).trans g1,(hb.cell (p:=⟨w.heap.size,2,none⟩) gZ).trans g2,(hb.cell (p:=⟨w.heap.size,3,none⟩) gZ).trans g3,(hb.cell (p:=⟨w.heap.size,4,none⟩) gZ).trans g4,(hb.cell (p:=⟨w.heap.size,5,none⟩) gZ).trans g5,(hb.cell (p:=⟨w.heap.size,6,none⟩) gZ).trans g6,(hb.cell (p:=⟨w.heap.size,7,none⟩) gZ).trans g7,(hb.cell (p:=⟨w.heap.size,8,none⟩) gZ).trans g8,gB.trans (hb.mono (gl gZ)),ba gZ hb.size⟩|exact⟨aL g0 _,aL g1 _,aL g2 _,aL g3 _,aL g4 _,aL g5 _,aL g6 _,aL g7 _,aL g8 _,gB.alloc (gl gZ) _,by simp;omega⟩))
   (first|(go_at_call 99;refine(QT _ _ _ _ _ _ _ _ _ _).mono ?_;rintro en w1 ⟨rfl,hb⟩;rw[<-HBS.out];simp only[aa.val]))
  obtain⟨t0,t1,t2,t3,t4,t5,t6,t7,t8,tB,tZ⟩:=‹World.cell? _ _=_/\_/\_/\_/\_/\_/\_/\_/\_/\Below _ _ _/\_<_›;have hq:=HQ.out.1;unfold seq at hq;cases q with
  |true=>
   have HZ:=Lib.hid (show encS ⟨a,b,c,d,e,f,g,h,i⟩=kC fC (numsL ⟨a,b,c,d,e,f,g,h,i⟩)by unfold encS;rw[if_neg (by rw[<-HBS.out, <-of_decide_eq_true hq];have:=HQ.out.2;simp;omega)]);clear hq hsq h6;obtain⟨tt,fr,hg1⟩:=hT;have abO:=(bk.1 hg1).1;have hts:je.size=18:=rfl;have hst:=Lu w1;have hg2:w1.heap[0]?=some (.cells je tt fr):=(tB.block 0 (by omega)).trans hg1;clear c0 c1 c2 c3 c4 c5 c6 c7 c8 hB0 hZ0 hb hg1;go_wp2_with (refine wpList_load_row rfl 152 _ rfl 0 rfl tt _ fr _ hg2 Tryz.underlying152 rfl (by kernel_rfl) ?_)
   have hBT:=ag.new w1 152 je;have hZ2:w.heap.size<(w1.alloc (.cells je 152)).heap.size:=by simp;omega
   have hB2:Below w.heap.size w (w1.alloc (.cells je 152)):=tB.alloc (gl tZ) _;have s0:=aL t0 (.cells je 152);have s1:=aL t1 (.cells je 152);have s2:=aL t2 (.cells je 152);have s3:=aL t3 (.cells je 152);have s4:=aL t4 (.cells je 152);have s5:=aL t5 (.cells je 152);have s6:=aL t6 (.cells je 152);have s7:=aL t7 (.cells je 152);have s8:=aL t8 (.cells je 152);clear t0 t1 t2 t3 t4 t5 t6 t7 t8 hg2;clear hst hts;have CX:w.heap.size<w1.heap.size:=tZ;have hTr:dN wO 2 (w1.alloc (.cells je 152)) (w1.heap.size+1) (some ⟨w1.heap.size,0,none⟩) fC:=by
    have:=Cb Qw (xs:=fC) hBT rfl;simpa using this
   have hNr:dN encI 1 ((w1.alloc (.cells je 152)).alloc (.cells #[.int .i64 a,.int .i64 b,.int .i64 c,.int .i64 (wP d),.int .i64 (wP e),.int .i64 f,.int .i64 g,.int .i64 h,.int .i64 i] 3)).drew ((w1.alloc (.cells je 152)).alloc (.cells #[.int .i64 a,.int .i64 b,.int .i64 c,.int .i64 (wP d),.int .i64 (wP e),.int .i64 f,.int .i64 g,.int .i64 h,.int .i64 i] 3)).drew.heap.size (some ⟨w1.heap.size+1,0,none⟩) (numsL ⟨a,b,c,d,e,f,g,h,i⟩):=by
    have:=ag.new (w1.alloc (.cells je 152)) 3 #[.int .i64 a,.int .i64 b,.int .i64 c,.int .i64 (wP d),.int .i64 (wP e),.int .i64 f,.int .i64 g,.int .i64 h,.int .i64 i];rw[ld]at this;exact Cb acf (xs:=numsL ⟨a,b,c,d,e,f,g,h,i⟩) this rfl
   go_region_held3 (fun w'=>w'.cell? ⟨w.heap.size,0,none⟩=some (.int .i64 a)/\w'.cell? ⟨w.heap.size,1,none⟩=some (.int .i64 b)/\w'.cell? ⟨w.heap.size,2,none⟩=some (.int .i64 c)/\w'.cell? ⟨w.heap.size,3,none⟩=some (.bool d)/\w'.cell? ⟨w.heap.size,4,none⟩=some (.bool e)/\w'.cell? ⟨w.heap.size,5,none⟩=some (.int .i64 f)/\w'.cell? ⟨w.heap.size,6,none⟩=some (.int .i64 g)/\w'.cell? ⟨w.heap.size,7,none⟩=some (.int .i64 h)/\w'.cell? ⟨w.heap.size,8,none⟩=some (.int .i64 i)/\dN wO 2 w' (w1.heap.size+1) (some ⟨w1.heap.size,0,none⟩) fC/\Below w.heap.size w w'/\w1.heap.size<w'.heap.size)
    (first|assumption|exact⟨s0,s1,s2,s3,s4,s5,s6,s7,s8,hTr,hB2.drew,by simp⟩|(obtain⟨g0,g1,g2,g3,g4,g5,g6,g7,g8,gR,gB,gZ⟩:=‹World.cell? _ _=_/\_/\_/\_/\_/\_/\_/\_/\_/\_/\Below _ _ _/\_<_›;first|exact⟨(hb.cell (p:=⟨w.heap.size,0,none⟩) (gk CX gZ)).trans g0,(hb.cell (p:=⟨w.heap.size,1,none⟩) (gk CX gZ)).trans g1,(hb.cell (p:=⟨w.heap.size,2,none⟩) (gk CX gZ)).trans g2,(hb.cell (p:=⟨w.heap.size,3,none⟩) (gk CX gZ)).trans g3,(hb.cell (p:=⟨w.heap.size,4,none⟩) (gk CX gZ)).trans g4,(hb.cell (p:=⟨w.heap.size,5,none⟩) (gk CX gZ)).trans g5,(hb.cell (p:=⟨w.heap.size,6,none⟩) (gk CX gZ)).trans g6,(hb.cell (p:=⟨w.heap.size,7,none⟩) (gk CX gZ)).trans g7,(hb.cell (p:=⟨w.heap.size,8,none⟩) (gk CX gZ)).trans g8,gR.below (hb.mono gZ),gB.trans (hb.mono (gl (gk CX gZ))),ba gZ hb.size⟩|exact⟨aL g0 _,aL g1 _,aL g2 _,aL g3 _,aL g4 _,aL g5 _,aL g6 _,aL g7 _,aL g8 _,EC gR gZ _,gB.alloc (gl (gk CX gZ)) _,by simp;omega⟩))
    (first|(go_at_call 101;refine(afP _ _).mono ?_;rintro en w2 ⟨rfl,rfl⟩)|(go_at_call 100;refine(aa8 _ _ 9 9 fC (numsL ⟨a,b,c,d,e,f,g,h,i⟩) (by decide) (by decide) (by simp[numsL]) _ ?_ ?_).mono ?_;have gS:=‹World.cell? _ _=_/\_/\_/\_/\_/\_/\_/\_/\_/\_/\Below _ _ _/\_<_›;exact gS.2.2.2.2.2.2.2.2.2.1.more (Nat.succ_le_of_lt gS.2.2.2.2.2.2.2.2.2.2.2);exact hNr;rintro en w2 ⟨rfl,hb⟩;rw[Ad]))
   go_wp2
   go_ret2
   obtain⟨_,_,_,_,_,_,_,_,_,_,fB,_⟩:=‹World.cell? w2 _=_/\_/\_/\_/\_/\_/\_/\_/\_/\_/\Below _ _ _/\_<_›;exact⟨by rw[HZ.out,Ad];rfl,fB⟩
  |false=>
   have HZ:=Lib.hid (show encS ⟨a,b,c,d,e,f,g,h,i⟩=none by unfold encS;rw[if_pos (.inr (by rw[<-HBS.out];exact of_decide_eq_false hq))]);clear hq hsq h6;go_wp2
   go_ret2
   exact⟨by rw[HZ.out];rfl,tB⟩
