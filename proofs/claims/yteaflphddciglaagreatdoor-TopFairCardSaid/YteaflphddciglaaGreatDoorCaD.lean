import Derived.Test.YteaflphddciglaaGreatDoorCaC
set_option linter.all false
namespace Go.Proofs.YteaflphddciglaaGreatDoor
section
open Go.RowKit Go.bn
def je:Array Value:= #[.int .i64 0,.int .i64 3,.int .i64 3,.int .i64 4,.int .i64 7,.int .i64 8,.int .i64 15,.int .i64 1,.int .i64 16,.int .i64 1,.int .i64 17,.int .i64 6,.int .i64 23,.int .i64 12,.int .i64 35,.int .i64 12,.int .i64 47,.int .i64 15]
set_option maxHeartbeats 1000000 in
def Lu(w:World):(storeCells ⟨w.heap.size,0,none⟩ je.toList).run Tryz.prog (w.alloc (.cells #[.int .i64 0,.int .i64 0,.int .i64 0,.int .i64 0,.int .i64 0,.int .i64 0,.int .i64 0,.int .i64 0,.int .i64 0,.int .i64 0,.int .i64 0,.int .i64 0,.int .i64 0,.int .i64 0,.int .i64 0,.int .i64 0,.int .i64 0,.int .i64 0] 152))=.ok () (w.alloc (.cells je 152)):=by
 unfold je;go_simp
end
section
open Go.RowKit Go.bn
attribute [local go_sem ↓] Go.wp_at_zero Go.wp_at_succ GY
def cB(w:World):Prop:=∃t fr,w.heap[0]?=some (.cells je t fr)
def cB.lt{w:World}(h:cB w):0<w.heap.size:=by
 obtain⟨t,fr,h⟩:=h;exact(bk.1 h).1
def cB.below{w a:World}(h:cB w)(c:Below w.heap.size w a):cB a:=by
 obtain⟨t,fr,b⟩:=h;exact⟨t,fr,(c.block 0 (bk.1 b).1).trans b⟩
def Cb{α:Type}{e:α->List Value}{s:Nat}(b:∀x,(e x).length=s){w:World}{g:Nat}{t:TypeId}{a:Array Value}{xs:List α}(h:ag w g t a)(c:a=(xs.flatMap e).toArray):dN e s w w.heap.size (some ⟨g,0,none⟩) xs:=λ_=>by
 refine⟨g,0,rfl,h.lt,λk x d j u f=> ?_⟩;rw[h.cell,c];have:=flat_get e s b xs k j x u d f;simpa using this
def Qw(x:Int×Int):(wO x).length=2:=rfl
def acf(x:Int):(encI x).length=1:=rfl
def Di{w:World}{g:Nat}{t:TypeId}{c:Array Value}(h:ag w g t c)(o:Obj):ag (w.alloc o) g t c:=(b7 w o g h.lt).trans h
def nine{w:World}{g:Nat}{t:TypeId}{x a b c d e f i k:Value}(h:ag w g t #[x,a,b,c,d,e,f,i,k]):w.cell? ⟨g,0,none⟩=some x/\w.cell? ⟨g,1,none⟩=some a/\w.cell? ⟨g,2,none⟩=some b/\w.cell? ⟨g,3,none⟩=some c/\w.cell? ⟨g,4,none⟩=some d/\w.cell? ⟨g,5,none⟩=some e/\w.cell? ⟨g,6,none⟩=some f/\w.cell? ⟨g,7,none⟩=some i/\w.cell? ⟨g,8,none⟩=some k:=
 ⟨h.cell 0,h.cell 1,h.cell 2,h.cell 3,h.cell 4,h.cell 5,h.cell 6,h.cell 7,h.cell 8⟩
set_option maxHeartbeats 2000000 in
def K4(a b c:Int)(d e:Bool)(f g h i:Int)(w:World)(hT:cB w):
  Calls Tryz.prog 75 #[.agg #[.int .i64 a,.int .i64 b,.int .i64 c,.bool d,.bool e,.int .i64 f,.int .i64 g,.int .i64 h,.int .i64 i]] w λN k=>N=.returned (DV (encS ⟨a,b,c,d,e,f,g,h,i⟩))/\Below w.heap.size w k:=by
 have O:=ag.new w 44 #[.int .i64 a,.int .i64 b,.int .i64 c,.bool d,.bool e,.int .i64 f,.int .i64 g,.int .i64 h,.int .i64 i];obtain⟨X,Y,c2,c3,c4,c5,c6,c7,c8⟩:=nine O;have B:=(Below.refl _ w).alloc (aq _) (.cells #[.int .i64 a,.int .i64 b,.int .i64 c,.bool d,.bool e,.int .i64 f,.int .i64 g,.int .i64 h,.int .i64 i] 44);have r:=O.lt;clear O;by_cases n:6<a
 .have hz:encS ⟨a,b,c,d,e,f,g,h,i⟩=none:=by unfold encS;rw[tz (.inl n)]
  have u:=Lib.hid hz;have hg:decide (6<a)=true:=by simpa using n
  clear hz n;go_enter Tryz.func75,Tryz.ntmps75
  go_wp2
  go_quiet (fail)
  go_wp2
  go_ret2
  exact⟨by rw[u.out];rfl,fR B _⟩
 .have hg:decide (6<a)=false:=by simpa using n
  obtain⟨P,v⟩:∃P,P=tO ⟨a,b,c,d,e,f,g,h,i⟩:=⟨_,rfl⟩;have H:=Lib.hid v;clear v;obtain⟨a',b',c',d',e',f',g',h',i'⟩:=P;obtain⟨q,s⟩:∃q,seq (⟨a,b,c,d,e,f,g,h,i⟩:aa) ⟨a',b',c',d',e',f',g',h',i'⟩=q:=⟨_,rfl⟩;have HQ:=Lib.hid (And.intro s n);go_enter Tryz.func75,Tryz.ntmps75
  go_wp2
  go_region_held3 (fun k=>k.cell? ⟨w.heap.size,0,none⟩=some (.int .i64 a)/\k.cell? ⟨w.heap.size,1,none⟩=some (.int .i64 b)/\k.cell? ⟨w.heap.size,2,none⟩=some (.int .i64 c)/\k.cell? ⟨w.heap.size,3,none⟩=some (.bool d)/\k.cell? ⟨w.heap.size,4,none⟩=some (.bool e)/\k.cell? ⟨w.heap.size,5,none⟩=some (.int .i64 f)/\k.cell? ⟨w.heap.size,6,none⟩=some (.int .i64 g)/\k.cell? ⟨w.heap.size,7,none⟩=some (.int .i64 h)/\k.cell? ⟨w.heap.size,8,none⟩=some (.int .i64 i)/\Below w.heap.size w k/\w.heap.size<k.heap.size)
   (first|exact⟨X,Y,c2,c3,c4,c5,c6,c7,c8,B.drew,r⟩|(obtain⟨x,y,z,A,D,E,F,G,I,J,Z⟩:=‹World.cell? _ _=_/\_/\_/\_/\_/\_/\_/\_/\_/\Below _ _ _/\_<_›;first|exact⟨(l.cell (p:=⟨w.heap.size,0,none⟩) Z).trans x,(l.cell (p:=⟨w.heap.size,1,none⟩) Z).trans y,(l.cell (p:=⟨w.heap.size,2,none⟩) Z).trans z,(l.cell (p:=⟨w.heap.size,3,none⟩) Z).trans A,(l.cell (p:=⟨w.heap.size,4,none⟩) Z).trans D,(l.cell (p:=⟨w.heap.size,5,none⟩) Z).trans E,(l.cell (p:=⟨w.heap.size,6,none⟩) Z).trans F,(l.cell (p:=⟨w.heap.size,7,none⟩) Z).trans G,(l.cell (p:=⟨w.heap.size,8,none⟩) Z).trans I,J.trans (l.mono (gl Z)),ba Z l.size⟩|exact⟨aL x _,aL y _,aL z _,aL A _,aL D _,aL E _,aL F _,aL G _,aL I _,J.alloc (gl Z) _,by simp;omega⟩))
   (first|(go_at_call 99;refine(QT _ _ _ _ _ _ _ _ _ _).mono ?_;rintro N m ⟨rfl,l⟩;rw[<-H.out];simp only[aa.val]))
  obtain⟨t0,t1,t2,t3,t4,t5,t6,t7,t8,Q,tZ⟩:=‹World.cell? _ _=_/\_/\_/\_/\_/\_/\_/\_/\_/\Below _ _ _/\_<_›;have K:=HQ.out.1;unfold seq at K;cases q with
  |true=>
   have u:=Lib.hid (show encS ⟨a,b,c,d,e,f,g,h,i⟩=kC fC (numsL ⟨a,b,c,d,e,f,g,h,i⟩)by unfold encS;rw[ck (by rw[<-H.out, <-of_decide_eq_true K];have:=HQ.out.2;simp;omega)]);clear K s n;obtain⟨tt,fr,o⟩:=hT;have ac:=(bk.1 o).1;have R:je.size=18:=rfl;have S:=Lu m;have L:m.heap[0]?=some (.cells je tt fr):=(Q.block 0 (by omega)).trans o;clear X Y c2 c3 c4 c5 c6 c7 c8 B r l o;go_wp2_with (refine wpList_load_row rfl 152 _ rfl 0 rfl tt _ fr _ L Tryz.underlying152 rfl (by kernel_rfl) ?_)
   have T:=ag.new m 152 je;have am:w.heap.size<(m.alloc (.cells je 152)).heap.size:=by simp;omega
   have U:Below w.heap.size w (m.alloc (.cells je 152)):=Q.alloc (gl tZ) _;have s0:=aL t0 (.cells je 152);have s1:=aL t1 (.cells je 152);have s2:=aL t2 (.cells je 152);have s3:=aL t3 (.cells je 152);have s4:=aL t4 (.cells je 152);have s5:=aL t5 (.cells je 152);have s6:=aL t6 (.cells je 152);have s7:=aL t7 (.cells je 152);have s8:=aL t8 (.cells je 152);clear t0 t1 t2 t3 t4 t5 t6 t7 t8 L;clear S R;have C:w.heap.size<m.heap.size:=tZ;have V:dN wO 2 (m.alloc (.cells je 152)) (m.heap.size+1) (some ⟨m.heap.size,0,none⟩) fC:=by
    have:=Cb Qw (xs:=fC) T rfl;simpa using this
   have W:dN encI 1 ((m.alloc (.cells je 152)).alloc (.cells #[.int .i64 a,.int .i64 b,.int .i64 c,.int .i64 (wP d),.int .i64 (wP e),.int .i64 f,.int .i64 g,.int .i64 h,.int .i64 i] 3)).drew ((m.alloc (.cells je 152)).alloc (.cells #[.int .i64 a,.int .i64 b,.int .i64 c,.int .i64 (wP d),.int .i64 (wP e),.int .i64 f,.int .i64 g,.int .i64 h,.int .i64 i] 3)).drew.heap.size (some ⟨m.heap.size+1,0,none⟩) (numsL ⟨a,b,c,d,e,f,g,h,i⟩):=by
    have:=ag.new (m.alloc (.cells je 152)) 3 #[.int .i64 a,.int .i64 b,.int .i64 c,.int .i64 (wP d),.int .i64 (wP e),.int .i64 f,.int .i64 g,.int .i64 h,.int .i64 i];rw[ld]at this;exact Cb acf (xs:=numsL ⟨a,b,c,d,e,f,g,h,i⟩) this rfl
   go_region_held3 (fun k=>k.cell? ⟨w.heap.size,0,none⟩=some (.int .i64 a)/\k.cell? ⟨w.heap.size,1,none⟩=some (.int .i64 b)/\k.cell? ⟨w.heap.size,2,none⟩=some (.int .i64 c)/\k.cell? ⟨w.heap.size,3,none⟩=some (.bool d)/\k.cell? ⟨w.heap.size,4,none⟩=some (.bool e)/\k.cell? ⟨w.heap.size,5,none⟩=some (.int .i64 f)/\k.cell? ⟨w.heap.size,6,none⟩=some (.int .i64 g)/\k.cell? ⟨w.heap.size,7,none⟩=some (.int .i64 h)/\k.cell? ⟨w.heap.size,8,none⟩=some (.int .i64 i)/\dN wO 2 k (m.heap.size+1) (some ⟨m.heap.size,0,none⟩) fC/\Below w.heap.size w k/\m.heap.size<k.heap.size)
    (first|assumption|exact⟨s0,s1,s2,s3,s4,s5,s6,s7,s8,V,U.drew,by simp⟩|(obtain⟨x,y,z,A,D,E,F,G,I,gR,J,Z⟩:=‹World.cell? _ _=_/\_/\_/\_/\_/\_/\_/\_/\_/\_/\Below _ _ _/\_<_›;first|exact⟨(l.cell (p:=⟨w.heap.size,0,none⟩) (gk C Z)).trans x,(l.cell (p:=⟨w.heap.size,1,none⟩) (gk C Z)).trans y,(l.cell (p:=⟨w.heap.size,2,none⟩) (gk C Z)).trans z,(l.cell (p:=⟨w.heap.size,3,none⟩) (gk C Z)).trans A,(l.cell (p:=⟨w.heap.size,4,none⟩) (gk C Z)).trans D,(l.cell (p:=⟨w.heap.size,5,none⟩) (gk C Z)).trans E,(l.cell (p:=⟨w.heap.size,6,none⟩) (gk C Z)).trans F,(l.cell (p:=⟨w.heap.size,7,none⟩) (gk C Z)).trans G,(l.cell (p:=⟨w.heap.size,8,none⟩) (gk C Z)).trans I,gR.below (l.mono Z),J.trans (l.mono (gl (gk C Z))),ba Z l.size⟩|exact⟨aL x _,aL y _,aL z _,aL A _,aL D _,aL E _,aL F _,aL G _,aL I _,EC gR Z _,J.alloc (gl (gk C Z)) _,by simp;omega⟩))
    (first|(go_at_call 101;refine(afP _ _).mono ?_;rintro N w2 ⟨rfl,rfl⟩)|(go_at_call 100;refine(aa8 _ _ 9 9 fC (numsL ⟨a,b,c,d,e,f,g,h,i⟩) (by decide) (by decide) (by simp[numsL]) _ ?_ ?_).mono ?_;have gS:=‹World.cell? _ _=_/\_/\_/\_/\_/\_/\_/\_/\_/\_/\Below _ _ _/\_<_›;exact gS.2.2.2.2.2.2.2.2.2.1.more (Nat.succ_le_of_lt gS.2.2.2.2.2.2.2.2.2.2.2);exact W;rintro N w2 ⟨rfl,l⟩;rw[Ad]))
   go_wp2
   go_ret2
   obtain⟨_,_,_,_,_,_,_,_,_,_,fB,_⟩:=‹World.cell? w2 _=_/\_/\_/\_/\_/\_/\_/\_/\_/\_/\Below _ _ _/\_<_›;exact⟨by rw[u.out,Ad];rfl,fB⟩
  |false=>
   have u:=Lib.hid (show encS ⟨a,b,c,d,e,f,g,h,i⟩=none by unfold encS;rw[tz (.inr (by rw[<-H.out];exact of_decide_eq_false K))]);clear K s n;go_wp2
   go_ret2
   exact⟨by rw[u.out];rfl,Q⟩
