/- Laws of the proof, joined. No condition of its own. -/
import Derived.Below
import Derived.Orders
import Derived.Laws.IdiomCopy
import Derived.Test.YteaflphddciglaaGreatDoorCaA
set_option linter.all false
def bd:=@Go.Result.andThen_ok
def b9:=@Option.some.inj
def cd:=@Go.Sem.run_bind
def cj:=@Array.getElem?_eq_getElem
def cq:=@Option.some.injEq
def cr:=@Go.Sem.run_pure
def cy:=@Go.RowKit.Below.heap_setCell
def cF:=@Go.run_underlying
def cG:=@List.getElem?_map
def cJ:=@Nat.eq_of_beq_eq_true
def cM:=@Go.World.cell?_of_block
def cQ:=@Array.getElem?_push
def ey:=@Nat.le_of_ble_eq_true
def ff:=@List.mem_iff_getElem
def fX:=@Go.World.frozen?_alloc_new
def gj:=@Go.World.cell?_setCells_out
def gw:=@Go.Addr.add_lit
def gC:=@List.getElem?_take
def gO:=@Go.World.cell?_setCells_in
def iT:=@List.getElem?_toArray
def jj:=@if_false
def js:=@Go.World.size_setCell
def ju:=@Nat.beq_refl
def jz:=@List.getElem?_cons_zero
def jN:=@Array.all_eq_true
def j9:=@Go.World.frozen?_setCells
def mu:=@Nat.ne_of_lt
def m8:=@Nat.lt_irrefl
def nh:=@Go.World.frozen?_of_block
def ot:=@List.getElem?_range
def pw:=@Go.MapKept.run_getObj_map
def pN:=@cond_true
def qq:=@Nat.add_zero
namespace Go.Sx
open Go Go.RowKit
structure M(α:Type):Type 1 where
 run:(R:Type)->R->(α->R)->R
 ok:∀(R:Type) (b:R) (K:α->R),run R b K=(run (Option α) none some).elim b K
namespace M
variable{α β:Type}
def get(m:M α):Option α:=m.run (Option α) none some
def ret(a:α):M α:=⟨λ_ _ K=>K a,λ_ _ _=>rfl⟩
def bad:M α:=⟨λ_ b _=>b,λ_ _ _=>rfl⟩
def bind(m:M α)(f:α->M β):M β:=
 ⟨λR b K=>m.run R b λa=>(f a).run R b K,λR b K=>by
  rw[m.ok R,m.ok (Option β)];cases m.run (Option α) none some with
  |none=>rfl
  |some a=>exact(f a).ok R b K⟩
def br(c:Bool)(x y:M α):M α:=
 ⟨λR b K=>cond c (x.run R b K) (y.run R b K),λR b K=>by
  cases c
  .exact y.ok R b K
  .exact x.ok R b K⟩
theorem run_eq(m:M α)(R)(b)(K):m.run R b K=m.get.elim b K:=m.ok R b K
@[simp] theorem ah (a:α):(ret a).get=some a:=rfl
@[simp] theorem alG:(bad:M α).get=none:=rfl
theorem get_bind(m:M α)(f:α->M β):(m.bind f).get=m.get.bind λa=>(f a).get:=by
 show m.run (Option β) none (λa=>(f a).get)=_;rw[run_eq];cases m.get<;>rfl
theorem ay{m:M α}{f:α->M β}{b}(h:(m.bind f).get=some b):∃a,m.get=some a/\(f a).get=some b:=by
 rw[get_bind]at h;cases hm:m.get with
 |none=>grind
 |some a=>grind
@[simp] theorem fe (c) (x y:M α):(br c x y).get=if c=true then x.get else y.get:=by cases c<;>rfl
theorem af{c}{x y:M α}{a}(h:(br c x y).get=some a):(c=true/\x.get=some a)\/(c=false/\y.get=some a):=by
 cases c
 .simp_all
 simp_all
def ofOption(o:Option α):M α:=match o with|some a=>ret a|none=>bad
@[simp] theorem ahM (o:Option α):(ofOption o).get=o:=by cases o<;>rfl
end M
inductive Gw where
 |int (k:IntKind) (n:Int)
 |bool (b:Bool)
def Gw.val:Gw->Value
 | .int k n=>.int k n
 | .bool b=>.bool b
inductive Kd where
 |it (k:IntKind)
 |bo
structure Rows where
 ks:List Kd
 gi:Nat->Nat->Int
 gb:Nat->Nat->Bool
def Rows.at(R:Rows)(i j:Nat):Gw:=
 match R.ks.getD j .bo with
 | .it k=>.int k (R.gi i j)
 | .bo=>.bool (R.gb i j)
def KN:Value->Kd
 | .int k _=>.it k
 |_=>.bo
def uC:Value->Int
 | .int _ n=>n
 |_=>0
def vR:Value->Bool
 | .bool b=>b
 |_=>false
def oV:Value->Bool
 | .int _ _| .bool _=>true
 |_=>false
def abG:Kd->Kd->Bool
 | .it k,.it k'=>decide (k=k')
 | .bo,.bo=>true
 |_,_=>false
def mh:List Kd->List Kd->Bool
 |[],[]=>true
 |a::r,b::r'=>abG a b&&mh r r'
 |_,_=>false
theorem afp{a b}(h:abG a b=true):a=b:=by
 cases a<;>cases b<;>simp_all[abG]
theorem PU:∀{a b},mh a b=true->a=b
 |[],[],_=>rfl
 |a::r,b::r',h=>by
  simp only[mh,Bool.and_eq_true]at h;rw[afp h.1,PU h.2]
 |[],_::_,h=>by cases h
 |_::_,[],h=>by cases h
def rowOf(x:List Value):Rows:=⟨x.map KN,λ_ j=>uC (x.getD j undef),λ_ j=>vR (x.getD j undef)⟩
def eY(m:Nat)(x:List Value)(R:Rows):Rows:=⟨R.ks,λi j=>cond (Nat.beq i m) (uC (x.getD j undef)) (R.gi i j),λi j=>cond (Nat.beq i m) (vR (x.getD j undef)) (R.gb i j)⟩
theorem G8{x:List Value}{j}(hj:j<x.length)(h:oV (x.getD j undef)=true)(gi)(gb)(hi:gi=uC (x.getD j undef))(hb:gb=vR (x.getD j undef)):
  (match(x.map KN).getD j .bo with| .it k=>Gw.int k gi| .bo=>.bool gb).val=x.getD j undef:=by
 have e:(x.map KN).getD j .bo=KN (x.getD j undef):=by
  grind
 rw[e,hi,hb];generalize x.getD j undef=v at h;cases v<;>first|rfl|cases h
theorem aaQ{x}{i j}(hj:j<x.length)(h:oV (x.getD j undef)=true):((rowOf x).at i j).val=x.getD j undef:=G8 hj h _ _ rfl rfl
theorem EI{m}{x}{R}{j}(hk:mh R.ks (x.map KN)=true)(hj:j<x.length)(h:oV (x.getD j undef)=true):((eY m x R).at m j).val=x.getD j undef:=by
 unfold eY Rows.at;simp only[ju,pN];rw[PU hk];exact G8 hj h _ _ rfl rfl
theorem EH{m}{x}{R}{i j}(h:i≠m):(eY m x R).at i j=R.at i j:=by
 unfold eY Rows.at;grind [Nat.eq_of_beq_eq_true]
inductive ag where
 |cells (own wr:Bool) (c:List Value)
 |ints (own wr:Bool) (l:List Int)
 |rows (own wr:Bool) (wd n:Nat) (get:Rows)
 |jK (own wr:Bool) (l:List (Int×Value))
 |win (own wr:Bool) (rest:Nat->Option Value) (c:List Value)
 |abs (wr:Bool) (a:wZ)
 |dead
def ag.uW:ag->ag
 | .cells o _ c=>.cells o false c
 | .ints o _ l=>.ints o false l
 | .rows o _ wd n g=>.rows o false wd n g
 | .jK o _ l=>.jK o false l
 | .win o _ r c=>.win o false r c
 | .abs _ a=>.abs false a
 | .dead=>.dead
def ag.owned:ag->Bool
 | .cells o _ _| .ints o _ _| .rows o _ _ _ _| .jK o _ _| .win o _ _ _=>o
 | .abs _ _=>false
 | .dead=>false
def ag.vo:ag->Bool
 | .cells _ w _| .ints _ w _| .rows _ w _ _ _| .jK _ w _| .win _ w _ _=>w
 | .abs w _=>w
 | .dead=>false
def ag.alive:ag->Bool
 | .dead=>false
 |_=>true
def ag.aM:ag->Option (Option wZ)
 | .dead=>none
 | .abs _ a=>some (some a)
 |_=>some none
structure Pl where
 b:Nat
 o:Nat
 wd:Nat
 cap:Nat
inductive VR(σ:Nat->Option Pl):Value->Value->Prop
 |any (v:Value):VR σ undef v
 |skip:VR σ (.chan (some 0)) undef
 |bool (b:Bool):VR σ (.bool b) (.bool b)
 |int (k:IntKind) (n:Int):VR σ (.int k n) (.int k n)
 |string (s:ByteArray):VR σ (.string s) (.string s)
 |wE:VR σ (.pointer none) (.pointer none)
 |ptr {k off:Nat} {p:Pl} (h:σ k=some p):VR σ (.pointer (some ⟨k,off,none⟩)) (.pointer (some ⟨p.b,p.o+off,none⟩))
 |lD {k i j:Nat} {p:Pl} (h:σ k=some p):VR σ (.pointer (some ⟨k,i,some j⟩)) (.pointer (some ⟨p.b,p.o+(i*p.wd+j),none⟩))
 |kM (l c:Nat):VR σ (.slice none l c) (.slice none l c)
 |slice {k off l c:Nat} {p:Pl} (h:σ k=some p):VR σ (.slice (some ⟨k,off,none⟩) l c) (.slice (some ⟨p.b,p.o+off,none⟩) l c)
 |si {k i l c:Nat} {p:Pl} (h:σ k=some p):VR σ (.slice (some ⟨k,i,some 0⟩) l c) (.slice (some ⟨p.b,p.o+i*p.wd,none⟩) l c)
 |vec {k l:Nat} {p:Pl} (h:σ k=some p) (hl:l<=p.cap):VR σ (.slice (some ⟨k,0,some 1⟩) l 0) (.slice (some ⟨p.b,p.o,none⟩) l p.cap)
 |win {k who l c:Nat} {p:Pl} (h:σ k=some p) (ho:p.o=who*p.wd):VR σ (.slice (some ⟨k,who,some 4⟩) l c) (.slice (some ⟨p.b,0,none⟩) l c)
 |word (s:Go.Proofs.YteaflphddciglaaGreatDoor.aa) (F:Go.Proofs.YteaflphddciglaaGreatDoor.Facts s):VR σ (.iface 900 s.val) (.int .i64 (Go.Proofs.YteaflphddciglaaGreatDoor.bH s))
 |zW (B i:Nat):VR σ (.iface 901 (.agg #[.int .i64 (B:Int),.int .i64 (i:Int)])) (.int .i64 ((B:Int)+(i:Int)))
 |empty (a:Addr):VR σ (.slice (some ⟨0,0,some 3⟩) 0 0) (.slice (some a) 0 0)
 |wI:VR σ (.map none) (.map none)
 |Ao {k:Nat} {p:Pl} (h:σ k=some p):VR σ (.map (some k)) (.map (some p.b))
 |nilFunc:VR σ .nilFunc .nilFunc
 |nilIface:VR σ .nilIface .nilIface
 |func (f:FuncId) {a a' c c':Array Value} (ha:a.size=a'.size) (hc:c.size=c'.size)
   (h1:∀(i:Nat) (x y:Value),a[i]?=some x->a'[i]?=some y->VR σ x y) (h2:∀(i:Nat) (x y:Value),c[i]?=some x->c'[i]?=some y->VR σ x y):VR σ (.func (.func f) a c) (.func (.func f) a' c')
 |agg {a a':Array Value} (ha:a.size=a'.size) (h:∀(i:Nat) (x y:Value),a[i]?=some x->a'[i]?=some y->VR σ x y):VR σ (.agg a) (.agg a')
 |tuple {a a':Array Value} (ha:a.size=a'.size) (h:∀(i:Nat) (x y:Value),a[i]?=some x->a'[i]?=some y->VR σ x y):VR σ (.tuple a) (.tuple a')
def Le(σ σ':Nat->Option Pl):Prop:=∀k p,σ k=some p->σ' k=some p
theorem Le.refl(σ):Le σ σ:=λ_ _ h=>h
theorem Le.trans{a b c}(h:Le a b)(h':Le b c):Le a c:=λk p hk=>h' k p (h k p hk)
theorem VR.mono{σ σ':Nat->Option Pl}(hs:Le σ σ'){v v':Value}(h:VR σ v v'):VR σ' v v':=by
 induction h with
 |any v=>exact .any v
 |skip=>exact .skip
 |bool b=>exact .bool b
 |int k n=>exact .int k n
 |string s=>exact .string s
 |wE=>exact .wE
 |ptr h=>exact .ptr (hs _ _ h)
 |lD h=>exact .lD (hs _ _ h)
 |kM l c=>exact .kM l c
 |slice h=>exact .slice (hs _ _ h)
 |si h=>exact .si (hs _ _ h)
 |vec h hl=>exact .vec (hs _ _ h) hl
 |win h ho=>exact .win (hs _ _ h) ho
 |word s F=>exact .word s F
 |zW W i=>exact .zW W i
 |empty a=>exact .empty a
 |wI=>exact .wI
 |Ao h=>exact .Ao (hs _ _ h)
 |nilFunc=>exact .nilFunc
 |nilIface=>exact .nilIface
 |func f ha hc _ _ i1 i2=>exact .func f ha hc i1 i2
 |agg ha _ i1=>exact .agg ha i1
 |tuple ha _ i1=>exact .tuple ha i1
def aN:Value->Bool
 | .bool _| .int _ _| .string _| .pointer none| .slice none _ _| .map none| .nilFunc| .nilIface=>true
 |_=>false
def plain:Value->Bool
 | .agg c=>c.all aN
 | .tuple c=>c.all λ| .agg d=>d.all aN|x=>aN x
 |v=>aN v
theorem VR.aN(σ){v}(h:aN v=true):VR σ v v:=by
 unfold Sx.aN at h;split at h
 .exact .bool _
 .exact .int _ _
 .exact .string _
 .exact .wE
 .exact .kM _ _
 .exact .wI
 .exact .nilFunc
 .exact .nilIface
 .cases h
theorem VR.plain(σ){v}(h:plain v=true):VR σ v v:=by
 have arr:∀c:Array Value,c.all Sx.aN=true->∀(i:Nat) (x y:Value),c[i]?=some x->c[i]?=some y->VR σ x y:=by
  grind [Option.some.inj,VR.aN,Array.all_eq_true,Array.getElem?_eq_some_iff]
 unfold Sx.plain at h;split at h
 .exact .agg rfl (arr _ h)
 .refine .tuple rfl fun i x y hx hy=> ?_
  obtain rfl:x=y:=b9 (hx.symm.trans hy);rw[jN]at h;obtain⟨hi,rfl⟩:=Array.getElem?_eq_some_iff.1 hx;have:=h i hi;split at this
  .rename_i d hd
   rw[hd];exact .agg rfl (arr _ this)
  .exact VR.aN σ this
 .exact VR.aN σ h
theorem VR.aD{σ}{v v'}(h:VR σ v v')(hp:Sx.aN v=true):v'=v:=by
 cases h<;>first|rfl|(simp[Sx.aN,undef]at hp)
def dY(σ:Nat->Option Pl)(a a':Array Value):Prop:=a.size=a'.size/\∀(i:Nat) (x y:Value),a[i]?=some x->a'[i]?=some y->VR σ x y
theorem dY.append{σ}{a a' c c'}(h:dY σ a a')(k:dY σ c c'):dY σ (a++c) (a'++c'):=by
 refine⟨by simp[h.1,k.1],λi x y hx hy=> ?_⟩;rw[Array.getElem?_append]at hx hy;rw[<-h.1]at hy;split at hx
 .rename_i hi
  rw[if_pos hi]at hy;exact h.2 _ _ _ hx hy
 .rename_i hi
  rw[if_neg hi]at hy;exact k.2 _ _ _ hx hy
theorem dY.map{σ}{α:Type}(f g)(a:Array α)(h:∀x∈a,VR σ (f x) (g x)):dY σ (a.map f) (a.map g):=by
 refine⟨by simp,λi x y hx hy=> ?_⟩;grind
theorem dY.get{σ}{a a'}(h:dY σ a a')(i:Nat){x}(hx:a[i]?=some x):∃y,a'[i]?=some y/\VR σ x y:=by
 have hi:i<a'.size:=by rw[<-h.1];grind
 exact⟨a'[i],cj hi,h.2 i x _ hx (cj hi)⟩
structure Kept(X:Nat->Prop)(w w':World):Prop where
 os:w'.os=w.os
 tape:w'.tape=w.tape
 output:w'.output=w.output
 size:w.heap.size<=w'.heap.size
 block:∀k,X k->w'.heap[k]?=w.heap[k]?
theorem Kept.refl(X)(w):Kept X w w:=⟨rfl,rfl,rfl,Nat.le_refl _,λ_ _=>rfl⟩
theorem Kept.trans{X}{a b c}(h:Kept X a b)(k:Kept X b c):Kept X a c:=
 ⟨k.os.trans h.os,k.tape.trans h.tape,k.output.trans h.output,Nat.le_trans h.size k.size,λi hi=>(k.block i hi).trans (h.block i hi)⟩
theorem Kept.mono{X Y}{w w'}(h:Kept X w w')(hB:∀k,Y k->X k):Kept Y w w':=⟨h.os,h.tape,h.output,h.size,λk hk=>h.block k (hB k hk)⟩
theorem Kept.of_below{n}{w w'}(h:Below n w w'):Kept (· <n) w w':=⟨h.os,h.tape,h.output,h.size,h.block⟩
theorem Kept.below{n}{w w'}(h:Kept (· <n) w w'):Below n w w':=⟨h.os,h.tape,h.output,h.size,h.block⟩
theorem Kept.drew{X}{a w}(h:Kept X a w):Kept X a w.drew:=⟨h.os,h.tape,h.output,h.size,h.block⟩
def eB(X:Nat->Prop)(w:World):Prop:=∀k,X k->k<w.heap.size
theorem eB.new{X}{w}(h:eB X w):¬X w.heap.size:=λhx=>m8 _ (h _ hx)
theorem Kept.alloc{X}{a w}(h:Kept X a w)(hB:eB X w)(o):Kept X a (w.alloc o):=
 h.trans ⟨rfl,rfl,rfl,by simp,λk hk=>Below.heap_alloc _ _ _ (hB k hk)⟩
theorem Kept.setCell{X}{a w}(h:Kept X a w){p}(hp:¬X p.block)(u):Kept X a (w.setCell p u):=
 h.trans ⟨rfl,rfl,rfl,by simp[World.setCell],λk hk=>cy _ _ _ _ (λe=>hp (e▸hk))⟩
def BR(n:Nat->Prop)(σ:Nat->Option Pl)(blk:ag)(p:Pl)(w:World):Prop:=
 (blk.owned=true->¬n p.b/\(∀o,w.frozen? ⟨p.b,o,none⟩=false)/\∀j,j<p.cap*p.wd->(w.cell? ⟨p.b,p.o+j,none⟩).isSome=true)/\
 match blk with
 | .cells _ _ c=>∀(i:Nat) (v:Value),c[i]?=some v->∃v',w.cell? ⟨p.b,p.o+i,none⟩=some v'/\VR σ v v'
 | .ints _ _ l=>p.wd=1/\∀(i:Nat) (x:Int),l[i]?=some x->w.cell? ⟨p.b,p.o+i,none⟩=some (.int .i64 x)
 | .rows _ _ wd m g=>p.wd=wd/\∀i j,i<m->j<wd->∃v',w.cell? ⟨p.b,p.o+(i*wd+j),none⟩=some v'/\VR σ (g.at i j).val v'
 | .jK _ _ l=>∃es qX,w.heap[p.b]?=some (.map es qX)/\es.size=l.length/\∀(i:Nat) (k:Int) (v:Value),l[i]?=some (k,v)->∃e,es[i]?=some e/\e.key=.int .i64 k/\VR σ v e.val
 | .win _ _ r c=>p.wd=c.length/\(∀(i:Nat) (v:Value),c[i]?=some v->∃v',w.cell? ⟨p.b,p.o+i,none⟩=some v'/\VR σ v v')/\∀i,i<p.o\/p.o+p.wd<=i->w.cell? ⟨p.b,i,none⟩=r i
 | .abs _ _=>p.o=0
 | .dead=>True
theorem BR.mono{n}{σ σ'}{blk}{p}{w w'}(h:BR n σ blk p w)(hs:Le σ σ')
  (hh:w'.heap[p.b]?=w.heap[p.b]?):BR n σ' blk p w':=by
 have hc:∀o v,w.cell? ⟨p.b,o,none⟩=some v->w'.cell? ⟨p.b,o,none⟩=some v:=λo v hv=>by
  grind [World.cell?_of_block]
 have hf:∀o,w'.frozen? ⟨p.b,o,none⟩=w.frozen? ⟨p.b,o,none⟩:=λo=>nh hh;have room:∀o,(w.cell? ⟨p.b,o,none⟩).isSome=true->(w'.cell? ⟨p.b,o,none⟩).isSome=true:=by
  grind [Option.isSome_iff_exists]
 refine⟨λho=> ?_,?_⟩
 .obtain⟨h1,h2,h3⟩:=h.1 ho
  grind
 .have hb:=h.2
  cases blk with
  |cells ow wr c=>exact λi v hv=>let⟨v',h1,h2⟩:=hb i v hv;⟨v',hc _ _ h1,h2.mono hs⟩
  |ints ow wr l=>exact⟨hb.1,λi x hx=>hc _ _ (hb.2 i x hx)⟩
  |rows ow wr wd m g=>exact⟨hb.1,λi j hi hj=>let⟨v',h1,h2⟩:=hb.2 i j hi hj;⟨v',hc _ _ h1,h2.mono hs⟩⟩
  |jK ow wr l=>
   obtain⟨es,qX,h1,h2,h3⟩:=hb;exact⟨es,qX,hh.trans h1,h2,λi k v hv=>let⟨e,e1,e2,e3⟩:=h3 i k v hv;⟨e,e1,e2,e3.mono hs⟩⟩
  |win ow wr r c=>exact⟨hb.1,λi v hv=>let⟨v',h1,h2⟩:=hb.2.1 i v hv;⟨v',hc _ _ h1,h2.mono hs⟩,λi hi=>by rw[cM hh];exact hb.2.2 i hi⟩
  |abs wr a=>exact hb
  |dead=>trivial
structure Kj where
 J:wZ->(Nat->Prop)->Nat->World->Prop
 st:∀a F b w w',J a F b w->w.heap.size<=w'.heap.size->(∀j,F j->w'.heap[j]?=w.heap[j]?)->J a F b w'
instance:OfNat Kj 0:=⟨⟨λ_ _ _ _=>False,λ_ _ _ _ _ h _ _=>h⟩⟩
def Kj.le(G:Kj)(b:Nat):Prop:=0<=b
def alF(G:Kj)(F:Nat->Nat->Prop)(o:Option (Option wZ))(b:Nat)(w:World):Prop:=
 match o with
 |none=>True
 |some none=>∀j,¬F j b
 |some (some a)=>G.J a (F b) b w
def iB(n:Nat->Prop)(G:Kj)(σ:Nat->Option Pl)(lh:List ag)(w:World):Prop:=
 ∃F:Nat->Nat->Prop,(∀b j,F b j->j<w.heap.size/\¬n j)/\(∀b b' j,F b j->F b' j->b=b')/\
  (∀k p,σ k=some p->alF G F (lh.getD k .dead).aM p.b w)/\
  ∀k k' p p' a a',σ k=some p->σ k'=some p'->(lh.getD k .dead).aM=some (some a)->(lh.getD k' .dead).aM=some (some a')->p.b=p'.b->k=k'
theorem jd{b:ag}(h:b.owned=true):b.aM=some none:=by cases b<;>first|rfl|cases h
theorem Dm{b:ag}:b.alive=true↔b.aM≠none:=by cases b<;>simp[ag.alive,ag.aM]
theorem iB.to{n n':Nat->Prop}{G:Kj}{σ σ':Nat->Option Pl}{lh bV:List ag}{w w':World}(h:iB n G σ lh w)(hs:w.heap.size<=w'.heap.size)
  (hn:∀j,j<w.heap.size->n' j->n j\/∃k p,σ k=some p/\(lh.getD k .dead).aM=some none/\p.b=j)
  (hw:∀j,j<w.heap.size->w'.heap[j]?=w.heap[j]?\/∃k p,σ k=some p/\(lh.getD k .dead).aM=some none/\p.b=j)
  (he:∀k p,σ' k=some p->(bV.getD k .dead).aM=none\/(∃k0 p0,σ k0=some p0/\p0.b=p.b/\(lh.getD k0 .dead).aM=(bV.getD k .dead).aM/\∀k' p' a a',σ' k'=some p'->p'.b=p.b->(bV.getD k .dead).aM=some (some a)->(bV.getD k' .dead).aM=some (some a')->k'=k)\/(w.heap.size<=p.b/\(bV.getD k .dead).aM=some none)):iB n' G σ' bV w':=by
 obtain⟨F,h1,h2,h3,h4⟩:=h;have hkeep:∀b j,F b j->w'.heap[j]?=w.heap[j]?:=λb j hj=>by
  rcases hw j (h1 b j hj).1 with e|⟨k,p,hk,ha,e⟩
  .exact e
  .have:=h3 k p hk
   rw[ha]at this;exact absurd (e▸hj) (this b)
 refine⟨F,λb j hj=>⟨Nat.lt_of_lt_of_le (h1 b j hj).1 hs,λhn'=> ?_⟩,h2,λk p hk=> ?_,λk k' p p' a a' hk hk' ha ha' e=> ?_⟩
 .rcases hn j (h1 b j hj).1 hn' with hx|⟨k,p,hk,ha,e⟩
  .exact(h1 b j hj).2 hx
  .have:=h3 k p hk
   rw[ha]at this;exact this b (e▸hj)
 .rcases he k p hk with e|⟨k0,p0,hk0,e,ea,_⟩|⟨hp,ea⟩
  .rw[e];trivial
  .have:=h3 k0 p0 hk0
   rw[ea,e]at this;cases hx:(bV.getD k .dead).aM with
   |none=>trivial
   |some o=>
    rw[hx]at this;cases o with
    |none=>exact this
    |some a=>exact G.st a _ _ w w' this hs (λj hj=>hkeep p.b j hj)
  .rw[ea]
   exact λb hb=>absurd (h1 b p.b hb).1 (by omega)
 grind
theorem iB.id{n:Nat->Prop}{G:Kj}{σ σ':Nat->Option Pl}{lh bV:List ag}{w w':World}(h:iB n G σ lh w)(hlt:∀k p,σ k=some p->p.b<w.heap.size)(hs:w.heap.size<=w'.heap.size)
  (hw:∀j,j<w.heap.size->w'.heap[j]?=w.heap[j]?\/∃k p,σ k=some p/\(lh.getD k .dead).aM=some none/\p.b=j)
  (he:∀k p,σ' k=some p->(bV.getD k .dead).aM=none\/(σ k=some p/\(lh.getD k .dead).aM=(bV.getD k .dead).aM)\/((w.heap.size<=p.b\/∃k0 p0,σ k0=some p0/\(lh.getD k0 .dead).aM=some none/\p0.b=p.b)/\(bV.getD k .dead).aM=some none)):iB n G σ' bV w':=by
 obtain⟨F,h1,h2,h3,h4⟩:=h;refine iB.to (lh:=lh) (σ:=σ) ⟨F,h1,h2,h3,h4⟩ hs (λj _ hj=>.inl hj) hw λk p hk=> ?_;rcases he k p hk with e|⟨hk0,ea⟩|e
 .exact .inl e
 .refine .inr (.inl ⟨k,p,hk0,rfl,ea,fun k' p' a a' hk' e ha ha'=> ?_⟩)
  grind
 grind
theorem iB.no{n:Nat->Prop}{G:Kj}{σ:Nat->Option Pl}{lh:List ag}{w:World}(h:∀k p,σ k=some p->(lh.getD k .dead).aM=none\/(lh.getD k .dead).aM=some none):iB n G σ lh w:=by
 refine⟨λ_ _=>False,λ_ _ h=>h.elim,λ_ _ _ h=>h.elim,λk p hk=> ?_,λk k' p p' a a' hk hk' ha _ _=> ?_⟩
 .rcases h k p hk with e|e
  .rw[e];trivial
  .rw[e];exact λ_ h=>h
 grind
theorem iB.pull{n:Nat->Prop}{G:Kj}{σ σ':Nat->Option Pl}{lh bV:List ag}{w:World}(h:iB n G σ lh w)(m:Nat->Nat->Prop)
  (hm:∀k p,σ' k=some p->∃k0,m k k0/\σ k0=some p/\((bV.getD k .dead).aM=none\/(lh.getD k0 .dead).aM=(bV.getD k .dead).aM)) (hi:∀k k' k0,m k k0->m k' k0->k=k'):iB n G σ' bV w:=by
 obtain⟨F,h1,h2,h3,h4⟩:=h;refine iB.to (lh:=lh) (σ:=σ) ⟨F,h1,h2,h3,h4⟩ (Nat.le_refl _) (λj _ hj=>.inl hj) (λ_ _=>.inl rfl) λk p hk=> ?_;grind
structure HR(n:Nat->Prop)(w0:World)(G:Kj)(σ:Nat->Option Pl)(lh:List ag)(w:World):Prop where
 hn:eB n w0
 below:Kept n w0 w
 ab:iB n G σ lh w
 dom:∀k p,σ k=some p->k<lh.length
 lt:∀k p,σ k=some p->p.b<w.heap.size
 inj:∀k k' p p',σ k=some p->σ k'=some p'->(lh.getD k .dead).owned=true->(lh.getD k' .dead).alive=true->p.b=p'.b->k=k'
 blk:∀k p,σ k=some p->BR n σ (lh.getD k .dead) p w
def upd(σ:Nat->Option Pl)(k:Nat)(p:Pl):Nat->Option Pl:=λi=>if i=k then some p else σ i
theorem upd_same(σ)(k)(p):upd σ k p k=some p:=by simp[upd]
theorem dF(σ){k i}(p)(h:i≠k):upd σ k p i=σ i:=by simp[upd,h]
section
variable{n:Nat->Prop} {w0:World} {G:Kj} {σ:Nat->Option Pl} {lh:List ag} {w:World}
theorem HR.size(h:HR n w0 G σ lh w):eB n w:=λk hk=>Nat.lt_of_lt_of_le (h.hn k hk) h.below.size
theorem HR.wK(h:HR n w0 G σ lh w)(p):Le σ (upd σ lh.length p):=λk q hk=>by
 rw[dF _ _ (mu (h.dom k q hk))];exact hk
theorem bY(lh:List ag)(blk:ag)(k:Nat)(hk:k<lh.length):(lh++[blk]).getD k .dead=lh.getD k .dead:=by
 grind
theorem iQ(lh:List ag)(blk):(lh++[blk]).getD lh.length .dead=blk:=by simp
theorem dA(lh:List ag)(blk)(k)(hk:k<lh.length):(lh.set k blk).getD k .dead=blk:=by simp[hk]
theorem aX(lh:List ag)(blk:ag){k i:Nat}(h:i≠k):(lh.set k blk).getD i .dead=lh.getD i .dead:=by
 grind
theorem HR.extend(h:HR n w0 G σ lh w)(N):HR n w0 G σ (lh++N) w:=by
 have hg:∀k q,σ k=some q->(lh++N).getD k .dead=lh.getD k .dead:=λk q hk=>by
  simp[List.getElem?_append_left (h.dom k q hk)]
 refine⟨h.hn,h.below,h.ab.id h.lt (Nat.le_refl _) (λ_ _=>.inl rfl) (λk p hk=>.inr (.inl ⟨hk,by rw[hg k p hk]⟩)),λk q hk=>by have:=h.dom k q hk;simp;omega,h.lt,λk k' q q' hk hk' ho ha hbb=> ?_,λk q hk=> ?_⟩
 .rw[hg k q hk]at ho
  rw[hg k' q' hk']at ha;exact h.inj k k' q q' hk hk' ho ha hbb
 .rw[hg k q hk];exact h.blk k q hk
theorem tK{a:Nat}(ha:σ a=none)(p:Pl):Le σ (upd σ a p):=λk q hk=>by
 grind [dF]
theorem HR.fill(h:HR n w0 G σ lh w){a}(ha:a<lh.length)(hna:σ a=none)(p)(o)(hp:p.b=w.heap.size)(hb:BR n (upd σ a p) (lh.getD a .dead) p (w.alloc o))(sH:(lh.getD a .dead).aM=some none:=by first|rfl|assumption):
  HR n w0 G (upd σ a p) lh (w.alloc o):=by
 have hle:=tK hna p;refine⟨h.hn,h.below.alloc h.size o,h.ab.id h.lt (by simp) (λj hj=>.inl (Below.heap_alloc _ _ _ hj)) (λk q hk=> ?_),λk q hk=> ?_,λk q hk=> ?_,λk k' q q' hk hk' ho nQ hbb=> ?_,λk q hk=> ?_⟩
 .by_cases e:k=a
  .subst e
   rw[upd_same]at hk;cases hk;exact .inr (.inr ⟨.inl (by omega),sH⟩)
  .rw[dF _ _ e]at hk
   exact .inr (.inl ⟨hk,rfl⟩)
 .by_cases e:k=a
  .subst e;exact ha
  .rw[dF _ _ e]at hk
   exact h.dom k q hk
 .by_cases e:k=a
  .subst e
   rw[upd_same]at hk;cases hk;simp[hp]
  .rw[dF _ _ e]at hk
   have:=h.lt k q hk;simp;omega
 .by_cases e:k=a
  .by_cases e':k'=a
   .rw[e,e']
   .rw[e,upd_same]at hk;cases hk
    rw[dF _ _ e']at hk';have:=h.lt k' q' hk';omega
  .rw[dF _ _ e]at hk
   by_cases e':k'=a
   .rw[e',upd_same]at hk';cases hk'
    have:=h.lt k q hk;omega
   .rw[dF _ _ e']at hk'
    exact h.inj k k' q q' hk hk' ho nQ hbb
 .by_cases e:k=a
  .subst e
   rw[upd_same]at hk;cases hk;exact hb
  .rw[dF _ _ e]at hk
   have hl:=h.lt k q hk;exact(h.blk k q hk).mono hle (Below.heap_alloc _ _ _ hl)
theorem HR.abb(h:HR n w0 G σ lh w):σ lh.length=none:=by
 cases e:σ lh.length with
 |none=>rfl
 |some p=>exact absurd (h.dom _ _ e) (by omega)
theorem HR.new(h:HR n w0 G σ lh w)(blk)(p)(o)(hp:p.b=w.heap.size)(hb:BR n (upd σ lh.length p) blk p (w.alloc o))(sH:blk.aM=some none:=by first|rfl|assumption):
  HR n w0 G (upd σ lh.length p) (lh++[blk]) (w.alloc o):=
 (h.extend [blk]).fill (by simp) h.abb p o hp (by rw[iQ];exact hb) (by rw[iQ];exact sH)
theorem BR.FO(hn:eB n w){c:List Value}{c':Array Value}(t:TypeId)(hs:c.length=c'.size)(hc:∀(i:Nat) (x y:Value),c[i]?=some x->c'[i]?=some y->VR σ x y):
  BR n σ (.cells true true c) ⟨w.heap.size,0,0,0⟩ (w.alloc (.cells c' t)):=by
 refine⟨λ_=>⟨hn.new,λo=>fX _ _ _ _,λj hj=>by simp at hj⟩,λi v hv=> ?_⟩;have hi:i<c'.size:=by grind
 refine⟨c'[i],?_,hc i v _ hv (cj hi)⟩;simp_all
theorem BR.Tv(hn:eB n w)(l:List Int)(t:TypeId){c':Array Value}(hc:∀(i:Nat) (x:Int),l[i]?=some x->c'[i]?=some (.int .i64 x)):
  BR n σ (.ints true true l) ⟨w.heap.size,0,1,c'.size⟩ (w.alloc (.cells c' t)):=by
 refine⟨λ_=>⟨hn.new,λo=>fX _ _ _ _,λj hj=> ?_⟩,rfl,λi v hv=> ?_⟩
 .simp_all
 simp_all
theorem HR.drew(h:HR n w0 G σ lh w):HR n w0 G σ lh w.drew:=
 ⟨h.hn,h.below.drew,h.ab.id h.lt (Nat.le_refl _) (λ_ _=>.inl rfl) (λk p hk=>.inr (.inl ⟨hk,rfl⟩)),h.dom,h.lt,h.inj,λk p hk=>(h.blk k p hk).mono (Le.refl _) rfl⟩
theorem HR.kept(h:HR n w0 G σ lh w){w'}(hb:Below w.heap.size w w'):HR n w0 G σ lh w':=by
 refine⟨h.hn,h.below.trans ((Kept.of_below hb).mono h.size),h.ab.id h.lt hb.size (λj hj=>.inl (hb.block j hj)) (λk p hk=>.inr (.inl ⟨hk,rfl⟩)),h.dom,λk p hk=>Nat.lt_of_lt_of_le (h.lt k p hk) hb.size,h.inj,λk p hk=> ?_⟩;have hl:=h.lt k p hk;exact(h.blk k p hk).mono (Le.refl _) (hb.block p.b hl)
theorem HR.re(h:HR n w0 G σ lh w){k}{p}(hk:σ k=some p)(blk)(ho:blk.owned=true->(lh.getD k .dead).owned=true)(ha:blk.alive=true->(lh.getD k .dead).alive=true)(hb:BR n σ blk p w)(sH:blk.aM=none\/(lh.getD k .dead).aM=blk.aM:=by first|exact .inl rfl|exact .inr rfl|assumption):
  HR n w0 G σ (lh.set k blk) w:=by
 have hkl:=h.dom k p hk;refine⟨h.hn,h.below,h.ab.id h.lt (Nat.le_refl _) (λ_ _=>.inl rfl) (λi q hi=> ?_),λi q hi=>by simpa using h.dom i q hi,h.lt,λi i' q q' hi hi' oF nQ hbb=> ?_,λi q hi=> ?_⟩
 .by_cases e:i=k
  .subst e
   rw[dA _ _ _ hkl];exact sH.imp id λx=>.inl ⟨hi,x⟩
  .rw[aX _ _ e];exact .inr (.inl ⟨hi,rfl⟩)
 .refine h.inj i i' q q' hi hi' ?_ ?_ hbb
  .by_cases e:i=k
   .subst e;rw[dA _ _ _ hkl]at oF;exact ho oF
   .rwa[aX _ _ e]at oF
  .by_cases e:i'=k
   .subst e;rw[dA _ _ _ hkl]at nQ;exact ha nQ
   .rwa[aX _ _ e]at nQ
 .by_cases e:i=k
  .subst e
   rw[hk]at hi;cases hi;rw[dA _ _ _ hkl];exact hb
  .rw[aX _ _ e];exact h.blk i q hi
theorem heap_setCells_other{b k}:∀(vs) (o) (w:World),k≠b->(w.setCells b o vs).heap[k]?=w.heap[k]?
 |[],_,_,_=>rfl
 |v::r,o,w,h=>by
  rw[World.setCells,heap_setCells_other r _ _ h];exact cy _ _ _ _ h
theorem HR.stores(h:HR n w0 G σ lh w){k}{p}(hk:σ k=some p)(ho:(lh.getD k .dead).owned=true)(o)(vs)(blk)(oF:blk.owned=true->(lh.getD k .dead).owned=true)(hb:BR n σ blk p (w.setCells p.b o vs))(sH:blk.aM=none\/blk.aM=some none:=by first|exact .inl rfl|exact .inr rfl|assumption):
  HR n w0 G σ (lh.set k blk) (w.setCells p.b o vs):=by
 have hkl:=h.dom k p hk;have hal:(lh.getD k .dead).alive=true:=by
  cases hx:lh.getD k .dead with
  |dead=>rw[hx]at ho;cases ho
  |_=>rfl
 obtain⟨hnb,hfz,_⟩:=(h.blk k p hk).1 ho;have hsz:∀(vs:List Value) (o:Nat) (w:World),(w.setCells p.b o vs).heap.size=w.heap.size:=by
  intro vs;induction vs with
  |nil=>intro o w;rfl
  |cons v r ih=>intro o w;rw[World.setCells,ih,js]
 have hbel:∀(vs:List Value) (o:Nat) (w:World),Kept n w0 w->Kept n w0 (w.setCells p.b o vs):=by
  intro vs;induction vs with
  |nil=>intro o w hw;exact hw
  |cons v r ih=>intro o w hw;rw[World.setCells];exact ih _ _ (hw.setCell hnb v)
 have hoth:∀i q,σ i=some q->i≠k->(lh.getD i .dead).alive=true->BR n σ (lh.getD i .dead) q (w.setCells p.b o vs):=by
  intro i q hi hne abT;have hne':q.b≠p.b:=λe=>hne (h.inj k i p q hk hi ho abT e.symm).symm;exact(h.blk i q hi).mono (Le.refl _) (heap_setCells_other vs o w hne')
 refine⟨h.hn,hbel vs o w h.below,h.ab.id h.lt (by rw[hsz];exact Nat.le_refl _) (λj _=> ?_) (λi q hi=> ?_),λi q hi=>by simpa using h.dom i q hi,λi q hi=>by rw[hsz];exact h.lt i q hi,λi i' q q' hi hi' abM nQ hbb=> ?_,λi q hi=> ?_⟩
 .by_cases e:j=p.b
  .exact .inr ⟨k,p,hk,jd ho,e.symm⟩
  .exact .inl (heap_setCells_other vs o w e)
 .by_cases e:i=k
  .subst e
   rw[dA _ _ _ hkl];exact sH.imp id λx=>.inl ⟨hi,by rw[x];exact jd ho⟩
  .rw[aX _ _ e];exact .inr (.inl ⟨hi,rfl⟩)
 .refine h.inj i i' q q' hi hi' ?_ ?_ hbb
  .by_cases e:i=k
   .subst e;exact ho
   .rwa[aX _ _ e]at abM
  .by_cases e:i'=k
   .subst e;exact hal
   .rwa[aX _ _ e]at nQ
 .by_cases e:i=k
  .subst e
   rw[hk]at hi;cases hi;rw[dA _ _ _ hkl];exact hb
  .rw[aX _ _ e]
   cases hx:lh.getD i .dead with
   |dead=>exact⟨λe=>(by cases e),trivial⟩
   |_=>rw[<-hx];exact hoth i q hi e (by rw[hx];rfl)
theorem HR.agm(h:HR n w0 G σ lh w){k}{p}(hk:σ k=some p)(ho:(lh.getD k .dead).owned=true){es}{qX}(hm:w.heap[p.b]?=some (.map es qX))(o)(blk)(oF:blk.owned=true->(lh.getD k .dead).owned=true)(hb:BR n σ blk p {w with heap:=w.heap.setIfInBounds p.b o})(sH:blk.aM=none\/blk.aM=some none:=by first|exact .inl rfl|exact .inr rfl|assumption):
  HR n w0 G σ (lh.set k blk) {w with heap:=w.heap.setIfInBounds p.b o}:=by
 have hkl:=h.dom k p hk;have hal:(lh.getD k .dead).alive=true:=by
  cases hx:lh.getD k .dead with
  |dead=>rw[hx]at ho;cases ho
  |_=>rfl
 obtain⟨hnb,_,_⟩:=(h.blk k p hk).1 ho;have hne:∀j,j≠p.b->({w with heap:=w.heap.setIfInBounds p.b o}:World).heap[j]?=w.heap[j]?:=λj hj=>by
  show(w.heap.setIfInBounds p.b o)[j]?=_;rw[Array.getElem?_setIfInBounds_ne (Ne.symm hj)]
 have hbel:Kept n w0 {w with heap:=w.heap.setIfInBounds p.b o}:=h.below.trans ⟨rfl,rfl,rfl,by simp,λj hj=>hne j λe=>hnb (e▸hj)⟩;have hoth:∀i q,σ i=some q->i≠k->(lh.getD i .dead).alive=true->BR n σ (lh.getD i .dead) q {w with heap:=w.heap.setIfInBounds p.b o}:=by
  intro i q hi hik abT;exact(h.blk i q hi).mono (Le.refl _) (hne q.b λe=>hik (h.inj k i p q hk hi ho abT e.symm).symm)
 refine⟨h.hn,hbel,h.ab.id h.lt (by simp) (λj _=> ?_) (λi q hi=> ?_),λi q hi=>by simpa using h.dom i q hi,λi q hi=>by simpa using h.lt i q hi,λi i' q q' hi hi' abM nQ hbb=> ?_,λi q hi=> ?_⟩
 .by_cases e:j=p.b
  .exact .inr ⟨k,p,hk,jd ho,e.symm⟩
  .exact .inl (hne j e)
 .by_cases e:i=k
  .subst e
   rw[dA _ _ _ hkl];exact sH.imp id λx=>.inl ⟨hi,by rw[x];exact jd ho⟩
  .rw[aX _ _ e];exact .inr (.inl ⟨hi,rfl⟩)
 .refine h.inj i i' q q' hi hi' ?_ ?_ hbb
  .by_cases e:i=k
   .subst e;exact ho
   .rwa[aX _ _ e]at abM
  .by_cases e:i'=k
   .subst e;exact hal
   .rwa[aX _ _ e]at nQ
 .by_cases e:i=k
  .subst e
   rw[hk]at hi;cases hi;rw[dA _ _ _ hkl];exact hb
  .rw[aX _ _ e]
   cases hx:lh.getD i .dead with
   |dead=>exact⟨λe=>(by cases e),trivial⟩
   |_=>rw[<-hx];exact hoth i q hi e (by rw[hx];rfl)
end
structure St where
 tmps:List Value
 lh:List ag
structure Env where
 P:Program
 G:Kj
 fns:List (FuncId×Func)
 eqs:List (TypeId×List Bool)
 LU:FuncId->Option (List Value->List ag->M (Value×List ag))
 qQ:FuncId->Nat->Option (Nat->St->M (Exit×St)):=λ_ _=>none
def qx(G:Kj)(tm:List Value):Operand->Value
 | .tmp t=>tm.getD t undef
 | .const v=>cond (plain v) v undef
 | .global g=>undef
 | .func f=>.func (.func f) #[] #[]
def uB:Value->Bool
 | .agg _| .tuple _| .chan _=>false
 |_=>true
def cellsOf:Value->Option (List Value)
 | .agg c=>cond (c.all uB) (some c.toList) none
 | .tuple _=>none
 | .chan _=>none
 |v=>some [v]
def qB(P:Program)(t:TypeId):Option (Option Nat):=
 match P.underlying t with
 |none=>none
 |some (.struct _)=>(P.info? t).map λi=>some i.size
 |some (.array _ _)=>(P.info? t).map λi=>some i.size
 |some _=>some none
def vK(P:Program)(t:TypeId)(a:Value)(lh:List ag):M Value:=
 match qB P t,a with
 |some none,.pointer (some ⟨k,off,none⟩)=>
  match lh.getD k .dead with
  | .cells _ _ c=>.ofOption c[off]?
  | .win _ _ _ c=>.ofOption c[off]?
  | .ints _ _ l=>.br (Nat.blt off l.length) (.ret (.int .i64 (l.getD off 0))) .bad
  |_=>.bad
 |some none,.pointer (some ⟨k,i,some j⟩)=>
  match lh.getD k .dead with
  | .rows _ _ wd m g=>.br (Nat.blt i m) (.br (Nat.blt j wd) (.ret (g.at i j).val) .bad) .bad
  |_=>.bad
 |some (some n),.pointer (some ⟨k,off,none⟩)=>
  match lh.getD k .dead with
  | .cells _ _ c=>.br (Nat.ble (off+n) c.length) (.ret (.agg ((c.drop off).take n).toArray)) .bad
  | .win _ _ _ c=>.br (Nat.ble (off+n) c.length) (.ret (.agg ((c.drop off).take n).toArray)) .bad
  |_=>.bad
 |some (some n),.pointer (some ⟨k,i,some j⟩)=>
  match lh.getD k .dead with
  | .rows _ _ wd m g=>.br (Nat.blt i m) (.br (Nat.ble (j+n) wd) (.ret (.agg ((List.range n).map λq=>(g.at i (j+q)).val).toArray)) .bad) .bad
  |_=>.bad
 |_,_=>.bad
def BP(P:Program)(t:TypeId)(a x:Value)(lh:List ag):M (List ag):=
 match P.info? t,cellsOf x,a with
 |some i,some xs,.pointer (some ⟨k,off,none⟩)=>
  match lh.getD k .dead with
  | .cells true true c=>.br (Nat.beq xs.length i.size) (.br (Nat.ble (off+xs.length) c.length) (.ret (lh.set k (.cells true true (c.take off++xs++c.drop (off+xs.length))))) .bad) .bad
  | .win true true r c=>.br (Nat.beq xs.length i.size) (.br (Nat.ble (off+xs.length) c.length) (.ret (lh.set k (.win true true r (c.take off++xs++c.drop (off+xs.length))))) .bad) .bad
  | .ints true true l=>
   match xs with
   |[.int .i64 v]=>.br (Nat.beq 1 i.size) (.br (Nat.blt off l.length) (.ret (lh.set k (.ints true true (l.set off v)))) .bad) .bad
   |_=>.bad
  |_=>.bad
 |_,_,_=>.bad
def Wz(x:Value):M ((Nat->Value)×ag):=
 match cellsOf x with
 |some xs=>.ret (λa=>.pointer (some ⟨a,0,none⟩),.cells true true xs)
 |none=>.bad
def zeroOf(P:Program)(t:TypeId):Option Value:=
 match(P.info? t).bind (·.zero)with
 |some z=>cond (plain z) (some z) none
 |none=>none
def QW(P:Program)(t:TypeId):M ((Nat->Value)×ag):=
 match zeroOf P t with
 |some z=>Wz z
 |none=>.bad
def allKnown(vs:List Value):Bool:=vs.all λv=>(cellsOf v).isSome
def places(P:Program)(fs:List Field):Option (List (Nat×Nat)):=
 match fs with
 |[]=>some []
 |f::r=>match P.info? f.type,places P r with
  |some i,some ps=>some ((f.offset,i.size)::ps)
  |_,_=>none
def QM(P:Program)(t:TypeId)(parts:Array (Nat×Value)):M Value:=
 match zeroOf P t,P.underlying t with
 |some z,some (.struct fs)=>
  match places P fs.toList,allKnown (parts.toList.map (·.2))with
  |some ps,true=>
   match Instr.fill (λi=>ps[i]?) z.cells parts.toList with
   |some cs=>.ret (.agg cs)
   |none=>.bad
  |_,_=>.bad
 |some z,some (.array _ e)=>
  match P.info? e,allKnown (parts.toList.map (·.2))with
  |some i,true=>
   match Instr.fill (λk=>some (k*i.size,i.size)) z.cells parts.toList with
   |some cs=>.ret (.agg cs)
   |none=>.bad
  |_,_=>.bad
 |_,_=>.bad
def yG(P:Program)(t:TypeId)(len:Nat)(parts:Array (Nat×Value)):M ((Nat->Value)×ag):=
 match P.underlying t with
 |some (.slice e)=>
  match P.info? e,zeroOf P e,allKnown (parts.toList.map (·.2))with
  |some i,some z,true=>
   match Nat.ble (len*i.size) 16777216,Instr.fill (λk=>some (k*i.size,i.size)) ((Array.range (len*i.size)).map (λj=>z.cells[j%z.cells.size]!)) parts.toList with
   |true,some cs=>.ret (λa=>.slice (some ⟨a,0,none⟩) len len,.cells true true cs.toList)
   |_,_=>.bad
  |_,_,_=>.bad
 |_=>.bad
def AQ(P:Program)(s:TypeId)(x:Value)(f:Nat):M Value:=
 match P.underlying s with
 |some (.struct fs)=>
  match fs[f]? with
  |some fd=>
   match P.info? fd.type with
   |some i=>
    match Nat.beq i.size 0,x with
    |false,.pointer (some ⟨k,off,none⟩)=>.ret (.pointer (some ⟨k,off+fd.offset,none⟩))
    |false,.pointer (some ⟨k,r,some j⟩)=>.ret (.pointer (some ⟨k,r,some (j+fd.offset)⟩))
    |_,_=>.bad
   |none=>.bad
  |none=>.bad
 |_=>.bad
def NH(P:Program)(t:TypeId)(cs:Array Value)(off:Nat):M Value:=
 match qB P t with
 |some none=>.ofOption cs[off]?
 |some (some n)=>.ret (.agg (cs.extract off (off+n)))
 |none=>.bad
def PX{α:Type}(i:Int):Nat->(Nat->M α)->M α
 |0,_=>.bad
 |n+1,f=>.br (decide (i=(n:Int))) (f n) (PX i n f)
def gu(i:Int)(n:Nat):Bool:=decide (0<=i)&&decide (i<(n:Int))
def oh(P:Program)(t:TypeId)(x ix:Value)(lh:List ag):M Value:=
 match ix with
 | .int _ i=>
  match P.underlying t,x with
  |some (.array len e),.pointer (some ⟨k,off,none⟩)=>
   match P.info? e with
   |some inf=>PX i len λj=>.ret (.pointer (some ⟨k,off+j*inf.size,none⟩))
   |none=>.bad
  |some (.slice e),.slice (some ⟨k,off,none⟩) len _=>
   match P.info? e with
   |some inf=>
    match lh.getD k .dead with
    | .cells _ _ _=>PX i len λj=>.ret (.pointer (some ⟨k,off+j*inf.size,none⟩))
    | .ints _ _ _=>match inf.size with
     |1=>.br (gu i len) (.ret (.pointer (some ⟨k,off+i.toNat,none⟩))) .bad
     |_=>.bad
    |_=>.bad
   |none=>.bad
  |some (.slice e),.slice (some ⟨k,r,some 0⟩) len _=>
   match P.info? e with
   |some inf=>
    match lh.getD k .dead with
    | .rows _ _ wd _ _=>.br (Nat.beq wd inf.size) (.br (gu i len) (.ret (.pointer (some ⟨k,r+i.toNat,some 0⟩))) .bad) .bad
    |_=>.bad
   |none=>.bad
  |some (.slice e),.slice (some ⟨k,who,some 4⟩) len _=>
   match P.info? e with
   |some inf=>
    match lh.getD k .dead with
    | .win _ _ _ c=>.br (Nat.beq c.length inf.size) (.br (gu i len) (.br (decide (i=(who:Int))) (.ret (.pointer (some ⟨k,0,none⟩))) .bad) .bad) .bad
    |_=>.bad
   |none=>.bad
  |some (.slice e),.slice (some ⟨k,0,some 1⟩) len _=>
   match P.info? e with
   |some inf=>
    match lh.getD k .dead with
    | .ints _ _ _=>match inf.size with
     |1=>.br (gu i len) (.ret (.pointer (some ⟨k,i.toNat,none⟩))) .bad
     |_=>.bad
    | .rows _ _ wd _ _=>.br (Nat.beq wd inf.size) (.br (gu i len) (.ret (.pointer (some ⟨k,i.toNat,some 0⟩))) .bad) .bad
    |_=>.bad
   |none=>.bad
  |_,_=>.bad
 |_=>.bad
def PW(P:Program)(t:TypeId)(x ix:Value):M Value:=
 match ix,P.underlying t,x with
 | .int _ i,some (.array len e),.agg cs=>
  match P.info? e with
  |some inf=>PX i len λj=>NH P e cs (j*inf.size)
  |none=>.bad
 |_,_,_=>.bad
def Gi(x:Value)(i:Nat):M Value:=
 match x with
 | .tuple vs=>.ofOption vs[i]?
 |_=>.bad
def fD:List Bool->List Value->List Value->Option Bool
 |[],[],[]=>some true
 |false::p,.int k a::r,.int k' b::r'=>match decide (k=k'),fD p r r' with|true,some e=>some (a==b&&e)|_,_=>none
 |true::p,.bool a::r,.bool b::r'=>match fD p r r' with|some e=>some (a==b&&e)|none=>none
 |_,_,_=>none
def NR(E:Env)(t:TypeId):Option (List Bool):=
 match E.eqs.find? λe=>Nat.beq e.1 t with
 |some e=>some e.2
 |none=>none
def acA(E:Env)(op:BinOp)(t:TypeId)(x y:Value):M Value:=
 match op,x,y with
 | .shl,.int k a,.int _ b=>.br (decide (b<0)) .bad (.ret (.int k (k.wrap (a*2^(min b.toNat k.bits)))))
 | .add,.int k a,.int k' b=>.br (decide (k=k')) (.ret (.int k (k.wrap (a+b)))) .bad
 | .sub,.int k a,.int k' b=>.br (decide (k=k')) (.ret (.int k (k.wrap (a-b)))) .bad
 | .mul,.int k a,.int k' b=>.br (decide (k=k')) (.ret (.int k (k.wrap (a*b)))) .bad
 | .rem,.int k a,.int k' b=>.br (decide (k=k')) (.br (decide (b=0)) .bad (.ret (.int k (a.tmod b)))) .bad
 | .and,.int k a,.int k' b=>.br (decide (k=k')) (.ret (.int k (bits .and k a b))) .bad
 | .or,.int k a,.int k' b=>.br (decide (k=k')) (.ret (.int k (bits .or k a b))) .bad
 | .xor,.int k a,.int k' b=>.br (decide (k=k')) (.ret (.int k (bits .xor k a b))) .bad
 | .andNot,.int k a,.int k' b=>.br (decide (k=k')) (.ret (.int k (bits .andNot k a b))) .bad
 | .eql,.int k a,.int k' b=>.br (decide (k=k')) (.ret (.bool (a==b))) .bad
 | .neq,.int k a,.int k' b=>.br (decide (k=k')) (.ret (.bool (a != b))) .bad
 | .lss,.int k a,.int k' b=>.br (decide (k=k')) (.ret (.bool (decide (a<b)))) .bad
 | .lss,.iface 901 (.agg _),.int .i64 0=>.ret (.bool false)
 | .leq,.int k a,.int k' b=>.br (decide (k=k')) (.ret (.bool (decide (a<=b)))) .bad
 | .gtr,.int k a,.int k' b=>.br (decide (k=k')) (.ret (.bool (decide (a>b)))) .bad
 | .geq,.int k a,.int k' b=>.br (decide (k=k')) (.ret (.bool (decide (a>=b)))) .bad
 | .eql,.bool a,.bool b=>match E.P.underlying t with|some .bool=>.ret (.bool (a==b))|_=>.bad
 | .neq,.bool a,.bool b=>match E.P.underlying t with|some .bool=>.ret (.bool (!(a==b)))|_=>.bad
 | .eql,.pointer a,.pointer none=>match E.P.underlying t with|some (.pointer _)=>.ret (.bool a.isNone)|_=>.bad
 | .neq,.pointer a,.pointer none=>match E.P.underlying t with|some (.pointer _)=>.ret (.bool (!a.isNone))|_=>.bad
 | .eql,.slice a _ _,.slice none 0 0=>match E.P.underlying t with|some (.slice _)=>.ret (.bool a.isNone)|_=>.bad
 | .neq,.slice a _ _,.slice none 0 0=>match E.P.underlying t with|some (.slice _)=>.ret (.bool (!a.isNone))|_=>.bad
 | .eql,.func _ _ _,.nilFunc=>match E.P.underlying t with|some (.func _ _ _)=>.ret (.bool false)|_=>.bad
 | .neq,.func _ _ _,.nilFunc=>match E.P.underlying t with|some (.func _ _ _)=>.ret (.bool true)|_=>.bad
 | .eql,.nilFunc,.nilFunc=>match E.P.underlying t with|some (.func _ _ _)=>.ret (.bool true)|_=>.bad
 | .neq,.nilFunc,.nilFunc=>match E.P.underlying t with|some (.func _ _ _)=>.ret (.bool false)|_=>.bad
 | .eql,.agg xs,.agg ys=>
  match NR E t with
  |some p=>match fD p xs.toList ys.toList with
   |some b=>.ret (.bool b)
   |none=>.bad
  |none=>.bad
 | .neq,.agg xs,.agg ys=>
  match NR E t with
  |some p=>match fD p xs.toList ys.toList with
   |some b=>.ret (.bool (!b))
   |none=>.bad
  |none=>.bad
 |_,_,_=>.bad
def unM(op:UnOp)(x:Value):M Value:=
 match op,x with
 | .not,.bool b=>.ret (.bool (!b))
 |_,_=>.bad
def Gn(P:Program)(src dst:TypeId)(x:Value):M Value:=
 match P.underlying src,P.underlying dst,x with
 |some _,some (.int k),.int _ a=>.ret (.int k (k.wrap a))
 |_,_,_=>.bad
def Cr(x:Value):M Value:=
 match x with
 | .pointer (some a)=>.ret (.pointer (some a))
 | .func (.func f) a c=>.ret (.func (.func f) a c)
 |_=>.bad
def Ve(c a b:Value):M Value:=
 match c with
 | .bool t=>.br t (.ret a) (.ret b)
 |_=>.bad
def Ap(P:Program)(t:TypeId)(ln cp:Value):M ((Nat->Value)×ag):=
 match P.underlying t,ln,cp with
 |some (.slice e),.int .i64 l,.int .i64 c=>
  match P.info? e,zeroOf P e with
  |some i,some (.int .i64 0)=>
   .br (Nat.beq i.size 1&&Nat.beq i.bytes 8) (.br (decide (l=c)) (.br (decide (0<=l)&&decide (l<=1048576))
    (.ret (λa=>.slice (some ⟨a,0,none⟩) l.toNat l.toNat,.ints true true (List.replicate l.toNat 0))) .bad) .bad) .bad
  |some i,some (.bool false)=>
   .br (Nat.beq i.size 1&&Nat.ble i.bytes 8) (.br (decide (l=c)) (.br (decide (0<=l)&&decide (l<=1048576))
    (.ret (λa=>.slice (some ⟨a,0,none⟩) l.toNat l.toNat,.cells true true (List.replicate l.toNat (.bool false)))) .bad) .bad) .bad
  |_,_=>.bad
 |_,_,_=>.bad
def VU(x:Int)(no:M Value)(yes:Value->M Value):List (Int×Value)->M Value
 |[]=>no
 |(k,v)::r=>.br (x==k) (yes v) (VU x no yes r)
def vP(P:Program)(t:TypeId)(m ix:Value)(ok:Bool)(lh:List ag):M Value:=
 match P.underlying t with
 |some (.map kt et)=>
  match P.underlying kt,zeroOf P et,m,ix with
  |some (.int .i64),some z,.map (some b),.int .i64 x=>
   match lh.getD b .dead with
   | .jK _ _ l=>VU x (.ret (cond ok (.tuple #[z,.bool false]) z)) (λv=>.ret (cond ok (.tuple #[v,.bool true]) v)) l
   |_=>.bad
  |_,_,_,_=>.bad
 |_=>.bad
def Qm(x:Int):List (Int×Value)->M Unit
 |[]=>.ret ()
 |(k,_)::r=>.br (x==k) .bad (Qm x r)
def zo(P:Program)(t:TypeId)(m k v:Value)(lh:List ag):M (List ag):=
 match P.underlying t with
 |some (.map kt _)=>
  match P.underlying kt,m,k with
  |some (.int .i64),.map (some b),.int .i64 x=>
   match lh.getD b .dead with
   | .jK true true l=>.bind (Qm x l) λ_=>.ret (lh.set b (.jK true true (l++[(x,v)])))
   |_=>.bad
  |_,_,_=>.bad
 |_=>.bad
def abz(P:Program)(t:TypeId)(x:Value):M Value:=
 match P.underlying t,x with
 |some (.slice _),.slice _ l _=>.ret (.int .i64 (l:Int))
 |some (.array l _),_=>.ret (.int .i64 (l:Int))
 |_,_=>.bad
def Vr(x y:Value):M Value:=
 match x,y with
 | .int k a,.int _ b=>.ret (.int k (if b<a then b else a))
 |_,_=>.bad
def Vu(x y:Value):M Value:=
 match x,y with
 | .int k a,.int _ b=>.ret (.int k (if b>a then b else a))
 |_,_=>.bad
def zC:Value->Option Int
 | .int .i64 a=>some a
 | .iface 900 (.agg a)=>match a.toList with
  |[.int .i64 st,.int .i64 own,.int .i64 str,.bool brk,.bool fO,.int .i64 uses,.int .i64 gen,.int .i64 ep,.int .i64 cz]=>some (Go.Proofs.YteaflphddciglaaGreatDoor.bH ⟨st,own,str,brk,fO,uses,gen,ep,cz⟩)
  |_=>none
 |_=>none
def mU:List Value->Option (List Int)
 |[]=>some []
 |x::r=>match zC x,mU r with|some a,some l=>some (a::l)|_,_=>none
def DD(lh:List ag)(x:Value):M (List Int):=
 match x with
 | .slice none 0 0=>.ret []
 | .slice (some ⟨0,0,some 3⟩) 0 0=>.ret []
 | .slice (some ⟨k,off,none⟩) l _=>
  match lh.getD k .dead with
  | .ints _ _ xs=>.br (Nat.ble (off+l) xs.length) (.ret ((xs.drop off).take l)) .bad
  | .cells _ _ c=>.br (Nat.ble (off+l) c.length) (.ofOption (mU ((c.drop off).take l))) .bad
  |_=>.bad
 | .slice (some ⟨k,0,some 1⟩) l 0=>
  match lh.getD k .dead with
  | .ints _ _ xs=>.br (Nat.ble l xs.length) (.ret (xs.take l)) .bad
  |_=>.bad
 |_=>.bad
def fG(n:Nat):Bool:=Nat.ble n 1073741824
def iJ(k l:Nat):Value:=.slice (some ⟨k,0,some 1⟩) l 0
def rz(s:Value)(xs:List Int)(lh:List ag):M (Value×List ag):=
 match s with
 | .slice none 0 0=>.br (Nat.beq xs.length 0) (.ret (s,lh)) (.br (fG xs.length) (.ret (iJ lh.length xs.length,lh++[.ints true true xs])) .bad)
 | .slice (some ⟨0,0,some 3⟩) 0 0=>.br (Nat.beq xs.length 0) (.ret (s,lh)) (.br (fG xs.length) (.ret (iJ lh.length xs.length,lh++[.ints true true xs])) .bad)
 | .slice (some ⟨k,off,none⟩) l c=>
  .br (Nat.beq l c) (.br (Nat.beq xs.length 0) .bad (.bind (DD lh (.slice (some ⟨k,off,none⟩) l c)) λys=>
   .br (fG (l+xs.length)) (.ret (iJ lh.length (l+xs.length),lh++[.ints true true (ys++xs)])) .bad)) .bad
 | .slice (some ⟨k,0,some 1⟩) l 0=>
  match lh.getD k .dead with
  | .ints true true ys=>.br (Nat.beq l ys.length) (.br (Nat.beq xs.length 0) (.ret (s,lh)) (.br (fG (l+xs.length)) (.ret (iJ lh.length (l+xs.length),lh.set k .dead++[.ints true true (ys++xs)])) .bad)) .bad
  |_=>.bad
 |_=>.bad
def qA(n:Nat)(s:Value)(x:List Value)(lh:List ag):M (Value×List ag):=
 match s with
 | .slice none 0 0=>.ret (iJ lh.length 1,lh++[.rows true true n 1 (rowOf x)])
 | .slice (some ⟨k,0,some 1⟩) l 0=>
  match lh.getD k .dead with
  | .rows true true wd m g=>.br (Nat.beq wd n) (.br (Nat.beq l m) (.br (fG (l+1)&&mh g.ks (x.map KN)) (.ret (iJ lh.length (l+1),lh.set k .dead++[.rows true true n (m+1) (eY m x g)])) .bad) .bad) .bad
  |_=>.bad
 |_=>.bad
def zG(P:Program)(t:TypeId)(xt:TypeId)(s x:Value)(lh:List ag):M (Value×List ag):=
 match P.underlying t,P.underlying xt with
 |some (.slice e),some (.slice _)=>
  match P.info? e,P.underlying e,zeroOf P e with
  |some i,some (.int .i64),some (.int .i64 0)=>.br (Nat.beq i.size 1&&Nat.beq i.bytes 8) (.bind (DD lh x) λxs=>rz s xs lh) .bad
  |some i,some (.struct _),some (.agg z)=>
   match x with
   | .slice (some ⟨k,0,none⟩) 1 1=>
    match lh.getD k .dead with
    | .cells _ _ c=>.br (Nat.beq c.length i.size&&Nat.beq z.size i.size&&Nat.ble 1 i.size&&Nat.ble i.bytes 1024&&c.all oV) (qA i.size s c lh) .bad
    |_=>.bad
   |_=>.bad
  |some i,some .bool,some (.bool z)=>
   match x with
   | .slice (some ⟨k,0,none⟩) 1 1=>
    match lh.getD k .dead with
    | .cells _ _ c=>.br (Nat.beq c.length i.size&&Nat.beq 1 i.size&&Nat.ble 1 i.size&&Nat.ble i.bytes 1024&&c.all oV) (qA i.size s c lh) .bad
    |_=>.bad
   |_=>.bad
  |_,_,_=>.bad
 |_,_=>.bad
def E8(E:Env)(ev:Operand->Value)(lh:List ag)(op:Op):M Value:=
 match op with
 | .move x=>.ret (ev x)
 | .assign x=>.ret (ev x)
 | .pick c a b=>Ve (ev c) (ev a) (ev b)
 | .build t parts=>QM E.P t (parts.map λ(i,x)=>(i,ev x))
 | .load t a=>vK E.P t (ev a) lh
 | .nilCheck x=>Cr (ev x)
 | .binOp o t x y _=>acA E o t (ev x) (ev y)
 | .unOp o _ x=>unM o (ev x)
 | .convert src dst x=>Gn E.P src dst (ev x)
 | .makeFunc (.func f) first captured=>.ret (.func (.func f) (first.map ev) (captured.map ev))
 | .fieldAddr s x f=>AQ E.P s (ev x) f
 | .indexAddr t x ix=>oh E.P t (ev x) (ev ix) lh
 | .index t x ix=>PW E.P t (ev x) (ev ix)
 | .extract t ix=>Gi (ev t) ix
 | .lookup t m ix ok=>vP E.P t (ev m) (ev ix) ok lh
 | .call c=>
  match c.callee,c.args.toList,c.argTypes.toList with
  | .builtin .len,[x],[t]=>abz E.P t (ev x)
  | .builtin .min,[x,y],_=>Vr (ev x) (ev y)
  | .builtin .max,[x,y],_=>Vu (ev x) (ev y)
  |_,_,_=>.bad
 |_=>.bad
def Pm(E:Env)(ev:Operand->Value)(op:Op):M ((Nat->Value)×ag):=
 match op with
 | .alloc t=>QW E.P t
 | .box _ x=>Wz (ev x)
 | .buildSlice t len parts=>yG E.P t len (parts.map λ(i,x)=>(i,ev x))
 | .makeSlice t l c=>Ap E.P t (ev l) (ev c)
 | .makeMap _ none=>.ret (λa=>.map (some a),.jK true true [])
 |_=>.bad
def Ar(E:Env)(bB:FuncId->List Value->List ag->M (Value×List ag))(ev:Operand->Value)(lh:List ag)(op:Op):M (Value×List ag):=
 match op with
 | .store t a x=>.bind (BP E.P t (ev a) (ev x) lh) λbV=>.ret (undef,bV)
 | .insert t m k x=>.bind (zo E.P t (ev m) (ev k) (ev x) lh) λbV=>.ret (undef,bV)
 | .call c=>
  match c.callee with
  | .value f=>
   match ev f with
   | .func (.func g) a cp=>bB g (a.toList++c.args.toList.map ev++cp.toList) lh
   |_=>.bad
  | .builtin b=>
   match b,c.args.toList,c.argTypes.toList with
   | .append,[x,y],[t,u]=>zG E.P t u (ev x) (ev y) lh
   |_,_,_=>.bad
  | .invoke _ _=>.bad
 |_=>.bad
def kindOf:Op->Nat
 | .alloc _| .box _ _| .buildSlice _ _ _| .makeSlice _ _ _| .makeMap _ _=>1
 | .store _ _ _| .insert _ _ _ _=>2
 | .call c=>match c.callee with
  | .builtin .len| .builtin .min| .builtin .max=>0
  |_=>2
 |_=>0
def Yu(E:Env)(bB:FuncId->List Value->List ag->M (Value×List ag))(ev:Operand->Value)(lh:List ag)(op:Op):M (Value×List ag):=
 match kindOf op with
 |0=>.bind (E8 E ev lh op) λv=>.ret (v,lh)
 |1=>.bind (Pm E ev op) λr=>.ret (r.1 lh.length,lh++[r.2])
 |_=>Ar E bB ev lh op
def lY(tm:List Value)(dst:Option Tmp)(v:Value):List Value:=
 match dst with
 |some d=>tm.set d v
 |none=>tm
def aiZ(E:Env)(bB:FuncId->List Value->List ag->M (Value×List ag))(o:Oper)(s:St):M St:=
 .bind (Yu E bB (qx E.G s.tmps) s.lh o.op) λr=>.ret ⟨lY s.tmps o.dst r.1,r.2⟩
def XI(o:Oper)(s:St):M St:=.ret ⟨lY s.tmps o.dst (.chan (some 0)),s.lh⟩
def C8{α:Type}(ops:Array Oper)(o:Oper)(s:St)(yes no:St->M α):M α:=
 match o.guard with
 |none=>yes s
 |some (j,want)=>
  match(ops[j]?).bind (·.dst)with
  |none=>.bad
  |some t=>
   match s.tmps.getD t undef with
   | .bool b=>
    .br b (cond want (yes ⟨s.tmps.set t (.bool true),s.lh⟩) (no ⟨s.tmps.set t (.bool true),s.lh⟩))
     (cond want (no ⟨s.tmps.set t (.bool false),s.lh⟩) (yes ⟨s.tmps.set t (.bool false),s.lh⟩))
   | .chan _=>no s
   |_=>.bad
def Ow(E:Env)(bB:FuncId->List Value->List ag->M (Value×List ag))(ops:Array Oper)(i:Nat)(s:St):M St:=
 match ops[i]? with
 |none=>.ret s
 |some o=>C8 ops o s (aiZ E bB o) (XI o)
def GX(f:Nat->St->M St):List Nat->St->M St
 |[],s=>.ret s
 |i::r,s=>.bind (f i s) (GX f r)
def DT(P:Program)(s:St):ResultVar->M Value
 | .tmp t=>.ret (s.tmps.getD t undef)
 | .cell a t=>vK P t (s.tmps.getD a undef) s.lh
def wC(P:Program)(s:St):List ResultVar->M (List Value)
 |[]=>.ret []
 |r::rs=>.bind (DT P s r) λv=>.bind (wC P s rs) λvs=>.ret (v::vs)
def wB(P:Program)(fn:Func)(s:St):M Value:=
 .bind (wC P s fn.results.toList) λvs=>match vs with
  |[v]=>.ret v
  |_=>.ret (.tuple vs.toArray)
abbrev Dw:=Nat->Option (St->M (Exit×St))
def Vy(E:Env)(f:FuncId)(base:Nat):Dw:=λid=>
 match E.qQ f id with
 |some F=>some (F base)
 |none=>none
def Jz(E:Env)(ex:Dw->Code->St->M (Exit×St))(f:FuncId)(args:List Value)(lh:List ag):M (Value×List ag):=
 match E.LU f with
 |some F=>F args lh
 |none=>
  match E.fns.find? λe=>Nat.beq e.1 f with
  |none=>.bad
  |some e=>
   match e.2.body with
   |none=>.bad
   |some c=>
    .bind (ex (Vy E f lh.length) c ⟨args++List.replicate (e.2.ntmps-args.length) undef,lh⟩) λr=>
     match r.1 with
     | .normal=>.bind (wB E.P e.2 r.2) λv=>.ret (v,r.2.lh)
     | .ret=>.bind (wB E.P e.2 r.2) λv=>.ret (v,r.2.lh)
     |_=>.bad
def oO(ops:List Oper):List Nat:=
 ops.foldl (λacc o=>acc++[o.after.toList.foldl (λs e=>cond (Region.binds .any e) (s|||2^e.on|||acc.getD e.on 0) s) 0]) []
def Dk(ops:List Oper):Bool:=ops.zipIdx.all λ(o,i)=>o.after.toList.all λe=> !Region.binds .any e||Nat.blt e.on i
def Kq(iY:List Nat)(listed:Nat)(i:Nat):Bool:= !Nat.testBit listed i&&Nat.beq (iY.getD i 0&&&listed) (iY.getD i 0)
def Vl(iY kinds:List Nat)(n:Nat):Nat->Nat->List Nat
 |0,_=>[]
 |fuel+1,listed=>
  let rs:=(List.range n).filter (Kq iY listed)
  match rs.find? λi=> !Nat.beq (kinds.getD i 2) 2 with
  |some i=>i::Vl iY kinds n fuel (listed|||2^i)
  |none=>match rs with
   |i::_=>i::Vl iY kinds n fuel (listed|||2^i)
   |[]=>[]
def Ae(ops:List Oper):List Nat:=Vl (oO ops) (ops.map (kindOf ·.op)) ops.length ops.length 0
def ordered(iY:List Nat)(i j:Nat):Bool:=Nat.testBit (iY.getD i 0) j||Nat.testBit (iY.getD j 0) i
def tmpsOf:List Operand->List Nat
 |[]=>[]
 | .tmp t::r=>t::tmpsOf r
 |_::r=>tmpsOf r
def named(ops:Array Oper)(o:Oper):List Nat:=
 o.dst.toList++tmpsOf o.op.operands.toList++(match o.guard with|some (g,_)=>((ops[g]?).bind (·.dst)).toList|none=>[])
def Xb(ops:Array Oper)(iY:List Nat):Bool:=
 ops.toList.zipIdx.all λ(o,i)=>(named ops o).all λt=>ops.toList.zipIdx.all λ(q,j)=> !(match q.dst with|some d=>Nat.beq d t|none=>false)||Nat.beq i j||ordered iY i j
def NJ(iY kinds:List Nat):List Nat->Nat->Bool
 |[],_=>true
 |i::r,listed=>Kq iY listed i&&kinds.zipIdx.all (λ(k,j)=> !Nat.beq k 2|| !Nat.testBit listed j||Nat.testBit (iY.getD i 0) j)&&NJ iY kinds r (listed|||2^i)
def IW(ops:Array Oper):Bool:=
 let l:=ops.toList
 let iY:=oO l
 let kinds:=l.map (kindOf ·.op)
 Dk l&&Xb ops iY&&NJ iY kinds (Ae l) 0&&((List.range l.length).all λi=>(Ae l).any λj=>Nat.beq i j)&&(Ae l).all λi=>Nat.blt i l.length
def oN:Value->List Nat
 | .pointer (some a)=>[a.block]
 | .slice (some a) _ _=>[a.block]
 | .map (some k)=>[k]
 |_=>[]
def readsOf(ev:Operand->Value):Op->List Nat
 | .load _ a=>oN (ev a)
 | .indexAddr _ x _=>oN (ev x)
 | .lookup _ m _ _=>oN (ev m)
 |_=>[]
def tC(U:List Nat)(lh:List ag):List ag:=U.foldl (λl k=>l.set k (l.getD k .dead).uW) lh
def kZ(U:List Nat)(ahA lh:List ag):List ag:=U.foldl (λl k=>l.set k (ahA.getD k .dead)) lh
def qV(E:Env)(bB:FuncId->List Value->List ag->M (Value×List ag))(ops:Array Oper)(iY:List Nat):List Nat->List (Nat×List Nat)->St->M St
 |[],_,s=>.ret s
 |i::r,pr,s=>
  match ops[i]? with
  |none=>.bad
  |some o=>C8 ops o s
   (λs=>
    match kindOf o.op with
    |0=>.br ((readsOf (qx E.G s.tmps) o.op).all λk=>Nat.blt k s.lh.length) (.bind (E8 E (qx E.G s.tmps) s.lh o.op) λv=>qV E bB ops iY r ((i,readsOf (qx E.G s.tmps) o.op)::pr) ⟨lY s.tmps o.dst v,s.lh⟩) .bad
    |1=>.bind (Pm E (qx E.G s.tmps) o.op) λq=>qV E bB ops iY r ((i,[s.lh.length])::pr) ⟨lY s.tmps o.dst (q.1 s.lh.length),s.lh++[q.2]⟩
    |_=>
     let U:=pr.flatMap λe=>cond (Nat.testBit (iY.getD i 0) e.1) [] e.2
     .bind (Ar E bB (qx E.G s.tmps) (tC U s.lh) o.op) λq=>qV E bB ops iY r pr ⟨lY s.tmps o.dst q.1,kZ U s.lh q.2⟩)
   (λs=>qV E bB ops iY r pr ⟨lY s.tmps o.dst (.chan (some 0)),s.lh⟩)
def V6(E:Env)(bB:FuncId->List Value->List ag->M (Value×List ag))(ops:Array Oper)(s:St):M St:=
 .br (IW ops) (qV E bB ops (oO ops.toList) (Ae ops.toList) [] s) .bad
def exec(E:Env):Nat->Dw->Code->St->M (Exit×St)
 |0,_,_,_=>.bad
 |n+1,L,c,s=>
  match c with
  | .skip=>.ret (.normal,s)
  | .region _ ops false=>.bind (GX (Ow E (Jz E (exec E n)) ops) (List.range ops.size) s) λs'=>.ret (.normal,s')
  | .region _ ops true=>.bind (V6 E (Jz E (exec E n)) ops s) λs'=>.ret (.normal,s')
  | .seq a b=>.bind (exec E n L a s) λr=>match r.1 with
   | .normal=>exec E n L b r.2
   |_=>.ret r
  | .cond c x y=>
   match qx E.G s.tmps c with
   | .bool b=>.br b (exec E n L x s) (exec E n L y s)
   |_=>.bad
  | .block id b=>
   match L id with
   |some F=>F s
   |none=>.bind (exec E n L b s) λr=>match r.1 with
    | .exit id'=>cond (Nat.beq id' id) (.ret (.normal,r.2)) (.ret r)
    |_=>.ret r
  | .loop b=>.bind (exec E n L b s) λr=>match r.1 with
   | .normal=>exec E n L (.loop b) r.2
   |_=>.ret r
  | .exit id=>.ret (.exit id,s)
  | .ret=>.ret (.ret,s)
  |_=>.bad
def call(E:Env)(n:Nat)(f:FuncId)(args:List Value)(lh:List ag):M (Value×List ag):=Jz E (exec E n) f args lh
def iU:Code->List (Nat×Code)
 | .seq a b=>iU a++iU b
 | .cond _ x y=>iU x++iU y
 | .block id b=>(id,b)::iU b
 | .loop b=>iU b
 |_=>[]
def oneOf:List (Nat×Code)->Option Code
 |[p]=>some p.2
 |_=>none
def sF(id:Nat)(c:Code):Option Code:=oneOf ((iU c).filter λp=>Nat.beq p.1 id)
def xY(id:Nat)(c:Code):Code:=(sF id c).getD .skip
theorem mW{α:Type}{Q:Nat->α->Prop}:∀n,(∀j,j<n->∃v,Q j v)->∃cs:List α,cs.length=n/\∀j v,cs[j]?=some v->Q j v
 |0,_=>⟨[],rfl,λj v h=>by simp at h⟩
 |n+1,h=>by
  obtain⟨cs,hl,hc⟩:=mW n λj hj=>h j (by omega);obtain⟨v,hv⟩:=h n (by omega);refine⟨cs++[v],by simp[hl],λj u hu=> ?_⟩;grind
theorem Mk{P:Program}{t:TypeId}(h:qB P t=some none)(w:World):(isAgg t).run P w=.ok false w:=by
 unfold qB at h;split at h
 .cases h
 .simp_all
 .simp_all
 .rename_i d h1 h2 hu
  simp only[isAgg,cd,cF hu,bd];simp_all
theorem Ml{P}{t}{m}(h:qB P t=some (some m))(w):(isAgg t).run P w=.ok true w/\(sizeOf t).run P w=.ok m w:=by
 unfold qB at h;split at h
 .cases h
 .rename_i hu
  cases hi:P.info? t with
  |none=>simp[hi]at h
  |some i=>
   simp[hi]at h;refine⟨by simp[isAgg,cF hu],by simp[sizeOf,typeInfo,hi,h]⟩
 .rename_i hu
  cases hi:P.info? t with
  |none=>simp[hi]at h
  |some i=>
   simp[hi]at h;refine⟨by simp[isAgg,cF hu],by simp[sizeOf,typeInfo,hi,h]⟩
 .cases h
theorem ni{P}{t}(h:qB P t=some none){w}{a}{v}(hc:w.cell? a=some v):(loadVar t a).run P w=.ok v w:=by
 simp[loadVar,Mk h,hc]
theorem qH{P:Program}{t:TypeId}{m:Nat}(h:qB P t=some (some m)){w:World}{a:Addr}(cs:List Value)(hl:cs.length=m)(hc:∀j v,cs[j]?=some v->w.cell? (a.add j)=some v):
  (loadVar t a).run P w=.ok (.agg cs.toArray) w:=by
 obtain⟨h1,h2⟩:=Ml h w;subst hl;simp[loadVar,h1,h2,run_loadCells_list w a cs hc]
theorem run_sizeOf{P}{t}{i}(h:P.info? t=some i)(w):(sizeOf t).run P w=.ok i.size w:=by simp[sizeOf,typeInfo,h]
theorem run_typeInfo{P}{t}{i}(h:P.info? t=some i)(w):(typeInfo t).run P w=.ok i w:=by simp[typeInfo,h]
theorem lU{P}{t}{z}(h:zeroOf P t=some z)(w):(zeroValue t).run P w=.ok z w/\plain z=true:=by
 unfold zeroOf at h;cases hi:P.info? t with
 |none=>simp[hi]at h
 |some i=>
  simp[hi]at h;cases hz:i.zero with
  |none=>simp[hz]at h
  |some u=>
   simp[hz]at h;cases hp:plain u with
   |false=>simp[hp]at h
   |true=>
    simp[hp]at h;subst h;exact⟨by simp[zeroValue,typeInfo,hi,hz],hp⟩
theorem kg{a b:Nat}(h:Nat.blt a b=true):a<b:=by simp_all
theorem fo{a b:Nat}(h:Nat.ble a b=true):a<=b:=ey h
theorem beq_true{a b:Nat}(h:Nat.beq a b=true):a=b:=cJ h
section
variable{P:Program} {n:Nat->Prop} {w0:World} {G:Kj} {σ:Nat->Option Pl} {lh:List ag} {w:World}
theorem VR.gL{k off:Nat}{a':Value}(h:VR σ (.pointer (some ⟨k,off,none⟩)) a'):∃p,σ k=some p/\a'=.pointer (some ⟨p.b,p.o+off,none⟩):=by
 cases h with
 |ptr h=>grind
theorem VR.qL{k i j:Nat}{a':Value}(h:VR σ (.pointer (some ⟨k,i,some j⟩)) a'):∃p,σ k=some p/\a'=.pointer (some ⟨p.b,p.o+(i*p.wd+j),none⟩):=by
 cases h with
 |lD h=>grind
theorem HR.jB(h:HR n w0 G σ lh w){k:Nat}{p:Pl}(hk:σ k=some p){ow wr:Bool}{c:List Value}(hl:lh.getD k .dead=.cells ow wr c){i:Nat}{v:Value}(hv:c[i]?=some v):
  ∃v',w.cell? ⟨p.b,p.o+i,none⟩=some v'/\VR σ v v':=by
 have:=(h.blk k p hk).2;grind
theorem HR.GD(h:HR n w0 G σ lh w){k:Nat}{p:Pl}(hk:σ k=some p){ow wr:Bool}{r:Nat->Option Value}{c:List Value}(hl:lh.getD k .dead=.win ow wr r c){i:Nat}{v:Value}(hv:c[i]?=some v):
  ∃v',w.cell? ⟨p.b,p.o+i,none⟩=some v'/\VR σ v v':=by
 have:=(h.blk k p hk).2;grind
theorem HR.zN(h:HR n w0 G σ lh w){k:Nat}{p:Pl}(hk:σ k=some p){ow wr:Bool}{r:Nat->Option Value}{c:List Value}(hl:lh.getD k .dead=.win ow wr r c):
  p.wd=c.length/\∀i,i<p.o\/p.o+p.wd<=i->w.cell? ⟨p.b,i,none⟩=r i:=by
 have:=(h.blk k p hk).2;grind
theorem HR.ints_at(h:HR n w0 G σ lh w){k:Nat}{p:Pl}(hk:σ k=some p){ow wr:Bool}{c:List Int}(hl:lh.getD k .dead=.ints ow wr c):p.wd=1/\∀i v,c[i]?=some v->w.cell? ⟨p.b,p.o+i,none⟩=some (.int .i64 v):=by
 have:=(h.blk k p hk).2;grind
theorem HR.sj(h:HR n w0 G σ lh w){k:Nat}{p:Pl}(hk:σ k=some p){ow wr:Bool}{wd m:Nat}{g:Rows}(hl:lh.getD k .dead=.rows ow wr wd m g):
  p.wd=wd/\∀i j,i<m->j<wd->∃v',w.cell? ⟨p.b,p.o+(i*wd+j),none⟩=some v'/\VR σ (g.at i j).val v':=by
 have:=(h.blk k p hk).2;grind
theorem EL(hr:HR n w0 G σ lh w){t}{a a' v}(ha:VR σ a a')(h:(vK P t a lh).get=some v):
  ∃v',(Instr.loadAt t a').run P w=.ok v' w/\VR σ v v':=by
 unfold vK at h;split at h
 .rename_i k off hag
  obtain⟨p,hk,rfl⟩:=ha.gL;split at h
  .rename_i ow wr c hl
   simp at h;obtain⟨v',h1,h2⟩:=hr.jB hk hl h;exact⟨v',by simp[Instr.loadAt,Instr.sureAddr,ni hag h1],h2⟩
  .rename_i ow wr rr c hl
   simp at h;obtain⟨v',h1,h2⟩:=hr.GD hk hl h;exact⟨v',by simp[Instr.loadAt,Instr.sureAddr,ni hag h1],h2⟩
  .rename_i ow wr l hl
   rcases M.af h with⟨hb,hv⟩|⟨_,hv⟩
   .simp at hv;subst hv
    have hlt:=kg hb;have h1:=(hr.ints_at hk hl).2 off (l.getD off 0) (by simp[hlt]);exact⟨.int .i64 (l.getD off 0),by simp only[Instr.loadAt,Instr.sureAddr,cd,cr,bd,ni hag h1],by simpa using VR.int _ _⟩
   .cases hv
  .cases h
 .rename_i k i j hag
  obtain⟨p,hk,rfl⟩:=ha.qL;split at h
  .rename_i ow wr wd m g hl
   rcases M.af h with⟨hb,h⟩|⟨_,hv⟩
   .rcases M.af h with⟨hb2,hv⟩|⟨_,hv⟩
    .simp at hv;subst hv
     obtain⟨hw,hc⟩:=hr.sj hk hl;obtain⟨v',h1,h2⟩:=hc i j (kg hb) (kg hb2);rw[<-hw]at h1;exact⟨v',by simp[Instr.loadAt,Instr.sureAddr,ni hag h1],h2⟩
    .cases hv
   .cases hv
  .cases h
 .rename_i m k off hag
  obtain⟨p,hk,rfl⟩:=ha.gL;split at h
  .rename_i ow wr c hl
   rcases M.af h with⟨hb,hv⟩|⟨_,hv⟩
   .simp at hv;subst hv
    have hle:=fo hb;obtain⟨cs,hcl,hcs⟩:=mW (Q:=λj v'=>w.cell? ⟨p.b,p.o+off+j,none⟩=some v'/\∀x,c[off+j]?=some x->VR σ x v') m (λj hj=>by
     obtain⟨v',h1,h2⟩:=hr.jB hk hl (List.getElem?_eq_getElem (show off+j<c.length by omega));exact⟨v',by rw[Nat.add_assoc];exact h1,λx hx=>by rw[List.getElem?_eq_getElem (show off+j<c.length by omega)]at hx;cases hx;exact h2⟩)
    refine⟨.agg cs.toArray,?_,?_⟩
    .simp only[Instr.loadAt,Instr.sureAddr,cd,cr,bd]
     exact qH hag cs hcl λj v hv=>by rw[gw];exact(hcs j v hv).1
    .refine VR.agg (by simp[hcl];omega) fun i x y hx hy=> ?_
     simp only[iT]at hx hy;rw[gC]at hx;split at hx
     .rw[List.getElem?_drop]at hx
      exact(hcs i y hy).2 x hx
     .cases hx
   .cases hv
  .rename_i ow wr rr c hl
   rcases M.af h with⟨hb,hv⟩|⟨_,hv⟩
   .simp at hv;subst hv
    have hle:=fo hb;obtain⟨cs,hcl,hcs⟩:=mW (Q:=λj v'=>w.cell? ⟨p.b,p.o+off+j,none⟩=some v'/\∀x,c[off+j]?=some x->VR σ x v') m (λj hj=>by
     obtain⟨v',h1,h2⟩:=hr.GD hk hl (List.getElem?_eq_getElem (show off+j<c.length by omega));exact⟨v',by rw[Nat.add_assoc];exact h1,λx hx=>by rw[List.getElem?_eq_getElem (show off+j<c.length by omega)]at hx;cases hx;exact h2⟩)
    refine⟨.agg cs.toArray,?_,?_⟩
    .simp only[Instr.loadAt,Instr.sureAddr,cd,cr,bd]
     exact qH hag cs hcl λj v hv=>by rw[gw];exact(hcs j v hv).1
    .refine VR.agg (by simp[hcl];omega) fun i x y hx hy=> ?_
     simp only[iT]at hx hy;rw[gC]at hx;split at hx
     .rw[List.getElem?_drop]at hx
      exact(hcs i y hy).2 x hx
     .cases hx
   .cases hv
  .cases h
 .rename_i m k i j hag
  obtain⟨p,hk,rfl⟩:=ha.qL;split at h
  .rename_i ow wr wd mm g hl
   rcases M.af h with⟨hb,h⟩|⟨_,hv⟩
   .rcases M.af h with⟨hb2,hv⟩|⟨_,hv⟩
    .simp at hv;subst hv
     have hi:=kg hb;have hle:=fo hb2;obtain⟨hw,hc⟩:=hr.sj hk hl;obtain⟨cs,hcl,hcs⟩:=mW (Q:=λq v'=>w.cell? ⟨p.b,p.o+(i*p.wd+j)+q,none⟩=some v'/\VR σ (g.at i (j+q)).val v') m (λq hq=>by
      obtain⟨v',h1,h2⟩:=hc i (j+q) hi (by omega);exact⟨v',by rw[hw,show p.o+(i*wd+j)+q=p.o+(i*wd+(j+q))by omega];exact h1,h2⟩)
     refine⟨.agg cs.toArray,?_,?_⟩
     .simp only[Instr.loadAt,Instr.sureAddr,cd,cr,bd]
      exact qH hag cs hcl λq v hv=>by rw[gw];exact(hcs q v hv).1
     .refine VR.agg (by simp[hcl]) fun q x y hx hy=> ?_
      simp only[iT,cG]at hx hy;have hq:q<m:=by have:=(List.getElem?_eq_some_iff.1 hy).1;omega
      simp[ot hq]at hx;subst hx;exact(hcs q y hy).2
    .cases hv
   .cases hv
  .cases h
 .cases h
theorem qR{v v'}(h:VR σ v v')(hc:uB v=true):v'.oneCell'=true:=by
 cases h<;>first|rfl|(simp[uB,undef]at hc)
theorem AV{x x'}{xs}(h:VR σ x x')(hc:cellsOf x=some xs):
  ∃xs':List Value,x'.cells=xs'.toArray/\xs'.length=xs.length/\(∀(i:Nat) (u u'),xs[i]?=some u->xs'[i]?=some u'->VR σ u u')/\∀v∈xs',v.oneCell'=true:=by
 have one:uB x=true->xs=[x]->∃xs':List Value,x'.cells=xs'.toArray/\xs'.length=xs.length/\(∀(i:Nat) (u u':Value),xs[i]?=some u->xs'[i]?=some u'->VR σ u u')/\∀v∈xs',v.oneCell'=true:=by
  intro h1 h2;have h3:=qR h h1;refine⟨[x'],?_,by simp[h2],λi u u' hu hu'=> ?_,λv hv=>by simp at hv;subst hv;exact h3⟩
  .cases x'<;>first|rfl|(simp[Value.oneCell']at h3)
  .subst h2
   match i with
   |0=>simp at hu hu';subst hu hu';exact h
   |i+1=>simp at hu
 unfold cellsOf at hc;split at hc
 .rename_i c
  cases ha:c.all uB with
  |false=>simp[ha]at hc
  |true=>
   simp[ha]at hc;subst hc;cases h with
   |agg hs hp=>
    rename_i a';refine⟨a'.toList,by simp[Value.cells],by simp[hs],λi u u' hu hu'=>hp i u u' (by simpa using hu) (by simpa using hu'),λv hv=> ?_⟩;obtain⟨i,hi,rfl⟩:=ff.1 hv;have hi':i<c.size:=by simp at hi;omega
    rw[jN]at ha;exact qR (hp i c[i] _ (cj hi') (by simp)) (ha i hi')
 .cases hc
 .cases hc
 .rename_i h1 h2 h3
  cases hc;refine one ?_ rfl;cases x<;>first|rfl|exact absurd rfl (h1 _)|exact absurd rfl (h2 _)|exact absurd rfl (h3 _)
theorem mH(b)(vs)(o)(w:World)(hc:∀j,j<vs.length->(w.cell? ⟨b,o+j,none⟩).isSome=true)(i)(h:(w.cell? ⟨b,i,none⟩).isSome=true):
  ((w.setCells b o vs).cell? ⟨b,i,none⟩).isSome=true:=by
 by_cases hi:o<=i/\i<o+vs.length
 .have:=gO b vs o w hc (i-o) (by omega)
  rw[show o+(i-o)=i by omega]at this;rw[this];rfl
 .rw[gj b vs o w ⟨b,i,none⟩ (λ_ _=>by simp;omega)];exact h
theorem Ou(hr:HR n w0 G σ lh w){t}{a a' x x'}{bV}(ha:VR σ a a')(hx:VR σ x x')(h:(BP P t a x lh).get=some bV):
  ∃w',(Instr.storeAt t a' x').run P w=.ok () w'/\HR n w0 G σ bV w':=by
 unfold BP at h;split at h
 .rename_i i xs k off hi hxs
  obtain⟨p,hk,rfl⟩:=ha.gL;obtain⟨xs',hcells,hlen,kS,hone⟩:=AV hx hxs;have fin:∀blk,(lh.getD k .dead).owned=true->xs.length=i.size->(∀j,j<xs'.length->(w.cell? ⟨p.b,p.o+off+j,none⟩).isSome=true)->
    (blk.owned=true->(lh.getD k .dead).owned=true)->blk.aM=some none->BR n σ blk p (w.setCells p.b (p.o+off) xs')->∃w',(Instr.storeAt t (.pointer (some ⟨p.b,p.o+off,none⟩)) x').run P w=.ok () w'/\HR n w0 G σ (lh.set k blk) w':=by
   intro blk ho hsz hsome oF hbo hb;obtain⟨_,hfz,_⟩:=(hr.blk k p hk).1 ho;refine⟨w.setCells p.b (p.o+off) xs',?_,hr.stores hk ho _ _ _ oF hb (.inr hbo)⟩;have hst:=run_storeCells_cells (P:=P) p.b (p.o+off) xs' 0 w (by simpa using hsome) (λj _=>hfz _) hone;have hxl:x'.cells.size=i.size:=by rw[hcells];simp;omega
   simp only[Instr.storeAt,Instr.sureAddr,storeVar,cd,cr,bd,run_sizeOf hi,hxl,ne_eq,not_true_eq_false,jj];rw[hcells];simpa using hst
  split at h
  .rename_i c hl
   rcases M.af h with⟨hb,h⟩|⟨_,hv⟩
   .rcases M.af h with⟨hb2,hv⟩|⟨_,hv⟩
    .simp at hv;subst hv
     have hle:=fo hb2;have hown:(lh.getD k .dead).owned=true:=by rw[hl];rfl
     obtain⟨hnb,hfz,hroom⟩:=(hr.blk k p hk).1 hown;have hsome:∀j,j<xs'.length->(w.cell? ⟨p.b,p.o+off+j,none⟩).isSome=true:=by
      intro j hj;obtain⟨v',h1,_⟩:=hr.jB hk hl (List.getElem?_eq_getElem (show off+j<c.length by omega));rw[Nat.add_assoc,h1];rfl
     refine fin _ hown (beq_true hb) hsome (λ_=>hown) rfl ⟨λ_=>⟨hnb,λo=>(j9 _ _ _ _ _).trans (hfz o),λj hj=>mH _ _ _ _ hsome _ (hroom j hj)⟩,λj v hv=> ?_⟩;by_cases hin:off<=j/\j<off+xs.length
     .have h1:=gO p.b xs' (p.o+off) w hsome (j-off) (by omega)
      rw[show p.o+off+(j-off)=p.o+j by omega]at h1;refine⟨_,h1,kS (j-off) v _ ?_ (List.getElem?_eq_getElem _)⟩;rw[List.getElem?_append_right (by simp;omega),List.getElem?_append_left (by simp;omega)]at hv;rw[<-hv];congr 1;simp;omega
     .rw[gj p.b xs' (p.o+off) w ⟨p.b,p.o+j,none⟩ (fun _ _=>by simp;omega)]
      refine hr.jB hk hl ?_;rw[<-hv];rcases Nat.lt_or_ge j off with hj|hj
      .rw[List.getElem?_append_left (by simp;omega),List.getElem?_take_of_lt hj]
      .rw[List.getElem?_append_right (by simp;omega),List.getElem?_append_right (by simp;omega),List.getElem?_drop]
       congr 1;simp;omega
    .cases hv
   .cases hv
  .rename_i rr c hl
   rcases M.af h with⟨hb,h⟩|⟨_,hv⟩
   .rcases M.af h with⟨hb2,hv⟩|⟨_,hv⟩
    .simp at hv;subst hv
     have hle:=fo hb2;have hown:(lh.getD k .dead).owned=true:=by rw[hl];rfl
     obtain⟨hnb,hfz,hroom⟩:=(hr.blk k p hk).1 hown;have hsome:∀j,j<xs'.length->(w.cell? ⟨p.b,p.o+off+j,none⟩).isSome=true:=by
      intro j hj;obtain⟨v',h1,_⟩:=hr.GD hk hl (List.getElem?_eq_getElem (show off+j<c.length by omega));rw[Nat.add_assoc,h1];rfl
     refine fin _ hown (beq_true hb) hsome (λ_=>hown) rfl ⟨λ_=>⟨hnb,λo=>(j9 _ _ _ _ _).trans (hfz o),λj hj=>mH _ _ _ _ hsome _ (hroom j hj)⟩,(hr.zN hk hl).1.trans (by simp;omega),λj v hv=> ?_,λj hj=> ?_⟩
     .by_cases hin:off<=j/\j<off+xs.length
      .have h1:=gO p.b xs' (p.o+off) w hsome (j-off) (by omega)
       rw[show p.o+off+(j-off)=p.o+j by omega]at h1;refine⟨_,h1,kS (j-off) v _ ?_ (List.getElem?_eq_getElem _)⟩;rw[List.getElem?_append_right (by simp;omega),List.getElem?_append_left (by simp;omega)]at hv;rw[<-hv];congr 1;simp;omega
      .rw[gj p.b xs' (p.o+off) w ⟨p.b,p.o+j,none⟩ (fun _ _=>by simp;omega)]
       refine hr.GD hk hl ?_;rw[<-hv];rcases Nat.lt_or_ge j off with hj|hj
       .rw[List.getElem?_append_left (by simp;omega),List.getElem?_take_of_lt hj]
       .rw[List.getElem?_append_right (by simp;omega),List.getElem?_append_right (by simp;omega),List.getElem?_drop]
        congr 1;simp;omega
     .rw[gj p.b xs' (p.o+off) w ⟨p.b,j,none⟩ (fun _ _=>by have:=(hr.zN hk hl).1;simp;omega)]
      exact(hr.zN hk hl).2 j hj
    .cases hv
   .cases hv
  .rename_i l hl
   split at h
   .rename_i v
    rcases M.af h with⟨hb,h⟩|⟨_,hv⟩
    .rcases M.af h with⟨hb2,hv⟩|⟨_,hv⟩
     .simp at hv;subst hv
      have hlt:=kg hb2;have hown:(lh.getD k .dead).owned=true:=by rw[hl];rfl
      obtain⟨hnb,hfz,hroom⟩:=(hr.blk k p hk).1 hown;obtain⟨hwd,hat⟩:=hr.ints_at hk hl;have hl1:xs'.length=1:=by simpa using hlen
      have hsome:∀j,j<xs'.length->(w.cell? ⟨p.b,p.o+off+j,none⟩).isSome=true:=by
       intro j hj;obtain rfl:j=0:=by omega
       rw[qq,hat off _ (List.getElem?_eq_getElem hlt)];rfl
      refine fin _ hown (by simpa using beq_true hb) hsome (λ_=>hown) rfl ⟨λ_=>⟨hnb,λo=>(j9 _ _ _ _ _).trans (hfz o),λj hj=>mH _ _ _ _ hsome _ (hroom j hj)⟩,hwd,λj u hu=> ?_⟩;by_cases hj:j=off
      .subst hj
       have h1:=gO p.b xs' (p.o+j) w hsome 0 (by omega);rw[qq]at h1;rw[h1];have:=kS 0 (.int .i64 v) _ rfl (List.getElem?_eq_getElem (by omega));have e:=this.aD rfl;rw[e];simp[hlt]at hu;rw[hu]
      .rw[gj p.b xs' (p.o+off) w ⟨p.b,p.o+j,none⟩ (fun _ _=>by simp;omega)]
       rw[List.getElem?_set_ne (by omega)]at hu;exact hat j u hu
     .cases hv
    .cases hv
   .cases h
  .cases h
 .cases h
def Ext(m:Nat)(σ σ':Nat->Option Pl):Prop:=Le σ σ'/\∀k,k<m->σ' k=σ k
theorem Ext.refl(m)(σ):Ext m σ σ:=⟨Le.refl _,λ_ _=>rfl⟩
theorem Ext.trans{m m'}{a b c}(h:Ext m a b)(k:Ext m' b c)(hm:m<=m'):Ext m a c:=
 ⟨h.1.trans k.1,λi hi=>(k.2 i (Nat.lt_of_lt_of_le hi hm)).trans (h.2 i hi)⟩
theorem HR.sK(h:HR n w0 G σ lh w)(p):Ext lh.length σ (upd σ lh.length p):=⟨h.wK p,λk hk=>dF _ _ (mu hk)⟩
def Good(n:Nat->Prop)(w0:World)(G:Kj)(σ:Nat->Option Pl)(m:Nat)(r:Value×List ag)(v':Value)(w':World):Prop:=
 ∃σ',Ext m σ σ'/\VR σ' r.1 v'/\HR n w0 G σ' r.2 w'
def sS(n:Nat->Prop)(σ:Nat->Option Pl)(r:(Nat->Value)×ag)(v':Value)(w:World)(o:Obj):Prop:=
 ∃p:Pl,(p.b=w.heap.size/\r.2.aM=some none)/\∀σ' a,Le σ σ'->σ' a=some p->VR σ' (r.1 a) v'/\BR n σ' r.2 p (w.alloc o)
theorem JA(hn:eB n w){t}{x x'}{r}(hx:VR σ x x')(h:(Wz x).get=some r):
  ∃v' o,(Instr.box t x').run P w=.ok v' (w.alloc o)/\sS n σ r v' w o:=by
 unfold Wz at h;split at h
 .rename_i xs hxs
  simp at h;subst h;obtain⟨xs',hcells,hlen,kS,hone⟩:=AV hx hxs;refine⟨.pointer (some ⟨w.heap.size,0,none⟩),.cells xs'.toArray t,by simp[Instr.box,newVar,newRow,hcells],⟨w.heap.size,0,0,0⟩,⟨rfl,rfl⟩,λσ' a hs ha=>⟨VR.ptr (off:=0) ha,BR.FO hn t (by simp[hlen]) λi u u' hu hu'=>(kS i u u' hu (by simpa using hu')).mono hs⟩⟩
 .cases h
theorem QV(hn:eB n w){t}{r}(h:(QW P t).get=some r):
  ∃v' o,(Instr.alloc t true (.tuple #[])).run P w=.ok v' (w.alloc o)/\sS n σ r v' w o:=by
 unfold QW at h;split at h
 .rename_i z hz
  obtain⟨h1,h2⟩:=lU hz w;obtain⟨v',o,h3,h4⟩:=JA (P:=P) (t:=t) hn (VR.plain σ h2) h;refine⟨v',o,?_,h4⟩;rw[<-h3];simp[Instr.alloc,h1,Instr.box]
 .cases h
theorem sS.good(hr:HR n w0 G σ lh w){r}{v'}{o}(h:sS n σ r v' w o):Good n w0 G σ lh.length (r.1 lh.length,lh++[r.2]) v' (w.alloc o):=by
 obtain⟨p,⟨hp,hpa⟩,h⟩:=h;obtain⟨h1,h2⟩:=h _ lh.length (hr.wK p) (upd_same _ _ _);exact⟨_,hr.sK p,h1,hr.new _ _ _ hp h2 hpa⟩
theorem VR.TC{k}{a'}(h:VR σ (.map (some k)) a'):∃p,σ k=some p/\a'=.map (some p.b):=by
 cases h with
 |Ao h=>exact⟨_,h,rfl⟩
theorem HR.YG(h:HR n w0 G σ lh w){k}{p}(hk:σ k=some p){ow wr}{l}(hl:lh.getD k .dead=.jK ow wr l):
  ∃es qX,w.heap[p.b]?=some (.map es qX)/\es.size=l.length/\∀(i:Nat) (k) (v),l[i]?=some (k,v)->∃e,es[i]?=some e/\e.key=.int .i64 k/\VR σ v e.val:=by
 have:=(h.blk k p hk).2;rw[hl]at this;exact this
theorem run_checkKey{P}{kt}(hu:P.underlying kt=some (.int .i64))(b)(x)(w):(Instr.checkKey b 10000 kt (.int .i64 x)).run P w=.ok () w:=by
 have key:∀d,(Instr.checkKey b (d+1) kt (.int .i64 x)).run P w=.ok () w:=by
  intro d;simp[Instr.checkKey,cF hu]
 exact key 9999
theorem IK{x}:∀(es) (l) (j) (no) (yes) (v),es.length=l.length->(∀(i:Nat) (k) (u),l[i]?=some (k,u)->∃e,es[i]?=some e/\e.key=.int .i64 k/\VR σ u e.val)->(VU x no yes l).get=some v->
  (Instr.findNow (.int .i64) (.int .i64 x) es j=some none/\no.get=some v)\/∃i u u',Instr.findNow (.int .i64) (.int .i64 x) es j=some (some (i,u'))/\VR σ u u'/\(yes u).get=some v
 |[],[],j,no,yes,v,_,_,h=>.inl ⟨rfl,h⟩
 |[],_::_,_,_,_,_,hl,_,_=>by cases hl
 |_::_,[],_,_,_,_,hl,_,_=>by cases hl
 |e::es,(k,u)::l,j,no,yes,v,hl,hrel,h=>by
  obtain⟨e',h1,h2,h3⟩:=hrel 0 k u rfl;simp only[jz,cq]at h1;subst h1;rcases M.af h with⟨hb,h⟩|⟨hb,h⟩
  .refine .inr ⟨j,u,e.val,?_,h3,h⟩
   simp only[Instr.findNow,h2,Instr.sameNow,if_true,hb]
  .have ih:=IK es l (j+1) no yes v (by simpa using hl) (fun i k' u' hi=>hrel (i+1) k' u' (by simpa using hi)) h
   have e1:Instr.findNow (.int .i64) (.int .i64 x) (e::es) j=Instr.findNow (.int .i64) (.int .i64 x) es (j+1):=by
    simp only[Instr.findNow,h2,Instr.sameNow,if_true,hb]
   rw[e1];exact ih
theorem run_findKey{P}{kt}(hu:P.underlying kt=some (.int .i64)){x}{es}{r}(h:Instr.findNow (.int .i64) (.int .i64 x) es 0=some r)(w):(Instr.findKey kt (.int .i64 x) es).run P w=.ok r w:=by
 simp[Instr.findKey,cF hu,h]
theorem Nl(hr:HR n w0 G σ lh w){t}{m m' ix ix' v}{ok}(hm:VR σ m m')(hix:VR σ ix ix')(h:(vP P t m ix ok lh).get=some v):
  ∃v',(Instr.lookup t m' ix' ok).run P w=.ok v' w/\VR σ v v':=by
 unfold vP at h;split at h
 .rename_i kt et hu
  split at h
  .rename_i z b x hk hz
   obtain⟨p,hb,rfl⟩:=hm.TC;obtain rfl:=hix.aD rfl;split at h
   .rename_i ow wr l hl
    obtain⟨es,qX,h1,h2,h3⟩:=hr.YG hb hl;obtain⟨hz1,hz2⟩:=lU hz w;rcases IK es.toList l 0 _ _ v (by simpa using h2) (λi k u hi=>let⟨e,e1,e2⟩:=h3 i k u hi;⟨e,by simpa using e1,e2⟩) h with⟨g1,g2⟩|⟨i,u,u',g1,g2,g3⟩
    .cases g2
     refine⟨if ok then .tuple #[z,.bool false]else z,?_,?_⟩
     .simp only[Instr.lookup,cd,cF hu,bd,pw h1,cr,run_checkKey hk,run_findKey hk g1,hz1]
     .cases ok
      .exact VR.plain σ hz2
      .refine VR.tuple rfl fun i a a' ha ha'=> ?_
       match i,ha,ha' with
       |0,ha,ha'=>simp at ha ha';subst ha ha';exact VR.plain σ hz2
       |1,ha,ha'=>simp at ha ha';subst ha ha';exact .bool _
    .cases g3
     refine⟨if ok then .tuple #[u',.bool true]else u',?_,?_⟩
     .simp only[Instr.lookup,cd,cF hu,bd,pw h1,cr,run_checkKey hk,run_findKey hk g1]
     .cases ok
      .exact g2
      .refine VR.tuple rfl fun i a a' ha ha'=> ?_
       match i,ha,ha' with
       |0,ha,ha'=>simp at ha ha';subst ha ha';exact g2
       |1,ha,ha'=>simp at ha ha';subst ha ha';exact .bool _
   .cases h
  .cases h
 .cases h
theorem Ql{x}:∀(es) (l) (j),es.length=l.length->(∀(i:Nat) (k) (u),l[i]?=some (k,u)->∃e,es[i]?=some e/\e.key=.int .i64 k/\VR σ u e.val)->(Qm x l).get=some ()->Instr.findNow (.int .i64) (.int .i64 x) es j=some none
 |[],[],j,_,_,_=>rfl
 |[],_::_,_,hl,_,_=>by cases hl
 |_::_,[],_,hl,_,_=>by cases hl
 |e::es,(k,u)::l,j,hl,hrel,h=>by
  obtain⟨e',h1,h2,h3⟩:=hrel 0 k u rfl;simp only[jz,cq]at h1;subst h1;rcases M.af h with⟨hb,h⟩|⟨hb,h⟩
  .cases h
  .have ih:=Ql es l (j+1) (by simpa using hl) (fun i k' u' hi=>hrel (i+1) k' u' (by simpa using hi)) h
   simp only[Instr.findNow,h2,Instr.sameNow,if_true,hb];exact ih
theorem Np(hr:HR n w0 G σ lh w){t}{m m' k k' v v'}{bV}(hm:VR σ m m')(hk:VR σ k k')(hv:VR σ v v')(h:(zo P t m k v lh).get=some bV):
  ∃w',(Instr.mapUpdate t m' k' v').run P w=.ok () w'/\HR n w0 G σ bV w':=by
 unfold zo at h;split at h
 .rename_i kt et hu
  split at h
  .rename_i b x hkt
   obtain⟨p,hb,rfl⟩:=hm.TC;obtain rfl:=hk.aD rfl;split at h
   .rename_i l hl
    obtain⟨u,hf,h⟩:=M.ay h;cases h;obtain⟨es,qX,h1,h2,h3⟩:=hr.YG hb hl;have hfind:=Ql es.toList l 0 (by simpa using h2) (λi k u hi=>let⟨e,e1,e2⟩:=h3 i k u hi;⟨e,by simpa using e1,e2⟩) hf;have hown:(lh.getD b .dead).owned=true:=by rw[hl];rfl
    have hlt:=hr.lt b p hb;have hget:({w with heap:=w.heap.setIfInBounds p.b (.map (es.push {key:=.int .i64 x,val:=v',born:=qX}) (qX+1))}:World).heap[p.b]?=some (.map (es.push {key:=.int .i64 x,val:=v',born:=qX}) (qX+1)):=by
     show(w.heap.setIfInBounds p.b _)[p.b]?=_;rw[Array.getElem?_setIfInBounds_self_of_lt hlt]
    refine⟨_,?_,hr.agm hb hown h1 (.map (es.push {key:=.int .i64 x,val:=v',born:=qX}) (qX+1)) (.jK true true (l++[(x,v)])) (λ_=>hown) ?_⟩
    .simp only[Instr.mapUpdate,cd,cF hu,bd,pw h1,run_checkKey hkt,run_findKey hkt hfind,MapKept.run_setObj_map _ h1]
    .obtain⟨g1,g2,g3⟩:=(hr.blk b p hb).1 hown
     refine⟨λ_=>⟨g1,λo=> ?_,λj hj=> ?_⟩,_,_,hget,by simp[h2],λi kk u hi=> ?_⟩
     .unfold World.frozen?
      rw[hget]
     .exfalso
      have:=g3 j hj;unfold World.cell? at this;rw[h1]at this;cases this
     .rw[List.getElem?_append]at hi
      split at hi
      .rename_i hil
       obtain⟨e,e1,e2,e3⟩:=h3 i kk u hi;exact⟨e,by rw[cQ,if_neg (by omega)];exact e1,e2,e3⟩
      .rename_i hil
       have hi0:i=l.length:=by
        have:=(List.getElem?_eq_some_iff.1 hi).1;simp at this;omega
       subst hi0;simp at hi;obtain⟨rfl,rfl⟩:=hi;exact⟨_,by rw[cQ,if_pos h2.symm],rfl,hv⟩
   .cases h
  .cases h
 .cases h
