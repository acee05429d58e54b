import Derived.Below
import Derived.Orders
import Derived.Laws.IdiomCopy
import Derived.Test.YteaflphddciglaaGreatDoorCaA
set_option linter.all false
def bd:=@Go.Result.andThen_ok
def b9:=@Option.some.inj
def cd:=@Go.Sem.run_bind
def cq:=@Option.some.injEq
def cj:=@Array.getElem?_eq_getElem
def cr:=@Go.Sem.run_pure
def cy:=@Go.RowKit.Below.heap_setCell
def cJ:=@Nat.eq_of_beq_eq_true
def cG:=@List.getElem?_map
def cF:=@Go.run_underlying
def cM:=@Go.World.cell?_of_block
def cQ:=@Array.getElem?_push
def ey:=@Nat.le_of_ble_eq_true
def ff:=@List.mem_iff_getElem
def fX:=@Go.World.frozen?_alloc_new
def gj:=@Go.World.cell?_setCells_out
def ju:=@Nat.beq_refl
def gw:=@Go.Addr.add_lit
def gC:=@List.getElem?_take
def gO:=@Go.World.cell?_setCells_in
def iT:=@List.getElem?_toArray
def jj:=@if_false
def js:=@Go.World.size_setCell
def jz:=@List.getElem?_cons_zero
def jN:=@Array.all_eq_true
def j9:=@Go.World.frozen?_setCells
def pN:=@cond_true
def mu:=@Nat.ne_of_lt
def m8:=@Nat.lt_irrefl
def nh:=@Go.World.frozen?_of_block
def tU:=@List.getElem?_range
def pw:=@Go.MapKept.run_getObj_map
def qq:=@Nat.add_zero
def ur:=@List.getElem?_append
namespace Go.Sx
open Go Go.RowKit
structure M(α:Type):Type 1 where
 run:(R:Type)->R->(α->R)->R
 ok:∀(R:Type) (b:R) (K:α->R),run R b K=(run (Option α) none some).elim b K
namespace M
variable{α β:Type}
def get(m:M α):Option α:=m.run (Option α) none some
def ret(a:α):M α:=⟨λ_ _ K=>K a,λ_ _ _=>rfl⟩
def bad:M α:=⟨λ_ b _=>b,λ_ _ _=>rfl⟩
def bind(m:M α)(f:α->M β):M β:=
 ⟨λR b K=>m.run R b λa=>(f a).run R b K,λR b K=>by
  rw[m.ok R,m.ok (Option β)];cases m.run (Option α) none some with
  |none=>rfl
  |some a=>exact(f a).ok R b K⟩
def br(c:Bool)(x y:M α):M α:=
 ⟨λR b K=>cond c (x.run R b K) (y.run R b K),λR b K=>by
  cases c
  .exact y.ok R b K
  .exact x.ok R b K⟩
def run_eq(m:M α)(R)(b)(K):m.run R b K=m.get.elim b K:=m.ok R b K
@[simp] theorem ah (a:α):(ret a).get=some a:=rfl
@[simp] theorem alG:(bad:M α).get=none:=rfl
def get_bind(m:M α)(f:α->M β):(m.bind f).get=m.get.bind λa=>(f a).get:=by
 show m.run (Option β) none (λa=>(f a).get)=_;rw[run_eq];cases m.get<;>rfl
def ay{m:M α}{f:α->M β}{b}(h:(m.bind f).get=some b):∃a,m.get=some a/\(f a).get=some b:=by
 rw[get_bind]at h;cases c:m.get with
 |none=>grind
 |some a=>grind
@[simp] theorem fe (c) (x y:M α):(br c x y).get=if c=true then x.get else y.get:=by cases c<;>rfl
def af{c}{x y:M α}{a}(h:(br c x y).get=some a):(c=true/\x.get=some a)\/(c=false/\y.get=some a):=by
 cases c
 .simp_all
 simp_all
def ofOption(o:Option α):M α:=match o with|some a=>ret a|none=>bad
@[simp] theorem ahM (o:Option α):(ofOption o).get=o:=by cases o<;>rfl
end M
inductive Gw where
 |int (k:IntKind) (n:Int)
 |bool (b:Bool)
def Gw.val:Gw->Value
 | .int k n=>.int k n
 | .bool b=>.bool b
inductive Kd where
 |it (k:IntKind)
 |bo
structure Rows where
 ks:List Kd
 gi:Nat->Nat->Int
 gb:Nat->Nat->Bool
def Rows.at(R:Rows)(i j:Nat):Gw:=
 match R.ks.getD j .bo with
 | .it k=>.int k (R.gi i j)
 | .bo=>.bool (R.gb i j)
def KN:Value->Kd
 | .int k _=>.it k
 |_=>.bo
def uC:Value->Int
 | .int _ n=>n
 |_=>0
def vR:Value->Bool
 | .bool b=>b
 |_=>false
def oV:Value->Bool
 | .int _ _| .bool _=>true
 |_=>false
def abG:Kd->Kd->Bool
 | .it k,.it a=>decide (k=a)
 | .bo,.bo=>true
 |_,_=>false
def mh:List Kd->List Kd->Bool
 |[],[]=>true
 |a::r,b::c=>abG a b&&mh r c
 |_,_=>false
def afp{a b}(h:abG a b=true):a=b:=by
 cases a<;>cases b<;>simp_all[abG]
theorem PU:∀{a b},mh a b=true->a=b
 |[],[],_=>rfl
 |a::r,b::c,h=>by
  simp only[mh,Bool.and_eq_true]at h;rw[afp h.1,PU h.2]
 |[],_::_,h=>by cases h
 |_::_,[],h=>by cases h
def rowOf(x:List Value):Rows:=⟨x.map KN,λ_ j=>uC (x.getD j undef),λ_ j=>vR (x.getD j undef)⟩
def eY(m:Nat)(x:List Value)(R:Rows):Rows:=⟨R.ks,λi j=>cond (Nat.beq i m) (uC (x.getD j undef)) (R.gi i j),λi j=>cond (Nat.beq i m) (vR (x.getD j undef)) (R.gb i j)⟩
def G8{x:List Value}{j}(a:j<x.length)(h:oV (x.getD j undef)=true)(gi)(gb)(i:gi=uC (x.getD j undef))(b:gb=vR (x.getD j undef)):
  (match(x.map KN).getD j .bo with| .it k=>Gw.int k gi| .bo=>.bool gb).val=x.getD j undef:=by
 have e:(x.map KN).getD j .bo=KN (x.getD j undef):=by
  grind
 rw[e,i,b];generalize x.getD j undef=v at h;cases v<;>first|rfl|cases h
def aaQ{x}{i j}(a:j<x.length)(h:oV (x.getD j undef)=true):((rowOf x).at i j).val=x.getD j undef:=G8 a h _ _ rfl rfl
def EI{m}{x}{R}{j}(k:mh R.ks (x.map KN)=true)(a:j<x.length)(h:oV (x.getD j undef)=true):((eY m x R).at m j).val=x.getD j undef:=by
 unfold eY Rows.at;simp only[ju,pN];rw[PU k];exact G8 a h _ _ rfl rfl
def EH{m}{x}{R}{i j}(h:i≠m):(eY m x R).at i j=R.at i j:=by
 unfold eY Rows.at;grind [Nat.eq_of_beq_eq_true]
inductive ag where
 |cells (own wr:Bool) (c:List Value)
 |ints (own wr:Bool) (l:List Int)
 |rows (own wr:Bool) (wd n:Nat) (get:Rows)
 |jK (own wr:Bool) (l:List (Int×Value))
 |win (own wr:Bool) (rest:Nat->Option Value) (c:List Value)
 |abs (wr:Bool) (a:wZ)
 |dead
def ag.uW:ag->ag
 | .cells o _ c=>.cells o false c
 | .ints o _ l=>.ints o false l
 | .rows o _ w n g=>.rows o false w n g
 | .jK o _ l=>.jK o false l
 | .win o _ r c=>.win o false r c
 | .abs _ a=>.abs false a
 | .dead=>.dead
def ag.owned:ag->Bool
 | .cells o _ _| .ints o _ _| .rows o _ _ _ _| .jK o _ _| .win o _ _ _=>o
 | .abs _ _=>false
 | .dead=>false
def ag.vo:ag->Bool
 | .cells _ w _| .ints _ w _| .rows _ w _ _ _| .jK _ w _| .win _ w _ _=>w
 | .abs w _=>w
 | .dead=>false
def ag.alive:ag->Bool
 | .dead=>false
 |_=>true
def ag.aM:ag->Option (Option wZ)
 | .dead=>none
 | .abs _ a=>some (some a)
 |_=>some none
structure Pl where
 b:Nat
 o:Nat
 wd:Nat
 cap:Nat
inductive VR(σ:Nat->Option Pl):Value->Value->Prop
 |any (v:Value):VR σ undef v
 |skip:VR σ (.chan (some 0)) undef
 |bool (b:Bool):VR σ (.bool b) (.bool b)
 |int (k:IntKind) (n:Int):VR σ (.int k n) (.int k n)
 |string (s:ByteArray):VR σ (.string s) (.string s)
 |wE:VR σ (.pointer none) (.pointer none)
 |ptr {k off:Nat} {p:Pl} (h:σ k=some p):VR σ (.pointer (some ⟨k,off,none⟩)) (.pointer (some ⟨p.b,p.o+off,none⟩))
 |lD {k i j:Nat} {p:Pl} (h:σ k=some p):VR σ (.pointer (some ⟨k,i,some j⟩)) (.pointer (some ⟨p.b,p.o+(i*p.wd+j),none⟩))
 |kM (l c:Nat):VR σ (.slice none l c) (.slice none l c)
 |slice {k off l c:Nat} {p:Pl} (h:σ k=some p):VR σ (.slice (some ⟨k,off,none⟩) l c) (.slice (some ⟨p.b,p.o+off,none⟩) l c)
 |si {k i l c:Nat} {p:Pl} (h:σ k=some p):VR σ (.slice (some ⟨k,i,some 0⟩) l c) (.slice (some ⟨p.b,p.o+i*p.wd,none⟩) l c)
 |vec {k l:Nat} {p:Pl} (h:σ k=some p) (hl:l<=p.cap):VR σ (.slice (some ⟨k,0,some 1⟩) l 0) (.slice (some ⟨p.b,p.o,none⟩) l p.cap)
 |win {k who l c:Nat} {p:Pl} (h:σ k=some p) (ho:p.o=who*p.wd):VR σ (.slice (some ⟨k,who,some 4⟩) l c) (.slice (some ⟨p.b,0,none⟩) l c)
 |word (s:Go.Proofs.YteaflphddciglaaGreatDoor.aa) (F:Go.Proofs.YteaflphddciglaaGreatDoor.Facts s):VR σ (.iface 900 s.val) (.int .i64 (Go.Proofs.YteaflphddciglaaGreatDoor.bH s))
 |zW (B i:Nat):VR σ (.iface 901 (.agg #[.int .i64 (B:Int),.int .i64 (i:Int)])) (.int .i64 ((B:Int)+(i:Int)))
 |empty (a:Addr):VR σ (.slice (some ⟨0,0,some 3⟩) 0 0) (.slice (some a) 0 0)
 |wI:VR σ (.map none) (.map none)
 |Ao {k:Nat} {p:Pl} (h:σ k=some p):VR σ (.map (some k)) (.map (some p.b))
 |nilFunc:VR σ .nilFunc .nilFunc
 |nilIface:VR σ .nilIface .nilIface
 |func (f:FuncId) {a a' c c':Array Value} (ha:a.size=a'.size) (hc:c.size=c'.size)
   (h1:∀(i:Nat) (x y:Value),a[i]?=some x->a'[i]?=some y->VR σ x y) (h2:∀(i:Nat) (x y:Value),c[i]?=some x->c'[i]?=some y->VR σ x y):VR σ (.func (.func f) a c) (.func (.func f) a' c')
 |agg {a a':Array Value} (ha:a.size=a'.size) (h:∀(i:Nat) (x y:Value),a[i]?=some x->a'[i]?=some y->VR σ x y):VR σ (.agg a) (.agg a')
 |tuple {a a':Array Value} (ha:a.size=a'.size) (h:∀(i:Nat) (x y:Value),a[i]?=some x->a'[i]?=some y->VR σ x y):VR σ (.tuple a) (.tuple a')
def Le(σ a:Nat->Option Pl):Prop:=∀k p,σ k=some p->a k=some p
theorem Le.refl(σ):Le σ σ:=λ_ _ h=>h
def Le.trans{a b c}(h:Le a b)(d:Le b c):Le a c:=λk p e=>d k p (h k p e)
def VR.mono{σ o:Nat->Option Pl}(d:Le σ o){v p:Value}(h:VR σ v p):VR o v p:=by
 induction h with
 |any v=>exact .any v
 |skip=>exact .skip
 |bool b=>exact .bool b
 |int k n=>exact .int k n
 |string s=>exact .string s
 |wE=>exact .wE
 |ptr h=>exact .ptr (d _ _ h)
 |lD h=>exact .lD (d _ _ h)
 |kM l c=>exact .kM l c
 |slice h=>exact .slice (d _ _ h)
 |si h=>exact .si (d _ _ h)
 |vec h q=>exact .vec (d _ _ h) q
 |win h r=>exact .win (d _ _ h) r
 |word s F=>exact .word s F
 |zW W i=>exact .zW W i
 |empty a=>exact .empty a
 |wI=>exact .wI
 |Ao h=>exact .Ao (d _ _ h)
 |nilFunc=>exact .nilFunc
 |nilIface=>exact .nilIface
 |func f e u _ _ m w=>exact .func f e u m w
 |agg e _ m=>exact .agg e m
 |tuple e _ m=>exact .tuple e m
def aN:Value->Bool
 | .bool _| .int _ _| .string _| .pointer none| .slice none _ _| .map none| .nilFunc| .nilIface=>true
 |_=>false
def plain:Value->Bool
 | .agg c=>c.all aN
 | .tuple c=>c.all λ| .agg d=>d.all aN|x=>aN x
 |v=>aN v
theorem VR.aN(σ){v}(h:aN v=true):VR σ v v:=by
 unfold Sx.aN at h;split at h
 .exact .bool _
 .exact .int _ _
 .exact .string _
 .exact .wE
 .exact .kM _ _
 .exact .wI
 .exact .nilFunc
 .exact .nilIface
 .cases h
theorem VR.plain(σ){v}(h:plain v=true):VR σ v v:=by
 have a:∀c:Array Value,c.all Sx.aN=true->∀(i:Nat) (x y:Value),c[i]?=some x->c[i]?=some y->VR σ x y:=by
  grind [Option.some.inj,VR.aN,Array.all_eq_true,Array.getElem?_eq_some_iff]
 unfold Sx.plain at h;split at h
 .exact .agg rfl (a _ h)
 .refine .tuple rfl fun i x y b e=> ?_
  obtain rfl:x=y:=b9 (b.symm.trans e);rw[jN]at h;obtain⟨f,rfl⟩:=Array.getElem?_eq_some_iff.1 b;have:=h i f;split at this
  .rename_i d k
   rw[k];exact .agg rfl (a _ this)
  .exact VR.aN σ this
 .exact VR.aN σ h
def VR.aD{σ}{v a}(h:VR σ v a)(p:Sx.aN v=true):a=v:=by
 cases h<;>first|rfl|(simp[Sx.aN,undef]at p)
def dY(σ:Nat->Option Pl)(a b:Array Value):Prop:=a.size=b.size/\∀(i:Nat) (x y:Value),a[i]?=some x->b[i]?=some y->VR σ x y
theorem dY.append{σ}{a f c l}(h:dY σ a f)(k:dY σ c l):dY σ (a++c) (f++l):=by
 refine⟨by simp[h.1,k.1],λi x y d b=> ?_⟩;rw[Array.getElem?_append]at d b;rw[<-h.1]at b;split at d
 .rename_i e
  rw[if_pos e]at b;exact h.2 _ _ _ d b
 .rename_i e
  rw[if_neg e]at b;exact k.2 _ _ _ d b
def dY.map{σ}{α:Type}(f g)(a:Array α)(h:∀x∈a,VR σ (f x) (g x)):dY σ (a.map f) (a.map g):=by
 refine⟨by simp,λi x y b c=> ?_⟩;grind
def dY.get{σ}{a b}(h:dY σ a b)(i:Nat){x}(d:a[i]?=some x):∃y,b[i]?=some y/\VR σ x y:=by
 have c:i<b.size:=by rw[<-h.1];grind
 exact⟨b[i],cj c,h.2 i x _ d (cj c)⟩
structure Kept(X:Nat->Prop)(w w':World):Prop where
 os:w'.os=w.os
 tape:w'.tape=w.tape
 output:w'.output=w.output
 size:w.heap.size<=w'.heap.size
 block:∀k,X k->w'.heap[k]?=w.heap[k]?
theorem Kept.refl(X)(w):Kept X w w:=⟨rfl,rfl,rfl,Nat.le_refl _,λ_ _=>rfl⟩
def Kept.trans{X}{a b c}(h:Kept X a b)(k:Kept X b c):Kept X a c:=
 ⟨k.os.trans h.os,k.tape.trans h.tape,k.output.trans h.output,Nat.le_trans h.size k.size,λi d=>(k.block i d).trans (h.block i d)⟩
def Kept.mono{X Y}{w a}(h:Kept X w a)(B:∀k,Y k->X k):Kept Y w a:=⟨h.os,h.tape,h.output,h.size,λk b=>h.block k (B k b)⟩
def Kept.of_below{n}{w a}(h:Below n w a):Kept (· <n) w a:=⟨h.os,h.tape,h.output,h.size,h.block⟩
def Kept.below{n}{w a}(h:Kept (· <n) w a):Below n w a:=⟨h.os,h.tape,h.output,h.size,h.block⟩
def Kept.drew{X}{a w}(h:Kept X a w):Kept X a w.drew:=⟨h.os,h.tape,h.output,h.size,h.block⟩
def eB(X:Nat->Prop)(w:World):Prop:=∀k,X k->k<w.heap.size
theorem eB.new{X}{w}(h:eB X w):¬X w.heap.size:=λx=>m8 _ (h _ x)
def Kept.alloc{X}{a w}(h:Kept X a w)(B:eB X w)(o):Kept X a (w.alloc o):=
 h.trans ⟨rfl,rfl,rfl,by simp,λk b=>Below.heap_alloc _ _ _ (B k b)⟩
def Kept.setCell{X}{a w}(h:Kept X a w){p}(b:¬X p.block)(u):Kept X a (w.setCell p u):=
 h.trans ⟨rfl,rfl,rfl,by simp[World.setCell],λk c=>cy _ _ _ _ (λe=>b (e▸c))⟩
def BR(n:Nat->Prop)(σ:Nat->Option Pl)(b:ag)(p:Pl)(w:World):Prop:=
 (b.owned=true->¬n p.b/\(∀o,w.frozen? ⟨p.b,o,none⟩=false)/\∀j,j<p.cap*p.wd->(w.cell? ⟨p.b,p.o+j,none⟩).isSome=true)/\
 match b with
 | .cells _ _ c=>∀(i:Nat) (v:Value),c[i]?=some v->∃a,w.cell? ⟨p.b,p.o+i,none⟩=some a/\VR σ v a
 | .ints _ _ l=>p.wd=1/\∀(i:Nat) (x:Int),l[i]?=some x->w.cell? ⟨p.b,p.o+i,none⟩=some (.int .i64 x)
 | .rows _ _ d m g=>p.wd=d/\∀i j,i<m->j<d->∃a,w.cell? ⟨p.b,p.o+(i*d+j),none⟩=some a/\VR σ (g.at i j).val a
 | .jK _ _ l=>∃s q,w.heap[p.b]?=some (.map s q)/\s.size=l.length/\∀(i:Nat) (k:Int) (v:Value),l[i]?=some (k,v)->∃e,s[i]?=some e/\e.key=.int .i64 k/\VR σ v e.val
 | .win _ _ r c=>p.wd=c.length/\(∀(i:Nat) (v:Value),c[i]?=some v->∃a,w.cell? ⟨p.b,p.o+i,none⟩=some a/\VR σ v a)/\∀i,i<p.o\/p.o+p.wd<=i->w.cell? ⟨p.b,i,none⟩=r i
 | .abs _ _=>p.o=0
 | .dead=>True
def BR.mono{n}{σ E}{q}{p}{w u}(h:BR n σ q p w)(z:Le σ E)
  (C:u.heap[p.b]?=w.heap[p.b]?):BR n E q p u:=by
 have A:∀o v,w.cell? ⟨p.b,o,none⟩=some v->u.cell? ⟨p.b,o,none⟩=some v:=λo v s=>by
  grind [World.cell?_of_block]
 have P:∀o,u.frozen? ⟨p.b,o,none⟩=w.frozen? ⟨p.b,o,none⟩:=λo=>nh C;have F:∀o,(w.cell? ⟨p.b,o,none⟩).isSome=true->(u.cell? ⟨p.b,o,none⟩).isSome=true:=by
  grind [Option.isSome_iff_exists]
 refine⟨λH=> ?_,?_⟩
 .obtain⟨d,f,G⟩:=h.1 H
  grind
 .have b:=h.2
  cases q with
  |cells B wr c=>exact λi v s=>let⟨y,d,f⟩:=b i v s;⟨y,A _ _ d,f.mono z⟩
  |ints B wr l=>exact⟨b.1,λi x I=>A _ _ (b.2 i x I)⟩
  |rows B wr Q m g=>exact⟨b.1,λi j D J=>let⟨y,d,f⟩:=b.2 i j D J;⟨y,A _ _ d,f.mono z⟩⟩
  |jK B wr l=>
   obtain⟨K,X,d,f,G⟩:=b;exact⟨K,X,C.trans d,f,λi k v s=>let⟨e,L,N,O⟩:=G i k v s;⟨e,L,N,O.mono z⟩⟩
  |win B wr r c=>exact⟨b.1,λi v s=>let⟨y,d,f⟩:=b.2.1 i v s;⟨y,A _ _ d,f.mono z⟩,λi D=>by rw[cM C];exact b.2.2 i D⟩
  |abs wr a=>exact b
  |dead=>trivial
structure Kj where
 J:wZ->(Nat->Prop)->Nat->World->Prop
 st:∀a F b w w',J a F b w->w.heap.size<=w'.heap.size->(∀j,F j->w'.heap[j]?=w.heap[j]?)->J a F b w'
instance:OfNat Kj 0:=⟨⟨λ_ _ _ _=>False,λ_ _ _ _ _ h _ _=>h⟩⟩
def Kj.le(G:Kj)(b:Nat):Prop:=0<=b
def alF(G:Kj)(F:Nat->Nat->Prop)(o:Option (Option wZ))(b:Nat)(w:World):Prop:=
 match o with
 |none=>True
 |some none=>∀j,¬F j b
 |some (some a)=>G.J a (F b) b w
def iB(n:Nat->Prop)(G:Kj)(σ:Nat->Option Pl)(lh:List ag)(w:World):Prop:=
 ∃F:Nat->Nat->Prop,(∀b j,F b j->j<w.heap.size/\¬n j)/\(∀b d j,F b j->F d j->b=d)/\
  (∀k p,σ k=some p->alF G F (lh.getD k .dead).aM p.b w)/\
  ∀k c p e a f,σ k=some p->σ c=some e->(lh.getD k .dead).aM=some (some a)->(lh.getD c .dead).aM=some (some f)->p.b=e.b->k=c
theorem jd{b:ag}(h:b.owned=true):b.aM=some none:=by cases b<;>first|rfl|cases h
def Dm{b:ag}:b.alive=true↔b.aM≠none:=by cases b<;>simp[ag.alive,ag.aM]
theorem iB.to{n B:Nat->Prop}{G:Kj}{σ s:Nat->Option Pl}{lh V:List ag}{w i:World}(h:iB n G σ lh w)(C:w.heap.size<=i.heap.size)
  (E:∀j,j<w.heap.size->B j->n j\/∃k p,σ k=some p/\(lh.getD k .dead).aM=some none/\p.b=j)
  (H:∀j,j<w.heap.size->i.heap[j]?=w.heap[j]?\/∃k p,σ k=some p/\(lh.getD k .dead).aM=some none/\p.b=j)
  (I:∀k p,s k=some p->(V.getD k .dead).aM=none\/(∃m p0,σ m=some p0/\p0.b=p.b/\(lh.getD m .dead).aM=(V.getD k .dead).aM/\∀q u a D,s q=some u->u.b=p.b->(V.getD k .dead).aM=some (some a)->(V.getD q .dead).aM=some (some D)->q=k)\/(w.heap.size<=p.b/\(V.getD k .dead).aM=some none)):iB B G s V i:=by
 obtain⟨F,l,J,v,O⟩:=h;have d:∀b j,F b j->i.heap[j]?=w.heap[j]?:=λb j c=>by
  rcases H j (l b j c).1 with e|⟨k,p,f,r,e⟩
  .exact e
  .have:=v k p f
   rw[r]at this;exact absurd (e▸c) (this b)
 refine⟨F,λb j c=>⟨Nat.lt_of_lt_of_le (l b j c).1 C,λx=> ?_⟩,J,λk p f=> ?_,λk q p u a D f K r L e=> ?_⟩
 .rcases E j (l b j c).1 x with y|⟨k,p,f,r,e⟩
  .exact(l b j c).2 y
  .have:=v k p f
   rw[r]at this;exact this b (e▸c)
 .rcases I k p f with e|⟨m,p0,z,e,A,_⟩|⟨P,A⟩
  .rw[e];trivial
  .have:=v m p0 z
   rw[A,e]at this;cases y:(V.getD k .dead).aM with
   |none=>trivial
   |some o=>
    rw[y]at this;cases o with
    |none=>exact this
    |some a=>exact G.st a _ _ w i this C (λj c=>d p.b j c)
  .rw[A]
   exact λb N=>absurd (l b p.b N).1 (by omega)
 grind
def iB.id{n:Nat->Prop}{G:Kj}{σ f:Nat->Option Pl}{l b:List ag}{w c:World}(h:iB n G σ l w)(m:∀k p,σ k=some p->p.b<w.heap.size)(s:w.heap.size<=c.heap.size)
  (o:∀j,j<w.heap.size->c.heap[j]?=w.heap[j]?\/∃k p,σ k=some p/\(l.getD k .dead).aM=some none/\p.b=j)
  (q:∀k p,f k=some p->(b.getD k .dead).aM=none\/(σ k=some p/\(l.getD k .dead).aM=(b.getD k .dead).aM)\/((w.heap.size<=p.b\/∃i p0,σ i=some p0/\(l.getD i .dead).aM=some none/\p0.b=p.b)/\(b.getD k .dead).aM=some none)):iB n G f b c:=by
 obtain⟨F,r,u,v,x⟩:=h;refine iB.to (lh:=l) (σ:=σ) ⟨F,r,u,v,x⟩ s (λj _ y=>.inl y) o λk p z=> ?_;rcases q k p z with e|⟨d,A⟩|e
 .exact .inl e
 .refine .inr (.inl ⟨k,p,d,rfl,A,fun D E a H B e I C=> ?_⟩)
  grind
 grind
theorem iB.no{n:Nat->Prop}{G:Kj}{σ:Nat->Option Pl}{l:List ag}{w:World}(h:∀k p,σ k=some p->(l.getD k .dead).aM=none\/(l.getD k .dead).aM=some none):iB n G σ l w:=by
 refine⟨λ_ _=>False,λ_ _ h=>h.elim,λ_ _ _ h=>h.elim,λk p b=> ?_,λk d p f a i b c m _ _=> ?_⟩
 .rcases h k p b with e|e
  .rw[e];trivial
  .rw[e];exact λ_ h=>h
 grind
theorem iB.pull{n:Nat->Prop}{G:Kj}{σ c:Nat->Option Pl}{l b:List ag}{w:World}(h:iB n G σ l w)(m:Nat->Nat->Prop)
  (r:∀k p,c k=some p->∃a,m k a/\σ a=some p/\((b.getD k .dead).aM=none\/(l.getD a .dead).aM=(b.getD k .dead).aM)) (s:∀k d a,m k a->m d a->k=d):iB n G c b w:=by
 obtain⟨F,e,f,i,o⟩:=h;refine iB.to (lh:=l) (σ:=σ) ⟨F,e,f,i,o⟩ (Nat.le_refl _) (λj _ q=>.inl q) (λ_ _=>.inl rfl) λk p u=> ?_;grind
structure HR(n:Nat->Prop)(w0:World)(G:Kj)(σ:Nat->Option Pl)(lh:List ag)(w:World):Prop where
 hn:eB n w0
 below:Kept n w0 w
 ab:iB n G σ lh w
 dom:∀k p,σ k=some p->k<lh.length
 lt:∀k p,σ k=some p->p.b<w.heap.size
 inj:∀k k' p p',σ k=some p->σ k'=some p'->(lh.getD k .dead).owned=true->(lh.getD k' .dead).alive=true->p.b=p'.b->k=k'
 blk:∀k p,σ k=some p->BR n σ (lh.getD k .dead) p w
def upd(σ:Nat->Option Pl)(k:Nat)(p:Pl):Nat->Option Pl:=λi=>if i=k then some p else σ i
theorem upd_same(σ)(k)(p):upd σ k p k=some p:=by simp[upd]
theorem dF(σ){k i}(p)(h:i≠k):upd σ k p i=σ i:=by simp[upd,h]
section
variable{n:Nat->Prop} {d:World} {G:Kj} {σ:Nat->Option Pl} {f:List ag} {w:World}
def HR.size(h:HR n d G σ f w):eB n w:=λk a=>Nat.lt_of_lt_of_le (h.hn k a) h.below.size
def HR.wK(h:HR n d G σ f w)(p):Le σ (upd σ f.length p):=λk q a=>by
 rw[dF _ _ (mu (h.dom k q a))];exact a
def bY(f:List ag)(b:ag)(k:Nat)(h:k<f.length):(f++[b]).getD k .dead=f.getD k .dead:=by
 grind
def iQ(f:List ag)(blk):(f++[blk]).getD f.length .dead=blk:=by simp
def dA(f:List ag)(blk)(k)(h:k<f.length):(f.set k blk).getD k .dead=blk:=by simp[h]
def aX(f:List ag)(b:ag){k i:Nat}(h:i≠k):(f.set k b).getD i .dead=f.getD i .dead:=by
 grind
def HR.extend(h:HR n d G σ f w)(N):HR n d G σ (f++N) w:=by
 have c:∀k q,σ k=some q->(f++N).getD k .dead=f.getD k .dead:=λk q a=>by
  simp[List.getElem?_append_left (h.dom k q a)]
 refine⟨h.hn,h.below,h.ab.id h.lt (Nat.le_refl _) (λ_ _=>.inl rfl) (λk p a=>.inr (.inl ⟨a,by rw[c k p a]⟩)),λk q a=>by have:=h.dom k q a;simp;omega,h.lt,λk i q l a b o m e=> ?_,λk q a=> ?_⟩
 .rw[c k q a]at o
  rw[c i l b]at m;exact h.inj k i q l a b o m e
 .rw[c k q a];exact h.blk k q a
def tK{a:Nat}(h:σ a=none)(p:Pl):Le σ (upd σ a p):=λk q b=>by
 grind [dF]
def HR.fill(h:HR n d G σ f w){a}(v:a<f.length)(m:σ a=none)(p)(o)(x:p.b=w.heap.size)(y:BR n (upd σ a p) (f.getD a .dead) p (w.alloc o))(H:(f.getD a .dead).aM=some none:=by first|rfl|assumption):
  HR n d G (upd σ a p) f (w.alloc o):=by
 have r:=tK m p;refine⟨h.hn,h.below.alloc h.size o,h.ab.id h.lt (by simp) (λj z=>.inl (Below.heap_alloc _ _ _ z)) (λk q b=> ?_),λk q b=> ?_,λk q b=> ?_,λk l q u b c A Q s=> ?_,λk q b=> ?_⟩
 .by_cases e:k=a
  .subst e
   rw[upd_same]at b;cases b;exact .inr (.inr ⟨.inl (by omega),H⟩)
  .rw[dF _ _ e]at b
   exact .inr (.inl ⟨b,rfl⟩)
 .by_cases e:k=a
  .subst e;exact v
  .rw[dF _ _ e]at b
   exact h.dom k q b
 .by_cases e:k=a
  .subst e
   rw[upd_same]at b;cases b;simp[x]
  .rw[dF _ _ e]at b
   have:=h.lt k q b;simp;omega
 .by_cases e:k=a
  .by_cases i:l=a
   .rw[e,i]
   .rw[e,upd_same]at b;cases b
    rw[dF _ _ i]at c;have:=h.lt l u c;omega
  .rw[dF _ _ e]at b
   by_cases i:l=a
   .rw[i,upd_same]at c;cases c
    have:=h.lt k q b;omega
   .rw[dF _ _ i]at c
    exact h.inj k l q u b c A Q s
 .by_cases e:k=a
  .subst e
   rw[upd_same]at b;cases b;exact y
  .rw[dF _ _ e]at b
   have B:=h.lt k q b;exact(h.blk k q b).mono r (Below.heap_alloc _ _ _ B)
def HR.abb(h:HR n d G σ f w):σ f.length=none:=by
 cases e:σ f.length with
 |none=>rfl
 |some p=>exact absurd (h.dom _ _ e) (by omega)
theorem HR.new(h:HR n d G σ f w)(blk)(p)(o)(a:p.b=w.heap.size)(b:BR n (upd σ f.length p) blk p (w.alloc o))(s:blk.aM=some none:=by first|rfl|assumption):
  HR n d G (upd σ f.length p) (f++[blk]) (w.alloc o):=
 (h.extend [blk]).fill (by simp) h.abb p o a (by rw[iQ];exact b) (by rw[iQ];exact s)
def BR.FO(h:eB n w){c:List Value}{a:Array Value}(t:TypeId)(s:c.length=a.size)(b:∀(i:Nat) (x y:Value),c[i]?=some x->a[i]?=some y->VR σ x y):
  BR n σ (.cells true true c) ⟨w.heap.size,0,0,0⟩ (w.alloc (.cells a t)):=by
 refine⟨λ_=>⟨h.new,λo=>fX _ _ _ _,λj e=>by simp at e⟩,λi v k=> ?_⟩;have l:i<a.size:=by grind
 refine⟨a[i],?_,b i v _ k (cj l)⟩;simp_all
def BR.Tv(h:eB n w)(l:List Int)(t:TypeId){c':Array Value}(c:∀(i:Nat) (x:Int),l[i]?=some x->c'[i]?=some (.int .i64 x)):
  BR n σ (.ints true true l) ⟨w.heap.size,0,1,c'.size⟩ (w.alloc (.cells c' t)):=by
 refine⟨λ_=>⟨h.new,λo=>fX _ _ _ _,λj a=> ?_⟩,rfl,λi v b=> ?_⟩
 .simp_all
 simp_all
def HR.drew(h:HR n d G σ f w):HR n d G σ f w.drew:=
 ⟨h.hn,h.below.drew,h.ab.id h.lt (Nat.le_refl _) (λ_ _=>.inl rfl) (λk p a=>.inr (.inl ⟨a,rfl⟩)),h.dom,h.lt,h.inj,λk p a=>(h.blk k p a).mono (Le.refl _) rfl⟩
def HR.kept(h:HR n d G σ f w){c}(b:Below w.heap.size w c):HR n d G σ f c:=by
 refine⟨h.hn,h.below.trans ((Kept.of_below b).mono h.size),h.ab.id h.lt b.size (λj e=>.inl (b.block j e)) (λk p a=>.inr (.inl ⟨a,rfl⟩)),h.dom,λk p a=>Nat.lt_of_lt_of_le (h.lt k p a) b.size,h.inj,λk p a=> ?_⟩;have l:=h.lt k p a;exact(h.blk k p a).mono (Le.refl _) (b.block p.b l)
def HR.re(h:HR n d G σ f w){k}{p}(m:σ k=some p)(blk)(s:blk.owned=true->(f.getD k .dead).owned=true)(u:blk.alive=true->(f.getD k .dead).alive=true)(v:BR n σ blk p w)(H:blk.aM=none\/(f.getD k .dead).aM=blk.aM:=by first|exact .inl rfl|exact .inr rfl|assumption):
  HR n d G σ (f.set k blk) w:=by
 have b:=h.dom k p m;refine⟨h.hn,h.below,h.ab.id h.lt (Nat.le_refl _) (λ_ _=>.inl rfl) (λi q a=> ?_),λi q a=>by simpa using h.dom i q a,h.lt,λi r q y a c o Q l=> ?_,λi q a=> ?_⟩
 .by_cases e:i=k
  .subst e
   rw[dA _ _ _ b];exact H.imp id λx=>.inl ⟨a,x⟩
  .rw[aX _ _ e];exact .inr (.inl ⟨a,rfl⟩)
 .refine h.inj i r q y a c ?_ ?_ l
  .by_cases e:i=k
   .subst e;rw[dA _ _ _ b]at o;exact s o
   .rwa[aX _ _ e]at o
  .by_cases e:r=k
   .subst e;rw[dA _ _ _ b]at Q;exact u Q
   .rwa[aX _ _ e]at Q
 .by_cases e:i=k
  .subst e
   rw[m]at a;cases a;rw[dA _ _ _ b];exact v
  .rw[aX _ _ e];exact h.blk i q a
theorem heap_setCells_other{b k}:∀(vs) (o) (w:World),k≠b->(w.setCells b o vs).heap[k]?=w.heap[k]?
 |[],_,_,_=>rfl
 |v::r,o,w,h=>by
  rw[World.setCells,heap_setCells_other r _ _ h];exact cy _ _ _ _ h
def HR.stores(h:HR n d G σ f w){k}{p}(c:σ k=some p)(b:(f.getD k .dead).owned=true)(o)(s)(blk)(S:blk.owned=true->(f.getD k .dead).owned=true)(N:BR n σ blk p (w.setCells p.b o s))(O:blk.aM=none\/blk.aM=some none:=by first|exact .inl rfl|exact .inr rfl|assumption):
  HR n d G σ (f.set k blk) (w.setCells p.b o s):=by
 have l:=h.dom k p c;have B:(f.getD k .dead).alive=true:=by
  cases A:f.getD k .dead with
  |dead=>rw[A]at b;cases b
  |_=>rfl
 obtain⟨C,P,_⟩:=(h.blk k p c).1 b;have m:∀(s:List Value) (o:Nat) (w:World),(w.setCells p.b o s).heap.size=w.heap.size:=by
  intro s;induction s with
  |nil=>intro o w;rfl
  |cons v r D=>intro o w;rw[World.setCells,D,js]
 have u:∀(s:List Value) (o:Nat) (w:World),Kept n d w->Kept n d (w.setCells p.b o s):=by
  intro s;induction s with
  |nil=>intro o w E;exact E
  |cons v r D=>intro o w E;rw[World.setCells];exact D _ _ (E.setCell C v)
 have y:∀i q,σ i=some q->i≠k->(f.getD i .dead).alive=true->BR n σ (f.getD i .dead) q (w.setCells p.b o s):=by
  intro i q a F H;have z:q.b≠p.b:=λe=>F (h.inj k i p q c a b H e.symm).symm;exact(h.blk i q a).mono (Le.refl _) (heap_setCells_other s o w z)
 refine⟨h.hn,u s o w h.below,h.ab.id h.lt (by rw[m];exact Nat.le_refl _) (λj _=> ?_) (λi q a=> ?_),λi q a=>by simpa using h.dom i q a,λi q a=>by rw[m];exact h.lt i q a,λi L q Q a I J R K=> ?_,λi q a=> ?_⟩
 .by_cases e:j=p.b
  .exact .inr ⟨k,p,c,jd b,e.symm⟩
  .exact .inl (heap_setCells_other s o w e)
 .by_cases e:i=k
  .subst e
   rw[dA _ _ _ l];exact O.imp id λx=>.inl ⟨a,by rw[x];exact jd b⟩
  .rw[aX _ _ e];exact .inr (.inl ⟨a,rfl⟩)
 .refine h.inj i L q Q a I ?_ ?_ K
  .by_cases e:i=k
   .subst e;exact b
   .rwa[aX _ _ e]at J
  .by_cases e:L=k
   .subst e;exact B
   .rwa[aX _ _ e]at R
 .by_cases e:i=k
  .subst e
   rw[c]at a;cases a;rw[dA _ _ _ l];exact N
  .rw[aX _ _ e]
   cases A:f.getD i .dead with
   |dead=>exact⟨λe=>(by cases e),trivial⟩
   |_=>rw[<-A];exact y i q a e (by rw[A];rfl)
def HR.agm(h:HR n d G σ f w){k}{p}(l:σ k=some p)(b:(f.getD k .dead).owned=true){H}{X}(L:w.heap[p.b]?=some (.map H X))(o)(blk)(N:blk.owned=true->(f.getD k .dead).owned=true)(I:BR n σ blk p {w with heap:=w.heap.setIfInBounds p.b o})(J:blk.aM=none\/blk.aM=some none:=by first|exact .inl rfl|exact .inr rfl|assumption):
  HR n d G σ (f.set k blk) {w with heap:=w.heap.setIfInBounds p.b o}:=by
 have m:=h.dom k p l;have v:(f.getD k .dead).alive=true:=by
  cases u:f.getD k .dead with
  |dead=>rw[u]at b;cases b
  |_=>rfl
 obtain⟨y,_,_⟩:=(h.blk k p l).1 b;have c:∀j,j≠p.b->({w with heap:=w.heap.setIfInBounds p.b o}:World).heap[j]?=w.heap[j]?:=λj z=>by
  show(w.heap.setIfInBounds p.b o)[j]?=_;rw[Array.getElem?_setIfInBounds_ne (Ne.symm z)]
 have r:Kept n d {w with heap:=w.heap.setIfInBounds p.b o}:=h.below.trans ⟨rfl,rfl,rfl,by simp,λj z=>c j λe=>y (e▸z)⟩;have s:∀i q,σ i=some q->i≠k->(f.getD i .dead).alive=true->BR n σ (f.getD i .dead) q {w with heap:=w.heap.setIfInBounds p.b o}:=by
  intro i q a A B;exact(h.blk i q a).mono (Le.refl _) (c q.b λe=>A (h.inj k i p q l a b B e.symm).symm)
 refine⟨h.hn,r,h.ab.id h.lt (by simp) (λj _=> ?_) (λi q a=> ?_),λi q a=>by simpa using h.dom i q a,λi q a=>by simpa using h.lt i q a,λi F q K a C D Q E=> ?_,λi q a=> ?_⟩
 .by_cases e:j=p.b
  .exact .inr ⟨k,p,l,jd b,e.symm⟩
  .exact .inl (c j e)
 .by_cases e:i=k
  .subst e
   rw[dA _ _ _ m];exact J.imp id λx=>.inl ⟨a,by rw[x];exact jd b⟩
  .rw[aX _ _ e];exact .inr (.inl ⟨a,rfl⟩)
 .refine h.inj i F q K a C ?_ ?_ E
  .by_cases e:i=k
   .subst e;exact b
   .rwa[aX _ _ e]at D
  .by_cases e:F=k
   .subst e;exact v
   .rwa[aX _ _ e]at Q
 .by_cases e:i=k
  .subst e
   rw[l]at a;cases a;rw[dA _ _ _ m];exact I
  .rw[aX _ _ e]
   cases u:f.getD i .dead with
   |dead=>exact⟨λe=>(by cases e),trivial⟩
   |_=>rw[<-u];exact s i q a e (by rw[u];rfl)
end
structure St where
 tmps:List Value
 lh:List ag
structure Env where
 P:Program
 G:Kj
 fns:List (FuncId×Func)
 eqs:List (TypeId×List Bool)
 LU:FuncId->Option (List Value->List ag->M (Value×List ag))
 qQ:FuncId->Nat->Option (Nat->St->M (Exit×St)):=λ_ _=>none
def qx(G:Kj)(m:List Value):Operand->Value
 | .tmp t=>m.getD t undef
 | .const v=>cond (plain v) v undef
 | .global g=>undef
 | .func f=>.func (.func f) #[] #[]
def uB:Value->Bool
 | .agg _| .tuple _| .chan _=>false
 |_=>true
def cellsOf:Value->Option (List Value)
 | .agg c=>cond (c.all uB) (some c.toList) none
 | .tuple _=>none
 | .chan _=>none
 |v=>some [v]
def qB(P:Program)(t:TypeId):Option (Option Nat):=
 match P.underlying t with
 |none=>none
 |some (.struct _)=>(P.info? t).map λi=>some i.size
 |some (.array _ _)=>(P.info? t).map λi=>some i.size
 |some _=>some none
def vK(P:Program)(t:TypeId)(a:Value)(h:List ag):M Value:=
 match qB P t,a with
 |some none,.pointer (some ⟨k,o,none⟩)=>
  match h.getD k .dead with
  | .cells _ _ c=>.ofOption c[o]?
  | .win _ _ _ c=>.ofOption c[o]?
  | .ints _ _ l=>.br (Nat.blt o l.length) (.ret (.int .i64 (l.getD o 0))) .bad
  |_=>.bad
 |some none,.pointer (some ⟨k,i,some j⟩)=>
  match h.getD k .dead with
  | .rows _ _ w m g=>.br (Nat.blt i m) (.br (Nat.blt j w) (.ret (g.at i j).val) .bad) .bad
  |_=>.bad
 |some (some n),.pointer (some ⟨k,o,none⟩)=>
  match h.getD k .dead with
  | .cells _ _ c=>.br (Nat.ble (o+n) c.length) (.ret (.agg ((c.drop o).take n).toArray)) .bad
  | .win _ _ _ c=>.br (Nat.ble (o+n) c.length) (.ret (.agg ((c.drop o).take n).toArray)) .bad
  |_=>.bad
 |some (some n),.pointer (some ⟨k,i,some j⟩)=>
  match h.getD k .dead with
  | .rows _ _ w m g=>.br (Nat.blt i m) (.br (Nat.ble (j+n) w) (.ret (.agg ((List.range n).map λq=>(g.at i (j+q)).val).toArray)) .bad) .bad
  |_=>.bad
 |_,_=>.bad
def BP(P:Program)(t:TypeId)(a x:Value)(h:List ag):M (List ag):=
 match P.info? t,cellsOf x,a with
 |some i,some s,.pointer (some ⟨k,o,none⟩)=>
  match h.getD k .dead with
  | .cells true true c=>.br (Nat.beq s.length i.size) (.br (Nat.ble (o+s.length) c.length) (.ret (h.set k (.cells true true (c.take o++s++c.drop (o+s.length))))) .bad) .bad
  | .win true true r c=>.br (Nat.beq s.length i.size) (.br (Nat.ble (o+s.length) c.length) (.ret (h.set k (.win true true r (c.take o++s++c.drop (o+s.length))))) .bad) .bad
  | .ints true true l=>
   match s with
   |[.int .i64 v]=>.br (Nat.beq 1 i.size) (.br (Nat.blt o l.length) (.ret (h.set k (.ints true true (l.set o v)))) .bad) .bad
   |_=>.bad
  |_=>.bad
 |_,_,_=>.bad
def Wz(x:Value):M ((Nat->Value)×ag):=
 match cellsOf x with
 |some s=>.ret (λa=>.pointer (some ⟨a,0,none⟩),.cells true true s)
 |none=>.bad
def zeroOf(P:Program)(t:TypeId):Option Value:=
 match(P.info? t).bind (·.zero)with
 |some z=>cond (plain z) (some z) none
 |none=>none
def QW(P:Program)(t:TypeId):M ((Nat->Value)×ag):=
 match zeroOf P t with
 |some z=>Wz z
 |none=>.bad
def allKnown(s:List Value):Bool:=s.all λv=>(cellsOf v).isSome
def places(P:Program)(s:List Field):Option (List (Nat×Nat)):=
 match s with
 |[]=>some []
 |f::r=>match P.info? f.type,places P r with
  |some i,some p=>some ((f.offset,i.size)::p)
  |_,_=>none
def QM(P:Program)(t:TypeId)(p:Array (Nat×Value)):M Value:=
 match zeroOf P t,P.underlying t with
 |some z,some (.struct f)=>
  match places P f.toList,allKnown (p.toList.map (·.2))with
  |some s,true=>
   match Instr.fill (λi=>s[i]?) z.cells p.toList with
   |some c=>.ret (.agg c)
   |none=>.bad
  |_,_=>.bad
 |some z,some (.array _ e)=>
  match P.info? e,allKnown (p.toList.map (·.2))with
  |some i,true=>
   match Instr.fill (λk=>some (k*i.size,i.size)) z.cells p.toList with
   |some c=>.ret (.agg c)
   |none=>.bad
  |_,_=>.bad
 |_,_=>.bad
def yG(P:Program)(t:TypeId)(l:Nat)(p:Array (Nat×Value)):M ((Nat->Value)×ag):=
 match P.underlying t with
 |some (.slice e)=>
  match P.info? e,zeroOf P e,allKnown (p.toList.map (·.2))with
  |some i,some z,true=>
   match Nat.ble (l*i.size) 16777216,Instr.fill (λk=>some (k*i.size,i.size)) ((Array.range (l*i.size)).map (λj=>z.cells[j%z.cells.size]!)) p.toList with
   |true,some c=>.ret (λa=>.slice (some ⟨a,0,none⟩) l l,.cells true true c.toList)
   |_,_=>.bad
  |_,_,_=>.bad
 |_=>.bad
def AQ(P:Program)(s:TypeId)(x:Value)(f:Nat):M Value:=
 match P.underlying s with
 |some (.struct a)=>
  match a[f]? with
  |some d=>
   match P.info? d.type with
   |some i=>
    match Nat.beq i.size 0,x with
    |false,.pointer (some ⟨k,o,none⟩)=>.ret (.pointer (some ⟨k,o+d.offset,none⟩))
    |false,.pointer (some ⟨k,r,some j⟩)=>.ret (.pointer (some ⟨k,r,some (j+d.offset)⟩))
    |_,_=>.bad
   |none=>.bad
  |none=>.bad
 |_=>.bad
def NH(P:Program)(t:TypeId)(c:Array Value)(o:Nat):M Value:=
 match qB P t with
 |some none=>.ofOption c[o]?
 |some (some n)=>.ret (.agg (c.extract o (o+n)))
 |none=>.bad
def PX{α:Type}(i:Int):Nat->(Nat->M α)->M α
 |0,_=>.bad
 |n+1,f=>.br (decide (i=(n:Int))) (f n) (PX i n f)
def gu(i:Int)(n:Nat):Bool:=decide (0<=i)&&decide (i<(n:Int))
def oh(P:Program)(t:TypeId)(x b:Value)(h:List ag):M Value:=
 match b with
 | .int _ i=>
  match P.underlying t,x with
  |some (.array l e),.pointer (some ⟨k,o,none⟩)=>
   match P.info? e with
   |some n=>PX i l λj=>.ret (.pointer (some ⟨k,o+j*n.size,none⟩))
   |none=>.bad
  |some (.slice e),.slice (some ⟨k,o,none⟩) l _=>
   match P.info? e with
   |some n=>
    match h.getD k .dead with
    | .cells _ _ _=>PX i l λj=>.ret (.pointer (some ⟨k,o+j*n.size,none⟩))
    | .ints _ _ _=>match n.size with
     |1=>.br (gu i l) (.ret (.pointer (some ⟨k,o+i.toNat,none⟩))) .bad
     |_=>.bad
    |_=>.bad
   |none=>.bad
  |some (.slice e),.slice (some ⟨k,r,some 0⟩) l _=>
   match P.info? e with
   |some n=>
    match h.getD k .dead with
    | .rows _ _ w _ _=>.br (Nat.beq w n.size) (.br (gu i l) (.ret (.pointer (some ⟨k,r+i.toNat,some 0⟩))) .bad) .bad
    |_=>.bad
   |none=>.bad
  |some (.slice e),.slice (some ⟨k,a,some 4⟩) l _=>
   match P.info? e with
   |some n=>
    match h.getD k .dead with
    | .win _ _ _ c=>.br (Nat.beq c.length n.size) (.br (gu i l) (.br (decide (i=(a:Int))) (.ret (.pointer (some ⟨k,0,none⟩))) .bad) .bad) .bad
    |_=>.bad
   |none=>.bad
  |some (.slice e),.slice (some ⟨k,0,some 1⟩) l _=>
   match P.info? e with
   |some n=>
    match h.getD k .dead with
    | .ints _ _ _=>match n.size with
     |1=>.br (gu i l) (.ret (.pointer (some ⟨k,i.toNat,none⟩))) .bad
     |_=>.bad
    | .rows _ _ w _ _=>.br (Nat.beq w n.size) (.br (gu i l) (.ret (.pointer (some ⟨k,i.toNat,some 0⟩))) .bad) .bad
    |_=>.bad
   |none=>.bad
  |_,_=>.bad
 |_=>.bad
def PW(P:Program)(t:TypeId)(x a:Value):M Value:=
 match a,P.underlying t,x with
 | .int _ i,some (.array l e),.agg c=>
  match P.info? e with
  |some n=>PX i l λj=>NH P e c (j*n.size)
  |none=>.bad
 |_,_,_=>.bad
def Gi(x:Value)(i:Nat):M Value:=
 match x with
 | .tuple v=>.ofOption v[i]?
 |_=>.bad
def fD:List Bool->List Value->List Value->Option Bool
 |[],[],[]=>some true
 |false::p,.int k a::r,.int d b::c=>match decide (k=d),fD p r c with|true,some e=>some (a==b&&e)|_,_=>none
 |true::p,.bool a::r,.bool b::c=>match fD p r c with|some e=>some (a==b&&e)|none=>none
 |_,_,_=>none
def NR(E:Env)(t:TypeId):Option (List Bool):=
 match E.eqs.find? λe=>Nat.beq e.1 t with
 |some e=>some e.2
 |none=>none
def acA(E:Env)(o:BinOp)(t:TypeId)(x y:Value):M Value:=
 match o,x,y with
 | .shl,.int k a,.int _ b=>.br (decide (b<0)) .bad (.ret (.int k (k.wrap (a*2^(min b.toNat k.bits)))))
 | .add,.int k a,.int c b=>.br (decide (k=c)) (.ret (.int k (k.wrap (a+b)))) .bad
 | .sub,.int k a,.int c b=>.br (decide (k=c)) (.ret (.int k (k.wrap (a-b)))) .bad
 | .mul,.int k a,.int c b=>.br (decide (k=c)) (.ret (.int k (k.wrap (a*b)))) .bad
 | .quo,.int k a,.int c b=>.br (decide (k=c)) (.br (decide (b=0)) .bad (.ret (.int k (k.wrap (a.tdiv b))))) .bad
 | .rem,.int k a,.int c b=>.br (decide (k=c)) (.br (decide (b=0)) .bad (.ret (.int k (a.tmod b)))) .bad
 | .and,.int k a,.int c b=>.br (decide (k=c)) (.ret (.int k (bits .and k a b))) .bad
 | .or,.int k a,.int c b=>.br (decide (k=c)) (.ret (.int k (bits .or k a b))) .bad
 | .xor,.int k a,.int c b=>.br (decide (k=c)) (.ret (.int k (bits .xor k a b))) .bad
 | .andNot,.int k a,.int c b=>.br (decide (k=c)) (.ret (.int k (bits .andNot k a b))) .bad
 | .eql,.int k a,.int c b=>.br (decide (k=c)) (.ret (.bool (a==b))) .bad
 | .neq,.int k a,.int c b=>.br (decide (k=c)) (.ret (.bool (a != b))) .bad
 | .lss,.int k a,.int c b=>.br (decide (k=c)) (.ret (.bool (decide (a<b)))) .bad
 | .lss,.iface 901 (.agg _),.int .i64 0=>.ret (.bool false)
 | .leq,.int k a,.int c b=>.br (decide (k=c)) (.ret (.bool (decide (a<=b)))) .bad
 | .gtr,.int k a,.int c b=>.br (decide (k=c)) (.ret (.bool (decide (a>b)))) .bad
 | .geq,.int k a,.int c b=>.br (decide (k=c)) (.ret (.bool (decide (a>=b)))) .bad
 | .eql,.bool a,.bool b=>match E.P.underlying t with|some .bool=>.ret (.bool (a==b))|_=>.bad
 | .neq,.bool a,.bool b=>match E.P.underlying t with|some .bool=>.ret (.bool (!(a==b)))|_=>.bad
 | .eql,.pointer a,.pointer none=>match E.P.underlying t with|some (.pointer _)=>.ret (.bool a.isNone)|_=>.bad
 | .neq,.pointer a,.pointer none=>match E.P.underlying t with|some (.pointer _)=>.ret (.bool (!a.isNone))|_=>.bad
 | .eql,.slice a _ _,.slice none 0 0=>match E.P.underlying t with|some (.slice _)=>.ret (.bool a.isNone)|_=>.bad
 | .neq,.slice a _ _,.slice none 0 0=>match E.P.underlying t with|some (.slice _)=>.ret (.bool (!a.isNone))|_=>.bad
 | .eql,.func _ _ _,.nilFunc=>match E.P.underlying t with|some (.func _ _ _)=>.ret (.bool false)|_=>.bad
 | .neq,.func _ _ _,.nilFunc=>match E.P.underlying t with|some (.func _ _ _)=>.ret (.bool true)|_=>.bad
 | .eql,.nilFunc,.nilFunc=>match E.P.underlying t with|some (.func _ _ _)=>.ret (.bool true)|_=>.bad
 | .neq,.nilFunc,.nilFunc=>match E.P.underlying t with|some (.func _ _ _)=>.ret (.bool false)|_=>.bad
 | .eql,.agg s,.agg d=>
  match NR E t with
  |some p=>match fD p s.toList d.toList with
   |some b=>.ret (.bool b)
   |none=>.bad
  |none=>.bad
 | .neq,.agg s,.agg d=>
  match NR E t with
  |some p=>match fD p s.toList d.toList with
   |some b=>.ret (.bool (!b))
   |none=>.bad
  |none=>.bad
 |_,_,_=>.bad
def unM(o:UnOp)(x:Value):M Value:=
 match o,x with
 | .not,.bool b=>.ret (.bool (!b))
 |_,_=>.bad
def Gn(P:Program)(s d:TypeId)(x:Value):M Value:=
 match P.underlying s,P.underlying d,x with
 |some _,some (.int k),.int _ a=>.ret (.int k (k.wrap a))
 |_,_,_=>.bad
def Cr(x:Value):M Value:=
 match x with
 | .pointer (some a)=>.ret (.pointer (some a))
 | .func (.func f) a c=>.ret (.func (.func f) a c)
 |_=>.bad
def Ve(c a b:Value):M Value:=
 match c with
 | .bool t=>.br t (.ret a) (.ret b)
 |_=>.bad
def Ap(P:Program)(t:TypeId)(n p:Value):M ((Nat->Value)×ag):=
 match P.underlying t,n,p with
 |some (.slice e),.int .i64 l,.int .i64 c=>
  match P.info? e,zeroOf P e with
  |some i,some (.int .i64 0)=>
   .br (Nat.beq i.size 1&&Nat.beq i.bytes 8) (.br (decide (l=c)) (.br (decide (0<=l)&&decide (l<=1048576))
    (.ret (λa=>.slice (some ⟨a,0,none⟩) l.toNat l.toNat,.ints true true (List.replicate l.toNat 0))) .bad) .bad) .bad
  |some i,some (.bool false)=>
   .br (Nat.beq i.size 1&&Nat.ble i.bytes 8) (.br (decide (l=c)) (.br (decide (0<=l)&&decide (l<=1048576))
    (.ret (λa=>.slice (some ⟨a,0,none⟩) l.toNat l.toNat,.cells true true (List.replicate l.toNat (.bool false)))) .bad) .bad) .bad
  |_,_=>.bad
 |_,_,_=>.bad
def VU(x:Int)(no:M Value)(yes:Value->M Value):List (Int×Value)->M Value
 |[]=>no
 |(k,v)::r=>.br (x==k) (yes v) (VU x no yes r)
def vP(P:Program)(t:TypeId)(m i:Value)(o:Bool)(h:List ag):M Value:=
 match P.underlying t with
 |some (.map k e)=>
  match P.underlying k,zeroOf P e,m,i with
  |some (.int .i64),some z,.map (some b),.int .i64 x=>
   match h.getD b .dead with
   | .jK _ _ l=>VU x (.ret (cond o (.tuple #[z,.bool false]) z)) (λv=>.ret (cond o (.tuple #[v,.bool true]) v)) l
   |_=>.bad
  |_,_,_,_=>.bad
 |_=>.bad
def Qm(x:Int):List (Int×Value)->M Unit
 |[]=>.ret ()
 |(k,_)::r=>.br (x==k) .bad (Qm x r)
def zo(P:Program)(t:TypeId)(m k v:Value)(h:List ag):M (List ag):=
 match P.underlying t with
 |some (.map a _)=>
  match P.underlying a,m,k with
  |some (.int .i64),.map (some b),.int .i64 x=>
   match h.getD b .dead with
   | .jK true true l=>.bind (Qm x l) λ_=>.ret (h.set b (.jK true true (l++[(x,v)])))
   |_=>.bad
  |_,_,_=>.bad
 |_=>.bad
def abz(P:Program)(t:TypeId)(x:Value):M Value:=
 match P.underlying t,x with
 |some (.slice _),.slice _ l _=>.ret (.int .i64 (l:Int))
 |some (.array l _),_=>.ret (.int .i64 (l:Int))
 |_,_=>.bad
def Vr(x y:Value):M Value:=
 match x,y with
 | .int k a,.int _ b=>.ret (.int k (if b<a then b else a))
 |_,_=>.bad
def Vu(x y:Value):M Value:=
 match x,y with
 | .int k a,.int _ b=>.ret (.int k (if b>a then b else a))
 |_,_=>.bad
def zC:Value->Option Int
 | .int .i64 a=>some a
 | .iface 900 (.agg a)=>match a.toList with
  |[.int .i64 b,.int .i64 own,.int .i64 s,.bool brk,.bool f,.int .i64 u,.int .i64 e,.int .i64 ep,.int .i64 c]=>some (Go.Proofs.YteaflphddciglaaGreatDoor.bH ⟨b,own,s,brk,f,u,e,ep,c⟩)
  |_=>none
 |_=>none
def mU:List Value->Option (List Int)
 |[]=>some []
 |x::r=>match zC x,mU r with|some a,some l=>some (a::l)|_,_=>none
def DD(h:List ag)(x:Value):M (List Int):=
 match x with
 | .slice none 0 0=>.ret []
 | .slice (some ⟨0,0,some 3⟩) 0 0=>.ret []
 | .slice (some ⟨k,o,none⟩) l _=>
  match h.getD k .dead with
  | .ints _ _ s=>.br (Nat.ble (o+l) s.length) (.ret ((s.drop o).take l)) .bad
  | .cells _ _ c=>.br (Nat.ble (o+l) c.length) (.ofOption (mU ((c.drop o).take l))) .bad
  |_=>.bad
 | .slice (some ⟨k,0,some 1⟩) l 0=>
  match h.getD k .dead with
  | .ints _ _ s=>.br (Nat.ble l s.length) (.ret (s.take l)) .bad
  |_=>.bad
 |_=>.bad
def fG(n:Nat):Bool:=Nat.ble n 1073741824
def iJ(k l:Nat):Value:=.slice (some ⟨k,0,some 1⟩) l 0
def rz(s:Value)(x:List Int)(h:List ag):M (Value×List ag):=
 match s with
 | .slice none 0 0=>.br (Nat.beq x.length 0) (.ret (s,h)) (.br (fG x.length) (.ret (iJ h.length x.length,h++[.ints true true x])) .bad)
 | .slice (some ⟨0,0,some 3⟩) 0 0=>.br (Nat.beq x.length 0) (.ret (s,h)) (.br (fG x.length) (.ret (iJ h.length x.length,h++[.ints true true x])) .bad)
 | .slice (some ⟨k,o,none⟩) l c=>
  .br (Nat.beq l c) (.br (Nat.beq x.length 0) .bad (.bind (DD h (.slice (some ⟨k,o,none⟩) l c)) λy=>
   .br (fG (l+x.length)) (.ret (iJ h.length (l+x.length),h++[.ints true true (y++x)])) .bad)) .bad
 | .slice (some ⟨k,0,some 1⟩) l 0=>
  match h.getD k .dead with
  | .ints true true y=>.br (Nat.beq l y.length) (.br (Nat.beq x.length 0) (.ret (s,h)) (.br (fG (l+x.length)) (.ret (iJ h.length (l+x.length),h.set k .dead++[.ints true true (y++x)])) .bad)) .bad
  |_=>.bad
 |_=>.bad
def qA(n:Nat)(s:Value)(x:List Value)(h:List ag):M (Value×List ag):=
 match s with
 | .slice none 0 0=>.ret (iJ h.length 1,h++[.rows true true n 1 (rowOf x)])
 | .slice (some ⟨k,0,some 1⟩) l 0=>
  match h.getD k .dead with
  | .rows true true w m g=>.br (Nat.beq w n) (.br (Nat.beq l m) (.br (fG (l+1)&&mh g.ks (x.map KN)) (.ret (iJ h.length (l+1),h.set k .dead++[.rows true true n (m+1) (eY m x g)])) .bad) .bad) .bad
  |_=>.bad
 |_=>.bad
def zG(P:Program)(t:TypeId)(a:TypeId)(s x:Value)(l:List ag):M (Value×List ag):=
 match P.underlying t,P.underlying a with
 |some (.slice e),some (.slice _)=>
  match P.info? e,P.underlying e,zeroOf P e with
  |some i,some (.int .i64),some (.int .i64 0)=>.br (Nat.beq i.size 1&&Nat.beq i.bytes 8) (.bind (DD l x) λb=>rz s b l) .bad
  |some i,some (.struct _),some (.agg z)=>
   match x with
   | .slice (some ⟨k,0,none⟩) 1 1=>
    match l.getD k .dead with
    | .cells _ _ c=>.br (Nat.beq c.length i.size&&Nat.beq z.size i.size&&Nat.ble 1 i.size&&Nat.ble i.bytes 1024&&c.all oV) (qA i.size s c l) .bad
    |_=>.bad
   |_=>.bad
  |some i,some .bool,some (.bool z)=>
   match x with
   | .slice (some ⟨k,0,none⟩) 1 1=>
    match l.getD k .dead with
    | .cells _ _ c=>.br (Nat.beq c.length i.size&&Nat.beq 1 i.size&&Nat.ble 1 i.size&&Nat.ble i.bytes 1024&&c.all oV) (qA i.size s c l) .bad
    |_=>.bad
   |_=>.bad
  |_,_,_=>.bad
 |_,_=>.bad
def E8(E:Env)(e:Operand->Value)(l:List ag)(k:Op):M Value:=
 match k with
 | .move x=>.ret (e x)
 | .assign x=>.ret (e x)
 | .pick c a b=>Ve (e c) (e a) (e b)
 | .build t p=>QM E.P t (p.map λ(i,x)=>(i,e x))
 | .load t a=>vK E.P t (e a) l
 | .nilCheck x=>Cr (e x)
 | .binOp o t x y _=>acA E o t (e x) (e y)
 | .unOp o _ x=>unM o (e x)
 | .convert r h x=>Gn E.P r h (e x)
 | .makeFunc (.func f) first captured=>.ret (.func (.func f) (first.map e) (captured.map e))
 | .fieldAddr s x f=>AQ E.P s (e x) f
 | .indexAddr t x d=>oh E.P t (e x) (e d) l
 | .index t x d=>PW E.P t (e x) (e d)
 | .extract t d=>Gi (e t) d
 | .lookup t m d n=>vP E.P t (e m) (e d) n l
 | .call c=>
  match c.callee,c.args.toList,c.argTypes.toList with
  | .builtin .len,[x],[t]=>abz E.P t (e x)
  | .builtin .min,[x,y],_=>Vr (e x) (e y)
  | .builtin .max,[x,y],_=>Vu (e x) (e y)
  |_,_,_=>.bad
 |_=>.bad
def Pm(E:Env)(e:Operand->Value)(o:Op):M ((Nat->Value)×ag):=
 match o with
 | .alloc t=>QW E.P t
 | .box _ x=>Wz (e x)
 | .buildSlice t b p=>yG E.P t b (p.map λ(i,x)=>(i,e x))
 | .makeSlice t l c=>Ap E.P t (e l) (e c)
 | .makeMap _ none=>.ret (λa=>.map (some a),.jK true true [])
 |_=>.bad
def Ar(E:Env)(B:FuncId->List Value->List ag->M (Value×List ag))(e:Operand->Value)(l:List ag)(o:Op):M (Value×List ag):=
 match o with
 | .store t a x=>.bind (BP E.P t (e a) (e x) l) λV=>.ret (undef,V)
 | .insert t m k x=>.bind (zo E.P t (e m) (e k) (e x) l) λV=>.ret (undef,V)
 | .call c=>
  match c.callee with
  | .value f=>
   match e f with
   | .func (.func g) a p=>B g (a.toList++c.args.toList.map e++p.toList) l
   |_=>.bad
  | .builtin b=>
   match b,c.args.toList,c.argTypes.toList with
   | .append,[x,y],[t,u]=>zG E.P t u (e x) (e y) l
   |_,_,_=>.bad
  | .invoke _ _=>.bad
 |_=>.bad
def kindOf:Op->Nat
 | .alloc _| .box _ _| .buildSlice _ _ _| .makeSlice _ _ _| .makeMap _ _=>1
 | .store _ _ _| .insert _ _ _ _=>2
 | .call c=>match c.callee with
  | .builtin .len| .builtin .min| .builtin .max=>0
  |_=>2
 |_=>0
def Yu(E:Env)(b:FuncId->List Value->List ag->M (Value×List ag))(e:Operand->Value)(l:List ag)(o:Op):M (Value×List ag):=
 match kindOf o with
 |0=>.bind (E8 E e l o) λv=>.ret (v,l)
 |1=>.bind (Pm E e o) λr=>.ret (r.1 l.length,l++[r.2])
 |_=>Ar E b e l o
def lY(m:List Value)(s:Option Tmp)(v:Value):List Value:=
 match s with
 |some d=>m.set d v
 |none=>m
def aiZ(E:Env)(b:FuncId->List Value->List ag->M (Value×List ag))(o:Oper)(s:St):M St:=
 .bind (Yu E b (qx E.G s.tmps) s.lh o.op) λr=>.ret ⟨lY s.tmps o.dst r.1,r.2⟩
def XI(o:Oper)(s:St):M St:=.ret ⟨lY s.tmps o.dst (.chan (some 0)),s.lh⟩
def C8{α:Type}(p:Array Oper)(o:Oper)(s:St)(yes no:St->M α):M α:=
 match o.guard with
 |none=>yes s
 |some (j,w)=>
  match(p[j]?).bind (·.dst)with
  |none=>.bad
  |some t=>
   match s.tmps.getD t undef with
   | .bool b=>
    .br b (cond w (yes ⟨s.tmps.set t (.bool true),s.lh⟩) (no ⟨s.tmps.set t (.bool true),s.lh⟩))
     (cond w (no ⟨s.tmps.set t (.bool false),s.lh⟩) (yes ⟨s.tmps.set t (.bool false),s.lh⟩))
   | .chan _=>no s
   |_=>.bad
def Ow(E:Env)(b:FuncId->List Value->List ag->M (Value×List ag))(p:Array Oper)(i:Nat)(s:St):M St:=
 match p[i]? with
 |none=>.ret s
 |some o=>C8 p o s (aiZ E b o) (XI o)
def GX(f:Nat->St->M St):List Nat->St->M St
 |[],s=>.ret s
 |i::r,s=>.bind (f i s) (GX f r)
def DT(P:Program)(s:St):ResultVar->M Value
 | .tmp t=>.ret (s.tmps.getD t undef)
 | .cell a t=>vK P t (s.tmps.getD a undef) s.lh
def wC(P:Program)(s:St):List ResultVar->M (List Value)
 |[]=>.ret []
 |r::a=>.bind (DT P s r) λv=>.bind (wC P s a) λb=>.ret (v::b)
def wB(P:Program)(f:Func)(s:St):M Value:=
 .bind (wC P s f.results.toList) λa=>match a with
  |[v]=>.ret v
  |_=>.ret (.tuple a.toArray)
abbrev Dw:=Nat->Option (St->M (Exit×St))
def Vy(E:Env)(f:FuncId)(b:Nat):Dw:=λid=>
 match E.qQ f id with
 |some F=>some (F b)
 |none=>none
def Jz(E:Env)(x:Dw->Code->St->M (Exit×St))(f:FuncId)(a:List Value)(l:List ag):M (Value×List ag):=
 match E.LU f with
 |some F=>F a l
 |none=>
  match E.fns.find? λe=>Nat.beq e.1 f with
  |none=>.bad
  |some e=>
   match e.2.body with
   |none=>.bad
   |some c=>
    .bind (x (Vy E f l.length) c ⟨a++List.replicate (e.2.ntmps-a.length) undef,l⟩) λr=>
     match r.1 with
     | .normal=>.bind (wB E.P e.2 r.2) λv=>.ret (v,r.2.lh)
     | .ret=>.bind (wB E.P e.2 r.2) λv=>.ret (v,r.2.lh)
     |_=>.bad
def oO(p:List Oper):List Nat:=
 p.foldl (λa o=>a++[o.after.toList.foldl (λs e=>cond (Region.binds .any e) (s|||2^e.on|||a.getD e.on 0) s) 0]) []
def Dk(p:List Oper):Bool:=p.zipIdx.all λ(o,i)=>o.after.toList.all λe=> !Region.binds .any e||Nat.blt e.on i
def Kq(Y:List Nat)(l:Nat)(i:Nat):Bool:= !Nat.testBit l i&&Nat.beq (Y.getD i 0&&&l) (Y.getD i 0)
def Vl(Y k:List Nat)(n:Nat):Nat->Nat->List Nat
 |0,_=>[]
 |f+1,l=>
  let r:=(List.range n).filter (Kq Y l)
  match r.find? λi=> !Nat.beq (k.getD i 2) 2 with
  |some i=>i::Vl Y k n f (l|||2^i)
  |none=>match r with
   |i::_=>i::Vl Y k n f (l|||2^i)
   |[]=>[]
def Ae(o:List Oper):List Nat:=Vl (oO o) (o.map (kindOf ·.op)) o.length o.length 0
def ordered(Y:List Nat)(i j:Nat):Bool:=Nat.testBit (Y.getD i 0) j||Nat.testBit (Y.getD j 0) i
def tmpsOf:List Operand->List Nat
 |[]=>[]
 | .tmp t::r=>t::tmpsOf r
 |_::r=>tmpsOf r
def named(p:Array Oper)(o:Oper):List Nat:=
 o.dst.toList++tmpsOf o.op.operands.toList++(match o.guard with|some (g,_)=>((p[g]?).bind (·.dst)).toList|none=>[])
def Xb(p:Array Oper)(Y:List Nat):Bool:=
 p.toList.zipIdx.all λ(o,i)=>(named p o).all λt=>p.toList.zipIdx.all λ(q,j)=> !(match q.dst with|some d=>Nat.beq d t|none=>false)||Nat.beq i j||ordered Y i j
def NJ(Y a:List Nat):List Nat->Nat->Bool
 |[],_=>true
 |i::r,l=>Kq Y l i&&a.zipIdx.all (λ(k,j)=> !Nat.beq k 2|| !Nat.testBit l j||Nat.testBit (Y.getD i 0) j)&&NJ Y a r (l|||2^i)
def IW(o:Array Oper):Bool:=
 let l:=o.toList
 let Y:=oO l
 let k:=l.map (kindOf ·.op)
 Dk l&&Xb o Y&&NJ Y k (Ae l) 0&&((List.range l.length).all λi=>(Ae l).any λj=>Nat.beq i j)&&(Ae l).all λi=>Nat.blt i l.length
def oN:Value->List Nat
 | .pointer (some a)=>[a.block]
 | .slice (some a) _ _=>[a.block]
 | .map (some k)=>[k]
 |_=>[]
def readsOf(e:Operand->Value):Op->List Nat
 | .load _ a=>oN (e a)
 | .indexAddr _ x _=>oN (e x)
 | .lookup _ m _ _=>oN (e m)
 |_=>[]
def tC(U:List Nat)(h:List ag):List ag:=U.foldl (λl k=>l.set k (l.getD k .dead).uW) h
def kZ(U:List Nat)(a h:List ag):List ag:=U.foldl (λl k=>l.set k (a.getD k .dead)) h
def qV(E:Env)(b:FuncId->List Value->List ag->M (Value×List ag))(p:Array Oper)(Y:List Nat):List Nat->List (Nat×List Nat)->St->M St
 |[],_,s=>.ret s
 |i::r,a,s=>
  match p[i]? with
  |none=>.bad
  |some o=>C8 p o s
   (λs=>
    match kindOf o.op with
    |0=>.br ((readsOf (qx E.G s.tmps) o.op).all λk=>Nat.blt k s.lh.length) (.bind (E8 E (qx E.G s.tmps) s.lh o.op) λv=>qV E b p Y r ((i,readsOf (qx E.G s.tmps) o.op)::a) ⟨lY s.tmps o.dst v,s.lh⟩) .bad
    |1=>.bind (Pm E (qx E.G s.tmps) o.op) λq=>qV E b p Y r ((i,[s.lh.length])::a) ⟨lY s.tmps o.dst (q.1 s.lh.length),s.lh++[q.2]⟩
    |_=>
     let U:=a.flatMap λe=>cond (Nat.testBit (Y.getD i 0) e.1) [] e.2
     .bind (Ar E b (qx E.G s.tmps) (tC U s.lh) o.op) λq=>qV E b p Y r a ⟨lY s.tmps o.dst q.1,kZ U s.lh q.2⟩)
   (λs=>qV E b p Y r a ⟨lY s.tmps o.dst (.chan (some 0)),s.lh⟩)
def V6(E:Env)(b:FuncId->List Value->List ag->M (Value×List ag))(o:Array Oper)(s:St):M St:=
 .br (IW o) (qV E b o (oO o.toList) (Ae o.toList) [] s) .bad
def exec(E:Env):Nat->Dw->Code->St->M (Exit×St)
 |0,_,_,_=>.bad
 |n+1,L,c,s=>
  match c with
  | .skip=>.ret (.normal,s)
  | .region _ o false=>.bind (GX (Ow E (Jz E (exec E n)) o) (List.range o.size) s) λd=>.ret (.normal,d)
  | .region _ o true=>.bind (V6 E (Jz E (exec E n)) o s) λd=>.ret (.normal,d)
  | .seq a b=>.bind (exec E n L a s) λr=>match r.1 with
   | .normal=>exec E n L b r.2
   |_=>.ret r
  | .cond c x y=>
   match qx E.G s.tmps c with
   | .bool b=>.br b (exec E n L x s) (exec E n L y s)
   |_=>.bad
  | .block id b=>
   match L id with
   |some F=>F s
   |none=>.bind (exec E n L b s) λr=>match r.1 with
    | .exit i=>cond (Nat.beq i id) (.ret (.normal,r.2)) (.ret r)
    |_=>.ret r
  | .loop b=>.bind (exec E n L b s) λr=>match r.1 with
   | .normal=>exec E n L (.loop b) r.2
   |_=>.ret r
  | .exit id=>.ret (.exit id,s)
  | .ret=>.ret (.ret,s)
  |_=>.bad
def call(E:Env)(n:Nat)(f:FuncId)(a:List Value)(l:List ag):M (Value×List ag):=Jz E (exec E n) f a l
def iU:Code->List (Nat×Code)
 | .seq a b=>iU a++iU b
 | .cond _ x y=>iU x++iU y
 | .block id b=>(id,b)::iU b
 | .loop b=>iU b
 |_=>[]
def oneOf:List (Nat×Code)->Option Code
 |[p]=>some p.2
 |_=>none
def sF(id:Nat)(c:Code):Option Code:=oneOf ((iU c).filter λp=>Nat.beq p.1 id)
def xY(id:Nat)(c:Code):Code:=(sF id c).getD .skip
def lpB:Code->Code
 | .loop b=>b
 |_=>.skip
theorem mW{α:Type}{Q:Nat->α->Prop}:∀n,(∀j,j<n->∃v,Q j v)->∃c:List α,c.length=n/\∀j v,c[j]?=some v->Q j v
 |0,_=>⟨[],rfl,λj v h=>by simp at h⟩
 |n+1,h=>by
  obtain⟨c,l,a⟩:=mW n λj b=>h j (by omega);obtain⟨v,d⟩:=h n (by omega);refine⟨c++[v],by simp[l],λj u e=> ?_⟩;grind
def Mk{P:Program}{t:TypeId}(h:qB P t=some none)(w:World):(isAgg t).run P w=.ok false w:=by
 unfold qB at h;split at h
 .cases h
 .simp_all
 .simp_all
 .rename_i d a b u
  simp only[isAgg,cd,cF u,bd];simp_all
def Ml{P}{t}{m}(h:qB P t=some (some m))(w):(isAgg t).run P w=.ok true w/\(sizeOf t).run P w=.ok m w:=by
 unfold qB at h;split at h
 .cases h
 .rename_i u
  cases a:P.info? t with
  |none=>simp[a]at h
  |some i=>
   simp[a]at h;refine⟨by simp[isAgg,cF u],by simp[sizeOf,typeInfo,a,h]⟩
 .rename_i u
  cases a:P.info? t with
  |none=>simp[a]at h
  |some i=>
   simp[a]at h;refine⟨by simp[isAgg,cF u],by simp[sizeOf,typeInfo,a,h]⟩
 .cases h
def ni{P}{t}(h:qB P t=some none){w}{a}{v}(c:w.cell? a=some v):(loadVar t a).run P w=.ok v w:=by
 simp[loadVar,Mk h,c]
def qH{P:Program}{t:TypeId}{m:Nat}(h:qB P t=some (some m)){w:World}{a:Addr}(c:List Value)(l:c.length=m)(b:∀j v,c[j]?=some v->w.cell? (a.add j)=some v):
  (loadVar t a).run P w=.ok (.agg c.toArray) w:=by
 obtain⟨d,e⟩:=Ml h w;subst l;simp[loadVar,d,e,run_loadCells_list w a c b]
def run_sizeOf{P}{t}{i}(h:P.info? t=some i)(w):(sizeOf t).run P w=.ok i.size w:=by simp[sizeOf,typeInfo,h]
def run_typeInfo{P}{t}{i}(h:P.info? t=some i)(w):(typeInfo t).run P w=.ok i w:=by simp[typeInfo,h]
def lU{P}{t}{z}(h:zeroOf P t=some z)(w):(zeroValue t).run P w=.ok z w/\plain z=true:=by
 unfold zeroOf at h;cases a:P.info? t with
 |none=>simp[a]at h
 |some i=>
  simp[a]at h;cases b:i.zero with
  |none=>simp[b]at h
  |some u=>
   simp[b]at h;cases p:plain u with
   |false=>simp[p]at h
   |true=>
    simp[p]at h;subst h;exact⟨by simp[zeroValue,typeInfo,a,b],p⟩
def kg{a b:Nat}(h:Nat.blt a b=true):a<b:=by simp_all
def fo{a b:Nat}(h:Nat.ble a b=true):a<=b:=ey h
theorem beq_true{a b:Nat}(h:Nat.beq a b=true):a=b:=cJ h
section
variable{P:Program} {n:Nat->Prop} {w0:World} {G:Kj} {σ:Nat->Option Pl} {lh:List ag} {w:World}
def VR.gL{k o:Nat}{a:Value}(h:VR σ (.pointer (some ⟨k,o,none⟩)) a):∃p,σ k=some p/\a=.pointer (some ⟨p.b,p.o+o,none⟩):=by
 cases h with
 |ptr h=>grind
def VR.qL{k i j:Nat}{a:Value}(h:VR σ (.pointer (some ⟨k,i,some j⟩)) a):∃p,σ k=some p/\a=.pointer (some ⟨p.b,p.o+(i*p.wd+j),none⟩):=by
 cases h with
 |lD h=>grind
def HR.jB(h:HR n w0 G σ lh w){k:Nat}{p:Pl}(b:σ k=some p){o wr:Bool}{c:List Value}(l:lh.getD k .dead=.cells o wr c){i:Nat}{v:Value}(d:c[i]?=some v):
  ∃a,w.cell? ⟨p.b,p.o+i,none⟩=some a/\VR σ v a:=by
 have:=(h.blk k p b).2;grind
def HR.GD(h:HR n w0 G σ lh w){k:Nat}{p:Pl}(b:σ k=some p){o wr:Bool}{r:Nat->Option Value}{c:List Value}(l:lh.getD k .dead=.win o wr r c){i:Nat}{v:Value}(d:c[i]?=some v):
  ∃a,w.cell? ⟨p.b,p.o+i,none⟩=some a/\VR σ v a:=by
 have:=(h.blk k p b).2;grind
def HR.zN(h:HR n w0 G σ lh w){k:Nat}{p:Pl}(a:σ k=some p){o wr:Bool}{r:Nat->Option Value}{c:List Value}(l:lh.getD k .dead=.win o wr r c):
  p.wd=c.length/\∀i,i<p.o\/p.o+p.wd<=i->w.cell? ⟨p.b,i,none⟩=r i:=by
 have:=(h.blk k p a).2;grind
def HR.ints_at(h:HR n w0 G σ lh w){k:Nat}{p:Pl}(a:σ k=some p){o wr:Bool}{c:List Int}(l:lh.getD k .dead=.ints o wr c):p.wd=1/\∀i v,c[i]?=some v->w.cell? ⟨p.b,p.o+i,none⟩=some (.int .i64 v):=by
 have:=(h.blk k p a).2;grind
def HR.sj(h:HR n w0 G σ lh w){k:Nat}{p:Pl}(a:σ k=some p){o wr:Bool}{d m:Nat}{g:Rows}(l:lh.getD k .dead=.rows o wr d m g):
  p.wd=d/\∀i j,i<m->j<d->∃v,w.cell? ⟨p.b,p.o+(i*d+j),none⟩=some v/\VR σ (g.at i j).val v:=by
 have:=(h.blk k p a).2;grind
def EL(F:HR n w0 G σ lh w){t}{a S v}(K:VR σ a S)(h:(vK P t a lh).get=some v):
  ∃d,(Instr.loadAt t S).run P w=.ok d w/\VR σ v d:=by
 unfold vK at h;split at h
 .rename_i k o f
  obtain⟨p,B,rfl⟩:=K.gL;split at h
  .rename_i I wr c z
   simp at h;obtain⟨d,u,A⟩:=F.jB B z h;exact⟨d,by simp[Instr.loadAt,Instr.sureAddr,ni f u],A⟩
  .rename_i I wr U c z
   simp at h;obtain⟨d,u,A⟩:=F.GD B z h;exact⟨d,by simp[Instr.loadAt,Instr.sureAddr,ni f u],A⟩
  .rename_i I wr l z
   rcases M.af h with⟨C,b⟩|⟨_,b⟩
   .simp at b;subst b
    have L:=kg C;have u:=(F.ints_at B z).2 o (l.getD o 0) (by simp[L]);exact⟨.int .i64 (l.getD o 0),by simp only[Instr.loadAt,Instr.sureAddr,cd,cr,bd,ni f u],by simpa using VR.int _ _⟩
   .cases b
  .cases h
 .rename_i k i j f
  obtain⟨p,B,rfl⟩:=K.qL;split at h
  .rename_i I wr N m g z
   rcases M.af h with⟨C,h⟩|⟨_,b⟩
   .rcases M.af h with⟨H,b⟩|⟨_,b⟩
    .simp at b;subst b
     obtain⟨O,R⟩:=F.sj B z;obtain⟨d,u,A⟩:=R i j (kg C) (kg H);rw[<-O]at u;exact⟨d,by simp[Instr.loadAt,Instr.sureAddr,ni f u],A⟩
    .cases b
   .cases b
  .cases h
 .rename_i m k o f
  obtain⟨p,B,rfl⟩:=K.gL;split at h
  .rename_i I wr c z
   rcases M.af h with⟨C,b⟩|⟨_,b⟩
   .simp at b;subst b
    have J:=fo C
    obtain⟨E,r,s⟩:=mW (Q:=λj d=>w.cell? ⟨p.b,p.o+o+j,none⟩=some d/\∀x,c[o+j]?=some x->VR σ x d) m (λj V=>by
     obtain⟨d,u,A⟩:=F.jB B z (List.getElem?_eq_getElem (show o+j<c.length by omega));exact⟨d,by rw[Nat.add_assoc];exact u,λx e=>by rw[List.getElem?_eq_getElem (show o+j<c.length by omega)]at e;cases e;exact A⟩)
    refine⟨.agg E.toArray,?_,?_⟩
    .simp only[Instr.loadAt,Instr.sureAddr,cd,cr,bd]
     exact qH f E r λj v b=>by rw[gw];exact(s j v b).1
    .refine VR.agg (by simp[r];omega) fun i x y e D=> ?_
     simp only[iT]at e D;rw[gC]at e;split at e
     .rw[List.getElem?_drop]at e
      exact(s i y D).2 x e
     .cases e
   .cases b
  .rename_i I wr U c z
   rcases M.af h with⟨C,b⟩|⟨_,b⟩
   .simp at b;subst b
    have J:=fo C
    obtain⟨E,r,s⟩:=mW (Q:=λj d=>w.cell? ⟨p.b,p.o+o+j,none⟩=some d/\∀x,c[o+j]?=some x->VR σ x d) m (λj V=>by
     obtain⟨d,u,A⟩:=F.GD B z (List.getElem?_eq_getElem (show o+j<c.length by omega));exact⟨d,by rw[Nat.add_assoc];exact u,λx e=>by rw[List.getElem?_eq_getElem (show o+j<c.length by omega)]at e;cases e;exact A⟩)
    refine⟨.agg E.toArray,?_,?_⟩
    .simp only[Instr.loadAt,Instr.sureAddr,cd,cr,bd]
     exact qH f E r λj v b=>by rw[gw];exact(s j v b).1
    .refine VR.agg (by simp[r];omega) fun i x y e D=> ?_
     simp only[iT]at e D;rw[gC]at e;split at e
     .rw[List.getElem?_drop]at e
      exact(s i y D).2 x e
     .cases e
   .cases b
  .cases h
 .rename_i m k i j f
  obtain⟨p,B,rfl⟩:=K.qL;split at h
  .rename_i I wr N X g z
   rcases M.af h with⟨C,h⟩|⟨_,b⟩
   .rcases M.af h with⟨H,b⟩|⟨_,b⟩
    .simp at b;subst b
     have W:=kg C;have J:=fo H;obtain⟨O,R⟩:=F.sj B z
     obtain⟨E,r,s⟩:=mW (Q:=λq d=>w.cell? ⟨p.b,p.o+(i*p.wd+j)+q,none⟩=some d/\VR σ (g.at i (j+q)).val d) m (λq T=>by
      obtain⟨d,u,A⟩:=R i (j+q) W (by omega);exact⟨d,by rw[O,show p.o+(i*N+j)+q=p.o+(i*N+(j+q))by omega];exact u,A⟩)
     refine⟨.agg E.toArray,?_,?_⟩
     .simp only[Instr.loadAt,Instr.sureAddr,cd,cr,bd]
      exact qH f E r λq v b=>by rw[gw];exact(s q v b).1
     .refine VR.agg (by simp[r]) fun q x y e D=> ?_
      simp only[iT,cG]at e D;have T:q<m:=by have:=(List.getElem?_eq_some_iff.1 D).1;omega
      simp[tU T]at e;subst e;exact(s q y D).2
    .cases b
   .cases b
  .cases h
 .cases h
def qR{v a}(h:VR σ v a)(c:uB v=true):a.oneCell'=true:=by
 cases h<;>first|rfl|(simp[uB,undef]at c)
def AV{x f}{e}(h:VR σ x f)(b:cellsOf x=some e):
  ∃s:List Value,f.cells=s.toArray/\s.length=e.length/\(∀(i:Nat) (u d),e[i]?=some u->s[i]?=some d->VR σ u d)/\∀v∈s,v.oneCell'=true:=by
 have r:uB x=true->e=[x]->∃s:List Value,f.cells=s.toArray/\s.length=e.length/\(∀(i:Nat) (u d:Value),e[i]?=some u->s[i]?=some d->VR σ u d)/\∀v∈s,v.oneCell'=true:=by
  intro y m;have o:=qR h y;refine⟨[f],?_,by simp[m],λi u d k a=> ?_,λv p=>by simp at p;subst p;exact o⟩
  .cases f<;>first|rfl|(simp[Value.oneCell']at o)
  .subst m
   match i with
   |0=>simp at k a;subst k a;exact h
   |i+1=>simp at k
 unfold cellsOf at b;split at b
 .rename_i c
  cases q:c.all uB with
  |false=>simp[q]at b
  |true=>
   simp[q]at b;subst b;cases h with
   |agg A z=>
    rename_i B;refine⟨B.toList,by simp[Value.cells],by simp[A],λi u d k a=>z i u d (by simpa using k) (by simpa using a),λv p=> ?_⟩;obtain⟨i,C,rfl⟩:=ff.1 p;have l:i<c.size:=by simp at C;omega
    rw[jN]at q;exact qR (z i c[i] _ (cj l) (by simp)) (q i l)
 .cases b
 .cases b
 .rename_i y m o
  cases b;refine r ?_ rfl;cases x<;>first|rfl|exact absurd rfl (y _)|exact absurd rfl (m _)|exact absurd rfl (o _)
def mH(b)(vs)(o)(w:World)(c:∀j,j<vs.length->(w.cell? ⟨b,o+j,none⟩).isSome=true)(i)(h:(w.cell? ⟨b,i,none⟩).isSome=true):
  ((w.setCells b o vs).cell? ⟨b,i,none⟩).isSome=true:=by
 by_cases a:o<=i/\i<o+vs.length
 .have:=gO b vs o w c (i-o) (by omega)
  rw[show o+(i-o)=i by omega]at this;rw[this];rfl
 .rw[gj b vs o w ⟨b,i,none⟩ (λ_ _=>by simp;omega)];exact h
def Ou(A:HR n w0 G σ lh w){t}{a a' x R}{bV}(ha:VR σ a a')(hx:VR σ x R)(h:(BP P t a x lh).get=some bV):
  ∃K,(Instr.storeAt t a' R).run P w=.ok () K/\HR n w0 G σ bV K:=by
 unfold BP at h;split at h
 .rename_i i T k f hi U
  obtain⟨p,B,rfl⟩:=ha.gL;obtain⟨d,z,L,V,N⟩:=AV hx U
  have I:∀E,(lh.getD k .dead).owned=true->T.length=i.size->(∀j,j<d.length->(w.cell? ⟨p.b,p.o+f+j,none⟩).isSome=true)->
    (E.owned=true->(lh.getD k .dead).owned=true)->E.aM=some none->BR n σ E p (w.setCells p.b (p.o+f) d)->∃K,(Instr.storeAt t (.pointer (some ⟨p.b,p.o+f,none⟩)) R).run P w=.ok () K/\HR n w0 G σ (lh.set k E) K:=by
   intro E ho ao s oF W J;obtain⟨_,y,_⟩:=(A.blk k p B).1 ho;refine⟨w.setCells p.b (p.o+f) d,?_,A.stores B ho _ _ _ oF J (.inr W)⟩;have X:=run_storeCells_cells (P:=P) p.b (p.o+f) d 0 w (by simpa using s) (λj _=>y _) N;have Y:R.cells.size=i.size:=by rw[z];simp;omega
   simp only[Instr.storeAt,Instr.sureAddr,storeVar,cd,cr,bd,run_sizeOf hi,Y,ne_eq,not_true_eq_false,jj];rw[z];simpa using X
  split at h
  .rename_i c C
   rcases M.af h with⟨J,h⟩|⟨_,m⟩
   .rcases M.af h with⟨F,m⟩|⟨_,m⟩
    .simp at m;subst m
     have Z:=fo F;have b:(lh.getD k .dead).owned=true:=by rw[C];rfl
     obtain⟨H,y,r⟩:=(A.blk k p B).1 b;have s:∀j,j<d.length->(w.cell? ⟨p.b,p.o+f+j,none⟩).isSome=true:=by
      intro j q;obtain⟨v',D,_⟩:=A.jB B C (List.getElem?_eq_getElem (show f+j<c.length by omega));rw[Nat.add_assoc,D];rfl
     refine I _ b (beq_true J) s (λ_=>b) rfl ⟨λ_=>⟨H,λo=>(j9 _ _ _ _ _).trans (y o),λj q=>mH _ _ _ _ s _ (r j q)⟩,λj v m=> ?_⟩;by_cases ac:f<=j/\j<f+T.length
     .have D:=gO p.b d (p.o+f) w s (j-f) (by omega)
      rw[show p.o+f+(j-f)=p.o+j by omega]at D;refine⟨_,D,V (j-f) v _ ?_ (List.getElem?_eq_getElem _)⟩;rw[List.getElem?_append_right (by simp;omega),List.getElem?_append_left (by simp;omega)]at m;rw[<-m];congr 1;simp;omega
     .rw[gj p.b d (p.o+f) w ⟨p.b,p.o+j,none⟩ (fun _ _=>by simp;omega)]
      refine A.jB B C ?_;rw[<-m];rcases Nat.lt_or_ge j f with q|q
      .rw[List.getElem?_append_left (by simp;omega),List.getElem?_take_of_lt q]
      .rw[List.getElem?_append_right (by simp;omega),List.getElem?_append_right (by simp;omega),List.getElem?_drop]
       congr 1;simp;omega
    .cases m
   .cases m
  .rename_i rr c C
   rcases M.af h with⟨J,h⟩|⟨_,m⟩
   .rcases M.af h with⟨F,m⟩|⟨_,m⟩
    .simp at m;subst m
     have Z:=fo F;have b:(lh.getD k .dead).owned=true:=by rw[C];rfl
     obtain⟨H,y,r⟩:=(A.blk k p B).1 b;have s:∀j,j<d.length->(w.cell? ⟨p.b,p.o+f+j,none⟩).isSome=true:=by
      intro j q;obtain⟨v',D,_⟩:=A.GD B C (List.getElem?_eq_getElem (show f+j<c.length by omega));rw[Nat.add_assoc,D];rfl
     refine I _ b (beq_true J) s (λ_=>b) rfl ⟨λ_=>⟨H,λo=>(j9 _ _ _ _ _).trans (y o),λj q=>mH _ _ _ _ s _ (r j q)⟩,(A.zN B C).1.trans (by simp;omega),λj v m=> ?_,λj q=> ?_⟩
     .by_cases ac:f<=j/\j<f+T.length
      .have D:=gO p.b d (p.o+f) w s (j-f) (by omega)
       rw[show p.o+f+(j-f)=p.o+j by omega]at D;refine⟨_,D,V (j-f) v _ ?_ (List.getElem?_eq_getElem _)⟩;rw[List.getElem?_append_right (by simp;omega),List.getElem?_append_left (by simp;omega)]at m;rw[<-m];congr 1;simp;omega
      .rw[gj p.b d (p.o+f) w ⟨p.b,p.o+j,none⟩ (fun _ _=>by simp;omega)]
       refine A.GD B C ?_;rw[<-m];rcases Nat.lt_or_ge j f with q|q
       .rw[List.getElem?_append_left (by simp;omega),List.getElem?_take_of_lt q]
       .rw[List.getElem?_append_right (by simp;omega),List.getElem?_append_right (by simp;omega),List.getElem?_drop]
        congr 1;simp;omega
     .rw[gj p.b d (p.o+f) w ⟨p.b,j,none⟩ (fun _ _=>by have:=(A.zN B C).1;simp;omega)]
      exact(A.zN B C).2 j q
    .cases m
   .cases m
  .rename_i l C
   split at h
   .rename_i v
    rcases M.af h with⟨J,h⟩|⟨_,m⟩
    .rcases M.af h with⟨F,m⟩|⟨_,m⟩
     .simp at m;subst m
      have O:=kg F;have b:(lh.getD k .dead).owned=true:=by rw[C];rfl
      obtain⟨H,y,r⟩:=(A.blk k p B).1 b;obtain⟨am,Q⟩:=A.ints_at B C;have ar:d.length=1:=by simpa using L
      have s:∀j,j<d.length->(w.cell? ⟨p.b,p.o+f+j,none⟩).isSome=true:=by
       intro j q;obtain rfl:j=0:=by omega
       rw[qq,Q f _ (List.getElem?_eq_getElem O)];rfl
      refine I _ b (by simpa using beq_true J) s (λ_=>b) rfl ⟨λ_=>⟨H,λo=>(j9 _ _ _ _ _).trans (y o),λj q=>mH _ _ _ _ s _ (r j q)⟩,am,λj u S=> ?_⟩;by_cases q:j=f
      .subst q
       have D:=gO p.b d (p.o+j) w s 0 (by omega);rw[qq]at D;rw[D];have:=V 0 (.int .i64 v) _ rfl (List.getElem?_eq_getElem (by omega));have e:=this.aD rfl;rw[e];simp[O]at S;rw[S]
      .rw[gj p.b d (p.o+f) w ⟨p.b,p.o+j,none⟩ (fun _ _=>by simp;omega)]
       rw[List.getElem?_set_ne (by omega)]at S;exact Q j u S
     .cases m
    .cases m
   .cases h
  .cases h
 .cases h
def Ext(m:Nat)(σ a:Nat->Option Pl):Prop:=Le σ a/\∀k,k<m->a k=σ k
theorem Ext.refl(m)(σ):Ext m σ σ:=⟨Le.refl _,λ_ _=>rfl⟩
def Ext.trans{m d}{a b c}(h:Ext m a b)(k:Ext d b c)(f:m<=d):Ext m a c:=
 ⟨h.1.trans k.1,λi e=>(k.2 i (Nat.lt_of_lt_of_le e f)).trans (h.2 i e)⟩
def HR.sK(h:HR n w0 G σ lh w)(p):Ext lh.length σ (upd σ lh.length p):=⟨h.wK p,λk a=>dF _ _ (mu a)⟩
def Good(n:Nat->Prop)(w0:World)(G:Kj)(σ:Nat->Option Pl)(m:Nat)(r:Value×List ag)(v:Value)(b:World):Prop:=
 ∃a,Ext m σ a/\VR a r.1 v/\HR n w0 G a r.2 b
def sS(n:Nat->Prop)(σ:Nat->Option Pl)(r:(Nat->Value)×ag)(v:Value)(w:World)(o:Obj):Prop:=
 ∃p:Pl,(p.b=w.heap.size/\r.2.aM=some none)/\∀b a,Le σ b->b a=some p->VR b (r.1 a) v/\BR n b r.2 p (w.alloc o)
def JA(k:eB n w){t}{x e}{r}(m:VR σ x e)(h:(Wz x).get=some r):
  ∃v o,(Instr.box t e).run P w=.ok v (w.alloc o)/\sS n σ r v w o:=by
 unfold Wz at h;split at h
 .rename_i A b
  simp at h;subst h;obtain⟨s,c,l,S,f⟩:=AV m b;refine⟨.pointer (some ⟨w.heap.size,0,none⟩),.cells s.toArray t,by simp[Instr.box,newVar,newRow,c],⟨w.heap.size,0,0,0⟩,⟨rfl,rfl⟩,λB a p q=>⟨VR.ptr (off:=0) q,BR.FO k t (by simp[l]) λi u y z d=>(S i u y z (by simpa using d)).mono p⟩⟩
 .cases h
def QV(a:eB n w){t}{r}(h:(QW P t).get=some r):
  ∃v o,(Instr.alloc t true (.tuple #[])).run P w=.ok v (w.alloc o)/\sS n σ r v w o:=by
 unfold QW at h;split at h
 .rename_i z b
  obtain⟨c,d⟩:=lU b w;obtain⟨v,o,e,f⟩:=JA (P:=P) (t:=t) a (VR.plain σ d) h;refine⟨v,o,?_,f⟩;rw[<-e];simp[Instr.alloc,c,Instr.box]
 .cases h
def sS.good(a:HR n w0 G σ lh w){r}{v}{o}(h:sS n σ r v w o):Good n w0 G σ lh.length (r.1 lh.length,lh++[r.2]) v (w.alloc o):=by
 obtain⟨p,⟨c,b⟩,h⟩:=h;obtain⟨d,e⟩:=h _ lh.length (a.wK p) (upd_same _ _ _);exact⟨_,a.sK p,d,a.new _ _ _ c e b⟩
def VR.TC{k}{a}(h:VR σ (.map (some k)) a):∃p,σ k=some p/\a=.map (some p.b):=by
 cases h with
 |Ao h=>exact⟨_,h,rfl⟩
def HR.YG(h:HR n w0 G σ lh w){k}{p}(a:σ k=some p){o wr}{l}(b:lh.getD k .dead=.jK o wr l):
  ∃s q,w.heap[p.b]?=some (.map s q)/\s.size=l.length/\∀(i:Nat) (k) (v),l[i]?=some (k,v)->∃e,s[i]?=some e/\e.key=.int .i64 k/\VR σ v e.val:=by
 have:=(h.blk k p a).2;rw[b]at this;exact this
def run_checkKey{P}{k}(h:P.underlying k=some (.int .i64))(b)(x)(w):(Instr.checkKey b 10000 k (.int .i64 x)).run P w=.ok () w:=by
 have e:∀d,(Instr.checkKey b (d+1) k (.int .i64 x)).run P w=.ok () w:=by
  intro d;simp[Instr.checkKey,cF h]
 exact e 9999
theorem IK{x}:∀(s) (l) (j) (no) (yes) (v),s.length=l.length->(∀(i:Nat) (k) (u),l[i]?=some (k,u)->∃e,s[i]?=some e/\e.key=.int .i64 k/\VR σ u e.val)->(VU x no yes l).get=some v->
  (Instr.findNow (.int .i64) (.int .i64 x) s j=some none/\no.get=some v)\/∃i u b,Instr.findNow (.int .i64) (.int .i64 x) s j=some (some (i,b))/\VR σ u b/\(yes u).get=some v
 |[],[],j,no,yes,v,_,_,h=>.inl ⟨rfl,h⟩
 |[],_::_,_,_,_,_,a,_,_=>by cases a
 |_::_,[],_,_,_,_,a,_,_=>by cases a
 |e::s,(k,u)::l,j,no,yes,v,a,hrel,h=>by
  obtain⟨y,d,f,m⟩:=hrel 0 k u rfl;simp only[jz,cq]at d;subst d;rcases M.af h with⟨c,h⟩|⟨c,h⟩
  .refine .inr ⟨j,u,e.val,?_,m,h⟩
   simp only[Instr.findNow,f,Instr.sameNow,if_true,c]
  .have o:=IK s l (j+1) no yes v (by simpa using a) (fun i p b q=>hrel (i+1) p b (by simpa using q)) h
   have r:Instr.findNow (.int .i64) (.int .i64 x) (e::s) j=Instr.findNow (.int .i64) (.int .i64 x) s (j+1):=by
    simp only[Instr.findNow,f,Instr.sameNow,if_true,c]
   rw[r];exact o
def run_findKey{P}{k}(u:P.underlying k=some (.int .i64)){x}{e}{r}(h:Instr.findNow (.int .i64) (.int .i64 x) e 0=some r)(w):(Instr.findKey k (.int .i64 x) e).run P w=.ok r w:=by
 simp[Instr.findKey,cF u,h]
def Nl(F:HR n w0 G σ lh w){t}{m A B f v}{o}(H:VR σ m A)(s:VR σ B f)(h:(vP P t m B o lh).get=some v):
  ∃C,(Instr.lookup t A f o).run P w=.ok C w/\VR σ v C:=by
 unfold vP at h;split at h
 .rename_i U V D
  split at h
  .rename_i z b x r I
   obtain⟨p,J,rfl⟩:=H.TC;obtain rfl:=s.aD rfl;split at h
   .rename_i W wr l K
    obtain⟨L,X,E,N,O⟩:=F.YG J K;obtain⟨y,q⟩:=lU I w;rcases IK L.toList l 0 _ _ v (by simpa using N) (λi k u Q=>let⟨e,R,S⟩:=O i k u Q;⟨e,by simpa using R,S⟩) h with⟨g1,g2⟩|⟨i,u,u',g1,g2,g3⟩
    .cases g2
     refine⟨if o then .tuple #[z,.bool false]else z,?_,?_⟩
     .simp only[Instr.lookup,cd,cF D,bd,pw E,cr,run_checkKey r,run_findKey r g1,y]
     .cases o
      .exact VR.plain σ q
      .refine VR.tuple rfl fun i a T d c=> ?_
       match i,d,c with
       |0,d,c=>simp at d c;subst d c;exact VR.plain σ q
       |1,d,c=>simp at d c;subst d c;exact .bool _
    .cases g3
     refine⟨if o then .tuple #[u',.bool true]else u',?_,?_⟩
     .simp only[Instr.lookup,cd,cF D,bd,pw E,cr,run_checkKey r,run_findKey r g1]
     .cases o
      .exact g2
      .refine VR.tuple rfl fun i a T d c=> ?_
       match i,d,c with
       |0,d,c=>simp at d c;subst d c;exact g2
       |1,d,c=>simp at d c;subst d c;exact .bool _
   .cases h
  .cases h
 .cases h
theorem Ql{x}:∀(s) (l) (j),s.length=l.length->(∀(i:Nat) (k) (u),l[i]?=some (k,u)->∃e,s[i]?=some e/\e.key=.int .i64 k/\VR σ u e.val)->(Qm x l).get=some ()->Instr.findNow (.int .i64) (.int .i64 x) s j=some none
 |[],[],j,_,_,_=>rfl
 |[],_::_,_,a,_,_=>by cases a
 |_::_,[],_,a,_,_=>by cases a
 |e::s,(k,u)::l,j,a,hrel,h=>by
  obtain⟨q,b,d,r⟩:=hrel 0 k u rfl;simp only[jz,cq]at b;subst b;rcases M.af h with⟨c,h⟩|⟨c,h⟩
  .cases h
  .have f:=Ql s l (j+1) (by simpa using a) (fun i m o p=>hrel (i+1) m o (by simpa using p)) h
   simp only[Instr.findNow,d,Instr.sameNow,if_true,c];exact f
def Np(y:HR n w0 G σ lh w){t}{m J k K v r}{V}(Q:VR σ m J)(R:VR σ k K)(S:VR σ v r)(h:(zo P t m k v lh).get=some V):
  ∃L,(Instr.mapUpdate t J K r).run P w=.ok () L/\HR n w0 G σ V L:=by
 unfold zo at h;split at h
 .rename_i kt et T
  split at h
  .rename_i b x s
   obtain⟨p,z,rfl⟩:=Q.TC;obtain rfl:=R.aD rfl;split at h
   .rename_i l N
    obtain⟨u,U,h⟩:=M.ay h;cases h;obtain⟨A,q,B,C,O⟩:=y.YG z N;have f:=Ql A.toList l 0 (by simpa using C) (λi k u c=>let⟨e,D,E⟩:=O i k u c;⟨e,by simpa using D,E⟩) U;have a:(lh.getD b .dead).owned=true:=by rw[N];rfl
    have F:=y.lt b p z;have d:({w with heap:=w.heap.setIfInBounds p.b (.map (A.push {key:=.int .i64 x,val:=r,born:=q}) (q+1))}:World).heap[p.b]?=some (.map (A.push {key:=.int .i64 x,val:=r,born:=q}) (q+1)):=by
     show(w.heap.setIfInBounds p.b _)[p.b]?=_;rw[Array.getElem?_setIfInBounds_self_of_lt F]
    refine⟨_,?_,y.agm z a B (.map (A.push {key:=.int .i64 x,val:=r,born:=q}) (q+1)) (.jK true true (l++[(x,v)])) (λ_=>a) ?_⟩
    .simp only[Instr.mapUpdate,cd,cF T,bd,pw B,run_checkKey s,run_findKey s f,MapKept.run_setObj_map _ B]
    .obtain⟨W,g2,X⟩:=(y.blk b p z).1 a
     refine⟨λ_=>⟨W,λo=> ?_,λj Y=> ?_⟩,_,_,d,by simp[C],λi Z u c=> ?_⟩
     .unfold World.frozen?
      rw[d]
     .exfalso
      have:=X j Y;unfold World.cell? at this;rw[B]at this;cases this
     .rw[ur]at c
      split at c
      .rename_i H
       obtain⟨e,D,E,e3⟩:=O i Z u c;exact⟨e,by rw[cQ,if_neg (by omega)];exact D,E,e3⟩
      .rename_i H
       have I:i=l.length:=by
        have:=(List.getElem?_eq_some_iff.1 c).1;simp at this;omega
       subst I;simp at c;obtain⟨rfl,rfl⟩:=c;exact⟨_,by rw[cQ,if_pos C.symm],rfl,S⟩
   .cases h
  .cases h
 .cases h
