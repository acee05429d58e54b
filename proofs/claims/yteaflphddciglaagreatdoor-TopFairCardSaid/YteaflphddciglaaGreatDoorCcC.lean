import Derived.Test.YteaflphddciglaaGreatDoorCcB
set_option linter.all false
def fW:=@Go.World.putObj_heap_other
def lj:=@List.drop_eq_getElem_cons
def pj:=@Go.World.putObj_heap_same
namespace Go.Sx
open Go Go.RowKit
def qy(k:Nat):Bool:=Nat.beq k 0||(Nat.ble 6 k&&Nat.ble k 13)
def JE:Value->Bool
 | .pointer (some ⟨k,_,_⟩)=>qy k
 | .slice (some ⟨k,_,some 1⟩) _ _=>qy k
 | .func _ _ _| .agg _| .chan _| .slice (some _) _ _| .map (some _)=>false
 | .tuple a=>a.toList.isEmpty
 |_=>true
def av:Value->Bool
 | .func _ a c=>a.toList.all JE&&c.toList.all JE
 |v=>JE v
def oG:ag->Bool
 | .cells o _ c=>o&&c.all av
 | .ints o _ _=>o
 |_=>false
def VR.JE{σ τ:Nat->Option Pl}{v p:Value}(h:VR σ v p)(d:Sx.JE v=true)(m:∀k,qy k=true->τ k=σ k):VR τ v p:=by
 cases h with
 |any v=>exact .any _
 |skip=>cases d
 |bool b=>exact .bool _
 |int k n=>exact .int _ _
 |string s=>exact .string _
 |wE=>exact .wE
 |ptr h=>exact .ptr ((m _ d).trans h)
 |lD h=>exact .lD ((m _ d).trans h)
 |kM l c=>exact .kM _ _
 |slice h=>cases d
 |si h=>cases d
 |vec h r=>exact .vec ((m _ d).trans h) r
 |win h w=>cases d
 |word s F=>exact .word s F
 |zW B i=>exact .zW B i
 |empty a=>cases d
 |wI=>exact .wI
 |Ao h=>cases d
 |nilFunc=>exact .nilFunc
 |nilIface=>exact .nilIface
 |func f o q z A=>cases d
 |agg o q=>cases d
 |tuple o q=>
  rename_i a C;have e:a= #[]:=by
   have:a.toList=[]:=by simpa[Sx.JE]using d
   exact e8.1 (by rw[this])
  subst e;exact .tuple o λi x y u=>by simp at u
def VR.av{σ τ:Nat->Option Pl}{v l:Value}(h:VR σ v l)(b:Sx.av v=true)(s:∀k,qy k=true->τ k=σ k):VR τ v l:=by
 unfold Sx.av at b;split at b
 .rename_i t a c
  rw[bj,bp,bp]at b;cases h with
  |func f m n o p=>
   exact .func f m n (λi x y d e=>(o i x y d e).JE (b.1 x (uK.2 (tS d))) s) (λi x y d e=>(p i x y d e).JE (b.2 x (uK.2 (tS d))) s)
 .exact h.JE b s
def Ld{b:ag}(h:oG b=true):b.owned=true/\b.alive=true/\b.aM=some none:=by
 cases b<;>simp[oG]at h<;>first|exact⟨h,rfl,rfl⟩|exact⟨h.1,rfl,rfl⟩
def BR.av{n:Nat->Prop}{σ τ:Nat->Option Pl}{b:ag}{p:Pl}{w:World}(h:BR n σ b p w)(a:oG b=true)(s:∀k,qy k=true->τ k=σ k):BR n τ b p w:=by
 refine⟨h.1,?_⟩;have d:=h.2;cases b with
 |cells o wr c=>
  intro i v e;obtain⟨f,m,q⟩:=d i v e;simp only[oG,bj,bp]at a;exact⟨f,m,q.av (a.2 v (du e)) s⟩
 |ints o wr l=>exact d
 |_=>cases a
end Go.Sx
namespace Go.Proofs.YteaflphddciglaaGreatDoor.bq
open Go.RowKit Go.bn Go.Sx
noncomputable section
def gM{α:Type}{f:α->Bool}{a b:List α}(h:a.all f=true)(c:b.all f=true):(a++b).all f=true:=by rw[rj,h,c];rfl
def pJ{b:Bool}{v:Value}(h:av v=true):av (vB b v)=true:=by cases b<;>first|exact h|rfl
def uN{l:List Value}(h:l.all av=true):oG (bl l)=true:=by
 show(true&&l.all av)=true;rw[h];rfl
def WE(c:Cn)(w:Nat)(f:Fd)(x:Ex):oG (fdV c w f x)=true:=by
 obtain⟨k,o,a,d⟩:=f;refine uN (gM (gM rfl ?_) ?_)
 .have:∀v:Value,av v=true->[Value.int .i64 (k:Int),v,.int .i64 x.at_].all av=true:=λv h=>by
   show(true&&(av v&&(true&&true)))=true;rw[h];rfl
  refine this _ ?_;simp only;split<;>rfl
 .simp only
  cases d<;>rfl
def NT(c:Cn)(k:Nat)(r:Rt)(x:Ex)(h:qy k=true)(a:av x.cell=true):oG (XX c k r x)=true:=by
 refine uN ?_;obtain⟨i,w,e,s,b⟩:=r;have:(av x.cell&&(true&&(true&&(((qy k&&true)&&true)&&(true&&(true&&true))))))=true:=by rw[a,h];rfl
 cases s<;>exact this
def ajV(c:Cn)(p:Ph):av (EU c p).cell=true:=by
 unfold EU;split<;>rfl
def ajQ(c:Cn)(w:Nat)(t:Tk)(W:Nat)(x:Ex)(k:qy (W+1)=true)(l:av x.cell=true):(tkH c w t W x).all oG=true:=by
 have p:av (pk (W+1))=true:=k;refine gM ?_ ?_
 .refine(gh _).trans (uN (gM rfl ?_))
  have e:∀a b d e f g h i j:Value,av a=true->av b=true->av d=true->av e=true->av f=true->av g=true->av h=true->av i=true->av j=true->[a,b,d,e,f,g,h,i,j].all av=true:=by
   intro a b d e f g h i j m n o q r s u v y;show(av a&&(av b&&(av d&&(av e&&(av f&&(av g&&(av h&&(av i&&(av j&&true)))))))))=true;rw[m,n,o,q,r,s,u,v,y];rfl
  exact e _ _ _ _ _ _ _ _ _ rfl rfl (pJ p) (pJ rfl) (pJ rfl) (pJ rfl) (pJ rfl) (pJ p) rfl
 .generalize (Nat.ble 1 (Oe t.st)&&Nat.ble (Oe t.st) 8)=a
  generalize Nat.beq (Oe t.st) 12=b;cases a
  .cases b
   .rfl
   .exact(gh _).trans (NT _ _ _ _ k l)
  .exact(gh _).trans (WE _ _ _ _)
def ajU(c:Cn)(w:Nat)(t:Gv)(W:Nat)(x:Ex)(k:qy (W+1)=true)(l:av x.cell=true):(gvH c w t W x).all oG=true:=by
 have p:av (pk (W+1))=true:=k;refine gM ?_ ?_
 .refine(gh _).trans (uN (gM rfl ?_))
  have e:∀a b d e f g h i j:Value,av a=true->av b=true->av d=true->av e=true->av f=true->av g=true->av h=true->av i=true->av j=true->[a,b,d,e,f,g,h,i,j].all av=true:=by
   intro a b d e f g h i j m n o q r s u v y;show(av a&&(av b&&(av d&&(av e&&(av f&&(av g&&(av h&&(av i&&(av j&&true)))))))))=true;rw[m,n,o,q,r,s,u,v,y];rfl
  exact e _ _ _ _ _ _ _ _ _ rfl rfl rfl rfl rfl rfl (pJ rfl) (pJ p) rfl
 .generalize Nat.beq (gvN t.st) 3=b
  cases b
  .rfl
  .exact(gh _).trans (NT _ _ _ _ k l)
def ajS(c:Cn)(w:Nat)(s:Sm):(smH c w s 9).all oG=true:=by
 obtain⟨o,i,a,n,b,d,x,u,e⟩:=s;cases o<;>cases b<;>rfl
def WC(c:Cn)(w:Nat)(k:Nat)(q:Qu)(h:qy k=true):oG (quV c w k q)=true:=by
 refine uN (gM rfl ?_);have a:av (mth (quF q.st) k)=true:=by
  show((qy k&&true)&&true)=true;rw[h];rfl
 show(true&&(true&&(true&&(av _&&(true&&(true&&true))))))=true;rw[a];rfl
def ajR(c:Cn)(w:Nat)(t:Td)(x:Ex)(o:av x.cell=true):(Xp c w t 6 x).all oG=true:=by
 refine gM (gM ?_ ?_) ?_
 .refine(gh _).trans (uN (gM rfl ?_))
  have e:∀a b d e f g h i j k l:Value,av a=true->av b=true->av d=true->av e=true->av f=true->av g=true->av h=true->av i=true->av j=true->av k=true->av l=true->[a,b,d,e,f,g,h,i,j,k,l].all av=true:=by
   intro a b d e f g h i j k l p q r s u v y z A m n;show(av a&&(av b&&(av d&&(av e&&(av f&&(av g&&(av h&&(av i&&(av j&&(av k&&(av l&&true)))))))))))=true;rw[p,q,r,s,u,v,y,z,A,m,n];rfl
  exact e _ _ _ _ _ _ _ _ _ _ _ rfl rfl rfl rfl rfl (pJ rfl) rfl (pJ rfl) rfl rfl (pJ rfl)
 .generalize ((Nat.ble 3 (BO t.st)&&Nat.ble (BO t.st) 7)||Nat.beq (BO t.st) 9||Nat.beq (BO t.st) 10)=b
  cases b
  .rfl
  .exact(gh _).trans (WE _ _ _ _)
 .generalize Nat.beq (BO t.st) 4=b
  cases b
  .rfl
  .exact(gh _).trans (NT _ _ _ _ rfl o)
def adE(c:Cn)(t:Ti)(i:Nat)(s:6<=i)(u:i<=9):(SK c t i).all oG=true:=by
 have h:∀k,6<=k->k<=13->qy k=true:=λk m f=>by unfold qy;rw[show Nat.ble 6 k=true from by rw[Nat.ble_eq];exact m,show Nat.ble k 13=true from by rw[Nat.ble_eq];exact f];simp
 obtain⟨r,v,l,w,x,n⟩:=t;refine gM (gM ((gh _).trans (uN (gM rfl ?_))) ?_) ?_
 .have e:∀a b d e:Value,av a=true->av b=true->av d=true->av e=true->[a,b,d,e].all av=true:=by
   intro a b d e h o p q;show(av a&&(av b&&(av d&&(av e&&true))))=true;rw[h,o,p,q];rfl
  refine e _ _ _ _ ?_ ?_ rfl rfl
  .cases r
   .rfl
   .exact h (i+1) (by omega) (by omega)
  .cases l
   .rfl
   .cases r
    .exact h (i+1) (by omega) (by omega)
    .exact h (i+1+1) (by omega) (by omega)
 .cases r<;>rfl
 .cases l<;>rfl
def ajT(c:Cn)(w:Nat)(r:Rp)(x:Ex)(h:av x.cell=true):(rpH c w r 9 x).all oG=true:=by
 refine gM ?_ ?_
 .show(oG _&&(oG _&&true))=true
  rw[WE,uN (by
   show(true&&(true&&(true&&(av _&&true))))=true;rw[pJ (show av (pk 11)=true from rfl)];rfl)]
  rfl
 .generalize Nat.beq (rpN r.st) 3=b
  cases b
  .rfl
  .exact(gh _).trans (NT _ _ _ _ rfl h)
def uM(c:Cn)(w:Nat)(x:Wr):(cZ c w x).1.all av=true/\(cZ c w x).2.all oG=true/\(cZ c w x).1.length=35:=by
 have d:=ajV c x.ph;unfold cZ;generalize EU c x.ph=e at d;obtain⟨f,s,i⟩:=x;cases f with
 |rest=>exact⟨rfl,rfl,rfl⟩
 |pin h=>cases h<;>exact⟨rfl,rfl,rfl⟩
 |work k=>
  cases k with
  |get t=>exact⟨rfl,gM rfl (ajQ c w t 9 e rfl d),rfl⟩
  |give t=>exact⟨rfl,gM rfl (ajU c w t 9 e rfl d),rfl⟩
  |bg t=>exact⟨rfl,gM rfl (ajS c w t),rfl⟩
  |close q=>
   cases q with
   |none=>exact⟨rfl,rfl,rfl⟩
   |some q=>
    refine⟨rfl,?_,rfl⟩;show(true&&(true&&(true&&(true&&(oG _&&true)))))=true;rw[WC _ _ _ _ rfl];rfl
  |stats t=>exact⟨rfl,gM rfl (adE c _ 9 (by omega) (by omega)),rfl⟩
  |aS r=>exact⟨rfl,gM rfl (ajT c w r e d),rfl⟩
 |counts t=>exact⟨rfl,adE c _ 6 (aq _) (by omega),rfl⟩
 |enters q=>exact⟨rfl,(gh _).trans (WC _ _ _ _ rfl),rfl⟩
 |ax t p a=>cases p<;>exact⟨rfl,ajR c w t e d,rfl⟩
 |parked b=>exact⟨rfl,rfl,rfl⟩
 |wakes h=>cases h<;>exact⟨rfl,rfl,rfl⟩
 |leaves q=>exact⟨rfl,(gh _).trans (WC _ _ _ _ rfl),rfl⟩
end
end Go.Proofs.YteaflphddciglaaGreatDoor.bq
namespace Go.Proofs.YteaflphddciglaaGreatDoor
namespace bq
noncomputable section
open Go.RowKit Go.bn Go.Sx
def nA(x:Ev)(a:Int):List Value:=[.bool x.ended,.int .i64 (x.who:Int),.int .i64 a]++vg x.ask++[.int .i64 x.ans.e,.int .i64 x.ans.slot,.int .i64 x.ans.gen,.int .i64 x.ans.bg,
 .int .i64 (x.ans.cnt.1:Int),.int .i64 (x.ans.cnt.2.1:Int),.int .i64 (x.ans.cnt.2.2.1:Int),.int .i64 (x.ans.cnt.2.2.2:Int)]
def aG(A:Nat->Int):List Ev->Go.Sx.Rows
 |[]=>⟨wN,λ_ _=>0,λ_ _=>false⟩
 |x::r=>eY r.length (nA x (A r.length)) (aG A r)
theorem Ed(A:Nat->Int):∀l:List Ev,(aG A l).ks=wN
 |[]=>rfl
 |x::r=>Ed A r
theorem IU{A a:Nat->Int}:∀l:List Ev,(∀i,i<l.length->a i=A i)->aG a l=aG A l
 |[],_=>rfl
 |x::r,h=>by
  unfold aG;rw[IU r (λi b=>h i (Nat.lt_succ_of_lt b)),h r.length (sC _)]
def dW(n:Nat):Value:=match n with|0=>.slice none 0 0|n+1=>.slice (some ⟨4,0,some 1⟩) (n+1) 0
def fE(n:Nat)(R:Go.Sx.Rows):Go.Sx.ag:=match n with|0=>.dead|n+1=>.rows true true 18 (n+1) R
structure Pv(F:Nat->Prop)(bw:Nat)(cells:List Value)(tl:List Go.Sx.ag)(v:Nat)(τ:Nat->Option Pl)(w:World):Prop where
 low:∀k,1<=k->k<=5->τ k=none
 dom:∀k p,τ k=some p->k<6+tl.length
 win:∀(i:Nat) (x:Value),cells[i]?=some x->∃x',w.cell? ⟨bw,v*35+i,none⟩=some x'/\VR τ x x'
 blk:∀k p,6<=k->τ k=some p->F p.b/\BR (j5 F w) τ (tl.getD (k-6) .dead) p w
 inj:∀k k' p p',6<=k->6<=k'->τ k=some p->τ k'=some p'->p.b=p'.b->k=k'
def Vs(c:Cn)(v:Value)(e a:Int):List Value:=dI c++[pk 1,pk 2,pk 3,v,undef,.int .i64 e,.int .i64 a]
def shB(c:Cn)(s:Ms)(A:Nat->Int)(e a:Int):Nat->Go.Sx.ag
 |0=>bl (Vs c (dW s.ev.length) e a)
 |2=>bl [.int .i64 s.now]
 |4=>fE s.ev.length (aG A s.ev)
 |_=>.dead
def Own3(k:Nat):Prop:=k=0\/k=2\/k=4
structure Sh(c:Cn)(s:Ms)(A:Nat->Int)(e at_:Int)(F fm fw:Nat->Prop)(ς:Nat->Option Pl)(b bw:Nat)(w:World):Prop where
 lt:∀j,F j->j<w.heap.size
 p0:∃p,ς 0=some p/\p.b=b/\p.o=0
 p1:∃p,ς 1=some p/\p.o=0/\fm p.b/\rC (.mem c s.m) fm p.b w
 p2:∃p,ς 2=some p
 p3:∃p,ς 3=some p/\p.o=0/\fw p.b/\rC (.kL s.wo) fw p.b w
 p4:s.ev=[]->ς 4=none
 hi:∀k,5<=k->ς k=none
 blk:∀k p,Own3 k->ς k=some p->F p.b/\¬fm p.b/\¬fw p.b/\p.b≠bw/\BR (j5 F w) ς (shB c s A e at_ k) p w
 wk:∀p,ς 0=some p->w.cell? ⟨p.b,p.o+9,none⟩=some (.slice (some ⟨bw,0,none⟩) c.W c.W)
 inj:∀k k' p p',Own3 k->Own3 k'->ς k=some p->ς k'=some p'->p.b=p'.b->k=k'
 Zj:∀j,fm j->F j
 Zf:∀j,fw j->F j
 Zv:∀j,fm j->¬fw j
 QK:F bw/\¬fm bw/\¬fw bw
 fz:∀o,w.frozen? ⟨bw,o,none⟩=false
def Apart(f w:Nat->Prop)(ς:Nat->Option Pl)(b j:Nat):Prop:=¬f j/\¬w j/\j≠b/\∀k q,Own3 k->ς k=some q->q.b≠j
structure Mj(c:Cn)(s:Ms)(A:Nat->Int)(e at_:Int)(F fm fw:Nat->Prop)(ς:Nat->Option Pl)(b bw:Nat)(τ:Nat->Nat->Option Pl)(w:World):Prop where
 sh:Sh c s A e at_ F fm fw ς b bw w
 t0:∀v,v<c.W->τ v 0=ς 0
 pv:∀v,v<c.W->Pv F bw (cZ c v (s.ws v)).1 (cZ c v (s.ws v)).2 v (τ v) w
 ap:∀v k p,v<c.W->6<=k->τ v k=some p->Apart fm fw ς bw p.b
 pp:∀v v' k k' p p',v<c.W->v'<c.W->v≠v'->6<=k->6<=k'->τ v k=some p->τ v' k'=some p'->p.b≠p'.b
def xA(c:Cn)(τ:Nat->Nat->Option Pl)(U:Nat->Prop)(j:Nat):Prop:=∃v k p,v<c.W/\U v/\6<=k/\τ v k=some p/\p.b=j
def look(ς τ:Nat->Option Pl)(b v:Nat):Nat->Option Pl:=λk=>if k<=4 then ς k else if k=5 then some ⟨b,v*35,35,1⟩else τ k
section
variable{ς τ:Nat->Option Pl} {bw v:Nat}
def afd{k:Nat}(h:k<=4):look ς τ bw v k=ς k:=tz h
def agY:look ς τ bw v 5=some ⟨bw,v*35,35,1⟩:=rfl
def KG{k:Nat}(h:6<=k):look ς τ bw v k=τ k:=by unfold look;rw[ck (by omega),ck (by omega)]
def aff(a:τ 0=ς 0){k:Nat}(h:qy k=true):look ς τ bw v k=τ k:=by
 unfold qy at h;rw[eV,bj]at h;rcases h with h|h
 .rw[cJ h,a];rfl
 .exact KG (ey h.1)
def afe(h:∀k,5<=k->ς k=none):Le ς (look ς τ bw v):=λk p a=>by
 rcases cn 4 k with b|b
 .rw[h k b]at a;cases a
 .rw[afd b];exact a
def PG(c:τ 0=ς 0)(l:∀k,1<=k->k<=5->τ k=none):Le τ (look ς τ bw v):=λk p a=>by
 rcases lf k with h|h
 .subst h;rw[c]at a;exact a
 .rcases cn k 6 with b|b
  .rw[l k h (by omega)]at a;cases a
  .rw[KG b];exact a
end
def TI{a:wZ}{F:Nat->Prop}{b:Nat}{w:World}(h:rC a F b w):F b:=by
 cases a with
 |mem c m=>
  obtain⟨_,k,t,_,_,σ,r,⟨p,d,f,_⟩,i⟩:=h;exact f▸i 0 p d rfl
 |kL l=>
  obtain⟨g,o,R,_,_,_,σ,r,⟨p,d,f,_⟩,i⟩:=h;exact f▸i 0 p d rfl
 |oL c s A e=>exact h.elim
 |hld n x y z=>exact h.elim
def kept(F P:Nat->Prop)(w:World):Nat->Prop:=λj=>j5 F w j\/P j
def view{c:Cn}{s:Ms}{A:Nat->Int}{e G:Int}{F N O:Nat->Prop}{ς τ:Nat->Option Pl}{b z v:Nat}{w:World}{P:Nat->Prop}{wc:List Value}{Q:List Go.Sx.ag}{x:Wr}{n:Nat}
  (S:Sh c s A e G F N O ς b z w) (h0:τ 0=ς 0) (hl:wc.length=35) (hP:∀j,P j->j<w.heap.size/\Apart N O ς z j)
  (ao:∀k,1<=k->k<=5->τ k=none) (bv:∀k p,τ k=some p->k<6+Q.length)
  (ar:∀(i:Nat) (x:Value),wc[i]?=some x->∃x',w.cell? ⟨z,v*35+i,none⟩=some x'/\VR τ x x')
  (D:∀k p,6<=k->τ k=some p->F p.b/\(Q.getD (k-6) .dead=.dead\/(oG (Q.getD (k-6) .dead)=true/\Apart N O ς z p.b/\¬P p.b/\BR (j5 F w) τ (Q.getD (k-6) .dead) p w/\
   ∀l C,6<=l->τ l=some C->(Q.getD (l-6) .dead).alive=true->p.b=C.b->k=l))):
  HR (kept F P w) w nD (look ς τ z v) (bI ⟨c,s.m,s.now,s.wo,v,x,n,aG A s.ev,λi=>w.cell? ⟨z,i,none⟩,e,G⟩ (dW s.ev.length) (fE s.ev.length (aG A s.ev)) wc Q) w:=by
 generalize X:bI ⟨c,s.m,s.now,s.wo,v,x,n,aG A s.ev,λi=>w.cell? ⟨z,i,none⟩,e,G⟩ (dW s.ev.length) (fE s.ev.length (aG A s.ev)) wc Q=H;obtain⟨p0,e0,d7,d8⟩:=S.p0;obtain⟨p1,e1,ca,Y,TU⟩:=S.p1;obtain⟨p2,e2⟩:=S.p2;obtain⟨p3,e3,cb,Z,ce⟩:=S.p3;have Vz:∀k,k<6->k=0\/k=1\/k=2\/k=3\/k=4\/k=5:=λk d=>by omega
 have g0:H.getD 0 .dead=bl (Al ⟨c,s.m,s.now,s.wo,v,x,n,aG A s.ev,λi=>w.cell? ⟨z,i,none⟩,e,G⟩ (dW s.ev.length)):=by rw[<-X];rfl
 have g1:H.getD 1 .dead=.abs true (.mem c s.m):=by rw[<-X];rfl
 have g2:H.getD 2 .dead=bl [.int .i64 s.now]:=by rw[<-X];rfl
 have g3:H.getD 3 .dead=.abs true (.kL s.wo):=by rw[<-X];rfl
 have g4:H.getD 4 .dead=fE s.ev.length (aG A s.ev):=by rw[<-X];rfl
 have g5:H.getD 5 .dead=.win true true (λi=>w.cell? ⟨z,i,none⟩) wc:=by rw[<-X];rfl
 have g6:∀k,6<=k->H.getD k .dead=Q.getD (k-6) .dead:=λk d=>by
  obtain⟨k,rfl⟩:∃i,k=i+6:=⟨k-6,by omega⟩;rw[<-X];rfl
 have bi:H.length=6+Q.length:=by
  rw[<-X];show(_++Q).length=_;rw[cE];rfl
 have V:∀k p,6<=k->look ς τ z v k=some p->τ k=some p:=λk p d h=>by rw[KG d]at h;exact h
 have own:∀k p,k<6->look ς τ z v k=some p->(H.getD k .dead).owned=true->(Own3 k/\ς k=some p)\/(k=5/\p.b=z):=λk p d h q=>by
  rcases Vz k d with rfl|rfl|rfl|rfl|rfl|rfl
  .exact .inl ⟨.inl rfl,h⟩
  .rw[g1]at q;cases q
  .exact .inl ⟨.inr (.inl rfl),h⟩
  .rw[g3]at q;cases q
  .exact .inl ⟨.inr (.inr rfl),h⟩
  .cases h;exact .inr ⟨rfl,rfl⟩
 have Ir:∀k p,look ς τ z v k=some p->F p.b:=λk p h=>by
  rcases cn k 6 with d|d
  .rcases Vz k d with rfl|rfl|rfl|rfl|rfl|rfl
   .exact(S.blk 0 p (.inl rfl) h).1
   .have h:ς 1=some p:=h
    rw[e1]at h;cases h;exact S.Zj _ Y
   .exact(S.blk 2 p (.inr (.inl rfl)) h).1
   .have h:ς 3=some p:=h
    rw[e3]at h;cases h;exact S.Zf _ Z
   .exact(S.blk 4 p (.inr (.inr rfl)) h).1
   .cases h;exact S.QK.1
  .exact(D k p d (V k p d h)).1
 have ac:∀k p,look ς τ z v k=some p->(H.getD k .dead).owned=true->¬N p.b/\¬O p.b/\¬P p.b:=λk p h q=>by
  rcases cn k 6 with d|d
  .rcases own k p d h q with⟨o3,hs⟩|⟨rfl,r⟩
   .obtain⟨_,a1,a2,_,_⟩:=S.blk k p o3 hs
    exact⟨a1,a2,λW=>(hP _ W).2.2.2.2 k p o3 hs rfl⟩
   .rw[r];exact⟨S.QK.2.1,S.QK.2.2,λW=>(hP _ W).2.2.2.1 rfl⟩
  .rw[g6 k d]at q
   rcases(D k p d (V k p d h)).2 with J|⟨_,R,W,_⟩
   .rw[J]at q;cases q
   .exact⟨R.1,R.2.1,W⟩
 have co:eB (kept F P w) w:=λj T=>T.elim (λh=>h.1) (λh=>(hP j h).1);have nk:∀j,F j->¬P j->¬kept F P w j:=λj h1 h2 h3=>h3.elim (λh=>h.2 h1) h2;have QY:∀k o,look ς τ z v k=some o->(H.getD k .dead).aM=none\/((H.getD k .dead).owned=true/\(H.getD k .dead).aM=some none)\/(k=1/\o=p1)\/(k=3/\o=p3):=λk o h=>by
  rcases cn k 6 with d|d
  .rcases Vz k d with rfl|rfl|rfl|rfl|rfl|rfl
   .rw[g0];exact .inr (.inl ⟨rfl,rfl⟩)
   .have h:ς 1=some o:=h
    rw[e1]at h;cases h;exact .inr (.inr (.inl ⟨rfl,rfl⟩))
   .rw[g2];exact .inr (.inl ⟨rfl,rfl⟩)
   .have h:ς 3=some o:=h
    rw[e3]at h;cases h;exact .inr (.inr (.inr ⟨rfl,rfl⟩))
   .rw[g4]
    cases s.ev.length with
    |zero=>exact .inl rfl
    |succ m=>exact .inr (.inl ⟨rfl,rfl⟩)
   .rw[g5];exact .inr (.inl ⟨rfl,rfl⟩)
  .rw[g6 k d]
   rcases(D k o d (V k o d h)).2 with J|⟨hv,_⟩
   .rw[J];exact .inl rfl
   .have:=Ld hv
    exact .inr (.inl ⟨this.1,this.2.2⟩)
 have CZ:p1.b≠p3.b:=λh=>S.Zv _ Y (h▸Z);refine⟨co,Kept.refl _ _,?_,λk p d=> ?_,λk p d=>S.lt _ (Ir k p d),λk l p C d y q R r=> ?_,λk p d=> ?_⟩
 .refine⟨fun j i=>(j=p1.b/\N i)\/(j=p3.b/\O i),fun j i h=> ?_,fun j j' i h h'=> ?_,fun k p d=> ?_,fun k l p C a a' d y R B r=> ?_⟩
  .rcases h with⟨_,h⟩|⟨_,h⟩
   .exact⟨S.lt _ (S.Zj _ h),nk _ (S.Zj _ h) λW=>(hP _ W).2.1 h⟩
   .exact⟨S.lt _ (S.Zf _ h),nk _ (S.Zf _ h) λW=>(hP _ W).2.2.1 h⟩
  .rcases h with⟨rfl,h⟩|⟨rfl,h⟩<;>rcases h' with⟨rfl,h'⟩|⟨rfl,h'⟩
   .rfl
   .exact tA h' (S.Zv _ h)
   .exact tA h (S.Zv _ h')
   .rfl
  .rcases QY k p d with h|⟨q,h⟩|⟨rfl,rfl⟩|⟨rfl,rfl⟩
   .rw[h];trivial
   .rw[h]
    obtain⟨a1,a2,_⟩:=ac k p d q;intro j T;rcases T with⟨_,T⟩|⟨_,T⟩
    .exact a1 T
    .exact a2 T
   .rw[g1]
    have e:(λi=>(p.b=p.b/\N i)\/(p.b=p3.b/\O i))=N:=by
     funext i;exact propext ⟨λh=>h.elim (·.2) (λh=>tA h.1 CZ),λh=>.inl ⟨rfl,h⟩⟩
    show nD.J _ (λi=>(p.b=p.b/\N i)\/(p.b=p3.b/\O i)) _ _;rw[e];exact TU
   .rw[g3]
    have e:(λi=>(p.b=p1.b/\N i)\/(p.b=p.b/\O i))=O:=by
     funext i;exact propext ⟨λh=>h.elim (λh=>tA h.1.symm CZ) (·.2),λh=>.inr ⟨rfl,h⟩⟩
    show nD.J _ (λi=>(p.b=p1.b/\N i)\/(p.b=p.b/\O i)) _ _;rw[e];exact ce
  .rcases QY k p d with h|⟨_,h⟩|⟨rfl,rfl⟩|⟨rfl,rfl⟩
   .rw[h]at R;cases R
   .rw[h]at R;cases R
   .rcases QY l C y with h|⟨_,h⟩|⟨rfl,rfl⟩|⟨rfl,rfl⟩
    .rw[h]at B;cases B
    .rw[h]at B;cases B
    .rfl
    .exact tA r CZ
   .rcases QY l C y with h|⟨_,h⟩|⟨rfl,rfl⟩|⟨rfl,rfl⟩
    .rw[h]at B;cases B
    .rw[h]at B;cases B
    .exact tA r.symm CZ
    .rfl
 .rw[bi]
  rcases cn k 6 with h|h
  .omega
  .exact bv k p (V k p h d)
 .obtain⟨a1,a2,a3⟩:=ac k p d q
  rcases QY l C y with h|⟨E,h⟩|⟨rfl,rfl⟩|⟨rfl,rfl⟩
  .exact tA h (Dm.1 R)
  .rcases cn k 6 with K|K
   .rcases own k p K d q with⟨o3,hs⟩|⟨rfl,bm⟩
    .rcases cn l 6 with f|f
     .rcases own l C f y E with⟨Hz,L⟩|⟨rfl,VL⟩
      .exact S.inj k l p C o3 Hz hs L r
      .exact tA (r.trans VL) (S.blk k p o3 hs).2.2.2.1
     .rcases(D l C f (V _ _ f y)).2 with J|⟨_,I,_⟩
      .rw[g6 l f,J]at E;cases E
      .exact tA r (I.2.2.2 k p o3 hs)
    .rcases cn l 6 with f|f
     .rcases own l C f y E with⟨Hz,L⟩|⟨rfl,VL⟩
      .exact tA (r.symm.trans bm) (S.blk l C Hz L).2.2.2.1
      .rfl
     .rcases(D l C f (V _ _ f y)).2 with J|⟨_,I,_⟩
      .rw[g6 l f,J]at E;cases E
      .exact tA (r.symm.trans bm) I.2.2.1
   .rcases(D k p K (V _ _ K d)).2 with J|⟨_,I,_,_,d5⟩
    .rw[g6 k K,J]at q;cases q
    .rcases cn l 6 with f|f
     .rcases own l C f y E with⟨Hz,L⟩|⟨rfl,VL⟩
      .exact tA r.symm (I.2.2.2 l C Hz L)
      .exact tA (r.trans VL) I.2.2.1
     .exact d5 l C f (V _ _ f y) (by rw[<-g6 l f];exact R) r
  .exact tA (r▸Y) a1
  .exact tA (r▸Z) a2
 .have U:(H.getD k .dead).owned=true->¬kept F P w p.b:=fun q=>nk _ (Ir k p d) (ac k p d q).2.2
  have am:Le ς (look ς τ z v):=afe S.hi;rcases cn k 6 with K|K
  .rcases Vz k K with rfl|rfl|rfl|rfl|rfl|rfl
   .rw[g0]at U ⊢
    obtain⟨_,_,_,_,r⟩:=S.blk 0 p (.inl rfl) d;refine⟨λ_=>⟨U rfl,(r.1 rfl).2⟩,λi u hu=> ?_⟩;by_cases e9:i=9
    .subst e9
     have:u=.slice (some ⟨5,v,some 4⟩) c.W c.W:=by
      have:(Al ⟨c,s.m,s.now,s.wo,v,x,n,aG A s.ev,λi=>w.cell? ⟨z,i,none⟩,e,G⟩ (dW s.ev.length))[9]?=some (.slice (some ⟨5,v,some 4⟩) c.W c.W):=rfl;rw[this]at hu;exact(b9 hu).symm
     subst this;exact⟨_,S.wk p d,VR.win (p:=⟨z,v*35,35,1⟩) agY rfl⟩
    .have d6:(Vs c (dW s.ev.length) e G)[i]?=some u:=by
      have hi:i<12:=(aE.1 hu).1;rcases(by omega:i=0\/i=1\/i=2\/i=3\/i=4\/i=5\/i=6\/i=7\/i=8\/i=10\/i=11)with rfl|rfl|rfl|rfl|rfl|rfl|rfl|rfl|rfl|rfl|rfl<;>exact hu
     obtain⟨u',h1,h2⟩:=r.2 i u d6;exact⟨u',h1,h2.mono am⟩
   .rw[g1]
    have d:ς 1=some p:=d;rw[e1]at d;cases d;exact⟨λh=>(by cases h),ca⟩
   .rw[g2]at U ⊢
    obtain⟨_,_,_,_,r⟩:=S.blk 2 p (.inr (.inl rfl)) d;exact((r.mono am rfl).sets λq=>U q)
   .rw[g3]
    have d:ς 3=some p:=d;rw[e3]at d;cases d;exact⟨λh=>(by cases h),cb⟩
   .rw[g4]at U ⊢
    obtain⟨_,_,_,_,r⟩:=S.blk 4 p (.inr (.inr rfl)) d;exact((r.mono am rfl).sets λq=>U q)
   .rw[g5]at U ⊢
    cases d;refine⟨λ_=>⟨U rfl,S.fz,λj T=> ?_⟩,hl.symm,λi u hu=> ?_,λi _=>rfl⟩
    .have T:j<1*35:=T
     obtain⟨x',h1,_⟩:=ar j wc[j] (tD (by omega));rw[h1];rfl
    .obtain⟨x',h1,h2⟩:=ar i u hu
     exact⟨x',h1,h2.mono (PG h0 ao)⟩
  .rw[g6 k K]at U ⊢
   rcases(D k p K (V _ _ K d)).2 with J|⟨_,_,_,r,_⟩
   .rw[J];exact⟨λh=>(by cases h),trivial⟩
   .exact((r.mono (PG h0 ao) rfl).sets λq=>U q)
def grown(F:Nat->Prop)(w a:World):Nat->Prop:=λj=>F j\/w.heap.size<=j/\j<a.heap.size
def grown_of{F P:Nat->Prop}{w b:World}{j:Nat}(h:¬kept F P w j)(l:j<b.heap.size):grown F w b j:=by
 rcases cn j w.heap.size with a|a
 .exact .inl (cv λc=>h (.inl ⟨a,c⟩))
 .exact .inr ⟨a,l⟩
def xO{F:Nat->Prop}{w a:World}{j:Nat}(h:grown F w a j):¬j5 (grown F w a) a j:=λk=>k.2 h
def kV(σ:Nat->Option Pl):Nat->Option Pl:=λk=>if qy k=true then σ k else none
def FP{σ:Nat->Option Pl}{k:Nat}(h:qy k=true):kV σ k=σ k:=tz h
def l7{σ:Nat->Option Pl}{k:Nat}{p:Pl}(h:kV σ k=some p):qy k=true/\σ k=some p:=by
 unfold kV at h;split at h
 .exact⟨by assumption,h⟩
 .cases h
structure alE(c:Cn)(s':Ms)(A':Nat->Int)(e' at':Int)(F P:Nat->Prop)(ς:Nat->Option Pl)(b bw v:Nat)(wc':List Value)(tl':List Go.Sx.ag)(σ':Nat->Option Pl)(w w':World)(vE M7:Nat->Prop)(ς':Nat->Option Pl):Prop where
 sh:Sh c s' A' e' at' (grown F w w') vE M7 ς' b bw w'
 s0:ς' 0=ς 0
 ap:∀j,P j->Apart vE M7 ς' bw j
 out:∀i,i<v*35\/v*35+35<=i->w'.cell? ⟨bw,i,none⟩=w.cell? ⟨bw,i,none⟩
 len:wc'.length=35
 win:∀(i:Nat) (x:Value),wc'[i]?=some x->∃x',w'.cell? ⟨bw,v*35+i,none⟩=some x'/\VR σ' x x'
 blk:∀k p,6<=k->σ' k=some p->oG (tl'.getD (k-6) .dead)=true->k<6+tl'.length/\grown F w w' p.b/\Apart vE M7 ς' bw p.b/\¬P p.b/\BR (j5 (grown F w w') w') σ' (tl'.getD (k-6) .dead) p w'/\
  ∀k' p',6<=k'->σ' k'=some p'->oG (tl'.getD (k'-6) .dead)=true->p.b=p'.b->k=k'
def back{c:Cn}{s a:Ms}{A L:Nat->Int}{e ao W at':Int}{F fm fw:Nat->Prop}{ς τ y:Nat->Option Pl}{b E v:Nat}{w w':World}{P:Nat->Prop}{T:List Value}{G:List Go.Sx.ag}{x':Wr}{n':Nat}
  (S:Sh c s A e ao F fm fw ς b E w)
  (D:HR (kept F P w) w nD y (bI ⟨c,a.m,a.now,a.wo,v,x',n',aG L a.ev,λi=>w.cell? ⟨E,i,none⟩,W,at'⟩ (dW a.ev.length) (fE a.ev.length (aG L a.ev)) T G) w')
  (hP:∀j,P j->Apart fm fw ς E j)
  (hσ:∀k,k=0\/k=1\/k=2\/k=3\/k=5->y k=look ς τ E v k):
  ∃vE M7 B,alE c a L W at' F P ς b E v T G y w w' vE M7 B:=by
 generalize U:bI ⟨c,a.m,a.now,a.wo,v,x',n',aG L a.ev,λi=>w.cell? ⟨E,i,none⟩,W,at'⟩ (dW a.ev.length) (fE a.ev.length (aG L a.ev)) T G=H at D;have g0:H.getD 0 .dead=bl (Al ⟨c,a.m,a.now,a.wo,v,x',n',aG L a.ev,λi=>w.cell? ⟨E,i,none⟩,W,at'⟩ (dW a.ev.length)):=by rw[<-U];rfl
 have g1:H.getD 1 .dead=.abs true (.mem c a.m):=by rw[<-U];rfl
 have g2:H.getD 2 .dead=bl [.int .i64 a.now]:=by rw[<-U];rfl
 have g3:H.getD 3 .dead=.abs true (.kL a.wo):=by rw[<-U];rfl
 have g4:H.getD 4 .dead=fE a.ev.length (aG L a.ev):=by rw[<-U];rfl
 have g5:H.getD 5 .dead=.win true true (λi=>w.cell? ⟨E,i,none⟩) T:=by rw[<-U];rfl
 have g6:∀k,6<=k->H.getD k .dead=G.getD (k-6) .dead:=λk d=>by
  obtain⟨k,rfl⟩:∃i,k=i+6:=⟨k-6,by omega⟩;rw[<-U];rfl
 have dt:H.length=6+G.length:=by
  rw[<-U];show(_++G).length=_;rw[cE];rfl
 clear U;obtain⟨p0,e0,ar,bi⟩:=S.p0;obtain⟨X,e1,bm,bv,TU⟩:=S.p1;obtain⟨p2,e2⟩:=S.p2;obtain⟨Y,e3,ca,cb,dv⟩:=S.p3;have q0:y 0=some p0:=(hσ 0 (.inl rfl)).trans e0;have q1:y 1=some X:=(hσ 1 (.inr (.inl rfl))).trans e1;have q2:y 2=some p2:=(hσ 2 (.inr (.inr (.inl rfl)))).trans e2;have q3:y 3=some Y:=(hσ 3 (.inr (.inr (.inr (.inl rfl))))).trans e3;have q5:y 5=some ⟨E,v*35,35,1⟩:=hσ 5 (.inr (.inr (.inr (.inr rfl))));have CZ:X.b≠Y.b:=λh=>S.Zv _ bv (h▸cb);obtain⟨G',a1,a2,a3,a4⟩:=D.ab;have j1:=a3 1 X q1;rw[g1]at j1;have j1:rC (.mem c a.m) (G' X.b) X.b w':=j1;have j3:=a3 3 Y q3;rw[g3]at j3;have j3:rC (.kL a.wo) (G' Y.b) Y.b w':=j3;have Vj:∀k p,y k=some p->(H.getD k .dead).owned=true->¬kept F P w p.b/\grown F w w' p.b/\¬G' X.b p.b/\¬G' Y.b p.b:=λk p d N=>by
  have I:=((D.blk k p d).1 N).1;have J:=a3 k p d;rw[jd N]at J;exact⟨I,grown_of I (D.lt k p d),J _,J _⟩
 have ce:(H.getD 5 .dead).owned=true:=by rw[g5];rfl
 obtain⟨k5,co,m5,n5⟩:=Vj 5 _ q5 ce;have b5:=D.blk 5 _ q5;rw[g5]at b5;obtain⟨B,V⟩:∃B:Nat->Option Pl,B=λk=>if k<=4 then(if k=4/\a.ev.length=0 then none else y k)else none:=⟨_,rfl⟩
 have z0:B 0=y 0:=by rw[V];rfl
 have z1:B 1=y 1:=by rw[V];rfl
 have z2:B 2=y 2:=by rw[V];rfl
 have z3:B 3=y 3:=by rw[V];rfl
 have zs:∀k p,B k=some p->y k=some p:=λk p d=>by
  rw[V]at d;simp only at d;split at d
  .split at d
   .cases d
   .exact d
  .cases d
 have z4:a.ev.length≠0->B 4=y 4:=λh=>by
  rw[V];simp only[aq,if_true];rw[ck (λk=>h k.2)]
 have ac:a.ev.length=0->B 4=none:=λh=>by
  rw[V];simp only[aq,if_true];rw[tz ⟨trivial,h⟩]
 have d5:∀k,5<=k->B k=none:=λk d=>by
  rw[V];exact ck (by omega)
 clear V
 have Ta:∀k p,Own3 k->B k=some p->y k=some p/\(H.getD k .dead).owned=true:=λk p C d=>by
  refine⟨zs k p d,?_⟩;rcases C with rfl|rfl|rfl
  .rw[g0];rfl
  .rw[g2];rfl
  .rw[g4]
   cases hl:a.ev.length with
   |zero=>rw[ac hl]at d;cases d
   |succ m=>rfl
 have d6:∀k,Own3 k->k≠5:=λk C h=>by
  subst h;rcases C with h|h|h<;>cases h
 have d7:∀k p,Own3 k->B k=some p->p.b≠E:=λk p C d f=>by
  obtain⟨I,J⟩:=Ta k p C d;exact d6 k C (D.inj k 5 p _ I q5 J (by rw[g5];rfl) f)
 refine⟨G' X.b,G' Y.b,B,⟨⟨λj r=> ?_,⟨p0,z0.trans q0,ar,bi⟩,⟨X,z1.trans q1,bm,TI j1,j1⟩,⟨p2,z2.trans q2⟩,⟨Y,z3.trans q3,ca,TI j3,j3⟩,λh=>ac (by rw[h];rfl),d5,λk p C d=> ?_,λp d=> ?_,λk Z p p' C Hz d O f=> ?_,λj r=> ?_,λj r=> ?_,λj r d8=> ?_,?_,?_⟩,z0.trans (hσ 0 (.inl rfl)),λj r=> ?_,λi hi=> ?_,?_,λi x hx=> ?_,λk p h6 d ha=> ?_⟩⟩
 .rcases r with r|r
  .exact ba (S.lt j r) D.below.size
  .exact r.2
 .obtain⟨I,J⟩:=Ta k p C d
  obtain⟨k1,k2,k3,k4⟩:=Vj k p I J;refine⟨k2,k3,k4,d7 k p C d,?_⟩;have f:=D.blk k p I;rcases C with rfl|rfl|rfl
  .rw[g0]at f
   refine⟨λ_=>⟨xO k2,(f.1 rfl).2⟩,λi u n=> ?_⟩;have hi:i<12:=(aE.1 n).1;by_cases e9:i=9
   .subst e9
    have:u=undef:=by
     have:(Vs c (dW a.ev.length) W at')[9]?=some undef:=rfl;rw[this]at n;exact(b9 n).symm
    subst this;have:(Al ⟨c,a.m,a.now,a.wo,v,x',n',aG L a.ev,λi=>w.cell? ⟨E,i,none⟩,W,at'⟩ (dW a.ev.length))[9]?=some (.slice (some ⟨5,v,some 4⟩) c.W c.W):=rfl;obtain⟨K,Q,_⟩:=f.2 9 _ this;exact⟨K,Q,.any _⟩
   .have d9:(Al ⟨c,a.m,a.now,a.wo,v,x',n',aG L a.ev,λi=>w.cell? ⟨E,i,none⟩,W,at'⟩ (dW a.ev.length))[i]?=some u:=by
     rcases(by omega:i=0\/i=1\/i=2\/i=3\/i=4\/i=5\/i=6\/i=7\/i=8\/i=10\/i=11)with rfl|rfl|rfl|rfl|rfl|rfl|rfl|rfl|rfl|rfl|rfl<;>exact n
    obtain⟨K,Q,R⟩:=f.2 i u d9;refine⟨K,Q,?_⟩;have pl:aN u=true->VR B u K:=λh=>by rw[R.aD h];exact VR.aN _ h
    have pp:∀k,B k=y k->u=pk k->VR B u K:=λk hz e=>by
     subst e;obtain⟨p,h5,rfl⟩:=R.gL;exact .ptr (hz.trans h5)
    rcases(by omega:i=0\/i=1\/i=2\/i=3\/i=4\/i=5\/i=6\/i=7\/i=8\/i=10\/i=11)with rfl|rfl|rfl|rfl|rfl|rfl|rfl|rfl|rfl|rfl|rfl
    .cases n;exact pl rfl
    .cases n;exact pl rfl
    .cases n;exact pl rfl
    .cases n;exact pl rfl
    .cases n;exact pl rfl
    .cases n;exact pp 1 z1 rfl
    .cases n;exact pp 2 z2 rfl
    .cases n;exact pp 3 z3 rfl
    .have n:some (dW a.ev.length)=some u:=n
     have n:=b9 n;cases hl:a.ev.length with
     |zero=>rw[hl]at n;subst n;exact pl rfl
     |succ m=>
      rw[hl]at n;have z:=z4 (by rw[hl];exact Nat.succ_ne_zero m);subst n;obtain⟨p,h5,h6,rfl⟩:=R.yL;exact .vec (z.trans h5) h6
    .cases n;exact pl rfl
    .cases n;exact pl rfl
  .rw[g2]at f
   refine⟨λ_=>⟨xO k2,(f.1 rfl).2⟩,λi u n=> ?_⟩;obtain⟨K,Q,R⟩:=f.2 i u n;refine⟨K,Q,?_⟩;have:aN u=true:=by
    have hi:i<1:=(aE.1 n).1;obtain rfl:i=0:=by omega
    cases n;rfl
   rw[R.aD this];exact VR.aN _ this
  .rw[g4]at f
   show BR _ _ (fE a.ev.length (aG L a.ev)) _ _;refine⟨λN=>⟨xO k2,(f.1 N).2⟩,?_⟩;have f:=f.2;cases hl:a.ev.length with
   |zero=>trivial
   |succ m=>
    rw[hl]at f;exact⟨f.1,λi j hi r=>let⟨K,Q,R⟩:=f.2 i j hi r;⟨K,Q,Kk _ R⟩⟩
 .have d:=zs 0 p d
  have f:=D.blk 0 p d;rw[g0]at f;have:(Al ⟨c,a.m,a.now,a.wo,v,x',n',aG L a.ev,λi=>w.cell? ⟨E,i,none⟩,W,at'⟩ (dW a.ev.length))[9]?=some (.slice (some ⟨5,v,some 4⟩) c.W c.W):=rfl;obtain⟨K,Q,R⟩:=f.2 9 _ this;rw[Q];have dd:∀l:Nat,VR y (.slice (some ⟨5,v,some 4⟩) l l) K->K=.slice (some ⟨E,0,none⟩) l l:=λl h=>by
   cases h with
   |win h N=>rw[q5]at h;cases h;rfl
  rw[dd _ R]
 .obtain⟨I,J⟩:=Ta k p C d
  obtain⟨Q,R⟩:=Ta Z p' Hz O;exact D.inj k Z p p' I Q J (oU R) f
 .exact grown_of (a1 _ j r).2 (a1 _ j r).1
 .exact grown_of (a1 _ j r).2 (a1 _ j r).1
 .exact CZ (a2 _ _ j r d8)
 .exact⟨co,m5,n5⟩
 .exact λo=>((b5.1 rfl).2.1 o)
 .refine⟨fun h=>(a1 _ j h).2 (.inr r),fun h=>(a1 _ j h).2 (.inr r),(hP j r).2.2.1,fun k q C d f=> ?_⟩
  obtain⟨I,J⟩:=Ta k q C d;exact(Vj k q I J).1 (f▸ .inr r)
 .exact b5.2.2.2 i hi
 .exact b5.2.1.symm
 .exact b5.2.2.1 i x hx
 .have N:=(Ld ha)
  rw[<-g6 k h6]at N;obtain⟨k1,k2,k3,k4⟩:=Vj k p d N.1;have f:=D.blk k p d;rw[g6 k h6]at f;refine⟨by have:=D.dom k p d;omega,k2,⟨k3,k4,λh=> ?_,λZ q C O h=> ?_⟩,λh=>k1 (.inr h),f.sets λ_=>xO k2,λZ p' de O dp h=> ?_⟩
  .have:=D.inj k 5 p _ d q5 N.1 (by rw[g5];rfl) h
   omega
  .obtain⟨I,J⟩:=Ta Z q C O
   have:=D.inj Z k q p I d J N.2.1 h;rcases C with e|e|e<;>omega
  .have am:=(Ld dp)
   rw[<-g6 Z de]at am;exact D.inj k Z p p' d O N.1 am.2.1 h
end
noncomputable section
open Go.RowKit Go.bn Go.Sx Yq
variable{c:Cn} {s s':Ms} {A A':Nat->Int} {e m u z:Int} {F C D:Nat->Prop} {ς:Nat->Option Pl} {τ:Nat->Nat->Option Pl} {b E v:Nat} {w G:World}
def Wy{σ:Nat->Option Pl}{x:Go.Sx.ag}{p:Pl}{a:Nat->Prop}(h:BR (j5 F w) σ x p w)(d:G.heap[p.b]?=w.heap[p.b]?)(f:a p.b):BR (j5 a G) σ x p G:=(h.mono (Le.refl _) d).sets λ_ k=>k.2 f
def U9{a:List Value}{l:List Go.Sx.ag}{σ:Nat->Option Pl}{n:Nat->Prop}(h:Pv F E a l v σ w)(o:∀j,F j->n j)(r:∀k p,6<=k->σ k=some p->G.heap[p.b]?=w.heap[p.b]?)
  (y:∀i,i<a.length->G.cell? ⟨E,v*35+i,none⟩=w.cell? ⟨E,v*35+i,none⟩):Pv n E a l v σ G:=
 ⟨h.low,h.dom,λi x q=>by
  obtain⟨B,H,I⟩:=h.win i x q;exact⟨B,(y i (aE.1 q).1).trans H,I⟩,λk p d f=>⟨o _ (h.blk k p d f).1,Wy (h.blk k p d f).2 (r k p d f) (o _ (h.blk k p d f).1)⟩,h.inj⟩
def aiY(S:Sh c s A e m F C D ς b E w)(f:w.heap.size<=G.heap.size)(h:∀j,F j->G.heap[j]?=w.heap[j]?):Sh c s A e m F C D ς b E G:=by
 obtain⟨x,y,i,l,T⟩:=S.p1;obtain⟨B,H,n,q,J⟩:=S.p3;refine⟨λj a=>ba (S.lt j a) f,S.p0,⟨x,y,i,l,Iq _ _ _ _ _ T f λj a=>h j (S.Zj j a)⟩,S.p2,⟨B,H,n,q,Iq _ _ _ _ _ J f λj a=>h j (S.Zf j a)⟩,S.p4,S.hi,λk p I d=> ?_,λp d=> ?_,S.inj,S.Zj,S.Zf,S.Zv,S.QK,λo=> ?_⟩
 .obtain⟨r,K,L,N,O⟩:=S.blk k p I d
  exact⟨r,K,L,N,Wy O (h _ r) r⟩
 .rw[cM (w:=w) (h p.b (S.blk 0 p (.inl rfl) d).1)];exact S.wk p d
 .rw[nh (w:=w) (h E S.QK.1)];exact S.fz o
def ajc(M:Mj c s A e m F C D ς b E τ w)(f:w.heap.size<=G.heap.size)(a:∀j,F j->G.heap[j]?=w.heap[j]?):Mj c s A e m F C D ς b E τ G:=
 ⟨aiY M.sh f a,M.t0,λv d=>U9 (M.pv v d) (λ_ h=>h) (λk p l h=>a _ ((M.pv v d).blk k p l h).1) (λi _=>cM (w:=w) (a E M.sh.QK.1)),M.ap,M.pp⟩
def Ab(M:Mj c s A e m F C D ς b E τ w){U:Nat->Prop}:∀j,xA c τ U j->j<w.heap.size/\Apart C D ς E j:=by
 rintro j ⟨v,k,p,h,_,a,d,rfl⟩;exact⟨M.sh.lt _ ((M.pv v h).blk k p a d).1,M.ap v k p h a d⟩
def Qj{α:Type}{l:List α}{f:α->Bool}{d:α}(h:l.all f=true){i:Nat}(a:i<l.length):f (l.getD i d)=true:=by
 rw[bp]at h;rw[b8,tD a];exact h _ (eC a)
def Tz(M:Mj c s A e m F C D ς b E τ w)(o:v<c.W)(n:Nat):
  HR (kept F (xA c τ (· ≠v)) w) w nD (look ς (τ v) E v) (bI (aP c s v n (aG A s.ev) (λi=>w.cell? ⟨E,i,none⟩) e m) (dW s.ev.length) (fE s.ev.length (aG A s.ev)) (cZ c v (s.ws v)).1 (cZ c v (s.ws v)).2) w:=by
 have V:=M.pv v o;have a:=uM c v (s.ws v);refine view M.sh (M.t0 v o) a.2.2 (Ab M) V.low V.dom V.win λk p l f=>⟨(V.blk k p l f).1,.inr ⟨?_,M.ap v k p o l f,?_,(V.blk k p l f).2,λq r h d _ x=>V.inj k q p r l h f d x⟩⟩
 .have:=V.dom k p f
  exact Qj a.2.1 (by omega)
 .rintro⟨H,q,r,y,B,h,d,x⟩
  exact M.pp H v q k r p y o B h l d f x
def YB(M:Mj c s A e m F C D ς b E τ w)(hv:v<c.W){n':Nat}{o:Nat->Option Pl}
  (W:HR (kept F (xA c τ (· ≠v)) w) w nD o (bI (aP c s' v n' (aG A' s'.ev) (λi=>w.cell? ⟨E,i,none⟩) u z) (dW s'.ev.length) (fE s'.ev.length (aG A' s'.ev)) (cZ c v (s'.ws v)).1 (cZ c v (s'.ws v)).2) G)
  (Z:∀k,k=0\/k=1\/k=2\/k=3\/k=5->o k=look ς (τ v) E v k) (ho:∀i,i<c.W->i≠v->s'.ws i=s.ws i):
  ∃X Y P τ',Mj c s' A' u z (grown F w G) X Y P b E τ' G:=by
 obtain⟨X,Y,P,B⟩:=back M.sh W (λj I=>(Ab M j I).2) Z;have a:=uM c v (s'.ws v);have J:∀k p,6<=k->o k=some p->oG ((cZ c v (s'.ws v)).2.getD (k-6) .dead)=true:=λk p d f=>by
  have:=W.dom k p f;have hl:k<6+(cZ c v (s'.ws v)).2.length:=by
   have e:(bI (aP c s' v n' (aG A' s'.ev) (λi=>w.cell? ⟨E,i,none⟩) u z) (dW s'.ev.length) (fE s'.ev.length (aG A' s'.ev)) (cZ c v (s'.ws v)).1 (cZ c v (s'.ws v)).2).length=6+(cZ c v (s'.ws v)).2.length:=by
    show(_++(cZ c v (s'.ws v)).2).length=_;rw[cE];rfl
   omega
  exact Qj a.2.1 (by omega)
 have V:∀i k p,i<c.W->i≠v->6<=k->τ i k=some p->xA c τ (· ≠v) p.b:=λi k p r H d f=>⟨i,k,p,r,H,d,f,rfl⟩;have dn:∀i,(if i=v then kV o else τ i)=if i=v then kV o else τ i:=λ_=>rfl
 have tv:(if v=v then kV o else τ v)=kV o:=tz rfl;refine⟨X,Y,P,λi=>if i=v then kV o else τ i,B.sh,λi r=> ?_,λi r=> ?_,λi k p r d f=> ?_,λi N k K p L r Q H d q f n=> ?_⟩
 .by_cases h:i=v
  .subst h
   show(if i=i then kV o else τ i) 0=P 0;rw[tz rfl,B.s0,FP rfl,Z 0 (.inl rfl)];rfl
  .show(if i=v then kV o else τ i) 0=P 0
   rw[ck h,B.s0];exact M.t0 i r
 .by_cases h:i=v
  .subst h
   show Pv _ _ _ _ _ (if i=i then kV o else τ i) _;rw[tz rfl];refine⟨λk O h5=> ?_,λk p d=> ?_,λj x I=> ?_,λk p y d=> ?_,λk K p L y R d q S=> ?_⟩
   .unfold kV
    rw[ck];intro h;unfold qy at h;rw[eV,bj]at h;rcases h with h|h
    .have:=cJ h;omega
    .have:=ey h.1;omega
   .obtain⟨O,l⟩:=l7 d
    rcases cn k 6 with y|y
    .omega
    .exact(B.blk k p y l (J k p y l)).1
   .obtain⟨x',O,l⟩:=B.win j x I
    exact⟨x',O,l.av (by
     have:=a.1;rw[bp]at this;exact this x (du I)) λk d=>FP d⟩
   .obtain⟨_,l⟩:=l7 d
    obtain⟨_,h3,_,_,h4,_⟩:=B.blk k p y l (J k p y l);exact⟨h3,h4.av (J k p y l) λk d=>FP d⟩
   .obtain⟨_,l⟩:=l7 d
    obtain⟨_,T⟩:=l7 q;exact(B.blk k p y l (J k p y l)).2.2.2.2.2 K L R T (J K L R T) S
  .show Pv _ _ _ _ _ (if i=v then kV o else τ i) _
   rw[ck h,ho i r h];refine U9 (M.pv i r) (λj I=>.inl I) (λk p d f=>W.below.block _ (.inr (V i k p r h d f))) λj I=>B.out _ ?_;rw[(uM c i (s.ws i)).2.2]at I;rcases cn i v with O|O
   .left
    have:(i+1)*35<=v*35:=dq _ O;omega
   .right
    have:(v+1)*35<=i*35:=dq _ (by omega);omega
 .have f:(if i=v then kV o else τ i) k=some p:=f
  by_cases h:i=v
  .rw[tz h]at f
   obtain⟨_,l⟩:=l7 f;exact(B.blk k p d l (J k p d l)).2.2.1
  .rw[ck h]at f
   exact B.ap _ (V i k p r h d f)
 .have f:(if i=v then kV o else τ i) k=some p:=f
  have n:(if N=v then kV o else τ N) K=some L:=n;by_cases h:i=v
  .rw[tz h]at f
   obtain⟨_,l⟩:=l7 f;have U:N≠v:=λe=>H (h.trans e.symm);rw[ck U]at n;exact λS=>(B.blk k p d l (J k p d l)).2.2.2.1 (S▸V N K L Q U q n)
  .rw[ck h]at f
   by_cases U:N=v
   .rw[tz U]at n
    obtain⟨_,l⟩:=l7 n;exact λS=>(B.blk K L q l (J K L q l)).2.2.2.1 (S▸V i k p r h d f)
   .rw[ck U]at n
    exact M.pp i N k K p L r Q H d q f n
def dm:List Go.Sx.ag:=List.replicate 8 .dead
def acj(i:Nat):dm.getD i .dead=.dead:=by
 unfold dm;rw[b8,mY];split<;>rfl
def adR(c:Cn)(w:Nat)(x:Wr):(cZ c w x).2.length<=8:=by
 unfold cZ;generalize EU c x.ph=e;have N:∀(b:Bool) (y:Go.Sx.ag),(bif b then [y]else []).length<=1:=λb y=>by cases b<;>simp
 obtain⟨f,o,O⟩:=x;cases f with
 |rest=>simp[mZ]
 |pin h=>cases h<;>simp[mZ]
 |work k=>
  cases k with
  |get t=>
   unfold mZ tkH;simp only[cE,Dg,ct,cW];generalize (Nat.ble 1 (Oe t.st)&&Nat.ble (Oe t.st) 8)=a;generalize Nat.beq (Oe t.st) 12=b;cases a<;>cases b<;>simp
  |give t=>
   unfold mZ gvH;simp only[cE,Dg,ct,cW];generalize Nat.beq (gvN t.st) 3=b;cases b<;>simp
  |bg t=>
   obtain⟨B,i,H,n,P,Q,R,I,e⟩:=t;cases B<;>simp[mZ,smH,Dg]
  |close q=>cases q<;>simp[mZ]
  |stats t=>
   unfold mZ twH SK;simp only[cE,Dg,ct,cW];generalize Ti.of t=t;obtain⟨d,J,l,K,L,n⟩:=t;cases d<;>cases l<;>simp[Oo,GQ]
  |aS r=>
   unfold mZ rpH;simp only[cE,Dg,ct,cW];generalize Nat.beq (rpN r.st) 3=b;cases b<;>simp
 |counts t=>
  unfold mZ twH SK;simp only[cE,ct,cW];generalize Ti.of t=t;obtain⟨d,J,l,K,L,n⟩:=t;cases d<;>cases l<;>simp[Oo,GQ]
 |enters q=>simp[mZ]
 |ax t p a=>
  have:(Xp c w t 6 e).length<=8:=by
   unfold Xp;simp only[cE,ct,cW];generalize ((Nat.ble 3 (BO t.st)&&Nat.ble (BO t.st) 7)||Nat.beq (BO t.st) 9||Nat.beq (BO t.st) 10)=a;generalize Nat.beq (BO t.st) 4=b;cases a<;>cases b<;>simp
  cases p<;>exact this
 |parked b=>simp[mZ]
 |wakes h=>cases h<;>simp[mZ]
 |leaves q=>simp[mZ]
def ae1(M:Mj c s A e m F C D ς b E τ w)(d:v<c.W)(x:Wr)(n:Nat):
  HR (kept F (xA c τ λ_=>True) w) w nD (look ς (τ v) E v) (bI ⟨c,s.m,s.now,s.wo,v,x,n,aG A s.ev,λi=>w.cell? ⟨E,i,none⟩,e,m⟩ (dW s.ev.length) (fE s.ev.length (aG A s.ev)) (cZ c v (s.ws v)).1 dm) w:=by
 have V:=M.pv v d;have a:=uM c v (s.ws v);refine view M.sh (M.t0 v d) a.2.2 (Ab M) V.low (λk p h=> ?_) V.win λk p h f=>⟨(V.blk k p h f).1,.inl (acj _)⟩;have:=V.dom k p h;have l:=adR c v (s.ws v);have o:dm.length=8:=rfl;omega
def ae0(M:Mj c s A e m F C D ς b E τ w)(R:v<c.W){x:Wr}{n':Nat}{K:Nat->Option Pl}{q:List Go.Sx.ag}
  (r:HR (kept F (xA c τ λ_=>True) w) w nD K (bI ⟨c,s'.m,s'.now,s'.wo,v,x,n',aG A' s'.ev,λi=>w.cell? ⟨E,i,none⟩,u,z⟩ (dW s'.ev.length) (fE s'.ev.length (aG A' s'.ev)) (cZ c v (s.ws v)).1 (dm++q)) G)
  (L:∀k,k<14->K k=look ς (τ v) E v k) (N:∀i,i<c.W->s'.ws i=s.ws i):
  ∃y H I O,Mj c s' A' u z (grown F w G) y H I b E O G:=by
 obtain⟨y,H,I,B⟩:=back M.sh r (λj n=>(Ab M j n).2) (λk d=>L k (by omega));have a:=uM c v (s.ws v);have J:∀i k p,i<c.W->6<=k->τ i k=some p->xA c τ (λ_=>True) p.b:=λi k p f d l=>⟨i,k,p,f,trivial,d,l,rfl⟩;refine⟨y,H,I,τ,B.sh,λi f=>by rw[B.s0];exact M.t0 i f,λi f=> ?_,λi k p f d l=>B.ap _ (J i k p f d l),M.pp⟩;rw[N i f];by_cases h:i=v
 .subst h
  have V:=M.pv i f;refine⟨V.low,V.dom,λj x n=> ?_,λk p d l=>⟨.inl (V.blk k p d l).1,Wy (V.blk k p d l).2 (r.below.block _ (.inr (J i k p f d l))) (.inl (V.blk k p d l).1)⟩,V.inj⟩;obtain⟨P,o,Q⟩:=B.win j x n;refine⟨P,o,Q.av ?_ λk d=> ?_⟩
  .have:=a.1
   rw[bp]at this;exact this x (du n)
  .rw[<-aff (M.t0 i f) (v:=i) (bw:=E) d]
   refine(L k ?_).symm;unfold qy at d;rw[eV,bj]at d;rcases d with d|d
   .have:=cJ d;omega
   .have:=ey d.2;omega
 .refine U9 (M.pv i f) (fun j n=>.inl n) (fun k p d l=>r.below.block _ (.inr (J i k p f d l))) fun j n=>B.out _ ?_
  rw[(uM c i (s.ws i)).2.2]at n;rcases cn i v with o|o
  .left
   have:(i+1)*35<=v*35:=dq _ o;omega
  .right
   have:(v+1)*35<=i*35:=dq _ (by omega);omega
end
section
open Go.RowKit Go.bn Go.Shelf
attribute [local go_sem] Oper.semAt_some
theorem D6:∀l:List Nat,l.length<=15->(∀a∈l,a<=14)->au l<1152921504606846976
 |l,h,b=>by
  have:∀(n:Nat) (l:List Nat),l.length<=n->(∀a∈l,a<=14)->au l+1<=16^n:=by
   intro n;induction n with
   |zero=>intro l h _;obtain rfl:=cR (by omega:l.length=0);unfold au;decide
   |succ n i=>
    intro l h b;cases l with
    |nil=>
     have:=rN (m:=n+1) (by decide:(0:Int)<16);unfold au;omega
    |cons a r=>
     have e:=i r (by simpa using h) (λx c=>b x (da _ c));have d:=b a cV;unfold au;rw[Int.pow_succ];omega
  have d:=this 15 l h b;have:(16:Int)^15=1152921504606846976:=by decide
  omega
def Cy(l:List Nat){k:Nat}(h:k<l.length):au (l.drop k)=((l[k]:Nat):Int)+1+16*au (l.drop (k+1)):=by
 rw[lj h];rfl
def Me{l:List Nat}(h:dZ l)(k:Nat):dZ (l.drop k):=⟨by rw[List.length_drop];have:=h.1;omega,λa b=>h.2 a (qv b)⟩
def abu{l:List Nat}{k:Nat}(h:k<l.length):0<au (l.drop k):=by
 rw[Cy l h];have:=l8 (l.drop (k+1));omega
set_option maxRecDepth 100000 in
set_option maxHeartbeats 2000000 in
def V7(F:Fence)(n:Nat)(V:F.fn 270)(r:F.round=none)(O:1<=n)(w m:Nat)(l:List Nat)(o:dZ l)(J:Nat->World->Prop)(x:World->Prop)
  (p:∀k W,J k W->Boxed W m 3 (.int .i64 (au (l.drop k))))
  (Y:∀(k:Nat) (h:k<l.length) W,J k W->YieldAt F (n-1) Tryz.prog w #[.int .i64 (k:Int),.int .i64 (l[k]:Int)] W λe d=>
   (e=.returned (.bool true)/\Boxed d m 3 (.int .i64 (au (l.drop k)))/\J (k+1) (d.setCell ⟨m,0,none⟩ (.int .i64 (au (l.drop (k+1))))))\/(e=.returned (.bool false)/\x d))
  (W:World) (D:J 0 W):
  CallsIn F n Tryz.prog 270 #[.func (.yield w) #[] #[],.pointer (some ⟨m,0,none⟩)] W λe d=>(∃v,e=.returned v)/\(J l.length d\/x d):=by
 refine oa Tryz.func270 rfl V ?_ r;simp only[Tryz.ntmps270,cU,ct,cW,Nat.reduceAdd,Nat.reduceSub,eK,eJ,fS,eW,dr,eE];gi_wp2
 gi_loopw [3] (fun i wr=>∃k:Nat,k<=l.length/\i=.int .i64 k/\J k wr)
  (λi _=>l.length-(intOf i).toNat)
 case atStart=>exact⟨0,tE _,rfl,D⟩
 case round=>
  obtain⟨k,P,rfl,q⟩:=hrel;have b:=p k wr q;have y:=b.cell;have E:=b.frozen;by_cases a:k<l.length
  .have Q:=abu a
   have G:=Cy l a;have u:=l8 (l.drop (k+1));have T:=D6 _ (Me o k).1 (Me o k).2;obtain⟨U,z,s,A,H,R⟩:=Y k a wr q;have I:=o.2 _ (eC a);have B:au (l.drop k)%16-1=((l[k]:Nat):Int):=by omega
   have C:au (l.drop k)/16=au (l.drop (k+1)):=by omega
   have S:=Lib.hid C;rw[<-B]at H;clear G I u B C;gi_wp2
   refine R.mono ?_;rintro e X (⟨rfl,f,c⟩|⟨rfl,c⟩)
   .have K:=f.cell
    have L:=f.frozen;clear y E b p;have Z:=o.1;gi_wp2
    refine⟨⟨k+1,a,rfl,by rw[S.out];exact c⟩,?_⟩;simp only[intOf];omega
   .gi_wp2
    refine cC (results_none rfl _ _ _) rfl ?_;exact⟨⟨_,rfl⟩,.inr c⟩
  .obtain rfl:k=l.length:=by omega
   rw[uc (aq _)]at b;unfold au at b;have N:=b.cell;clear y p;gi_wp2
   go_end0
   exact⟨⟨_,rfl⟩,.inl q⟩
def afB(n:Nat)(I:Nat->World->Prop)(x:Code->World->Prop)(k:Nat)(W:World):Exit->Act->World->Prop
 | .normal,_,a=>KeepsOthers W a/\a.heap[n]?=W.heap[n]?/\I (k+1) a
 | .ret,_,a=>KeepsOthers W a/\x .ret a
 | .exit id,_,a=>KeepsOthers W a/\x (.exit id) a
 | .goto t,_,a=>KeepsOthers W a/\x (.goto t) a
 | .panic _,_,_=>False
 | .outgrown,_,_=>False
structure jc(n₀ nb:Nat)(W W':World):Prop where
 below:Below n₀ W W'
 same:∀(j:Nat) (o:Obj),j≠nb->W.heap[j]?=some o->o.isCells=true->W'.heap[j]?=some o
theorem jc.put{n f:Nat}{W:World}{i:Nat}{o:Obj}(c:Obj)(l:n<=i)(h:W.heap[i]?=some o)(m:o.isCells=false):jc n f W (W.putObj i c):=by
 refine⟨(Below.refl n W).grown (gA W i c) (by have:=(bk.1 h).1;omega) (λk e=>by cases e;exact l),λj x _ a d=> ?_⟩;have b:j≠i:=by rintro rfl;rw[h]at a;cases a;rw[m]at d;cases d
 exact(fW b).trans a
def jc.alloc{n b:Nat}{W:World}(a:n<=W.heap.size)(o:Obj):jc n b W (W.alloc o):=
 ⟨(Below.refl n W).alloc a o,λj x _ h c=>(b7 W o j (bk.1 h).1).trans h⟩
theorem jc.set{a n:Nat}{W:World}(b:a<=n)(v:Value):jc a n W (W.setCell ⟨n,0,none⟩ v):=
 ⟨(Below.refl a W).setCell (p:=⟨n,0,none⟩) b v,λj x h c d=>(cy W ⟨n,0,none⟩ v j h).trans c⟩
def qW{F:Fence}{n:Nat}{ps:Array Tmp}{assign body:Code}{g:Operand}{Q:Exit->Act->World->Prop}{a:Act}{w:World}(hro:F.round=none)(hn:2<=n)(VM:F.fn 270){nb n₀:Nat}{l:List Nat}(hl:dZ l)
  (hg:a.eval g=.func (.func 270) #[] #[.pointer (some ⟨nb,0,none⟩)]) (hb:Boxed w nb 3 (.int .i64 (au l))) (hn0:n₀<=nb) (hps:ps.size=2)
  (I:Nat->World->Prop) (Ix:Code->World->Prop) (hI:∀k W W',I k W->jc n₀ nb W W'->I k W') (hIx:∀c W W',Ix c W->jc n₀ nb W W'->Ix c W') (h0:I 0 w) (a₁:Nat->Nat->Act)
  (hassign:∀(lp k x:Nat) (W:World) (K:Act->World->Prop),K (a₁ k x) W->
   assign.wpIn (F.inRound lp) (n-1-1) Tryz.prog (Exit.then K (λ_ _ _=>False)) {tmps:=(ps.zip #[Value.int .i64 (k:Int),.int .i64 (x:Int)]).foldl (λt (p,v)=>t.setIfInBounds p v) a.tmps,defers:=[]} W)
  (hbody:∀(lp k:Nat) (h:k<l.length) (W:World),w.heap.size<=lp->I k W->Boxed W nb 3 (.int .i64 (au (l.drop k)))->body.wpIn (F.inRound lp) (n-1-1) Tryz.prog (afB nb I Ix k W) (a₁ k l[k]) W)
  (hdone:∀(D:Nat) (W:World),w.heap.size<=D->I l.length W->W.heap[D]?=some (.deferred (some []))->Q .normal {a with defers:={target:=.collected D,args:= #[]}::a.defers} W)
  (hstop:∀(D:Nat) (c:Code) (W:World),w.heap.size<=D->Ix c W->W.heap[D]?=some (.deferred (some []))->c.wpIn F n Tryz.prog Q {a with defers:={target:=.collected D,args:= #[]}::a.defers} W):
  (Code.rangeFunc g ps assign body).wpIn F n Tryz.prog Q a w:=by
 refine wpIn_rangeFunc ?_;intro fn hfn;rw[hro];have hnb:=hb.lt;obtain⟨rec,hrec⟩:∃rec:LoopState->Option Code->Loop,rec=λst pe=>{state:=st,pending:=pe,fn,tmps:=a.tmps,params:=ps,assign,body,defers:=w.heap.size}:=⟨_,rfl⟩;obtain⟨D,hD⟩:∃D,D=w.heap.size:=⟨_,rfl⟩;obtain⟨L,hL⟩:∃L,L=w.heap.size+1:=⟨_,rfl⟩;obtain⟨W1,hW1⟩:∃W1,(w.alloc (.deferred (some []))).alloc (.loop (rec .ready none))=W1:=⟨_,rfl⟩;have sW:W1.heap.size=w.heap.size+2:=by rw[<-hW1];simp
 have hL1:W1.heap[L]?=some (.loop (rec .ready none)):=by
  rw[<-hW1,hL];have:=mC (w.alloc (.deferred (some []))) (.loop (rec .ready none));rwa[ld]at this
 have hK1:W1.heap[D]?=some (.deferred (some [])):=by
  rw[<-hW1,hD];exact(b7 _ _ _ (by simp)).trans (mC w _)
 have hI1:I 0 W1:=by
  rw[<-hW1];exact hI _ _ _ (hI _ _ _ h0 (jc.alloc (by omega) _)) (jc.alloc (by simp;omega) _)
 have hb1:Boxed W1 nb 3 (.int .i64 (au (l.drop 0))):=by rw[<-hW1];exact(hb.alloc _).alloc _
 let J:Nat->World->Prop:=λk W=>I k W/\Boxed W nb 3 (.int .i64 (au (l.drop k)))/\W.heap[L]?=some (.loop (rec .ready none))/\W.heap[D]?=some (.deferred (some []))
 let Jx:World->Prop:=λW=>∃c,Ix c W/\W.heap[L]?=some (.loop (rec .done (some c)))/\W.heap[D]?=some (.deferred (some []))
 refine⟨L,[{target:=.collected D,args:= #[]}],W1,{target:=.fn (.func 270) #[.pointer (some ⟨nb,0,none⟩)],args:= #[.func (.yield L) #[] #[]]},W1,270,
  #[.func (.yield L) #[] #[]]++ #[.pointer (some ⟨nb,0,none⟩)],W1,?_,?_,?_,?_,λ_=>by omega,?_⟩
 .rw[<-hW1,hrec,hL,hD];exact run_enterLoop_outer _ _ _ _ _
 .simp only[resolve,hg]
  simp[go_sem]
 .intro f' hf';simp[Target.leads]at hf';subst hf';exact VM
 .have _h:=enters_of Tryz.func270 (by kernel_rfl) rfl
  simp[invoke,go_sem]
 .refine(V7 F (n-1) VM hro (by omega) L nb l hl J Jx (fun k W h=>h.2.1) ?_ W1 ⟨hI1,hb1,hL1,hK1⟩).mono ?_
  .rintro k hk W ⟨hi,hbx,hl1,hk1⟩
   have hlt:L<W.heap.size:=(bk.1 hl1).1;have hy:=run_yield (P:=Tryz.prog) (args:= #[Value.int .i64 (k:Int),.int .i64 (l[k]:Int)]) hl1 (by rw[hrec];exact hps.symm);rw[hrec]at hy;refine⟨fn,_,assign,body,hy,roundIn_of_wpIn hfn (hassign _ k l[k] W _ ?_)⟩;clear hy;refine⟨_,run_beginRound hl1 (by rw[hrec]),?_⟩;obtain⟨W2,hW2⟩:∃W2,W.putObj L (.loop {rec .ready none with state:=.busy})=W2:=⟨_,rfl⟩;have hl2:W2.heap[L]?=some (.loop {rec .ready none with state:=.busy}):=by rw[<-hW2];exact pj hlt
   have hk2:W2.heap[D]?=some (.deferred (some [])):=by rw[<-hW2];exact(fW (by omega)).trans hk1
   have hi2:I k W2:=by rw[<-hW2];exact hI _ _ _ hi (jc.put _ (by omega) hl1 rfl)
   have hb2:Boxed W2 nb 3 (.int .i64 (au (l.drop k))):=by rw[<-hW2];exact(fW (by omega)).trans hbx
   rw[hW2];refine wpIn_mono (hbody L k hk W2 (by omega) hi2 hb2) ?_
   have fin:∀(jump:Option Code) (W3:World),KeepsOthers W2 W3->
     (Instr.endRound L jump).run Tryz.prog W3=.ok (.bool jump.isNone) (W3.putObj L (.loop (rec (if jump.isNone then .ready else .done) jump)))/\
     W3.heap[L]?=some (.loop {rec .ready none with state:=.busy})/\W3.heap[D]?=some (.deferred (some [])):=λjump W3 hk3=>by
    have hl3:=hk3.same _ _ hl2 rfl;have:=run_endRound (P:=Tryz.prog) jump hl3;rw[hrec]at this ⊢;exact⟨this,by rw[hrec]at hl3;exact hl3,hk3.same _ _ hk2 rfl⟩
   have stop:∀(c:Code) (W3:World),KeepsOthers W2 W3->Ix c W3->Jx (W3.putObj L (.loop (rec .done (some c)))):=λc W3 hk3 hx=>by
    obtain⟨_,hl3,hd3⟩:=fin (some c) W3 hk3;have hlt3:L<W3.heap.size:=(bk.1 hl3).1;exact⟨c,hIx _ _ _ hx (jc.put _ (by omega) hl3 rfl),pj hlt3,(fW (by omega)).trans hd3⟩
   rintro e a3 W3 hp;cases e with
   |normal=>
    obtain⟨hk3,aln,hi3⟩:=hp;obtain⟨hr,hl3,hd3⟩:=fin none W3 hk3;have hlt3:L<W3.heap.size:=(bk.1 hl3).1;have hb3:Boxed (W3.putObj L (.loop (rec .ready none))) nb 3 (.int .i64 (au (l.drop k))):=(fW (by omega)).trans (aln.trans hb2);refine⟨_,_,hr,.inl ⟨rfl,hb3,?_,hb3.set _,?_,?_⟩⟩
    .exact hI _ _ _ (hI _ _ _ hi3 (jc.put _ (by omega) hl3 rfl)) (jc.set hn0 _)
    .exact(cy _ _ _ _ (by show L≠nb;omega)).trans (pj hlt3)
    .exact(cy _ _ _ _ (by show D≠nb;omega)).trans ((fW (by omega)).trans hd3)
   |ret=>
    obtain⟨hk3,hx⟩:=hp;exact⟨_,_,(fin (some .ret) W3 hk3).1,.inr ⟨rfl,stop _ W3 hk3 hx⟩⟩
   |exit id=>
    obtain⟨hk3,hx⟩:=hp;exact⟨_,_,(fin (some (.exit id)) W3 hk3).1,.inr ⟨rfl,stop _ W3 hk3 hx⟩⟩
   |goto t=>
    obtain⟨hk3,hx⟩:=hp;exact⟨_,_,(fin (some (.goto t)) W3 hk3).1,.inr ⟨rfl,stop _ W3 hk3 hx⟩⟩
   |panic ch=>exact hp.elim
   |outgrown=>exact hp.elim
  .rintro e W2 ⟨⟨v,rfl⟩,(⟨hi,_,hl2,hk2⟩|⟨c,hi,hl2,hk2⟩)⟩
   .refine⟨none,_,by have:=run_endLoop (P:=Tryz.prog) hl2 (by rw[hrec];simp);rw[hrec]at this;exact this,hdone D _ (by omega) (hI _ _ _ hi (jc.put _ (by omega) hl2 rfl)) ((fW (by omega)).trans hk2)⟩
   .refine⟨some c,_,by have:=run_endLoop (P:=Tryz.prog) hl2 (by rw[hrec];simp);rw[hrec]at this;exact this,hstop D c _ (by omega) (hIx _ _ _ hi (jc.put _ (by omega) hl2 rfl)) ((fW (by omega)).trans hk2)⟩
def xW(F:Fence)(n:Nat)(a:F.fn 253)(h:F.round=none)(q:Int)(w:World):
  CallsIn F n Tryz.prog 253 #[.int .i64 q] w λe b=>e=.returned (.func (.func 270) #[] #[.pointer (some ⟨w.heap.size,0,none⟩)])/\b=w.alloc (.cells #[.int .i64 q] 3):=by
 refine oa Tryz.func253 rfl a ?_ h;simp only[Tryz.ntmps253,cU,ct,cW,Nat.reduceAdd,Nat.reduceSub,eK,eJ,fS,eW,dr,eE];gi_wp2
 go_ret;exact⟨rfl,rfl⟩
set_option maxRecDepth 100000 in
set_option maxHeartbeats 2000000 in
def TH{l:List Nat}(i:dZ l)(w:World):Calls Tryz.prog 267 #[.int .i64 (au l)] w λe s=>e=.returned (.int .i64 (l.length:Int))/\Below w.heap.size w s:=by
 refine(jn (n:=6)).1 ?_;refine mN Tryz.func267 rfl trivial ?_ rfl;simp only[Tryz.ntmps267,cU,ct,cW,Nat.reduceAdd,Nat.reduceSub,eK,eJ,fS,eW,dr,eE];have d:=Boxed.new w 3 (.int .i64 0);have u:=d.cell;have f0:=d.frozen;have Q:=i.1;gi_wp2_with (refine⟨trivial,?_⟩;gi_at_call 253;refine(xW Fence.wide 5 trivial rfl _ _).mono ?_;rintro e E ⟨rfl,rfl⟩)
 have m:Boxed ((w.alloc (.cells #[.int .i64 0] 3)).alloc (.cells #[.int .i64 (au l)] 3)) (w.heap.size+1) 3 (.int .i64 (au l)):=by
  have:=Boxed.new (w.alloc (.cells #[.int .i64 0] 3)) 3 (.int .i64 (au l));rwa[ld]at this
 have o:=d.alloc (.cells #[.int .i64 (au l)] 3);have B:Below w.heap.size w ((w.alloc (.cells #[.int .i64 0] 3)).alloc (.cells #[.int .i64 (au l)] 3)):=((Below.refl _ w).alloc (aq _) _).alloc (by simp) _;obtain⟨q,a⟩:∃q,(w.alloc (.cells #[.int .i64 0] 3)).alloc (.cells #[.int .i64 (au l)] 3)=q:=⟨_,rfl⟩;rw[a]at m o B ⊢;have v:=B.size;clear u f0 d a
 refine qW (F:=Fence.wide) (n:=6) rfl (by omega) trivial (nb:=w.heap.size+1) (n₀:=w.heap.size) i rfl m (by omega) rfl
  (λk W=>Boxed W w.heap.size 3 (.int .i64 (k:Int))/\Below w.heap.size w W) (λ_ _=>False) (λk W G h r=>⟨r.same _ _ (by omega) h.1 rfl,h.2.trans r.below⟩) (λ_ _ _ h _=>h) ⟨o,B⟩
  (λk x=>{tmps:= #[.int .i64 (au l),undef,.int .i64 0,.pointer (some ⟨w.heap.size,0,none⟩),.int .i64 (au l),.func (.func 270) #[] #[.pointer (some ⟨w.heap.size+1,0,none⟩)],.int .i64 (k:Int),.int .i64 (x:Int),undef,undef,undef],defers:=[]}) ?assign ?body ?done ?stop
 case assign=>
  intro y k x W K f;gi_wp2
  simpa using f
 case body=>
  rintro y k H W z ⟨b,B⟩ I;have A:=b.cell;have J:=b.frozen;gi_wp2
  exact⟨KeepsOthers.setCell _ _ _,cy _ _ _ _ (by show w.heap.size+1≠w.heap.size;omega),b.set _,B.setCell (p:=⟨w.heap.size,0,none⟩) (aq _) _⟩
 case done=>
  rintro D W C ⟨b,B⟩ f;have A:=b.cell;gi_wp2
  refine⟨by simp,.inl ⟨_,_,rfl,kO f,?_⟩⟩;exact⟨_,results_tmp rfl _ _ _,rfl,B.trans (pI (w:=w) (aq _) W D _ _ (by omega) f rfl rfl)⟩
 case stop=>
  intro D c W C h;exact h.elim
set_option maxRecDepth 100000 in
set_option maxHeartbeats 2000000 in
def TP{l:List Nat}(H:dZ l)(a:Int)(w:World):Calls Tryz.prog 205 #[.int .i64 (au l),.int .i64 a] w λe L=>e=.returned (.bool (l.any λx=>(x:Int)==a))/\Below w.heap.size w L:=by
 refine(jn (n:=6)).1 ?_;refine mN Tryz.func205 rfl trivial ?_ rfl;simp only[Tryz.ntmps205,cU,ct,cW,Nat.reduceAdd,Nat.reduceSub,eK,eJ,fS,eW,dr,eE];have X:=H.1;gi_wp2_with (refine⟨trivial,?_⟩;gi_at_call 253;refine(xW Fence.wide 5 trivial rfl _ _).mono ?_;rintro e Y ⟨rfl,rfl⟩)
 have B:Below w.heap.size w (((w.alloc (.cells #[.int .i64 a] 3)).alloc (.cells #[.bool false] 4)).alloc (.cells #[.int .i64 (au l)] 3)):=(((Below.refl _ w).alloc (aq _) _).alloc (by simp) _).alloc (by simp;omega) _;have I:=((Boxed.new w 3 (.int .i64 a)).alloc (.cells #[.bool false] 4)).alloc (.cells #[.int .i64 (au l)] 3);have y:=(Boxed.new (w.alloc (.cells #[.int .i64 a] 3)) 4 (.bool false)).alloc (.cells #[.int .i64 (au l)] 3);have z:=Boxed.new ((w.alloc (.cells #[.int .i64 a] 3)).alloc (.cells #[.bool false] 4)) 3 (.int .i64 (au l));simp only[ld]at y z;obtain⟨J,u⟩:∃J,((w.alloc (.cells #[.int .i64 a] 3)).alloc (.cells #[.bool false] 4)).alloc (.cells #[.int .i64 (au l)] 3)=J:=⟨_,rfl⟩;rw[u]at I y z B ⊢;have N:=B.size;clear u
 refine qW (F:=Fence.wide) (n:=6) rfl (by omega) trivial (nb:=w.heap.size+1+1) (n₀:=w.heap.size) H rfl z (by omega) rfl
  (λk W=>(∀(i:Nat) (h:i<l.length),i<k->¬(l[i]:Int)=a)/\Boxed W w.heap.size 3 (.int .i64 a)/\Boxed W (w.heap.size+1) 4 (.bool false)/\Below w.heap.size w W)
  (λc W=>c=.ret/\(∃x∈l,(x:Int)=a)/\Boxed W (w.heap.size+1) 4 (.bool true)/\Below w.heap.size w W)
  (λk W O h o=>⟨h.1,o.same _ _ (by omega) h.2.1 rfl,o.same _ _ (by omega) h.2.2.1 rfl,h.2.2.2.trans o.below⟩) (λc W O h o=>⟨h.1,h.2.1,o.same _ _ (by omega) h.2.2.1 rfl,h.2.2.2.trans o.below⟩) ⟨λi _ q=>tA q (mz _),I,y,B⟩
  (λk x=>{tmps:= #[.int .i64 (au l),.int .i64 a,undef,.pointer (some ⟨w.heap.size,0,none⟩),.pointer (some ⟨w.heap.size+1,0,none⟩),undef,.int .i64 (x:Int),.int .i64 (au l),.func (.func 270) #[] #[.pointer (some ⟨w.heap.size+1+1,0,none⟩)],.int .i64 (k:Int),.int .i64 (x:Int),undef,undef,undef],defers:=[]}) ?assign ?body ?done ?stop
 case assign=>
  intro P k x W K d;gi_wp2
  simpa using d
 case body=>
  rintro P k Q W R ⟨f,A,b,B⟩ Z;have v:=b.cell;have S:=b.frozen;have T:=A.cell;by_cases s:(l[k]:Int)=a
  .gi_wp2
   exact⟨KeepsOthers.setCell _ _ _,rfl,⟨_,eC Q,s⟩,b.set _,B.setCell (p:=⟨w.heap.size+1,0,none⟩) (by show w.heap.size<=w.heap.size+1;omega) _⟩
  .gi_wp2
   refine⟨KeepsOthers.refl _,rfl,λi q U=> ?_,A,b,B⟩;rcases cn i k with h|h
   .exact f i q h
   .obtain rfl:i=k:=by omega
    exact s
 case done=>
  rintro D W V ⟨f,A,b,B⟩ d;have v:=b.cell;have S:=b.frozen;gi_wp2
  have m:=(KeepsOthers.setCell W ⟨w.heap.size+1,0,none⟩ (.bool false)).same D _ d rfl;refine⟨by simp,.inl ⟨_,_,rfl,kO m,?_⟩⟩;have C:=m9 (World.cell?_setCell_same' W ⟨w.heap.size+1,0,none⟩ (.bool false) (by rw[v];rfl)) (gA _ D (.deferred none)) (λr e=>by cases e;exact⟨_,m,rfl⟩);have E:(l.any λx=>(x:Int)==a)=false:=by
   rw[ua];intro x s;obtain⟨i,q,rfl⟩:=ff.1 s;simpa using f i q q
  refine⟨.bool false,?_,by rw[E],(B.setCell (p:=⟨w.heap.size+1,0,none⟩) (by show w.heap.size<=w.heap.size+1;omega) _).trans (pI (w:=w) (aq _) _ D _ _ (by omega) m rfl rfl)⟩;simp[results,Tryz.f205,go_sem,C]
 case stop=>
  rintro D c W V ⟨rfl,⟨x,s,G⟩,b,B⟩ d;have v:=b.cell;gi_wp2
  refine⟨by simp,.inl ⟨_,_,rfl,kO d,?_⟩⟩;have C:=m9 v (gA _ D (.deferred none)) (λr e=>by cases e;exact⟨_,d,rfl⟩);have E:(l.any λx=>(x:Int)==a)=true:=by
   rw[sR];exact⟨x,s,by simpa using G⟩
  refine⟨.bool true,?_,by rw[E],B.trans (pI (w:=w) (aq _) W D _ _ (by omega) d rfl rfl)⟩;simp[results,Tryz.f205,go_sem,C]
set_option maxRecDepth 100000 in
set_option maxHeartbeats 2000000 in
def abQ{l:List Nat}(E:dZ l)(w:World):Calls Tryz.prog 250 #[.int .i64 (au l)] w λe J=>e=.returned (.tuple #[.int .i64 (l.headD 0:Int),.bool (!l.isEmpty)])/\Below w.heap.size w J:=by
 refine(jn (n:=6)).1 ?_;refine mN Tryz.func250 rfl trivial ?_ rfl;simp only[Tryz.ntmps250,cU,ct,cW,Nat.reduceAdd,Nat.reduceSub,eK,eJ,fS,eW,dr,eE];have V:=E.1;gi_wp2_with (refine⟨trivial,?_⟩;gi_at_call 253;refine(xW Fence.wide 5 trivial rfl _ _).mono ?_;rintro e X ⟨rfl,rfl⟩)
 have B:Below w.heap.size w (((w.alloc (.cells #[.int .i64 0] 3)).alloc (.cells #[.bool false] 4)).alloc (.cells #[.int .i64 (au l)] 3)):=(((Below.refl _ w).alloc (aq _) _).alloc (by simp) _).alloc (by simp;omega) _;have G:=((Boxed.new w 3 (.int .i64 0)).alloc (.cells #[.bool false] 4)).alloc (.cells #[.int .i64 (au l)] 3);have u:=(Boxed.new (w.alloc (.cells #[.int .i64 0] 3)) 4 (.bool false)).alloc (.cells #[.int .i64 (au l)] 3);have v:=Boxed.new ((w.alloc (.cells #[.int .i64 0] 3)).alloc (.cells #[.bool false] 4)) 3 (.int .i64 (au l));simp only[ld]at u v;obtain⟨H,q⟩:∃H,((w.alloc (.cells #[.int .i64 0] 3)).alloc (.cells #[.bool false] 4)).alloc (.cells #[.int .i64 (au l)] 3)=H:=⟨_,rfl⟩;rw[q]at G u v B ⊢;have L:=B.size;clear q
 refine qW (F:=Fence.wide) (n:=6) rfl (by omega) trivial (nb:=w.heap.size+1+1) (n₀:=w.heap.size) E rfl v (by omega) rfl
  (λk W=>k=0/\Boxed W w.heap.size 3 (.int .i64 0)/\Boxed W (w.heap.size+1) 4 (.bool false)/\Below w.heap.size w W)
  (λc W=>c=.ret/\0<l.length/\Boxed W w.heap.size 3 (.int .i64 (l.headD 0:Int))/\Boxed W (w.heap.size+1) 4 (.bool true)/\Below w.heap.size w W)
  (λk W N h i=>⟨h.1,i.same _ _ (by omega) h.2.1 rfl,i.same _ _ (by omega) h.2.2.1 rfl,h.2.2.2.trans i.below⟩) (λc W N h i=>⟨h.1,h.2.1,i.same _ _ (by omega) h.2.2.1 rfl,i.same _ _ (by omega) h.2.2.2.1 rfl,h.2.2.2.2.trans i.below⟩) ⟨rfl,G,u,B⟩
  (λk x=>{tmps:= #[.int .i64 (au l),undef,.pointer (some ⟨w.heap.size,0,none⟩),.pointer (some ⟨w.heap.size+1,0,none⟩),undef,.int .i64 (x:Int),.int .i64 (au l),.func (.func 270) #[] #[.pointer (some ⟨w.heap.size+1+1,0,none⟩)],.int .i64 (k:Int),.int .i64 (x:Int),undef],defers:=[]}) ?assign ?body ?done ?stop
 case assign=>
  intro O k x W K f;gi_wp2
  simpa using f
 case body=>
  rintro O k I W P ⟨rfl,a,b,B⟩ Y;have y:=b.cell;have Q:=b.frozen;have m:=a.cell;have z:=a.frozen;have A:l.headD 0=l[0]:=by cases l<;>first|rfl|(simp at I)
  gi_wp2
  refine⟨(KeepsOthers.setCell _ _ _).trans (KeepsOthers.setCell _ _ _),rfl,I,?_,?_,(B.setCell (p:=⟨w.heap.size,0,none⟩) (aq _) _).setCell (p:=⟨w.heap.size+1,0,none⟩) (by show w.heap.size<=w.heap.size+1;omega) _⟩
  .rw[A]
   exact(a.set _).other (by omega) _
  .exact(b.other (by omega) _).set _
 case done=>
  rintro D W R ⟨S,a,b,B⟩ f;obtain rfl:=cR S;have y:=b.cell;have Q:=b.frozen;have m:=a.cell;have z:=a.frozen;gi_wp2
  have d:=((KeepsOthers.setCell W ⟨w.heap.size,0,none⟩ (.int .i64 0)).trans (KeepsOthers.setCell _ ⟨w.heap.size+1,0,none⟩ (.bool false))).same D _ f rfl;refine⟨by simp,.inl ⟨_,_,rfl,kO d,?_⟩⟩;have T:=((a.set (.int .i64 0)).other (B':=w.heap.size+1) (by omega) (.bool false));have U:=((b.other (B':=w.heap.size) (by omega) (.int .i64 0)).set (.bool false));have C:=m9 T.cell (gA _ D (.deferred none)) (λr e=>by cases e;exact⟨_,d,rfl⟩);have o:=m9 U.cell (gA _ D (.deferred none)) (λr e=>by cases e;exact⟨_,d,rfl⟩);refine⟨.tuple #[.int .i64 0,.bool false],?_,rfl,((B.setCell (p:=⟨w.heap.size,0,none⟩) (aq _) _).setCell (p:=⟨w.heap.size+1,0,none⟩) (by show w.heap.size<=w.heap.size+1;omega) _).trans (pI (w:=w) (aq _) _ D _ _ (by omega) d rfl rfl)⟩;simp[results,Tryz.f250,go_sem,C,o]
 case stop=>
  rintro D c W R ⟨rfl,s,a,b,B⟩ f;have y:=b.cell;have m:=a.cell;gi_wp2
  refine⟨by simp,.inl ⟨_,_,rfl,kO f,?_⟩⟩;have C:=m9 y (gA _ D (.deferred none)) (λr e=>by cases e;exact⟨_,f,rfl⟩);have o:=m9 m (gA _ D (.deferred none)) (λr e=>by cases e;exact⟨_,f,rfl⟩);have A:l.isEmpty=false:=by cases l<;>first|rfl|(simp at s)
  refine⟨.tuple #[.int .i64 (l.headD 0:Int),.bool true],?_,by rw[A];rfl,B.trans (pI (w:=w) (aq _) W D _ _ (by omega) f rfl rfl)⟩;simp[results,Tryz.f250,go_sem,C,o]
theorem Au:∀a b:List Nat,au (a++b)=au a+2^(4*a.length)*au b
 |[],b=>by simp[au]
 |x::a,b=>by
  show((x:Int)+1)+16*au (a++b)=((x:Int)+1)+16*au a+_;rw[Au a b,ct,tj,py,Int.mul_add];simp only[lr,Int.reducePow];rw[lz (2^(4*a.length)) 16,vb];omega
theorem PO:∀a:List Nat,(∀x∈a,x<=14)->au a<2^(4*a.length)
 |[],_=>by simp[au]
 |x::a,h=>by
  have c:=PO a λy b=>h y (da _ b);have d:=h x cV;rw[ct,tj,py];simp only[lr,Int.reducePow];unfold au;omega
def ab'{l:List Nat}{k w:Nat}(b:k<l.length)(h:l[k]=w)(n:∀(i:Nat) (c:i<l.length),i<k->¬l[i]=w):l.erase w=l.take k++l.drop (k+1):=by
 induction l generalizing k with
 |nil=>simp at b
 |cons x r d=>
  cases k with
  |zero=>
   simp at h;subst h;simp
  |succ k=>
   have e:x≠w:=n 0 (by simp) (Nat.succ_pos _)
   rw[List.erase_cons_tail (by simpa using e),d (by simpa using b) (by simpa using h) λi c a=>by
    have:=n (i+1) (by simpa using c) (Nat.succ_lt_succ a);simpa using this]
   simp
def ZQ{x y:Int}{a:Nat}(c:0<=x)(l:x<2^a)(b:0<=y)(m:y*2^a<9223372036854775808)(d:a<=60):BitVec.ofInt 64 x&&&BitVec.ofInt 64 (y*2^a)=0:=by
 have n:(2:Int)^a<=2^60:=O5 d;have o:(2:Int)^60=1152921504606846976:=by decide
 have f:0<=y*2^a:=mL b (by have:=aU a;omega);apply BitVec.eq_of_toNat_eq;rw[BitVec.toNat_and,qD c (by omega),qD f (by omega)];have e:(y*2^a).toNat=y.toNat<<<a:=by
  rw[Nat.shiftLeft_eq];have:((y.toNat*2^a:Nat):Int)=y*2^a:=by
   rw[rk,BG,j8 b]
  rw[<-this,cH]
 have k:x.toNat<2^a:=by
  have:((2^a:Nat):Int)=(2:Int)^a:=BG a;omega
 rw[e];apply Nat.eq_of_testBit_eq;intro i;rw[tf,Nat.testBit_shiftLeft];rcases cn i a with h|h
 .have:decide (i>=a)=false:=by simpa using h
  rw[this];simp
 .rw[Nat.testBit_lt_two_pow (ba k (ue (by decide) h))];simp
def yK{x:Int}(h:0<=x)(a:x<=9223372036854775807):wrap64 x=x:=by unfold wrap64;omega
def acF(q:Int){d:Nat}(h:(2:Int)^d<=72057594037927936)(a:d<=63):bits .and .i64 q (wrap64 (wrap64 (2^d)-1))=q%2^d:=by
 have p:=aU d;have e:=Lg q d a;revert e h p;generalize (2:Int)^d=P;intro h p e;rw[yK (x:=P) (by omega) (by omega),yK (by omega) (by omega)];exact e
def Zt{l:List Nat}(d:dZ l){k:Nat}(w:k<l.length):bits .or .i64 (bits .and .i64 (au l) (wrap64 (wrap64 (2^(4*k))-1))) (wrap64 (au l/2^(4*(k+1))*2^(4*k)))=au (l.take k++l.drop (k+1)):=by
 have Q:=d.1;have z:=λ(a:List Nat) (h:∀x∈a,x∈l)=>PO a λx q=>d.2 x (h x q);have c:=z (l.take k) λx q=>List.mem_of_mem_take q;have E:=l8 (l.drop (k+1));have e:=l8 (l.take k);have r:(l.take k).length=k:=by rw[List.length_take];omega
 rw[r]at c;have F:=aU (4*k);have s:au l=au (l.take k)+2^(4*k)*au (l.drop k):=by
  have:=Au (l.take k) (l.drop k);rwa[List.take_append_drop,r]at this
 have u:=Cy l w;have q:=d.2 _ (eC w);have G:au l/2^(4*k)=au (l.drop k):=by
  rw[s,Int.add_mul_ediv_left _ _ (by omega),mj e c];omega
 have H:au l/2^(4*(k+1))=au (l.drop (k+1)):=by
  rw[show 4*(k+1)=4*k+4 from rfl,nV,G,u];simp only[Int.reducePow];omega
 have I:au l%2^(4*k)=au (l.take k):=by
  rw[s,Int.add_mul_emod_self_left,tM e c]
 have f:=D6 l d.1 d.2;have b:(2:Int)^(4*k)<=72057594037927936:=by
  have J:(2:Int)^(4*k)<=2^56:=O5 (by omega);exact Int.le_trans J (by decide)
 have i:=ZQ (a:=4*k) e c E;have o:=Yo (x:=au (l.take k)) (y:=au (l.drop (k+1))*2^(4*k));rw[H,acF _ b (by omega),I,Au,r,lz (2^(4*k)) (au (l.drop (k+1)))];have v:4*k<=60:=by omega
 clear G H I;have m:au (l.take k)+(((l[k]:Nat):Int)+1+16*au (l.drop (k+1)))*2^(4*k)=au l:=by rw[s,u,lz]
 rw[Int.add_mul,vb]at m;clear s u r z;revert o i m c F b;generalize (2:Int)^(4*k)=P;intro c F b i o m;have p:0<=(((l[k]:Nat):Int)+1)*P:=mL (by omega) (by omega);have n:0<=au (l.drop (k+1))*P:=mL E (by omega);revert o i m e f p n;generalize au (l.take k)=A;generalize au (l.drop (k+1))*P=B;generalize (((l[k]:Nat):Int)+1)*P=C;generalize au l=D;intro e f i o m p n;rw[yK n (by omega)];exact o (i (by omega) v) ⟨by omega,by omega⟩
set_option maxRecDepth 100000 in
set_option maxHeartbeats 2000000 in
def ach{l:List Nat}(s:dZ l)(a:Nat)(S:a∈l)(w:World):Calls Tryz.prog 254 #[.int .i64 (au l),.int .i64 (a:Int)] w λe T=>e=.returned (.tuple #[.int .i64 (au (l.erase a)),.bool true])/\Below w.heap.size w T:=by
 refine(jn (n:=6)).1 ?_;refine mN Tryz.func254 rfl trivial ?_ rfl;simp only[Tryz.ntmps254,cU,ct,cW,Nat.reduceAdd,Nat.reduceSub,eK,eJ,fS,eW,dr,eE];have Qd:=s.1;gi_wp2_with (refine⟨trivial,?_⟩;gi_at_call 253;refine(xW Fence.wide 5 trivial rfl _ _).mono ?_;rintro e U ⟨rfl,rfl⟩)
 have B:Below w.heap.size w (((((w.alloc (.cells #[.int .i64 (au l)] 3)).alloc (.cells #[.int .i64 a] 3)).alloc (.cells #[.int .i64 0] 3)).alloc (.cells #[.bool false] 4)).alloc (.cells #[.int .i64 (au l)] 3)):=
  (((((Below.refl _ w).alloc (aq _) _).alloc (by simp) _).alloc (by simp;omega) _).alloc (by simp;omega) _).alloc (by simp;omega) _
 have I:=((((Boxed.new w 3 (.int .i64 (au l))).alloc (.cells #[.int .i64 a] 3)).alloc (.cells #[.int .i64 0] 3)).alloc (.cells #[.bool false] 4)).alloc (.cells #[.int .i64 (au l)] 3);have v:=(((Boxed.new (w.alloc (.cells #[.int .i64 (au l)] 3)) 3 (.int .i64 a)).alloc (.cells #[.int .i64 0] 3)).alloc (.cells #[.bool false] 4)).alloc (.cells #[.int .i64 (au l)] 3);have y:=((Boxed.new ((w.alloc (.cells #[.int .i64 (au l)] 3)).alloc (.cells #[.int .i64 a] 3)) 3 (.int .i64 0)).alloc (.cells #[.bool false] 4)).alloc (.cells #[.int .i64 (au l)] 3);have z:=(Boxed.new (((w.alloc (.cells #[.int .i64 (au l)] 3)).alloc (.cells #[.int .i64 a] 3)).alloc (.cells #[.int .i64 0] 3)) 4 (.bool false)).alloc (.cells #[.int .i64 (au l)] 3);have A:=Boxed.new ((((w.alloc (.cells #[.int .i64 (au l)] 3)).alloc (.cells #[.int .i64 a] 3)).alloc (.cells #[.int .i64 0] 3)).alloc (.cells #[.bool false] 4)) 3 (.int .i64 (au l));simp only[ld]at v y z A;obtain⟨J,u⟩:∃J,((((w.alloc (.cells #[.int .i64 (au l)] 3)).alloc (.cells #[.int .i64 a] 3)).alloc (.cells #[.int .i64 0] 3)).alloc (.cells #[.bool false] 4)).alloc (.cells #[.int .i64 (au l)] 3)=J:=⟨_,rfl⟩;rw[u]at I v y z A B ⊢;have V:=B.size;clear u;have X:=D6 l s.1 s.2;have Y:=l8 l
 refine qW (F:=Fence.wide) (n:=6) rfl (by omega) trivial (nb:=w.heap.size+1+1+1+1) (n₀:=w.heap.size) s rfl A (by omega) rfl
  (λk W=>(∀(i:Nat) (h:i<l.length),i<k->¬l[i]=a)/\(Boxed W w.heap.size 3 (.int .i64 (au l))/\Boxed W (w.heap.size+1) 3 (.int .i64 (a:Int))/\Boxed W (w.heap.size+1+1) 3 (.int .i64 0)/\Boxed W (w.heap.size+1+1+1) 4 (.bool false))/\Below w.heap.size w W)
  (λc W=>c=.ret/\(Boxed W (w.heap.size+1+1) 3 (.int .i64 (au (l.erase a)))/\Boxed W (w.heap.size+1+1+1) 4 (.bool true))/\Below w.heap.size w W)
  (λk W Z h d=>⟨h.1,⟨d.same _ _ (by omega) h.2.1.1 rfl,d.same _ _ (by omega) h.2.1.2.1 rfl,d.same _ _ (by omega) h.2.1.2.2.1 rfl,d.same _ _ (by omega) h.2.1.2.2.2 rfl⟩,h.2.2.trans d.below⟩) (λc W Z h d=>⟨h.1,⟨d.same _ _ (by omega) h.2.1.1 rfl,d.same _ _ (by omega) h.2.1.2 rfl⟩,h.2.2.trans d.below⟩) ⟨λi _ m=>tA m (mz _),⟨I,v,y,z⟩,B⟩
  (λk x=>{tmps:= #[.int .i64 (au l),.int .i64 (a:Int),.pointer (some ⟨w.heap.size,0,none⟩),.pointer (some ⟨w.heap.size+1,0,none⟩),.pointer (some ⟨w.heap.size+1+1,0,none⟩),.pointer (some ⟨w.heap.size+1+1+1,0,none⟩),.int .i64 (k:Int),.int .i64 (x:Int),undef,undef,
   .int .i64 (au l),.func (.func 270) #[] #[.pointer (some ⟨w.heap.size+1+1+1+1,0,none⟩)],.int .i64 (k:Int),.int .i64 (x:Int),undef,undef,undef,undef,undef,undef,undef,undef,undef,undef,undef,undef,undef,undef,undef,undef,undef,undef,undef,undef,undef],defers:=[]}) ?assign ?body ?done ?stop
 case assign=>
  intro lp k x W K f;gi_wp2
  simpa using f
 case body=>
  rintro lp k L W ac ⟨b,⟨N,O,o,q⟩,B⟩ hn;have c1:=N.cell;have c2:=O.cell;have P:=o.cell;have Q:=q.cell;have f3:=o.frozen;have f4:=q.frozen;by_cases C:l[k]=a
  .have E:((l[k]:Nat):Int)=(a:Int):=by rw[C]
   have am:Tryz.prog.follows .mixedOrders=true:=by kernel_rfl
   have w0:0<=IntKind.i64.wrap (4*(k:Int)):=by rw[sY];omega
   have U:IntKind.i64.wrap (4*(k:Int))<=64:=by rw[sY];omega
   gi_wp2
   gi_region_with_o fail
   all_goals gi_wp2
   all_goals
    have R:=Zt s L;rw[<-ab' L C b]at R;rw[R];exact⟨((KeepsOthers.setCell _ _ _).trans (KeepsOthers.setCell _ _ _)).trans (KeepsOthers.drew _),rfl,⟨(o.set _).other (by omega) _,(q.other (by omega) _).set _⟩,((B.setCell (p:=⟨w.heap.size+1+1,0,none⟩) (by show w.heap.size<=w.heap.size+1+1;omega) _).setCell (p:=⟨w.heap.size+1+1+1,0,none⟩) (by show w.heap.size<=w.heap.size+1+1+1;omega) _).trans (Below.refl _ _).drew⟩
  .have E:¬((l[k]:Nat):Int)=(a:Int):=by omega
   gi_wp2
   refine⟨KeepsOthers.refl _,rfl,λi m ao=> ?_,⟨N,O,o,q⟩,B⟩;rcases cn i k with h|h
   .exact b i m h
   .obtain rfl:i=k:=by omega
    exact C
 case done=>
  rintro D W hD ⟨b,_⟩ f;obtain⟨i,m,G⟩:=ff.1 S;exact tA G (b i m m)
 case stop=>
  rintro D c W hD ⟨rfl,⟨o,q⟩,B⟩ f;have P:=o.cell;have Q:=q.cell;gi_wp2
  refine⟨by simp,.inl ⟨_,_,rfl,kO f,?_⟩⟩;have zq:=m9 P (gA _ D (.deferred none)) (λr e=>by cases e;exact⟨_,f,rfl⟩);have H:=m9 Q (gA _ D (.deferred none)) (λr e=>by cases e;exact⟨_,f,rfl⟩);refine⟨.tuple #[.int .i64 (au (l.erase a)),.bool true],?_,rfl,B.trans (pI (w:=w) (by omega) W D _ _ (by omega) f rfl rfl)⟩;simp[results,Tryz.f254,go_sem,zq,H]
end
end bq
end Go.Proofs.YteaflphddciglaaGreatDoor
namespace Go.Proofs.YteaflphddciglaaGreatDoor.bq
open Go.RowKit Go.bn Go.Shelf
attribute [local go_sem] Oper.semAt_some
def aeH{l:List Nat}(h:dZ l)(w:World):Calls Tryz.prog 252 #[.int .i64 (au l)] w λe b=>e=.returned (.int .i64 (au l.tail))/\Below w.heap.size w b:=by
 refine(jn (n:=6)).1 ?_;refine oa Tryz.func252 rfl trivial ?_ rfl;simp only[Tryz.ntmps252,cU,ct,cW,Nat.reduceAdd,Nat.reduceSub,eK,eJ,fS,eW,dr,eE];gi_wp2
 go_ret;refine⟨?_,Below.refl _ _⟩;cases l with
 |nil=>rfl
 |cons a r=>
  have c:=h.2 a cV;have d:=l8 r;have:au (a::r)/16=au r:=by
   show(((a:Int)+1)+16*au r)/16=au r;omega
  rw[this];rfl
def Yf{l:List Nat}(d:dZ l){w:Nat}(f:l.length<15)(i:w<=14):wrap64 (au l+wrap64 (((w:Int)+1)*2^(4*l.length)))=au (l++[w]):=by
 have c:dZ (l++[w]):=⟨by rw[cE];exact f,λa h=>by
  rcases eS.1 h with h|h
  .exact d.2 a h
  .rw[cY.1 h];exact i⟩
 have b:=D6 _ c.1 c.2;have e:au (l++[w])=au l+((w:Int)+1)*2^(4*l.length):=by
  rw[Au,lz];show au l+(((w:Int)+1)+16*0)*_=_;rw[Int.mul_zero,Int.add_zero]
 have n:=l8 l;have p:=aU (4*l.length);have q:0<=((w:Int)+1)*2^(4*l.length):=mL (by omega) (by omega);rw[e]at b ⊢;revert q b;generalize ((w:Int)+1)*2^(4*l.length)=Q;intro b q;rw[yK q (by omega),yK (by omega) (by omega)]
set_option maxRecDepth 100000 in
set_option maxHeartbeats 2000000 in
def aa0{l:List Nat}(a:dZ l){h:Nat}(d:l.length<15)(f:h<=14)(i:h∉l)(w:World):Calls Tryz.prog 277 #[.int .i64 (au l),.int .i64 (h:Int)] w λe k=>e=.returned (.tuple #[.int .i64 (au (l++[h])),.bool true])/\Below w.heap.size w k:=by
 refine(jn (n:=6)).1 ?_;refine oa Tryz.func277 rfl trivial ?_ rfl;simp only[Tryz.ntmps277,cU,ct,cW,Nat.reduceAdd,Nat.reduceSub,eK,eJ,fS,eW,dr,eE];have m:(l.any λx=>(x:Int)==(h:Int))=false:=by
  rw[ua];intro x o;have:x≠h:=λe=>i (e▸o);simp only[kA];omega
 have p:Tryz.prog.follows .mixedOrders=true:=by kernel_rfl
 gi_wp2_with (refine⟨trivial,?_⟩;first|(gi_at_call 267;refine(jn.2 (TH a _)).mono ?_;rintro e r ⟨rfl,b⟩)|(gi_at_call 205;refine(jn.2 (TP a _ _)).mono ?_;rw[m];rintro e s ⟨rfl,c⟩))
 have q:=Yf a d f;rw[q];go_ret2
 exact⟨rfl,b.trans (c.mono b.size)⟩
end Go.Proofs.YteaflphddciglaaGreatDoor.bq
namespace Go.Proofs.YteaflphddciglaaGreatDoor.bq
open Go.RowKit Go.bn Go.Sx
noncomputable section
def mD{G:Kj}{f:FuncId}{a:List Value}{v:Value}{X:Nat->Prop}{d:World}{l:List Go.Sx.ag}(p:a.all eX=true)(i:Go.Sx.plain v=true)(r:∀w,Calls Tryz.prog f a.toArray w λe c=>e=.returned v/\Below w.heap.size w c):dK Tryz.prog X d G f a l (v,l):=by
 refine⟨bu.refl _,λσ w b k h=> ?_⟩;rw[h.jS p];refine(r w).mono λe c m=> ?_;obtain⟨rfl,n⟩:=m;exact⟨v,rfl,σ,Ext.refl _ _,VR.plain σ i,k.kept n⟩
def afh{G:Kj}:dP G KT Tryz.prog TT 267 PK:=by
 refine⟨⟨_,Tryz.func267,by kernel_rfl,by kernel_rfl⟩,λX c d B T a e r h=> ?_⟩;unfold PK at h;split at h
 .rename_i q
  rcases M.af h with⟨s,h⟩|⟨_,h⟩
  .obtain⟨b,l⟩:=jv.1 s
   cases h;refine mD rfl rfl λw=> ?_;have:=TH l w;rwa[b]at this
  .cases h
 .cases h
def afi{G:Kj}:dP G KT Tryz.prog TT 205 PL:=by
 refine⟨⟨_,Tryz.func205,by kernel_rfl,by kernel_rfl⟩,λX k m B T c o r b=> ?_⟩;unfold PL at b;split at b
 .rename_i q a
  rcases M.af b with⟨s,b⟩|⟨_,b⟩
  .obtain⟨d,l⟩:=jv.1 s
   cases b;refine mD rfl rfl λw=> ?_;have:=TP l (.ofNat a) w;rw[d]at this;have e:((gH q).any λx=>(x:Int)==(.ofNat a:Int))=sure (a∈gH q):=by
    by_cases h:a∈gH q
    .rw[jh h,sR]
     exact⟨a,h,by simp⟩
    .rw[yM h,ua]
     intro x f;have n:x≠a:=λe=>h (e▸f);simp only[kA];intro i;exact n (Int.ofNat.inj i)
   rw[e]at this;exact this
  .cases b
 .cases b
def abq{G:Kj}:dP G KT Tryz.prog TT 250 KI:=by
 refine⟨⟨_,Tryz.func250,by kernel_rfl,by kernel_rfl⟩,λX i k B T d m r b=> ?_⟩;unfold KI at b;split at b
 .rename_i q
  rcases M.af b with⟨s,b⟩|⟨_,b⟩
  .obtain⟨f,l⟩:=jv.1 s
   have c:=λw=>abQ l w;rw[f]at c;rcases M.af b with⟨n,b⟩|⟨n,b⟩
   .have n:=jv.1 n
    cases b;refine mD rfl (by simp[Go.Sx.plain,aN]) λw=> ?_;have:=c w;rw[n]at this;exact this
   .have n:gH q≠[]:=fun h=>by rw[jh h]at n;cases n
    cases b;refine mD rfl (by simp[Go.Sx.plain,aN]) λw=> ?_;have:=c w;have e:(gH q).isEmpty=false:=by
     cases h:gH q with
     |nil=>exact tA h n
     |cons a r=>rfl
    rw[e]at this;exact this
  .cases b
 .cases b
def abp{G:Kj}:dP G KT Tryz.prog TT 277 KH:=by
 refine⟨⟨_,Tryz.func277,by kernel_rfl,by kernel_rfl⟩,λX i k B T b m r h=> ?_⟩;unfold KH at h;split at h
 .rename_i q a
  rcases M.af h with⟨s,h⟩|⟨_,h⟩
  .obtain⟨⟨c,l⟩,d,e,f⟩:=jv.1 s
   cases h;refine mD rfl (by simp[Go.Sx.plain,aN]) λw=> ?_;have:=aa0 l d e f w;rwa[c]at this
  .cases h
 .cases h
def abr{G:Kj}:dP G KT Tryz.prog TT 254 KJ:=by
 refine⟨⟨_,Tryz.func254,by kernel_rfl,by kernel_rfl⟩,λX e f B T b i r h=> ?_⟩;unfold KJ at h;split at h
 .rename_i q a
  rcases M.af h with⟨s,h⟩|⟨_,h⟩
  .obtain⟨⟨c,l⟩,k,d⟩:=jv.1 s
   cases h;refine mD rfl (by simp[Go.Sx.plain,aN]) λw=> ?_;have:=ach l a d w;rwa[c]at this
  .cases h
 .cases h
def afg{G:Kj}:dP G KT Tryz.prog TT 252 PI:=by
 refine⟨⟨_,Tryz.func252,by kernel_rfl,by kernel_rfl⟩,λX c d B T a e r h=> ?_⟩;unfold PI at h;split at h
 .rename_i q
  rcases M.af h with⟨s,h⟩|⟨_,h⟩
  .obtain⟨b,l⟩:=jv.1 s
   cases h;refine mD rfl (by simp[Go.Sx.plain,aN]) λw=> ?_;have:=aeH l w;rwa[b]at this
  .cases h
 .cases h
