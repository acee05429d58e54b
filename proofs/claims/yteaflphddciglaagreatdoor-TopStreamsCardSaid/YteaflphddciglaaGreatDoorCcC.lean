/- Group CcC: laws of the proof, joined. No condition of its own. -/
import Derived.Test.YteaflphddciglaaGreatDoorCcB
import Derived.Test.YteaflphddciglaaGreatDoorCaB
import Derived.Test.YteaflphddciglaaGreatDoorCcA
set_option linter.unusedVariables false
set_option linter.unusedSimpArgs false
namespace Go.Sx
open Go Go.RowKit
def qy(k:Nat):Bool:=Nat.beq k 0||(Nat.ble 6 k&&Nat.ble k 13)
def JE:Value->Bool
 | .pointer (some ⟨k,_,_⟩)=>qy k
 | .slice (some ⟨k,_,some 1⟩) _ _=>qy k
 | .func _ _ _| .agg _| .chan _| .slice (some _) _ _| .map (some _)=>false
 | .tuple a=>a.toList.isEmpty
 |_=>true
def av:Value->Bool
 | .func _ a c=>a.toList.all JE&&c.toList.all JE
 |v=>JE v
def oG:ag->Bool
 | .cells o _ c=>o&&c.all av
 | .ints o _ _=>o
 |_=>false
theorem VR.JE{σ τ:Nat->Option Pl}{v v':Value}(h:VR σ v v')(ha:Sx.JE v=true)(hs:∀k,qy k=true->τ k=σ k):VR τ v v':=by
 cases h with
 |any v=>exact .any _
 |skip=>cases ha
 |bool b=>exact .bool _
 |int k n=>exact .int _ _
 |string s=>exact .string _
 |wE=>exact .wE
 |ptr h=>exact .ptr ((hs _ ha).trans h)
 |lD h=>exact .lD ((hs _ ha).trans h)
 |kM l c=>exact .kM _ _
 |slice h=>cases ha
 |si h=>cases ha
 |vec h hl=>exact .vec ((hs _ ha).trans h) hl
 |arg h hc=>cases ha
 |win h ho=>cases ha
 |word s F=>exact .word s F
 |zW B i=>exact .zW B i
 |empty a=>cases ha
 |wI=>exact .wI
 |Ao h=>cases ha
 |nilFunc=>exact .nilFunc
 |nilIface=>exact .nilIface
 |func f h1 h2 h3 h4=>cases ha
 |agg h1 h2=>cases ha
 |tuple h1 h2=>
  rename_i a a'
  have e:a= #[]:=by
   have:a.toList=[]:=by simpa[Sx.JE]using ha
   exact Array.toList_inj.1 (by rw[this])
  subst e;exact .tuple h1 fun i x y hx=>by simp at hx
theorem VR.av{σ τ:Nat->Option Pl}{v v':Value}(h:VR σ v v')(ha:Sx.av v=true)(hs:∀k,qy k=true->τ k=σ k):VR τ v v':=by
 unfold Sx.av at ha;split at ha
 ·rename_i t a c
  rw[Bool.and_eq_true,List.all_eq_true,List.all_eq_true]at ha;cases h with
  |func f h1 h2 h3 h4=>
   exact .func f h1 h2 (fun i x y hx hy=>(h3 i x y hx hy).JE (ha.1 x (Array.mem_toList_iff.2 (Array.mem_of_getElem? hx))) hs) (fun i x y hx hy=>(h4 i x y hx hy).JE (ha.2 x (Array.mem_toList_iff.2 (Array.mem_of_getElem? hx))) hs)
 ·exact h.JE ha hs
theorem Ld{b:ag}(h:oG b=true):b.owned=true/\b.alive=true/\b.aM=some none:=by
 cases b<;>simp[oG]at h<;>first|exact⟨h,rfl,rfl⟩|exact⟨h.1,rfl,rfl⟩
theorem BR.av{n:Nat->Prop}{σ τ:Nat->Option Pl}{b:ag}{p:Pl}{w:World}(h:BR n σ b p w)(ha:oG b=true)(hs:∀k,qy k=true->τ k=σ k):BR n τ b p w:=by
 refine⟨h.1,?_⟩;have hb:=h.2;cases b with
 |cells ow wr c=>
  intro i v hv;obtain⟨v',h1,h2⟩:=hb i v hv;simp only[oG,Bool.and_eq_true,List.all_eq_true]at ha;exact⟨v',h1,h2.av (ha.2 v (List.mem_of_getElem? hv)) hs⟩
 |ints ow wr l=>exact hb
 |_=>cases ha
end Go.Sx
namespace Go.Proofs.YteaflphddciglaaGreatDoor.bq
open Go.RowKit Go.bn Go.Sx
noncomputable section
theorem gM{α:Type}{f:α->Bool}{a b:List α}(ha:a.all f=true)(hb:b.all f=true):(a++b).all f=true:=by rw[List.all_append,ha,hb];rfl
theorem pJ{b:Bool}{v:Value}(h:av v=true):av (vB b v)=true:=by cases b<;>first|exact h|rfl
theorem uN{l:List Value}(h:l.all av=true):oG (bl l)=true:=by
 show(true&&l.all av)=true;rw[h];rfl
theorem WE(c:Cn)(w:Nat)(f:Fd)(x:Ex):oG (fdV c w f x)=true:=by
 obtain⟨kd,ow,a,fd⟩:=f;refine uN (gM (gM rfl ?_) ?_)
 ·have:∀v:Value,av v=true->[Value.int .i64 (kd:Int),v,.int .i64 x.at_].all av=true:=fun v hv=>by
   show(true&&(av v&&(true&&true)))=true;rw[hv];rfl
  refine this _ ?_;simp only;split<;>rfl
 ·simp only
  cases fd<;>rfl
theorem NT(c:Cn)(k:Nat)(r:Rt)(x:Ex)(hk:qy k=true)(hx:av x.cell=true):oG (XX c k r x)=true:=by
 refine uN ?_;obtain⟨i,wd,ep,st,sw⟩:=r;have:(av x.cell&&(true&&(true&&(((qy k&&true)&&true)&&(true&&(true&&true))))))=true:=by rw[hx,hk];rfl
 cases st<;>exact this
theorem ajV(c:Cn)(p:Ph):av (EU c p).cell=true:=by
 unfold EU;split<;>rfl
theorem ajQ(c:Cn)(w:Nat)(t:Tk)(iW:Nat)(x:Ex)(h0:qy (iW+1)=true)(hx:av x.cell=true):(tkH c w t iW x).all oG=true:=by
 have hp:av (pk (iW+1))=true:=h0;refine gM ?_ ?_
 ·refine(Bool.and_true _).trans (uN (gM rfl ?_))
  have e:∀a b d e f g h i j:Value,av a=true->av b=true->av d=true->av e=true->av f=true->av g=true->av h=true->av i=true->av j=true->[a,b,d,e,f,g,h,i,j].all av=true:=by
   intro a b d e f g h i j h1 h2 h3 h4 h5 h6 h7 h8 h9;show(av a&&(av b&&(av d&&(av e&&(av f&&(av g&&(av h&&(av i&&(av j&&true)))))))))=true;rw[h1,h2,h3,h4,h5,h6,h7,h8,h9];rfl
  exact e _ _ _ _ _ _ _ _ _ rfl rfl (pJ hp) (pJ rfl) (pJ rfl) (pJ rfl) (pJ rfl) (pJ hp) rfl
 ·generalize (Nat.ble 1 (Oe t.st)&&Nat.ble (Oe t.st) 8)=a
  generalize Nat.beq (Oe t.st) 12=b;cases a
  ·cases b
   ·rfl
   ·exact(Bool.and_true _).trans (NT _ _ _ _ h0 hx)
  ·exact(Bool.and_true _).trans (WE _ _ _ _)
theorem ajU(c:Cn)(w:Nat)(t:Gv)(iW:Nat)(x:Ex)(h0:qy (iW+1)=true)(hx:av x.cell=true):(gvH c w t iW x).all oG=true:=by
 have hp:av (pk (iW+1))=true:=h0;refine gM ?_ ?_
 ·refine(Bool.and_true _).trans (uN (gM rfl ?_))
  have e:∀a b d e f g h i j:Value,av a=true->av b=true->av d=true->av e=true->av f=true->av g=true->av h=true->av i=true->av j=true->[a,b,d,e,f,g,h,i,j].all av=true:=by
   intro a b d e f g h i j h1 h2 h3 h4 h5 h6 h7 h8 h9;show(av a&&(av b&&(av d&&(av e&&(av f&&(av g&&(av h&&(av i&&(av j&&true)))))))))=true;rw[h1,h2,h3,h4,h5,h6,h7,h8,h9];rfl
  exact e _ _ _ _ _ _ _ _ _ rfl rfl rfl rfl rfl rfl (pJ rfl) (pJ hp) rfl
 ·generalize Nat.beq (gvN t.st) 3=b
  cases b
  ·rfl
  ·exact(Bool.and_true _).trans (NT _ _ _ _ h0 hx)
theorem ajS(c:Cn)(w:Nat)(s:Sm):(smH c w s 9).all oG=true:=by
 obtain⟨op,i,gen,n,st,wd,nx,num,e⟩:=s;cases op<;>cases st<;>rfl
theorem WC(c:Cn)(w:Nat)(k:Nat)(q:Qu)(hk:qy k=true):oG (quV c w k q)=true:=by
 refine uN (gM rfl ?_)
 have h1:av (mth (quF q.st) k)=true:=by
  show((qy k&&true)&&true)=true;rw[hk];rfl
 show(true&&(true&&(true&&(av _&&(true&&(true&&true))))))=true;rw[h1];rfl
theorem ajR(c:Cn)(w:Nat)(t:Td)(x:Ex)(hx:av x.cell=true):(Xp c w t 6 x).all oG=true:=by
 refine gM (gM ?_ ?_) ?_
 ·refine(Bool.and_true _).trans (uN (gM rfl ?_))
  have e:∀a b d e f g h i j k l:Value,av a=true->av b=true->av d=true->av e=true->av f=true->av g=true->av h=true->av i=true->av j=true->av k=true->av l=true->[a,b,d,e,f,g,h,i,j,k,l].all av=true:=by
   intro a b d e f g h i j k l h1 h2 h3 h4 h5 h6 h7 h8 h9 h10 h11;show(av a&&(av b&&(av d&&(av e&&(av f&&(av g&&(av h&&(av i&&(av j&&(av k&&(av l&&true)))))))))))=true;rw[h1,h2,h3,h4,h5,h6,h7,h8,h9,h10,h11];rfl
  exact e _ _ _ _ _ _ _ _ _ _ _ rfl rfl rfl rfl rfl (pJ rfl) rfl (pJ rfl) rfl rfl (pJ rfl)
 ·generalize ((Nat.ble 3 (BO t.st)&&Nat.ble (BO t.st) 7)||Nat.beq (BO t.st) 9||Nat.beq (BO t.st) 10)=b
  cases b
  ·rfl
  ·exact(Bool.and_true _).trans (WE _ _ _ _)
 ·generalize Nat.beq (BO t.st) 4=b
  cases b
  ·rfl
  ·exact(Bool.and_true _).trans (NT _ _ _ _ rfl hx)
theorem adE(c:Cn)(t:Ti)(iW:Nat)(h0:6<=iW)(h9:iW<=9):(SK c t iW).all oG=true:=by
 have h1:∀k,6<=k->k<=13->qy k=true:=fun k hk hk2=>by unfold qy;rw[show Nat.ble 6 k=true from by rw[Nat.ble_eq];exact hk,show Nat.ble k 13=true from by rw[Nat.ble_eq];exact hk2];simp
 obtain⟨rd,rl,last,ll,dn,n⟩:=t;refine gM (gM ((Bool.and_true _).trans (uN (gM rfl ?_))) ?_) ?_
 ·have e:∀a b d e:Value,av a=true->av b=true->av d=true->av e=true->[a,b,d,e].all av=true:=by
   intro a b d e h1 h2 h3 h4;show(av a&&(av b&&(av d&&(av e&&true))))=true;rw[h1,h2,h3,h4];rfl
  refine e _ _ _ _ ?_ ?_ rfl rfl
  ·cases rd
   ·rfl
   ·exact h1 (iW+1) (by omega) (by omega)
  ·cases last
   ·rfl
   ·cases rd
    ·exact h1 (iW+1) (by omega) (by omega)
    ·exact h1 (iW+1+1) (by omega) (by omega)
 ·cases rd<;>rfl
 ·cases last<;>rfl
theorem ajT(c:Cn)(w:Nat)(r:Rp)(x:Ex)(hx:av x.cell=true):(rpH c w r 9 x).all oG=true:=by
 refine gM ?_ ?_
 ·show(oG _&&(oG _&&true))=true
  rw[WE,uN (by
   show(true&&(true&&(true&&(av _&&true))))=true;rw[pJ (show av (pk 11)=true from rfl)];rfl)]
  rfl
 ·generalize Nat.beq (rpN r.st) 3=b
  cases b
  ·rfl
  ·exact(Bool.and_true _).trans (NT _ _ _ _ rfl hx)
theorem uM(c:Cn)(w:Nat)(x:Wr):(cZ c w x).1.all av=true/\(cZ c w x).2.all oG=true/\(cZ c w x).1.length=35:=by
 have hx:=ajV c x.ph;unfold cZ;generalize EU c x.ph=e at hx;obtain⟨ph,ask,gr⟩:=x;cases ph with
 |rest=>exact⟨rfl,rfl,rfl⟩
 |pin h=>cases h<;>exact⟨rfl,rfl,rfl⟩
 |work k=>
  cases k with
  |get t=>exact⟨rfl,gM rfl (ajQ c w t 9 e rfl hx),rfl⟩
  |give t=>exact⟨rfl,gM rfl (ajU c w t 9 e rfl hx),rfl⟩
  |strm t=>exact⟨rfl,gM rfl (ajS c w t),rfl⟩
  |close q=>
   cases q with
   |none=>exact⟨rfl,rfl,rfl⟩
   |some q=>
    refine⟨rfl,?_,rfl⟩;show(true&&(true&&(true&&(true&&(oG _&&true)))))=true;rw[WC _ _ _ _ rfl];rfl
  |stats t=>exact⟨rfl,gM rfl (adE c _ 9 (by omega) (by omega)),rfl⟩
  |aS r=>exact⟨rfl,gM rfl (ajT c w r e hx),rfl⟩
 |counts t=>exact⟨rfl,adE c _ 6 (Nat.le_refl _) (by omega),rfl⟩
 |enters q=>exact⟨rfl,(Bool.and_true _).trans (WC _ _ _ _ rfl),rfl⟩
 |ax t p a=>cases p<;>exact⟨rfl,ajR c w t e hx,rfl⟩
 |parked b=>exact⟨rfl,rfl,rfl⟩
 |wakes h=>cases h<;>exact⟨rfl,rfl,rfl⟩
 |leaves q=>exact⟨rfl,(Bool.and_true _).trans (WC _ _ _ _ rfl),rfl⟩
end
end Go.Proofs.YteaflphddciglaaGreatDoor.bq
namespace Go.Proofs.YteaflphddciglaaGreatDoor
namespace bq
noncomputable section
open Go.RowKit Go.bn Go.Sx
def nA(x:Ev)(at_:Int):List Value:=[.bool x.ended,.int .i64 (x.who:Int),.int .i64 at_]++vg x.ask++[.int .i64 x.ans.e,.int .i64 x.ans.slot,.int .i64 x.ans.gen,.int .i64 x.ans.strm,
 .int .i64 (x.ans.cnt.1:Int),.int .i64 (x.ans.cnt.2.1:Int),.int .i64 (x.ans.cnt.2.2.1:Int),.int .i64 (x.ans.cnt.2.2.2:Int)]
def aG(A:Nat->Int):List Ev->Go.Sx.Rows
 |[]=>⟨wN,fun _ _=>0,fun _ _=>false⟩
 |x::r=>eY r.length (nA x (A r.length)) (aG A r)
theorem Ed(A:Nat->Int):∀l:List Ev,(aG A l).ks=wN
 |[]=>rfl
 |x::r=>Ed A r
theorem IU{A A':Nat->Int}:∀l:List Ev,(∀i,i<l.length->A' i=A i)->aG A' l=aG A l
 |[],_=>rfl
 |x::r,h=>by
  unfold aG;rw[IU r (fun i hi=>h i (Nat.lt_succ_of_lt hi)),h r.length (Nat.lt_succ_self _)]
def dW(n:Nat):Value:=match n with|0=>.slice none 0 0|n+1=>.slice (some ⟨4,0,some 1⟩) (n+1) 0
def fE(n:Nat)(R:Go.Sx.Rows):Go.Sx.ag:=match n with|0=>.dead|n+1=>.rows true true 18 (n+1) R
structure Pv(F:Nat->Prop)(bw:Nat)(cells:List Value)(tl:List Go.Sx.ag)(v:Nat)(τ:Nat->Option Pl)(w:World):Prop where
 low:∀k,1<=k->k<=5->τ k=none
 dom:∀k p,τ k=some p->k<6+tl.length
 win:∀(i:Nat) (x:Value),cells[i]?=some x->∃x',w.cell? ⟨bw,v*35+i,none⟩=some x'/\VR τ x x'
 blk:∀k p,6<=k->τ k=some p->F p.b/\BR (j5 F w) τ (tl.getD (k-6) .dead) p w
 inj:∀k k' p p',6<=k->6<=k'->τ k=some p->τ k'=some p'->p.b=p'.b->k=k'
def Vs(c:Cn)(ev:Value)(e at_:Int):List Value:=dI c++[pk 1,pk 2,pk 3,ev,undef,.int .i64 e,.int .i64 at_]
def shB(c:Cn)(s:Ms)(A:Nat->Int)(e at_:Int):Nat->Go.Sx.ag
 |0=>bl (Vs c (dW s.ev.length) e at_)
 |2=>bl [.int .i64 s.now]
 |4=>fE s.ev.length (aG A s.ev)
 |_=>.dead
def Own3(k:Nat):Prop:=k=0\/k=2\/k=4
structure Sh(c:Cn)(s:Ms)(A:Nat->Int)(e at_:Int)(F fm fw:Nat->Prop)(ς:Nat->Option Pl)(b bw:Nat)(w:World):Prop where
 lt:∀j,F j->j<w.heap.size
 p0:∃p,ς 0=some p/\p.b=b/\p.o=0
 p1:∃p,ς 1=some p/\p.o=0/\fm p.b/\rC (.mem c s.m) fm p.b w
 p2:∃p,ς 2=some p
 p3:∃p,ς 3=some p/\p.o=0/\fw p.b/\rC (.kL s.wo) fw p.b w
 p4:s.ev=[]->ς 4=none
 hi:∀k,5<=k->ς k=none
 blk:∀k p,Own3 k->ς k=some p->F p.b/\¬fm p.b/\¬fw p.b/\p.b≠bw/\BR (j5 F w) ς (shB c s A e at_ k) p w
 wk:∀p,ς 0=some p->w.cell? ⟨p.b,p.o+9,none⟩=some (.slice (some ⟨bw,0,none⟩) c.W c.W)
 inj:∀k k' p p',Own3 k->Own3 k'->ς k=some p->ς k'=some p'->p.b=p'.b->k=k'
 Zj:∀j,fm j->F j
 Zf:∀j,fw j->F j
 Zv:∀j,fm j->¬fw j
 QK:F bw/\¬fm bw/\¬fw bw
 fz:∀o,w.frozen? ⟨bw,o,none⟩=false
def Apart(fm fw:Nat->Prop)(ς:Nat->Option Pl)(bw j:Nat):Prop:=¬fm j/\¬fw j/\j≠bw/\∀k q,Own3 k->ς k=some q->q.b≠j
structure Mj(c:Cn)(s:Ms)(A:Nat->Int)(e at_:Int)(F fm fw:Nat->Prop)(ς:Nat->Option Pl)(b bw:Nat)(τ:Nat->Nat->Option Pl)(w:World):Prop where
 sh:Sh c s A e at_ F fm fw ς b bw w
 t0:∀v,v<c.W->τ v 0=ς 0
 pv:∀v,v<c.W->Pv F bw (cZ c v (s.ws v)).1 (cZ c v (s.ws v)).2 v (τ v) w
 ap:∀v k p,v<c.W->6<=k->τ v k=some p->Apart fm fw ς bw p.b
 pp:∀v v' k k' p p',v<c.W->v'<c.W->v≠v'->6<=k->6<=k'->τ v k=some p->τ v' k'=some p'->p.b≠p'.b
def xA(c:Cn)(τ:Nat->Nat->Option Pl)(U:Nat->Prop)(j:Nat):Prop:=∃v k p,v<c.W/\U v/\6<=k/\τ v k=some p/\p.b=j
def look(ς τ:Nat->Option Pl)(bw v:Nat):Nat->Option Pl:=fun k=>if k<=4 then ς k else if k=5 then some ⟨bw,v*35,35,1⟩else τ k
section
variable{ς τ:Nat->Option Pl} {bw v:Nat}
theorem afd{k:Nat}(h:k<=4):look ς τ bw v k=ς k:=if_pos h
theorem agY:look ς τ bw v 5=some ⟨bw,v*35,35,1⟩:=rfl
theorem KG{k:Nat}(h:6<=k):look ς τ bw v k=τ k:=by unfold look;rw[if_neg (by omega),if_neg (by omega)]
theorem aff(h0:τ 0=ς 0){k:Nat}(h:qy k=true):look ς τ bw v k=τ k:=by
 unfold qy at h;rw[Bool.or_eq_true,Bool.and_eq_true]at h;rcases h with h|h
 ·rw[Nat.eq_of_beq_eq_true h,h0];rfl
 ·exact KG (Nat.le_of_ble_eq_true h.1)
theorem afe(h:∀k,5<=k->ς k=none):Le ς (look ς τ bw v):=fun k p hk=>by
 rcases Nat.lt_or_ge 4 k with h4|h4
 ·rw[h k h4]at hk;cases hk
 ·rw[afd h4];exact hk
theorem PG(h0:τ 0=ς 0)(hl:∀k,1<=k->k<=5->τ k=none):Le τ (look ς τ bw v):=fun k p hk=>by
 rcases Nat.eq_zero_or_pos k with h|h
 ·subst h;rw[h0]at hk;exact hk
 ·rcases Nat.lt_or_ge k 6 with h6|h6
  ·rw[hl k h (by omega)]at hk;cases hk
  ·rw[KG h6];exact hk
end
theorem TI{a:wZ}{F:Nat->Prop}{b:Nat}{w:World}(h:rC a F b w):F b:=by
 cases a with
 |mem c m=>
  obtain⟨_,cp,t,_,_,σ,hr,⟨p,h0,hb,_⟩,hF⟩:=h;exact hb▸hF 0 p h0 rfl
 |kL l=>
  obtain⟨g,b',R,_,_,_,σ,hr,⟨p,h0,hb,_⟩,hF⟩:=h;exact hb▸hF 0 p h0 rfl
 |oL c s A e=>exact h.elim
 |hld n x y z=>exact h.elim
def kept(F P:Nat->Prop)(w:World):Nat->Prop:=fun j=>j5 F w j\/P j
theorem view{c:Cn}{s:Ms}{A:Nat->Int}{e at_:Int}{F fm fw:Nat->Prop}{ς τ:Nat->Option Pl}{b bw v:Nat}{w:World}{P:Nat->Prop}{wc:List Value}{tl:List Go.Sx.ag}{x:Wr}{n:Nat}
  (S:Sh c s A e at_ F fm fw ς b bw w) (h0:τ 0=ς 0) (hl:wc.length=35) (hP:∀j,P j->j<w.heap.size/\Apart fm fw ς bw j)
  (low:∀k,1<=k->k<=5->τ k=none) (dom:∀k p,τ k=some p->k<6+tl.length)
  (win:∀(i:Nat) (x:Value),wc[i]?=some x->∃x',w.cell? ⟨bw,v*35+i,none⟩=some x'/\VR τ x x')
  (blk:∀k p,6<=k->τ k=some p->F p.b/\(tl.getD (k-6) .dead=.dead\/(oG (tl.getD (k-6) .dead)=true/\Apart fm fw ς bw p.b/\¬P p.b/\BR (j5 F w) τ (tl.getD (k-6) .dead) p w/\
   ∀k' p',6<=k'->τ k'=some p'->(tl.getD (k'-6) .dead).alive=true->p.b=p'.b->k=k'))):
  HR (kept F P w) w nD (look ς τ bw v) (bI ⟨c,s.m,s.now,s.wo,v,x,n,aG A s.ev,fun i=>w.cell? ⟨bw,i,none⟩,e,at_⟩ (dW s.ev.length) (fE s.ev.length (aG A s.ev)) wc tl) w:=by
 generalize hH:bI ⟨c,s.m,s.now,s.wo,v,x,n,aG A s.ev,fun i=>w.cell? ⟨bw,i,none⟩,e,at_⟩ (dW s.ev.length) (fE s.ev.length (aG A s.ev)) wc tl=H
 obtain⟨p0,e0,hb0,ho0⟩:=S.p0;obtain⟨p1,e1,ho1,hf1,TU⟩:=S.p1;obtain⟨p2,e2⟩:=S.p2;obtain⟨p3,e3,ho3,hf3,hJ3⟩:=S.p3;have Vz:∀k,k<6->k=0\/k=1\/k=2\/k=3\/k=4\/k=5:=fun k hk=>by omega
 have g0:H.getD 0 .dead=bl (Al ⟨c,s.m,s.now,s.wo,v,x,n,aG A s.ev,fun i=>w.cell? ⟨bw,i,none⟩,e,at_⟩ (dW s.ev.length)):=by rw[<-hH];rfl
 have g1:H.getD 1 .dead=.abs true (.mem c s.m):=by rw[<-hH];rfl
 have g2:H.getD 2 .dead=bl [.int .i64 s.now]:=by rw[<-hH];rfl
 have g3:H.getD 3 .dead=.abs true (.kL s.wo):=by rw[<-hH];rfl
 have g4:H.getD 4 .dead=fE s.ev.length (aG A s.ev):=by rw[<-hH];rfl
 have g5:H.getD 5 .dead=.win true true (fun i=>w.cell? ⟨bw,i,none⟩) wc:=by rw[<-hH];rfl
 have g6:∀k,6<=k->H.getD k .dead=tl.getD (k-6) .dead:=fun k hk=>by
  obtain⟨k,rfl⟩:∃i,k=i+6:=⟨k-6,by omega⟩
  rw[<-hH];rfl
 have hlen:H.length=6+tl.length:=by
  rw[<-hH];show(_++tl).length=_;rw[List.length_append];rfl
 have l6:∀k p,6<=k->look ς τ bw v k=some p->τ k=some p:=fun k p hk h=>by rw[KG hk]at h;exact h
 have own:∀k p,k<6->look ς τ bw v k=some p->(H.getD k .dead).owned=true->(Own3 k/\ς k=some p)\/(k=5/\p.b=bw):=fun k p hk h ho=>by
  rcases Vz k hk with rfl|rfl|rfl|rfl|rfl|rfl
  ·exact .inl ⟨.inl rfl,h⟩
  ·rw[g1]at ho;cases ho
  ·exact .inl ⟨.inr (.inl rfl),h⟩
  ·rw[g3]at ho;cases ho
  ·exact .inl ⟨.inr (.inr rfl),h⟩
  ·cases h;exact .inr ⟨rfl,rfl⟩
 have Ir:∀k p,look ς τ bw v k=some p->F p.b:=fun k p h=>by
  rcases Nat.lt_or_ge k 6 with hk|hk
  ·rcases Vz k hk with rfl|rfl|rfl|rfl|rfl|rfl
   ·exact(S.blk 0 p (.inl rfl) h).1
   ·have h:ς 1=some p:=h
    rw[e1]at h;cases h;exact S.Zj _ hf1
   ·exact(S.blk 2 p (.inr (.inl rfl)) h).1
   ·have h:ς 3=some p:=h
    rw[e3]at h;cases h;exact S.Zf _ hf3
   ·exact(S.blk 4 p (.inr (.inr rfl)) h).1
   ·cases h;exact S.QK.1
  ·exact(blk k p hk (l6 k p hk h)).1
 have aa9:∀k p,look ς τ bw v k=some p->(H.getD k .dead).owned=true->¬fm p.b/\¬fw p.b/\¬P p.b:=fun k p h ho=>by
  rcases Nat.lt_or_ge k 6 with hk|hk
  ·rcases own k p hk h ho with⟨o3,hs⟩|⟨rfl,hb⟩
   ·obtain⟨_,a1,a2,_,_⟩:=S.blk k p o3 hs
    exact⟨a1,a2,fun hp=>(hP _ hp).2.2.2.2 k p o3 hs rfl⟩
   ·rw[hb];exact⟨S.QK.2.1,S.QK.2.2,fun hp=>(hP _ hp).2.2.2.1 rfl⟩
  ·rw[g6 k hk]at ho
   rcases(blk k p hk (l6 k p hk h)).2 with hd|⟨_,ha,hp,_⟩
   ·rw[hd]at ho;cases ho
   ·exact⟨ha.1,ha.2.1,hp⟩
 have bnd:eB (kept F P w) w:=fun j hj=>hj.elim (fun h=>h.1) (fun h=>(hP j h).1)
 have nk:∀j,F j->¬P j->¬kept F P w j:=fun j h1 h2 h3=>h3.elim (fun h=>h.2 h1) h2
 have QY:∀k o,look ς τ bw v k=some o->(H.getD k .dead).aM=none\/((H.getD k .dead).owned=true/\(H.getD k .dead).aM=some none)\/(k=1/\o=p1)\/(k=3/\o=p3):=fun k o h=>by
  rcases Nat.lt_or_ge k 6 with hk|hk
  ·rcases Vz k hk with rfl|rfl|rfl|rfl|rfl|rfl
   ·rw[g0];exact .inr (.inl ⟨rfl,rfl⟩)
   ·have h:ς 1=some o:=h
    rw[e1]at h;cases h;exact .inr (.inr (.inl ⟨rfl,rfl⟩))
   ·rw[g2];exact .inr (.inl ⟨rfl,rfl⟩)
   ·have h:ς 3=some o:=h
    rw[e3]at h;cases h;exact .inr (.inr (.inr ⟨rfl,rfl⟩))
   ·rw[g4]
    cases s.ev.length with
    |zero=>exact .inl rfl
    |succ m=>exact .inr (.inl ⟨rfl,rfl⟩)
   ·rw[g5];exact .inr (.inl ⟨rfl,rfl⟩)
  ·rw[g6 k hk]
   rcases(blk k o hk (l6 k o hk h)).2 with hd|⟨hv,_⟩
   ·rw[hd];exact .inl rfl
   ·have:=Ld hv
    exact .inr (.inl ⟨this.1,this.2.2⟩)
 have CZ:p1.b≠p3.b:=fun h=>S.Zv _ hf1 (h▸hf3)
 refine⟨bnd,Kept.refl _ _,?_,fun k p hk=> ?_,fun k p hk=>S.lt _ (Ir k p hk),fun k k' p p' hk hk' ho ha hb=> ?_,fun k p hk=> ?_⟩
 ·refine⟨fun j i=>(j=p1.b/\fm i)\/(j=p3.b/\fw i),fun j i h=> ?_,fun j j' i h h'=> ?_,fun k p hk=> ?_,fun k k' p p' a a' hk hk' ha ha' hb=> ?_⟩
  ·rcases h with⟨_,h⟩|⟨_,h⟩
   ·exact⟨S.lt _ (S.Zj _ h),nk _ (S.Zj _ h) fun hp=>(hP _ hp).2.1 h⟩
   ·exact⟨S.lt _ (S.Zf _ h),nk _ (S.Zf _ h) fun hp=>(hP _ hp).2.2.1 h⟩
  ·rcases h with⟨rfl,h⟩|⟨rfl,h⟩<;>rcases h' with⟨rfl,h'⟩|⟨rfl,h'⟩
   ·rfl
   ·exact absurd h' (S.Zv _ h)
   ·exact absurd h (S.Zv _ h')
   ·rfl
  ·rcases QY k p hk with h|⟨ho,h⟩|⟨rfl,rfl⟩|⟨rfl,rfl⟩
   ·rw[h];trivial
   ·rw[h]
    obtain⟨a1,a2,_⟩:=aa9 k p hk ho;intro j hj;rcases hj with⟨_,hj⟩|⟨_,hj⟩
    ·exact a1 hj
    ·exact a2 hj
   ·rw[g1]
    have e:(fun i=>(p.b=p.b/\fm i)\/(p.b=p3.b/\fw i))=fm:=by
     funext i;exact propext ⟨fun h=>h.elim (·.2) (fun h=>absurd h.1 CZ),fun h=>.inl ⟨rfl,h⟩⟩
    show nD.J _ (fun i=>(p.b=p.b/\fm i)\/(p.b=p3.b/\fw i)) _ _
    rw[e];exact TU
   ·rw[g3]
    have e:(fun i=>(p.b=p1.b/\fm i)\/(p.b=p.b/\fw i))=fw:=by
     funext i;exact propext ⟨fun h=>h.elim (fun h=>absurd h.1.symm CZ) (·.2),fun h=>.inr ⟨rfl,h⟩⟩
    show nD.J _ (fun i=>(p.b=p1.b/\fm i)\/(p.b=p.b/\fw i)) _ _
    rw[e];exact hJ3
  ·rcases QY k p hk with h|⟨_,h⟩|⟨rfl,rfl⟩|⟨rfl,rfl⟩
   ·rw[h]at ha;cases ha
   ·rw[h]at ha;cases ha
   ·rcases QY k' p' hk' with h|⟨_,h⟩|⟨rfl,rfl⟩|⟨rfl,rfl⟩
    ·rw[h]at ha';cases ha'
    ·rw[h]at ha';cases ha'
    ·rfl
    ·exact absurd hb CZ
   ·rcases QY k' p' hk' with h|⟨_,h⟩|⟨rfl,rfl⟩|⟨rfl,rfl⟩
    ·rw[h]at ha';cases ha'
    ·rw[h]at ha';cases ha'
    ·exact absurd hb.symm CZ
    ·rfl
 ·rw[hlen]
  rcases Nat.lt_or_ge k 6 with h|h
  ·omega
  ·exact dom k p (l6 k p h hk)
 ·obtain⟨a1,a2,a3⟩:=aa9 k p hk ho
  rcases QY k' p' hk' with h|⟨ho',h⟩|⟨rfl,rfl⟩|⟨rfl,rfl⟩
  ·exact absurd h (Dm.1 ha)
  ·rcases Nat.lt_or_ge k 6 with h6|h6
   ·rcases own k p h6 hk ho with⟨o3,hs⟩|⟨rfl,hbw⟩
    ·rcases Nat.lt_or_ge k' 6 with h6'|h6'
     ·rcases own k' p' h6' hk' ho' with⟨Hz,hs'⟩|⟨rfl,VL⟩
      ·exact S.inj k k' p p' o3 Hz hs hs' hb
      ·exact absurd (hb.trans VL) (S.blk k p o3 hs).2.2.2.1
     ·rcases(blk k' p' h6' (l6 _ _ h6' hk')).2 with hd|⟨_,hap,_⟩
      ·rw[g6 k' h6',hd]at ho';cases ho'
      ·exact absurd hb (hap.2.2.2 k p o3 hs)
    ·rcases Nat.lt_or_ge k' 6 with h6'|h6'
     ·rcases own k' p' h6' hk' ho' with⟨Hz,hs'⟩|⟨rfl,VL⟩
      ·exact absurd (hb.symm.trans hbw) (S.blk k' p' Hz hs').2.2.2.1
      ·rfl
     ·rcases(blk k' p' h6' (l6 _ _ h6' hk')).2 with hd|⟨_,hap,_⟩
      ·rw[g6 k' h6',hd]at ho';cases ho'
      ·exact absurd (hb.symm.trans hbw) hap.2.2.1
   ·rcases(blk k p h6 (l6 _ _ h6 hk)).2 with hd|⟨_,hap,_,_,hin⟩
    ·rw[g6 k h6,hd]at ho;cases ho
    ·rcases Nat.lt_or_ge k' 6 with h6'|h6'
     ·rcases own k' p' h6' hk' ho' with⟨Hz,hs'⟩|⟨rfl,VL⟩
      ·exact absurd hb.symm (hap.2.2.2 k' p' Hz hs')
      ·exact absurd (hb.trans VL) hap.2.2.1
     ·exact hin k' p' h6' (l6 _ _ h6' hk') (by rw[<-g6 k' h6'];exact ha) hb
  ·exact absurd (hb▸hf1) a1
  ·exact absurd (hb▸hf3) a2
 ·have nP:(H.getD k .dead).owned=true->¬kept F P w p.b:=fun ho=>nk _ (Ir k p hk) (aa9 k p hk ho).2.2
  have hle:Le ς (look ς τ bw v):=afe S.hi;rcases Nat.lt_or_ge k 6 with h6|h6
  ·rcases Vz k h6 with rfl|rfl|rfl|rfl|rfl|rfl
   ·rw[g0]at nP ⊢
    obtain⟨_,_,_,_,hb⟩:=S.blk 0 p (.inl rfl) hk;refine⟨fun _=>⟨nP rfl,(hb.1 rfl).2⟩,fun i u hu=> ?_⟩
    by_cases e9:i=9
    ·subst e9
     have:u=.slice (some ⟨5,v,some 4⟩) c.W c.W:=by
      have:(Al ⟨c,s.m,s.now,s.wo,v,x,n,aG A s.ev,fun i=>w.cell? ⟨bw,i,none⟩,e,at_⟩ (dW s.ev.length))[9]?=some (.slice (some ⟨5,v,some 4⟩) c.W c.W):=rfl
      rw[this]at hu;exact(Option.some.inj hu).symm
     subst this;exact⟨_,S.wk p hk,VR.win (p:=⟨bw,v*35,35,1⟩) agY rfl⟩
    ·have hu2:(Vs c (dW s.ev.length) e at_)[i]?=some u:=by
      have hi:i<12:=(List.getElem?_eq_some_iff.1 hu).1;rcases(by omega:i=0\/i=1\/i=2\/i=3\/i=4\/i=5\/i=6\/i=7\/i=8\/i=10\/i=11)with rfl|rfl|rfl|rfl|rfl|rfl|rfl|rfl|rfl|rfl|rfl<;>exact hu
     obtain⟨u',h1,h2⟩:=hb.2 i u hu2;exact⟨u',h1,h2.mono hle⟩
   ·rw[g1]
    have hk:ς 1=some p:=hk;rw[e1]at hk;cases hk;exact⟨fun h=>(by cases h),ho1⟩
   ·rw[g2]at nP ⊢
    obtain⟨_,_,_,_,hb⟩:=S.blk 2 p (.inr (.inl rfl)) hk;exact((hb.mono hle rfl).sets fun ho=>nP ho)
   ·rw[g3]
    have hk:ς 3=some p:=hk;rw[e3]at hk;cases hk;exact⟨fun h=>(by cases h),ho3⟩
   ·rw[g4]at nP ⊢
    obtain⟨_,_,_,_,hb⟩:=S.blk 4 p (.inr (.inr rfl)) hk;exact((hb.mono hle rfl).sets fun ho=>nP ho)
   ·rw[g5]at nP ⊢
    cases hk;refine⟨fun _=>⟨nP rfl,S.fz,fun j hj=> ?_⟩,hl.symm,fun i u hu=> ?_,fun i _=>rfl⟩
    ·have hj:j<1*35:=hj
     obtain⟨x',h1,_⟩:=win j wc[j] (List.getElem?_eq_getElem (by omega))
     rw[h1];rfl
    ·obtain⟨x',h1,h2⟩:=win i u hu
     exact⟨x',h1,h2.mono (PG h0 low)⟩
  ·rw[g6 k h6]at nP ⊢
   rcases(blk k p h6 (l6 _ _ h6 hk)).2 with hd|⟨_,_,_,hb,_⟩
   ·rw[hd];exact⟨fun h=>(by cases h),trivial⟩
   ·exact((hb.mono (PG h0 low) rfl).sets fun ho=>nP ho)
end
noncomputable section
open Go.RowKit Go.bn Go.Sx
def grown(F:Nat->Prop)(w w':World):Nat->Prop:=fun j=>F j\/w.heap.size<=j/\j<w'.heap.size
theorem grown_of{F P:Nat->Prop}{w w':World}{j:Nat}(h:¬kept F P w j)(hl:j<w'.heap.size):grown F w w' j:=by
 rcases Nat.lt_or_ge j w.heap.size with h1|h1
 ·exact .inl (Classical.byContradiction fun h2=>h (.inl ⟨h1,h2⟩))
 ·exact .inr ⟨h1,hl⟩
theorem xO{F:Nat->Prop}{w w':World}{j:Nat}(h:grown F w w' j):¬j5 (grown F w w') w' j:=fun k=>k.2 h
def kV(σ:Nat->Option Pl):Nat->Option Pl:=fun k=>if qy k=true then σ k else none
theorem FP{σ:Nat->Option Pl}{k:Nat}(h:qy k=true):kV σ k=σ k:=if_pos h
theorem l7{σ:Nat->Option Pl}{k:Nat}{p:Pl}(h:kV σ k=some p):qy k=true/\σ k=some p:=by
 unfold kV at h;split at h
 ·exact⟨by assumption,h⟩
 ·cases h
structure alE(c:Cn)(s':Ms)(A':Nat->Int)(e' at':Int)(F P:Nat->Prop)(ς:Nat->Option Pl)(b bw v:Nat)(wc':List Value)(tl':List Go.Sx.ag)(σ':Nat->Option Pl)(w w':World)(vE fw':Nat->Prop)(ς':Nat->Option Pl):Prop where
 sh:Sh c s' A' e' at' (grown F w w') vE fw' ς' b bw w'
 s0:ς' 0=ς 0
 ap:∀j,P j->Apart vE fw' ς' bw j
 out:∀i,i<v*35\/v*35+35<=i->w'.cell? ⟨bw,i,none⟩=w.cell? ⟨bw,i,none⟩
 len:wc'.length=35
 win:∀(i:Nat) (x:Value),wc'[i]?=some x->∃x',w'.cell? ⟨bw,v*35+i,none⟩=some x'/\VR σ' x x'
 blk:∀k p,6<=k->σ' k=some p->oG (tl'.getD (k-6) .dead)=true->k<6+tl'.length/\grown F w w' p.b/\Apart vE fw' ς' bw p.b/\¬P p.b/\BR (j5 (grown F w w') w') σ' (tl'.getD (k-6) .dead) p w'/\
  ∀k' p',6<=k'->σ' k'=some p'->oG (tl'.getD (k'-6) .dead)=true->p.b=p'.b->k=k'
theorem back{c:Cn}{s s':Ms}{A A':Nat->Int}{e at_ e' at':Int}{F fm fw:Nat->Prop}{ς τ σ':Nat->Option Pl}{b bw v:Nat}{w w':World}{P:Nat->Prop}{wc':List Value}{tl':List Go.Sx.ag}{x':Wr}{n':Nat}
  (S:Sh c s A e at_ F fm fw ς b bw w)
  (hr:HR (kept F P w) w nD σ' (bI ⟨c,s'.m,s'.now,s'.wo,v,x',n',aG A' s'.ev,fun i=>w.cell? ⟨bw,i,none⟩,e',at'⟩ (dW s'.ev.length) (fE s'.ev.length (aG A' s'.ev)) wc' tl') w')
  (hP:∀j,P j->Apart fm fw ς bw j)
  (hσ:∀k,k=0\/k=1\/k=2\/k=3\/k=5->σ' k=look ς τ bw v k):
  ∃vE fw' ς',alE c s' A' e' at' F P ς b bw v wc' tl' σ' w w' vE fw' ς':=by
 generalize hH:bI ⟨c,s'.m,s'.now,s'.wo,v,x',n',aG A' s'.ev,fun i=>w.cell? ⟨bw,i,none⟩,e',at'⟩ (dW s'.ev.length) (fE s'.ev.length (aG A' s'.ev)) wc' tl'=H at hr
 have g0:H.getD 0 .dead=bl (Al ⟨c,s'.m,s'.now,s'.wo,v,x',n',aG A' s'.ev,fun i=>w.cell? ⟨bw,i,none⟩,e',at'⟩ (dW s'.ev.length)):=by rw[<-hH];rfl
 have g1:H.getD 1 .dead=.abs true (.mem c s'.m):=by rw[<-hH];rfl
 have g2:H.getD 2 .dead=bl [.int .i64 s'.now]:=by rw[<-hH];rfl
 have g3:H.getD 3 .dead=.abs true (.kL s'.wo):=by rw[<-hH];rfl
 have g4:H.getD 4 .dead=fE s'.ev.length (aG A' s'.ev):=by rw[<-hH];rfl
 have g5:H.getD 5 .dead=.win true true (fun i=>w.cell? ⟨bw,i,none⟩) wc':=by rw[<-hH];rfl
 have g6:∀k,6<=k->H.getD k .dead=tl'.getD (k-6) .dead:=fun k hk=>by
  obtain⟨k,rfl⟩:∃i,k=i+6:=⟨k-6,by omega⟩
  rw[<-hH];rfl
 have hlen:H.length=6+tl'.length:=by
  rw[<-hH];show(_++tl').length=_;rw[List.length_append];rfl
 clear hH;obtain⟨p0,e0,hb0,ho0⟩:=S.p0;obtain⟨p1,e1,ho1,hf1,TU⟩:=S.p1;obtain⟨p2,e2⟩:=S.p2;obtain⟨p3,e3,ho3,hf3,hJ3⟩:=S.p3;have q0:σ' 0=some p0:=(hσ 0 (.inl rfl)).trans e0;have q1:σ' 1=some p1:=(hσ 1 (.inr (.inl rfl))).trans e1;have q2:σ' 2=some p2:=(hσ 2 (.inr (.inr (.inl rfl)))).trans e2;have q3:σ' 3=some p3:=(hσ 3 (.inr (.inr (.inr (.inl rfl))))).trans e3;have q5:σ' 5=some ⟨bw,v*35,35,1⟩:=hσ 5 (.inr (.inr (.inr (.inr rfl))));have CZ:p1.b≠p3.b:=fun h=>S.Zv _ hf1 (h▸hf3)
 obtain⟨G',a1,a2,a3,a4⟩:=hr.ab;have j1:=a3 1 p1 q1;rw[g1]at j1;have j1:rC (.mem c s'.m) (G' p1.b) p1.b w':=j1;have j3:=a3 3 p3 q3;rw[g3]at j3;have j3:rC (.kL s'.wo) (G' p3.b) p3.b w':=j3
 have Vj:∀k p,σ' k=some p->(H.getD k .dead).owned=true->¬kept F P w p.b/\grown F w w' p.b/\¬G' p1.b p.b/\¬G' p3.b p.b:=fun k p hk ho=>by
  have h1:=((hr.blk k p hk).1 ho).1;have h2:=a3 k p hk;rw[jd ho]at h2;exact⟨h1,grown_of h1 (hr.lt k p hk),h2 _,h2 _⟩
 have ow5:(H.getD 5 .dead).owned=true:=by rw[g5];rfl
 obtain⟨k5,gw5,m5,n5⟩:=Vj 5 _ q5 ow5;have b5:=hr.blk 5 _ q5;rw[g5]at b5;obtain⟨ς',hς⟩:∃ς':Nat->Option Pl,ς'=fun k=>if k<=4 then(if k=4/\s'.ev.length=0 then none else σ' k)else none:=⟨_,rfl⟩
 have z0:ς' 0=σ' 0:=by rw[hς];rfl
 have z1:ς' 1=σ' 1:=by rw[hς];rfl
 have z2:ς' 2=σ' 2:=by rw[hς];rfl
 have z3:ς' 3=σ' 3:=by rw[hς];rfl
 have zs:∀k p,ς' k=some p->σ' k=some p:=fun k p hk=>by
  rw[hς]at hk;simp only at hk;split at hk
  ·split at hk
   ·cases hk
   ·exact hk
  ·cases hk
 have z4:s'.ev.length≠0->ς' 4=σ' 4:=fun h=>by
  rw[hς];simp only[Nat.le_refl,if_true];rw[if_neg (fun k=>h k.2)]
 have z4n:s'.ev.length=0->ς' 4=none:=fun h=>by
  rw[hς];simp only[Nat.le_refl,if_true];rw[if_pos ⟨trivial,h⟩]
 have zhi:∀k,5<=k->ς' k=none:=fun k hk=>by
  rw[hς];exact if_neg (by omega)
 clear hς
 have Ta:∀k p,Own3 k->ς' k=some p->σ' k=some p/\(H.getD k .dead).owned=true:=fun k p o3 hk=>by
  refine⟨zs k p hk,?_⟩;rcases o3 with rfl|rfl|rfl
  ·rw[g0];rfl
  ·rw[g2];rfl
  ·rw[g4]
   cases hl:s'.ev.length with
   |zero=>rw[z4n hl]at hk;cases hk
   |succ m=>rfl
 have ala:∀k,Own3 k->k≠5:=fun k o3 h=>by
  subst h;rcases o3 with h|h|h<;>cases h
 have bne:∀k p,Own3 k->ς' k=some p->p.b≠bw:=fun k p o3 hk hb=>by
  obtain⟨h1,h2⟩:=Ta k p o3 hk;exact ala k o3 (hr.inj k 5 p _ h1 q5 h2 (by rw[g5];rfl) hb)
 refine⟨G' p1.b,G' p3.b,ς',⟨⟨fun j hj=> ?_,⟨p0,z0.trans q0,hb0,ho0⟩,⟨p1,z1.trans q1,ho1,TI j1,j1⟩,⟨p2,z2.trans q2⟩,⟨p3,z3.trans q3,ho3,TI j3,j3⟩,fun h=>z4n (by rw[h];rfl),zhi,fun k p o3 hk=> ?_,fun p hk=> ?_,fun k k' p p' o3 Hz hk hk' hb=> ?_,fun j hj=> ?_,fun j hj=> ?_,fun j hj hj'=> ?_,?_,?_⟩,z0.trans (hσ 0 (.inl rfl)),fun j hj=> ?_,fun i hi=> ?_,?_,fun i x hx=> ?_,fun k p h6 hk ha=> ?_⟩⟩
 ·rcases hj with hj|hj
  ·exact Nat.lt_of_lt_of_le (S.lt j hj) hr.below.size
  ·exact hj.2
 ·obtain⟨h1,h2⟩:=Ta k p o3 hk
  obtain⟨k1,k2,k3,k4⟩:=Vj k p h1 h2;refine⟨k2,k3,k4,bne k p o3 hk,?_⟩;have hb:=hr.blk k p h1;rcases o3 with rfl|rfl|rfl
  ·rw[g0]at hb
   refine⟨fun _=>⟨xO k2,(hb.1 rfl).2⟩,fun i u hu=> ?_⟩
   have hi:i<12:=(List.getElem?_eq_some_iff.1 hu).1;by_cases e9:i=9
   ·subst e9
    have:u=undef:=by
     have:(Vs c (dW s'.ev.length) e' at')[9]?=some undef:=rfl;rw[this]at hu;exact(Option.some.inj hu).symm
    subst this;have:(Al ⟨c,s'.m,s'.now,s'.wo,v,x',n',aG A' s'.ev,fun i=>w.cell? ⟨bw,i,none⟩,e',at'⟩ (dW s'.ev.length))[9]?=some (.slice (some ⟨5,v,some 4⟩) c.W c.W):=rfl
    obtain⟨u',h3,_⟩:=hb.2 9 _ this;exact⟨u',h3,.any _⟩
   ·have hu2:(Al ⟨c,s'.m,s'.now,s'.wo,v,x',n',aG A' s'.ev,fun i=>w.cell? ⟨bw,i,none⟩,e',at'⟩ (dW s'.ev.length))[i]?=some u:=by
     rcases(by omega:i=0\/i=1\/i=2\/i=3\/i=4\/i=5\/i=6\/i=7\/i=8\/i=10\/i=11)with rfl|rfl|rfl|rfl|rfl|rfl|rfl|rfl|rfl|rfl|rfl<;>exact hu
    obtain⟨u',h3,h4⟩:=hb.2 i u hu2;refine⟨u',h3,?_⟩;have pl:aN u=true->VR ς' u u':=fun h=>by rw[h4.aD h];exact VR.aN _ h
    have pp:∀k,ς' k=σ' k->u=pk k->VR ς' u u':=fun k hz e=>by
     subst e;obtain⟨p,h5,rfl⟩:=h4.gL;exact .ptr (hz.trans h5)
    rcases(by omega:i=0\/i=1\/i=2\/i=3\/i=4\/i=5\/i=6\/i=7\/i=8\/i=10\/i=11)with rfl|rfl|rfl|rfl|rfl|rfl|rfl|rfl|rfl|rfl|rfl
    ·cases hu;exact pl rfl
    ·cases hu;exact pl rfl
    ·cases hu;exact pl rfl
    ·cases hu;exact pl rfl
    ·cases hu;exact pl rfl
    ·cases hu;exact pp 1 z1 rfl
    ·cases hu;exact pp 2 z2 rfl
    ·cases hu;exact pp 3 z3 rfl
    ·have hu:some (dW s'.ev.length)=some u:=hu
     have hu:=Option.some.inj hu;cases hl:s'.ev.length with
     |zero=>rw[hl]at hu;subst hu;exact pl rfl
     |succ m=>
      rw[hl]at hu;have z:=z4 (by rw[hl];exact Nat.succ_ne_zero m)
      subst hu;obtain⟨p,h5,h6,rfl⟩:=h4.yL;exact .vec (z.trans h5) h6
    ·cases hu;exact pl rfl
    ·cases hu;exact pl rfl
  ·rw[g2]at hb
   refine⟨fun _=>⟨xO k2,(hb.1 rfl).2⟩,fun i u hu=> ?_⟩
   obtain⟨u',h3,h4⟩:=hb.2 i u hu;refine⟨u',h3,?_⟩
   have:aN u=true:=by
    have hi:i<1:=(List.getElem?_eq_some_iff.1 hu).1;obtain rfl:i=0:=by omega
    cases hu;rfl
   rw[h4.aD this];exact VR.aN _ this
  ·rw[g4]at hb
   show BR _ _ (fE s'.ev.length (aG A' s'.ev)) _ _;refine⟨fun ho=>⟨xO k2,(hb.1 ho).2⟩,?_⟩
   have hb:=hb.2;cases hl:s'.ev.length with
   |zero=>trivial
   |succ m=>
    rw[hl]at hb;exact⟨hb.1,fun i j hi hj=>let⟨u',h3,h4⟩:=hb.2 i j hi hj;⟨u',h3,Kk _ h4⟩⟩
 ·have hk:=zs 0 p hk
  have hb:=hr.blk 0 p hk;rw[g0]at hb;have:(Al ⟨c,s'.m,s'.now,s'.wo,v,x',n',aG A' s'.ev,fun i=>w.cell? ⟨bw,i,none⟩,e',at'⟩ (dW s'.ev.length))[9]?=some (.slice (some ⟨5,v,some 4⟩) c.W c.W):=rfl
  obtain⟨u',h3,h4⟩:=hb.2 9 _ this;rw[h3]
  have gen:∀l:Nat,VR σ' (.slice (some ⟨5,v,some 4⟩) l l) u'->u'=.slice (some ⟨bw,0,none⟩) l l:=fun l h=>by
   cases h with
   |win h ho=>rw[q5]at h;cases h;rfl
  rw[gen _ h4]
 ·obtain⟨h1,h2⟩:=Ta k p o3 hk
  obtain⟨h3,h4⟩:=Ta k' p' Hz hk';exact hr.inj k k' p p' h1 h3 h2 (oU h4) hb
 ·exact grown_of (a1 _ j hj).2 (a1 _ j hj).1
 ·exact grown_of (a1 _ j hj).2 (a1 _ j hj).1
 ·exact CZ (a2 _ _ j hj hj')
 ·exact⟨gw5,m5,n5⟩
 ·exact fun o=>((b5.1 rfl).2.1 o)
 ·refine⟨fun h=>(a1 _ j h).2 (.inr hj),fun h=>(a1 _ j h).2 (.inr hj),(hP j hj).2.2.1,fun k q o3 hk hb=> ?_⟩
  obtain⟨h1,h2⟩:=Ta k q o3 hk;exact(Vj k q h1 h2).1 (hb▸ .inr hj)
 ·exact b5.2.2.2 i hi
 ·exact b5.2.1.symm
 ·exact b5.2.2.1 i x hx
 ·have ho:=(Ld ha)
  rw[<-g6 k h6]at ho;obtain⟨k1,k2,k3,k4⟩:=Vj k p hk ho.1;have hb:=hr.blk k p hk;rw[g6 k h6]at hb;refine⟨by have:=hr.dom k p hk;omega,k2,⟨k3,k4,fun h=> ?_,fun k' q o3 hk' h=> ?_⟩,fun h=>k1 (.inr h),hb.sets fun _=>xO k2,fun k' p' h6' hk' ha' h=> ?_⟩
  ·have:=hr.inj k 5 p _ hk q5 ho.1 (by rw[g5];rfl) h
   omega
  ·obtain⟨h1,h2⟩:=Ta k' q o3 hk'
   have:=hr.inj k' k q p h1 hk h2 ho.2.1 h;rcases o3 with e|e|e<;>omega
  ·have ho':=(Ld ha')
   rw[<-g6 k' h6']at ho';exact hr.inj k k' p p' hk hk' ho.1 ho'.2.1 h
end
noncomputable section
open Go.RowKit Go.bn Go.Sx Yq
variable{c:Cn} {s s':Ms} {A A':Nat->Int} {e at_ e' at':Int} {F fm fw:Nat->Prop} {ς:Nat->Option Pl} {τ:Nat->Nat->Option Pl} {b bw v:Nat} {w w':World}
theorem Wy{σ:Nat->Option Pl}{x:Go.Sx.ag}{p:Pl}{F':Nat->Prop}(h:BR (j5 F w) σ x p w)(hw:w'.heap[p.b]?=w.heap[p.b]?)(hf:F' p.b):BR (j5 F' w') σ x p w':=(h.mono (Le.refl _) hw).sets fun _ k=>k.2 hf
theorem U9{cells:List Value}{tl:List Go.Sx.ag}{σ:Nat->Option Pl}{F':Nat->Prop}(h:Pv F bw cells tl v σ w)(hF:∀j,F j->F' j)(hp:∀k p,6<=k->σ k=some p->w'.heap[p.b]?=w.heap[p.b]?)
  (hw:∀i,i<cells.length->w'.cell? ⟨bw,v*35+i,none⟩=w.cell? ⟨bw,v*35+i,none⟩):Pv F' bw cells tl v σ w':=
 ⟨h.low,h.dom,fun i x hi=>by
  obtain⟨x',h1,h2⟩:=h.win i x hi;exact⟨x',(hw i (List.getElem?_eq_some_iff.1 hi).1).trans h1,h2⟩,fun k p hk hs=>⟨hF _ (h.blk k p hk hs).1,Wy (h.blk k p hk hs).2 (hp k p hk hs) (hF _ (h.blk k p hk hs).1)⟩,h.inj⟩
theorem aiY(S:Sh c s A e at_ F fm fw ς b bw w)(hs:w.heap.size<=w'.heap.size)(hw:∀j,F j->w'.heap[j]?=w.heap[j]?):Sh c s A e at_ F fm fw ς b bw w':=by
 obtain⟨p1,e1,ho1,hf1,TU⟩:=S.p1;obtain⟨p3,e3,ho3,hf3,hJ3⟩:=S.p3;refine⟨fun j hj=>Nat.lt_of_lt_of_le (S.lt j hj) hs,S.p0,⟨p1,e1,ho1,hf1,Iq _ _ _ _ _ TU hs fun j hj=>hw j (S.Zj j hj)⟩,S.p2,⟨p3,e3,ho3,hf3,Iq _ _ _ _ _ hJ3 hs fun j hj=>hw j (S.Zf j hj)⟩,S.p4,S.hi,fun k p o3 hk=> ?_,fun p hk=> ?_,S.inj,S.Zj,S.Zf,S.Zv,S.QK,fun o=> ?_⟩
 ·obtain⟨h1,h2,h3,h4,h5⟩:=S.blk k p o3 hk
  exact⟨h1,h2,h3,h4,Wy h5 (hw _ h1) h1⟩
 ·rw[World.cell?_of_block (w:=w) (hw p.b (S.blk 0 p (.inl rfl) hk).1)];exact S.wk p hk
 ·rw[World.frozen?_of_block (w:=w) (hw bw S.QK.1)];exact S.fz o
theorem ajc(M:Mj c s A e at_ F fm fw ς b bw τ w)(hs:w.heap.size<=w'.heap.size)(hw:∀j,F j->w'.heap[j]?=w.heap[j]?):Mj c s A e at_ F fm fw ς b bw τ w':=
 ⟨aiY M.sh hs hw,M.t0,fun v hv=>U9 (M.pv v hv) (fun _ h=>h) (fun k p hk h=>hw _ ((M.pv v hv).blk k p hk h).1) (fun i _=>World.cell?_of_block (w:=w) (hw bw M.sh.QK.1)),M.ap,M.pp⟩
theorem Ab(M:Mj c s A e at_ F fm fw ς b bw τ w){U:Nat->Prop}:∀j,xA c τ U j->j<w.heap.size/\Apart fm fw ς bw j:=by
 rintro j ⟨v,k,p,hv,_,hk,hp,rfl⟩;exact⟨M.sh.lt _ ((M.pv v hv).blk k p hk hp).1,M.ap v k p hv hk hp⟩
theorem Qj{α:Type}{l:List α}{f:α->Bool}{d:α}(h:l.all f=true){i:Nat}(hi:i<l.length):f (l.getD i d)=true:=by
 rw[List.all_eq_true]at h;rw[List.getD_eq_getElem?_getD,List.getElem?_eq_getElem hi];exact h _ (List.getElem_mem hi)
theorem Tz(M:Mj c s A e at_ F fm fw ς b bw τ w)(hv:v<c.W)(n:Nat):
  HR (kept F (xA c τ (· ≠v)) w) w nD (look ς (τ v) bw v) (bI (aP c s v n (aG A s.ev) (fun i=>w.cell? ⟨bw,i,none⟩) e at_) (dW s.ev.length) (fE s.ev.length (aG A s.ev)) (cZ c v (s.ws v)).1 (cZ c v (s.ws v)).2) w:=by
 have V:=M.pv v hv;have a:=uM c v (s.ws v);refine view M.sh (M.t0 v hv) a.2.2 (Ab M) V.low V.dom V.win fun k p hk hp=>⟨(V.blk k p hk hp).1,.inr ⟨?_,M.ap v k p hv hk hp,?_,(V.blk k p hk hp).2,fun k' p' hk' hp' _ hb=>V.inj k k' p p' hk hk' hp hp' hb⟩⟩
 ·have:=V.dom k p hp
  exact Qj a.2.1 (by omega)
 ·rintro⟨v',k',p',hv',hne,hk',hp',hb⟩
  exact M.pp v' v k' k p' p hv' hv hne hk' hk hp' hp hb
theorem YB(M:Mj c s A e at_ F fm fw ς b bw τ w)(hv:v<c.W){n':Nat}{σ':Nat->Option Pl}
  (hr:HR (kept F (xA c τ (· ≠v)) w) w nD σ' (bI (aP c s' v n' (aG A' s'.ev) (fun i=>w.cell? ⟨bw,i,none⟩) e' at') (dW s'.ev.length) (fE s'.ev.length (aG A' s'.ev)) (cZ c v (s'.ws v)).1 (cZ c v (s'.ws v)).2) w')
  (hσ:∀k,k=0\/k=1\/k=2\/k=3\/k=5->σ' k=look ς (τ v) bw v k) (ho:∀i,i<c.W->i≠v->s'.ws i=s.ws i):
  ∃vE fw' ς' τ',Mj c s' A' e' at' (grown F w w') vE fw' ς' b bw τ' w':=by
 obtain⟨vE,fw',ς',B⟩:=back M.sh hr (fun j hj=>(Ab M j hj).2) hσ
 have a:=uM c v (s'.ws v)
 have Mq:∀k p,6<=k->σ' k=some p->oG ((cZ c v (s'.ws v)).2.getD (k-6) .dead)=true:=fun k p hk hp=>by
  have:=hr.dom k p hp
  have hl:k<6+(cZ c v (s'.ws v)).2.length:=by
   have e:(bI (aP c s' v n' (aG A' s'.ev) (fun i=>w.cell? ⟨bw,i,none⟩) e' at') (dW s'.ev.length) (fE s'.ev.length (aG A' s'.ev)) (cZ c v (s'.ws v)).1 (cZ c v (s'.ws v)).2).length=6+(cZ c v (s'.ws v)).2.length:=by
    show(_++(cZ c v (s'.ws v)).2).length=_;rw[List.length_append];rfl
   omega
  exact Qj a.2.1 (by omega)
 have kp:∀i k p,i<c.W->i≠v->6<=k->τ i k=some p->xA c τ (· ≠v) p.b:=fun i k p hi hne hk hp=>⟨i,k,p,hi,hne,hk,hp,rfl⟩
 have dn:∀i,(if i=v then kV σ' else τ i)=if i=v then kV σ' else τ i:=fun _=>rfl
 have tv:(if v=v then kV σ' else τ v)=kV σ':=if_pos rfl
 refine⟨vE,fw',ς',fun i=>if i=v then kV σ' else τ i,B.sh,fun i hi=> ?_,fun i hi=> ?_,fun i k p hi hk hp=> ?_,fun i i' k k' p p' hi hi' hne hk hk' hp hp'=> ?_⟩
 ·by_cases h:i=v
  ·subst h
   show(if i=i then kV σ' else τ i) 0=ς' 0
   rw[if_pos rfl,B.s0,FP rfl,hσ 0 (.inl rfl)];rfl
  ·show(if i=v then kV σ' else τ i) 0=ς' 0
   rw[if_neg h,B.s0];exact M.t0 i hi
 ·by_cases h:i=v
  ·subst h
   show Pv _ _ _ _ _ (if i=i then kV σ' else τ i) _
   rw[if_pos rfl];refine⟨fun k h1 h5=> ?_,fun k p hk=> ?_,fun j x hj=> ?_,fun k p h6 hk=> ?_,fun k k' p p' h6 h6' hk hk' hb=> ?_⟩
   ·unfold kV
    rw[if_neg];intro h;unfold qy at h;rw[Bool.or_eq_true,Bool.and_eq_true]at h;rcases h with h|h
    ·have:=Nat.eq_of_beq_eq_true h;omega
    ·have:=Nat.le_of_ble_eq_true h.1;omega
   ·obtain⟨h1,h2⟩:=l7 hk
    rcases Nat.lt_or_ge k 6 with h6|h6
    ·omega
    ·exact(B.blk k p h6 h2 (Mq k p h6 h2)).1
   ·obtain⟨x',h1,h2⟩:=B.win j x hj
    exact⟨x',h1,h2.av (by
     have:=a.1;rw[List.all_eq_true]at this;exact this x (List.mem_of_getElem? hj)) fun k hk=>FP hk⟩
   ·obtain⟨_,h2⟩:=l7 hk
    obtain⟨_,h3,_,_,h4,_⟩:=B.blk k p h6 h2 (Mq k p h6 h2);exact⟨h3,h4.av (Mq k p h6 h2) fun k hk=>FP hk⟩
   ·obtain⟨_,h2⟩:=l7 hk
    obtain⟨_,h2'⟩:=l7 hk';exact(B.blk k p h6 h2 (Mq k p h6 h2)).2.2.2.2.2 k' p' h6' h2' (Mq k' p' h6' h2') hb
  ·show Pv _ _ _ _ _ (if i=v then kV σ' else τ i) _
   rw[if_neg h,ho i hi h];refine U9 (M.pv i hi) (fun j hj=>.inl hj) (fun k p hk hp=>hr.below.block _ (.inr (kp i k p hi h hk hp))) fun j hj=>B.out _ ?_
   rw[(uM c i (s.ws i)).2.2]at hj;rcases Nat.lt_or_ge i v with h1|h1
   ·left
    have:(i+1)*35<=v*35:=Nat.mul_le_mul_right _ h1;omega
   ·right
    have:(v+1)*35<=i*35:=Nat.mul_le_mul_right _ (by omega)
    omega
 ·have hp:(if i=v then kV σ' else τ i) k=some p:=hp
  by_cases h:i=v
  ·rw[if_pos h]at hp
   obtain⟨_,h2⟩:=l7 hp;exact(B.blk k p hk h2 (Mq k p hk h2)).2.2.1
  ·rw[if_neg h]at hp
   exact B.ap _ (kp i k p hi h hk hp)
 ·have hp:(if i=v then kV σ' else τ i) k=some p:=hp
  have hp':(if i'=v then kV σ' else τ i') k'=some p':=hp'
  by_cases h:i=v
  ·rw[if_pos h]at hp
   obtain⟨_,h2⟩:=l7 hp;have h':i'≠v:=fun e=>hne (h.trans e.symm)
   rw[if_neg h']at hp';exact fun hb=>(B.blk k p hk h2 (Mq k p hk h2)).2.2.2.1 (hb▸kp i' k' p' hi' h' hk' hp')
  ·rw[if_neg h]at hp
   by_cases h':i'=v
   ·rw[if_pos h']at hp'
    obtain⟨_,h2⟩:=l7 hp';exact fun hb=>(B.blk k' p' hk' h2 (Mq k' p' hk' h2)).2.2.2.1 (hb▸kp i k p hi h hk hp)
   ·rw[if_neg h']at hp'
    exact M.pp i i' k k' p p' hi hi' hne hk hk' hp hp'
def dm:List Go.Sx.ag:=List.replicate 8 .dead
theorem acj(i:Nat):dm.getD i .dead=.dead:=by
 unfold dm;rw[List.getD_eq_getElem?_getD,List.getElem?_replicate];split<;>rfl
theorem adR(c:Cn)(w:Nat)(x:Wr):(cZ c w x).2.length<=8:=by
 unfold cZ;generalize EU c x.ph=e;have l1:∀(b:Bool) (y:Go.Sx.ag),(bif b then [y]else []).length<=1:=fun b y=>by cases b<;>simp
 obtain⟨ph,ask,gr⟩:=x;cases ph with
 |rest=>simp[mZ]
 |pin h=>cases h<;>simp[mZ]
 |work k=>
  cases k with
  |get t=>
   unfold mZ tkH;simp only[List.length_append,Dg,List.length_cons,List.length_nil];generalize (Nat.ble 1 (Oe t.st)&&Nat.ble (Oe t.st) 8)=a;generalize Nat.beq (Oe t.st) 12=b;cases a<;>cases b<;>simp
  |give t=>
   unfold mZ gvH;simp only[List.length_append,Dg,List.length_cons,List.length_nil];generalize Nat.beq (gvN t.st) 3=b;cases b<;>simp
  |strm t=>
   obtain⟨op,i,gen,n,st,wd,nx,num,e⟩:=t;cases op<;>simp[mZ,smH,Dg]
  |close q=>cases q<;>simp[mZ]
  |stats t=>
   unfold mZ twH SK;simp only[List.length_append,Dg,List.length_cons,List.length_nil];generalize Ti.of t=t;obtain⟨rd,rl,last,ll,dn,n⟩:=t;cases rd<;>cases last<;>simp[Oo,GQ]
  |aS r=>
   unfold mZ rpH;simp only[List.length_append,Dg,List.length_cons,List.length_nil];generalize Nat.beq (rpN r.st) 3=b;cases b<;>simp
 |counts t=>
  unfold mZ twH SK;simp only[List.length_append,List.length_cons,List.length_nil];generalize Ti.of t=t;obtain⟨rd,rl,last,ll,dn,n⟩:=t;cases rd<;>cases last<;>simp[Oo,GQ]
 |enters q=>simp[mZ]
 |ax t p a=>
  have:(Xp c w t 6 e).length<=8:=by
   unfold Xp;simp only[List.length_append,List.length_cons,List.length_nil];generalize ((Nat.ble 3 (BO t.st)&&Nat.ble (BO t.st) 7)||Nat.beq (BO t.st) 9||Nat.beq (BO t.st) 10)=a;generalize Nat.beq (BO t.st) 4=b;cases a<;>cases b<;>simp
  cases p<;>exact this
 |parked b=>simp[mZ]
 |wakes h=>cases h<;>simp[mZ]
 |leaves q=>simp[mZ]
theorem ae1(M:Mj c s A e at_ F fm fw ς b bw τ w)(hv:v<c.W)(x:Wr)(n:Nat):
  HR (kept F (xA c τ fun _=>True) w) w nD (look ς (τ v) bw v) (bI ⟨c,s.m,s.now,s.wo,v,x,n,aG A s.ev,fun i=>w.cell? ⟨bw,i,none⟩,e,at_⟩ (dW s.ev.length) (fE s.ev.length (aG A s.ev)) (cZ c v (s.ws v)).1 dm) w:=by
 have V:=M.pv v hv;have a:=uM c v (s.ws v);refine view M.sh (M.t0 v hv) a.2.2 (Ab M) V.low (fun k p hk=> ?_) V.win fun k p hk hp=>⟨(V.blk k p hk hp).1,.inl (acj _)⟩
 have:=V.dom k p hk;have h2:=adR c v (s.ws v);have h3:dm.length=8:=rfl;omega
theorem ae0(M:Mj c s A e at_ F fm fw ς b bw τ w)(hv:v<c.W){x:Wr}{n':Nat}{σ':Nat->Option Pl}{abH:List Go.Sx.ag}
  (hr:HR (kept F (xA c τ fun _=>True) w) w nD σ' (bI ⟨c,s'.m,s'.now,s'.wo,v,x,n',aG A' s'.ev,fun i=>w.cell? ⟨bw,i,none⟩,e',at'⟩ (dW s'.ev.length) (fE s'.ev.length (aG A' s'.ev)) (cZ c v (s.ws v)).1 (dm++abH)) w')
  (hσ:∀k,k<14->σ' k=look ς (τ v) bw v k) (ho:∀i,i<c.W->s'.ws i=s.ws i):
  ∃vE fw' ς' τ',Mj c s' A' e' at' (grown F w w') vE fw' ς' b bw τ' w':=by
 obtain⟨vE,fw',ς',B⟩:=back M.sh hr (fun j hj=>(Ab M j hj).2) (fun k hk=>hσ k (by omega))
 have a:=uM c v (s.ws v);have kp:∀i k p,i<c.W->6<=k->τ i k=some p->xA c τ (fun _=>True) p.b:=fun i k p hi hk hp=>⟨i,k,p,hi,trivial,hk,hp,rfl⟩
 refine⟨vE,fw',ς',τ,B.sh,fun i hi=>by rw[B.s0];exact M.t0 i hi,fun i hi=> ?_,fun i k p hi hk hp=>B.ap _ (kp i k p hi hk hp),M.pp⟩
 rw[ho i hi];by_cases h:i=v
 ·subst h
  have V:=M.pv i hi;refine⟨V.low,V.dom,fun j x hj=> ?_,fun k p hk hp=>⟨.inl (V.blk k p hk hp).1,Wy (V.blk k p hk hp).2 (hr.below.block _ (.inr (kp i k p hi hk hp))) (.inl (V.blk k p hk hp).1)⟩,V.inj⟩
  obtain⟨x',h1,h2⟩:=B.win j x hj;refine⟨x',h1,h2.av ?_ fun k hk=> ?_⟩
  ·have:=a.1
   rw[List.all_eq_true]at this;exact this x (List.mem_of_getElem? hj)
  ·rw[<-aff (M.t0 i hi) (v:=i) (bw:=bw) hk]
   refine(hσ k ?_).symm;unfold qy at hk;rw[Bool.or_eq_true,Bool.and_eq_true]at hk;rcases hk with hk|hk
   ·have:=Nat.eq_of_beq_eq_true hk;omega
   ·have:=Nat.le_of_ble_eq_true hk.2;omega
 ·refine U9 (M.pv i hi) (fun j hj=>.inl hj) (fun k p hk hp=>hr.below.block _ (.inr (kp i k p hi hk hp))) fun j hj=>B.out _ ?_
  rw[(uM c i (s.ws i)).2.2]at hj;rcases Nat.lt_or_ge i v with h1|h1
  ·left
   have:(i+1)*35<=v*35:=Nat.mul_le_mul_right _ h1;omega
  ·right
   have:(v+1)*35<=i*35:=Nat.mul_le_mul_right _ (by omega)
   omega
end
section
open Go.RowKit Go.bn Go.Shelf
attribute [local go_sem] Oper.semAt_some
theorem D6:∀l:List Nat,l.length<=15->(∀a∈l,a<=14)->au l<1152921504606846976
 |l,h,ha=>by
  have:∀(n:Nat) (l:List Nat),l.length<=n->(∀a∈l,a<=14)->au l+1<=16^n:=by
   intro n;induction n with
   |zero=>intro l h _;obtain rfl:=List.eq_nil_of_length_eq_zero (by omega:l.length=0);unfold au;decide
   |succ n ih=>
    intro l h ha;cases l with
    |nil=>
     have:=Int.pow_pos (m:=n+1) (by decide:(0:Int)<16)
     unfold au;omega
    |cons a r=>
     have h1:=ih r (by simpa using h) (fun x hx=>ha x (List.mem_cons_of_mem _ hx))
     have h2:=ha a List.mem_cons_self;unfold au;rw[Int.pow_succ];omega
  have h2:=this 15 l h ha;have:(16:Int)^15=1152921504606846976:=by decide
  omega
theorem Cy(l:List Nat){k:Nat}(h:k<l.length):au (l.drop k)=((l[k]:Nat):Int)+1+16*au (l.drop (k+1)):=by
 rw[List.drop_eq_getElem_cons h];rfl
theorem Me{l:List Nat}(h:dZ l)(k:Nat):dZ (l.drop k):=⟨by rw[List.length_drop];have:=h.1;omega,fun a ha=>h.2 a (List.mem_of_mem_drop ha)⟩
theorem abu{l:List Nat}{k:Nat}(h:k<l.length):0<au (l.drop k):=by
 rw[Cy l h];have:=l8 (l.drop (k+1));omega
set_option maxRecDepth 100000 in
set_option maxHeartbeats 2000000 in
theorem V7(F:Fence)(n:Nat)(VM:F.fn 270)(hro:F.round=none)(hn:1<=n)(lp nb:Nat)(l:List Nat)(hl:dZ l)(J:Nat->World->Prop)(Jx:World->Prop)
  (hb:∀k W,J k W->Boxed W nb 3 (.int .i64 (au (l.drop k))))
  (hY:∀(k:Nat) (h:k<l.length) W,J k W->YieldAt F (n-1) Tryz.prog lp #[.int .i64 (k:Int),.int .i64 (l[k]:Int)] W fun e W'=>
   (e=.returned (.bool true)/\Boxed W' nb 3 (.int .i64 (au (l.drop k)))/\J (k+1) (W'.setCell ⟨nb,0,none⟩ (.int .i64 (au (l.drop (k+1))))))\/(e=.returned (.bool false)/\Jx W'))
  (W:World) (h0:J 0 W):
  CallsIn F n Tryz.prog 270 #[.func (.yield lp) #[] #[],.pointer (some ⟨nb,0,none⟩)] W fun e W'=>(∃v,e=.returned v)/\(J l.length W'\/Jx W'):=by
 refine callsIn_of_wp Tryz.func270 rfl VM ?_ hro;simp only[Tryz.ntmps270,List.size_toArray,List.length_cons,List.length_nil,Nat.reduceAdd,Nat.reduceSub,Array.replicate_succ,Array.replicate_zero,List.push_toArray,List.append_toArray,List.nil_append,List.cons_append];gi_wp2
 gi_loopw [3] (fun i wr=>∃k:Nat,k<=l.length/\i=.int .i64 k/\J k wr)
  (fun i _=>l.length-(intOf i).toNat)
 case atStart=>exact⟨0,Nat.zero_le _,rfl,h0⟩
 case round=>
  obtain⟨k,hk,rfl,hJ⟩:=hrel;have hbx:=hb k wr hJ;have hc:=hbx.cell;have hf:=hbx.frozen;by_cases hlt:k<l.length
  ·have hp:=abu hlt
   have he:=Cy l hlt;have hn2:=l8 (l.drop (k+1));have hm:=D6 _ (Me hl k).1 (Me hl k).2;obtain⟨fn,tmps,assign,body,hy,hR⟩:=hY k hlt wr hJ;have hx:=hl.2 _ (List.getElem_mem hlt);have ea:au (l.drop k)%16-1=((l[k]:Nat):Int):=by omega
   have es:au (l.drop k)/16=au (l.drop (k+1)):=by omega
   have ES:=Lib.hid es;rw[<-ea]at hy;clear he hx hn2 ea es;gi_wp2
   refine hR.mono ?_;rintro e W3 (⟨rfl,hb3,hJ3⟩|⟨rfl,hJ3⟩)
   ·have hc3:=hb3.cell
    have hf3:=hb3.frozen;clear hc hf hbx hb;have Qd:=hl.1;gi_wp2
    refine⟨⟨k+1,hlt,rfl,by rw[ES.out];exact hJ3⟩,?_⟩
    simp only[intOf];omega
   ·gi_wp2
    refine bodyPost_ret (results_none rfl _ _ _) rfl ?_;exact⟨⟨_,rfl⟩,.inr hJ3⟩
  ·obtain rfl:k=l.length:=by omega
   rw[List.drop_eq_nil_of_le (Nat.le_refl _)]at hbx;unfold au at hbx;have hc2:=hbx.cell;clear hc hb;gi_wp2
   go_end0
   exact⟨⟨_,rfl⟩,.inl hJ⟩
def afB(nb:Nat)(I:Nat->World->Prop)(Ix:Code->World->Prop)(k:Nat)(W:World):Exit->Act->World->Prop
 | .normal,_,W'=>KeepsOthers W W'/\W'.heap[nb]?=W.heap[nb]?/\I (k+1) W'
 | .ret,_,W'=>KeepsOthers W W'/\Ix .ret W'
 | .exit id,_,W'=>KeepsOthers W W'/\Ix (.exit id) W'
 | .goto t,_,W'=>KeepsOthers W W'/\Ix (.goto t) W'
 | .panic _,_,_=>False
 | .outgrown,_,_=>False
structure jc(n₀ nb:Nat)(W W':World):Prop where
 below:Below n₀ W W'
 same:∀(j:Nat) (o:Obj),j≠nb->W.heap[j]?=some o->o.isCells=true->W'.heap[j]?=some o
theorem jc.put{n₀ nb:Nat}{W:World}{i:Nat}{o:Obj}(o':Obj)(hn:n₀<=i)(h:W.heap[i]?=some o)(ho:o.isCells=false):jc n₀ nb W (W.putObj i o'):=by
 refine⟨(Below.refl n₀ W).grown (grownBy_putObj' W i o') (by have:=(Array.getElem?_eq_some_iff.1 h).1;omega) (fun k e=>by cases e;exact hn),fun j x _ hj hx=> ?_⟩
 have hne:j≠i:=by rintro rfl;rw[h]at hj;cases hj;rw[ho]at hx;cases hx
 exact(World.putObj_heap_other hne).trans hj
theorem jc.alloc{n₀ nb:Nat}{W:World}(hn:n₀<=W.heap.size)(o:Obj):jc n₀ nb W (W.alloc o):=
 ⟨(Below.refl n₀ W).alloc hn o,fun j x _ hj hx=>(Below.heap_alloc W o j (Array.getElem?_eq_some_iff.1 hj).1).trans hj⟩
theorem jc.set{n₀ nb:Nat}{W:World}(hn:n₀<=nb)(v:Value):jc n₀ nb W (W.setCell ⟨nb,0,none⟩ v):=
 ⟨(Below.refl n₀ W).setCell (p:=⟨nb,0,none⟩) hn v,fun j x hne hj hx=>(Below.heap_setCell W ⟨nb,0,none⟩ v j hne).trans hj⟩
theorem qW{F:Fence}{n:Nat}{ps:Array Tmp}{assign body:Code}{g:Operand}{Q:Exit->Act->World->Prop}{a:Act}{w:World}(hro:F.round=none)(hn:2<=n)(VM:F.fn 270){nb n₀:Nat}{l:List Nat}(hl:dZ l)
  (hg:a.eval g=.func (.func 270) #[] #[.pointer (some ⟨nb,0,none⟩)]) (hb:Boxed w nb 3 (.int .i64 (au l))) (hn0:n₀<=nb) (hps:ps.size=2)
  (I:Nat->World->Prop) (Ix:Code->World->Prop) (hI:∀k W W',I k W->jc n₀ nb W W'->I k W') (hIx:∀c W W',Ix c W->jc n₀ nb W W'->Ix c W') (h0:I 0 w) (a₁:Nat->Nat->Act)
  (hassign:∀(lp k x:Nat) (W:World) (K:Act->World->Prop),K (a₁ k x) W->
   assign.wpIn (F.inRound lp) (n-1-1) Tryz.prog (Exit.then K (fun _ _ _=>False)) {tmps:=(ps.zip #[Value.int .i64 (k:Int),.int .i64 (x:Int)]).foldl (fun t (p,v)=>t.setIfInBounds p v) a.tmps,defers:=[]} W)
  (hbody:∀(lp k:Nat) (h:k<l.length) (W:World),w.heap.size<=lp->I k W->Boxed W nb 3 (.int .i64 (au (l.drop k)))->body.wpIn (F.inRound lp) (n-1-1) Tryz.prog (afB nb I Ix k W) (a₁ k l[k]) W)
  (hdone:∀(D:Nat) (W:World),w.heap.size<=D->I l.length W->W.heap[D]?=some (.deferred (some []))->Q .normal {a with defers:={target:=.collected D,args:= #[]}::a.defers} W)
  (hstop:∀(D:Nat) (c:Code) (W:World),w.heap.size<=D->Ix c W->W.heap[D]?=some (.deferred (some []))->c.wpIn F n Tryz.prog Q {a with defers:={target:=.collected D,args:= #[]}::a.defers} W):
  (Code.rangeFunc g ps assign body).wpIn F n Tryz.prog Q a w:=by
 refine wpIn_rangeFunc ?_;intro fn hfn;rw[hro];have hnb:=hb.lt;obtain⟨rec,hrec⟩:∃rec:LoopState->Option Code->Loop,rec=fun st pe=>{state:=st,pending:=pe,fn,tmps:=a.tmps,params:=ps,assign,body,defers:=w.heap.size}:=⟨_,rfl⟩
 obtain⟨D,hD⟩:∃D,D=w.heap.size:=⟨_,rfl⟩;obtain⟨L,hL⟩:∃L,L=w.heap.size+1:=⟨_,rfl⟩;obtain⟨W1,hW1⟩:∃W1,(w.alloc (.deferred (some []))).alloc (.loop (rec .ready none))=W1:=⟨_,rfl⟩;have sW:W1.heap.size=w.heap.size+2:=by rw[<-hW1];simp
 have hL1:W1.heap[L]?=some (.loop (rec .ready none)):=by
  rw[<-hW1,hL];have:=World.alloc_heap_new (w.alloc (.deferred (some []))) (.loop (rec .ready none));rwa[World.size_alloc]at this
 have hK1:W1.heap[D]?=some (.deferred (some [])):=by
  rw[<-hW1,hD];exact(Below.heap_alloc _ _ _ (by simp)).trans (World.alloc_heap_new w _)
 have hI1:I 0 W1:=by
  rw[<-hW1];exact hI _ _ _ (hI _ _ _ h0 (jc.alloc (by omega) _)) (jc.alloc (by simp;omega) _)
 have hb1:Boxed W1 nb 3 (.int .i64 (au (l.drop 0))):=by rw[<-hW1];exact(hb.alloc _).alloc _
 let J:Nat->World->Prop:=fun k W=>I k W/\Boxed W nb 3 (.int .i64 (au (l.drop k)))/\W.heap[L]?=some (.loop (rec .ready none))/\W.heap[D]?=some (.deferred (some []))
 let Jx:World->Prop:=fun W=>∃c,Ix c W/\W.heap[L]?=some (.loop (rec .done (some c)))/\W.heap[D]?=some (.deferred (some []))
 refine⟨L,[{target:=.collected D,args:= #[]}],W1,{target:=.fn (.func 270) #[.pointer (some ⟨nb,0,none⟩)],args:= #[.func (.yield L) #[] #[]]},W1,270,
  #[.func (.yield L) #[] #[]]++ #[.pointer (some ⟨nb,0,none⟩)],W1,?_,?_,?_,?_,fun _=>by omega,?_⟩
 ·rw[<-hW1,hrec,hL,hD];exact run_enterLoop_outer _ _ _ _ _
 ·simp only[resolve,hg]
  simp[go_sem]
 ·intro f' hf';simp[Target.leads]at hf';subst hf';exact VM
 ·have _h:=enters_of Tryz.func270 (by kernel_rfl) rfl
  simp[invoke,go_sem]
 ·refine(V7 F (n-1) VM hro (by omega) L nb l hl J Jx (fun k W h=>h.2.1) ?_ W1 ⟨hI1,hb1,hL1,hK1⟩).mono ?_
  ·rintro k hk W ⟨hi,hbx,hl1,hk1⟩
   have hlt:L<W.heap.size:=(Array.getElem?_eq_some_iff.1 hl1).1;have hy:=run_yield (P:=Tryz.prog) (args:= #[Value.int .i64 (k:Int),.int .i64 (l[k]:Int)]) hl1 (by rw[hrec];exact hps.symm)
   rw[hrec]at hy;refine⟨fn,_,assign,body,hy,roundIn_of_wpIn hfn (hassign _ k l[k] W _ ?_)⟩;clear hy;refine⟨_,run_beginRound hl1 (by rw[hrec]),?_⟩
   obtain⟨W2,hW2⟩:∃W2,W.putObj L (.loop {rec .ready none with state:=.busy})=W2:=⟨_,rfl⟩
   have hl2:W2.heap[L]?=some (.loop {rec .ready none with state:=.busy}):=by rw[<-hW2];exact World.putObj_heap_same hlt
   have hk2:W2.heap[D]?=some (.deferred (some [])):=by rw[<-hW2];exact(World.putObj_heap_other (by omega)).trans hk1
   have hi2:I k W2:=by rw[<-hW2];exact hI _ _ _ hi (jc.put _ (by omega) hl1 rfl)
   have hb2:Boxed W2 nb 3 (.int .i64 (au (l.drop k))):=by rw[<-hW2];exact(World.putObj_heap_other (by omega)).trans hbx
   rw[hW2];refine wpIn_mono (hbody L k hk W2 (by omega) hi2 hb2) ?_
   have fin:∀(jump:Option Code) (W3:World),KeepsOthers W2 W3->
     (Instr.endRound L jump).run Tryz.prog W3=.ok (.bool jump.isNone) (W3.putObj L (.loop (rec (if jump.isNone then .ready else .done) jump)))/\
     W3.heap[L]?=some (.loop {rec .ready none with state:=.busy})/\W3.heap[D]?=some (.deferred (some [])):=fun jump W3 hk3=>by
    have hl3:=hk3.same _ _ hl2 rfl;have:=run_endRound (P:=Tryz.prog) jump hl3;rw[hrec]at this ⊢;exact⟨this,by rw[hrec]at hl3;exact hl3,hk3.same _ _ hk2 rfl⟩
   have stop:∀(c:Code) (W3:World),KeepsOthers W2 W3->Ix c W3->Jx (W3.putObj L (.loop (rec .done (some c)))):=fun c W3 hk3 hx=>by
    obtain⟨_,hl3,hd3⟩:=fin (some c) W3 hk3;have hlt3:L<W3.heap.size:=(Array.getElem?_eq_some_iff.1 hl3).1;exact⟨c,hIx _ _ _ hx (jc.put _ (by omega) hl3 rfl),World.putObj_heap_same hlt3,(World.putObj_heap_other (by omega)).trans hd3⟩
   rintro e a3 W3 hp;cases e with
   |normal=>
    obtain⟨hk3,aln,hi3⟩:=hp;obtain⟨hr,hl3,hd3⟩:=fin none W3 hk3;have hlt3:L<W3.heap.size:=(Array.getElem?_eq_some_iff.1 hl3).1;have hb3:Boxed (W3.putObj L (.loop (rec .ready none))) nb 3 (.int .i64 (au (l.drop k))):=(World.putObj_heap_other (by omega)).trans (aln.trans hb2)
    refine⟨_,_,hr,.inl ⟨rfl,hb3,?_,hb3.set _,?_,?_⟩⟩
    ·exact hI _ _ _ (hI _ _ _ hi3 (jc.put _ (by omega) hl3 rfl)) (jc.set hn0 _)
    ·exact(Below.heap_setCell _ _ _ _ (by show L≠nb;omega)).trans (World.putObj_heap_same hlt3)
    ·exact(Below.heap_setCell _ _ _ _ (by show D≠nb;omega)).trans ((World.putObj_heap_other (by omega)).trans hd3)
   |ret=>
    obtain⟨hk3,hx⟩:=hp;exact⟨_,_,(fin (some .ret) W3 hk3).1,.inr ⟨rfl,stop _ W3 hk3 hx⟩⟩
   |exit id=>
    obtain⟨hk3,hx⟩:=hp;exact⟨_,_,(fin (some (.exit id)) W3 hk3).1,.inr ⟨rfl,stop _ W3 hk3 hx⟩⟩
   |goto t=>
    obtain⟨hk3,hx⟩:=hp;exact⟨_,_,(fin (some (.goto t)) W3 hk3).1,.inr ⟨rfl,stop _ W3 hk3 hx⟩⟩
   |panic ch=>exact hp.elim
   |outgrown=>exact hp.elim
  ·rintro e W2 ⟨⟨v,rfl⟩,(⟨hi,_,hl2,hk2⟩|⟨c,hi,hl2,hk2⟩)⟩
   ·refine⟨none,_,by have:=run_endLoop (P:=Tryz.prog) hl2 (by rw[hrec];simp);rw[hrec]at this;exact this,hdone D _ (by omega) (hI _ _ _ hi (jc.put _ (by omega) hl2 rfl)) ((World.putObj_heap_other (by omega)).trans hk2)⟩
   ·refine⟨some c,_,by have:=run_endLoop (P:=Tryz.prog) hl2 (by rw[hrec];simp);rw[hrec]at this;exact this,hstop D c _ (by omega) (hIx _ _ _ hi (jc.put _ (by omega) hl2 rfl)) ((World.putObj_heap_other (by omega)).trans hk2)⟩
end
section
open Go.RowKit Go.bn Go.Shelf
attribute [local go_sem] Oper.semAt_some
theorem xW(F:Fence)(n:Nat)(aly:F.fn 253)(hro:F.round=none)(q:Int)(w:World):
  CallsIn F n Tryz.prog 253 #[.int .i64 q] w fun e w'=>e=.returned (.func (.func 270) #[] #[.pointer (some ⟨w.heap.size,0,none⟩)])/\w'=w.alloc (.cells #[.int .i64 q] 3):=by
 refine callsIn_of_wp Tryz.func253 rfl aly ?_ hro;simp only[Tryz.ntmps253,List.size_toArray,List.length_cons,List.length_nil,Nat.reduceAdd,Nat.reduceSub,Array.replicate_succ,Array.replicate_zero,List.push_toArray,List.append_toArray,List.nil_append,List.cons_append];gi_wp2
 go_ret
 exact⟨rfl,rfl⟩
set_option maxRecDepth 100000 in
set_option maxHeartbeats 2000000 in
theorem TH{l:List Nat}(hl:dZ l)(w:World):Calls Tryz.prog 267 #[.int .i64 (au l)] w fun e w'=>e=.returned (.int .i64 (l.length:Int))/\Below w.heap.size w w':=by
 refine(callsIn_wide (n:=6)).1 ?_;refine callsIn_of_wp_marks Tryz.func267 rfl trivial ?_ rfl;simp only[Tryz.ntmps267,List.size_toArray,List.length_cons,List.length_nil,Nat.reduceAdd,Nat.reduceSub,Array.replicate_succ,Array.replicate_zero,List.push_toArray,List.append_toArray,List.nil_append,List.cons_append];have b0:=Boxed.new w 3 (.int .i64 0);have c0:=b0.cell;have f0:=b0.frozen;have Qd:=hl.1;gi_wp2_with (refine⟨trivial,?_⟩;gi_at_call 253;refine(xW Fence.wide 5 trivial rfl _ _).mono ?_;rintro e w1 ⟨rfl,rfl⟩)
 have b1:Boxed ((w.alloc (.cells #[.int .i64 0] 3)).alloc (.cells #[.int .i64 (au l)] 3)) (w.heap.size+1) 3 (.int .i64 (au l)):=by
  have:=Boxed.new (w.alloc (.cells #[.int .i64 0] 3)) 3 (.int .i64 (au l));rwa[World.size_alloc]at this
 have b2:=b0.alloc (.cells #[.int .i64 (au l)] 3);have hB:Below w.heap.size w ((w.alloc (.cells #[.int .i64 0] 3)).alloc (.cells #[.int .i64 (au l)] 3)):=((Below.refl _ w).alloc (Nat.le_refl _) _).alloc (by simp) _
 obtain⟨W0,hW0⟩:∃W0,(w.alloc (.cells #[.int .i64 0] 3)).alloc (.cells #[.int .i64 (au l)] 3)=W0:=⟨_,rfl⟩;rw[hW0]at b1 b2 hB ⊢;have hs0:=hB.size;clear c0 f0 b0 hW0
 refine qW (F:=Fence.wide) (n:=6) rfl (by omega) trivial (nb:=w.heap.size+1) (n₀:=w.heap.size) hl rfl b1 (by omega) rfl
  (fun k W=>Boxed W w.heap.size 3 (.int .i64 (k:Int))/\Below w.heap.size w W) (fun _ _=>False) (fun k W W' h hd=>⟨hd.same _ _ (by omega) h.1 rfl,h.2.trans hd.below⟩) (fun _ _ _ h _=>h) ⟨b2,hB⟩
  (fun k x=>{tmps:= #[.int .i64 (au l),undef,.int .i64 0,.pointer (some ⟨w.heap.size,0,none⟩),.int .i64 (au l),.func (.func 270) #[] #[.pointer (some ⟨w.heap.size+1,0,none⟩)],.int .i64 (k:Int),.int .i64 (x:Int),undef,undef,undef],defers:=[]}) ?assign ?body ?done ?stop
 case assign=>
  intro lp k x W K hK;gi_wp2
  simpa using hK
 case body=>
  rintro lp k hk W hlp ⟨hb,hB⟩ hn;have hc:=hb.cell;have hf:=hb.frozen;gi_wp2
  exact⟨KeepsOthers.setCell _ _ _,Below.heap_setCell _ _ _ _ (by show w.heap.size+1≠w.heap.size;omega),hb.set _,hB.setCell (p:=⟨w.heap.size,0,none⟩) (Nat.le_refl _) _⟩
 case done=>
  rintro D W hD ⟨hb,hB⟩ hK;have hc:=hb.cell;gi_wp2
  refine⟨by simp,.inl ⟨_,_,rfl,run_takeDeferred hK,?_⟩⟩
  exact⟨_,results_tmp rfl _ _ _,rfl,hB.trans (belowK_b (w:=w) (Nat.le_refl _) W D _ _ (by omega) hK rfl rfl)⟩
 case stop=>
  intro D c W hD h;exact h.elim
set_option maxRecDepth 100000 in
set_option maxHeartbeats 2000000 in
theorem TP{l:List Nat}(hl:dZ l)(who:Int)(w:World):Calls Tryz.prog 205 #[.int .i64 (au l),.int .i64 who] w fun e w'=>e=.returned (.bool (l.any fun x=>(x:Int)==who))/\Below w.heap.size w w':=by
 refine(callsIn_wide (n:=6)).1 ?_;refine callsIn_of_wp_marks Tryz.func205 rfl trivial ?_ rfl;simp only[Tryz.ntmps205,List.size_toArray,List.length_cons,List.length_nil,Nat.reduceAdd,Nat.reduceSub,Array.replicate_succ,Array.replicate_zero,List.push_toArray,List.append_toArray,List.nil_append,List.cons_append];have Qd:=hl.1;gi_wp2_with (refine⟨trivial,?_⟩;gi_at_call 253;refine(xW Fence.wide 5 trivial rfl _ _).mono ?_;rintro e w1 ⟨rfl,rfl⟩)
 have hB:Below w.heap.size w (((w.alloc (.cells #[.int .i64 who] 3)).alloc (.cells #[.bool false] 4)).alloc (.cells #[.int .i64 (au l)] 3)):=(((Below.refl _ w).alloc (Nat.le_refl _) _).alloc (by simp) _).alloc (by simp;omega) _
 have b0:=((Boxed.new w 3 (.int .i64 who)).alloc (.cells #[.bool false] 4)).alloc (.cells #[.int .i64 (au l)] 3);have b1:=(Boxed.new (w.alloc (.cells #[.int .i64 who] 3)) 4 (.bool false)).alloc (.cells #[.int .i64 (au l)] 3);have b2:=Boxed.new ((w.alloc (.cells #[.int .i64 who] 3)).alloc (.cells #[.bool false] 4)) 3 (.int .i64 (au l));simp only[World.size_alloc]at b1 b2;obtain⟨W0,hW0⟩:∃W0,((w.alloc (.cells #[.int .i64 who] 3)).alloc (.cells #[.bool false] 4)).alloc (.cells #[.int .i64 (au l)] 3)=W0:=⟨_,rfl⟩;rw[hW0]at b0 b1 b2 hB ⊢;have hs0:=hB.size;clear hW0
 refine qW (F:=Fence.wide) (n:=6) rfl (by omega) trivial (nb:=w.heap.size+1+1) (n₀:=w.heap.size) hl rfl b2 (by omega) rfl
  (fun k W=>(∀(i:Nat) (h:i<l.length),i<k->¬(l[i]:Int)=who)/\Boxed W w.heap.size 3 (.int .i64 who)/\Boxed W (w.heap.size+1) 4 (.bool false)/\Below w.heap.size w W)
  (fun c W=>c=.ret/\(∃x∈l,(x:Int)=who)/\Boxed W (w.heap.size+1) 4 (.bool true)/\Below w.heap.size w W)
  (fun k W W' h hd=>⟨h.1,hd.same _ _ (by omega) h.2.1 rfl,hd.same _ _ (by omega) h.2.2.1 rfl,h.2.2.2.trans hd.below⟩) (fun c W W' h hd=>⟨h.1,h.2.1,hd.same _ _ (by omega) h.2.2.1 rfl,h.2.2.2.trans hd.below⟩) ⟨fun i _ hi=>absurd hi (Nat.not_lt_zero _),b0,b1,hB⟩
  (fun k x=>{tmps:= #[.int .i64 (au l),.int .i64 who,undef,.pointer (some ⟨w.heap.size,0,none⟩),.pointer (some ⟨w.heap.size+1,0,none⟩),undef,.int .i64 (x:Int),.int .i64 (au l),.func (.func 270) #[] #[.pointer (some ⟨w.heap.size+1+1,0,none⟩)],.int .i64 (k:Int),.int .i64 (x:Int),undef,undef,undef],defers:=[]}) ?assign ?body ?done ?stop
 case assign=>
  intro lp k x W K hK;gi_wp2
  simpa using hK
 case body=>
  rintro lp k hk W hlp ⟨hno,hw,hb,hB⟩ hn;have hc:=hb.cell;have hf:=hb.frozen;have hcw:=hw.cell;by_cases hx:(l[k]:Int)=who
  ·gi_wp2
   exact⟨KeepsOthers.setCell _ _ _,rfl,⟨_,List.getElem_mem hk,hx⟩,hb.set _,hB.setCell (p:=⟨w.heap.size+1,0,none⟩) (by show w.heap.size<=w.heap.size+1;omega) _⟩
  ·gi_wp2
   refine⟨KeepsOthers.refl _,rfl,fun i hi hik=> ?_,hw,hb,hB⟩
   rcases Nat.lt_or_ge i k with h|h
   ·exact hno i hi h
   ·obtain rfl:i=k:=by omega
    exact hx
 case done=>
  rintro D W hD ⟨hno,hw,hb,hB⟩ hK;have hc:=hb.cell;have hf:=hb.frozen;gi_wp2
  have hK':=(KeepsOthers.setCell W ⟨w.heap.size+1,0,none⟩ (.bool false)).same D _ hK rfl;refine⟨by simp,.inl ⟨_,_,rfl,run_takeDeferred hK',?_⟩⟩
  have zq:=cell_kept (World.cell?_setCell_same' W ⟨w.heap.size+1,0,none⟩ (.bool false) (by rw[hc];rfl)) (grownBy_putObj' _ D (.deferred none)) (fun r e=>by cases e;exact⟨_,hK',rfl⟩)
  have ha:(l.any fun x=>(x:Int)==who)=false:=by
   rw[List.any_eq_false];intro x hx;obtain⟨i,hi,rfl⟩:=List.mem_iff_getElem.1 hx;simpa using hno i hi hi
  refine⟨.bool false,?_,by rw[ha],(hB.setCell (p:=⟨w.heap.size+1,0,none⟩) (by show w.heap.size<=w.heap.size+1;omega) _).trans (belowK_b (w:=w) (Nat.le_refl _) _ D _ _ (by omega) hK' rfl rfl)⟩
  simp[results,Tryz.f205,go_sem,zq]
 case stop=>
  rintro D c W hD ⟨rfl,⟨x,hx,hxw⟩,hb,hB⟩ hK;have hc:=hb.cell;gi_wp2
  refine⟨by simp,.inl ⟨_,_,rfl,run_takeDeferred hK,?_⟩⟩
  have zq:=cell_kept hc (grownBy_putObj' _ D (.deferred none)) (fun r e=>by cases e;exact⟨_,hK,rfl⟩)
  have ha:(l.any fun x=>(x:Int)==who)=true:=by
   rw[List.any_eq_true];exact⟨x,hx,by simpa using hxw⟩
  refine⟨.bool true,?_,by rw[ha],hB.trans (belowK_b (w:=w) (Nat.le_refl _) W D _ _ (by omega) hK rfl rfl)⟩
  simp[results,Tryz.f205,go_sem,zq]
set_option maxRecDepth 100000 in
set_option maxHeartbeats 2000000 in
theorem abQ{l:List Nat}(hl:dZ l)(w:World):Calls Tryz.prog 250 #[.int .i64 (au l)] w fun e w'=>e=.returned (.tuple #[.int .i64 (l.headD 0:Int),.bool (!l.isEmpty)])/\Below w.heap.size w w':=by
 refine(callsIn_wide (n:=6)).1 ?_;refine callsIn_of_wp_marks Tryz.func250 rfl trivial ?_ rfl;simp only[Tryz.ntmps250,List.size_toArray,List.length_cons,List.length_nil,Nat.reduceAdd,Nat.reduceSub,Array.replicate_succ,Array.replicate_zero,List.push_toArray,List.append_toArray,List.nil_append,List.cons_append];have Qd:=hl.1;gi_wp2_with (refine⟨trivial,?_⟩;gi_at_call 253;refine(xW Fence.wide 5 trivial rfl _ _).mono ?_;rintro e w1 ⟨rfl,rfl⟩)
 have hB:Below w.heap.size w (((w.alloc (.cells #[.int .i64 0] 3)).alloc (.cells #[.bool false] 4)).alloc (.cells #[.int .i64 (au l)] 3)):=(((Below.refl _ w).alloc (Nat.le_refl _) _).alloc (by simp) _).alloc (by simp;omega) _
 have b0:=((Boxed.new w 3 (.int .i64 0)).alloc (.cells #[.bool false] 4)).alloc (.cells #[.int .i64 (au l)] 3);have b1:=(Boxed.new (w.alloc (.cells #[.int .i64 0] 3)) 4 (.bool false)).alloc (.cells #[.int .i64 (au l)] 3);have b2:=Boxed.new ((w.alloc (.cells #[.int .i64 0] 3)).alloc (.cells #[.bool false] 4)) 3 (.int .i64 (au l));simp only[World.size_alloc]at b1 b2;obtain⟨W0,hW0⟩:∃W0,((w.alloc (.cells #[.int .i64 0] 3)).alloc (.cells #[.bool false] 4)).alloc (.cells #[.int .i64 (au l)] 3)=W0:=⟨_,rfl⟩;rw[hW0]at b0 b1 b2 hB ⊢;have hs0:=hB.size;clear hW0
 refine qW (F:=Fence.wide) (n:=6) rfl (by omega) trivial (nb:=w.heap.size+1+1) (n₀:=w.heap.size) hl rfl b2 (by omega) rfl
  (fun k W=>k=0/\Boxed W w.heap.size 3 (.int .i64 0)/\Boxed W (w.heap.size+1) 4 (.bool false)/\Below w.heap.size w W)
  (fun c W=>c=.ret/\0<l.length/\Boxed W w.heap.size 3 (.int .i64 (l.headD 0:Int))/\Boxed W (w.heap.size+1) 4 (.bool true)/\Below w.heap.size w W)
  (fun k W W' h hd=>⟨h.1,hd.same _ _ (by omega) h.2.1 rfl,hd.same _ _ (by omega) h.2.2.1 rfl,h.2.2.2.trans hd.below⟩) (fun c W W' h hd=>⟨h.1,h.2.1,hd.same _ _ (by omega) h.2.2.1 rfl,hd.same _ _ (by omega) h.2.2.2.1 rfl,h.2.2.2.2.trans hd.below⟩) ⟨rfl,b0,b1,hB⟩
  (fun k x=>{tmps:= #[.int .i64 (au l),undef,.pointer (some ⟨w.heap.size,0,none⟩),.pointer (some ⟨w.heap.size+1,0,none⟩),undef,.int .i64 (x:Int),.int .i64 (au l),.func (.func 270) #[] #[.pointer (some ⟨w.heap.size+1+1,0,none⟩)],.int .i64 (k:Int),.int .i64 (x:Int),undef],defers:=[]}) ?assign ?body ?done ?stop
 case assign=>
  intro lp k x W K hK;gi_wp2
  simpa using hK
 case body=>
  rintro lp k hk W hlp ⟨rfl,hw,hb,hB⟩ hn;have hc:=hb.cell;have hf:=hb.frozen;have hcw:=hw.cell;have hfw:=hw.frozen;have he:l.headD 0=l[0]:=by cases l<;>first|rfl|(simp at hk)
  gi_wp2
  refine⟨(KeepsOthers.setCell _ _ _).trans (KeepsOthers.setCell _ _ _),rfl,hk,?_,?_,(hB.setCell (p:=⟨w.heap.size,0,none⟩) (Nat.le_refl _) _).setCell (p:=⟨w.heap.size+1,0,none⟩) (by show w.heap.size<=w.heap.size+1;omega) _⟩
  ·rw[he]
   exact(hw.set _).other (by omega) _
  ·exact(hb.other (by omega) _).set _
 case done=>
  rintro D W hD ⟨h0,hw,hb,hB⟩ hK;obtain rfl:=List.eq_nil_of_length_eq_zero h0;have hc:=hb.cell;have hf:=hb.frozen;have hcw:=hw.cell;have hfw:=hw.frozen;gi_wp2
  have hK':=((KeepsOthers.setCell W ⟨w.heap.size,0,none⟩ (.int .i64 0)).trans (KeepsOthers.setCell _ ⟨w.heap.size+1,0,none⟩ (.bool false))).same D _ hK rfl;refine⟨by simp,.inl ⟨_,_,rfl,run_takeDeferred hK',?_⟩⟩
  have q1:=((hw.set (.int .i64 0)).other (B':=w.heap.size+1) (by omega) (.bool false))
  have q2:=((hb.other (B':=w.heap.size) (by omega) (.int .i64 0)).set (.bool false))
  have zq:=cell_kept q1.cell (grownBy_putObj' _ D (.deferred none)) (fun r e=>by cases e;exact⟨_,hK',rfl⟩)
  have hc6:=cell_kept q2.cell (grownBy_putObj' _ D (.deferred none)) (fun r e=>by cases e;exact⟨_,hK',rfl⟩)
  refine⟨.tuple #[.int .i64 0,.bool false],?_,rfl,((hB.setCell (p:=⟨w.heap.size,0,none⟩) (Nat.le_refl _) _).setCell (p:=⟨w.heap.size+1,0,none⟩) (by show w.heap.size<=w.heap.size+1;omega) _).trans (belowK_b (w:=w) (Nat.le_refl _) _ D _ _ (by omega) hK' rfl rfl)⟩
  simp[results,Tryz.f250,go_sem,zq,hc6]
 case stop=>
  rintro D c W hD ⟨rfl,hpos,hw,hb,hB⟩ hK;have hc:=hb.cell;have hcw:=hw.cell;gi_wp2
  refine⟨by simp,.inl ⟨_,_,rfl,run_takeDeferred hK,?_⟩⟩
  have zq:=cell_kept hc (grownBy_putObj' _ D (.deferred none)) (fun r e=>by cases e;exact⟨_,hK,rfl⟩)
  have hc6:=cell_kept hcw (grownBy_putObj' _ D (.deferred none)) (fun r e=>by cases e;exact⟨_,hK,rfl⟩)
  have he:l.isEmpty=false:=by cases l<;>first|rfl|(simp at hpos)
  refine⟨.tuple #[.int .i64 (l.headD 0:Int),.bool true],?_,by rw[he];rfl,hB.trans (belowK_b (w:=w) (Nat.le_refl _) W D _ _ (by omega) hK rfl rfl)⟩
  simp[results,Tryz.f250,go_sem,zq,hc6]
end
section
open Go.RowKit Go.bn Go.Shelf
attribute [local go_sem] Oper.semAt_some
theorem Au:∀a b:List Nat,au (a++b)=au a+2^(4*a.length)*au b
 |[],b=>by simp[au]
 |x::a,b=>by
  show((x:Int)+1)+16*au (a++b)=((x:Int)+1)+16*au a+_;rw[Au a b,List.length_cons,Nat.mul_add,Int.pow_add,Int.mul_add];simp only[Nat.mul_one,Int.reducePow];rw[Int.mul_comm (2^(4*a.length)) 16,Int.mul_assoc];omega
theorem PO:∀a:List Nat,(∀x∈a,x<=14)->au a<2^(4*a.length)
 |[],_=>by simp[au]
 |x::a,h=>by
  have h1:=PO a fun y hy=>h y (List.mem_cons_of_mem _ hy)
  have h2:=h x List.mem_cons_self;rw[List.length_cons,Nat.mul_add,Int.pow_add];simp only[Nat.mul_one,Int.reducePow];unfold au;omega
theorem ab'{l:List Nat}{k who:Nat}(hk:k<l.length)(h:l[k]=who)(hno:∀(i:Nat) (hi:i<l.length),i<k->¬l[i]=who):l.erase who=l.take k++l.drop (k+1):=by
 induction l generalizing k with
 |nil=>simp at hk
 |cons x r ih=>
  cases k with
  |zero=>
   simp at h;subst h;simp
  |succ k=>
   have hx:x≠who:=hno 0 (by simp) (Nat.succ_pos _)
   rw[List.erase_cons_tail (by simpa using hx),ih (by simpa using hk) (by simpa using h) fun i hi hik=>by
    have:=hno (i+1) (by simpa using hi) (Nat.succ_lt_succ hik)
    simpa using this]
   simp
theorem ZQ{x y:Int}{a:Nat}(h0:0<=x)(h1:x<2^a)(hy:0<=y)(hb:y*2^a<9223372036854775808)(ha:a<=60):BitVec.ofInt 64 x&&&BitVec.ofInt 64 (y*2^a)=0:=by
 have h2:(2:Int)^a<=2^60:=O5 ha;have h3:(2:Int)^60=1152921504606846976:=by decide
 have h4:0<=y*2^a:=Int.mul_nonneg hy (by have:=aU a;omega)
 apply BitVec.eq_of_toNat_eq;rw[BitVec.toNat_and,qD h0 (by omega),qD h4 (by omega)]
 have e:(y*2^a).toNat=y.toNat<<<a:=by
  rw[Nat.shiftLeft_eq]
  have:((y.toNat*2^a:Nat):Int)=y*2^a:=by
   rw[Int.natCast_mul,BG,Int.toNat_of_nonneg hy]
  rw[<-this,Int.toNat_natCast]
 have hx:x.toNat<2^a:=by
  have:((2^a:Nat):Int)=(2:Int)^a:=BG a;omega
 rw[e];apply Nat.eq_of_testBit_eq;intro i;rw[Nat.testBit_and,Nat.testBit_shiftLeft];rcases Nat.lt_or_ge i a with h|h
 ·have:decide (i>=a)=false:=by simpa using h
  rw[this];simp
 ·rw[Nat.testBit_lt_two_pow (Nat.lt_of_lt_of_le hx (Nat.pow_le_pow_right (by decide) h))];simp
theorem yK{x:Int}(h0:0<=x)(h1:x<=9223372036854775807):wrap64 x=x:=by unfold wrap64;omega
theorem acF(q:Int){d:Nat}(h:(2:Int)^d<=72057594037927936)(hd:d<=63):bits .and .i64 q (wrap64 (wrap64 (2^d)-1))=q%2^d:=by
 have hp:=aU d;have e:=Lg q d hd;revert e h hp
 generalize (2:Int)^d=P;intro h hp e;rw[yK (x:=P) (by omega) (by omega),yK (by omega) (by omega)];exact e
theorem Zt{l:List Nat}(hl:dZ l){k:Nat}(hk:k<l.length):bits .or .i64 (bits .and .i64 (au l) (wrap64 (wrap64 (2^(4*k))-1))) (wrap64 (au l/2^(4*(k+1))*2^(4*k)))=au (l.take k++l.drop (k+1)):=by
 have Qd:=hl.1;have hm:=fun(a:List Nat) (h:∀x∈a,x∈l)=>PO a fun x hx=>hl.2 x (h x hx)
 have ht:=hm (l.take k) fun x hx=>List.mem_of_mem_take hx
 have hd:=l8 (l.drop (k+1));have hn:=l8 (l.take k);have el:(l.take k).length=k:=by rw[List.length_take];omega
 rw[el]at ht;have hp:=aU (4*k)
 have e1:au l=au (l.take k)+2^(4*k)*au (l.drop k):=by
  have:=Au (l.take k) (l.drop k);rwa[List.take_append_drop,el]at this
 have e2:=Cy l hk;have hx:=hl.2 _ (List.getElem_mem hk)
 have e3:au l/2^(4*k)=au (l.drop k):=by
  rw[e1,Int.add_mul_ediv_left _ _ (by omega),Int.ediv_eq_zero_of_lt hn ht];omega
 have e4:au l/2^(4*(k+1))=au (l.drop (k+1)):=by
  rw[show 4*(k+1)=4*k+4 from rfl,nV,e3,e2]
  simp only[Int.reducePow];omega
 have e5:au l%2^(4*k)=au (l.take k):=by
  rw[e1,Int.add_mul_emod_self_left,Int.emod_eq_of_lt hn ht]
 have hlt:=D6 l hl.1 hl.2
 have abK:(2:Int)^(4*k)<=72057594037927936:=by
  have h1:(2:Int)^(4*k)<=2^56:=O5 (by omega)
  exact Int.le_trans h1 (by decide)
 have ha:=ZQ (a:=4*k) hn ht hd;have hor:=Yo (x:=au (l.take k)) (y:=au (l.drop (k+1))*2^(4*k));rw[e4,acF _ abK (by omega),e5,Au,el,Int.mul_comm (2^(4*k)) (au (l.drop (k+1)))]
 have h60:4*k<=60:=by omega
 clear e3 e4 e5;have e6:au (l.take k)+(((l[k]:Nat):Int)+1+16*au (l.drop (k+1)))*2^(4*k)=au l:=by rw[e1,e2,Int.mul_comm]
 rw[Int.add_mul,Int.mul_assoc]at e6;clear e1 e2 el hm;revert hor ha e6 ht hp abK
 generalize (2:Int)^(4*k)=P;intro ht hp abK ha hor e6;have hx0:0<=(((l[k]:Nat):Int)+1)*P:=Int.mul_nonneg (by omega) (by omega)
 have hnn:0<=au (l.drop (k+1))*P:=Int.mul_nonneg hd (by omega)
 revert hor ha e6 hn hlt hx0 hnn
 generalize au (l.take k)=A;generalize au (l.drop (k+1))*P=B;generalize (((l[k]:Nat):Int)+1)*P=C;generalize au l=D;intro hn hlt ha hor e6 hx0 hnn;rw[yK hnn (by omega)]
 exact hor (ha (by omega) h60) ⟨by omega,by omega⟩
set_option maxRecDepth 100000 in
set_option maxHeartbeats 2000000 in
theorem ach{l:List Nat}(hl:dZ l)(who:Nat)(hw:who∈l)(w:World):Calls Tryz.prog 254 #[.int .i64 (au l),.int .i64 (who:Int)] w fun e w'=>e=.returned (.tuple #[.int .i64 (au (l.erase who)),.bool true])/\Below w.heap.size w w':=by
 refine(callsIn_wide (n:=6)).1 ?_;refine callsIn_of_wp_marks Tryz.func254 rfl trivial ?_ rfl;simp only[Tryz.ntmps254,List.size_toArray,List.length_cons,List.length_nil,Nat.reduceAdd,Nat.reduceSub,Array.replicate_succ,Array.replicate_zero,List.push_toArray,List.append_toArray,List.nil_append,List.cons_append];have Qd:=hl.1;gi_wp2_with (refine⟨trivial,?_⟩;gi_at_call 253;refine(xW Fence.wide 5 trivial rfl _ _).mono ?_;rintro e w1 ⟨rfl,rfl⟩)
 have hB:Below w.heap.size w (((((w.alloc (.cells #[.int .i64 (au l)] 3)).alloc (.cells #[.int .i64 who] 3)).alloc (.cells #[.int .i64 0] 3)).alloc (.cells #[.bool false] 4)).alloc (.cells #[.int .i64 (au l)] 3)):=
  (((((Below.refl _ w).alloc (Nat.le_refl _) _).alloc (by simp) _).alloc (by simp;omega) _).alloc (by simp;omega) _).alloc (by simp;omega) _
 have a0:=((((Boxed.new w 3 (.int .i64 (au l))).alloc (.cells #[.int .i64 who] 3)).alloc (.cells #[.int .i64 0] 3)).alloc (.cells #[.bool false] 4)).alloc (.cells #[.int .i64 (au l)] 3);have a1:=(((Boxed.new (w.alloc (.cells #[.int .i64 (au l)] 3)) 3 (.int .i64 who)).alloc (.cells #[.int .i64 0] 3)).alloc (.cells #[.bool false] 4)).alloc (.cells #[.int .i64 (au l)] 3);have a2:=((Boxed.new ((w.alloc (.cells #[.int .i64 (au l)] 3)).alloc (.cells #[.int .i64 who] 3)) 3 (.int .i64 0)).alloc (.cells #[.bool false] 4)).alloc (.cells #[.int .i64 (au l)] 3);have a3:=(Boxed.new (((w.alloc (.cells #[.int .i64 (au l)] 3)).alloc (.cells #[.int .i64 who] 3)).alloc (.cells #[.int .i64 0] 3)) 4 (.bool false)).alloc (.cells #[.int .i64 (au l)] 3);have a4:=Boxed.new ((((w.alloc (.cells #[.int .i64 (au l)] 3)).alloc (.cells #[.int .i64 who] 3)).alloc (.cells #[.int .i64 0] 3)).alloc (.cells #[.bool false] 4)) 3 (.int .i64 (au l));simp only[World.size_alloc]at a1 a2 a3 a4;obtain⟨W0,hW0⟩:∃W0,((((w.alloc (.cells #[.int .i64 (au l)] 3)).alloc (.cells #[.int .i64 who] 3)).alloc (.cells #[.int .i64 0] 3)).alloc (.cells #[.bool false] 4)).alloc (.cells #[.int .i64 (au l)] 3)=W0:=⟨_,rfl⟩;rw[hW0]at a0 a1 a2 a3 a4 hB ⊢;have hs0:=hB.size;clear hW0;have hlw:=D6 l hl.1 hl.2;have hnn:=l8 l
 refine qW (F:=Fence.wide) (n:=6) rfl (by omega) trivial (nb:=w.heap.size+1+1+1+1) (n₀:=w.heap.size) hl rfl a4 (by omega) rfl
  (fun k W=>(∀(i:Nat) (h:i<l.length),i<k->¬l[i]=who)/\(Boxed W w.heap.size 3 (.int .i64 (au l))/\Boxed W (w.heap.size+1) 3 (.int .i64 (who:Int))/\Boxed W (w.heap.size+1+1) 3 (.int .i64 0)/\Boxed W (w.heap.size+1+1+1) 4 (.bool false))/\Below w.heap.size w W)
  (fun c W=>c=.ret/\(Boxed W (w.heap.size+1+1) 3 (.int .i64 (au (l.erase who)))/\Boxed W (w.heap.size+1+1+1) 4 (.bool true))/\Below w.heap.size w W)
  (fun k W W' h hd=>⟨h.1,⟨hd.same _ _ (by omega) h.2.1.1 rfl,hd.same _ _ (by omega) h.2.1.2.1 rfl,hd.same _ _ (by omega) h.2.1.2.2.1 rfl,hd.same _ _ (by omega) h.2.1.2.2.2 rfl⟩,h.2.2.trans hd.below⟩) (fun c W W' h hd=>⟨h.1,⟨hd.same _ _ (by omega) h.2.1.1 rfl,hd.same _ _ (by omega) h.2.1.2 rfl⟩,h.2.2.trans hd.below⟩) ⟨fun i _ hi=>absurd hi (Nat.not_lt_zero _),⟨a0,a1,a2,a3⟩,hB⟩
  (fun k x=>{tmps:= #[.int .i64 (au l),.int .i64 (who:Int),.pointer (some ⟨w.heap.size,0,none⟩),.pointer (some ⟨w.heap.size+1,0,none⟩),.pointer (some ⟨w.heap.size+1+1,0,none⟩),.pointer (some ⟨w.heap.size+1+1+1,0,none⟩),.int .i64 (k:Int),.int .i64 (x:Int),undef,undef,
   .int .i64 (au l),.func (.func 270) #[] #[.pointer (some ⟨w.heap.size+1+1+1+1,0,none⟩)],.int .i64 (k:Int),.int .i64 (x:Int),undef,undef,undef,undef,undef,undef,undef,undef,undef,undef,undef,undef,undef,undef,undef,undef,undef,undef,undef,undef,undef],defers:=[]}) ?assign ?body ?done ?stop
 case assign=>
  intro lp k x W K hK;gi_wp2
  simpa using hK
 case body=>
  rintro lp k hk W hlp ⟨hno,⟨h1,h2,h3,h4⟩,hB⟩ hn;have c1:=h1.cell;have c2:=h2.cell;have c3:=h3.cell;have c4:=h4.cell;have f3:=h3.frozen;have f4:=h4.frozen;by_cases hx:l[k]=who
  ·have hx2:((l[k]:Nat):Int)=(who:Int):=by rw[hx]
   have hmx:Tryz.prog.follows .mixedOrders=true:=by kernel_rfl
   have w0:0<=IntKind.i64.wrap (4*(k:Int)):=by rw[IntKind.wrap_i64];omega
   have w1:IntKind.i64.wrap (4*(k:Int))<=64:=by rw[IntKind.wrap_i64];omega
   gi_wp2
   gi_region_with_o fail
   all_goals gi_wp2
   all_goals
    have ew:=Zt hl hk;rw[<-ab' hk hx hno]at ew;rw[ew];exact⟨((KeepsOthers.setCell _ _ _).trans (KeepsOthers.setCell _ _ _)).trans (KeepsOthers.drew _),rfl,⟨(h3.set _).other (by omega) _,(h4.other (by omega) _).set _⟩,((hB.setCell (p:=⟨w.heap.size+1+1,0,none⟩) (by show w.heap.size<=w.heap.size+1+1;omega) _).setCell (p:=⟨w.heap.size+1+1+1,0,none⟩) (by show w.heap.size<=w.heap.size+1+1+1;omega) _).trans (Below.refl _ _).drew⟩
  ·have hx2:¬((l[k]:Nat):Int)=(who:Int):=by omega
   gi_wp2
   refine⟨KeepsOthers.refl _,rfl,fun i hi hik=> ?_,⟨h1,h2,h3,h4⟩,hB⟩
   rcases Nat.lt_or_ge i k with h|h
   ·exact hno i hi h
   ·obtain rfl:i=k:=by omega
    exact hx
 case done=>
  rintro D W hD ⟨hno,_⟩ hK;obtain⟨i,hi,hiw⟩:=List.mem_iff_getElem.1 hw;exact absurd hiw (hno i hi hi)
 case stop=>
  rintro D c W hD ⟨rfl,⟨h3,h4⟩,hB⟩ hK;have c3:=h3.cell;have c4:=h4.cell;gi_wp2
  refine⟨by simp,.inl ⟨_,_,rfl,run_takeDeferred hK,?_⟩⟩
  have zq:=cell_kept c3 (grownBy_putObj' _ D (.deferred none)) (fun r e=>by cases e;exact⟨_,hK,rfl⟩)
  have hc6:=cell_kept c4 (grownBy_putObj' _ D (.deferred none)) (fun r e=>by cases e;exact⟨_,hK,rfl⟩)
  refine⟨.tuple #[.int .i64 (au (l.erase who)),.bool true],?_,rfl,hB.trans (belowK_b (w:=w) (by omega) W D _ _ (by omega) hK rfl rfl)⟩
  simp[results,Tryz.f254,go_sem,zq,hc6]
end
end bq
end Go.Proofs.YteaflphddciglaaGreatDoor
namespace Go.Proofs.YteaflphddciglaaGreatDoor.bq
open Go.RowKit Go.bn Go.Shelf
attribute [local go_sem] Oper.semAt_some
theorem aeH{l:List Nat}(hl:dZ l)(w:World):Calls Tryz.prog 252 #[.int .i64 (au l)] w fun e w'=>e=.returned (.int .i64 (au l.tail))/\Below w.heap.size w w':=by
 refine(callsIn_wide (n:=6)).1 ?_;refine callsIn_of_wp Tryz.func252 rfl trivial ?_ rfl;simp only[Tryz.ntmps252,List.size_toArray,List.length_cons,List.length_nil,Nat.reduceAdd,Nat.reduceSub,Array.replicate_succ,Array.replicate_zero,List.push_toArray,List.append_toArray,List.nil_append,List.cons_append];gi_wp2
 go_ret
 refine⟨?_,Below.refl _ _⟩;cases l with
 |nil=>rfl
 |cons a r=>
  have h1:=hl.2 a List.mem_cons_self;have h2:=l8 r
  have:au (a::r)/16=au r:=by
   show(((a:Int)+1)+16*au r)/16=au r;omega
  rw[this];rfl
theorem Yf{l:List Nat}(hl:dZ l){who:Nat}(h1:l.length<15)(h2:who<=14):wrap64 (au l+wrap64 (((who:Int)+1)*2^(4*l.length)))=au (l++[who]):=by
 have h3:dZ (l++[who]):=⟨by rw[List.length_append];exact h1,fun a ha=>by
  rcases List.mem_append.1 ha with ha|ha
  ·exact hl.2 a ha
  ·rw[List.mem_singleton.1 ha];exact h2⟩
 have h4:=D6 _ h3.1 h3.2
 have e:au (l++[who])=au l+((who:Int)+1)*2^(4*l.length):=by
  rw[Au,Int.mul_comm];show au l+(((who:Int)+1)+16*0)*_=_;rw[Int.mul_zero,Int.add_zero]
 have hn:=l8 l;have hp:=aU (4*l.length);have hq:0<=((who:Int)+1)*2^(4*l.length):=Int.mul_nonneg (by omega) (by omega)
 rw[e]at h4 ⊢;revert hq h4
 generalize ((who:Int)+1)*2^(4*l.length)=Q;intro h4 hq;rw[yK hq (by omega),yK (by omega) (by omega)]
set_option maxRecDepth 100000 in
set_option maxHeartbeats 2000000 in
theorem aa0{l:List Nat}(hl:dZ l){who:Nat}(h1:l.length<15)(h2:who<=14)(h3:who∉l)(w:World):Calls Tryz.prog 277 #[.int .i64 (au l),.int .i64 (who:Int)] w fun e w'=>e=.returned (.tuple #[.int .i64 (au (l++[who])),.bool true])/\Below w.heap.size w w':=by
 refine(callsIn_wide (n:=6)).1 ?_;refine callsIn_of_wp Tryz.func277 rfl trivial ?_ rfl;simp only[Tryz.ntmps277,List.size_toArray,List.length_cons,List.length_nil,Nat.reduceAdd,Nat.reduceSub,Array.replicate_succ,Array.replicate_zero,List.push_toArray,List.append_toArray,List.nil_append,List.cons_append]
 have hh:(l.any fun x=>(x:Int)==(who:Int))=false:=by
  rw[List.any_eq_false];intro x hx;have:x≠who:=fun e=>h3 (e▸hx)
  simp only[beq_iff_eq];omega
 have hmx:Tryz.prog.follows .mixedOrders=true:=by kernel_rfl
 gi_wp2_with (refine⟨trivial,?_⟩;first|(gi_at_call 267;refine(callsIn_wide.2 (TH hl _)).mono ?_;rintro e w1 ⟨rfl,hb1⟩)|(gi_at_call 205;refine(callsIn_wide.2 (TP hl _ _)).mono ?_;rw[hh];rintro e w2 ⟨rfl,hb2⟩))
 have hw:=Yf hl h1 h2;rw[hw];go_ret2
 exact⟨rfl,hb1.trans (hb2.mono hb1.size)⟩
end Go.Proofs.YteaflphddciglaaGreatDoor.bq
namespace Go.Proofs.YteaflphddciglaaGreatDoor.bq
open Go.RowKit Go.bn Go.Sx
noncomputable section
theorem mD{G:Kj}{f:FuncId}{args:List Value}{v:Value}{X:Nat->Prop}{w0:World}{lh:List Go.Sx.ag}(hp:args.all eX=true)(hv:Go.Sx.plain v=true)(hraw:∀w,Calls Tryz.prog f args.toArray w fun e w'=>e=.returned v/\Below w.heap.size w w'):dK Tryz.prog X w0 G f args lh (v,lh):=by
 refine⟨bu.refl _,fun σ w args' hr hargs=> ?_⟩
 rw[hargs.jS hp];refine(hraw w).mono fun e w' hh=> ?_
 obtain⟨rfl,hb⟩:=hh;exact⟨v,rfl,σ,Ext.refl _ _,VR.plain σ hv,hr.kept hb⟩
theorem afh{G:Kj}:dP G KT Tryz.prog TT 267 PK:=by
 refine⟨⟨_,Tryz.func267,by kernel_rfl,by kernel_rfl⟩,fun X w0 h0 hB hT args lh r hr=> ?_⟩
 unfold PK at hr;split at hr
 ·rename_i q
  rcases M.af hr with⟨hs,hr⟩|⟨_,hr⟩
  ·obtain⟨hq,hl⟩:=jv.1 hs
   simp only[M.ah,Option.some.injEq]at hr;subst hr;refine mD rfl rfl fun w=> ?_
   have:=TH hl w;rwa[hq]at this
  ·cases hr
 ·cases hr
theorem afi{G:Kj}:dP G KT Tryz.prog TT 205 PL:=by
 refine⟨⟨_,Tryz.func205,by kernel_rfl,by kernel_rfl⟩,fun X w0 h0 hB hT args lh r hr=> ?_⟩
 unfold PL at hr;split at hr
 ·rename_i q a
  rcases M.af hr with⟨hs,hr⟩|⟨_,hr⟩
  ·obtain⟨hq,hl⟩:=jv.1 hs
   simp only[M.ah,Option.some.injEq]at hr;subst hr;refine mD rfl rfl fun w=> ?_
   have:=TP hl (.ofNat a) w;rw[hq]at this
   have e:((gH q).any fun x=>(x:Int)==(.ofNat a:Int))=sure (a∈gH q):=by
    by_cases h:a∈gH q
    ·rw[jh h,List.any_eq_true]
     exact⟨a,h,by simp⟩
    ·rw[yM h,List.any_eq_false]
     intro x hx;have hne:x≠a:=fun e=>h (e▸hx)
     simp only[beq_iff_eq];intro he;exact hne (Int.ofNat.inj he)
   rw[e]at this;exact this
  ·cases hr
 ·cases hr
theorem abq{G:Kj}:dP G KT Tryz.prog TT 250 KI:=by
 refine⟨⟨_,Tryz.func250,by kernel_rfl,by kernel_rfl⟩,fun X w0 h0 hB hT args lh r hr=> ?_⟩
 unfold KI at hr;split at hr
 ·rename_i q
  rcases M.af hr with⟨hs,hr⟩|⟨_,hr⟩
  ·obtain⟨hq,hl⟩:=jv.1 hs
   have hc:=fun w=>abQ hl w
   rw[hq]at hc;rcases M.af hr with⟨hn,hr⟩|⟨hn,hr⟩
   ·have hn:=jv.1 hn
    simp only[M.ah,Option.some.injEq]at hr;subst hr;refine mD rfl (by simp[Go.Sx.plain,aN]) fun w=> ?_
    have:=hc w;rw[hn]at this;exact this
   ·have hn:gH q≠[]:=fun h=>by rw[jh h]at hn;cases hn
    simp only[M.ah,Option.some.injEq]at hr;subst hr;refine mD rfl (by simp[Go.Sx.plain,aN]) fun w=> ?_
    have:=hc w
    have e:(gH q).isEmpty=false:=by
     cases h:gH q with
     |nil=>exact absurd h hn
     |cons a r=>rfl
    rw[e]at this;exact this
  ·cases hr
 ·cases hr
theorem abp{G:Kj}:dP G KT Tryz.prog TT 277 KH:=by
 refine⟨⟨_,Tryz.func277,by kernel_rfl,by kernel_rfl⟩,fun X w0 h0 hB hT args lh r hr=> ?_⟩
 unfold KH at hr;split at hr
 ·rename_i q a
  rcases M.af hr with⟨hs,hr⟩|⟨_,hr⟩
  ·obtain⟨⟨hq,hl⟩,h1,h2,h3⟩:=jv.1 hs
   simp only[M.ah,Option.some.injEq]at hr;subst hr;refine mD rfl (by simp[Go.Sx.plain,aN]) fun w=> ?_
   have:=aa0 hl h1 h2 h3 w;rwa[hq]at this
  ·cases hr
 ·cases hr
theorem abr{G:Kj}:dP G KT Tryz.prog TT 254 KJ:=by
 refine⟨⟨_,Tryz.func254,by kernel_rfl,by kernel_rfl⟩,fun X w0 h0 hB hT args lh r hr=> ?_⟩
 unfold KJ at hr;split at hr
 ·rename_i q a
  rcases M.af hr with⟨hs,hr⟩|⟨_,hr⟩
  ·obtain⟨⟨hq,hl⟩,h1,h2⟩:=jv.1 hs
   simp only[M.ah,Option.some.injEq]at hr;subst hr;refine mD rfl (by simp[Go.Sx.plain,aN]) fun w=> ?_
   have:=ach hl a h2 w;rwa[hq]at this
  ·cases hr
 ·cases hr
theorem afg{G:Kj}:dP G KT Tryz.prog TT 252 PI:=by
 refine⟨⟨_,Tryz.func252,by kernel_rfl,by kernel_rfl⟩,fun X w0 h0 hB hT args lh r hr=> ?_⟩
 unfold PI at hr;split at hr
 ·rename_i q
  rcases M.af hr with⟨hs,hr⟩|⟨_,hr⟩
  ·obtain⟨hq,hl⟩:=jv.1 hs
   simp only[M.ah,Option.some.injEq]at hr;subst hr;refine mD rfl (by simp[Go.Sx.plain,aN]) fun w=> ?_
   have:=aeH hl w;rwa[hq]at this
  ·cases hr
 ·cases hr
end
end Go.Proofs.YteaflphddciglaaGreatDoor.bq
