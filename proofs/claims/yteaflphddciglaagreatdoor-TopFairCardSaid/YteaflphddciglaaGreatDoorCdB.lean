import Derived.Test.YteaflphddciglaaGreatDoorCdA
set_option linter.all false
def sB:=@Nat.mod_eq_of_lt
def tr:=@Nat.add_le_add
namespace Go.Proofs.YteaflphddciglaaGreatDoor
namespace bq
noncomputable section
open Go.RowKit Go.bn Go.Sx Yq
variable{c:Cn} {s m p:Ms} {e:Int} {D:Nat->Prop} {b:Nat} {w u:World}
inductive Reach(c:Cn)(s:Ms):Ms->Prop
 |refl:Reach c s s
 |step {m:Ms} {v:Nat}:Reach c s m->v<c.W->aQ m v->Reach c s (ai c m v)
inductive uP(c:Cn)(s:Ms):Ms->Prop
 |refl:uP c s s
 |step {m:Ms} {v:Nat}:uP c s m->v<c.W->(∀j,j<v->¬aQ m j)->aQ m v->uP c s (ai c m v)
def aaa{s:Ms}(h:Wh c s){m:Ms}(r:Reach c s m):Wh c m:=by
 induction r with
 |refl=>exact h
 |step _ v _ i=>exact SF i v
def aoW{s:Ms}(h:XtS c s)(A:All c s)(W:c.W<=15)(S:1<=c.S){m:Ms}(r:Reach c s m):XtS c m:=by
 have k:XtS c m/\All c m:=by
  induction r with
  |refl=>exact⟨h,A⟩
  |step _ v a i=>exact⟨anS i.1 i.2 v W S a,(Gu v W S i.2 a).1⟩
 exact k.1
def ahE{K:Nat}(h:GyS c s K)(W:c.W<=14)(S:1<=c.S)(f:((K+yj c s:Nat):Int)<=4000000000000000000){m:Ms}(r:Reach c s m):∃a,GyS c m a/\a+yj c m<=K+yj c s:=by
 induction r with
 |refl=>exact⟨K,h,aq _⟩
 |step _ v d i=>
  obtain⟨a,G,k⟩:=i;have q:=(Gu v (by omega) S G.x.nx.all d).2;exact⟨a+1,akM G W S v d (by omega),by omega⟩
def amv{n:Int}{s:Ms}(h:Wg c n s)(W:1<=c.W/\c.W<=4)(S:1<=c.S/\c.S<=5)(i:n<=1000000000){m:Ms}(r:Reach c s m):Wg c (n+360000) m:=by
 obtain⟨a,K,k,G⟩:=h;have l:=Yj G.x.nx.all.inv G.x.nx.all.nd W.1 W.2 S.1 S.2;have o:10000*c.W*(c.S+c.W)<=360000:=by
  have:=rK (j7 10000 W.2) (tr S.2 W.2);omega
 obtain⟨d,f,q⟩:=ahE G (by omega) S.1 (by omega) r;exact⟨⟨aaa a.1 r,aoW a.2 G.x.nx.all (by omega) S.1 r⟩,d,by omega,f⟩
def G7(c:Cn)(s:Ms):Nat:=j4 (λi=>rp (s.ws i)) c.W
def ags(c:Cn)(s:Ms):G7 c s<=3*c.W:=by
 have:=yO (f:=λi=>rp (s.ws i)) (k:=3) c.W λi _=>ai1 _;unfold G7;omega
theorem aaP{v:Nat}(a:v<c.W)(W:c.W<=15)(S:1<=c.S)(A:All c s)(l:aQ s v):G7 c (ai c s v)<=G7 c s/\(still ((ai c s v).ws v)->G7 c (ai c s v)+1<=G7 c s):=by
 have g:=BD a W S A.inv.m A.inv.g (A.inv.w v a) l;have r:=aeA (A.inv.w v a) l;have h:=yN (f:=λi=>rp ((ai c s v).ws i)) (g:=λi=>rp (s.ws i)) (k:=v) (d:=0) c.W a λi q n=>by rw[g.2.2.2.1 i n];exact aq _
 unfold Bd at r;unfold G7;refine⟨by omega,λo=> ?_⟩;have:=r.2 o;omega
def aa6(x:Wr):(rJ x.ph=0\/rJ x.ph=6)↔still x:=by
 obtain⟨h,a,r⟩:=x;unfold still rJ;cases h<;>simp
structure RI(c:Cn)(z:Prop)(p s:Ms)(lim:Nat)(n r:Int)(i:Nat)(e0 e:Int):Prop where
 all:All c s
 reach:Reach c p s
 Cg:z->uP c p s
 n0:0<=n
 nP:n+yj c s<=lim
 r0:0<=r
 rP:r+G7 c s<=3*c.W
 iP:i+yj c s<=lim
 eP:e+4*yj c s<=e0+4*lim
structure RT(c:Cn)(z:Prop)(p s m:Ms)(lim:Nat)(n r:Int):Prop where
 all:All c m
 reach:Reach c p m
 Cg:z->uP c p m
 n0: -1<=n
 nP:n+1+yj c m<=lim
 r0:0<=r
 rP:r+G7 c m<=3*c.W
 less:yj c m+1<=yj c s
def oM(c:Cn):Nat:=10000*c.W*(c.S+c.W)
def aaT{z:Prop}(A:All c s)(W:1<=c.W/\c.W<=4)(S:1<=c.S/\c.S<=5):RI c z s s (oM c) 0 0 0 e e:=by
 have h:=Yj A.inv A.nd W.1 W.2 S.1 S.2;have a:=ags c s;unfold oM;exact⟨A,.refl,λ_=>.refl,jx _,by omega,jx _,by omega,by omega,by omega⟩
def Tf{z:Prop}{v i:Nat}{n r o:Int}(I:RI c z p s (oM c) n r i o e)(W:1<=c.W/\c.W<=4)(S:1<=c.S/\c.S<=5)(f:v<c.W)(l:z->∀j,j<v->¬aQ s j)(k:aQ s v):
  RT c z p s (ai c s v) (oM c) n r/\(still ((ai c s v).ws v)->RT c z p s (ai c s v) (oM c) (-1) (r+1)):=by
 obtain⟨A,P⟩:=Gu f (by omega) S.1 I.all k;obtain⟨C,x⟩:=aaP f (by omega) S.1 I.all k;have h:=Yj A.inv A.nd W.1 W.2 S.1 S.2;have a:=I.n0;have b:=I.nP;have y:=I.r0;have d:=I.rP;have z:((oM c:Nat):Int)=((10000*c.W*(c.S+c.W):Nat):Int):=rfl;refine⟨⟨A,.step I.reach f k,λq=>.step (I.Cg q) f (l q) k,by omega,by omega,y,by omega,P⟩,λB=> ?_⟩;have:=x B;exact⟨A,.step I.reach f k,λq=>.step (I.Cg q) f (l q) k,by omega,by omega,by omega,by omega,P⟩
def aeD{z:Prop}{i k:Nat}{n r h l o q:Int}(I:RI c z p s (oM c) n r i o e)(T:RT c z p s m (oM c) h l)(v:q<=e+k)(x:k<=4):RI c z p m (oM c) (h+1) l (i+1) o q:=by
 have a:=I.iP;have b:=I.eP;have d:=T.less;have f:=T.n0;exact⟨T.all,T.reach,T.Cg,by omega,T.nP,T.r0,T.rP,by omega,by omega⟩
def aaA{who:Nat}(W:1<=c.W)(h:∀j,j<c.W->¬aQ s ((who+j)%c.W)):Still c s:=by
 intro w a d;have f:who%c.W<c.W:=qn _ (by omega);have e:(who+(w+(c.W-who%c.W))%c.W)%c.W=w:=by
  rw[Nat.add_mod_mod];have:who+(w+(c.W-who%c.W))=w+c.W*(who/c.W+1):=by
   have:=Nat.div_add_mod who c.W;rw[tj,lr];omega
  rw[this,Nat.add_mul_mod_self_left,sB a]
 exact h _ (qn _ (by omega)) (by rw[e];exact d)
def ac5(v:Nat):Value:=.agg #[.int .i64 1,.int .i64 (v:Int),.int .i64 0,.int .i64 0,.bool false,.bool false,.int .i64 0,.int .i64 0,.int .i64 0,.int .i64 0,.bool false]
def vJ(v:Nat):En:=⟨1,(v:Int),0,Ask.zero,0,false⟩
def aa4{v:Nat}(h:v<c.W)(a:aQ s v):dX c s (vJ v)=(true,ai c s v):=by
 unfold dX;have k:¬(vJ v).kind=0:=by
  show¬(1:Int)=0;decide
 rw[ck k,tz (show(vJ v).kind=1 from rfl)];exact tz ⟨⟨fp v,mw.2 h⟩,a⟩
def aa3{v:Nat}(h:¬aQ s v):dX c s (vJ v)=(false,s):=by
 unfold dX;have k:¬(vJ v).kind=0:=by
  show¬(1:Int)=0;decide
 rw[ck k,tz (show(vJ v).kind=1 from rfl)];exact ck λq=>h q.2
def DU{v:Nat}(h:v<c.W):wY c (vJ v):=⟨⟨by show(0:Int)<=1;decide,by show(1:Int)<=5;decide⟩,⟨by show(-1:Int)<=(v:Int);omega,by show(v:Int)<=c.W;omega⟩,jx _⟩
def Live.aa2(H:∀v,v<c.W->fZ c.W v)(h:Live c s e D b w)(f:e<=1000000000){v:Nat}(a:v<c.W)(i:aQ s v):Calls Tryz.prog jV #[.pointer (some ⟨b,0,none⟩),ac5 v] w λr u=>r=.returned (.bool true)/\Kept D w u/\Live c (ai c s v) (e+1) D b u:=by
 refine(Live.MC H h f (vJ v) (DU a)).mono λr u d=> ?_;rw[aa4 a i]at d;exact d
def Live.Ku(H:∀v,v<c.W->fZ c.W v)(h:Live c s e D b w)(d:e<=1000000000){v:Nat}(f:v<c.W)(i:¬aQ s v):Calls Tryz.prog jV #[.pointer (some ⟨b,0,none⟩),ac5 v] w λr u=>r=.returned (.bool false)/\Kept D w u/\Live c s (e+1) D b u:=by
 refine(Live.MC H h d (vJ v) (DU f)).mono λr u a=> ?_;rw[aa3 i]at a;exact a
def Live.st(h:Live c s e D b w){v:Nat}(f:v<c.W):Calls Tryz.prog 23 #[.pointer (some ⟨b,0,none⟩),.int .i64 (v:Int)] w λr u=>r=.returned (.int .i64 (rJ (s.ws v).ph))/\Kept D w u/\Live c s e D b u:=by
 refine(Live.state h f).mono λr u a=>⟨a.1,(Kept.of_below a.2.1).mono λj d=>h.lt j d,a.2.2.mono (λj d=>.inl d) h.kt⟩
structure oP(D:Nat->Prop)(w:World)(A:Option Addr)(n:Nat):Prop where
 at_:∀k,k<n->∃(g off:Nat) (a:Int),A=some ⟨g,off,none⟩/\D g/\U8 a/\w.cell? ⟨g,off+k,none⟩=some (.int .u8 a)
def Kept.cell{X:Nat->Prop}(h:Kept X w u){g:Nat}(a:X g)(o:Nat):u.cell? ⟨g,o,none⟩=w.cell? ⟨g,o,none⟩:=cM (h.block g a)
def oP.kept{A:Option Addr}{n:Nat}(h:oP D w A n)(i:Kept D w u):oP D u A n:=⟨λk d=>by
 obtain⟨g,o,a,l,f,q,r⟩:=h.at_ k d;exact⟨g,o,a,l,f,q,(Kept.cell i f _).trans r⟩⟩
def oP.mono{f:Nat->Prop}{A:Option Addr}{n:Nat}(h:oP D w A n)(i:∀j,D j->f j):oP f w A n:=⟨λk d=>by
 obtain⟨g,o,a,l,q,r,v⟩:=h.at_ k d;exact⟨g,o,a,l,i g q,r,v⟩⟩
end
noncomputable section
open Classical Yq
variable{c:Cn} {w v:Nat} {s d f k:Ms} {m l:Mm} {i:Nat} {g:Bool} {K:Nat}
theorem amn(r:aQ s w):((ai c s w).ev=s.ev/\((ai c s w).ws w).ph≠.rest)\/∃t a,(s.ws w).ph=.ax t none a/\(ai c s w).ev=⟨true,w,(s.ws w).ask,a⟩::s.ev/\((ai c s w).ws w).ph=.rest:=by
 have bz:∀p,BzP p->p≠.rest:=λp h e=>by
  subst e;rcases h with h|⟨q,a,h⟩
  .exact h
  .cases h
 have lv:∀q,(ai c s w)=aV c w s (s.ws w) q->(ai c s w).ev=s.ev/\((ai c s w).ws w).ph≠.rest:=by
  intro q e;rw[e];refine⟨(xK _ _ _ _).1,?_⟩;cases o:q.step c w s.m;rw[QQ o];repeat' split
  all_goals (rw[ae];exact Ph.noConfusion)
 cases n:(s.ws w).ph with
 |rest=>unfold aQ at r;rw[n]at r;exact r.elim
 |pin x=>exact .inl ⟨by unfold ai;dsimp only;rw[n];cases x<;>rfl,bz _ (aj2 (by rw[n];trivial))⟩
 |work x=>exact .inl ⟨by have e:ai c s w=ak c w s (s.ws w) x:=(by unfold ai;dsimp only;rw[n]);rw[e];exact(NZ _ _ _ _).1,bz _ (aj2 (by rw[n];trivial))⟩
 |counts x=>exact .inl ⟨by unfold ai;dsimp only;rw[n];dsimp only;(repeat' split)<;>rfl,bz _ (aj2 (by rw[n];trivial))⟩
 |enters x=>exact .inl ⟨by unfold ai;dsimp only;rw[n];dsimp only;(repeat' split)<;>rfl,bz _ (aj2 (by rw[n];trivial))⟩
 |wakes x=>exact .inl ⟨by have e:ai c s w=dh w s (s.ws w) x:=(by unfold ai;dsimp only;rw[n]);rw[e];exact(zP _ _ _ _).1,bz _ (aj2 (by rw[n];trivial))⟩
 |leaves q=>exact .inl (lv q (by unfold ai;dsimp only;rw[n]))
 |parked b=>
  left;by_cases u:s.m.gr w≠0
  .have e:ai c s w=(s.mem s.m).put w ((s.ws w).to (.wakes (some (s.m.gr w)))):=by unfold ai;dsimp only;rw[n];rw[tz u];rfl
   rw[e];exact⟨rfl,by rw[ae];exact Ph.noConfusion⟩
  .exact lv Qu.leave (by unfold ai;dsimp only;rw[n];rw[ck u])
 |ax t p a=>
  cases o:t.step c w s.m with
  |mk z l=>
   have e:=ui n o;by_cases y:z.st=.done
   .rw[tz y]at e
    rw[e];cases p with
    |none=>exact .inr ⟨t,a,rfl,rfl,tI Wr.ph (ae _ _ _)⟩
    |some b=>exact .inl ⟨rfl,by show(((s.mem l).put w ((s.ws w).to (.parked b))).ws w).ph≠_;rw[ae];exact Ph.noConfusion⟩
   .rw[ck y]at e
    rw[e];exact .inl ⟨rfl,by rw[ae];exact Ph.noConfusion⟩
def ann(A:All c s)(h:c.W<=14)(S:1<=c.S)(r:Reach c s d):All c d/\d.ev.length+G7 c d<=s.ev.length+G7 c s:=by
 induction r with
 |refl=>grind
 |step r a b e=>
  grind [still,Gu,aaP,amn,List.length_cons]
end
noncomputable section
open Classical Yq
variable{c:Cn} {w:Nat} {s b f:Ms} {m o:Mm} {i:Nat} {g:Bool} {K:Nat} {z:Prop}
def an6{t:Td}(l:∀v,0<=m.gr v):(t.step c w m).2.cl=m.cl/\∀v,0<=(t.step c w m).2.gr v:=by
 have n:=λd own o h=> @ac3 m o t d own h;have A:=(@Ps m t.rt);obtain⟨B,p,q,u,look,j,x,a,e,r⟩:=t;cases B with
 |grant=>
  refine⟨rfl,λv=> ?_⟩;show 0<=upd m.gr e (j+1) v;grind [upd]
 |go=>
  unfold Td.step;dsimp only;have C:=A.cl;have D:=A.gr;split<;>exact⟨C,λv=>by show 0<=(Rt.step m r).2.gr v;rw[D];exact l v⟩
 |clear=>
  show((Td.swap m ⟨.clear,p,q,u,look,j,x,a,e,r⟩ 12 w).getD m).cl=m.cl/\∀v,0<=((Td.swap m ⟨.clear,p,q,u,look,j,x,a,e,r⟩ 12 w).getD m).gr v;cases h:Td.swap m ⟨.clear,p,q,u,look,j,x,a,e,r⟩ 12 w with
  |none=>exact⟨rfl,l⟩
  |some y=>
   have k:=n _ _ _ h;exact⟨k.cl,λv=>by show 0<=y.gr v;rw[k.gr];exact l v⟩
 |keep=>
  unfold Td.step;dsimp only;split
  .rename_i y h
   have k:=n _ _ _ h;exact⟨k.cl,λv=>by rw[k.gr];exact l v⟩
  .exact⟨rfl,l⟩
 |dR=>
  unfold Td.step;dsimp only;split
  .rename_i y h
   have k:=n _ _ _ h;exact⟨k.cl,λv=>by rw[k.gr];exact l v⟩
  .exact⟨rfl,l⟩
 |_=>
  unfold Td.step;dsimp only;repeat' split
  all_goals exact⟨rfl,l⟩
def al7{t}(h:t.st=.check\/t.st=.bM\/t.st=.grant\/t.st=.eG)(a:m.cl=0)(G:GsW w (.work (.get t)))(d:w<=15):
  ((t.step w c.S m g).1.st=.done->(t.step w c.S m g).1.e=0\/(t.step w c.S m g).1.e=6)/\((t.step w c.S m g).1.st≠.done->(t.step w c.S m g).1.st=.check\/(t.step w c.S m g).1.st=.bM\/(t.step w c.S m g).1.st=.grant\/(t.step w c.S m g).1.st=.eG):=by
 obtain⟨u,look,j,v,k,x,y,e⟩:=t;rcases h with h|h|h|h
 .subst h
  unfold Tk.step;rw[tz a];exact⟨λ_=>.inl rfl,λh=>tA rfl h⟩
 .subst h
  unfold Tk.step;dsimp only;split
  .cases g
   .exact⟨λ_=>.inr rfl,λh=>tA rfl h⟩
   .exact⟨λh=>(by cases h),λ_=>.inl rfl⟩
  .exact⟨λ_=>.inr rfl,λh=>tA rfl h⟩
 .subst h
  exact⟨λh=>(by cases h),λ_=>.inr (.inr (.inr rfl))⟩
 .subst h
  obtain⟨l,p,q⟩:=G rfl;obtain⟨n,r⟩:=ahd l p q d;unfold Tk.step;rw[r];dsimp only;split
  .refine⟨fun h=> ?_,fun _=> ?_⟩
   .split at h<;>cases h
   .split
    .exact .inl rfl
    .exact .inr (.inl rfl)
  .exact⟨λh=>(by cases h),λ_=>.inr (.inr (.inl rfl))⟩
def apy{t}(h:(s.ws w).ph=.work (.get t)):(ai c s w).ws w=if(t.step w c.S s.m (decide (t.st=.bM)&&s.next.1)).1.st=.done then(if(t.step w c.S s.m (decide (t.st=.bM)&&s.next.1)).1.e=3 then(if(s.ws w).ask.wait then(s.ws w).to (.enters Qu.enter)else(s.ws w).to (.counts Tw.new))else if(t.step w c.S s.m (decide (t.st=.bM)&&s.next.1)).1.e=0 then(s.ws w).end_ ⟨0,(t.step w c.S s.m (decide (t.st=.bM)&&s.next.1)).1.i,(t.step w c.S s.m (decide (t.st=.bM)&&s.next.1)).1.gen,0,0,0,0,0⟩else(s.ws w).end_ (.err (t.step w c.S s.m (decide (t.st=.bM)&&s.next.1)).1.e))else(s.ws w).to (.work (.get (t.step w c.S s.m (decide (t.st=.bM)&&s.next.1)).1)):=by
 grind [ai,ak,ae]
theorem aj6:∀(l r:List Nat),l.Nodup->(∀x,x∈l->x∈r)->l.length<=r.length
 |[],_,_,_=>tE _
 |a::l,r,h,p=>by
  have d:=tP.1 h;have k:=aj6 l (r.erase a) d.2 λx n=>(List.mem_erase_of_ne λ(e:x=a)=>d.1 (e▸n)).2 (p x (da _ n));grind
def al2(c:Cn)(s:Ms):Prop:=∀i,i<c.S->¬((s.m.sl i).st=2/\(s.m.sl i).brk=true)
end
noncomputable section
open Go.RowKit Go.bn Go.Sx Yq
attribute [local go_sem ↓] Go.wp_at_zero Go.wp_at_succ
def three(p:Int):p=0\/p=6\/(p≠0/\p≠6):=by omega
def ek(e:Int)(k:Nat):e+((k+1:Nat):Int)=e+k+1:=by omega
def ajg{c:Cn}(h:1<=c.W/\c.W<=4)(S:1<=c.S/\c.S<=5):wrap64 (10000*(c.W:Int))=10000*(c.W:Int)/\wrap64 ((c.S:Int)+(c.W:Int))=(c.S:Int)+(c.W:Int)/\wrap64 (10000*(c.W:Int)*((c.S:Int)+(c.W:Int)))=((oM c:Nat):Int)/\oM c<=360000/\wrap64 (3*(c.W:Int))=3*(c.W:Int):=by
 have e:((oM c:Nat):Int)=10000*(c.W:Int)*((c.S:Int)+(c.W:Int)):=by unfold oM;rw[rk,rk,mB];rfl
 have l:oM c<=360000:=by
  unfold oM;have:=rK (j7 10000 h.2) (tr S.2 h.2);omega
 refine⟨ga _ (by omega),ga _ (by omega),?_,l,ga _ (by omega)⟩;rw[<-e];exact ga _ (by omega)
set_option maxHeartbeats 4000000 in
def EB{c:Cn}{s:Ms}{e:Int}{D:Nat->Prop}{b:Nat}(H:∀v,v<c.W->fZ c.W v)(uF:c.W<=4)(fh:c.S<=5){A:Option Addr}{n cap:Nat}(hn:n<=20)(w:World)(hA:All c s)(G:Live c s e D b w)(he:e<=900000000)(hO:oP D w A n):
  Calls Tryz.prog 19 #[.pointer (some ⟨b,0,none⟩),.agg (dI c).toArray,.slice A n cap] w λr l=>r=.returned (.bool true)/\Kept D w l/\∃d f,All c d/\Still c d/\Reach c s d/\(n=0->uP c s d)/\Live c d f D b l/\f<=e+2000000:=by
 have hW:1<=c.W/\c.W<=4:=⟨G.good.W.1,uF⟩;have hS:1<=c.S/\c.S<=5:=⟨G.good.S.1,fh⟩;obtain⟨m1,m2,m3,m4,m5⟩:=ajg hW hS;have R0:=aaT (z:=n=0) (e:=e) hA hW hS;generalize K:oM c=m at m3 m4 R0;have S:=Lib.hid K;clear K;have l1:=Live.below G ((Below.refl _ w).alloc (aq _) (.cells (dI c).toArray 30));have bv:oP D (w.alloc (.cells (dI c).toArray 30)) A n:=hO.kept (Kept.of_below ((Below.refl _ w).alloc (aq _) _) |>.mono λj B=>G.lt j B);have vD:(w.alloc (.cells (dI c).toArray 30)).heap[w.heap.size]?=some (.cells (dI c).toArray 30 (0,0)):=by
  simp[qU,cQ]
 have U:Kept D w (w.alloc (.cells (dI c).toArray 30)):=(Kept.of_below ((Below.refl _ w).alloc (aq _) _) |>.mono λj B=>G.lt j B);obtain⟨o,V,ca,X⟩:∃o,o=more D w (w.alloc (.cells (dI c).toArray 30))/\o w.heap.size/\∀j,D j->o j:=⟨_,rfl,.inr ⟨aq _,by simp⟩,λj B=>.inl B⟩;rw[<-V]at l1;have Y:=bv.mono X;have cb:=G.kt;obtain⟨W1,Z⟩:∃W1,W1=w.alloc (.cells (dI c).toArray 30):=⟨_,rfl⟩;rw[<-Z]at l1 vD Y U;have N:=Lib.hid (And.intro vD (And.intro Y (And.intro X (And.intro U cb))));have HW:=Lib.hid (And.intro V Z);have fi:=Lib.hid l1;clear Z hO bv Y G vD V X U cb l1;go_enter Tryz.func19,Tryz.ntmps19
 go_upto_region 1 with(fail)
 refine jY λZR O=> ?_;obtain rfl:ZR=W1:=by rw[HW.out.2,O]
 clear O;have z0:ZR.cell? ⟨w.heap.size,0,none⟩=some (.int .i64 (c.W:Int)):=by rw[cell_of N.out.1];rfl
 have z1:ZR.cell? ⟨w.heap.size,1,none⟩=some (.int .i64 (c.S:Int)):=by rw[cell_of N.out.1];rfl
 go_cut [7]from 16 to 24 (λv l=>v=.int .i64 (m:Int)/\l=ZR)
 case first=>
  go_wp2
  all_goals go_meet
  exact⟨by rw[m3],rfl⟩
 case rest=>
 obtain⟨fl,ce⟩:=hcut;subst fl;rw[ce];clear ce m1 m2 m3 z0 z1;obtain⟨W,ac⟩:∃W:Int,W=(c.W:Int):=⟨_,rfl⟩;rw[<-ac]at m5;have Uq:=Lib.hid ac;have i9:1<=W:=by omega
 have ie:W<=4:=by omega
 clear ac;go_wp2
 go_loopw [8,9,10] (fun v8 v9 am wr=>∃(nn r:Int) (i:Nat) (d:Ms) (f:Int),v8=.int .i64 nn/\v9=.int .i64 r/\am=.int .i64 (i:Int)/\RI c (n=0) s d m nn r i e f/\Kept o ZR wr/\Live c d f o b wr)
  (λ_ _ am _=>m+1-(intOf am).toNat)
 case atStart=>exact⟨0,0,0,s,e,rfl,rfl,rfl,R0,Kept.refl _ _,fi.out⟩
 case round=>
  obtain⟨nn,r,i,d,f,rfl,rfl,rfl,R,hk,G⟩:=hrel;refine jY λWo fv=> ?_;subst fv;have n1:nn<=(m:Int):=by have:=R.nP;omega
  have n0:=R.n0;have r1:r<=3*W:=by have:=R.rP;have:=Uq.out;omega
  have r0:=R.r0;have i1:i<=m:=by have:=R.iP;omega
  have e2:∀k:Nat,k<=c.W->f+k<=1000000000:=λk hk=>by have:=R.eP;omega
  have Br:Wo.heap[w.heap.size]?=some (.cells (dI c).toArray 30 (0,0)):=by rw[hk.block _ ca];exact N.out.1
  have c0:Wo.cell? ⟨w.heap.size,0,none⟩=some (.int .i64 W):=by rw[cell_of Br,Uq.out];rfl
  have co:=N.out.2.1.kept hk;have HO:=Lib.hid co;have HC:=Lib.hid Br;clear co Br;go_upto_if 39 with(fail)
  go_cut [11]from 40 to 47 (λv l=>∃E:Int,(0<=E/\E<=255)/\(n=0->E=0)/\v=.int .i64 E/\l=Wo)
  case first=>
   by_cases d5:0<n
   .obtain⟨q,hq⟩:∃q,q=i%n:=⟨_,rfl⟩
    have gt:q<n:=by rw[hq];exact qn _ d5
    have ii:(i:Int)%(n:Int)=(q:Int):=by rw[hq];exact(Int.natCast_emod ..).symm
    obtain⟨g,im,a,rfl,hg,⟨a0,a1⟩,ha⟩:=HO.out.at_ q gt;have io:(q:Int)<(n:Int):=by omega
    have Hq:=Lib.hid hq;clear hq;go_wp2
    all_goals go_meet
    exact⟨a,⟨a0,a1⟩,λq=>tA q (Nat.pos_iff_ne_zero.1 d5),rfl,rfl⟩
   .obtain rfl:n=0:=by omega
    go_wp2
    all_goals go_meet
    exact⟨0,by decide,λ_=>rfl,rfl,rfl⟩
  case rest=>
   obtain⟨E,⟨gv,ip⟩,d6,hv,d7⟩:=hcut;obtain⟨C,Q⟩:∃C:Nat,E=(C:Int):=⟨E.toNat,(j8 gv).symm⟩;have HI:=Lib.hid Q;have d8:n=0->C=0:=λq=>by have:=d6 q;omega
   have HZ:=Lib.hid d8;clear Q d6 d8;subst hv;rw[d7];clear d7;go_wp2
   go_loopw [8,9,12,13] (fun v8 v9 d9 ao E=>∃k:Nat,k<=c.W/\ao=.int .i64 (k:Int)/\Kept o Wo E/\((v8=.int .i64 nn/\v9=.int .i64 r/\d9=.bool false/\(∀j,j<k->¬aQ d ((C+j)%c.W))/\Live c d (f+k) o b E)\/(d9=.bool true/\∃(n2 r2:Int) (s2:Ms),v8=.int .i64 n2/\v9=.int .i64 r2/\RT c (n=0) s d s2 m n2 r2/\Live c s2 (f+k) o b E)))
    (λ_ _ _ ao _=>c.W-(intOf ao).toNat)
   case atStart=>exact⟨0,tE _,rfl,Kept.refl _ _,.inl ⟨rfl,rfl,rfl,λj B=>tA B (mz _),by simpa using G⟩⟩
   case round=>
    obtain⟨k,ar,rfl,u,i4⟩:=hrel;have bi:wr.heap[w.heap.size]?=some (.cells (dI c).toArray 30 (0,0)):=by rw[u.block _ ca];exact HC.out
    have ci:wr.cell? ⟨w.heap.size,0,none⟩=some (.int .i64 W):=by rw[cell_of bi,Uq.out];rfl
    have iu:=Lib.hid bi;clear bi c0;rcases i4 with⟨rfl,rfl,rfl,I,L⟩|⟨rfl,n2,r2,s2,rfl,rfl,T,L⟩
    .by_cases h:k<c.W
     .obtain⟨v,hv⟩:∃v,v=(C+k)%c.W:=⟨_,rfl⟩
      have y:v<c.W:=by rw[hv];exact qn _ (by omega)
      have dd:(E+(k:Int))%W=(v:Int):=by rw[HI.out,Uq.out,hv,Int.natCast_emod,mB]
      have i5:(k:Int)<W:=by rw[Uq.out];exact mw.2 h
      go_upto_region 14 with(fail)
      go_cut [14]from 48 to 81 (λv' l=>v'=.int .i64 (v:Int)/\l=wr)
      case first=>
       go_wp2
       all_goals go_meet
       exact⟨by rw[dd],rfl⟩
      case rest=>
      obtain⟨i6,de⟩:=hcut;subst i6;rw[de];clear de dd;have HN:=Lib.hid (And.intro I hv);clear I hv;have dp:n=0->∀j,j<v->¬aQ d j:=λq j B=>by
       have dt:=HZ.out q;have dv:=HN.out.2;rw[dt,cg,sB h]at dv;have h3:=HN.out.1 j (by rw[<-dv];exact B);rw[dt,cg,sB (gk B y)]at h3;exact h3
      have dT:=Lib.hid dp;clear dp;by_cases F:aQ d v
      .have P:=L.aa2 H (e2 k ar) y F
       obtain⟨p,hp⟩:∃p,p=rJ ((ai c d v).ws v).ph:=⟨_,rfl⟩;have HP:=Lib.hid hp;have SS:∀J,Live c (ai c d v) (f+k+1) o b J->Calls Tryz.prog 23 #[.pointer (some ⟨b,0,none⟩),.int .i64 (v:Int)] J λr l=>r=.returned (.int .i64 p)/\Kept o J l/\Live c (ai c d v) (f+k+1) o b l:=λJ h5=>by rw[hp];exact h5.st y
       clear hp
       go_upto_region 17 with(first
        |(go_at_call 18;refine P.mono ?_;rintro e5 w5 ⟨rfl,k5,L5⟩;have S5:=SS _ L5)
        |(go_at_call 23;refine S5.mono ?_;rintro e6 w6 ⟨rfl,k6,L6⟩))
       go_cut [79]from 48 to 81 (λv l=>l=w6/\∃x:Bool,v=.bool x/\(x=true↔(p=0\/p=6)))
       case first=>
        have h3:=three p;rcases h3 with rfl|rfl|⟨p0,p6⟩
        .go_wp2
         all_goals go_meet
         exact⟨rfl,_,rfl,by simp⟩
        .go_wp2
         all_goals go_meet
         exact⟨rfl,_,rfl,by simp⟩
        .go_wp2
         all_goals go_meet
         exact⟨rfl,_,rfl,by simp[p0,p6]⟩
       case rest=>
        obtain⟨eh,x,hx,i7⟩:=hcut;subst hx;rw[eh];clear eh;cases x with
        |true=>
         have i8:=i7.1 rfl;go_wp2;go_roundw
         case rel=>
          have T:=(Tf (by rw[S.out];exact R) hW hS y dT.out F).2 ((aa6 _).1 (by rw[<-HP.out];exact i8));rw[S.out]at T;exact⟨k+1,h,by go_num,(u.trans k5).trans k6,.inr ⟨rfl,_,_,_,rfl,rfl,T,by rw[ek];exact L6⟩⟩
         case measure=>simp[intOf];omega
        |false=>
         go_wp2;go_roundw
         case rel=>
          have T:=(Tf (by rw[S.out];exact R) hW hS y dT.out F).1;rw[S.out]at T;exact⟨k+1,h,by go_num,(u.trans k5).trans k6,.inr ⟨rfl,_,_,_,rfl,rfl,T,by rw[ek];exact L6⟩⟩
         case measure=>simp[intOf];omega
      .have P:=L.Ku H (e2 k ar) y F
       have SS:∀J,Live c d (f+k+1) o b J->Calls Tryz.prog 23 #[.pointer (some ⟨b,0,none⟩),.int .i64 (v:Int)] J λr l=>r=.returned (.int .i64 (rJ (d.ws v).ph))/\Kept o J l/\Live c d (f+k+1) o b l:=λJ h5=>h5.st y
       go_wp2_with (first
        |(go_at_call 18;refine P.mono ?_;rintro e5 w5 ⟨rfl,k5,L5⟩;have S5:=SS _ L5)
        |(go_at_call 23;refine S5.mono ?_;rintro e6 w6 ⟨rfl,k6,L6⟩))
       go_roundw
       case rel=>
        refine⟨k+1,h,by go_num,(u.trans k5).trans k6,.inl ⟨rfl,rfl,rfl,λj B=> ?_,by rw[ek];exact L6⟩⟩;rcases Nat.lt_succ_iff_lt_or_eq.1 B with q|q
        .exact HN.out.1 j q
        .rw[q, <-HN.out.2];exact F
       case measure=>simp[intOf];omega
     .have bm:k=c.W:=Nat.le_antisymm ar (pL h)
      have i5:¬((k:Int)<W):=by rw[Uq.out,bm];exact Int.lt_irrefl _
      have HN:=Lib.hid (And.intro I bm);clear I bm h;go_wp2;refine cC (v:=.bool true) (by simp[results,Tryz.f19,go_sem]) rfl ?_;refine⟨rfl,N.out.2.2.2.1.trans ((hk.trans u).mono N.out.2.2.1),d,R.all,aaA (who:=C) hW.1 (λj B=>HN.out.1 j (by rw[HN.out.2];exact B)),R.reach,R.Cg,f+k,L.mono N.out.2.2.1 N.out.2.2.2.2,?_⟩;have:=R.eP;have:=hW.2;omega
    .have t0:=T.n0
     have t1:n2<=360000:=by have:=T.nP;omega
     have RN:RI c (n=0) s s2 m (n2+1) r2 (i+1) e (f+k):=by
      have:=aeD (by rw[S.out];exact R) (by rw[S.out];exact T) (jx (f+k)) (by omega:k<=4);rw[S.out]at this;exact this
     have RN:=Lib.hid RN;by_cases h:(k:Int)<W
     .go_wp2
      exact⟨⟨n2+1,r2,i+1,s2,f+k,rfl,rfl,by go_num,RN.out,hk.trans u,L⟩,by simp[intOf];omega⟩
     .go_wp2
      exact⟨⟨n2+1,r2,i+1,s2,f+k,rfl,rfl,by go_num,RN.out,hk.trans u,L⟩,by simp[intOf];omega⟩
def UM{c:Cn}(h:1<=c.W/\c.W<=4)(S:1<=c.S/\c.S<=5){i:Int}(a:0<=i/\i<c.S)(w:World):Calls Tryz.prog 25 #[.agg (dI c).toArray,.int .i64 i] w λr b=>r=.returned (.int .i64 (3+(c.W:Int)+(c.W:Int)+i))/\Below w.heap.size w b:=by
 obtain⟨i0,d⟩:=a;obtain⟨W,e⟩:=h;obtain⟨f,k⟩:=S;go_enter Tryz.func25,Tryz.ntmps25
 go_wp2;go_ret;exact⟨rfl,(Below.refl _ _).alloc (aq _) _⟩
def Sr{c:Cn}(a:1<=c.W/\c.W<=4)(S:1<=c.S/\c.S<=5)(w:World):Calls Tryz.prog 28 #[.agg (dI c).toArray] w λr b=>r=.returned (.int .i64 (nC c:Int))/\Below w.heap.size w b:=by
 have s:=λW=>UM a S (i:=(c.S:Int)-1) ⟨by omega,by omega⟩ W;obtain⟨d,f⟩:=a;obtain⟨k,l⟩:=S;go_enter Tryz.func28,Tryz.ntmps28
 go_wp2_with (go_at_call 25;refine(s _).mono ?_;rintro e m ⟨rfl,h⟩)
 go_ret;refine⟨?_,((Below.refl _ w).alloc (aq _) _).trans (h.mono (by simp))⟩;have e:3+(c.W:Int)+(c.W:Int)+((c.S:Int)-1)+1=(nC c:Int):=by unfold nC;omega
 rw[<-e];rfl
structure aid(n n':Nat)(r:Ending):Prop where
 is:∃x:Bool,r=.returned (.bool x)/\(x=true->n<=200/\n'<=20)
def afz{A d:Option Addr}{n a b c:Nat}(w:World):Calls Tryz.prog 8 #[.slice A n b,.slice d a c] w λr e=>aid n a r/\Below w.heap.size w e:=by
 go_enter Tryz.func8,Tryz.ntmps8
 by_cases f:(n:Int)<=200
 .by_cases i:(a:Int)<=20
  .go_wp2
   go_ret;exact⟨⟨_,rfl,λ_=>⟨by omega,by omega⟩⟩,Below.refl _ _⟩
  .go_wp2
   refine cC (v:=.bool false) (by simp[results,Tryz.f8,go_sem]) rfl ?_;exact⟨⟨false,rfl,λh=>tA h (by decide)⟩,Below.refl _ _⟩
 .go_wp2
  refine cC (v:=.bool false) (by simp[results,Tryz.f8,go_sem]) rfl ?_;exact⟨⟨false,rfl,λh=>tA h (by decide)⟩,Below.refl _ _⟩
def Live.wds{c:Cn}{s:Ms}{e:Int}{D:Nat->Prop}{b:Nat}{w:World}(h:Live c s e D b w):Calls Tryz.prog 11 #[.pointer (some ⟨b,0,none⟩)] w λr d=>∃g a,r=.returned (.slice (some ⟨g,0,none⟩) (nC c) a)/\w.heap.size<=g/\g<d.heap.size/\(∀k x,(aC c s.m)[k]?=some x->d.cell? ⟨g,k,none⟩=some (.int .i64 x))/\Below w.heap.size w d/\Live c s e D b d:=by
 refine(Live.words h).mono λr d p=> ?_;obtain⟨A,rfl,⟨C,o⟩,q,l⟩:=p;have L:Live c s e D b d:=l.mono (λj u=>.inl u) h.kt;rcases o with o|⟨g,a,v,rfl,B,f,E,i,y,z⟩
 .have:=o.2
  unfold nC at this;omega
 .refine⟨g,a,rfl,B,(bk.1 f).1,fun k x m=> ?_,q,L⟩
  have F:k<((aC c s.m).map (Value.int .i64 ·)).length:=by rw[iz];exact(aE.1 m).1
  have n:((aC c s.m).map (Value.int .i64 ·))[k]?=some (.int .i64 x):=by rw[cG,m];rfl
  rw[<-z,fy (by omega)]at n;rw[cell_of f];simpa using n
def Live.touch{c:Cn}{s:Ms}{e:Int}{D i:Nat->Prop}{b:Nat}{w l:World}(h:Live c s e D b w)(m:∀j,i j->D j)(d:∀k,KT k->i k)(a:Kept (λj=>i j\/¬D j) w l):Live c s e i b l:=by
 obtain⟨A,F,M,n⟩:=h.oL;refine⟨h.good,lg _ _ _ (λk a=>.inl (d k a)) h.tt a,λj f=>ba (h.lt j (m j f)) a.size,d,A,F,M.st a.size λj f=>a.block j (.inr λq=>n j q f),λj f o=>n j (m j f) o⟩
def Lr(c:Cn)(D:Nat->Prop)(b:Nat)(w:World):Prop:=∃s e,All c s/\Wg c 400000 s/\Still c s/\Live c s e D b w/\e<=3000000/\s.ev.length<=300
def oP.of_below{D:Nat->Prop}{w a:World}{A:Option Addr}{n k:Nat}(h:oP D w A n)(b:∀j,D j->j<k)(c:Below k w a):oP D a A n:=h.kept ((Kept.of_below c).mono b)
set_option maxHeartbeats 4000000 in
def aaV{a1 a2 a3 a4 a5:Int}(h1:U8 a1)(h2:U8 a2)(h3:U8 a3)(h4:U8 a4)(h5:U8 a5){c:Cn}(hc:c=Jy a1 a2 a3 a4 a5)(H:∀v,v<c.W->fZ c.W v){A A':Option Addr}{n cap n' cap':Nat}(hn:n<=200)(am:n'<=20)(w:World)(hT:TT w)(hA:Dq w A n)(hO:oP (· <w.heap.size) w A' n'):
  Calls Tryz.prog 9 #[.agg #[.int .u8 a1,.int .u8 a2,.int .u8 a3,.int .u8 a4,.int .u8 a5],.slice A n cap,.slice A' n' cap'] w λr y=>∃b,r=.returned (.tuple #[.pointer (some ⟨b,0,none⟩),.agg (dI c).toArray])/\Below w.heap.size w y/\Lr c (· <w.heap.size) b y:=by
 obtain⟨hR,uF,S⟩:=Df h1 h2 h3 h4 h5;rw[<-hc]at hR uF S
 have tu:∀W,Below w.heap.size w W->Dq W A n:=λW l=>⟨λk hk=>by
  obtain⟨g,ao,u0,u1,u2,u3,u4,u5,e,C,hu,t0,t1,t2,t3,t4,t5⟩:=hA.at_ k hk;exact⟨g,ao,u0,u1,u2,u3,u4,u5,e,ba C l.size,hu,(l.cell (p:=⟨g,_,none⟩) C).trans t0,(l.cell (p:=⟨g,_,none⟩) C).trans t1,(l.cell (p:=⟨g,_,none⟩) C).trans t2,(l.cell (p:=⟨g,_,none⟩) C).trans t3,(l.cell (p:=⟨g,_,none⟩) C).trans t4,(l.cell (p:=⟨g,_,none⟩) C).trans t5⟩⟩
 have l2:=hT.lt 2 (.inr rfl);have B:∀o f,Below w.heap.size w ((w.alloc o).alloc f):=λo f=>((Below.refl _ w).alloc (aq _) o).alloc (by simp) f;have T:∀o f,TT ((w.alloc o).alloc f):=λo f=>nG hT (B o f) l2;have hm:=λo f=>abk h1 h2 h3 h4 h5 hc H (A:=A) (n:=n) (cap:=cap) hn ((w.alloc o).alloc f) (T o f) (tu _ (B o f));have HA:=Lib.hid (And.intro hA (And.intro hO hT));have HC:=Lib.hid hc;have HB:=Lib.hid B;clear hA hc tu hO T B;go_enter Tryz.func9,Tryz.ntmps9
 go_upto_region 4 with(go_at_call 27;refine(hm _ _).mono ?_;rintro r a ⟨b,rfl,m,ar⟩)
 have bi:=m.size;simp at bi;obtain⟨s,e,⟨Qc,bm⟩,hL,he⟩:=ar;have O:s.ev.length<=200:=by
  obtain⟨k,hk,_,hl⟩:=hL.good.nx;omega
 have P:=Lib.hid (And.intro O Qc);clear O;have bv:e<=900000000:=by omega
 have l3:=Live.below hL ((Below.refl _ a).alloc (aq _) (.cells (dI c).toArray 30));have u:Below w.heap.size w (a.alloc (.cells (dI c).toArray 30)):=((HB.out _ _).trans (m.mono (by simp;omega))).trans ((Below.refl _ a).alloc (by omega) _);have vD:(a.alloc (.cells (dI c).toArray 30)).heap[a.heap.size]?=some (.cells (dI c).toArray 30 (0,0)):=by simp[qU,cQ]
 have mM:(a.alloc (.cells (dI c).toArray 30)).heap[w.heap.size+1]?=some (.cells #[.int .i64 0,.int .i64 0,.int .i64 0,.int .i64 0,.int .i64 0] 30 (0,0)):=by
  rw[b7 _ _ _ (by omega),m.block (w.heap.size+1) (by simp)];exact adm w _ _
 obtain⟨D,Q,ca,E⟩:∃D:Nat->Prop,D=more (· <((w.alloc (.cells #[.int .u8 a1,.int .u8 a2,.int .u8 a3,.int .u8 a4,.int .u8 a5] 23)).alloc (.cells #[.int .i64 0,.int .i64 0,.int .i64 0,.int .i64 0,.int .i64 0] 30)).heap.size) a (a.alloc (.cells (dI c).toArray 30))/\D a.heap.size/\∀j,j<w.heap.size+2->D j:=⟨_,rfl,.inr ⟨aq _,by simp⟩,λj z=>.inl (by simp;omega)⟩;rw[<-Q]at l3;refine jY λW2 R=> ?_;obtain⟨F,G⟩:∃F,F=a.alloc (.cells (dI c).toArray 30):=⟨_,rfl⟩;obtain rfl:W2=F:=by rw[G,R]
 rw[<-G]at l3 u vD mM;have U:oP D W2 A' n':=(HA.out.2.1.of_below (λj z=>z) u).mono λj z=>E j (by omega);have V:=EB H uF S (cap:=cap') am W2 Qc l3 bv U;obtain⟨c0,c1,c2,c3,c4⟩:=five vD;have I:=Lib.hid (And.intro u (And.intro vD (And.intro mM E)));clear u vD mM E R G Q U l3 hL hm m;go_upto_region 5 with(go_at_call 19;refine V.mono ?_;rintro r d ⟨rfl,k3,s',e',cb,ce,Y,_,L,dp⟩)
 have wM:d.heap[a.heap.size]?=some (.cells (dI c).toArray 30 (0,0)):=by rw[k3.block _ ca];exact I.out.2.1
 have co:a.heap.size<d.heap.size:=gQ wM;have Z:∀W:World,Below d.heap.size d W->W.cell? ⟨a.heap.size,0,none⟩=some (.int .i64 (c.W:Int))/\W.cell? ⟨a.heap.size,1,none⟩=some (.int .i64 (c.S:Int))/\W.cell? ⟨a.heap.size,2,none⟩=some (.int .i64 c.st)/\W.cell? ⟨a.heap.size,3,none⟩=some (.int .i64 (c.wt:Int))/\W.cell? ⟨a.heap.size,4,none⟩=some (.int .i64 c.u)/\Below d.heap.size d W:=λW x=>by
  have e:∀i,i<5->W.cell? ⟨a.heap.size,i,none⟩=(dI c)[i]?:=λi hi=>by
   rw[x.cell (p:=⟨a.heap.size,i,none⟩) co,cell_of wM];simp
  exact⟨e 0 (by omega),e 1 (by omega),e 2 (by omega),e 3 (by omega),e 4 (by omega),x⟩
 have d5:∀W:World,Below d.heap.size d W->Calls Tryz.prog 11 #[.pointer (some ⟨b,0,none⟩)] W λr y=>(∃g cap,r=.returned (.slice (some ⟨g,0,none⟩) (nC c) cap))/\Below d.heap.size d y:=λW x=>by
  have d6:Live c s' e' D b W:=(Live.below L x).mono (λj z=>.inl z) L.kt;refine d6.wds.mono λr y hh=> ?_;obtain⟨g,cap,rfl,_,_,_,l,_⟩:=hh;exact⟨⟨g,cap,rfl⟩,x.trans (l.mono x.size)⟩
 have ac:1<=c.W/\c.W<=4:=⟨L.good.W.1,uF⟩;have J:1<=c.S/\c.S<=5:=⟨L.good.S.1,S⟩;have d7:∀W:World,Below d.heap.size d W->Calls Tryz.prog 28 #[.agg (dI c).toArray] W λr y=>r=.returned (.int .i64 (nC c:Int))/\Below d.heap.size d y:=λW x=>(Sr ac J W).mono λr y hh=>⟨hh.1,x.trans (hh.2.mono x.size)⟩;have dt:=Lib.hid wM;clear c0 c1 c2 c3 c4 wM
 go_region_held3 (fun W=>W.cell? ⟨a.heap.size,0,none⟩=some (.int .i64 (c.W:Int))/\W.cell? ⟨a.heap.size,1,none⟩=some (.int .i64 (c.S:Int))/\W.cell? ⟨a.heap.size,2,none⟩=some (.int .i64 c.st)/\W.cell? ⟨a.heap.size,3,none⟩=some (.int .i64 (c.wt:Int))/\W.cell? ⟨a.heap.size,4,none⟩=some (.int .i64 c.u)/\Below d.heap.size d W)
  (first|exact Z _ (Below.refl _ _).drew|exact Z _ (Below.refl _ _)|exact Z _ N|exact Z _ YW)
  (first
   |(go_at_call 11;refine(d5 _ (by first|exact(Below.refl _ _).drew|exact N)).mono ?_;rintro r w5 ⟨⟨g5,de,rfl⟩,YW⟩)
   |(go_at_call 28;refine(d7 _ (by first|exact(Below.refl _ _).drew|exact YW)).mono ?_;rintro r w6 ⟨rfl,N⟩))
 obtain⟨c0,c1,c2,c3,c4,_⟩:=Z _ N;have d8:w.heap.size+1<d.heap.size:=by have:=k3.size;have:=gQ I.out.2.2.1;omega
 have h:w6.heap[w.heap.size+1]?=some (.cells #[.int .i64 0,.int .i64 0,.int .i64 0,.int .i64 0,.int .i64 0] 30 (0,0)):=by
  rw[N.block _ d8,k3.block _ (I.out.2.2.2 _ (by omega))];exact I.out.2.2.1
 obtain⟨r0,r1,r2,r3,r4⟩:=five h;have f0:=aW h 0;have f1:=aW h 1;have f2:=aW h 2;have f3:=aW h 3;have f4:=aW h 4;go_wp2;go_region
 all_goals go_wp2
 have hS:=heap_put (heap_put (heap_put (heap_put (heap_put h 0 (.int .i64 (c.W:Int))) 1 (.int .i64 (c.S:Int))) 2 (.int .i64 c.st)) 3 (.int .i64 (c.wt:Int))) 4 (.int .i64 c.u);have K:∀X:Nat->Prop,¬X (w.heap.size+1)->Kept X w6 (((((w6.setCell ⟨w.heap.size+1,0,none⟩ (.int .i64 (c.W:Int))).setCell ⟨w.heap.size+1,1,none⟩ (.int .i64 (c.S:Int))).setCell ⟨w.heap.size+1,2,none⟩ (.int .i64 c.st)).setCell ⟨w.heap.size+1,3,none⟩ (.int .i64 (c.wt:Int))).setCell ⟨w.heap.size+1,4,none⟩ (.int .i64 c.u)).drew:=λX hX=>(((((Kept.refl X w6).setCell (p:=⟨_,0,none⟩) hX _).setCell (p:=⟨_,1,none⟩) hX _).setCell (p:=⟨_,2,none⟩) hX _).setCell (p:=⟨_,3,none⟩) hX _).setCell (p:=⟨_,4,none⟩) hX _ |>.drew;revert hS K;generalize World.setCell _ ⟨w.heap.size+1,4,none⟩ _=W4;intro hS K;obtain⟨q0,q1,q2,q3,q4⟩:=five hS;refine cC (v:=.tuple #[.pointer (some ⟨b,0,none⟩),.agg (dI c).toArray]) ?_ rfl ?_
 .simp[results,Tryz.f9,go_sem,q0,q1,q2,q3,q4,dI]
 .have hD:∀j,j<w.heap.size->D j:=fun j z=>I.out.2.2.2 j (by omega)
  have d9:D (w.heap.size+1):=I.out.2.2.2 _ (by omega);have dd:Live c s' e' D b w6:=(Live.below L N).mono (λj z=>.inl z) L.kt;refine⟨b,rfl,(I.out.1.trans ((k3.mono hD).below.trans (N.mono (by omega)))).trans (K (· <w.heap.size) (by omega)).below,s',e',cb,an3 (amv bm ac J (by omega) Y) (by omega),ce,dd.touch hD (λk hk=>HA.out.2.2.lt k hk) (K _ λq=> ?_),by omega,by have:=(ann P.out.2 (by omega) J.1 Y).2;have:=ags c s;have:=P.out.1;omega⟩;rcases q with q|q
  .omega
  .exact q d9
end
section
instance alB (k:Nat) (o:Int) (s:aa):Decidable (fits k o s):=by
 unfold fits jg j6 VF;split<;>infer_instance
instance alI (S:Nat) (f:Fd):Decidable (f.all S):=by unfold Fd.all;infer_instance
instance ajP (a b:Int):Decidable (oC a b):=by unfold oC;infer_instance
instance alH (s:Ms) (w:Nat):Decidable (aQ s w):=by
 unfold aQ;split<;>infer_instance
def Fd.kT(S:Nat)(m:Mm)(f:Fd):Fd:=
 if f.fd.isSome\/S<=f.at_ then f else if fits f.kd f.ow (m.sl f.at_)then{f with fd:=some (m.sl f.at_)}else{f with at_:=f.at_+1}
def Tk.kT(w S:Nat)(m:Mm)(o:Bool)(t:Tk):Tk×Mm:=
 match t.st with
 | .closed=>if m.cl≠0 then(t.fin 5,m)else(t.search .own 0 w,m)
 | .own=>let f:=t.look.kT S m;let t:={t with look:=f}
  if f.fd.isSome then({t with st:=.gp},m)else if f.all S then(t.search .any 1 w,m)else(t,m)
 | .gp=>match t.swap w m t.look.at_ t.look.wd 3 with
  |some (t,m)=>({t with st:=.check},m)
  |none=>({t with look:=t.look.again,st:=.own},m)
 | .any=>let f:=t.look.kT S m;let t:={t with look:=f}
  if f.fd.isSome then({t with st:=.anyS},m)else if f.all S then(t.search .free 2 w,m)else(t,m)
 | .anyS=>match t.swap w m t.look.at_ t.look.wd 3 with
  |some (a,m)=>if t.look.wd.own=w then({a with st:=.check},m)else({a with ps:=false}.search .move 0 t.look.wd.own,m)
  |none=>({t with look:=t.look.again,st:=.any},m)
 | .move=>let f:=t.look.kT S m;let t:={t with look:=f}
  if f.fd.isSome then(if t.ps then({t with ps:=false,look:=f.go},m)else({t with ps:=true,st:=.dD},m))else if f.all S then({t with st:=.check},m)else(t,m)
 | .dD=>
  let a:={t with look:=t.look.go,st:=.move}
  match az t.look.wd 9 w 0 with
  |some n=>if m.sl t.look.at_=t.look.wd then(a,m.set t.look.at_ n)else(a,m)
  |none=>(a,m)
 | .free=>let f:=t.look.kT S m;let t:={t with look:=f}
  if f.fd.isSome then({t with st:=.dQ},m)else if f.all S then(t.fin 3,m)else(t,m)
 | .dQ=>match t.swap w m t.look.at_ t.look.wd 0 with
  |some (t,m)=>({t with st:=.bM},m)
  |none=>({t with look:=t.look.again,st:=.free},m)
 | .bM=>match t.swap w m t.i t.wd (if o then 1 else 2)with
  |some (t,m)=>if o then({t with st:=.check},m)else(t.fin 6,m)
  |none=>(t.fin 6,m)
 | .check=>if m.cl=0 then(t.fin 0,m)else({t with st:=.back},m)
 | .back=>if(m.sl t.i).st=3/\(m.sl t.i).own=w/\(m.sl t.i).gen=t.gen then({t with rt:=Rt.new t.i (m.sl t.i),st:=.go},m)else(t.fin 5,m)
 | .go=>let r:=t.rt.step m;let t:={t with rt:=r.1}
  if r.1.st=.done then(if r.1.sw then(t.fin 5,r.2)else({t with st:=.back},r.2))else(t,r.2)
 | .grant=>({t with wd:=m.sl t.i,st:=.eG},m)
 | .eG=>match az t.wd 16 w 0 with
  |none=>(t.fin 5,m)
  |some n=>if m.sl t.i=t.wd then({t with wd:=n,gen:=n.gen,st:=if n.st=3 then .check else .bM},m.set t.i n)else({t with st:=.grant},m)
 | .done=>(t,m)
def Td.G5(S:Nat)(m:Mm)(t:Td):Td:=
 let f:=t.look.kT S m
 match f.fd with
 | .some x=>{t with look:=f,i:=f.at_,wd:=x}
 | .none=>{t with look:=f}
def Td.kT(c:Cn)(w:Nat)(m:Mm)(t:Td):Td×Mm:=
 match t.st with
 | .ep=>({t with ep:=m.ep,st:=.pin},m)
 | .pin=>({t with st:=.cl},m.pin w (aR (t.ep+1)))
 | .cl=>({t with cl:=m.cl,look:=Fd.new 4 m.cl,st:=.dL},m)
 | .dL=>let t:=t.G5 c.S m
  if t.look.fd.isSome then({t with rt:=Rt.new t.i t.wd,st:=.go},m)else if t.look.all c.S then({t with look:=Fd.new 5 w,st:=.old},m)else(t,m)
 | .go=>let r:=t.rt.step m;let t:={t with rt:=r.1}
  if r.1.st=.done then({t with look:=t.look.again,st:=.dL},r.2)else(t,r.2)
 | .old=>let t:=t.G5 c.S m
  if t.look.fd.isSome then(let o:=jq w 0;({t with other:=o,st:=if o<c.W then .pins else .clear},m))else if t.look.all c.S then({t with st:=if t.cl≠0 then .eO else .line},m)else(t,m)
 | .pins=>if oC (m.pn t.other) t.wd.ep then({t with look:=t.look.go,st:=.old},m)else
   let o:=jq w (t.other+1)
   ({t with other:=o,st:=if o<c.W then .pins else .clear},m)
 | .clear=>({t with look:=t.look.go,st:=.old},(t.swap m 12 w).getD m)
 | .line=>match m.qu with
  |[]=>({t with qu:=[],st:=.eO},m)
  |a::r=>({t with qu:=a::r,head:=a,look:=Fd.new 3 w,st:=.some},m)
 | .some=>let t:=t.G5 c.S m
  if t.look.fd.isSome then({t with st:=.keep},m)else if t.look.all c.S then({t with st:=.eO},m)else(t,m)
 | .keep=>match t.swap m (if t.wd.st=2 then 5 else 7) t.head with
  | .some m=>({t with st:=.pop},m)
  | .none=>({t with look:=t.look.again,st:=.some},m)
 | .pop=>if m.qu=t.qu then({t with st:=.grant},{m with qu:=m.qu.tail})else({t with st:=.back},m)
 | .grant=>({t with st:=.line},m.nT t.head (t.i+1))
 | .back=>let t:={t with wd:=m.sl t.i}
  ({t with st:=if t.wd.st=4\/t.wd.st=5 then .dR else .line},m)
 | .dR=>match t.swap m (if t.wd.st=4 then 6 else 8) w with
  | .some m=>({t with st:=.cl},m)
  | .none=>({t with st:=.back},m)
 | .eO=>({t with st:=.again},m.pin w 0)
 | .again=>({t with st:=if m.ep=t.ep then .done else .ep},m)
 | .done=>(t,m)
def BB(c:Cn)(w:Nat)(s:Ms)(x:Wr):Wk->Ms
 | .get t=>
  let d:=t.st=.bM
  let n:=s.next
  let s:=if d then{s with wo:=n.2}else s
  let r:=t.kT w c.S s.m (decide d&&n.1)
  let s:=s.mem r.2
  if r.1.st=.done then
   (if r.1.e=3 then(if x.ask.wait then s.put w (x.to (.enters Qu.enter))else s.put w (x.to (.counts Tw.new)))
    else if r.1.e=0 then s.put w (x.end_ ⟨0,r.1.i,r.1.gen,0,0,0,0,0⟩)else s.put w (x.end_ (.err r.1.e)))
  else s.put w (x.to (.work (.get r.1)))
 | .give g=>
  let r:=g.step c w s.m
  let s:=s.mem r.2
  if r.1.st=.done then s.put w (x.end_ (.err r.1.e))else s.put w (x.to (.work (.give r.1)))
 | .bg g=>
  let r:=g.step c w s.m
  let s:=s.mem r.2
  if r.1.st=.done then s.put w (x.end_ ⟨r.1.e,0,0,if r.1.e=0 then r.1.num else 0,0,0,0,0⟩)else s.put w (x.to (.work (.bg r.1)))
 | .close none=>
  let m:=if x.ask.force then{s.m with cl:=2}else if s.m.cl=0 then{s.m with cl:=1}else s.m
  (s.mem m).put w (x.to (.work (.close (some Qu.drain))))
 | .close (some q)=>
  let r:=q.step c w s.m
  let s:=s.mem r.2
  if r.1.st=.done then s.put w (x.end_ (.err 0))else s.put w (x.to (.work (.close (some r.1))))
 | .stats t=>
  let t:=t.step c.S s.m
  if t.dn then s.put w (x.end_ ⟨0,0,0,0,Eh (t.last.getD [])⟩)else s.put w (x.to (.work (.stats t)))
 | .aS r=>
  match r.st with
  | .look=>
   let f:=r.look.kT c.S s.m
   if f.fd.isSome then s.put w (x.to (.work (.aS {r with look:=f,st:=.ask})))else if f.all c.S then s.put w (x.end_ ⟨0,r.many,0,0,0,0,0,0⟩)else s.put w (x.to (.work (.aS {r with look:=f})))
  | .ask=>
   let n:=s.next
   let s:={s with wo:=n.2}
   if n.1=true/\r.look.wd.fO=false/\r.look.wd.brk=false then s.put w (x.to (.work (.aS {r with st:=.mark})))else s.put w (x.to (.work (.aS {r with rt:=Rt.new r.look.at_ r.look.wd,st:=.dB})))
  | .mark=>
   let a:=x.to (.work (.aS {r with look:=r.look.go,st:=.look}))
   match az r.look.wd 10 w 0 with
   |some n=>if s.m.sl r.look.at_=r.look.wd then(s.mem (s.m.set r.look.at_ n)).put w a else s.put w a
   |none=>s.put w a
  | .dB=>
   let q:=r.rt.step s.m
   let s:=s.mem q.2
   if q.1.st=.done then s.put w (x.to (.work (.aS {r with rt:=q.1,many:=if q.1.sw then aR (r.many+1)else r.many,look:=r.look.go,st:=.look})))else s.put w (x.to (.work (.aS {r with rt:=q.1})))
def Gy(c:Cn)(s:Ms)(w:Nat):Ms:=
 let x:=s.ws w
 match x.ph with
 | .rest=>s
 | .pin none=>s.put w (x.to (.pin (some s.m.ep)))
 | .pin (some e)=>(s.mem (s.m.pin w (aR (e+1)))).put w (x.to (.work (bE x)))
 | .work k=>BB c w s x k
 | .counts t=>
  let t:=t.step c.S s.m
  if t.dn then(if∃y∈t.last.getD [],fits 3 w y then s.put w (x.to (.work (.get Tk.new)))else s.put w (x.end_ (.err 3)))else s.put w (x.to (.counts t))
 | .enters q=>
  let r:=q.step c w s.m
  let s:=s.mem r.2
  if r.1.st=.done then(if r.1.e=0\/r.1.e=8 then s.put w (x.to (.ax Td.new (some (decide (r.1.e=0))) (.err 0)))else s.put w (x.end_ (.err r.1.e)))else s.put w (x.to (.enters r.1))
 | .ax t p a=>
  let r:=t.kT c w s.m
  let s:=s.mem r.2
  if r.1.st=.done then(match p with
   |some b=>s.put w (x.to (.parked b))
   |none=>{s.put w (x.to .rest)with ev:=⟨true,w,x.ask,a⟩::s.ev})else s.put w (x.to (.ax r.1 p a))
 | .parked _=>if s.m.gr w≠0 then dh w s x none else aV c w s x Qu.leave
 | .wakes h=>dh w s x h
 | .leaves q=>aV c w s x q
def Gg: @Fd.step= @Fd.kT:=by
 funext S m f;unfold Fd.step Fd.kT;congr
def aam: @Tk.step= @Tk.kT:=by
 funext w S m o t;unfold Tk.step Tk.kT;rw[Gg];congr;all_goals (funext;dsimp only;repeat' split)
 all_goals rfl
def aat: @Td.fu= @Td.G5:=by
 funext S m t;unfold Td.fu Td.G5;rw[Gg];congr
def aas: @Td.step= @Td.kT:=by
 funext c w m t;unfold Td.step Td.kT;rw[aat];congr;all_goals (funext;dsimp only;repeat' split)
 all_goals rfl
def Uv: @ak= @BB:=by
 funext c w s x k;unfold ak BB;rw[Gg,aam];congr;all_goals (funext;dsimp only;repeat' split)
 all_goals first|rfl|(simp_all;done)|(subst_vars;simp_all;done)
def adL: @ai= @Gy:=by
 funext c s w;unfold ai Gy;rw[Uv,aas];congr;all_goals (funext;dsimp only;repeat' split)
 all_goals first|rfl|(simp_all;done)|(subst_vars;simp_all;done)|(simp_all;rename_i a _ b;obtain⟨y,h,d⟩:=b;exact tA d (a y h))
def NG(c:Cn)(s:Ms):Option Ms:=if aQ s 0 then some (Gy c s 0)else if aQ s 1 then some (Gy c s 1)else none
def oJ(c:Cn):Nat->Ms->Option Ms
 |0,_=>none
 |n+1,s=>match NG c s with|none=>some s|some a=>oJ c n a
def XV{c:Cn}(W:c.W=2){s e z:Ms}{n:Nat}(h:oJ c n s=some z)(r:uP c s e):∃m,oJ c m e=some z:=by
 induction r with
 |refl=>exact⟨n,h⟩
 |@step f v _ i a d k=>
  obtain⟨m,b⟩:=k;have p:NG c f=some (ai c f v):=by
   rw[adL];unfold NG;match v,i,a,d with
   |0,_,_,d=>rw[tz d]
   |1,_,a,d=>rw[ck (a 0 (by decide)),tz d]
   |v+2,i,_,_=>omega
  match m,b with
  |0,b=>cases b
  |m+1,b=>
   unfold oJ at b;rw[p]at b;exact⟨m,b⟩
def XU{c:Cn}(W:c.W=2){s b z:Ms}{n:Nat}(h:oJ c n s=some z)(r:uP c s b)(d:Still c b):b=z:=by
 obtain⟨m,a⟩:=XV W h r;match m,a with
 |0,a=>cases a
 |m+1,a=>
  unfold oJ NG at a;rw[ck (d 0 (by omega)),ck (d 1 (by omega))]at a;exact b9 a
def cA:Cn:=⟨2,1,0,1,9⟩
def xA1:En:=⟨0,0,0,⟨0,false,false,0,0,0,0⟩,0,false⟩
def Sz:En:=⟨0,1,0,⟨0,true,false,9,0,0,0⟩,0,false⟩
def Sy:En:=⟨0,0,2,⟨0,false,false,0,0,1,0⟩,0,false⟩
def U3:Ph->Bool
 | .rest=>true
 |_=>false
def X7{p:Ph}:U3 p=true↔p=.rest:=by cases p<;>simp[U3]
def Vt(s:Ms)(w:Nat):Bool:=U3 (s.ws w).ph&&Nat.blt s.ev.length 1999
def ahZ:Bool:=
 match oJ cA 400 (ko Ms.zero xA1)with
 |none=>false
 |some a=>Vt a 1&&match oJ cA 400 (ko a Sz)with
  |none=>false
  |some z=>(Vt z 0&&decide (rJ (z.ws 1).ph=6))&&match oJ cA 400 (ko z Sy)with
   |none=>false
   |some b=>decide (rJ (b.ws 1).ph=0)&&match b.ev with
    |[y,_,_,_,_,_]=>decide (y.ans.e=0)
    |_=>false
end
noncomputable section
open Go.RowKit Go.bn Go.Sx Yq
def Vq(c:Cn):fT (iM c)=nC c:=by
 unfold fT iM nC;show(3+2*(c.W:Int)+(c.S:Int)).toNat=_;omega
def VW{s:aa}(F:Facts s):Gx (bH s)/\0<=bH s:=by
 obtain⟨x,a,_⟩:=xV F;have e:=Gj F;obtain⟨_,h,b⟩:=Ee s (bH s) e;exact⟨⟨by omega,by omega⟩,h⟩
def aaK{c:Cn}{m:Mm}(h:fI (iM c)){i:Nat}(a:i<c.S)(F:Facts (m.sl i)):rH (iM c) (aC c m) i=m.sl i:=by
 have w:=h.w;have s:=h.s;unfold iM at w s;simp only at w s;have e:cellC (iM c) (i:Int)=((3+2*c.W+i:Nat):Int):=by
  unfold cellC uD iM;simp only;rw[tz (by simp;omega),fA ⟨by omega,by omega⟩];omega
 unfold rH;rw[e,cH,b8,vY a,lO,afC _ (VW F).1,AR F];rfl
def aaF(s:aa):List Value:=[.int .i64 s.st,.int .i64 s.own,.int .i64 s.str,.bool s.brk,.bool s.fO,.int .i64 s.uses,.int .i64 s.gen,.int .i64 s.ep,.int .i64 s.cz]
def Ro{c:Cn}{m:Mm}(R:fI (iM c))(L:∀i,i<c.S->Facts (m.sl i)){g b:Nat}(w:World)(T:cB w)(N:g<w.heap.size)(O:∀k x,(aC c m)[k]?=some x->w.cell? ⟨g,k,none⟩=some (.int .i64 x)):
  Calls Tryz.prog 12 #[.agg (dI c).toArray,.slice (some ⟨g,0,none⟩) (nC c) b] w λr A=>(∃B o P,r=.returned (.slice (some ⟨B,o,none⟩) c.S P)/\B<A.heap.size/\w.heap.size<=B/\∀i j u,i<c.S->(aaF (m.sl i))[j]?=some u->A.cell? ⟨B,o+(i*9+j),none⟩=some u)/\Below w.heap.size w A:=by
 have I:=R.w;have C:=R.s;unfold iM at I C;simp only at I C;have J:eB (· <w.heap.size) w:=λk Q=>Q;have q:(OE [(iM c).val,.slice (some ⟨0,0,none⟩) (nC c) b] [.ints false false (aC c m)]).get=some (iJ 1 (iM c).s.toNat,[.ints false false (aC c m),.rows true true 9 (iM c).s.toNat (rG (rH (iM c) (aC c m)))]):=by
  have k:(oQ (iM c)&&rM (nC c) (aC c m)&&Nat.beq (nC c) (fT (iM c)))=true:=by
   rw[Vq,ju,vI.2 R,qi.2 ⟨(nE c m).symm,by unfold nC;omega,by unfold nC;omega⟩];rfl
  show(M.br (oQ (iM c)&&rM (nC c) (aC c m)&&Nat.beq (nC c) (fT (iM c))) _ _).get=_;rw[k];rfl
 have U:=(Rn.2 (· <w.heap.size) w T.lt J T _ _ _ q).2;have V:HR (· <w.heap.size) w 0 (λk=>if k=0 then some ⟨g,0,1,0⟩else none) [.ints false false (aC c m)] w:=by
  have n:∀k p,(if k=0 then some (⟨g,0,1,0⟩:Pl)else none)=some p->k=0/\p=⟨g,0,1,0⟩:=λk p h=>by
   by_cases E:k=0
   .rw[tz E]at h;exact⟨E,(b9 h).symm⟩
   .rw[ck E]at h;cases h
  refine⟨J,Kept.refl _ _,iB.no λk p h=> ?_,λk p h=> ?_,λk p h=> ?_,λk k' p p' h h' v _ _=> ?_,λk p h=> ?_⟩
  .obtain⟨rfl,_⟩:=n k p h;exact .inr rfl
  .obtain⟨rfl,_⟩:=n k p h;exact Nat.zero_lt_one
  .obtain⟨rfl,rfl⟩:=n k p h;exact N
  .obtain⟨rfl,_⟩:=n k p h;cases v
  .obtain⟨rfl,rfl⟩:=n k p h
   exact⟨λv=>(by cases v),rfl,λi x d=>by rw[cg];exact O i x d⟩
 refine(U _ w #[.agg (dI c).toArray,.slice (some ⟨g,0,none⟩) (nC c) b] V ⟨rfl,λi x y d D=> ?_⟩).mono λr A W=> ?_
 .match i with
  |0=>simp at d D;subst d D;exact VR.plain _ (by simp[Go.Sx.plain,Go.Sx.aN,QG])
  |1=>simp at d D;subst d D;exact VR.slice (p:=⟨g,0,1,0⟩) (off:=0) rfl
  |i+2=>simp at d
 .obtain⟨X,rfl,σ',_,Y,f⟩:=W
  obtain⟨p,K,_,rfl⟩:=VR.yL Y;have Z:=f.blk 1 p K;obtain⟨v,ac,l⟩:=Z;have S:(iM c).s.toNat=c.S:=by show((c.S:Int)).toNat=c.S;omega
  refine⟨⟨p.b,p.o,p.cap,by rw[S],f.lt 1 p K,pL (v rfl).1,λi j u F a=> ?_⟩,f.below.below⟩;have G:j<9:=(aE.1 a).1;obtain⟨X,H,z⟩:=l i j (by rw[S];exact F) G;rw[H];have e:∀s:aa,s=rH (iM c) (aC c m) i->(((rG (rH (iM c) (aC c m))).at i j).val)=(aaF s).getD j undef:=by
   intro s C;subst C;match j,G with
   |0,_|1,_|2,_|3,_|4,_|5,_|6,_|7,_|8,_=>rfl
  rw[e _ (aaK R F (L i F)).symm,b8,a,lO]at z;have p1:aN u=true:=by
   match j,G,a with
   |0,_,a|1,_,a|2,_,a|3,_,a|4,_,a|5,_,a|6,_,a|7,_,a|8,_,a=>cases a;rfl
  rw[z.aD p1]
end
noncomputable section
open Go.RowKit Go.bn Go.Sx Yq
attribute [local go_sem ↓] Go.wp_at_zero Go.wp_at_succ
def ahY:ahZ=true:=by kernel_rfl
def Pq{c:Cn}{z:Ms}{x:En}{w:Nat}(b:x.kind=0)(a:x.who=(w:Int))(l:w<c.W)(o:0<=x.op/\x.op<8)(h:Vt z w=true):dX c z x=(true,ko z x):=by
 unfold Vt at h;rw[bj]at h;have e:x.who.toNat=w:=by rw[a];exact cH w
 have m:Ih c z x:=⟨⟨by rw[a];omega,by rw[a];omega⟩,by rw[e];exact X7.1 h.1,by have:=ey h.2;omega,o.1,o.2⟩;unfold dX;rw[tz b,tz m]
def Sa:∃a z b,dX cA Ms.zero xA1=(true,ko Ms.zero xA1)/\oJ cA 400 (ko Ms.zero xA1)=some a/\dX cA a Sz=(true,ko a Sz)/\oJ cA 400 (ko a Sz)=some z/\rJ (z.ws 1).ph=6/\dX cA z Sy=(true,ko z Sy)/\
  oJ cA 400 (ko z Sy)=some b/\rJ (b.ws 1).ph=0/\b.ev.length=6/\∃y,b.ev[0]?=some y/\y.ans.e=0:=by
 have h:=ahY;unfold ahZ at h;cases e:oJ cA 400 (ko Ms.zero xA1)with
 |none=>rw[e]at h;cases h
 |some a=>
  rw[e]at h;simp only[bj]at h;obtain⟨m,h⟩:=h;cases c:oJ cA 400 (ko a Sz)with
  |none=>rw[c]at h;cases h
  |some z=>
   rw[c]at h;simp only[bj,tG]at h;obtain⟨⟨f,p⟩,h⟩:=h;cases d:oJ cA 400 (ko z Sy)with
   |none=>rw[d]at h;cases h
   |some b=>
    rw[d]at h;simp only[bj,tG]at h;obtain⟨i,h⟩:=h;refine⟨a,z,b,Pq (w:=0) rfl rfl (by decide) ⟨by decide,by decide⟩ rfl,rfl,Pq (w:=1) rfl rfl (by decide) ⟨by decide,by decide⟩ m,c,p,Pq (w:=0) rfl rfl (by decide) ⟨by decide,by decide⟩ f,d,i,?_⟩;split at h
    .rename_i y _ _ _ _ _ k
     rw[k];exact⟨rfl,y,rfl,ij h⟩
    .cases h
def Aw(z:Ms)(K:Int)(x b:Nat)(w W:World):Prop:=∃e,e<=K/\Live cA z e (· <w.heap.size) b W/\All cA z/\x<w.heap.size/\W.heap[x]?=some (.cells #[.int .i64 2,.int .i64 1,.int .i64 0,.int .i64 1,.int .i64 9] 30 (0,0))/\Below w.heap.size w W
variable{z d:Ms} {K:Int} {f b:Nat} {i W:World}
def Aw.cells(h:Aw z K f b i W):W.cell? ⟨f,0,none⟩=some (.int .i64 2)/\W.cell? ⟨f,1,none⟩=some (.int .i64 1)/\W.cell? ⟨f,2,none⟩=some (.int .i64 0)/\W.cell? ⟨f,3,none⟩=some (.int .i64 1)/\W.cell? ⟨f,4,none⟩=some (.int .i64 9):=by
 obtain⟨e,_,_,_,_,a,_⟩:=h;refine⟨?_,?_,?_,?_,?_⟩<;>(rw[cell_of a];rfl)
def Aw.MC(H:∀v,v<2->fZ 2 v)(h:Aw z K f b i W)(q:K<=1000000000)(x:En)(n:wY cA x)(c:dX cA z x=(true,d)):
  Calls Tryz.prog jV [.pointer (some ⟨b,0,none⟩),uZ x].toArray W λr w=>r=.returned (.bool true)/\Aw d (K+1) f b i w:=by
 obtain⟨e,s,L,A,a,o,B⟩:=h;refine(L.MC H (by omega) x n).mono λr w l=> ?_;rw[c]at l;obtain⟨rfl,k,p⟩:=l;have m:=QX A (by decide) (by decide) x;rw[c]at m;exact⟨rfl,e+1,by omega,p,m,a,(k.block f a).trans o,B.trans k.below⟩
def Aw.settled(H:∀v,v<2->fZ 2 v)(h:Aw z K f b i W)(E:K<=900000000)(a:oJ cA 400 z=some d):
  Calls Tryz.prog 19 #[.pointer (some ⟨b,0,none⟩),.agg #[.int .i64 2,.int .i64 1,.int .i64 0,.int .i64 1,.int .i64 9],.slice none 0 0] W λr w=>r=.returned (.bool true)/\Aw d (K+2000000) f b i w:=by
 obtain⟨e,F,L,A,x,l,B⟩:=h;have q:=EB (c:=cA) (A:=none) (n:=0) (cap:=0) H (by decide) (by decide) (by decide) W A L (by omega) ⟨λk m=>tA m (mz k)⟩;refine Calls.mono q λr w o=> ?_;obtain⟨rfl,k,G,p,s,u,_,y,C,D⟩:=o;obtain rfl:=XU rfl a (y rfl) u;exact⟨rfl,p,by omega,C,s,x,(k.block f x).trans l,B.trans k.below⟩
def Aw.state(h:Aw z K f b i W){n:Int}(c:rJ (z.ws 1).ph=n):Calls Tryz.prog 23 #[.pointer (some ⟨b,0,none⟩),.int .i64 1] W λr w=>r=.returned (.int .i64 n)/\Below W.heap.size W w/\Aw z K f b i w:=by
 obtain⟨e,l,L,A,x,a,B⟩:=h;refine Calls.mono (L.state (v:=1) (by decide)) λr w m=> ?_;obtain⟨rfl,k,o⟩:=m;rw[c];exact⟨rfl,k,e,l,o.mono (λj p=>.inl p) L.kt,A,x,(k.block f (gQ a)).trans a,B.trans (k.mono B.size)⟩
def Aw.events(h:Aw z K f b i W)(R:K<=1000000000)(l:z.ev.length=6)(G:∃y,z.ev[0]?=some y/\y.ans.e=0):Calls Tryz.prog 17 #[.pointer (some ⟨b,0,none⟩)] W λr w=>∃g c,r=.returned (.slice (some ⟨g,0,none⟩) 6 c)/\w.cell? ⟨g,100,none⟩=some (.int .i64 0)/\W.heap.size<=g/\g<w.heap.size/\Aw z K f b i w:=by
 obtain⟨e,H,L,A,m,v,B⟩:=h;refine(L.events (by omega)).mono λr w I=> ?_;obtain⟨S,T,rfl,J,k,N⟩:=I;have E:=K3 J;have n:z.ev≠[]:=λq=>by rw[q]at l;cases l
 obtain⟨g,c,C,_,O,o,P⟩:=E.row n;obtain⟨x,a,D,p⟩:=P 5 (by rw[l];decide);obtain⟨y,s,u⟩:=G;rw[l]at D C;obtain rfl:x=y:=b9 (D.symm.trans s);have F:=p 10 (.int .i64 x.ans.e) rfl;rw[u]at F;exact⟨g,c,by rw[C],F,O,o,e,H,N.mono (λj Q=>.inl Q) L.kt,A,m,(k.block f (gQ v)).trans v,B.trans (k.mono (by have:=B.size;omega))⟩
def aeC:fI (iM cA):=by constructor<;>decide
set_option maxHeartbeats 4000000 in
def ZO(H:∀v,v<2->fZ 2 v)(w:World)(G:TT w):Calls Tryz.prog 7 #[] w λr a=>r=.returned (.bool true)/\Below w.heap.size w a:=by
 obtain⟨z1,z2,z3,d1,r1,d2,r2,p2,d3,r3,p3,hl,hy⟩:=Sa;have l2:=G.lt 2 (.inr rfl);have T:∀o,TT (w.alloc o):=λo=>nG G ((Below.refl _ w).alloc (aq _) o) l2;have n:∀W,TT W->Calls Tryz.prog 26 #[.agg #[.int .i64 2,.int .i64 1,.int .i64 0,.int .i64 1,.int .i64 9]] W λr a=>∃b,r=.returned (.tuple #[.pointer (some ⟨b,0,none⟩),.int .i64 0])/\Below W.heap.size W a/\Live cA Ms.zero 0 (· <W.heap.size) b a:=λW hW=>PN (c:=cA) aeC (by decide) (by decide) W hW;have A:∀{z d:Ms} {K:Int} {f b:Nat} {i W:World} (h:Aw z K f b i W) (I:K<=1000000000) (x:En) (J:wY cA x) (A:dX cA z x=(true,d)),Calls Tryz.prog jV [.pointer (some ⟨b,0,none⟩),uZ x].toArray W λr a=>r=.returned (.bool true)/\Aw d (K+1) f b i a:=λh I x J A=>Aw.MC H h I x J A
 go_enter Tryz.func7,Tryz.ntmps7
 go_upto_region 2 with(fail)
 refine jY λk e=> ?_;have F:k.heap[w.heap.size]?=some (.cells #[.int .i64 2,.int .i64 1,.int .i64 0,.int .i64 1,.int .i64 9] 30 (0,0)):=by rw[e];simp[qU,cQ]
 have B:Below w.heap.size w k:=by rw[e];exact(Below.refl _ w).alloc (aq _) _
 have C:k.heap.size=w.heap.size+1:=by rw[e];simp
 have rQ:TT k:=by rw[e];exact T _
 have hN:=n k rQ;have L:=Lib.hid (And.intro B C);clear e T n B;obtain⟨l,m,q,s,u⟩:=five F;go_upto_region 3 with(go_at_call 26;refine hN.mono ?_;rintro r N ⟨b,rfl,y,O⟩)
 have P:Aw Ms.zero 0 w.heap.size b k N:=⟨0,jx 0,O,all_zero,by omega,(y.block _ (by omega)).trans F,y⟩;have A0:=Lib.hid P;clear y O l m q s u P F C;have Q:Calls Tryz.prog 18 #[.pointer (some ⟨b,0,none⟩),.agg #[.int .i64 0,.int .i64 0,.int .i64 0,.int .i64 0,.bool false,.bool false,.int .i64 0,.int .i64 0,.int .i64 0,.int .i64 0,.bool false]] N λr a=>r=.returned (.bool true)/\Aw _ (0+1) w.heap.size b k a:=A A0.out (by decide) xA1 ⟨⟨by decide,by decide⟩,⟨by decide,by decide⟩,by decide⟩ d1
 go_upto_region 6 with(go_at_call 18;refine Q.mono ?_;rintro r w3 ⟨rfl,R⟩)
 obtain⟨l,m,q,s,u⟩:=R.cells;have S:=R.settled H (by decide) r1
 go_upto_region 7 with(go_at_call 19;refine S.mono ?_;rintro r w4 ⟨rfl,a2⟩)
 clear l m q s u Q S;have U:Calls Tryz.prog 18 #[.pointer (some ⟨b,0,none⟩),.agg #[.int .i64 0,.int .i64 1,.int .i64 0,.int .i64 9,.bool true,.bool false,.int .i64 0,.int .i64 0,.int .i64 0,.int .i64 0,.bool false]] w4 λr a=>r=.returned (.bool true)/\Aw _ (0+1+2000000+1) w.heap.size b k a:=A a2 (by decide) Sz ⟨⟨by decide,by decide⟩,⟨by decide,by decide⟩,by decide⟩ d2
 go_upto_region 8 with(go_at_call 18;refine U.mono ?_;rintro r w5 ⟨rfl,V⟩)
 obtain⟨l,m,q,s,u⟩:=V.cells;have X:=V.settled H (by decide) r2
 go_upto_region 9 with(go_at_call 19;refine X.mono ?_;rintro r w6 ⟨rfl,a4⟩)
 clear l m q s u U X;have Y:=a4.state p2;go_upto_region 10 with(go_at_call 23;refine Y.mono ?_;rintro r w7 ⟨rfl,_,a5⟩)
 have Z:Calls Tryz.prog 18 #[.pointer (some ⟨b,0,none⟩),.agg #[.int .i64 0,.int .i64 0,.int .i64 2,.int .i64 0,.bool false,.bool false,.int .i64 0,.int .i64 1,.int .i64 0,.int .i64 0,.bool false]] w7 λr a=>r=.returned (.bool true)/\Aw _ (0+1+2000000+1+2000000+1) w.heap.size b k a:=A a5 (by decide) Sy ⟨⟨by decide,by decide⟩,⟨by decide,by decide⟩,by decide⟩ d3
 go_upto_region 11 with(go_at_call 18;refine Z.mono ?_;rintro r w8 ⟨rfl,a6⟩)
 obtain⟨l,m,q,s,u⟩:=a6.cells;have q7:=a6.settled H (by decide) r3
 go_upto_region 12 with(go_at_call 19;refine q7.mono ?_;rintro r w9 ⟨rfl,a7⟩)
 clear l m q s u Y Z q7;have q8:=a7.events (by decide) hl hy
 go_upto_region 13 with(go_at_call 17;refine q8.mono ?_;rintro r ac ⟨g,am,rfl,D,_,hg,a8⟩)
 have q9:=a8.state p3;go_wp2_with (go_at_call 23;refine q9.mono ?_;rintro r M0 ⟨rfl,E,a9⟩;have ao:=(E.cell (p:=⟨g,100,none⟩) hg).trans D)
 go_ret;obtain⟨_,_,_,_,_,_,hB⟩:=a9;exact⟨rfl,L.out.1.trans (hB.mono (by have:=L.out.2;omega))⟩
end
noncomputable section
open Go.RowKit Go.bn Go.Sx Yq
attribute [local go_sem ↓] Go.wp_at_zero Go.wp_at_succ
theorem ahB:∀(n:Nat) (l:List Nat),l.length<=n->(∀a∈l,a<=14)->au l<(16:Int)^n
 |0,[],_,_=>by decide
 |n+1,[],_,_=>by
  have:=ahB n [] (tE _) (λa h=>by cases h);rw[Int.pow_succ];have e:au []=0:=rfl;omega
 |n+1,a::r,h,b=>by
  have d:=ahB n r (by simpa using h) λx c=>b x (da _ c);have f:=b a (cV ..);show((a:Int)+1)+16*au r<(16:Int)^(n+1);rw[Int.pow_succ];omega
set_option maxHeartbeats 1000000 in
def alT{l:List Nat}(h:dZ l)(w:World):Calls Tryz.prog 32 #[.int .i64 (au l)] w λr A=>(∃v,r=.returned v/\A.ownsRow w.heap.size 3 1 v l.length (l.map λa:Nat=>Value.int .i64 (a:Int)))/\Below w.heap.size w A:=by
 obtain⟨i0,F,z,p,s⟩:=info_parts Tryz.info3;go_enter Tryz.func32,Tryz.ntmps32
 go_wp2
 go_loopw [0,3] (fun q v wr=>∃k:Nat,k<=l.length/\q=.int .i64 (au (l.drop k))/\wr.ownsRow w.heap.size 3 1 v k ((l.take k).map fun a:Nat=>Value.int .i64 (a:Int))/\Below w.heap.size w wr)
  (λq _ _=>(intOf q).toNat)
 case atStart=>exact⟨0,tE _,rfl,sq _ _ _ _,Below.refl _ _⟩
 case round=>
  obtain⟨k,U,rfl,o,B⟩:=hrel;have u:=B.size;by_cases c:k<l.length
  .have y:l.drop k=l[k]::l.drop (k+1):=lj c
   have C:l.take (k+1)=l.take k++[l[k]]:=dg c;have G:=h.2 _ (eC c);have D:=l8 (l.drop (k+1));rw[y];show _;obtain⟨q,n⟩:∃q,q=au (l[k]::l.drop (k+1)):=⟨_,rfl⟩;have d:q=((l[k]:Nat):Int)+1+16*au (l.drop (k+1)):=n;obtain⟨r,f⟩:∃r,r=au (l.drop (k+1)):=⟨_,rfl⟩;obtain⟨a,Q⟩:∃a:Int,a=((l[k]:Nat):Int):=⟨_,rfl⟩;rw[<-n];rw[<-f]at D d;rw[<-Q]at d;have I:0<=a/\a<=14:=by omega
   have V:0<q:=by omega
   have W:0<q%16:=by omega
   have X:q%16-1=a:=by omega
   have J:q/16=r:=by omega
   have K:q<1152921504606846976:=by
    have:=ahB 15 (l.drop k) (by rw[List.length_drop];have:=h.1;omega) λx L=>h.2 x (qv L);rw[y, <-n]at this;exact this
   have H:=Lib.hid o;have T:=Lib.hid (And.intro C (And.intro Q (And.intro f d)));clear o C Q f n d y G D;go_wp2_with (at_builtin;refine oT _ rfl _ _ 35 rfl w.heap.size 3 i0 (.int .i64 0) 1 8 Tryz.underlying35 F z p s rfl (by decide) _ _ _ rfl (H.out.alloc _) ⟨wr.heap.size,0,none⟩ 1 1 [.int .i64 a] rfl rfl ?c1 ?c2 ?c3 ?c4 ?c5 ?_)
   case c1=>exact cell_one_new _ _ _
   case c2=>simp[Value.oneCell']
   case c3=>have:=h.1;unfold maxLen;omega
   case c4=>have:=h.1;omega
   case c5=>simp;omega
   intro Y N b m _
   have i:Below w.heap.size w N:=(B.alloc u _).grown m (by simp;omega) (λj e=>by
    rcases H.out.2 with⟨rfl,_⟩|⟨g,P,R,rfl,Z,_⟩
    .simp[Value.ownBlock]at e
    .simp[Value.ownBlock]at e;omega)
   clear m;obtain⟨g',E,rfl⟩:=ownsRow_succ b;have O:=Lib.hid b;clear b;go_wp2;go_roundw
   case rel=>
    refine⟨k+1,c,by rw[J,T.out.2.2.1],?_,i⟩;have:=O.out;rw[<-List.map_take]at this;rw[T.out.1,qP,oc,sL, <-T.out.2.1];exact this
   case measure=>
    have:=T.out.2.2.2;simp[intOf];omega
  .obtain rfl:k=l.length:=by omega
   rw[List.drop_length];rw[lP]at o;have H:=Lib.hid o;clear o;show _;have S:au []=0:=rfl;rw[S];go_wp2;go_ret;exact⟨⟨_,rfl,H.out⟩,B⟩
structure adD(w:World)(A:Option Addr)(l:List Nat)(B:Nat):Prop where
 at_:∀(k a:Nat),l[k]?=some a->∃g,A=some ⟨g,0,none⟩/\B<=g/\g<w.heap.size/\w.cell? ⟨g,k,none⟩=some (.int .i64 (a:Int))
def aoa{w:World}{B:Nat}{v:Value}{l:List Nat}(h:w.ownsRow B 3 1 v l.length (l.map λa:Nat=>Value.int .i64 (a:Int))):∃A c,v=.slice A l.length c/\adD w A l B:=by
 rcases h.2 with⟨rfl,d⟩|⟨g,c,u,rfl,m,e,p,f,s,n⟩
 .refine⟨none,0,by rw[d],⟨fun k a b=> ?_⟩⟩
  have:=cR d;rw[this]at b;cases b
 .refine⟨_,c,rfl,⟨fun k a b=>⟨g,rfl,m,(bk.1 e).1,?_⟩⟩⟩
  have o:k<l.length:=(aE.1 b).1;have i:(l.map λa:Nat=>Value.int .i64 (a:Int))[k]?=some (.int .i64 (a:Int)):=by rw[cG,b];rfl
  rw[<-n,fy (by omega)]at i;rw[cell_of e];simpa using i
def adD.kept{P:Nat->Prop}{w b:World}{A:Option Addr}{l:List Nat}{B:Nat}(h:adD w A l B)(c:Kept P w b)(i:∀j,B<=j->j<w.heap.size->P j):adD b A l B:=⟨λk a m=>by
 obtain⟨g,e,d,f,n⟩:=h.at_ k a m;exact⟨g,e,d,ba f c.size,(Kept.cell c (i g d f) _).trans n⟩⟩
end
noncomputable section
open Go.RowKit Go.bn Go.Sx Yq
variable{c:Cn} {s d f:Ms} {e:Int} {D:Nat->Prop} {b:Nat} {w i:World}
structure EvS(w:World)(A:Option Addr)(l:List Ev)(B:Nat):Prop where
 at_:∀k:Nat,k<l.length->∃(g:Nat) (x:Ev),A=some ⟨g,0,none⟩/\B<=g/\g<w.heap.size/\l[l.length-1-k]?=some x/\w.cell? ⟨g,k*18,none⟩=some (.bool x.ended)/\w.cell? ⟨g,k*18+1,none⟩=some (.int .i64 (x.who:Int))/\w.cell? ⟨g,k*18+10,none⟩=some (.int .i64 x.ans.e)
def apD{B:Nat}{v:Value}{l:List Ev}{A:Nat->Int}(p:w.ownsRow B 68 18 v l.length (zy A l)):∃A m,v=.slice A l.length m/\EvS w A l B:=by
 have h:=K3 p;by_cases q:l=[]
 .obtain⟨_,k⟩:=p
  rcases k with⟨rfl,r⟩|⟨g,m,u,rfl,_⟩
  .exact⟨none,0,by rw[r],⟨λk n=>by omega⟩⟩
  .exact⟨_,m,rfl,⟨λk n=>by rw[q]at n;exact tA n (mz k)⟩⟩
 .obtain⟨g,m,rfl,F,y,z,C⟩:=h.row q
  refine⟨_,m,rfl,⟨λk n=> ?_⟩⟩;obtain⟨x,a,E,o⟩:=C k n;exact⟨g,x,rfl,y,z,E,o 0 _ rfl,o 1 _ rfl,o 10 _ rfl⟩
def Live.evs(h:Live c s e D b w)(k:e<=1000000000):Calls Tryz.prog 17 #[.pointer (some ⟨b,0,none⟩)] w λr i=>(∃A a,r=.returned (.slice A s.ev.length a)/\EvS i A s.ev w.heap.size)/\Below w.heap.size w i/\Live c s e D b i:=by
 refine(Live.events h k).mono λr i l=> ?_;obtain⟨v,A,rfl,o,m,n⟩:=l;obtain⟨p,a,rfl,E⟩:=apD o;exact⟨⟨p,a,rfl,E⟩,m,n.mono (λj q=>.inl q) h.kt⟩
end
noncomputable section
open Go.RowKit Go.bn Go.Sx Yq
attribute [local go_sem ↓] Go.wp_at_zero Go.wp_at_succ
def Dq.below'{w c:World}{A:Option Addr}{n:Nat}(h:Dq w A n)(b:Below w.heap.size w c):Dq c A n:=⟨λk d=>by
 obtain⟨g,o,u,f,i,l,m,q,e,a,r,s,v,x,y,z,B⟩:=h.at_ k d;exact⟨g,o,u,f,i,l,m,q,e,ba a b.size,r,(b.cell (p:=⟨g,_,none⟩) a).trans s,(b.cell (p:=⟨g,_,none⟩) a).trans v,(b.cell (p:=⟨g,_,none⟩) a).trans x,(b.cell (p:=⟨g,_,none⟩) a).trans y,(b.cell (p:=⟨g,_,none⟩) a).trans z,(b.cell (p:=⟨g,_,none⟩) a).trans B⟩⟩
def adD.below{w a:World}{A:Option Addr}{l:List Nat}{B:Nat}(h:adD w A l B)(b:Below w.heap.size w a):adD a A l B:=h.kept (Kept.of_below b) λj _ c=>c
def apB{l n o:List Ev}{k:Nat}{x:Ev}(h:l=n++o)(c:o.length<=k)(d:k<l.length)(b:l[l.length-1-k]?=some x):x∈n:=by
 have e:l.length=n.length+o.length:=by rw[h,cE]
 have a:l.length-1-k<n.length:=by omega
 rw[h]at b;rw[h]at a;rw[cD a]at b;exact du b
