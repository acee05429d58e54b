/- Laws of the proof, joined. No condition of its own. -/
import Derived.IntWalk
set_option linter.all false
def cH:=@Int.toNat_natCast
def fY:=@Int.mul_le_mul_of_nonneg_right
def jF:=@Int.emod_eq_of_lt
def lz:=@Int.mul_comm
def mj:=@Int.ediv_eq_zero_of_lt
def mn:=@Int.add_mul_ediv_right
def my:=@Int.add_mul_emod_self_right
def mL:=@Int.mul_nonneg
def oE:=@Int.emod_lt_of_pos
def py:=@Int.pow_add
def pS:=@Int.mul_ediv_add_emod
def p7:=@Nat.pow_le_pow_right
def rk:=@Int.natCast_mul
def rm:=@Int.emod_nonneg
def rn:=@Int.emod_emod_of_dvd
def ru:=@Int.add_comm
def rN:=@Int.pow_pos
def rS:=@BitVec.getElem_not
def rZ:=@BitVec.getElem_and
def sm:=@Int.mul_assoc
def sY:=@Go.IntKind.wrap_i64
def tf:=@Nat.testBit_and
namespace Go.Proofs.YteaflphddciglaaGreatDoor
structure aa where
 st:Int
 own:Int
 str:Int
 brk:Bool
 fO:Bool
 uses:Int
 gen:Int
 ep:Int
 cz:Int
deriving DecidableEq
def aa.val(s:aa):Value:=.agg #[.int .i64 s.st,.int .i64 s.own,.int .i64 s.str,.bool s.brk,.bool s.fO,.int .i64 s.uses,.int .i64 s.gen,.int .i64 s.ep,.int .i64 s.cz]
structure Facts(s:aa):Prop where
 st:0<=s.st/\s.st<=6
 own:0<=s.own/\s.own<=15
 str:0<=s.str/\s.str<=255
 uses:0<=s.uses/\s.uses<=63
 gen:0<=s.gen/\s.gen<=4095
 ep:0<=s.ep/\s.ep<=4095
 cz:0<=s.cz/\s.cz<=32767
 am0:s.str=0\/s.st=3
 brk:s.brk=false\/s.st=2\/s.st=3\/s.st=4
 amV:s.uses=0\/s.st=2\/s.st=3\/s.st=4
 fO:s.fO=false\/s.st=2
 ep0:s.ep=0\/s.st=6
 Vk:s.own=0\/0<s.st/\s.st<6
def bH(s:aa):Int:=s.st+8*s.own+128*s.str+(if s.brk then 32768 else 0)+(if s.fO then 65536 else 0)+131072*s.uses+8388608*s.gen+34359738368*s.ep+140737488355328*s.cz
end Go.Proofs.YteaflphddciglaaGreatDoor
namespace Go.Proofs.YteaflphddciglaaGreatDoor.bq
structure Mm where
 cl:Int
 qu:List Nat
 ep:Int
 pn:Nat->Int
 gr:Nat->Int
 sl:Nat->aa
structure Cn where
 W:Nat
 S:Nat
 st:Int
 wt:Nat
 u:Int
structure Fd where
 kd:Nat
 ow:Int
 at_:Nat
 fd:Option aa
inductive cK where
 |swap|look|iI|jk|done
 deriving DecidableEq
structure Rt where
 i:Nat
 wd:aa
 ep:Int
 st:cK
 sw:Bool
inductive gm where
 |closed|own|gp|any|anyS|move|dD|free|dQ|bM|check|back|go|grant|eG|done
 deriving DecidableEq
structure Tk where
 st:gm
 look:Fd
 i:Nat
 wd:aa
 gen:Int
 ps:Bool
 rt:Rt
 e:Int
inductive pg where
 |closed|look|rest|go|done
 deriving DecidableEq
structure Gv where
 i:Int
 gen:Int
 dc:Bool
 st:pg
 cl:Int
 wd:aa
 rt:Rt
 e:Int
inductive wV where
 |closed|look|swap|done
 deriving DecidableEq
structure Sm where
 op:Bool
 i:Int
 gen:Int
 n:Int
 st:wV
 wd:aa
 nx:aa
 num:Int
 e:Int
structure Tw where
 rd:List aa
 last:Option (List aa)
 dn:Bool
 n:Nat
inductive JK where
 |come|push|closed|look|drop|head|pop|tell|done
 deriving DecidableEq
structure Qu where
 st:JK
 ln:List Nat
 first:Nat
 why:Int
 e:Int
inductive mO where
 |ep|pin|cl|dL|go|old|pins|clear|line|some|keep|pop|grant|back|dR|eO|again|done
 deriving DecidableEq
structure Td where
 st:mO
 ep:Int
 cl:Int
 qu:List Nat
 look:Fd
 i:Nat
 wd:aa
 other:Nat
 head:Nat
 rt:Rt
structure Ask where
 op:Nat
 wait:Bool
 force:Bool
 dl:Int
 slot:Int
 gen:Int
 bg:Int
structure bR where
 e:Int
 slot:Int
 gen:Int
 bg:Int
 cnt:Nat×Nat×Nat×Nat
inductive MO where
 |look|ask|mark|dB
 deriving DecidableEq
structure Rp where
 st:MO
 look:Fd
 many:Int
 rt:Rt
inductive Wk where
 |get (t:Tk)
 |give (g:Gv)
 |bg (s:Sm)
 |close (d:Option Qu)
 |stats (t:Tw)
 |aS (r:Rp)
inductive Ph where
 |rest
 |pin (h:Option Int)
 |work (k:Wk)
 |counts (t:Tw)
 |enters (q:Qu)
 |ax (t:Td) (amX:Option Bool) (a:bR)
 |parked (amW:Bool)
 |wakes (h:Option Int)
 |leaves (q:Qu)
structure Wr where
 ph:Ph
 ask:Ask
 grant:Int
structure Ev where
 ended:Bool
 who:Nat
 ask:Ask
 ans:bR
structure Ms where
 m:Mm
 now:Int
 wo:List Bool
 ws:Nat->Wr
 ev:List Ev
end Go.Proofs.YteaflphddciglaaGreatDoor.bq
namespace Go.Sx
inductive wZ where
 |oL (c:Go.Proofs.YteaflphddciglaaGreatDoor.bq.Cn) (s:Go.Proofs.YteaflphddciglaaGreatDoor.bq.Ms) (A:Nat->Int) (e:Int)
 |mem (c:Go.Proofs.YteaflphddciglaaGreatDoor.bq.Cn) (m:Go.Proofs.YteaflphddciglaaGreatDoor.bq.Mm)
 |kL (l:List Bool)
 |hld (n:Nat) (who gen:Nat->Int) (st:Nat->Option (Nat->Bool))
end Go.Sx
namespace Go.bn
open Go.RowKit Go.IntWalk
def yl(x:Int):Prop:= -9223372036854775808<=x/\x<=9223372036854775807
theorem zL(r:BitVec 64):IntKind.i64.wrap (r.toNat:Int)=r.toInt:=by
 have h:=r.isLt;rw[sY,BitVec.toInt_eq_toNat_cond];split<;>omega
theorem toInt_ofInt{x}(h:yl x):(BitVec.ofInt 64 x).toInt=x:=by
 unfold yl at h;rw[BitVec.toInt_ofInt];show Int.bmod x 18446744073709551616=x;rw[Int.bmod_def];split<;>omega
theorem ah6(x y):bits .and .i64 x y=(BitVec.ofInt 64 x&&&BitVec.ofInt 64 y).toInt:=zL _
theorem ai6(x y):bits .or .i64 x y=(BitVec.ofInt 64 x|||BitVec.ofInt 64 y).toInt:=zL _
theorem ML(x y):bits .andNot .i64 x y=(BitVec.ofInt 64 x&&& ~~~ BitVec.ofInt 64 y).toInt:=zL _
def bF(w:Int)(a d:Nat):Int:=(w/2^a)%2^d
theorem BG(n):((2^n:Nat):Int)=(2:Int)^n:=by simp
theorem aU(n):(0:Int)<2^n:=rN (by decide)
theorem ER(w)(a d):0<=bF w a d:=rm _ (by have:=aU d;omega)
theorem TW(w)(a d):bF w a d<2^d:=oE _ (aU d)
theorem ab3(w)(a d)(h:a+d<=64):bF (w%18446744073709551616) a d=bF w a d:=by
 unfold bF;have e:w%18446744073709551616=w+(-(w/18446744073709551616))*2^(64-a)*2^a:=by
  have:(2:Int)^(64-a)*2^a=18446744073709551616:=by rw[<-Int.pow_add,show 64-a+a=64 by omega];rfl
  rw[sm,this];omega
 have hp:(2:Int)^a≠0:=by have:=aU a;omega
 rw[e,mn _ _ hp];have e2:(-(w/18446744073709551616))*(2:Int)^(64-a)=(-(w/18446744073709551616))*2^(64-a-d)*2^d:=by
  rw[sm, <-Int.pow_add,show 64-a-d+d=64-a by omega]
 rw[e2,my]
theorem JI(X a d):X&&&((2^d-1)*2^a)=((X/2^a)%2^d)*2^a:=by
 apply Nat.eq_of_testBit_eq;intro i;simp only[tf,Nat.testBit_mul_two_pow,Nat.testBit_two_pow_sub_one,Nat.testBit_mod_two_pow,Nat.testBit_div_two_pow];by_cases h:a<=i
 .simp[h,Nat.sub_add_cancel h];rw[Bool.and_comm]
 .simp[h]
theorem qD{x}(h0:0<=x)(h1:x<18446744073709551616):(BitVec.ofInt 64 x).toNat=x.toNat:=by
 rw[BitVec.toNat_ofInt];show(x%18446744073709551616).toNat=_;rw[jF h0 h1]
theorem KF(a d)(h:a+d<=63):0<=((2:Int)^d-1)*2^a/\((2:Int)^d-1)*2^a<9223372036854775808:=by
 have h1:=aU a;have h2:=aU d;have h3:(2:Int)^d*2^a<=2^63:=by
  rw[<-Int.pow_add];have:((2^(d+a):Nat):Int)<=((2^63:Nat):Int):=by exact_mod_cast p7 (by decide) (by omega)
  simpa using this
 have h4:(2:Int)^63=9223372036854775808:=rfl;rw[h4]at h3;rw[Int.sub_mul];constructor
 .have:(1:Int)*2^a<=2^d*2^a:=fY (by omega) (by omega)
  omega
 .omega
theorem Qo{g:Int}{a d}(h:a+d<=63)(h0:0<=g)(h1:g<2^d):0<=g*2^a/\g*2^a<9223372036854775808:=by
 have hm:=KF a d h;have ha:=aU a;have:g*2^a<=((2:Int)^d-1)*2^a:=fY (by omega) (by omega);exact⟨mL h0 (by omega),by omega⟩
theorem o7(w)(a d)(h:a+d<=63):bits .and .i64 w (((2:Int)^d-1)*2^a)=bF w a d*2^a:=by
 have hm:=KF a d h;have hg:=Qo h (ER w a d) (TW w a d);have hM:(BitVec.ofInt 64 (((2:Int)^d-1)*2^a)).toNat=(2^d-1)*2^a:=by
  rw[qD hm.1 (by omega)];have:(((2^d-1)*2^a:Nat):Int)=((2:Int)^d-1)*2^a:=by
   rw[rk,Int.ofNat_sub (Nat.one_le_two_pow)];simp
  rw[<-this];exact cH _
 show IntKind.i64.wrap ((BitVec.ofInt 64 w&&&BitVec.ofInt 64 (((2:Int)^d-1)*2^a)).toNat:Int)=_;have hW:((BitVec.ofInt 64 w).toNat:Int)=w%18446744073709551616:=by
  rw[BitVec.toNat_ofInt];show((w%18446744073709551616).toNat:Int)=_;omega
 rw[BitVec.toNat_and,hM,JI];have e:(((((BitVec.ofInt 64 w).toNat/2^a)%2^d)*2^a:Nat):Int)=bF w a d*2^a:=by
  rw[<-ab3 w a d (by omega), <-hW];unfold bF;simp
 rw[e];exact i64_in _ (by omega)
theorem Lg(w)(d)(h:d<=63):bits .and .i64 w ((2:Int)^d-1)=w%2^d:=by
 have:=o7 w 0 d (by omega);simpa[bF]using this
theorem ofInt_sub(x y):BitVec.ofInt 64 (x-y)=BitVec.ofInt 64 x-BitVec.ofInt 64 y:=by
 rw[Int.sub_eq_add_neg,BitVec.ofInt_add,BitVec.ofInt_neg,BitVec.sub_eq_add_neg]
theorem ZF(W M:BitVec 64):W&&& ~~~ M=W-(W&&&M):=by
 have h:(W&&& ~~~ M)+(W&&&M)=W:=by
  rw[BitVec.add_eq_or_of_and_eq_zero]
  .ext i hi
   simp only[BitVec.getElem_or,rZ,rS];cases W[i]<;>cases M[i]<;>rfl
  .ext i hi
   simp only[rZ,rS,BitVec.getElem_zero];cases W[i]<;>cases M[i]<;>rfl
 exact BitVec.eq_sub_iff_add_eq.mpr h
theorem LW(x y):BitVec.ofInt 64 (bits .and .i64 x y)=BitVec.ofInt 64 x&&&BitVec.ofInt 64 y:=by rw[ah6,BitVec.ofInt_toInt]
theorem WK(w m)(h:yl (w-bits .and .i64 w m)):bits .andNot .i64 w m=w-bits .and .i64 w m:=by
 rw[ML,ZF, <-LW, <-ofInt_sub,toInt_ofInt h]
theorem Yo{x y}(h0:BitVec.ofInt 64 x&&&BitVec.ofInt 64 y=0)(h:yl (x+y)):bits .or .i64 x y=x+y:=by
 rw[ai6, <-BitVec.add_eq_or_of_and_eq_zero _ _ h0, <-BitVec.ofInt_add,toInt_ofInt h]
def lC(w:Int)(a d:Nat)(v:Int):Int:=w-bF w a d*2^a+(v%2^d)*2^a
theorem nV(w:Int)(a d):w/2^(a+d)=w/2^a/2^d:=by
 rw[py,Int.ediv_ediv_of_nonneg (by have:=aU a;omega)]
theorem OC(w)(a d):w=(w/2^(a+d))*2^(a+d)+bF w a d*2^a+w%2^a:=by
 have h1:=pS w (2^a);have h2:=pS (w/2^a) (2^d);rw[nV];unfold bF;have e:(w/2^a/2^d)*2^(a+d)=(2^d*(w/2^a/2^d))*2^a:=by
  rw[py,lz (2^a) (2^d), <-Int.mul_assoc,lz (2^d) (w/2^a/2^d)]
 rw[e, <-Int.add_mul,h2,lz,h1]
theorem yX(w)(a d)(v):lC w a d v=(w/2^(a+d))*2^(a+d)+(v%2^d)*2^a+w%2^a:=by
 have:=OC w a d;unfold lC;omega
theorem O5{a b}(h:a<=b):(2:Int)^a<=2^b:=by
 have:((2^a:Nat):Int)<=((2^b:Nat):Int):=by exact_mod_cast p7 (by decide) h
 simpa using this
theorem Cx{g l:Int}{a d}(h0:0<=g)(h1:g<2^d)(h2:0<=l)(h3:l<2^a):0<=g*2^a+l/\g*2^a+l<2^(a+d):=by
 have ha:=aU a;have hm:=mL h0 (Int.le_of_lt ha);have:(g+1)*2^a<=2^d*2^a:=fY (by omega) (by omega);rw[Int.add_mul,Int.one_mul]at this;rw[py,lz (2^a) (2^d)];omega
theorem iH(w:Int)(a):0<=w%2^a/\w%2^a<2^a:=
 ⟨rm _ (by have:=aU a;omega),oE _ (aU a)⟩
theorem TM{w l}{n}(hn:n<=63)(hw:yl w)(h0:0<=l)(h1:l<2^n):yl ((w/2^n)*2^n+l):=by
 have hp:=aU n;have e:(2:Int)^(63-n)*2^n=9223372036854775808:=by rw[<-Int.pow_add,show 63-n+n=63 by omega];rfl
 unfold yl at*
 have l1: -(2^(63-n))<=w/2^n:=by
  rw[Int.le_ediv_iff_mul_le hp,Int.neg_mul,e];omega
 have l2:w/2^n<2^(63-n):=by
  rw[Int.ediv_lt_iff_lt_mul hp,e];omega
 have m1:(-(2^(63-n)))*2^n<=(w/2^n)*2^n:=fY l1 (by omega);have m2:(w/2^n+1)*2^n<=(2^(63-n))*2^n:=fY (by omega) (by omega);rw[Int.neg_mul,e]at m1;rw[Int.add_mul,Int.one_mul,e]at m2;omega
theorem O3{w}(hw:yl w)(a d)(h:a+d<=63)(v):yl (lC w a d v)/\yl (w-bF w a d*2^a):=by
 have hv:=iH v d;have hl:=iH w a;have b1:=Cx (a:=a) hv.1 hv.2 hl.1 hl.2;have b2:=Cx (a:=a) (d:=d) (g:=0) (by omega) (aU d) hl.1 hl.2;have e1:=yX w a d v;have e2:=OC w a d;constructor
 .rw[e1,Int.add_assoc];exact TM h hw b1.1 b1.2
 .have:w-bF w a d*2^a=(w/2^(a+d))*2^(a+d)+(0*2^a+w%2^a):=by omega
  rw[this];exact TM h hw b2.1 b2.2
theorem aaY(w)(hw:yl w)(a d)(h:a+d<=63)(v):
  bits .or .i64 (bits .andNot .i64 w (((2:Int)^d-1)*2^a)) ((v%2^d)*2^a)=lC w a d v:=by
 have hp:=O3 hw a d h v;have e1:bits .andNot .i64 w (((2:Int)^d-1)*2^a)=w-bF w a d*2^a:=by
  rw[WK,o7 w a d h];rw[o7 w a d h];exact hp.2
 have e2:bits .and .i64 ((v%2^d)*2^a) (((2:Int)^d-1)*2^a)=(v%2^d)*2^a:=by
  rw[o7 _ a d h];congr 1;unfold bF;rw[Int.mul_ediv_cancel _ (by have:=aU a;omega),rn _ (Int.dvd_refl _)]
 have hd:BitVec.ofInt 64 (w-bF w a d*2^a)&&&BitVec.ofInt 64 ((v%2^d)*2^a)=0:=by
  have h1:BitVec.ofInt 64 (w-bF w a d*2^a)=BitVec.ofInt 64 w&&& ~~~ BitVec.ofInt 64 (((2:Int)^d-1)*2^a):=by
   rw[<-e1,ML,BitVec.ofInt_toInt]
  have h2:BitVec.ofInt 64 ((v%2^d)*2^a)=BitVec.ofInt 64 ((v%2^d)*2^a)&&&BitVec.ofInt 64 (((2:Int)^d-1)*2^a):=by
   rw[<-LW,e2]
  rw[h1,h2];ext i hi;simp only[rZ,rS];cases(BitVec.ofInt 64 (((2:Int)^d-1)*2^a))[i]<;>simp
 rw[e1,Yo hd hp.1];rfl
theorem O1(w)(a d)(v)(b)(h:a+d<=b):lC w a d v/2^b=w/2^b:=by
 have hb:=Cx (a:=a) (iH v d).1 (iH v d).2 (iH w a).1 (iH w a).2;have e:lC w a d v/2^(a+d)=w/2^(a+d):=by
  rw[yX,Int.add_assoc,ru,mn _ _ (by have:=aU (a+d);omega),mj hb.1 hb.2];omega
 rw[show b=a+d+(b-(a+d))by omega,nV,e, <-nV]
theorem Tn{a b}(h:a<=b):(2:Int)^a∣2^b:=⟨2^(b-a),by rw[<-Int.pow_add,show a+(b-a)=b by omega]⟩
theorem wH(x:Int){a b}(h:a<=b):(x*2^b)%2^a=0:=
 Int.emod_eq_zero_of_dvd (Int.dvd_trans (Tn h) (Int.dvd_mul_left _ _))
theorem aaZ(w)(a d)(v)(b)(h:b<=a):lC w a d v%2^b=w%2^b:=by
 have:w=w%2^a+(w/2^a)*2^a:=by have:=pS w (2^a);rw[lz];omega
 rw[yX];rw[Int.add_emod,Int.add_emod (w/2^(a+d)*2^(a+d)),wH _ (by omega),wH _ h]
 conv=>rhs;rw[this,Int.add_emod,wH _ h]
 simp
theorem tL(w)(a d):bF w a d=w%2^(a+d)/2^a:=by
 have h:=OC w a d;have hb:=Cx (a:=a) (ER w a d) (TW w a d) (iH w a).1 (iH w a).2;have e:w%2^(a+d)=bF w a d*2^a+w%2^a:=by
  conv=>lhs;rw[h,Int.add_assoc,ru,my]
  exact jF hb.1 hb.2
 rw[e,ru,mn _ _ (by have:=aU a;omega),mj (iH w a).1 (iH w a).2];omega
theorem get_put(w)(a d)(v):bF (lC w a d v) a d=v%2^d:=by
 have hv:=iH v d;have hw:=iH w a;have hp:(2:Int)^a≠0:=by have:=aU a;omega
 unfold bF;rw[yX,ru,py,lz (2^a) (2^d), <-Int.mul_assoc, <-Int.add_mul,mn _ _ hp,mj hw.1 hw.2,Int.zero_add,ru,my,rn _ (Int.dvd_refl _)]
theorem yE(w)(a d)(v)(b e)(h:a+d<=b\/b+e<=a):bF (lC w a d v) b e=bF w b e:=by
 rcases h with h|h
 .unfold bF;rw[O1 w a d v b h]
 .rw[tL,tL w,aaZ w a d v _ h]
def A9(w:Int)(i:Nat):Int:=(w/2^i)%2
theorem Ze(a d):bF (-1) a d=2^d-1:=by
 unfold bF;have h1:(-1:Int)/2^a= -1:=by
  have:=aU a;rw[Int.ediv_eq_iff_of_pos this];omega
 have hp:=aU d;rw[h1,show(-1:Int)=(2^d-1)+(-1)*2^d by omega,my];exact jF (by omega) (by omega)
