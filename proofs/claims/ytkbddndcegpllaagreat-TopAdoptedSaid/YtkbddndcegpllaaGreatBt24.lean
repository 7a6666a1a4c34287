/- Texts bound together: Fl FlR FlS FlE. -/
import Derived.Laws.FloatArith

import Derived.Test.YtkbddndcegpllaaGreatBt1

set_option linter.all false
namespace Go.Proofs.YtkbddndcegpllaaGreat

namespace Fl

open Ieee

def B:Nat:=4503599627370496
def INF:Nat:=9218868437227405312
def SW:Nat:=9223372036854775808
theorem zq8:double.binade=B:=by decide
theorem z8y:double.infRung=INF:=by decide
theorem ydo:double.signWeight=SW:=by decide
theorem zv9:double.leastPlace= -1074:=by decide
theorem ycq:0<B:=by decide
theorem z6o:B<=INF:=by decide
theorem zs1:INF<SW:=by decide
theorem ygc:INF=2047*B:=by decide
def rung (w:Nat):Nat:=w % SW
def neg (w:Nat):Bool:=w / SW % 2==1
def mg (r:Nat):Nat:=if r < B then r else B + r % B
def sh (r:Nat):Nat:=if r < B then 0 else r / B - 1
def V (r:Nat):Nat:=mg r * 2 ^ sh r
def iv (w:Nat):Int:=if neg w then -(rung w:Int) else (rung w:Int)
def nan (w:Nat):Bool:=decide (INF < rung w)
theorem ztv(w:Nat):double.read w=if rung w<B then .number (neg w) (rung w) (-1074) else if rung w<INF then .number (neg w) (B+rung w%B) (-1074+(rung w/B-1:Nat)) else if rung w=INF then .infinity (neg w) else .nan (neg w) (rung w-INF):=by
 unfold Format.read;simp only[zq8,z8y,ydo,zv9];rfl
theorem zgx{w:Nat}(h:rung w<INF):double.read w= .number (neg w) (mg (rung w)) (-1074+(sh (rung w):Nat)):=by
 rw[ztv];unfold mg sh;by_cases b:rung w<B
 ·simp[b]
 rw[if_neg b,if_pos h,if_neg b,if_neg b]
theorem zl4{w:Nat}(h:rung w=INF):double.read w= .infinity (neg w):=by
 have b:¬ INF<B:=by decide
 rw[ztv,h,if_neg b,if_neg (by omega),if_pos rfl]
theorem zwc{w:Nat}(h:INF<rung w):double.read w= .nan (neg w) (rung w-INF):=by
 have b:B<=INF:=z6o;rw[ztv,if_neg (by omega),if_neg (by omega),if_neg (by omega)]
theorem zo0:V 0=0:=by decide
theorem z1w(r:Nat):V r<V (r+1):=by
 have f:=ycq;unfold V mg sh;by_cases h:r+1<B
 ·rw[if_pos (by omega),if_pos (by omega),if_pos h,if_pos h];simp
 rw[if_neg h,if_neg h];by_cases i:r<B
 ·have e:r+1=B:=by omega
  rw[if_pos i,if_pos i,e,Nat.mod_self,Nat.div_self f];simp;omega
 rw[if_neg i,if_neg i];have hd:=Nat.div_add_mod r B;have q:=Nat.mod_lt r f;have s:1<=r/B:=by rw[Nat.le_div_iff_mul_le f];omega
 by_cases o:r%B+1<B
 ·have b:(r+1)/B=r/B:=by rw[Nat.div_eq_iff f];rw[Nat.mul_comm]at hd;have:=Nat.add_mul (r/B) 1 B;omega
  have j:(r+1)%B=r%B+1:=by have:=Nat.div_add_mod (r+1) B;rw[b]at this;omega
  rw[b,j];exact Nat.mul_lt_mul_of_pos_right (by omega) (Nat.two_pow_pos _)
 have l:r%B=B-1:=by omega
 have b:(r+1)/B=r/B+1:=by rw[Nat.div_eq_iff f];rw[Nat.mul_comm]at hd;have:=Nat.add_mul (r/B) 1 B;have:=Nat.add_mul (r/B+1) 1 B;omega
 have j:(r+1)%B=0:=by have:=Nat.div_add_mod (r+1) B;rw[b,Nat.mul_add]at this;omega
 rw[l,b,j];have n:r/B+1-1=(r/B-1)+1:=by omega
 rw[n,Nat.pow_succ,Nat.add_zero,<- Nat.mul_assoc,Nat.mul_right_comm];exact Nat.mul_lt_mul_of_pos_right (by omega) (Nat.two_pow_pos _)
theorem V_lt{a b:Nat}(h:a<b):V a<V b:=by
 induction b with
 |zero=>omega;|succ n i=>
  rcases Nat.lt_or_ge a n with f|f
  ·exact Nat.lt_trans (i f) (z1w n)
  obtain rfl:a=n:=by omega
  exact z1w a
theorem V_le{a b:Nat}(h:a<=b):V a<=V b:=by
 rcases Nat.lt_or_eq_of_le h with h|rfl
 ·exact Nat.le_of_lt (V_lt h)
 exact Nat.le_refl _
theorem zmb{a b:Nat}:V a<V b↔a<b:=⟨fun h=>by
 rcases Nat.lt_or_ge a b with f|f
 ·exact f
 ·have:=V_le f;omega,V_lt⟩
def sv (w:Nat):Int:=if neg w then -(V (rung w):Int) else (V (rung w):Int)
theorem zmp{x y:Nat}:sv x<sv y↔iv x<iv y:=by
 have i:=@zmb (rung x) (rung y);have j:=@zmb (rung y) (rung x);have b:=@zmb 0 (rung x);have f:=@zmb 0 (rung y);rw[zo0]at b f;unfold sv iv;cases neg x<;>cases neg y<;>simp only[if_true,if_false,Bool.false_eq_true]<;>omega
theorem z3a{x y:Nat}:sv x=sv y↔iv x=iv y:=by
 have b:=@zmp x y;have f:=@zmp y x;omega
theorem yd9{a b c d:Int}(j:a<b↔c<d)(l:a=b↔c=d):compare a b=compare c d:=by
 simp only[compare,compareOfLessAndEq];by_cases h:c<d
 ·rw[if_pos h,if_pos (j.2 h)]
 rw[if_neg h,if_neg (fun f=>h (j.1 f))];by_cases f:c=d
 ·rw[if_pos f,if_pos (l.2 f)]
 rw[if_neg f,if_neg (fun i=>f (l.1 i))]
theorem zk4(s:Bool)(m k a:Nat):signed s m a*((2^k:Nat):Int)=signed s m (a+k):=by
 unfold signed;rw[Nat.shiftLeft_eq,Nat.shiftLeft_eq,Nat.pow_add,<- Nat.mul_assoc];cases s
 ·simp[Int.natCast_mul]
 simp[Int.natCast_mul,Int.neg_mul]
theorem ztr(w:Nat):sv w=signed (neg w) (mg (rung w)) (sh (rung w)):=by
 unfold sv signed V;rw[Nat.shiftLeft_eq]
theorem z5r{x y:Nat}(i:rung x<=INF)(f:rung y<=INF):double.order x y=some (compare (iv x) (iv y)):=by
 unfold Format.order;rcases Nat.lt_or_eq_of_le i with i|i
 ·rcases Nat.lt_or_eq_of_le f with f|f
  ·rw[zgx i,zgx f];simp only[Datum.order,Option.some.injEq];generalize s:sh (rung x)=a;generalize hb:sh (rung y)=b;have n:(-1074+(a:Int)-min (-1074+(a:Int)) (-1074+(b:Int))).toNat=a-min a b:=by omega
   have o:(-1074+(b:Int)-min (-1074+(a:Int)) (-1074+(b:Int))).toNat=b-min a b:=by omega
   rw[n,o];have j:=zk4 (neg x) (mg (rung x)) (min a b) (a-min a b);have l:=zk4 (neg y) (mg (rung y)) (min a b) (b-min a b);rw[Nat.sub_add_cancel (Nat.min_le_left _ _),<- s,<- ztr]at j;rw[Nat.sub_add_cancel (Nat.min_le_right _ _),<- hb,<- ztr]at l;rw[s]at j;rw[hb]at l;have t:(0:Int)<((2^min a b:Nat):Int):=by exact_mod_cast Nat.two_pow_pos _
   generalize ((2^min a b:Nat):Int)=p at *;generalize signed (neg x) (mg (rung x)) (a-min a b)=X at *;generalize signed (neg y) (mg (rung y)) (b-min a b)=Y at *;apply yd9
   ·rw[<-zmp,<- j,<- l];exact⟨fun h=>Int.mul_lt_mul_of_pos_right h t,fun h=>Int.lt_of_mul_lt_mul_right h (Int.le_of_lt t)⟩
   rw[<-z3a,<- j,<- l];exact⟨fun h=>by rw[h],fun h=>Int.eq_of_mul_eq_mul_right (by omega) h⟩
  rw[zgx i,zl4 f];simp only[Datum.order,Option.some.injEq];have:iv y=if neg y then -(INF:Int) else(INF:Int):=by unfold iv;rw[f]
  rw[this];cases hn:neg y
  ·have h:iv x<(INF:Int):=by unfold iv;split<;>omega
   simp[compare,compareOfLessAndEq,h]
  have h:¬ iv x < -(INF:Int):=by unfold iv;split<;>omega
  have q:¬ iv x= -(INF:Int):=by unfold iv;split<;>omega
  simp[compare,compareOfLessAndEq,h,q]
 rcases Nat.lt_or_eq_of_le f with f|f
 ·rw[zl4 i,zgx f];simp only[Datum.order,Option.some.injEq];have:iv x=if neg x then -(INF:Int) else(INF:Int):=by unfold iv;rw[i]
  rw[this];cases hn:neg x
  ·have h:¬ (INF:Int)<iv y:=by unfold iv;split<;>omega
   have q:¬ (INF:Int)=iv y:=by unfold iv;split<;>omega
   simp[compare,compareOfLessAndEq,h,q]
  have h: -(INF:Int)<iv y:=by unfold iv;split<;>omega
  simp[compare,compareOfLessAndEq,h]
 rw[zl4 i,zl4 f];simp only[Datum.order,Option.some.injEq];have n:iv x=if neg x then -(INF:Int) else(INF:Int):=by unfold iv;rw[i]
 have o:iv y=if neg y then -(INF:Int) else(INF:Int):=by unfold iv;rw[f]
 rw[n,o];cases neg x<;>cases neg y<;>decide
theorem zre{x y:Nat}(h:INF<rung x\/INF<rung y):double.order x y=none:=by
 unfold Format.order;rcases h with h|h
 ·rw[zwc h];rfl
 rw[zwc h];cases double.read x<;>rfl
def ltB (x y:Nat):Bool:= !nan x && !nan y && decide (iv x < iv y)
def gtB (x y:Nat):Bool:= !nan x && !nan y && decide (iv y < iv x)
def eqB (x y:Nat):Bool:= !nan x && !nan y && decide (iv x=iv y)
theorem zji(x y:Nat):double.order x y=if nan x||nan y then none else some (compare (iv x) (iv y)):=by
 unfold nan;by_cases b:INF<rung x
 ·rw[zre (.inl b)];simp[b]
 by_cases f:INF<rung y
 ·rw[zre (.inr f)];simp[f]
 rw[z5r (by omega) (by omega)];simp[b,f]
theorem z5e(x y:Nat):(double.order x y==some .lt)=ltB x y:=by
 rw[zji];unfold ltB;cases nan x<;>cases nan y<;>simp[compare,compareOfLessAndEq];by_cases h:iv x<iv y
 ·simp[h]
 by_cases b:iv x=iv y<;>simp[h,b]
theorem zma(x y:Nat):(double.order x y==some .gt)=gtB x y:=by
 rw[zji];unfold gtB;cases nan x<;>cases nan y<;>simp[compare,compareOfLessAndEq];by_cases h:iv x<iv y
 ·have:¬ iv y<iv x:=by omega
  simp[h,this]
 by_cases b:iv x=iv y
 ·simp[b]
 have:iv y<iv x:=by omega
 simp[h,b,this]
theorem zq7(x y:Nat):(double.order x y==some .eq)=eqB x y:=by
 rw[zji];unfold eqB;cases nan x<;>cases nan y<;>simp[compare,compareOfLessAndEq];by_cases h:iv x<iv y
 ·have:¬ iv x=iv y:=by omega
  simp[h,this]
 by_cases b:iv x=iv y<;>simp[h,b]
end Fl

end Go.Proofs.YtkbddndcegpllaaGreat

namespace Go.Proofs.YtkbddndcegpllaaGreat

namespace Fl

open Ieee

theorem zfj(n:Nat):0<2^n:=Nat.two_pow_pos n
theorem yew(r:Nat):V (r+1)=V r+2^sh r:=by
 have f:=ycq;unfold V mg sh;by_cases h:r+1<B
 ·have q:r<B:=by omega
  simp[h,q]
 rw[if_neg h,if_neg h];by_cases i:r<B
 ·have e:r+1=B:=by omega
  rw[if_pos i,if_pos i,e,Nat.mod_self,Nat.div_self f];simp;omega
 rw[if_neg i,if_neg i];have hd:=Nat.div_add_mod r B;have y:=Nat.mod_lt r f;have z:1<=r/B:=by rw[Nat.le_div_iff_mul_le f];omega
 by_cases s:r%B+1<B
 ·have b:(r+1)/B=r/B:=by rw[Nat.div_eq_iff f];rw[Nat.mul_comm]at hd;have:=Nat.add_mul (r/B) 1 B;omega
  have j:(r+1)%B=r%B+1:=by have:=Nat.div_add_mod (r+1) B;rw[b]at this;omega
  rw[b,j,<- Nat.add_assoc,Nat.add_mul,Nat.one_mul]
 have l:r%B=B-1:=by omega
 have b:(r+1)/B=r/B+1:=by rw[Nat.div_eq_iff f];rw[Nat.mul_comm]at hd;have:=Nat.add_mul (r/B) 1 B;have:=Nat.add_mul (r/B+1) 1 B;omega
 have j:(r+1)%B=0:=by have:=Nat.div_add_mod (r+1) B;rw[b,Nat.mul_add]at this;omega
 rw[l,b,j];have n:r/B+1-1=(r/B-1)+1:=by omega
 rw[n,Nat.pow_succ,Nat.add_zero];generalize 2^(r/B-1)=t;have o:B+(B-1)+1=B*2:=by omega
 rw[<-Nat.succ_mul,Nat.succ_eq_add_one,o,Nat.mul_assoc,Nat.mul_comm t 2]
def Rnd (v K r:Nat):Prop:=∃ r0,V r0 * 2 ^ K<=v/\v < V (r0 + 1) * 2 ^ K/\
 (2 * v < (V r0 + V (r0 + 1)) * 2 ^ K->r=r0)/\((V r0 + V (r0 + 1)) * 2 ^ K < 2 * v->r=r0 + 1)/\(2 * v=(V r0 + V (r0 + 1)) * 2 ^ K->r=if r0 % 2=0 then r0 else r0 + 1)
theorem Rnd.mono{v v' K r f:Nat}(h:Rnd v K r)(y:Rnd v' K f)(s:v<=v'):r<=f:=by
 obtain⟨a,a1,B,l,n,o⟩:=h;obtain⟨b,C,D,t,i,q⟩:=y;have F:r=a\/r=a+1:=by
  rcases Nat.lt_trichotomy (2*v) ((V a+V (a+1))*2^K) with h|h|h
  ·exact .inl (l h)
  ·have:=o h;split at this<;>omega
  exact .inr (n h)
 have G:f=b\/f=b+1:=by
  rcases Nat.lt_trichotomy (2*v') ((V b+V (b+1))*2^K) with h|h|h
  ·exact .inl (t h)
  ·have:=q h;split at this<;>omega
  exact .inr (i h)
 have j:a<=b:=by
  rcases Nat.lt_or_ge b a with h|h
  ·have z:V (b+1)<=V a:=V_le h;have E:=Nat.mul_le_mul_right (2^K) z;omega
  exact h
 rcases Nat.lt_or_eq_of_le j with h|rfl
 ·omega
 rcases Nat.lt_trichotomy (2*v) ((V a+V (a+1))*2^K) with h|h|h
 ·have:=l h;omega
 ·rcases Nat.lt_or_eq_of_le s with s|rfl
  ·have:=i (by omega);omega
  have:=o h;have:=q h;split at this<;>split at * <;> omega
 have:=n h;have:=i (by omega);omega
theorem Rnd.exact(r K:Nat):Rnd (V r*2^K) K r:=by
 have b:=z1w r;have f:=Nat.mul_lt_mul_of_pos_right b (zfj K);refine⟨r,Nat.le_refl _,f,fun _=>rfl,fun h=>?_,fun h=>?_⟩
 ·rw[Nat.add_mul]at h;omega
 rw[Nat.add_mul]at h;omega
theorem zwr{m low rest d e s K r0 r:Nat}(o:m=low*2^d+rest)(F:rest<2^d)(y:e+d=s+K)(B:V r0=low*2^s)(C:V (r0+1)=(low+1)*2^s)(E:r0%2=low%2)
  (i:r=r0+(2^d<2*rest||(2^d==2*rest&&low%2==1):Bool).toNat):Rnd (m*2^e) K r:=by
 have q:V r0*2^K=low*2^d*2^e:=by rw[B,Nat.mul_assoc,<- Nat.pow_add,<- y,Nat.pow_add,Nat.mul_comm (2^e),<- Nat.mul_assoc]
 have t:V (r0+1)*2^K=(low+1)*2^d*2^e:=by rw[C,Nat.mul_assoc,<- Nat.pow_add,<- y,Nat.pow_add,Nat.mul_comm (2^e),<- Nat.mul_assoc]
 have l:(V r0+V (r0+1))*2^K=(2*(low*2^d)+2^d)*2^e:=by rw[Nat.add_mul,q,t,<- Nat.add_mul];congr 1;rw[Nat.add_mul,Nat.one_mul];omega
 have n:2*(m*2^e)=(2*(low*2^d)+2*rest)*2^e:=by rw[o,<- Nat.mul_assoc];congr 1;omega
 have pe:=zfj e;have f:∀ {a b:Nat},a*2^e<b*2^e↔a<b:=fun {a b}=>Nat.mul_lt_mul_right pe;refine⟨r0,?_,?_,?_,?_,?_⟩
 ·rw[q,o];exact Nat.mul_le_mul_right _ (by omega)
 ·rw[t,o,f,Nat.add_mul];omega
 ·rw[l,n,f];intro h;rw[i];have a1:¬ 2^d<2*rest:=by omega
  have j:(2^d==2*rest)=false:=by rw[beq_eq_false_iff_ne];omega
  simp[a1,j]
 ·rw[l,n,f];intro h;rw[i];have a1:2^d<2*rest:=by omega
  simp[a1]
 rw[l,n];intro h;have h:=Nat.eq_of_mul_eq_mul_right pe h;have a1:2^d=2*rest:=by omega
 rw[i];have j:¬ 2^d<2*rest:=by omega
 have z:(2^d==2*rest)=true:=by rw[beq_iff_eq];exact a1
 rw[z];simp only[j,decide_false,Bool.false_or,Bool.true_and];by_cases D:low%2=1
 ·rw[D,if_neg (by omega)];rfl
 have:low%2=0:=by omega
 rw[this,if_pos (by omega)];rfl
def pre (m:Nat) (p:Int):Nat:=
 let last:=max (p + m.log2 - 52) (-1074)
 (last + 1074).toNat * B + Toward.even.cut false (m <<< (p - last).toNat) (last - p).toNat
theorem zzd(neg:Bool)(m:Nat)(p:Int):double.nearest neg m p=if m=0 then double.word neg 0 else double.word neg (min (pre m p) INF):=by
 unfold Format.nearest pre;rw[zv9,zq8,z8y];have e:double.fractionBits=52:=rfl;rw[e];rfl
theorem z8r{m:Nat}(b:m≠0):2^m.log2<=m/\m<2^(m.log2+1):=⟨Nat.log2_self_le b,Nat.lt_log2_self⟩
theorem B_eq:B=2^52:=by decide
theorem yeu(s n:Nat):(s*B+n)%2=n%2:=by
 have:B=2*2251799813685248:=by decide
 rw[this,<- Nat.mul_assoc,Nat.mul_comm s 2,Nat.mul_assoc];omega
theorem V_at{s n:Nat}(j:n<2*B)(l:s=0\/B<=n):V (s*B+n)=n*2^s/\V (s*B+n+1)=(n+1)*2^s:=by
 have i:=ycq;have key:sh (s*B+n)=s/\mg (s*B+n)=n:=by
  unfold sh mg;by_cases h:n<B
  ·have hs:s=0:=by omega
   subst hs;rw[Nat.zero_mul,Nat.zero_add,if_pos h,if_pos h];exact⟨rfl,rfl⟩
  have e:s*B+n=(s+1)*B+(n-B):=by rw[Nat.add_mul,Nat.one_mul];omega
  have f:¬ s*B+n<B:=by omega
  rw[if_neg f,if_neg f,e,Nat.mul_comm (s+1) B];rw[Nat.mul_add_div i,Nat.mul_add_mod,Nat.div_eq_of_lt (by omega),Nat.mod_eq_of_lt (by omega)];omega
 have b:V (s*B+n)=n*2^s:=by unfold V;rw[key.1,key.2]
 refine⟨b,?_⟩;rw[yew,b,key.1,Nat.add_mul,Nat.one_mul]
theorem zqb(d:Nat):1 <<< d=2^d:=by rw[Nat.shiftLeft_eq,Nat.one_mul]
theorem ycb{m:Nat}(T:m≠0){p:Int}{K e:Nat}(U:(e:Int)=p+1074+K):Rnd (m*2^e) K (pre m p):=by
 obtain⟨M,N⟩:=z8r T;unfold pre;generalize I:m.log2=L at *;dsimp only;by_cases X: -1074<=p+L-52
 ·have f:max (p+(L:Int)-52) (-1074)=p+L-52:=by omega
  rw[f];obtain⟨s,hs⟩:=Int.eq_ofNat_of_zero_le (show 0<=p+L-52+1074 by omega);have o:(p+(L:Int)-52+1074).toNat=s:=by omega
  rw[o];by_cases R:52<=L
  ·obtain⟨d,hd⟩:∃ d,L=52+d:=⟨L-52,by omega⟩;have q:(p-(p+(L:Int)-52)).toNat=0:=by omega
   have t:(p+(L:Int)-52-p).toNat=d:=by omega
   rw[q,t];unfold Toward.cut;simp only[Nat.shiftLeft_zero,I];rw[Nat.min_eq_left (by omega),zqb];have j:=zfj d;have b:m/2^d<2*B:=by
    rw[Nat.div_lt_iff_lt_mul j,B_eq];have:2*2^52*2^d=2^(L+1):=by rw[hd,<- Nat.pow_succ',<- Nat.pow_add];congr 1;omega
    omega
   have i:B<=m/2^d:=by rw[Nat.le_div_iff_mul_le j,B_eq,<- Nat.pow_add,<- hd];exact M
   obtain⟨l,D⟩:=V_at (s:=s) b (.inr i);refine zwr (d:=d) (s:=s) (r0:=s*B+m/2^d) (low:=m/2^d) (rest:=m%2^d) ?_ (Nat.mod_lt _ j) (by omega) l D (yeu _ _) ?_
   ·rw[Nat.mul_comm];exact(Nat.div_add_mod _ _).symm
   rw[Nat.add_assoc]
  obtain⟨k,J⟩:∃ k,52=L+k:=⟨52-L,by omega⟩;have q:(p-(p+(L:Int)-52)).toNat=k:=by omega
  have t:(p+(L:Int)-52-p).toNat=0:=by omega
  rw[q,t];unfold Toward.cut;simp only[Nat.zero_min,Nat.shiftLeft_zero,Nat.div_one,Nat.mod_one];rw[Nat.shiftLeft_eq];have b:m*2^k<2*B:=by
   have:=Nat.mul_lt_mul_of_pos_right N (zfj k);rw[<-Nat.pow_add]at this;have O:L+1+k=53:=by omega
   rw[O]at this;have:(2:Nat)^53=2*B:=by decide
   omega
  have i:B<=m*2^k:=by have:=Nat.mul_le_mul_right (2^k) M;rw[<-Nat.pow_add,<- J]at this;rw[B_eq];exact this
  obtain⟨l,_⟩:=V_at (s:=s) b (.inr i);have H:m*2^e=V (s*B+m*2^k)*2^K:=by rw[l,Nat.mul_assoc,Nat.mul_assoc,<- Nat.pow_add,<- Nat.pow_add];congr 2;omega
  rw[H];have:(s*B+(m*2^k+(decide (1<2*0)||(1==2*0&&m*2^k%2==1)).toNat))=s*B+m*2^k:=by simp
  rw[this];exact Rnd.exact _ _
 have f:max (p+(L:Int)-52) (-1074)= -1074:=by omega
 rw[f];have o:(-1074+1074:Int).toNat=0:=rfl;rw[o,Nat.zero_mul,Nat.zero_add];by_cases Y: -1074<=p
 ·obtain⟨k,J⟩:=Int.eq_ofNat_of_zero_le (show 0<=p+1074 by omega);have q:(p-(-1074)).toNat=k:=by omega
  have t:(-1074-p).toNat=0:=by omega
  rw[q,t];unfold Toward.cut;simp only[Nat.zero_min,Nat.shiftLeft_zero,Nat.div_one,Nat.mod_one];rw[Nat.shiftLeft_eq];have b:m*2^k<2*B:=by have F:=Nat.mul_lt_mul_of_pos_right N (zfj k);rw[<-Nat.pow_add]at F;have C:2^(L+1+k)<=2^52:=Nat.pow_le_pow_right (by omega) (by omega);rw[<-B_eq]at C;omega
  obtain⟨l,_⟩:=V_at (s:=0) b (.inl rfl);rw[Nat.zero_mul,Nat.zero_add]at l;have H:m*2^e=V (m*2^k)*2^K:=by rw[l,Nat.pow_zero,Nat.mul_one,Nat.mul_assoc,<- Nat.pow_add];congr 2;omega
  rw[H];have:(m*2^k+(decide (1<2*0)||(1==2*0&&m*2^k%2==1)).toNat)=m*2^k:=by simp
  rw[this];exact Rnd.exact _ _
 obtain⟨d,hd⟩:=Int.eq_ofNat_of_zero_le (show 0<= -1074-p by omega);have q:(p-(-1074)).toNat=0:=by omega
 have t:(-1074-p).toNat=d:=by omega
 rw[q,t];unfold Toward.cut;simp only[Nat.shiftLeft_zero,I];by_cases G:d<=L+2
 ·rw[Nat.min_eq_left G,zqb];have j:=zfj d;have b:m/2^d<2*B:=by rw[Nat.div_lt_iff_lt_mul j];have C:2^(L+1)<=2^(52+d):=Nat.pow_le_pow_right (by omega) (by omega);rw[Nat.pow_add 2 52 d,<- B_eq]at C;have:=Nat.mul_le_mul_right (2^d) (show B<=2*B by omega);omega
  obtain⟨l,D⟩:=V_at (s:=0) b (.inl rfl);rw[Nat.zero_mul,Nat.zero_add]at l D;refine zwr (d:=d) (s:=0) (r0:=m/2^d) (low:=m/2^d) (rest:=m%2^d) ?_ (Nat.mod_lt _ j) (by omega) l D rfl rfl;rw[Nat.mul_comm];exact(Nat.div_add_mod _ _).symm
 rw[Nat.min_eq_right (by omega),zqb];have y:m<2^(L+2):=by have:2^(L+1)<=2^(L+2):=Nat.pow_le_pow_right (by omega) (by omega);omega
 have z:2*m<2^(L+2):=by rw[Nat.pow_succ];omega
 rw[Nat.div_eq_of_lt y,Nat.mod_eq_of_lt y];have n:(0+(decide (2^(L+2)<2*m)||(2^(L+2)==2*m&&0%2==1)).toNat)=0:=by
  have:¬ 2^(L+2)<2*m:=by omega
  simp[this]
 rw[n];have S:2*(m*2^e)<2^K:=by rw[<-Nat.mul_assoc];have F:=Nat.mul_lt_mul_of_pos_right z (zfj e);rw[<-Nat.pow_add]at F;have C:2^(L+2+e)<=2^K:=Nat.pow_le_pow_right (by omega) (by omega);omega
 have E:V (0+1)=1:=by decide
 refine⟨0,by rw[zo0];omega,by rw[E];omega,fun _=>rfl,fun h=>?_,fun h=>?_⟩
 ·rw[zo0,E]at h;omega
 rw[zo0,E]at h;omega
end Fl

end Go.Proofs.YtkbddndcegpllaaGreat

namespace Go.Proofs.YtkbddndcegpllaaGreat

namespace Fl

open Ieee

def EX:Nat:=1074
theorem z6b:EX=1074:=rfl
def R (m:Nat) (p:Int):Nat:=if m=0 then 0 else min (pre m p) INF
theorem R_le(m:Nat)(p:Int):R m p<=INF:=by unfold R;split;exact Nat.zero_le _;exact Nat.min_le_right _ _
theorem ztl(s:Bool)(m:Nat)(p:Int):double.nearest s m p=double.word s (R m p):=by
 rw[zzd];unfold R;split<;>rfl
theorem z2l(s:Bool)(r:Nat):double.word s r=if s then SW+r else r:=by unfold Format.word;rw[ydo]
theorem zs6(s:Bool){r:Nat}(h:r<SW):rung (double.word s r)=r:=by
 rw[z2l];unfold rung;cases s
 ·simp[Nat.mod_eq_of_lt h]
 simp[Nat.mod_eq_of_lt h]
theorem zv3(s:Bool){r:Nat}(h:r<SW):neg (double.word s r)=s:=by
 rw[z2l];unfold neg;cases s
 ·simp[Nat.div_eq_of_lt h]
 have:(SW+r)/SW=1:=by rw[Nat.div_eq_iff (by decide)];omega
 simp[this]
theorem Rnd.val{v K r:Nat}(h:Rnd (V r*2^K) K v):v=r:=Nat.le_antisymm (h.mono (Rnd.exact r K) lr) ((Rnd.exact r K).mono h lr)
section

variable {m m' e e' K r:Nat} {p p':Int}

theorem zvl(f:(e:Int)=p+1074+K)(h:m*2^e<=V r*2^K):R m p<=r:=by
 unfold R;split
 ·exact Nat.zero_le _
 rename_i b;exact Nat.le_trans (Nat.min_le_left _ _) ((ycb b f).mono (Rnd.exact r K) h)
end

theorem rep{G:Nat}{s:Nat}(z:G<2*B)(hs:s<=2045):∃ r,V r=G*2^s/\r<=INF:=by
 rcases Nat.eq_zero_or_pos G with rfl|t
 ·exact⟨0,by rw[zo0];simp,Nat.zero_le _⟩
 obtain⟨q,f⟩:=z8r (m:=G) (by omega);have D:G.log2<=52:=by
  rcases Nat.lt_or_ge 52 G.log2 with h|h
  ·have:=Nat.pow_le_pow_right (n:=2) (by omega) (show 53<=G.log2 from h);have e:2*B=2^53:=by decide
   omega
  exact h
 generalize G.log2=L at *;have C:INF=2047*B:=ygc;by_cases E:52-L<=s
 ·have j:2^(L+1)*2^(52-L)=2*B:=by rw[<-Nat.pow_add,show L+1+(52-L)=53 by omega];decide
  have l:2^L*2^(52-L)=B:=by rw[<-Nat.pow_add,show L+(52-L)=52 by omega];decide
  have b:=Nat.mul_lt_mul_of_pos_right f (zfj (52-L));have i:=Nat.mul_le_mul_right (2^(52-L)) q;rw[j]at b;rw[l]at i;refine⟨(s-(52-L))*B+G*2^(52-L),?_,?_⟩
  ·rw[(V_at b (.inr i)).1,Nat.mul_assoc,<- Nat.pow_add];congr 2;omega
  have:(s-(52-L))*B<=2045*B:=Nat.mul_le_mul_right _ (by omega);omega
 have b:G*2^s<2*B:=by
  have o:=Nat.mul_lt_mul_of_pos_right f (zfj s);rw[<-Nat.pow_add]at o;have y:2^(L+1+s)<=2^53:=Nat.pow_le_pow_right (by omega) (by omega);have e:2*B=2^53:=by decide
  omega
 refine⟨G*2^s,?_,?_⟩
 ·have:=(V_at (s:=0) b (.inl rfl)).1;rw[Nat.zero_mul,Nat.zero_add]at this;rw[this];simp
 have:2*B<=INF:=by decide
 omega
theorem z7q(n:Int):floatOfInt .f64 n=double.word (decide (n<0)) (R n.natAbs 0):=by
 unfold floatOfInt FloatKind.nearest FloatKind.encode;show double.nearest _ _ _=_;rw[ztl]
theorem z4d(m:Nat){c s:Nat}(h:c<=s):m*2^s=m*2^(s-c)*2^c:=by rw[Nat.mul_assoc,<- Nat.pow_add,Nat.sub_add_cancel h]
def T (r:Nat):Nat:=V r / 2 ^ EX
theorem T_le{a b:Nat}(h:a<=b):T a<=T b:=Nat.div_le_div_right (V_le h)
theorem z5z{x:Nat}(i:rung x<INF):(FloatKind.f64.decode x).toInt .zero=some (if neg x then -(T (rung x):Int) else(T (rung x):Int)):=by
 show (double.read x).toInt .zero=_;rw[zgx i];generalize rung x=r;unfold Datum.toInt;simp only[Datum.integral,Option.some.injEq];have key:Toward.zero.cut (neg x) (mg r <<< (-1074+(sh r:Int)).toNat) (-(-1074+(sh r:Int))).toNat=T r:=by
  unfold Toward.cut T V;simp only[Bool.toNat_false,Nat.add_zero];rw[zqb,Nat.shiftLeft_eq];generalize mg r=m;generalize sh r=s;have n:=z6b;by_cases h:EX<=s
  ·have b:(-1074+(s:Int)).toNat=s-EX:=by omega
   have f:(-(-1074+(s:Int))).toNat=0:=by omega
   rw[b,f,Nat.zero_min,Nat.pow_zero,Nat.div_one];rw[z4d m h,Nat.mul_div_cancel _ (zfj _)]
  have b:(-1074+(s:Int)).toNat=0:=by omega
  have f:(-(-1074+(s:Int))).toNat=EX-s:=by omega
  rw[b,f,Nat.pow_zero,Nat.mul_one];have e:m*2^s/2^EX=m/2^(EX-s):=by
   have:(2:Nat)^EX=2^(EX-s)*2^s:=by rw[<-Nat.pow_add,Nat.sub_add_cancel (by omega)]
   rw[this,Nat.mul_div_mul_right _ _ (zfj _)]
  rw[e];by_cases hd:EX-s<=m.log2+2
  ·rw[Nat.min_eq_left hd]
  rw[Nat.min_eq_right (by omega)];have o:m<2^(m.log2+1):=Nat.lt_log2_self;have j:2^(m.log2+1)<=2^(m.log2+2):=Nat.pow_le_pow_right (by omega) (by omega);have l:2^(m.log2+1)<=2^(EX-s):=Nat.pow_le_pow_right (by omega) (by omega);rw[Nat.div_eq_of_lt (by omega),Nat.div_eq_of_lt (by omega)]
 rw[key];unfold signed;rw[Nat.shiftLeft_zero]
def ONE:Nat:=4607182418800017408
theorem ye7:V (ONE-1)=(2*B-1)*2^1021:=by decide +kernel
def TOP:Nat:=4890909195324358655
theorem yfy:V TOP=(2*B-1)*2^1084:=by decide +kernel
theorem yfj:TOP<INF:=by decide
theorem z3f:V (TOP+1)=2^63*2^EX:=by decide +kernel
theorem ygd:(T TOP:Int)<=9223372036854775807:=by decide +kernel
theorem z4f{f:Nat}(s:f<ONE){n:Nat}(q:n<=9223372036854775807):V f*V (R n 0)<=V TOP*2^EX:=by
 have j:V f<=(2*B-1)*2^1021:=by rw[<-ye7];exact V_le (by unfold ONE at *;omega)
 have b:n<=2^63:=by
  have:(2:Nat)^63=9223372036854775808:=by decide
  omega
 have l:R n 0<=TOP+1:=by refine zvl (K:=0) (e:=EX) (by rw[z6b];omega) ?_;rw[z3f,Nat.pow_zero,Nat.mul_one];exact Nat.mul_le_mul_right _ b
 have o:V (R n 0)<=2^63*2^EX:=by rw[<-z3f];exact V_le l
 have i:=Nat.mul_le_mul j o;rw[yfy];have e:(2*B-1)*2^1021*(2^63*2^EX)=(2*B-1)*2^1084*2^EX:=by decide +kernel
 rw[e]at i;exact i
end Fl

end Go.Proofs.YtkbddndcegpllaaGreat

namespace Go.Proofs.YtkbddndcegpllaaGreat

namespace Fl

open Ieee

theorem zs7(x:Nat):rung (x ^^^ 2^63)=rung x:=by
 have e:SW=2^63:=by decide
 unfold rung;rw[e,Nat.xor_mod_two_pow,Nat.mod_self,Nat.xor_zero]
theorem z6h{x:Nat}:neg (x ^^^ 2^63)= !neg x:=by
 have e:SW=2^63:=by decide
 unfold neg;rw[e,<- Nat.shiftRight_eq_div_pow,<- Nat.shiftRight_eq_div_pow,Nat.shiftRight_xor_distrib];have:2^63 >>> 63=1:=by decide
 rw[this];have h:=Nat.xor_mod_two_pow (a:=x >>> 63) (b:=1) (n:=1);have i:(2:Nat)^1=2:=rfl;rw[i]at h;rw[h];rcases Nat.mod_two_eq_zero_or_one (x >>> 63) with f|f<;>rw[f]<;>decide
theorem ybg(x:Nat):iv (x ^^^ 2^63)= -iv x:=by
 unfold iv;rw[zs7,z6h];cases neg x<;>simp
theorem z5s(x:Nat):nan (x ^^^ 2^63)=nan x:=by
 unfold nan;rw[zs7]
theorem ya6{x:Nat}(h:nan x=false): -(INF:Int)<=iv x/\iv x<=INF:=by
 unfold nan at h;have h:rung x<=INF:=by simpa using h
 unfold iv;split<;>omega
def zg4 (x:Nat):Int:=if nan x then 0 else if iv x= -(INF:Int) then 1 else if iv x=(INF:Int) then 5 else if iv x < 0 then 2 else if 0 < iv x then 4 else 3
def key (x:Nat):Int:=if nan x then -(2 * INF + 3:Int) else if neg x then -(2 * (rung x:Int) + 1) else 2 * (rung x:Int)
def zv5:Nat:=9218868437227405311
theorem z3o:iv zv5=9218868437227405311:=by decide
theorem zzk:nan zv5=false:=by decide
theorem z2z:iv 0=0:=by decide
theorem zw2:nan 0=false:=by decide
theorem zsg(x:Nat):gtB x zv5=decide (zg4 x=5):=by
 unfold gtB;rw[zzk,z3o];unfold zg4;cases h:nan x
 ·have:=ya6 h;simp only[Bool.not_false,Bool.true_and,Bool.false_eq_true,if_false];unfold INF at *;rw[Bool.eq_iff_iff,decide_eq_true_eq,decide_eq_true_eq];split
  ·omega
  split
  ·omega
  split<;>(try split)<;>omega
 simp
theorem z18(x:Nat):gtB (x ^^^ 2^63) zv5=decide (zg4 x=1):=by
 rw[zsg];unfold zg4;rw[z5s,ybg];cases h:nan x
 ·have:=ya6 h;simp only[Bool.false_eq_true,if_false];unfold INF at *;rw[Bool.eq_iff_iff,decide_eq_true_eq,decide_eq_true_eq];by_cases b:iv x= -9218868437227405312
  ·simp[b]
  by_cases f:iv x=9218868437227405312
  ·simp[f]
  by_cases i:iv x<0
  ·rw[if_neg (by omega),if_neg (by omega),if_neg (by omega),if_pos (by omega),if_neg (by omega),if_neg (by omega),if_pos (by omega)];simp
  by_cases j:0<iv x
  ·rw[if_neg (by omega),if_neg (by omega),if_pos (by omega),if_neg (by omega),if_neg (by omega),if_neg (by omega),if_pos (by omega)];simp
  rw[if_neg (by omega),if_neg (by omega),if_neg (by omega),if_neg (by omega),if_neg (by omega),if_neg (by omega),if_neg (by omega),if_neg (by omega)];simp
 simp
theorem yce(x:Nat):ltB x 0=(!nan x&&decide (iv x<0)):=by
 unfold ltB;rw[zw2,z2z];simp
theorem z9v(x:Nat):gtB x 0=(!nan x&&decide (0<iv x)):=by
 unfold gtB;rw[zw2,z2z];simp
theorem yax(x:Nat):eqB x x= !nan x:=by
 unfold eqB;cases nan x<;>simp
theorem zst{x:Nat}:zg4 x=0↔nan x=true:=by
 unfold zg4;cases nan x
 ·simp only[Bool.false_eq_true,if_false,iff_false];repeat' split
  all_goals omega
 simp
theorem z4r{x:Nat}(h:nan x=false):(zg4 x=1/\iv x= -(INF:Int))\/(zg4 x=2/\ -(INF:Int)<iv x/\iv x<0)\/(zg4 x=3/\iv x=0)\/(zg4 x=4/\0<iv x/\iv x<(INF:Int))\/(zg4 x=5/\iv x=(INF:Int)):=by
 have f:=ya6 h;have i:(0:Int)<(INF:Int):=by decide
 unfold zg4;rw[if_neg (by simp[h])];by_cases a:iv x= -(INF:Int)
 ·rw[if_pos a];omega
 rw[if_neg a];by_cases b:iv x=(INF:Int)
 ·rw[if_pos b];omega
 rw[if_neg b];by_cases c:iv x<0
 ·rw[if_pos c];omega
 rw[if_neg c];by_cases d:0<iv x
 ·rw[if_pos d];omega
 rw[if_neg d];omega
end Fl

end Go.Proofs.YtkbddndcegpllaaGreat
