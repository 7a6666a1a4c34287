/- Texts bound together: Fl FlR FlS FlE FlT FlU AdI. -/
import Derived.Laws.FloatArith

import Derived.Test.YthgekdlegbmehaaGreatBq23

set_option maxHeartbeats 4000000
set_option maxRecDepth 100000
set_option linter.all false
namespace Go.Proofs.YthgekdlegbmehaaGreat

namespace Fl

open Ieee

def B:Nat:=4503599627370496
def INF:Nat:=9218868437227405312
def SW:Nat:=9223372036854775808
theorem zq8:double.binade=B:=by decide
theorem z8y:double.infRung=INF:=by decide
theorem ydo:double.signWeight=SW:=by decide
theorem zv9:double.leastPlace= -1074:=by decide
theorem ycq:0 < B:=by decide
theorem z6o:B<=INF:=by decide
theorem zs1:INF < SW:=by decide
theorem ygc:INF=2047 * B:=by decide
def rung (w:Nat):Nat:=w % SW
def neg (w:Nat):Bool:=w / SW % 2==1
def mg (r:Nat):Nat:=if r < B then r else B + r % B
def sh (r:Nat):Nat:=if r < B then 0 else r / B - 1
def V (r:Nat):Nat:=mg r * 2 ^ sh r
def iv (w:Nat):Int:=if neg w then -(rung w:Int) else (rung w:Int)
def nan (w:Nat):Bool:=decide (INF < rung w)
theorem ztv (w:Nat):double.read w=if rung w < B then .number (neg w) (rung w) (-1074) else if rung w < INF then .number (neg w) (B + rung w % B) (-1074 + (rung w / B - 1:Nat)) else if rung w=INF then .infinity (neg w) else .nan (neg w) (rung w - INF):=by
 unfold Format.read
 simp only [zq8,z8y,ydo,zv9]
 rfl
theorem zgx {w:Nat} (h:rung w < INF):double.read w= .number (neg w) (mg (rung w)) (-1074 + (sh (rung w):Nat)):=by
 rw [ztv]
 unfold mg sh
 by_cases h1:rung w < B
 ·simp [h1]
 ·rw [if_neg h1,if_pos h,if_neg h1,if_neg h1]
theorem zl4 {w:Nat} (h:rung w=INF):double.read w= .infinity (neg w):=by
 have h2:¬ INF < B:=by decide
 rw [ztv,h,if_neg h2,if_neg (by omega),if_pos rfl]
theorem zwc {w:Nat} (h:INF < rung w):double.read w= .nan (neg w) (rung w - INF):=by
 have h2:B<=INF:=z6o
 rw [ztv,if_neg (by omega),if_neg (by omega),if_neg (by omega)]
theorem zo0:V 0=0:=by decide
theorem z1w (r:Nat):V r < V (r + 1):=by
 have hB:=ycq
 unfold V mg sh
 by_cases h:r + 1 < B
 ·rw [if_pos (by omega),if_pos (by omega),if_pos h,if_pos h];simp
 ·rw [if_neg h,if_neg h]
  by_cases h1:r < B
  ·have e:r + 1=B:=by omega
   rw [if_pos h1,if_pos h1,e,Nat.mod_self,Nat.div_self hB];simp;omega
  ·rw [if_neg h1,if_neg h1]
   have hd:=Nat.div_add_mod r B
   have hm:=Nat.mod_lt r hB
   have hq:1<=r / B:=by
    rw [Nat.le_div_iff_mul_le hB];omega
   by_cases h2:r % B + 1 < B
   ·have e1:(r + 1) / B=r / B:=by
     rw [Nat.div_eq_iff hB]
     rw [Nat.mul_comm] at hd
     have:=Nat.add_mul (r / B) 1 B
     omega
    have e2:(r + 1) % B=r % B + 1:=by
     have:=Nat.div_add_mod (r + 1) B
     rw [e1] at this
     omega
    rw [e1,e2]
    exact Nat.mul_lt_mul_of_pos_right (by omega) (Nat.two_pow_pos _)
   ·have e0:r % B=B - 1:=by omega
    have e1:(r + 1) / B=r / B + 1:=by
     rw [Nat.div_eq_iff hB]
     rw [Nat.mul_comm] at hd
     have:=Nat.add_mul (r / B) 1 B
     have:=Nat.add_mul (r / B + 1) 1 B
     omega
    have e2:(r + 1) % B=0:=by
     have:=Nat.div_add_mod (r + 1) B
     rw [e1,Nat.mul_add] at this
     omega
    rw [e0,e1,e2]
    have e3:r / B + 1 - 1=(r / B - 1) + 1:=by omega
    rw [e3,Nat.pow_succ,Nat.add_zero,<- Nat.mul_assoc,Nat.mul_right_comm]
    exact Nat.mul_lt_mul_of_pos_right (by omega) (Nat.two_pow_pos _)
theorem V_lt {a b:Nat} (h:a < b):V a < V b:=by
 induction b with
 | zero=> omega
 | succ n ih=>
  rcases Nat.lt_or_ge a n with h1 | h1
  ·exact Nat.lt_trans (ih h1) (z1w n)
  ·obtain rfl:a=n:=by omega
   exact z1w a
theorem V_le {a b:Nat} (h:a<=b):V a<=V b:=by
 rcases Nat.lt_or_eq_of_le h with h | rfl
 ·exact Nat.le_of_lt (V_lt h)
 ·exact Nat.le_refl _
theorem zmb {a b:Nat}:V a < V b↔a < b:=⟨fun h=> by
 rcases Nat.lt_or_ge a b with h1 | h1
 ·exact h1
 ·have:=V_le h1;omega,V_lt⟩
def sv (w:Nat):Int:=if neg w then -(V (rung w):Int) else (V (rung w):Int)
theorem zmp {x y:Nat}:sv x < sv y↔iv x < iv y:=by
 have h1:=@zmb (rung x) (rung y)
 have h2:=@zmb (rung y) (rung x)
 have hx:=@zmb 0 (rung x)
 have hy:=@zmb 0 (rung y)
 rw [zo0] at hx hy
 unfold sv iv
 cases neg x <;> cases neg y <;> simp only [if_true,if_false,Bool.false_eq_true] <;> omega
theorem z3a {x y:Nat}:sv x=sv y↔iv x=iv y:=by
 have h1:=@zmp x y
 have h2:=@zmp y x
 omega
theorem yd9 {a b c d:Int} (h1:a < b↔c < d) (h2:a=b↔c=d):compare a b=compare c d:=by
 simp only [compare,compareOfLessAndEq]
 by_cases h:c < d
 ·rw [if_pos h,if_pos (h1.2 h)]
 ·rw [if_neg h,if_neg (fun h'=> h (h1.1 h'))]
  by_cases h':c=d
  ·rw [if_pos h',if_pos (h2.2 h')]
  ·rw [if_neg h',if_neg (fun h''=> h' (h2.1 h''))]
theorem zk4 (s:Bool) (m k a:Nat):signed s m a * ((2 ^ k:Nat):Int)=signed s m (a + k):=by
 unfold signed
 rw [Nat.shiftLeft_eq,Nat.shiftLeft_eq,Nat.pow_add,<- Nat.mul_assoc]
 cases s
 ·simp [Int.natCast_mul]
 ·simp [Int.natCast_mul,Int.neg_mul]
theorem ztr (w:Nat):sv w=signed (neg w) (mg (rung w)) (sh (rung w)):=by
 unfold sv signed V
 rw [Nat.shiftLeft_eq]
theorem z5r {x y:Nat} (hx:rung x<=INF) (hy:rung y<=INF):double.order x y=some (compare (iv x) (iv y)):=by
 unfold Format.order
 rcases Nat.lt_or_eq_of_le hx with hx | hx
 ·rcases Nat.lt_or_eq_of_le hy with hy | hy
  ·rw [zgx hx,zgx hy]
   simp only [Datum.order,Option.some.injEq]
   generalize ha:sh (rung x)=a
   generalize hb:sh (rung y)=b
   have e1:(-1074 + (a:Int) - min (-1074 + (a:Int)) (-1074 + (b:Int))).toNat=a - min a b:=by omega
   have e2:(-1074 + (b:Int) - min (-1074 + (a:Int)) (-1074 + (b:Int))).toNat=b - min a b:=by omega
   rw [e1,e2]
   have s1:=zk4 (neg x) (mg (rung x)) (min a b) (a - min a b)
   have s2:=zk4 (neg y) (mg (rung y)) (min a b) (b - min a b)
   rw [Nat.sub_add_cancel (Nat.min_le_left _ _),<- ha,<- ztr] at s1
   rw [Nat.sub_add_cancel (Nat.min_le_right _ _),<- hb,<- ztr] at s2
   rw [ha] at s1;rw [hb] at s2
   have hp:(0:Int) < ((2 ^ min a b:Nat):Int):=by exact_mod_cast Nat.two_pow_pos _
   generalize ((2 ^ min a b:Nat):Int)=p at *
   generalize signed (neg x) (mg (rung x)) (a - min a b)=X at *
   generalize signed (neg y) (mg (rung y)) (b - min a b)=Y at *
   apply yd9
   ·rw [<- zmp,<- s1,<- s2]
    exact ⟨fun h=> Int.mul_lt_mul_of_pos_right h hp,fun h=> Int.lt_of_mul_lt_mul_right h (Int.le_of_lt hp)⟩
   ·rw [<- z3a,<- s1,<- s2]
    exact ⟨fun h=> by rw [h],fun h=> Int.eq_of_mul_eq_mul_right (by omega) h⟩
  ·rw [zgx hx,zl4 hy]
   simp only [Datum.order,Option.some.injEq]
   have:iv y=if neg y then -(INF:Int) else (INF:Int):=by unfold iv;rw [hy]
   rw [this]
   cases hn:neg y
   ·have h:iv x < (INF:Int):=by unfold iv;split <;> omega
    simp [compare,compareOfLessAndEq,h]
   ·have h:¬ iv x < -(INF:Int):=by unfold iv;split <;> omega
    have h':¬ iv x= -(INF:Int):=by unfold iv;split <;> omega
    simp [compare,compareOfLessAndEq,h,h']
 ·rcases Nat.lt_or_eq_of_le hy with hy | hy
  ·rw [zl4 hx,zgx hy]
   simp only [Datum.order,Option.some.injEq]
   have:iv x=if neg x then -(INF:Int) else (INF:Int):=by unfold iv;rw [hx]
   rw [this]
   cases hn:neg x
   ·have h:¬ (INF:Int) < iv y:=by unfold iv;split <;> omega
    have h':¬ (INF:Int)=iv y:=by unfold iv;split <;> omega
    simp [compare,compareOfLessAndEq,h,h']
   ·have h: -(INF:Int) < iv y:=by unfold iv;split <;> omega
    simp [compare,compareOfLessAndEq,h]
  ·rw [zl4 hx,zl4 hy]
   simp only [Datum.order,Option.some.injEq]
   have e1:iv x=if neg x then -(INF:Int) else (INF:Int):=by unfold iv;rw [hx]
   have e2:iv y=if neg y then -(INF:Int) else (INF:Int):=by unfold iv;rw [hy]
   rw [e1,e2]
   cases neg x <;> cases neg y <;> decide
theorem zre {x y:Nat} (h:INF < rung x\/INF < rung y):double.order x y=none:=by
 unfold Format.order
 rcases h with h | h
 ·rw [zwc h];rfl
 ·rw [zwc h]
  cases double.read x <;> rfl
def ltB (x y:Nat):Bool:= !nan x && !nan y && decide (iv x < iv y)
def gtB (x y:Nat):Bool:= !nan x && !nan y && decide (iv y < iv x)
def eqB (x y:Nat):Bool:= !nan x && !nan y && decide (iv x=iv y)
theorem zji (x y:Nat):double.order x y=if nan x || nan y then none else some (compare (iv x) (iv y)):=by
 unfold nan
 by_cases h1:INF < rung x
 ·rw [zre (.inl h1)];simp [h1]
 ·by_cases h2:INF < rung y
  ·rw [zre (.inr h2)];simp [h2]
  ·rw [z5r (by omega) (by omega)];simp [h1,h2]
theorem z5e (x y:Nat):(double.order x y==some .lt)=ltB x y:=by
 rw [zji];unfold ltB
 cases nan x <;> cases nan y <;> simp [compare,compareOfLessAndEq]
 by_cases h:iv x < iv y
 ·simp [h]
 ·by_cases h':iv x=iv y <;> simp [h,h']
theorem zma (x y:Nat):(double.order x y==some .gt)=gtB x y:=by
 rw [zji];unfold gtB
 cases nan x <;> cases nan y <;> simp [compare,compareOfLessAndEq]
 by_cases h:iv x < iv y
 ·have:¬ iv y < iv x:=by omega
  simp [h,this]
 ·by_cases h':iv x=iv y
  ·simp [h']
  ·have:iv y < iv x:=by omega
   simp [h,h',this]
theorem zq7 (x y:Nat):(double.order x y==some .eq)=eqB x y:=by
 rw [zji];unfold eqB
 cases nan x <;> cases nan y <;> simp [compare,compareOfLessAndEq]
 by_cases h:iv x < iv y
 ·have:¬ iv x=iv y:=by omega
  simp [h,this]
 ·by_cases h':iv x=iv y <;> simp [h,h']
end Fl

end Go.Proofs.YthgekdlegbmehaaGreat

namespace Go.Proofs.YthgekdlegbmehaaGreat

namespace Fl

open Ieee

theorem zfj (n:Nat):0 < 2 ^ n:=Nat.two_pow_pos n
theorem yew (r:Nat):V (r + 1)=V r + 2 ^ sh r:=by
 have hB:=ycq
 unfold V mg sh
 by_cases h:r + 1 < B
 ·have h':r < B:=by omega
  simp [h,h']
 ·rw [if_neg h,if_neg h]
  by_cases h1:r < B
  ·have e:r + 1=B:=by omega
   rw [if_pos h1,if_pos h1,e,Nat.mod_self,Nat.div_self hB];simp;omega
  ·rw [if_neg h1,if_neg h1]
   have hd:=Nat.div_add_mod r B
   have hm:=Nat.mod_lt r hB
   have hq:1<=r / B:=by rw [Nat.le_div_iff_mul_le hB];omega
   by_cases h2:r % B + 1 < B
   ·have e1:(r + 1) / B=r / B:=by
     rw [Nat.div_eq_iff hB]
     rw [Nat.mul_comm] at hd
     have:=Nat.add_mul (r / B) 1 B
     omega
    have e2:(r + 1) % B=r % B + 1:=by
     have:=Nat.div_add_mod (r + 1) B
     rw [e1] at this
     omega
    rw [e1,e2,<- Nat.add_assoc,Nat.add_mul,Nat.one_mul]
   ·have e0:r % B=B - 1:=by omega
    have e1:(r + 1) / B=r / B + 1:=by
     rw [Nat.div_eq_iff hB]
     rw [Nat.mul_comm] at hd
     have:=Nat.add_mul (r / B) 1 B
     have:=Nat.add_mul (r / B + 1) 1 B
     omega
    have e2:(r + 1) % B=0:=by
     have:=Nat.div_add_mod (r + 1) B
     rw [e1,Nat.mul_add] at this
     omega
    rw [e0,e1,e2]
    have e3:r / B + 1 - 1=(r / B - 1) + 1:=by omega
    rw [e3,Nat.pow_succ,Nat.add_zero]
    generalize 2 ^ (r / B - 1)=t
    have e4:B + (B - 1) + 1=B * 2:=by omega
    rw [<- Nat.succ_mul,Nat.succ_eq_add_one,e4,Nat.mul_assoc,Nat.mul_comm t 2]
def Rnd (v K r:Nat):Prop:=∃ r0,V r0 * 2 ^ K<=v/\v < V (r0 + 1) * 2 ^ K/\
 (2 * v < (V r0 + V (r0 + 1)) * 2 ^ K->r=r0)/\((V r0 + V (r0 + 1)) * 2 ^ K < 2 * v->r=r0 + 1)/\(2 * v=(V r0 + V (r0 + 1)) * 2 ^ K->r=if r0 % 2=0 then r0 else r0 + 1)
theorem Rnd.mono {v v' K r r':Nat} (h:Rnd v K r) (h':Rnd v' K r') (hv:v<=v'):r<=r':=by
 obtain ⟨a,a1,a2,a3,a4,a5⟩:=h
 obtain ⟨b,b1,b2,b3,b4,b5⟩:=h'
 have ra:r=a\/r=a + 1:=by
  rcases Nat.lt_trichotomy (2 * v) ((V a + V (a + 1)) * 2 ^ K) with h | h | h
  ·exact .inl (a3 h)
  ·have:=a5 h;split at this <;> omega
  ·exact .inr (a4 h)
 have rb:r'=b\/r'=b + 1:=by
  rcases Nat.lt_trichotomy (2 * v') ((V b + V (b + 1)) * 2 ^ K) with h | h | h
  ·exact .inl (b3 h)
  ·have:=b5 h;split at this <;> omega
  ·exact .inr (b4 h)
 have hab:a<=b:=by
  rcases Nat.lt_or_ge b a with h | h
  ·have h1:V (b + 1)<=V a:=V_le h
   have h2:=Nat.mul_le_mul_right (2 ^ K) h1
   omega
  ·exact h
 rcases Nat.lt_or_eq_of_le hab with h | rfl
 ·omega
 ·rcases Nat.lt_trichotomy (2 * v) ((V a + V (a + 1)) * 2 ^ K) with h | h | h
  ·have:=a3 h;omega
  ·rcases Nat.lt_or_eq_of_le hv with hv | rfl
   ·have:=b4 (by omega);omega
   ·have:=a5 h;have:=b5 h;split at this <;> split at * <;> omega
  ·have:=a4 h;have:=b4 (by omega);omega
theorem Rnd.exact (r K:Nat):Rnd (V r * 2 ^ K) K r:=by
 have h1:=z1w r
 have h2:=Nat.mul_lt_mul_of_pos_right h1 (zfj K)
 refine ⟨r,Nat.le_refl _,h2,fun _=> rfl,fun h=> ?_,fun h=> ?_⟩
 ·rw [Nat.add_mul] at h;omega
 ·rw [Nat.add_mul] at h;omega
theorem zwr {m low rest d e s K r0 r:Nat} (hm:m=low * 2 ^ d + rest) (hr:rest < 2 ^ d) (he:e + d=s + K) (h0:V r0=low * 2 ^ s) (h1:V (r0 + 1)=(low + 1) * 2 ^ s) (hp:r0 % 2=low % 2)
  (hrr:r=r0 + (2 ^ d < 2 * rest || (2 ^ d==2 * rest && low % 2==1):Bool).toNat):Rnd (m * 2 ^ e) K r:=by
 have e0:V r0 * 2 ^ K=low * 2 ^ d * 2 ^ e:=by rw [h0,Nat.mul_assoc,<- Nat.pow_add,<- he,Nat.pow_add,Nat.mul_comm (2 ^ e),<- Nat.mul_assoc]
 have e1:V (r0 + 1) * 2 ^ K=(low + 1) * 2 ^ d * 2 ^ e:=by rw [h1,Nat.mul_assoc,<- Nat.pow_add,<- he,Nat.pow_add,Nat.mul_comm (2 ^ e),<- Nat.mul_assoc]
 have e2:(V r0 + V (r0 + 1)) * 2 ^ K=(2 * (low * 2 ^ d) + 2 ^ d) * 2 ^ e:=by
  rw [Nat.add_mul,e0,e1,<- Nat.add_mul];congr 1;rw [Nat.add_mul,Nat.one_mul];omega
 have e3:2 * (m * 2 ^ e)=(2 * (low * 2 ^ d) + 2 * rest) * 2 ^ e:=by rw [hm,<- Nat.mul_assoc];congr 1;omega
 have pe:=zfj e
 have lt_iff:∀ {a b:Nat},a * 2 ^ e < b * 2 ^ e↔a < b:=fun {a b}=> Nat.mul_lt_mul_right pe
 refine ⟨r0,?_,?_,?_,?_,?_⟩
 ·rw [e0,hm];exact Nat.mul_le_mul_right _ (by omega)
 ·rw [e1,hm,lt_iff,Nat.add_mul];omega
 ·rw [e2,e3,lt_iff]
  intro h
  rw [hrr]
  have a1:¬ 2 ^ d < 2 * rest:=by omega
  have a2:(2 ^ d==2 * rest)=false:=by rw [beq_eq_false_iff_ne];omega
  simp [a1,a2]
 ·rw [e2,e3,lt_iff]
  intro h
  rw [hrr]
  have a1:2 ^ d < 2 * rest:=by omega
  simp [a1]
 ·rw [e2,e3]
  intro h
  have h:=Nat.eq_of_mul_eq_mul_right pe h
  have a1:2 ^ d=2 * rest:=by omega
  rw [hrr]
  have a2:¬ 2 ^ d < 2 * rest:=by omega
  have a3:(2 ^ d==2 * rest)=true:=by rw [beq_iff_eq];exact a1
  rw [a3]
  simp only [a2,decide_false,Bool.false_or,Bool.true_and]
  by_cases hl:low % 2=1
  ·rw [hl,if_neg (by omega)];rfl
  ·have:low % 2=0:=by omega
   rw [this,if_pos (by omega)];rfl
def pre (m:Nat) (p:Int):Nat:=
 let last:=max (p + m.log2 - 52) (-1074)
 (last + 1074).toNat * B + Toward.even.cut false (m <<< (p - last).toNat) (last - p).toNat
theorem zzd (neg:Bool) (m:Nat) (p:Int):double.nearest neg m p=if m=0 then double.word neg 0 else double.word neg (min (pre m p) INF):=by
 unfold Format.nearest pre
 rw [zv9,zq8,z8y]
 have e:double.fractionBits=52:=rfl
 rw [e]
 rfl
theorem z8r {m:Nat} (hm:m≠0):2 ^ m.log2<=m/\m < 2 ^ (m.log2 + 1):=⟨Nat.log2_self_le hm,Nat.lt_log2_self⟩
theorem B_eq:B=2 ^ 52:=by decide
theorem yeu (s n:Nat):(s * B + n) % 2=n % 2:=by
 have:B=2 * 2251799813685248:=by decide
 rw [this,<- Nat.mul_assoc,Nat.mul_comm s 2,Nat.mul_assoc]
 omega
theorem V_at {s n:Nat} (h1:n < 2 * B) (h2:s=0\/B<=n):V (s * B + n)=n * 2 ^ s/\V (s * B + n + 1)=(n + 1) * 2 ^ s:=by
 have hB:=ycq
 have key:sh (s * B + n)=s/\mg (s * B + n)=n:=by
  unfold sh mg
  by_cases h:n < B
  ·have hs:s=0:=by omega
   subst hs
   rw [Nat.zero_mul,Nat.zero_add,if_pos h,if_pos h]
   exact ⟨rfl,rfl⟩
  ·have e:s * B + n=(s + 1) * B + (n - B):=by rw [Nat.add_mul,Nat.one_mul];omega
   have h3:¬ s * B + n < B:=by omega
   rw [if_neg h3,if_neg h3,e,Nat.mul_comm (s + 1) B]
   rw [Nat.mul_add_div hB,Nat.mul_add_mod,Nat.div_eq_of_lt (by omega),Nat.mod_eq_of_lt (by omega)]
   omega
 have h0:V (s * B + n)=n * 2 ^ s:=by unfold V;rw [key.1,key.2]
 refine ⟨h0,?_⟩
 rw [yew,h0,key.1,Nat.add_mul,Nat.one_mul]
theorem zqb (d:Nat):1 <<< d=2 ^ d:=by rw [Nat.shiftLeft_eq,Nat.one_mul]
theorem ycb {m:Nat} (hm:m≠0) {p:Int} {K e:Nat} (he:(e:Int)=p + 1074 + K):Rnd (m * 2 ^ e) K (pre m p):=by
 obtain ⟨l1,l2⟩:=z8r hm
 unfold pre
 generalize hL:m.log2=L at *
 dsimp only
 by_cases hn: -1074<=p + L - 52
 ·have hlast:max (p + (L:Int) - 52) (-1074)=p + L - 52:=by omega
  rw [hlast]
  obtain ⟨s,hs⟩:=Int.eq_ofNat_of_zero_le (show 0<=p + L - 52 + 1074 by omega)
  have hs':(p + (L:Int) - 52 + 1074).toNat=s:=by omega
  rw [hs']
  by_cases h52:52<=L
  ·obtain ⟨d,hd⟩:∃ d,L=52 + d:=⟨L - 52,by omega⟩
   have u1:(p - (p + (L:Int) - 52)).toNat=0:=by omega
   have u2:(p + (L:Int) - 52 - p).toNat=d:=by omega
   rw [u1,u2]
   unfold Toward.cut
   simp only [Nat.shiftLeft_zero,hL]
   rw [Nat.min_eq_left (by omega),zqb]
   have hpd:=zfj d
   have hlow:m / 2 ^ d < 2 * B:=by
    rw [Nat.div_lt_iff_lt_mul hpd,B_eq]
    have:2 * 2 ^ 52 * 2 ^ d=2 ^ (L + 1):=by rw [hd,<- Nat.pow_succ',<- Nat.pow_add];congr 1;omega
    omega
   have hlow2:B<=m / 2 ^ d:=by
    rw [Nat.le_div_iff_mul_le hpd,B_eq,<- Nat.pow_add,<- hd];exact l1
   obtain ⟨v0,v1⟩:=V_at (s:=s) hlow (.inr hlow2)
   refine zwr (d:=d) (s:=s) (r0:=s * B + m / 2 ^ d) (low:=m / 2 ^ d) (rest:=m % 2 ^ d) ?_ (Nat.mod_lt _ hpd) (by omega) v0 v1 (yeu _ _) ?_
   ·rw [Nat.mul_comm];exact (Nat.div_add_mod _ _).symm
   ·rw [Nat.add_assoc]
  ·obtain ⟨k,hk⟩:∃ k,52=L + k:=⟨52 - L,by omega⟩
   have u1:(p - (p + (L:Int) - 52)).toNat=k:=by omega
   have u2:(p + (L:Int) - 52 - p).toNat=0:=by omega
   rw [u1,u2]
   unfold Toward.cut
   simp only [Nat.zero_min,Nat.shiftLeft_zero,Nat.div_one,Nat.mod_one]
   rw [Nat.shiftLeft_eq]
   have hlow:m * 2 ^ k < 2 * B:=by
    have:=Nat.mul_lt_mul_of_pos_right l2 (zfj k)
    rw [<- Nat.pow_add] at this
    have e1:L + 1 + k=53:=by omega
    rw [e1] at this
    have:(2:Nat) ^ 53=2 * B:=by decide
    omega
   have hlow2:B<=m * 2 ^ k:=by
    have:=Nat.mul_le_mul_right (2 ^ k) l1
    rw [<- Nat.pow_add,<- hk] at this
    rw [B_eq];exact this
   obtain ⟨v0,_⟩:=V_at (s:=s) hlow (.inr hlow2)
   have hv:m * 2 ^ e=V (s * B + m * 2 ^ k) * 2 ^ K:=by
    rw [v0,Nat.mul_assoc,Nat.mul_assoc,<- Nat.pow_add,<- Nat.pow_add]
    congr 2;omega
   rw [hv]
   have:(s * B + (m * 2 ^ k + (decide (1 < 2 * 0) || (1==2 * 0 && m * 2 ^ k % 2==1)).toNat))=s * B + m * 2 ^ k:=by simp
   rw [this]
   exact Rnd.exact _ _
 ·have hlast:max (p + (L:Int) - 52) (-1074)= -1074:=by omega
  rw [hlast]
  have hs':(-1074 + 1074:Int).toNat=0:=rfl
  rw [hs',Nat.zero_mul,Nat.zero_add]
  by_cases hp: -1074<=p
  ·obtain ⟨k,hk⟩:=Int.eq_ofNat_of_zero_le (show 0<=p + 1074 by omega)
   have u1:(p - (-1074)).toNat=k:=by omega
   have u2:(-1074 - p).toNat=0:=by omega
   rw [u1,u2]
   unfold Toward.cut
   simp only [Nat.zero_min,Nat.shiftLeft_zero,Nat.div_one,Nat.mod_one]
   rw [Nat.shiftLeft_eq]
   have hlow:m * 2 ^ k < 2 * B:=by
    have h1:=Nat.mul_lt_mul_of_pos_right l2 (zfj k)
    rw [<- Nat.pow_add] at h1
    have h2:2 ^ (L + 1 + k)<=2 ^ 52:=Nat.pow_le_pow_right (by omega) (by omega)
    rw [<- B_eq] at h2
    omega
   obtain ⟨v0,_⟩:=V_at (s:=0) hlow (.inl rfl)
   rw [Nat.zero_mul,Nat.zero_add] at v0
   have hv:m * 2 ^ e=V (m * 2 ^ k) * 2 ^ K:=by
    rw [v0,Nat.pow_zero,Nat.mul_one,Nat.mul_assoc,<- Nat.pow_add]
    congr 2;omega
   rw [hv]
   have:(m * 2 ^ k + (decide (1 < 2 * 0) || (1==2 * 0 && m * 2 ^ k % 2==1)).toNat)=m * 2 ^ k:=by simp
   rw [this]
   exact Rnd.exact _ _
  ·obtain ⟨d,hd⟩:=Int.eq_ofNat_of_zero_le (show 0<= -1074 - p by omega)
   have u1:(p - (-1074)).toNat=0:=by omega
   have u2:(-1074 - p).toNat=d:=by omega
   rw [u1,u2]
   unfold Toward.cut
   simp only [Nat.shiftLeft_zero,hL]
   by_cases hdl:d<=L + 2
   ·rw [Nat.min_eq_left hdl,zqb]
    have hpd:=zfj d
    have hlow:m / 2 ^ d < 2 * B:=by
     rw [Nat.div_lt_iff_lt_mul hpd]
     have h2:2 ^ (L + 1)<=2 ^ (52 + d):=Nat.pow_le_pow_right (by omega) (by omega)
     rw [Nat.pow_add 2 52 d,<- B_eq] at h2
     have:=Nat.mul_le_mul_right (2 ^ d) (show B<=2 * B by omega)
     omega
    obtain ⟨v0,v1⟩:=V_at (s:=0) hlow (.inl rfl)
    rw [Nat.zero_mul,Nat.zero_add] at v0 v1
    refine zwr (d:=d) (s:=0) (r0:=m / 2 ^ d) (low:=m / 2 ^ d) (rest:=m % 2 ^ d) ?_ (Nat.mod_lt _ hpd) (by omega) v0 v1 rfl rfl
    rw [Nat.mul_comm];exact (Nat.div_add_mod _ _).symm
   ·rw [Nat.min_eq_right (by omega),zqb]
    have hlt:m < 2 ^ (L + 2):=by
     have:2 ^ (L + 1)<=2 ^ (L + 2):=Nat.pow_le_pow_right (by omega) (by omega)
     omega
    have hlt2:2 * m < 2 ^ (L + 2):=by rw [Nat.pow_succ];omega
    rw [Nat.div_eq_of_lt hlt,Nat.mod_eq_of_lt hlt]
    have hmore:(0 + (decide (2 ^ (L + 2) < 2 * m) || (2 ^ (L + 2)==2 * m && 0 % 2==1)).toNat)=0:=by
     have:¬ 2 ^ (L + 2) < 2 * m:=by omega
     simp [this]
    rw [hmore]
    have hle:2 * (m * 2 ^ e) < 2 ^ K:=by
     rw [<- Nat.mul_assoc]
     have h1:=Nat.mul_lt_mul_of_pos_right hlt2 (zfj e)
     rw [<- Nat.pow_add] at h1
     have h2:2 ^ (L + 2 + e)<=2 ^ K:=Nat.pow_le_pow_right (by omega) (by omega)
     omega
    have V1:V (0 + 1)=1:=by decide
    refine ⟨0,by rw [zo0];omega,by rw [V1];omega,fun _=> rfl,fun h=> ?_,fun h=> ?_⟩
    ·rw [zo0,V1] at h;omega
    ·rw [zo0,V1] at h;omega
end Fl

end Go.Proofs.YthgekdlegbmehaaGreat

namespace Go.Proofs.YthgekdlegbmehaaGreat

namespace Fl

open Ieee

def EX:Nat:=1074
theorem z6b:EX=1074:=rfl
def R (m:Nat) (p:Int):Nat:=if m=0 then 0 else min (pre m p) INF
theorem R_le (m:Nat) (p:Int):R m p<=INF:=by unfold R;split;exact Nat.zero_le _;exact Nat.min_le_right _ _
theorem ztl (s:Bool) (m:Nat) (p:Int):double.nearest s m p=double.word s (R m p):=by
 rw [zzd];unfold R;split <;> rfl
theorem z2l (s:Bool) (r:Nat):double.word s r=if s then SW + r else r:=by unfold Format.word;rw [ydo]
theorem zs6 (s:Bool) {r:Nat} (h:r < SW):rung (double.word s r)=r:=by
 rw [z2l];unfold rung
 cases s
 ·simp [Nat.mod_eq_of_lt h]
 ·simp [Nat.mod_eq_of_lt h]
theorem zv3 (s:Bool) {r:Nat} (h:r < SW):neg (double.word s r)=s:=by
 rw [z2l];unfold neg
 cases s
 ·simp [Nat.div_eq_of_lt h]
 ·have:(SW + r) / SW=1:=by rw [Nat.div_eq_iff (by decide)];omega
  simp [this]
theorem Rnd.val {v K r:Nat} (h:Rnd (V r * 2 ^ K) K v):v=r:=Nat.le_antisymm (h.mono (Rnd.exact r K) lr) ((Rnd.exact r K).mono h lr)
section

variable {m m' e e' K r:Nat} {p p':Int}

theorem zvl (he:(e:Int)=p + 1074 + K) (h:m * 2 ^ e<=V r * 2 ^ K):R m p<=r:=by
 unfold R
 split
 ·exact Nat.zero_le _
 ·rename_i h0
  exact Nat.le_trans (Nat.min_le_left _ _) ((ycb h0 he).mono (Rnd.exact r K) h)
end

theorem rep {G:Nat} {s:Nat} (hG:G < 2 * B) (hs:s<=2045):∃ r,V r=G * 2 ^ s/\r<=INF:=by
 rcases Nat.eq_zero_or_pos G with rfl | h0
 ·exact ⟨0,by rw [zo0];simp,Nat.zero_le _⟩
 ·obtain ⟨l1,l2⟩:=z8r (m:=G) (by omega)
  have hL:G.log2<=52:=by
   rcases Nat.lt_or_ge 52 G.log2 with h | h
   ·have:=Nat.pow_le_pow_right (n:=2) (by omega) (show 53<=G.log2 from h)
    have e:2 * B=2 ^ 53:=by decide
    omega
   ·exact h
  generalize G.log2=L at *
  have hI:INF=2047 * B:=ygc
  by_cases hk:52 - L<=s
  ·have e1:2 ^ (L + 1) * 2 ^ (52 - L)=2 * B:=by rw [<- Nat.pow_add,show L + 1 + (52 - L)=53 by omega];decide
   have e2:2 ^ L * 2 ^ (52 - L)=B:=by rw [<- Nat.pow_add,show L + (52 - L)=52 by omega];decide
   have u1:=Nat.mul_lt_mul_of_pos_right l2 (zfj (52 - L))
   have u2:=Nat.mul_le_mul_right (2 ^ (52 - L)) l1
   rw [e1] at u1
   rw [e2] at u2
   refine ⟨(s - (52 - L)) * B + G * 2 ^ (52 - L),?_,?_⟩
   ·rw [(V_at u1 (.inr u2)).1,Nat.mul_assoc,<- Nat.pow_add];congr 2;omega
   ·have:(s - (52 - L)) * B<=2045 * B:=Nat.mul_le_mul_right _ (by omega)
    omega
  ·have u1:G * 2 ^ s < 2 * B:=by
    have h1:=Nat.mul_lt_mul_of_pos_right l2 (zfj s)
    rw [<- Nat.pow_add] at h1
    have h2:2 ^ (L + 1 + s)<=2 ^ 53:=Nat.pow_le_pow_right (by omega) (by omega)
    have e:2 * B=2 ^ 53:=by decide
    omega
   refine ⟨G * 2 ^ s,?_,?_⟩
   ·have:=(V_at (s:=0) u1 (.inl rfl)).1
    rw [Nat.zero_mul,Nat.zero_add] at this
    rw [this];simp
   ·have:2 * B<=INF:=by decide
    omega
theorem z7q (n:Int):floatOfInt .f64 n=double.word (decide (n < 0)) (R n.natAbs 0):=by
 unfold floatOfInt FloatKind.nearest FloatKind.encode
 show double.nearest _ _ _=_
 rw [ztl]
theorem z4d (m:Nat) {c s:Nat} (h:c<=s):m * 2 ^ s=m * 2 ^ (s - c) * 2 ^ c:=by rw [Nat.mul_assoc,<- Nat.pow_add,Nat.sub_add_cancel h]
def T (r:Nat):Nat:=V r / 2 ^ EX
theorem T_le {a b:Nat} (h:a<=b):T a<=T b:=Nat.div_le_div_right (V_le h)
theorem z5z {x:Nat} (hx:rung x < INF):(FloatKind.f64.decode x).toInt .zero=some (if neg x then -(T (rung x):Int) else (T (rung x):Int)):=by
 show (double.read x).toInt .zero=_
 rw [zgx hx]
 generalize rung x=r
 unfold Datum.toInt
 simp only [Datum.integral,Option.some.injEq]
 have key:Toward.zero.cut (neg x) (mg r <<< (-1074 + (sh r:Int)).toNat) (-(-1074 + (sh r:Int))).toNat=T r:=by
  unfold Toward.cut T V
  simp only [Bool.toNat_false,Nat.add_zero]
  rw [zqb,Nat.shiftLeft_eq]
  generalize mg r=m
  generalize sh r=s
  have hE:=z6b
  by_cases h:EX<=s
  ·have u1:(-1074 + (s:Int)).toNat=s - EX:=by omega
   have u2:(-(-1074 + (s:Int))).toNat=0:=by omega
   rw [u1,u2,Nat.zero_min,Nat.pow_zero,Nat.div_one]
   rw [z4d m h,Nat.mul_div_cancel _ (zfj _)]
  ·have u1:(-1074 + (s:Int)).toNat=0:=by omega
   have u2:(-(-1074 + (s:Int))).toNat=EX - s:=by omega
   rw [u1,u2,Nat.pow_zero,Nat.mul_one]
   have e:m * 2 ^ s / 2 ^ EX=m / 2 ^ (EX - s):=by
    have:(2:Nat) ^ EX=2 ^ (EX - s) * 2 ^ s:=by rw [<- Nat.pow_add,Nat.sub_add_cancel (by omega)]
    rw [this,Nat.mul_div_mul_right _ _ (zfj _)]
   rw [e]
   by_cases hd:EX - s<=m.log2 + 2
   ·rw [Nat.min_eq_left hd]
   ·rw [Nat.min_eq_right (by omega)]
    have l2:m < 2 ^ (m.log2 + 1):=Nat.lt_log2_self
    have h1:2 ^ (m.log2 + 1)<=2 ^ (m.log2 + 2):=Nat.pow_le_pow_right (by omega) (by omega)
    have h2:2 ^ (m.log2 + 1)<=2 ^ (EX - s):=Nat.pow_le_pow_right (by omega) (by omega)
    rw [Nat.div_eq_of_lt (by omega),Nat.div_eq_of_lt (by omega)]
 rw [key]
 unfold signed
 rw [Nat.shiftLeft_zero]
def ONE:Nat:=4607182418800017408
theorem ye7:V (ONE - 1)=(2 * B - 1) * 2 ^ 1021:=by decide +kernel
def TOP:Nat:=4890909195324358655
theorem yfy:V TOP=(2 * B - 1) * 2 ^ 1084:=by decide +kernel
theorem yfj:TOP < INF:=by decide
theorem z3f:V (TOP + 1)=2 ^ 63 * 2 ^ EX:=by decide +kernel
theorem ygd:(T TOP:Int)<=9223372036854775807:=by decide +kernel
theorem z4f {rx:Nat} (hx:rx < ONE) {n:Nat} (hn:n<=9223372036854775807):V rx * V (R n 0)<=V TOP * 2 ^ EX:=by
 have h1:V rx<=(2 * B - 1) * 2 ^ 1021:=by rw [<- ye7];exact V_le (by unfold ONE at *;omega)
 have h63:n<=2 ^ 63:=by
  have:(2:Nat) ^ 63=9223372036854775808:=by decide
  omega
 have h2:R n 0<=TOP + 1:=by
  refine zvl (K:=0) (e:=EX) (by rw [z6b];omega) ?_
  rw [z3f,Nat.pow_zero,Nat.mul_one]
  exact Nat.mul_le_mul_right _ h63
 have h3:V (R n 0)<=2 ^ 63 * 2 ^ EX:=by rw [<- z3f];exact V_le h2
 have h4:=Nat.mul_le_mul h1 h3
 rw [yfy]
 have e:(2 * B - 1) * 2 ^ 1021 * (2 ^ 63 * 2 ^ EX)=(2 * B - 1) * 2 ^ 1084 * 2 ^ EX:=by decide +kernel
 rw [e] at h4
 exact h4
end Fl

end Go.Proofs.YthgekdlegbmehaaGreat

namespace Go.Proofs.YthgekdlegbmehaaGreat

namespace Fl

open Ieee

theorem zs7 (x:Nat):rung (x ^^^ 2 ^ 63)=rung x:=by
 have e:SW=2 ^ 63:=by decide
 unfold rung
 rw [e,Nat.xor_mod_two_pow,Nat.mod_self,Nat.xor_zero]
theorem z6h {x:Nat}:neg (x ^^^ 2 ^ 63)= !neg x:=by
 have e:SW=2 ^ 63:=by decide
 unfold neg
 rw [e,<- Nat.shiftRight_eq_div_pow,<- Nat.shiftRight_eq_div_pow,Nat.shiftRight_xor_distrib]
 have:2 ^ 63 >>> 63=1:=by decide
 rw [this]
 have h:=Nat.xor_mod_two_pow (a:=x >>> 63) (b:=1) (n:=1)
 have h1:(2:Nat) ^ 1=2:=rfl
 rw [h1] at h
 rw [h]
 rcases Nat.mod_two_eq_zero_or_one (x >>> 63) with h' | h' <;> rw [h'] <;> decide
theorem ybg (x:Nat):iv (x ^^^ 2 ^ 63)= -iv x:=by
 unfold iv
 rw [zs7,z6h]
 cases neg x <;> simp
theorem z5s (x:Nat):nan (x ^^^ 2 ^ 63)=nan x:=by
 unfold nan;rw [zs7]
theorem ya6 {x:Nat} (h:nan x=false): -(INF:Int)<=iv x/\iv x<=INF:=by
 unfold nan at h
 have h:rung x<=INF:=by simpa using h
 unfold iv
 split <;> omega
def zg4 (x:Nat):Int:=if nan x then 0 else if iv x= -(INF:Int) then 1 else if iv x=(INF:Int) then 5 else if iv x < 0 then 2 else if 0 < iv x then 4 else 3
def key (x:Nat):Int:=if nan x then -(2 * INF + 3:Int) else if neg x then -(2 * (rung x:Int) + 1) else 2 * (rung x:Int)
def zv5:Nat:=9218868437227405311
theorem z3o:iv zv5=9218868437227405311:=by decide
theorem zzk:nan zv5=false:=by decide
theorem z2z:iv 0=0:=by decide
theorem zw2:nan 0=false:=by decide
theorem zsg (x:Nat):gtB x zv5=decide (zg4 x=5):=by
 unfold gtB
 rw [zzk,z3o]
 unfold zg4
 cases h:nan x
 ·have:=ya6 h
  simp only [Bool.not_false,Bool.true_and,Bool.false_eq_true,if_false]
  unfold INF at *
  rw [Bool.eq_iff_iff,decide_eq_true_eq,decide_eq_true_eq]
  split
  ·omega
  ·split
   ·omega
   ·split <;> (try split) <;> omega
 ·simp
theorem z18 (x:Nat):gtB (x ^^^ 2 ^ 63) zv5=decide (zg4 x=1):=by
 rw [zsg]
 unfold zg4
 rw [z5s,ybg]
 cases h:nan x
 ·have:=ya6 h
  simp only [Bool.false_eq_true,if_false]
  unfold INF at *
  rw [Bool.eq_iff_iff,decide_eq_true_eq,decide_eq_true_eq]
  by_cases h1:iv x= -9218868437227405312
  ·simp [h1]
  ·by_cases h2:iv x=9218868437227405312
   ·simp [h2]
   ·by_cases h3:iv x < 0
    ·rw [if_neg (by omega),if_neg (by omega),if_neg (by omega),if_pos (by omega),if_neg (by omega),if_neg (by omega),if_pos (by omega)];simp
    ·by_cases h4:0 < iv x
     ·rw [if_neg (by omega),if_neg (by omega),if_pos (by omega),if_neg (by omega),if_neg (by omega),if_neg (by omega),if_pos (by omega)];simp
     ·rw [if_neg (by omega),if_neg (by omega),if_neg (by omega),if_neg (by omega),if_neg (by omega),if_neg (by omega),if_neg (by omega),if_neg (by omega)];simp
 ·simp
theorem yce (x:Nat):ltB x 0=(!nan x && decide (iv x < 0)):=by
 unfold ltB;rw [zw2,z2z];simp
theorem z9v (x:Nat):gtB x 0=(!nan x && decide (0 < iv x)):=by
 unfold gtB;rw [zw2,z2z];simp
theorem yax (x:Nat):eqB x x= !nan x:=by
 unfold eqB;cases nan x <;> simp
theorem zst {x:Nat}:zg4 x=0↔nan x=true:=by
 unfold zg4
 cases nan x
 ·simp only [Bool.false_eq_true,if_false,iff_false]
  repeat' split
  all_goals omega
 ·simp
theorem z4r {x:Nat} (h:nan x=false):(zg4 x=1/\iv x= -(INF:Int))\/(zg4 x=2/\ -(INF:Int) < iv x/\iv x < 0)\/(zg4 x=3/\iv x=0)\/(zg4 x=4/\0 < iv x/\iv x < (INF:Int))\/(zg4 x=5/\iv x=(INF:Int)):=by
 have h1:=ya6 h
 have hI:(0:Int) < (INF:Int):=by decide
 unfold zg4
 rw [if_neg (by simp [h])]
 by_cases a:iv x= -(INF:Int)
 ·rw [if_pos a];omega
 ·rw [if_neg a]
  by_cases b:iv x=(INF:Int)
  ·rw [if_pos b];omega
  ·rw [if_neg b]
   by_cases c:iv x < 0
   ·rw [if_pos c];omega
   ·rw [if_neg c]
    by_cases d:0 < iv x
    ·rw [if_pos d];omega
    ·rw [if_neg d];omega
end Fl

end Go.Proofs.YthgekdlegbmehaaGreat

namespace Go.Proofs.YthgekdlegbmehaaGreat

namespace Fl

open Ieee

def zi8 (a b:Nat):Nat:=R (mg a * mg b) (-1074 + (sh a:Int) + (-1074 + (sh b:Int)))
theorem ye3 (a b:Nat):V a * V b=mg a * mg b * 2 ^ (sh a + sh b):=by
 unfold V;rw [Nat.pow_add];simp only [Nat.mul_assoc,Nat.mul_left_comm]
theorem yec (a b:Nat):((sh a + sh b:Nat):Int)= -1074 + (sh a:Int) + (-1074 + (sh b:Int)) + 1074 + EX:=by
 have:=z6b;omega
theorem zwq {a b r:Nat} (h:V a * V b<=V r * 2 ^ EX):zi8 a b<=r:=zvl (yec a b) (by rw [<- ye3];exact h)
theorem z6i {x y:Nat} (hx:rung x < INF) (hy:rung y < INF):double.mul x y=some (double.word (neg x ^^ neg y) (zi8 (rung x) (rung y))):=by
 unfold Format.mul
 rw [zgx hx,zgx hy]
 simp only [Datum.product,Option.map_some,Format.write,ztl]
 rfl
theorem zyc {n:Int} (h0: -9223372036854775808<=n) (h1:n<=9223372036854775807):rung (floatOfInt .f64 n)=R n.natAbs 0/\neg (floatOfInt .f64 n)=decide (n < 0)/\R n.natAbs 0<=TOP + 1/\rung (floatOfInt .f64 n) < INF:=by
 have hI:INF < SW:=zs1
 have h63:n.natAbs<=2 ^ 63:=by
  have:(2:Nat) ^ 63=9223372036854775808:=by decide
  omega
 have h2:R n.natAbs 0<=TOP + 1:=by
  refine zvl (K:=0) (e:=EX) (by rw [z6b];omega) ?_
  rw [z3f,Nat.pow_zero,Nat.mul_one]
  exact Nat.mul_le_mul_right _ h63
 have h3:TOP + 1 < INF:=by decide
 rw [z7q]
 have h4:=R_le n.natAbs 0
 rw [zs6 _ (by omega),zv3 _ (by omega)]
 exact ⟨rfl,rfl,h2,by omega⟩
theorem yfe:iv ONE=(ONE:Int):=by decide +kernel
theorem yaf:nan ONE=false:=by decide +kernel
def zdr (x:Nat) (n:Int):Int:=
 if n < 1\/nan x=true\/iv x < 0 then 0 else if (ONE:Int)<=iv x then n - 1 else min (T (zi8 (rung x) (R n.natAbs 0)):Int) (n - 1)
theorem zye {x:Nat} {n:Int} (hn:1<=n) (hn2:n<=9223372036854775807) (h0:0<=iv x) (h1:iv x < (ONE:Int)):
  ∃ r,floatBits .mul .f64 x (floatOfInt .f64 n)=some r/\floatToIntVal .f64 r .i64=some (T (zi8 (rung x) (R n.natAbs 0)):Int)/\(T (zi8 (rung x) (R n.natAbs 0)):Int)<=9223372036854775807:=by
 have hO:ONE < INF:=by decide
 have hO0:0 < ONE:=by decide
 have hx:rung x < ONE:=by
  unfold iv at h0 h1
  cases hn:neg x <;> simp only [hn,if_true,if_false,Bool.false_eq_true] at h0 h1 <;> omega
 obtain ⟨e1,e2,e3,e4⟩:=zyc (n:=n) (by omega) hn2
 have hP:zi8 (rung x) (R n.natAbs 0)<=TOP:=zwq (z4f hx (by omega))
 have hT:=T_le hP
 have hTT:=ygd
 refine ⟨double.word (neg x ^^ neg (floatOfInt .f64 n)) (zi8 (rung x) (R n.natAbs 0)),?_,?_,by omega⟩
 ·show double.mul _ _=_
  rw [z6i (by omega) e4,e1]
 ·have hI:INF < SW:=zs1
  have hTI:=yfj
  unfold floatToIntVal
  have hr:=zs6 (neg x ^^ neg (floatOfInt .f64 n)) (r:=zi8 (rung x) (R n.natAbs 0)) (by omega)
  rw [z5z (by rw [hr];omega),hr,zv3 _ (by omega)]
  have hz:(neg x ^^ neg (floatOfInt .f64 n))=true->T (zi8 (rung x) (R n.natAbs 0))=0:=by
   intro h
   rw [e2,decide_eq_false (by omega),Bool.xor_false] at h
   have hr0:rung x=0:=by unfold iv at h0;rw [if_pos h] at h0;omega
   have:zi8 (rung x) (R n.natAbs 0)<=0:=zwq (by rw [hr0,zo0];simp)
   have h2:zi8 (rung x) (R n.natAbs 0)=0:=by omega
   rw [h2];decide +kernel
  have e5:(if (neg x ^^ neg (floatOfInt .f64 n))=true then -(T (zi8 (rung x) (R n.natAbs 0)):Int) else (T (zi8 (rung x) (R n.natAbs 0)):Int))=(T (zi8 (rung x) (R n.natAbs 0)):Int):=by
   split
   ·rename_i h;rw [hz h];rfl
   ·rfl
  rw [e5]
  have m1:IntKind.i64.min= -9223372036854775808:=by decide
  have m2:IntKind.i64.max=9223372036854775807:=by decide
  simp only [m1,m2]
  rw [if_pos ⟨by omega,by omega⟩]
end Fl

end Go.Proofs.YthgekdlegbmehaaGreat

namespace Go.Proofs.YthgekdlegbmehaaGreat

namespace Fl

open Ieee

theorem z2u (x:Nat) {n:Int} (hn:1<=n):0<=zdr x n/\zdr x n < n:=by
 unfold zdr
 split
 ·omega
 ·split
  ·omega
  ·omega
end Fl

end Go.Proofs.YthgekdlegbmehaaGreat

namespace Go.Proofs.YthgekdlegbmehaaGreat

open Go.RowKit

attribute [local go_sem ↓] Go.wp_at_zero Go.wp_at_succ

theorem zxp (q p b:Nat) (s:Sh) (t:Ad) (m:Mem) (w:World) (h0:At3 q p b w w (zan s t) 129 m) (hf:Fits s m) (hs:m.st < 1000000000) (ho:adOk s t) (hdn:t.done=false) (hn:3<=t.next/\t.next<=8):
  Calls Tryz.prog 167 #[.pointer (some ⟨q,0,.none⟩),.pointer (some ⟨p,0,.none⟩)] w fun e w'=> e= .returned (.tuple #[])/\At3 q p b w w' (zan s (za0 s t m).1) 129 (za0 s t m).2:=by
 obtain ⟨h1,h2,h3,h4,h5,c1,c4,c7,c9,c11⟩:=ho.cl hdn
 rcases (by omega:t.next=3\/t.next=4\/t.next=5\/t.next=6\/t.next=7\/t.next=8) with n | n | n | n | n | n
 ·exact z9q q p b s t m w h0 hf hs hdn n h5
 ·exact yak q p b s t m w h0 hf hs hdn n h5 c4
 ·exact z9w q p b s t m w h0 hf hs hdn n h5
 ·exact yb9 q p b s t m w h0 hf hs hdn n h5
 ·exact yap q p b s t m w h0 hf hs hdn n h5 (c7 n)
 ·exact yau q p b s t m w h0 hf hs hdn n h5
theorem zyj (q p b:Nat) (s:Sh) (t:Ad) (m:Mem) (w:World) (h0:At3 q p b w w (zan s t) 129 m) (hf:Fits s m) (hs:m.st < 1000000000) (ho:adOk s t) (hdn:t.done=false) (hn:10<=t.next):
  Calls Tryz.prog 168 #[.pointer (some ⟨q,0,.none⟩),.pointer (some ⟨p,0,.none⟩)] w fun e w'=> e= .returned (.tuple #[])/\At3 q p b w w' (zan s (za0 s t m).1) 129 (za0 s t m).2:=by
 obtain ⟨h1,h2,h3,h4,h5,c1,c4,c7,c9,c11⟩:=ho.cl hdn
 have hi:t.next=11\/t.next=12->0<=t.i/\t.i < 16:=fun e=> by
  have h:=c11 e
  have:=zb4 h.1
  omega
 rcases (by omega:t.next=10\/t.next=11\/t.next=12\/t.next=13) with n | n | n | n
 ·exact z7h q p b s t m w h0 hf hs hdn n h5
 ·exact z7x q p b s t m w h0 hf hs hdn n h5 (hi (.inl n))
 ·exact z6v q p b s t m w h0 hf hs hdn n h5 (hi (.inr n))
 ·exact z7k q p b s t m w h0 hf hs hdn n h5 h3
theorem zyd (q p b:Nat) (s:Sh) (t:Ad) (m:Mem) (w:World) (hq:zaa w q (zan s t) 129) (hw:zaq w p b m) (hqp:q≠p) (hqb:q≠b) (hf:Fits s m) (ho:adOk s t) (hs:m.st < 1000000000):
  Calls Tryz.prog 164 #[.pointer (some ⟨q,0,.none⟩),.pointer (some ⟨p,0,.none⟩)] w fun e w'=> Stepped q p b w w' e (zan s (za0 s t m).1) 129 (za0 s t m).2:=by
 have h0:=At3.start hq hw hqp hqb
 clear hq hw hqp hqb
 rcases Bool.eq_false_or_eq_true t.done with hd | hd
 ·rw [zkx s t m hd]
  obtain ⟨sp,sc,sm⟩:=s
  obtain ⟨tc,td,tn,tw,tby,ta,ti,pk,pa,pb,terr,tdone⟩:=t
  dsimp only at hd
  subst hd
  have c14:=ce (.bool true) (h0.cell 14)
  clear hf ho hs
  go_enter Tryz.func164,Tryz.ntmps164
  go_wp2_with fail
  go_returns
  exact h0.fin rfl rfl
 have hcl:=ho.cl hd
 by_cases hg:t.next=9
 case pos=>
  obtain ⟨b1,c0,d0,n0,at0,w1,w4,w7,w9,w11⟩:=hcl
  have hi:=w9 hg
  have hbd:=zar.1 b1
  rw [zl8 s t m hd hg]
  obtain ⟨hpx,hph⟩:=hf.mag d0 hi
  have hcpp:=fun Y=> zjh s.p s.c s.m t.d t.i Y
  rw [hpx] at hcpp ⊢
  have hst:=fun Y (hY:zaq Y p b m)=> zba p b m t.c (s.c + s.p + s.p * 16 + t.d * s.m + t.i) 0 Y hY hph (by decide) hs
  generalize s.c + s.p + s.p * 16 + t.d * s.m + t.i=pg at *
  have w1:=wrp (t.i + 1)
  have hcs:t.i + 1=s.m\/(¬ t.i + 1=s.m/\(t.i + 1==s.m)=false):=by
   by_cases h:t.i + 1=s.m
   ·exact .inl h
   ·exact .inr ⟨h,by simpa using h⟩
  dsimp only
  obtain ⟨t2,ht2,ht2'⟩:∃ t2:Ad,Hid (t2=if t.i + 1=s.m then { t with i:=0,next:=10 } else { t with i:=t.i + 1 })/\t2=_:=⟨_,hd' rfl,rfl⟩
  rw [<- ht2']
  clear ht2' hpx hph hf ho hi hbd b1 c0 d0 n0 at0 w4 w7 w9 w11
  obtain ⟨sp,sc,sm⟩:=s
  obtain ⟨tc,td,tn,tw,tby,ta,ti,pk,pa,pb,terr,tdone⟩:=t
  dsimp only at hd hg hcpp hst ht2 hcs w1
  subst hd hg
  replace hcpp:=hd' hcpp
  replace hst:=hd' hst
  replace hcs:=hd' hcs
  have lq:=h0.lt
  obtain ⟨c0,c1,c2,c3,c4,c5⟩:=ci6 sp sc sm tc td 9 h0.cell
  have c9:=ci ti (h0.cell 9)
  have c14:=ce (.bool false) (h0.cell 14)
  go_enter Tryz.func164,Tryz.ntmps164
  go_upto_region 7 with fail
  refine zad 18 (by kernel_rfl) (by kernel_rfl) ?_
  dsimp only [List.take,List.drop]
  repeat (go_big_quiet_step ((first | (go_at_call 149;exact zam (hcpp.out _)) | fail)))
  refine wpQuiet_nil ?_
  rintro _ ⟨e',rfl⟩
  have hZ:=h0.below e'.below
  generalize e'.w=Z at *
  change wpList _ _ _ _ _ Z
  clear lq h0 c0 c1 c2 c3 c4 c5 c9 c14
  go_upto_region 9 with (first
   | (go_at_call 118;(with_reducible refine (hst.out _ hZ.wds).mono ?_);rintro r w2 ⟨rfl,hw2,ho2⟩;have hA:=hZ.access hw2 ho2;have k9:=ci ti (hA.cell 9);have zf:=hA.free)
   | fail)
  have hB:=hA.set 9 (.int .i64 (ti + 1))
  generalize World.setCell _ ⟨q,9,.none⟩ (.int .i64 (ti + 1))=U at *
  clear k9 zf hA
  have lU:=hB.lt
  have c2:=ci sm (hB.cell 2)
  have c9:=ci (ti + 1) (hB.cell 9)
  refine zaj (by kernel_rfl) (by kernel_rfl) ?_
  repeat (go_big_quiet_step (fail))
  refine wpQuiet_nil ?_
  rintro _ ⟨e',rfl⟩
  have hX:=hB.below e'.below
  generalize e'.w=X at *
  clear c2 c9
  rcases hcs.out with h1 | ⟨h1,h2⟩
  ·subst h1
   replace ht2:=hd' (ht2.out.trans (if_pos rfl))
   clear hcs
   have k5:=ci 9 (hX.cell 5)
   have k9:=ci (ti + 1) (hX.cell 9)
   have zf:=hX.free
   go_wp2_with fail
   go_returns
   exact ((hX.set 9 _).set 5 _).fin (by rw [ht2.out];rfl) rfl
  ·replace ht2:=hd' (ht2.out.trans (if_neg h1))
   clear hcs h1
   go_wp2_with fail
   go_returns
   exact hX.fin (by rw [ht2.out];rfl) rfl
 case neg=>
  by_cases h2:t.next<=2
  ·have hb:=zvq q p b s t m w h0 hf hs hd ⟨hcl.2.2.2.1.1,h2⟩ hcl.2.2.1 hcl.2.2.2.2.2.1
   obtain ⟨t2,ht2⟩:∃ t2,t2=(za0 s t m).1:=⟨_,rfl⟩
   obtain ⟨m2,hm2⟩:∃ m2,m2=(za0 s t m).2:=⟨_,rfl⟩
   rw [<- ht2,<- hm2] at hb ⊢
   clear ht2 hm2 hf ho hs
   obtain ⟨sp,sc,sm⟩:=s
   obtain ⟨tc,td,tn,tw,tby,ta,ti,pk,pa,pb,terr,tdone⟩:=t
   dsimp only at hd hg hcl h2
   have hn:=hcl.2.2.2.1
   clear hcl
   subst hd
   replace hb:=hd' hb
   have c5:=ci tn (h0.cell 5)
   have c14:=ce (.bool false) (h0.cell 14)
   clear h0
   rcases (by omega:tn=0\/tn=1\/tn=2) with rfl | rfl | rfl
   all_goals
    go_enter Tryz.func164,Tryz.ntmps164
    go_wp2_with (first | (go_at_call 166;(with_reducible refine hb.out.mono ?_);rintro r w1 ⟨rfl,hA⟩) | fail)
    go_returns
    exact hA.fin rfl rfl
  by_cases h8:t.next<=8
  ·have hb:=zxp q p b s t m w h0 hf hs ho hd ⟨by omega,h8⟩
   obtain ⟨t2,ht2⟩:∃ t2,t2=(za0 s t m).1:=⟨_,rfl⟩
   obtain ⟨m2,hm2⟩:∃ m2,m2=(za0 s t m).2:=⟨_,rfl⟩
   rw [<- ht2,<- hm2] at hb ⊢
   clear ht2 hm2 hf ho hs
   obtain ⟨sp,sc,sm⟩:=s
   obtain ⟨tc,td,tn,tw,tby,ta,ti,pk,pa,pb,terr,tdone⟩:=t
   dsimp only at hd hg hcl h2 h8
   have hn:=hcl.2.2.2.1
   clear hcl
   subst hd
   replace hb:=hd' hb
   have c5:=ci tn (h0.cell 5)
   have c14:=ce (.bool false) (h0.cell 14)
   clear h0
   rcases (by omega:tn=3\/tn=4\/tn=5\/tn=6\/tn=7\/tn=8) with rfl | rfl | rfl | rfl | rfl | rfl
   all_goals
    go_enter Tryz.func164,Tryz.ntmps164
    go_wp2_with (first | (go_at_call 167;(with_reducible refine hb.out.mono ?_);rintro r w1 ⟨rfl,hA⟩) | fail)
    go_returns
    exact hA.fin rfl rfl
  by_cases h13:t.next<=13
  ·have hb:=zyj q p b s t m w h0 hf hs ho hd (by omega)
   obtain ⟨t2,ht2⟩:∃ t2,t2=(za0 s t m).1:=⟨_,rfl⟩
   obtain ⟨m2,hm2⟩:∃ m2,m2=(za0 s t m).2:=⟨_,rfl⟩
   rw [<- ht2,<- hm2] at hb ⊢
   clear ht2 hm2 hf ho hs
   obtain ⟨sp,sc,sm⟩:=s
   obtain ⟨tc,td,tn,tw,tby,ta,ti,pk,pa,pb,terr,tdone⟩:=t
   dsimp only at hd hg hcl h2 h8 h13
   have hn:=hcl.2.2.2.1
   clear hcl
   subst hd
   replace hb:=hd' hb
   have c5:=ci tn (h0.cell 5)
   have c14:=ce (.bool false) (h0.cell 14)
   clear h0
   rcases (by omega:tn=10\/tn=11\/tn=12\/tn=13) with rfl | rfl | rfl | rfl
   all_goals
    go_enter Tryz.func164,Tryz.ntmps164
    go_wp2_with (first | (go_at_call 168;(with_reducible refine hb.out.mono ?_);rintro r w1 ⟨rfl,hA⟩) | fail)
    go_returns
    exact hA.fin rfl rfl
  ·exact absurd hcl.2.2.2.1.2 (by omega)
end Go.Proofs.YthgekdlegbmehaaGreat
