/- Texts bound together: Fl FlR FlS FlE FlT FlU. -/
import Derived.Laws.FloatArith

set_option linter.all false
/- Floats as places on one line: a word that is a number or an infinity has a whole number as its place, and the model's order of two words is the order of their places. -/
namespace Go.Proofs.YtampacmmhhilaaaGreat

namespace Fl

open Ieee

def B:Nat:=4503599627370496
def INF:Nat:=9218868437227405312
def SW:Nat:=9223372036854775808
theorem binade_eq:double.binade=B:=by decide
theorem inf_eq:double.infRung=INF:=by decide
theorem sw_eq:double.signWeight=SW:=by decide
theorem least_eq:double.leastPlace= -1074:=by decide
theorem B_pos:0 < B:=by decide
theorem B_le_INF:B≤INF:=by decide
theorem INF_lt_SW:INF < SW:=by decide
/-- The place without its sign; the sign. -/
def rung (w:Nat):Nat:=w % SW
def neg (w:Nat):Bool:=w / SW % 2==1
def mg (r:Nat):Nat:=if r < B then r else B + r % B
def sh (r:Nat):Nat:=if r < B then 0 else r / B - 1
/-- How great the number at a place is, counted in the least. -/
def V (r:Nat):Nat:=mg r * 2 ^ sh r
/-- The place on the line. -/
def iv (w:Nat):Int:=if neg w then -(rung w:Int) else (rung w:Int)
def nan (w:Nat):Bool:=decide (INF < rung w)
theorem read_eq (w:Nat):double.read w=if rung w < B then .number (neg w) (rung w) (-1074) else if rung w < INF then .number (neg w) (B + rung w % B) (-1074 + (rung w / B - 1:Nat)) else if rung w=INF then .infinity (neg w) else .nan (neg w) (rung w - INF):=by
 unfold Format.read
 simp only [binade_eq,inf_eq,sw_eq,least_eq]
 rfl
theorem read_num {w:Nat} (h:rung w < INF):double.read w= .number (neg w) (mg (rung w)) (-1074 + (sh (rung w):Nat)):=by
 rw [read_eq]
 unfold mg sh
 by_cases h1:rung w < B
 ·simp [h1]
 ·rw [if_neg h1,if_pos h,if_neg h1,if_neg h1]
theorem read_inf {w:Nat} (h:rung w=INF):double.read w= .infinity (neg w):=by
 have h2:¬ INF < B:=by decide
 rw [read_eq,h,if_neg h2,if_neg (by omega),if_pos rfl]
theorem read_nan {w:Nat} (h:INF < rung w):double.read w= .nan (neg w) (rung w - INF):=by
 have h2:B≤INF:=B_le_INF
 rw [read_eq,if_neg (by omega),if_neg (by omega),if_neg (by omega)]
theorem V_zero:V 0=0:=by decide
theorem V_succ (r:Nat):V r < V (r + 1):=by
 have hB:=B_pos
 unfold V mg sh
 by_cases h:r + 1 < B
 ·rw [if_pos (by omega),if_pos (by omega),if_pos h,if_pos h];simp
 ·rw [if_neg h,if_neg h]
  by_cases h1:r < B
  ·have e:r + 1=B:=by omega
   rw [if_pos h1,if_pos h1,e,Nat.mod_self,Nat.div_self hB];simp;omega
  ·rw [if_neg h1,if_neg h1]
   have hd:=Nat.div_add_mod r B
   have hm:=Nat.mod_lt r hB
   have hq:1≤r / B:=by
    rw [Nat.le_div_iff_mul_le hB];omega
   by_cases h2:r % B + 1 < B
   ·have e1:(r + 1) / B=r / B:=by
     rw [Nat.div_eq_iff hB]
     rw [Nat.mul_comm] at hd
     have:=Nat.add_mul (r / B) 1 B
     omega
    have e2:(r + 1) % B=r % B + 1:=by
     have:=Nat.div_add_mod (r + 1) B
     rw [e1] at this
     omega
    rw [e1,e2]
    exact Nat.mul_lt_mul_of_pos_right (by omega) (Nat.two_pow_pos _)
   ·have e0:r % B=B - 1:=by omega
    have e1:(r + 1) / B=r / B + 1:=by
     rw [Nat.div_eq_iff hB]
     rw [Nat.mul_comm] at hd
     have:=Nat.add_mul (r / B) 1 B
     have:=Nat.add_mul (r / B + 1) 1 B
     omega
    have e2:(r + 1) % B=0:=by
     have:=Nat.div_add_mod (r + 1) B
     rw [e1,Nat.mul_add] at this
     omega
    rw [e0,e1,e2]
    have e3:r / B + 1 - 1=(r / B - 1) + 1:=by omega
    rw [e3,Nat.pow_succ,Nat.add_zero,← Nat.mul_assoc,Nat.mul_right_comm]
    exact Nat.mul_lt_mul_of_pos_right (by omega) (Nat.two_pow_pos _)
theorem V_lt {a b:Nat} (h:a < b):V a < V b:=by
 induction b with
 | zero=> omega
 | succ n ih=>
  rcases Nat.lt_or_ge a n with h1 | h1
  ·exact Nat.lt_trans (ih h1) (V_succ n)
  ·obtain rfl:a=n:=by omega
   exact V_succ a
theorem V_le {a b:Nat} (h:a≤b):V a≤V b:=by
 rcases Nat.lt_or_eq_of_le h with h | rfl
 ·exact Nat.le_of_lt (V_lt h)
 ·exact Nat.le_refl _
theorem V_lt_iff {a b:Nat}:V a < V b↔a < b:=⟨fun h=> by
 rcases Nat.lt_or_ge a b with h1 | h1
 ·exact h1
 ·have:=V_le h1;omega,V_lt⟩
/-- The number at a place, with its sign. -/
def sv (w:Nat):Int:=if neg w then -(V (rung w):Int) else (V (rung w):Int)
theorem sv_lt_iff {x y:Nat}:sv x < sv y↔iv x < iv y:=by
 have h1:=@V_lt_iff (rung x) (rung y)
 have h2:=@V_lt_iff (rung y) (rung x)
 have hx:=@V_lt_iff 0 (rung x)
 have hy:=@V_lt_iff 0 (rung y)
 rw [V_zero] at hx hy
 unfold sv iv
 cases neg x <;> cases neg y <;> simp only [if_true,if_false,Bool.false_eq_true] <;> omega
theorem sv_eq_iff {x y:Nat}:sv x=sv y↔iv x=iv y:=by
 have h1:=@sv_lt_iff x y
 have h2:=@sv_lt_iff y x
 omega
theorem cmp_of {a b c d:Int} (h1:a < b↔c < d) (h2:a=b↔c=d):compare a b=compare c d:=by
 simp only [compare,compareOfLessAndEq]
 by_cases h:c < d
 ·rw [if_pos h,if_pos (h1.2 h)]
 ·rw [if_neg h,if_neg (fun h'=> h (h1.1 h'))]
  by_cases h':c=d
  ·rw [if_pos h',if_pos (h2.2 h')]
  ·rw [if_neg h',if_neg (fun h''=> h' (h2.1 h''))]
theorem signed_scale (s:Bool) (m k a:Nat):signed s m a * ((2 ^ k:Nat):Int)=signed s m (a + k):=by
 unfold signed
 rw [Nat.shiftLeft_eq,Nat.shiftLeft_eq,Nat.pow_add,← Nat.mul_assoc]
 cases s
 ·simp [Int.natCast_mul]
 ·simp [Int.natCast_mul,Int.neg_mul]
theorem sv_signed (w:Nat):sv w=signed (neg w) (mg (rung w)) (sh (rung w)):=by
 unfold sv signed V
 rw [Nat.shiftLeft_eq]
theorem order_eq {x y:Nat} (hx:rung x≤INF) (hy:rung y≤INF):double.order x y=some (compare (iv x) (iv y)):=by
 unfold Format.order
 rcases Nat.lt_or_eq_of_le hx with hx | hx
 ·rcases Nat.lt_or_eq_of_le hy with hy | hy
  ·rw [read_num hx,read_num hy]
   simp only [Datum.order,Option.some.injEq]
   generalize ha:sh (rung x)=a
   generalize hb:sh (rung y)=b
   have e1:(-1074 + (a:Int) - min (-1074 + (a:Int)) (-1074 + (b:Int))).toNat=a - min a b:=by omega
   have e2:(-1074 + (b:Int) - min (-1074 + (a:Int)) (-1074 + (b:Int))).toNat=b - min a b:=by omega
   rw [e1,e2]
   have s1:=signed_scale (neg x) (mg (rung x)) (min a b) (a - min a b)
   have s2:=signed_scale (neg y) (mg (rung y)) (min a b) (b - min a b)
   rw [Nat.sub_add_cancel (Nat.min_le_left _ _),← ha,← sv_signed] at s1
   rw [Nat.sub_add_cancel (Nat.min_le_right _ _),← hb,← sv_signed] at s2
   rw [ha] at s1;rw [hb] at s2
   have hp:(0:Int) < ((2 ^ min a b:Nat):Int):=by exact_mod_cast Nat.two_pow_pos _
   generalize ((2 ^ min a b:Nat):Int)=p at *
   generalize signed (neg x) (mg (rung x)) (a - min a b)=X at *
   generalize signed (neg y) (mg (rung y)) (b - min a b)=Y at *
   apply cmp_of
   ·rw [← sv_lt_iff,← s1,← s2]
    exact ⟨fun h=> Int.mul_lt_mul_of_pos_right h hp,fun h=> Int.lt_of_mul_lt_mul_right h (Int.le_of_lt hp)⟩
   ·rw [← sv_eq_iff,← s1,← s2]
    exact ⟨fun h=> by rw [h],fun h=> Int.eq_of_mul_eq_mul_right (by omega) h⟩
  ·rw [read_num hx,read_inf hy]
   simp only [Datum.order,Option.some.injEq]
   have:iv y=if neg y then -(INF:Int) else (INF:Int):=by unfold iv;rw [hy]
   rw [this]
   cases hn:neg y
   ·have h:iv x < (INF:Int):=by unfold iv;split <;> omega
    simp [compare,compareOfLessAndEq,h]
   ·have h:¬ iv x < -(INF:Int):=by unfold iv;split <;> omega
    have h':¬ iv x= -(INF:Int):=by unfold iv;split <;> omega
    simp [compare,compareOfLessAndEq,h,h']
 ·rcases Nat.lt_or_eq_of_le hy with hy | hy
  ·rw [read_inf hx,read_num hy]
   simp only [Datum.order,Option.some.injEq]
   have:iv x=if neg x then -(INF:Int) else (INF:Int):=by unfold iv;rw [hx]
   rw [this]
   cases hn:neg x
   ·have h:¬ (INF:Int) < iv y:=by unfold iv;split <;> omega
    have h':¬ (INF:Int)=iv y:=by unfold iv;split <;> omega
    simp [compare,compareOfLessAndEq,h,h']
   ·have h: -(INF:Int) < iv y:=by unfold iv;split <;> omega
    simp [compare,compareOfLessAndEq,h]
  ·rw [read_inf hx,read_inf hy]
   simp only [Datum.order,Option.some.injEq]
   have e1:iv x=if neg x then -(INF:Int) else (INF:Int):=by unfold iv;rw [hx]
   have e2:iv y=if neg y then -(INF:Int) else (INF:Int):=by unfold iv;rw [hy]
   rw [e1,e2]
   cases neg x <;> cases neg y <;> decide
theorem order_nan {x y:Nat} (h:INF < rung x∨INF < rung y):double.order x y=none:=by
 unfold Format.order
 rcases h with h | h
 ·rw [read_nan h];rfl
 ·rw [read_nan h]
  cases double.read x <;> rfl
/-- The comparisons of Go. -/
def ltB (x y:Nat):Bool:= !nan x && !nan y && decide (iv x < iv y)
def gtB (x y:Nat):Bool:= !nan x && !nan y && decide (iv y < iv x)
def eqB (x y:Nat):Bool:= !nan x && !nan y && decide (iv x=iv y)
theorem order_cases (x y:Nat):double.order x y=if nan x || nan y then none else some (compare (iv x) (iv y)):=by
 unfold nan
 by_cases h1:INF < rung x
 ·rw [order_nan (.inl h1)];simp [h1]
 ·by_cases h2:INF < rung y
  ·rw [order_nan (.inr h2)];simp [h2]
  ·rw [order_eq (by omega) (by omega)];simp [h1,h2]
theorem order_lt (x y:Nat):(double.order x y==some .lt)=ltB x y:=by
 rw [order_cases];unfold ltB
 cases nan x <;> cases nan y <;> simp [compare,compareOfLessAndEq]
 by_cases h:iv x < iv y
 ·simp [h]
 ·by_cases h':iv x=iv y <;> simp [h,h']
theorem order_gt (x y:Nat):(double.order x y==some .gt)=gtB x y:=by
 rw [order_cases];unfold gtB
 cases nan x <;> cases nan y <;> simp [compare,compareOfLessAndEq]
 by_cases h:iv x < iv y
 ·have:¬ iv y < iv x:=by omega
  simp [h,this]
 ·by_cases h':iv x=iv y
  ·simp [h']
  ·have:iv y < iv x:=by omega
   simp [h,h',this]
theorem order_eqB (x y:Nat):(double.order x y==some .eq)=eqB x y:=by
 rw [order_cases];unfold eqB
 cases nan x <;> cases nan y <;> simp [compare,compareOfLessAndEq]
 by_cases h:iv x < iv y
 ·have:¬ iv x=iv y:=by omega
  simp [h,this]
 ·by_cases h':iv x=iv y <;> simp [h,h']
end Fl

end Go.Proofs.YtampacmmhhilaaaGreat
/- Rounding to the nearest float: it is the nearest place, so it rises with the number, and leaves what is a float as it is. -/
namespace Go.Proofs.YtampacmmhhilaaaGreat

namespace Fl

open Ieee

theorem two_pos (n:Nat):0 < 2 ^ n:=Nat.two_pow_pos n
theorem V_next (r:Nat):V (r + 1)=V r + 2 ^ sh r:=by
 have hB:=B_pos
 unfold V mg sh
 by_cases h:r + 1 < B
 ·have h':r < B:=by omega
  simp [h,h']
 ·rw [if_neg h,if_neg h]
  by_cases h1:r < B
  ·have e:r + 1=B:=by omega
   rw [if_pos h1,if_pos h1,e,Nat.mod_self,Nat.div_self hB];simp;omega
  ·rw [if_neg h1,if_neg h1]
   have hd:=Nat.div_add_mod r B
   have hm:=Nat.mod_lt r hB
   have hq:1≤r / B:=by rw [Nat.le_div_iff_mul_le hB];omega
   by_cases h2:r % B + 1 < B
   ·have e1:(r + 1) / B=r / B:=by
     rw [Nat.div_eq_iff hB]
     rw [Nat.mul_comm] at hd
     have:=Nat.add_mul (r / B) 1 B
     omega
    have e2:(r + 1) % B=r % B + 1:=by
     have:=Nat.div_add_mod (r + 1) B
     rw [e1] at this
     omega
    rw [e1,e2,← Nat.add_assoc,Nat.add_mul,Nat.one_mul]
   ·have e0:r % B=B - 1:=by omega
    have e1:(r + 1) / B=r / B + 1:=by
     rw [Nat.div_eq_iff hB]
     rw [Nat.mul_comm] at hd
     have:=Nat.add_mul (r / B) 1 B
     have:=Nat.add_mul (r / B + 1) 1 B
     omega
    have e2:(r + 1) % B=0:=by
     have:=Nat.div_add_mod (r + 1) B
     rw [e1,Nat.mul_add] at this
     omega
    rw [e0,e1,e2]
    have e3:r / B + 1 - 1=(r / B - 1) + 1:=by omega
    rw [e3,Nat.pow_succ,Nat.add_zero]
    generalize 2 ^ (r / B - 1)=t
    have e4:B + (B - 1) + 1=B * 2:=by omega
    rw [← Nat.succ_mul,Nat.succ_eq_add_one,e4,Nat.mul_assoc,Nat.mul_comm t 2]
/-- r is the place nearest to v, counted in the least times 2^-K; between two the even one. -/
def Rnd (v K r:Nat):Prop:=∃ r0,V r0 * 2 ^ K≤v∧v < V (r0 + 1) * 2 ^ K∧
 (2 * v < (V r0 + V (r0 + 1)) * 2 ^ K→r=r0)∧((V r0 + V (r0 + 1)) * 2 ^ K < 2 * v→r=r0 + 1)∧(2 * v=(V r0 + V (r0 + 1)) * 2 ^ K→r=if r0 % 2=0 then r0 else r0 + 1)
theorem Rnd.mono {v v' K r r':Nat} (h:Rnd v K r) (h':Rnd v' K r') (hv:v≤v'):r≤r':=by
 obtain ⟨a,a1,a2,a3,a4,a5⟩:=h
 obtain ⟨b,b1,b2,b3,b4,b5⟩:=h'
 have ra:r=a∨r=a + 1:=by
  rcases Nat.lt_trichotomy (2 * v) ((V a + V (a + 1)) * 2 ^ K) with h | h | h
  ·exact .inl (a3 h)
  ·have:=a5 h;split at this <;> omega
  ·exact .inr (a4 h)
 have rb:r'=b∨r'=b + 1:=by
  rcases Nat.lt_trichotomy (2 * v') ((V b + V (b + 1)) * 2 ^ K) with h | h | h
  ·exact .inl (b3 h)
  ·have:=b5 h;split at this <;> omega
  ·exact .inr (b4 h)
 have hab:a≤b:=by
  rcases Nat.lt_or_ge b a with h | h
  ·have h1:V (b + 1)≤V a:=V_le h
   have h2:=Nat.mul_le_mul_right (2 ^ K) h1
   omega
  ·exact h
 rcases Nat.lt_or_eq_of_le hab with h | rfl
 ·omega
 ·rcases Nat.lt_trichotomy (2 * v) ((V a + V (a + 1)) * 2 ^ K) with h | h | h
  ·have:=a3 h;omega
  ·rcases Nat.lt_or_eq_of_le hv with hv | rfl
   ·have:=b4 (by omega);omega
   ·have:=a5 h;have:=b5 h;split at this <;> split at * <;> omega
  ·have:=a4 h;have:=b4 (by omega);omega
theorem Rnd.exact (r K:Nat):Rnd (V r * 2 ^ K) K r:=by
 have h1:=V_succ r
 have h2:=Nat.mul_lt_mul_of_pos_right h1 (two_pos K)
 refine ⟨r,Nat.le_refl _,h2,fun _=> rfl,fun h=> ?_,fun h=> ?_⟩
 ·rw [Nat.add_mul] at h;omega
 ·rw [Nat.add_mul] at h;omega
/-- One step of the cutting. -/
theorem rnd_step {m low rest d e s K r0 r:Nat} (hm:m=low * 2 ^ d + rest) (hr:rest < 2 ^ d) (he:e + d=s + K) (h0:V r0=low * 2 ^ s) (h1:V (r0 + 1)=(low + 1) * 2 ^ s) (hp:r0 % 2=low % 2)
  (hrr:r=r0 + (2 ^ d < 2 * rest || (2 ^ d==2 * rest && low % 2==1):Bool).toNat):Rnd (m * 2 ^ e) K r:=by
 have e0:V r0 * 2 ^ K=low * 2 ^ d * 2 ^ e:=by rw [h0,Nat.mul_assoc,← Nat.pow_add,← he,Nat.pow_add,Nat.mul_comm (2 ^ e),← Nat.mul_assoc]
 have e1:V (r0 + 1) * 2 ^ K=(low + 1) * 2 ^ d * 2 ^ e:=by rw [h1,Nat.mul_assoc,← Nat.pow_add,← he,Nat.pow_add,Nat.mul_comm (2 ^ e),← Nat.mul_assoc]
 have e2:(V r0 + V (r0 + 1)) * 2 ^ K=(2 * (low * 2 ^ d) + 2 ^ d) * 2 ^ e:=by
  rw [Nat.add_mul,e0,e1,← Nat.add_mul];congr 1;rw [Nat.add_mul,Nat.one_mul];omega
 have e3:2 * (m * 2 ^ e)=(2 * (low * 2 ^ d) + 2 * rest) * 2 ^ e:=by rw [hm,← Nat.mul_assoc];congr 1;omega
 have pe:=two_pos e
 have lt_iff:∀ {a b:Nat},a * 2 ^ e < b * 2 ^ e↔a < b:=fun {a b}=> Nat.mul_lt_mul_right pe
 refine ⟨r0,?_,?_,?_,?_,?_⟩
 ·rw [e0,hm];exact Nat.mul_le_mul_right _ (by omega)
 ·rw [e1,hm,lt_iff,Nat.add_mul];omega
 ·rw [e2,e3,lt_iff]
  intro h
  rw [hrr]
  have a1:¬ 2 ^ d < 2 * rest:=by omega
  have a2:(2 ^ d==2 * rest)=false:=by rw [beq_eq_false_iff_ne];omega
  simp [a1,a2]
 ·rw [e2,e3,lt_iff]
  intro h
  rw [hrr]
  have a1:2 ^ d < 2 * rest:=by omega
  simp [a1]
 ·rw [e2,e3]
  intro h
  have h:=Nat.eq_of_mul_eq_mul_right pe h
  have a1:2 ^ d=2 * rest:=by omega
  rw [hrr]
  have a2:¬ 2 ^ d < 2 * rest:=by omega
  have a3:(2 ^ d==2 * rest)=true:=by rw [beq_iff_eq];exact a1
  rw [a3]
  simp only [a2,decide_false,Bool.false_or,Bool.true_and]
  by_cases hl:low % 2=1
  ·rw [hl,if_neg (by omega)];rfl
  ·have:low % 2=0:=by omega
   rw [this,if_pos (by omega)];rfl
/-- Rounding, before a number that is too great becomes infinite. -/
def pre (m:Nat) (p:Int):Nat:=
 let last:=max (p + m.log2 - 52) (-1074)
 (last + 1074).toNat * B + Toward.even.cut false (m <<< (p - last).toNat) (last - p).toNat
theorem nearest_eq (neg:Bool) (m:Nat) (p:Int):double.nearest neg m p=if m=0 then double.word neg 0 else double.word neg (min (pre m p) INF):=by
 unfold Format.nearest pre
 rw [least_eq,binade_eq,inf_eq]
 have e:double.fractionBits=52:=rfl
 rw [e]
 rfl
theorem log_bd {m:Nat} (hm:m≠0):2 ^ m.log2≤m∧m < 2 ^ (m.log2 + 1):=⟨Nat.log2_self_le hm,Nat.lt_log2_self⟩
theorem B_eq:B=2 ^ 52:=by decide
theorem B_even (s n:Nat):(s * B + n) % 2=n % 2:=by
 have:B=2 * 2251799813685248:=by decide
 rw [this,← Nat.mul_assoc,Nat.mul_comm s 2,Nat.mul_assoc]
 omega
/-- The number at a place that is told by its binade. -/
theorem V_at {s n:Nat} (h1:n < 2 * B) (h2:s=0∨B≤n):V (s * B + n)=n * 2 ^ s∧V (s * B + n + 1)=(n + 1) * 2 ^ s:=by
 have hB:=B_pos
 have key:sh (s * B + n)=s∧mg (s * B + n)=n:=by
  unfold sh mg
  by_cases h:n < B
  ·have hs:s=0:=by omega
   subst hs
   rw [Nat.zero_mul,Nat.zero_add,if_pos h,if_pos h]
   exact ⟨rfl,rfl⟩
  ·have e:s * B + n=(s + 1) * B + (n - B):=by rw [Nat.add_mul,Nat.one_mul];omega
   have h3:¬ s * B + n < B:=by omega
   rw [if_neg h3,if_neg h3,e,Nat.mul_comm (s + 1) B]
   rw [Nat.mul_add_div hB,Nat.mul_add_mod,Nat.div_eq_of_lt (by omega),Nat.mod_eq_of_lt (by omega)]
   omega
 have h0:V (s * B + n)=n * 2 ^ s:=by unfold V;rw [key.1,key.2]
 refine ⟨h0,?_⟩
 rw [V_next,h0,key.1,Nat.add_mul,Nat.one_mul]
theorem shl_one (d:Nat):1 <<< d=2 ^ d:=by rw [Nat.shiftLeft_eq,Nat.one_mul]
theorem pre_rnd {m:Nat} (hm:m≠0) {p:Int} {K e:Nat} (he:(e:Int)=p + 1074 + K):Rnd (m * 2 ^ e) K (pre m p):=by
 obtain ⟨l1,l2⟩:=log_bd hm
 unfold pre
 generalize hL:m.log2=L at *
 dsimp only
 by_cases hn: -1074≤p + L - 52
 ·have hlast:max (p + (L:Int) - 52) (-1074)=p + L - 52:=by omega
  rw [hlast]
  obtain ⟨s,hs⟩:=Int.eq_ofNat_of_zero_le (show 0≤p + L - 52 + 1074 by omega)
  have hs':(p + (L:Int) - 52 + 1074).toNat=s:=by omega
  rw [hs']
  by_cases h52:52≤L
  ·obtain ⟨d,hd⟩:∃ d,L=52 + d:=⟨L - 52,by omega⟩
   have u1:(p - (p + (L:Int) - 52)).toNat=0:=by omega
   have u2:(p + (L:Int) - 52 - p).toNat=d:=by omega
   rw [u1,u2]
   unfold Toward.cut
   simp only [Nat.shiftLeft_zero,hL]
   rw [Nat.min_eq_left (by omega),shl_one]
   have hpd:=two_pos d
   have hlow:m / 2 ^ d < 2 * B:=by
    rw [Nat.div_lt_iff_lt_mul hpd,B_eq]
    have:2 * 2 ^ 52 * 2 ^ d=2 ^ (L + 1):=by rw [hd,← Nat.pow_succ',← Nat.pow_add];congr 1;omega
    omega
   have hlow2:B≤m / 2 ^ d:=by
    rw [Nat.le_div_iff_mul_le hpd,B_eq,← Nat.pow_add,← hd];exact l1
   obtain ⟨v0,v1⟩:=V_at (s:=s) hlow (.inr hlow2)
   refine rnd_step (d:=d) (s:=s) (r0:=s * B + m / 2 ^ d) (low:=m / 2 ^ d) (rest:=m % 2 ^ d) ?_ (Nat.mod_lt _ hpd) (by omega) v0 v1 (B_even _ _) ?_
   ·rw [Nat.mul_comm];exact (Nat.div_add_mod _ _).symm
   ·rw [Nat.add_assoc]
  ·obtain ⟨k,hk⟩:∃ k,52=L + k:=⟨52 - L,by omega⟩
   have u1:(p - (p + (L:Int) - 52)).toNat=k:=by omega
   have u2:(p + (L:Int) - 52 - p).toNat=0:=by omega
   rw [u1,u2]
   unfold Toward.cut
   simp only [Nat.zero_min,Nat.shiftLeft_zero,Nat.div_one,Nat.mod_one]
   rw [Nat.shiftLeft_eq]
   have hlow:m * 2 ^ k < 2 * B:=by
    have:=Nat.mul_lt_mul_of_pos_right l2 (two_pos k)
    rw [← Nat.pow_add] at this
    have e1:L + 1 + k=53:=by omega
    rw [e1] at this
    have:(2:Nat) ^ 53=2 * B:=by decide
    omega
   have hlow2:B≤m * 2 ^ k:=by
    have:=Nat.mul_le_mul_right (2 ^ k) l1
    rw [← Nat.pow_add,← hk] at this
    rw [B_eq];exact this
   obtain ⟨v0,_⟩:=V_at (s:=s) hlow (.inr hlow2)
   have hv:m * 2 ^ e=V (s * B + m * 2 ^ k) * 2 ^ K:=by
    rw [v0,Nat.mul_assoc,Nat.mul_assoc,← Nat.pow_add,← Nat.pow_add]
    congr 2;omega
   rw [hv]
   have:(s * B + (m * 2 ^ k + (decide (1 < 2 * 0) || (1==2 * 0 && m * 2 ^ k % 2==1)).toNat))=s * B + m * 2 ^ k:=by simp
   rw [this]
   exact Rnd.exact _ _
 ·have hlast:max (p + (L:Int) - 52) (-1074)= -1074:=by omega
  rw [hlast]
  have hs':(-1074 + 1074:Int).toNat=0:=rfl
  rw [hs',Nat.zero_mul,Nat.zero_add]
  by_cases hp: -1074≤p
  ·obtain ⟨k,hk⟩:=Int.eq_ofNat_of_zero_le (show 0≤p + 1074 by omega)
   have u1:(p - (-1074)).toNat=k:=by omega
   have u2:(-1074 - p).toNat=0:=by omega
   rw [u1,u2]
   unfold Toward.cut
   simp only [Nat.zero_min,Nat.shiftLeft_zero,Nat.div_one,Nat.mod_one]
   rw [Nat.shiftLeft_eq]
   have hlow:m * 2 ^ k < 2 * B:=by
    have h1:=Nat.mul_lt_mul_of_pos_right l2 (two_pos k)
    rw [← Nat.pow_add] at h1
    have h2:2 ^ (L + 1 + k)≤2 ^ 52:=Nat.pow_le_pow_right (by omega) (by omega)
    rw [← B_eq] at h2
    omega
   obtain ⟨v0,_⟩:=V_at (s:=0) hlow (.inl rfl)
   rw [Nat.zero_mul,Nat.zero_add] at v0
   have hv:m * 2 ^ e=V (m * 2 ^ k) * 2 ^ K:=by
    rw [v0,Nat.pow_zero,Nat.mul_one,Nat.mul_assoc,← Nat.pow_add]
    congr 2;omega
   rw [hv]
   have:(m * 2 ^ k + (decide (1 < 2 * 0) || (1==2 * 0 && m * 2 ^ k % 2==1)).toNat)=m * 2 ^ k:=by simp
   rw [this]
   exact Rnd.exact _ _
  ·obtain ⟨d,hd⟩:=Int.eq_ofNat_of_zero_le (show 0≤ -1074 - p by omega)
   have u1:(p - (-1074)).toNat=0:=by omega
   have u2:(-1074 - p).toNat=d:=by omega
   rw [u1,u2]
   unfold Toward.cut
   simp only [Nat.shiftLeft_zero,hL]
   by_cases hdl:d≤L + 2
   ·rw [Nat.min_eq_left hdl,shl_one]
    have hpd:=two_pos d
    have hlow:m / 2 ^ d < 2 * B:=by
     rw [Nat.div_lt_iff_lt_mul hpd]
     have h2:2 ^ (L + 1)≤2 ^ (52 + d):=Nat.pow_le_pow_right (by omega) (by omega)
     rw [Nat.pow_add 2 52 d,← B_eq] at h2
     have:=Nat.mul_le_mul_right (2 ^ d) (show B≤2 * B by omega)
     omega
    obtain ⟨v0,v1⟩:=V_at (s:=0) hlow (.inl rfl)
    rw [Nat.zero_mul,Nat.zero_add] at v0 v1
    refine rnd_step (d:=d) (s:=0) (r0:=m / 2 ^ d) (low:=m / 2 ^ d) (rest:=m % 2 ^ d) ?_ (Nat.mod_lt _ hpd) (by omega) v0 v1 rfl rfl
    rw [Nat.mul_comm];exact (Nat.div_add_mod _ _).symm
   ·rw [Nat.min_eq_right (by omega),shl_one]
    have hlt:m < 2 ^ (L + 2):=by
     have:2 ^ (L + 1)≤2 ^ (L + 2):=Nat.pow_le_pow_right (by omega) (by omega)
     omega
    have hlt2:2 * m < 2 ^ (L + 2):=by rw [Nat.pow_succ];omega
    rw [Nat.div_eq_of_lt hlt,Nat.mod_eq_of_lt hlt]
    have hmore:(0 + (decide (2 ^ (L + 2) < 2 * m) || (2 ^ (L + 2)==2 * m && 0 % 2==1)).toNat)=0:=by
     have:¬ 2 ^ (L + 2) < 2 * m:=by omega
     simp [this]
    rw [hmore]
    have hle:2 * (m * 2 ^ e) < 2 ^ K:=by
     rw [← Nat.mul_assoc]
     have h1:=Nat.mul_lt_mul_of_pos_right hlt2 (two_pos e)
     rw [← Nat.pow_add] at h1
     have h2:2 ^ (L + 2 + e)≤2 ^ K:=Nat.pow_le_pow_right (by omega) (by omega)
     omega
    have V1:V (0 + 1)=1:=by decide
    refine ⟨0,by rw [V_zero];omega,by rw [V1];omega,fun _=> rfl,fun h=> ?_,fun h=> ?_⟩
    ·rw [V_zero,V1] at h;omega
    ·rw [V_zero,V1] at h;omega
end Fl

end Go.Proofs.YtampacmmhhilaaaGreat
/- The operations on floats as whole numbers: product, quotient, difference, the float of an integer, the integer of a float. -/
namespace Go.Proofs.YtampacmmhhilaaaGreat

namespace Fl

open Ieee

def EX:Nat:=1074
theorem EX_eq:EX=1074:=rfl
/-- Rounding. -/
def R (m:Nat) (p:Int):Nat:=if m=0 then 0 else min (pre m p) INF
theorem R_le (m:Nat) (p:Int):R m p≤INF:=by unfold R;split;exact Nat.zero_le _;exact Nat.min_le_right _ _
theorem nearest_R (s:Bool) (m:Nat) (p:Int):double.nearest s m p=double.word s (R m p):=by
 rw [nearest_eq];unfold R;split <;> rfl
theorem word_eq (s:Bool) (r:Nat):double.word s r=if s then SW + r else r:=by unfold Format.word;rw [sw_eq]
theorem rung_word (s:Bool) {r:Nat} (h:r < SW):rung (double.word s r)=r:=by
 rw [word_eq];unfold rung
 cases s
 ·simp [Nat.mod_eq_of_lt h]
 ·simp [Nat.mod_eq_of_lt h]
theorem neg_word (s:Bool) {r:Nat} (h:r < SW):neg (double.word s r)=s:=by
 rw [word_eq];unfold neg
 cases s
 ·simp [Nat.div_eq_of_lt h]
 ·have:(SW + r) / SW=1:=by rw [Nat.div_eq_iff (by decide)];omega
  simp [this]
theorem Rnd.val {v K r:Nat} (h:Rnd (V r * 2 ^ K) K v):v=r:=Nat.le_antisymm (h.mono (Rnd.exact r K) (Nat.le_refl _)) ((Rnd.exact r K).mono h (Nat.le_refl _))
section

variable {m m' e e' K r:Nat} {p p':Int}

theorem R_le_of (he:(e:Int)=p + 1074 + K) (h:m * 2 ^ e≤V r * 2 ^ K):R m p≤r:=by
 unfold R
 split
 ·exact Nat.zero_le _
 ·rename_i h0
  exact Nat.le_trans (Nat.min_le_left _ _) ((pre_rnd h0 he).mono (Rnd.exact r K) h)
end

/-- The float of an integer. -/
theorem ofInt_eq (n:Int):floatOfInt .f64 n=double.word (decide (n < 0)) (R n.natAbs 0):=by
 unfold floatOfInt FloatKind.nearest FloatKind.encode
 show double.nearest _ _ _=_
 rw [nearest_R]
theorem pow_split (m:Nat) {c s:Nat} (h:c≤s):m * 2 ^ s=m * 2 ^ (s - c) * 2 ^ c:=by rw [Nat.mul_assoc,← Nat.pow_add,Nat.sub_add_cancel h]
/-- Cut towards zero. -/
def T (r:Nat):Nat:=V r / 2 ^ EX
theorem T_le {a b:Nat} (h:a≤b):T a≤T b:=Nat.div_le_div_right (V_le h)
theorem toInt_eq {x:Nat} (hx:rung x < INF):(FloatKind.f64.decode x).toInt .zero=some (if neg x then -(T (rung x):Int) else (T (rung x):Int)):=by
 show (double.read x).toInt .zero=_
 rw [read_num hx]
 generalize rung x=r
 unfold Datum.toInt
 simp only [Datum.integral,Option.some.injEq]
 have key:Toward.zero.cut (neg x) (mg r <<< (-1074 + (sh r:Int)).toNat) (-(-1074 + (sh r:Int))).toNat=T r:=by
  unfold Toward.cut T V
  simp only [Bool.toNat_false,Nat.add_zero]
  rw [shl_one,Nat.shiftLeft_eq]
  generalize mg r=m
  generalize sh r=s
  have hE:=EX_eq
  by_cases h:EX≤s
  ·have u1:(-1074 + (s:Int)).toNat=s - EX:=by omega
   have u2:(-(-1074 + (s:Int))).toNat=0:=by omega
   rw [u1,u2,Nat.zero_min,Nat.pow_zero,Nat.div_one]
   rw [pow_split m h,Nat.mul_div_cancel _ (two_pos _)]
  ·have u1:(-1074 + (s:Int)).toNat=0:=by omega
   have u2:(-(-1074 + (s:Int))).toNat=EX - s:=by omega
   rw [u1,u2,Nat.pow_zero,Nat.mul_one]
   have e:m * 2 ^ s / 2 ^ EX=m / 2 ^ (EX - s):=by
    have:(2:Nat) ^ EX=2 ^ (EX - s) * 2 ^ s:=by rw [← Nat.pow_add,Nat.sub_add_cancel (by omega)]
    rw [this,Nat.mul_div_mul_right _ _ (two_pos _)]
   rw [e]
   by_cases hd:EX - s≤m.log2 + 2
   ·rw [Nat.min_eq_left hd]
   ·rw [Nat.min_eq_right (by omega)]
    have l2:m < 2 ^ (m.log2 + 1):=Nat.lt_log2_self
    have h1:2 ^ (m.log2 + 1)≤2 ^ (m.log2 + 2):=Nat.pow_le_pow_right (by omega) (by omega)
    have h2:2 ^ (m.log2 + 1)≤2 ^ (EX - s):=Nat.pow_le_pow_right (by omega) (by omega)
    rw [Nat.div_eq_of_lt (by omega),Nat.div_eq_of_lt (by omega)]
 rw [key]
 unfold signed
 rw [Nat.shiftLeft_zero]
/-- The place of one. -/
def ONE:Nat:=4607182418800017408
theorem V_one1:V (ONE - 1)=(2 * B - 1) * 2 ^ 1021:=by decide +kernel
def TOP:Nat:=4890909195324358655
theorem V_top:V TOP=(2 * B - 1) * 2 ^ 1084:=by decide +kernel
theorem TOP_lt:TOP < INF:=by decide
theorem V_top1:V (TOP + 1)=2 ^ 63 * 2 ^ EX:=by decide +kernel
theorem T_top:(T TOP:Int)≤9223372036854775807:=by decide +kernel
/-- A share of at most 2^63 places lies below 2^63. -/
theorem share_top {rx:Nat} (hx:rx < ONE) {n:Nat} (hn:n≤9223372036854775807):V rx * V (R n 0)≤V TOP * 2 ^ EX:=by
 have h1:V rx≤(2 * B - 1) * 2 ^ 1021:=by rw [← V_one1];exact V_le (by unfold ONE at *;omega)
 have h63:n≤2 ^ 63:=by
  have:(2:Nat) ^ 63=9223372036854775808:=by decide
  omega
 have h2:R n 0≤TOP + 1:=by
  refine R_le_of (K:=0) (e:=EX) (by rw [EX_eq];omega) ?_
  rw [V_top1,Nat.pow_zero,Nat.mul_one]
  exact Nat.mul_le_mul_right _ h63
 have h3:V (R n 0)≤2 ^ 63 * 2 ^ EX:=by rw [← V_top1];exact V_le h2
 have h4:=Nat.mul_le_mul h1 h3
 rw [V_top]
 have e:(2 * B - 1) * 2 ^ 1021 * (2 ^ 63 * 2 ^ EX)=(2 * B - 1) * 2 ^ 1084 * 2 ^ EX:=by decide +kernel
 rw [e] at h4
 exact h4
end Fl

end Go.Proofs.YtampacmmhhilaaaGreat
/- The kinds of floats, their order, as whole numbers: what package edge and the reference reckon. -/
namespace Go.Proofs.YtampacmmhhilaaaGreat

namespace Fl

open Ieee

theorem flip_rung (x:Nat):rung (x ^^^ 2 ^ 63)=rung x:=by
 have e:SW=2 ^ 63:=by decide
 unfold rung
 rw [e,Nat.xor_mod_two_pow,Nat.mod_self,Nat.xor_zero]
theorem flip_neg {x:Nat}:neg (x ^^^ 2 ^ 63)= !neg x:=by
 have e:SW=2 ^ 63:=by decide
 unfold neg
 rw [e,← Nat.shiftRight_eq_div_pow,← Nat.shiftRight_eq_div_pow,Nat.shiftRight_xor_distrib]
 have:2 ^ 63 >>> 63=1:=by decide
 rw [this]
 have h:=Nat.xor_mod_two_pow (a:=x >>> 63) (b:=1) (n:=1)
 have h1:(2:Nat) ^ 1=2:=rfl
 rw [h1] at h
 rw [h]
 rcases Nat.mod_two_eq_zero_or_one (x >>> 63) with h' | h' <;> rw [h'] <;> decide
theorem flip_iv (x:Nat):iv (x ^^^ 2 ^ 63)= -iv x:=by
 unfold iv
 rw [flip_rung,flip_neg]
 cases neg x <;> simp
theorem flip_nan (x:Nat):nan (x ^^^ 2 ^ 63)=nan x:=by
 unfold nan;rw [flip_rung]
theorem iv_le {x:Nat} (h:nan x=false): -(INF:Int)≤iv x∧iv x≤INF:=by
 unfold nan at h
 have h:rung x≤INF:=by simpa using h
 unfold iv
 split <;> omega
/-- The kind of a float. -/
def kindI (x:Nat):Int:=if nan x then 0 else if iv x= -(INF:Int) then 1 else if iv x=(INF:Int) then 5 else if iv x < 0 then 2 else if 0 < iv x then 4 else 3
/-- The place in the order of all floats. -/
def key (x:Nat):Int:=if nan x then -(2 * INF + 3:Int) else if neg x then -(2 * (rung x:Int) + 1) else 2 * (rung x:Int)
def maxFin:Nat:=9218868437227405311
theorem iv_maxFin:iv maxFin=9218868437227405311:=by decide
theorem nan_maxFin:nan maxFin=false:=by decide
theorem iv_zero:iv 0=0:=by decide
theorem nan_zero:nan 0=false:=by decide
theorem isInf_pos (x:Nat):gtB x maxFin=decide (kindI x=5):=by
 unfold gtB
 rw [nan_maxFin,iv_maxFin]
 unfold kindI
 cases h:nan x
 ·have:=iv_le h
  simp only [Bool.not_false,Bool.true_and,Bool.false_eq_true,if_false]
  unfold INF at *
  rw [Bool.eq_iff_iff,decide_eq_true_eq,decide_eq_true_eq]
  split
  ·omega
  ·split
   ·omega
   ·split <;> (try split) <;> omega
 ·simp
theorem isInf_neg (x:Nat):gtB (x ^^^ 2 ^ 63) maxFin=decide (kindI x=1):=by
 rw [isInf_pos]
 unfold kindI
 rw [flip_nan,flip_iv]
 cases h:nan x
 ·have:=iv_le h
  simp only [Bool.false_eq_true,if_false]
  unfold INF at *
  rw [Bool.eq_iff_iff,decide_eq_true_eq,decide_eq_true_eq]
  by_cases h1:iv x= -9218868437227405312
  ·simp [h1]
  ·by_cases h2:iv x=9218868437227405312
   ·simp [h2]
   ·by_cases h3:iv x < 0
    ·rw [if_neg (by omega),if_neg (by omega),if_neg (by omega),if_pos (by omega),if_neg (by omega),if_neg (by omega),if_pos (by omega)];simp
    ·by_cases h4:0 < iv x
     ·rw [if_neg (by omega),if_neg (by omega),if_pos (by omega),if_neg (by omega),if_neg (by omega),if_neg (by omega),if_pos (by omega)];simp
     ·rw [if_neg (by omega),if_neg (by omega),if_neg (by omega),if_neg (by omega),if_neg (by omega),if_neg (by omega),if_neg (by omega),if_neg (by omega)];simp
 ·simp
theorem lt_zero (x:Nat):ltB x 0=(!nan x && decide (iv x < 0)):=by
 unfold ltB;rw [nan_zero,iv_zero];simp
theorem gt_zero (x:Nat):gtB x 0=(!nan x && decide (0 < iv x)):=by
 unfold gtB;rw [nan_zero,iv_zero];simp
theorem eq_self (x:Nat):eqB x x= !nan x:=by
 unfold eqB;cases nan x <;> simp
theorem kind_zero {x:Nat}:kindI x=0↔nan x=true:=by
 unfold kindI
 cases nan x
 ·simp only [Bool.false_eq_true,if_false,iff_false]
  repeat' split
  all_goals omega
 ·simp
/-- Kinds rise with the places. -/
theorem kind_num {x:Nat} (h:nan x=false):(kindI x=1∧iv x= -(INF:Int))∨(kindI x=2∧ -(INF:Int) < iv x∧iv x < 0)∨(kindI x=3∧iv x=0)∨(kindI x=4∧0 < iv x∧iv x < (INF:Int))∨(kindI x=5∧iv x=(INF:Int)):=by
 have h1:=iv_le h
 have hI:(0:Int) < (INF:Int):=by decide
 unfold kindI
 rw [if_neg (by simp [h])]
 by_cases a:iv x= -(INF:Int)
 ·rw [if_pos a];omega
 ·rw [if_neg a]
  by_cases b:iv x=(INF:Int)
  ·rw [if_pos b];omega
  ·rw [if_neg b]
   by_cases c:iv x < 0
   ·rw [if_pos c];omega
   ·rw [if_neg c]
    by_cases d:0 < iv x
    ·rw [if_pos d];omega
    ·rw [if_neg d];omega
end Fl

end Go.Proofs.YtampacmmhhilaaaGreat
/- A share, a ratio, a float between two, as functions. -/
namespace Go.Proofs.YtampacmmhhilaaaGreat

namespace Fl

open Ieee

/-- The product's place. -/
def prodR (a b:Nat):Nat:=R (mg a * mg b) (-1074 + (sh a:Int) + (-1074 + (sh b:Int)))
theorem V_prod (a b:Nat):V a * V b=mg a * mg b * 2 ^ (sh a + sh b):=by
 unfold V;rw [Nat.pow_add];simp only [Nat.mul_assoc,Nat.mul_left_comm]
theorem prod_e (a b:Nat):((sh a + sh b:Nat):Int)= -1074 + (sh a:Int) + (-1074 + (sh b:Int)) + 1074 + EX:=by
 have:=EX_eq;omega
theorem prodR_le {a b r:Nat} (h:V a * V b≤V r * 2 ^ EX):prodR a b≤r:=R_le_of (prod_e a b) (by rw [← V_prod];exact h)
theorem mul_word {x y:Nat} (hx:rung x < INF) (hy:rung y < INF):double.mul x y=some (double.word (neg x ^^ neg y) (prodR (rung x) (rung y))):=by
 unfold Format.mul
 rw [read_num hx,read_num hy]
 simp only [Datum.product,Option.map_some,Format.write,nearest_R]
 rfl
theorem ofInt_rung {n:Int} (h0: -9223372036854775808≤n) (h1:n≤9223372036854775807):rung (floatOfInt .f64 n)=R n.natAbs 0∧neg (floatOfInt .f64 n)=decide (n < 0)∧R n.natAbs 0≤TOP + 1∧rung (floatOfInt .f64 n) < INF:=by
 have hI:INF < SW:=INF_lt_SW
 have h63:n.natAbs≤2 ^ 63:=by
  have:(2:Nat) ^ 63=9223372036854775808:=by decide
  omega
 have h2:R n.natAbs 0≤TOP + 1:=by
  refine R_le_of (K:=0) (e:=EX) (by rw [EX_eq];omega) ?_
  rw [V_top1,Nat.pow_zero,Nat.mul_one]
  exact Nat.mul_le_mul_right _ h63
 have h3:TOP + 1 < INF:=by decide
 rw [ofInt_eq]
 have h4:=R_le n.natAbs 0
 rw [rung_word _ (by omega),neg_word _ (by omega)]
 exact ⟨rfl,rfl,h2,by omega⟩
theorem iv_one:iv ONE=(ONE:Int):=by decide +kernel
theorem nan_one:nan ONE=false:=by decide +kernel
/-- The share of n places. -/
def shareI (x:Nat) (n:Int):Int:=
 if n < 1∨nan x=true∨iv x < 0 then 0 else if (ONE:Int)≤iv x then n - 1 else min (T (prodR (rung x) (R n.natAbs 0)):Int) (n - 1)
theorem share_conv {x:Nat} {n:Int} (hn:1≤n) (hn2:n≤9223372036854775807) (h0:0≤iv x) (h1:iv x < (ONE:Int)):
  ∃ r,floatBits .mul .f64 x (floatOfInt .f64 n)=some r∧floatToIntVal .f64 r .i64=some (T (prodR (rung x) (R n.natAbs 0)):Int)∧(T (prodR (rung x) (R n.natAbs 0)):Int)≤9223372036854775807:=by
 have hO:ONE < INF:=by decide
 have hO0:0 < ONE:=by decide
 have hx:rung x < ONE:=by
  unfold iv at h0 h1
  cases hn:neg x <;> simp only [hn,if_true,if_false,Bool.false_eq_true] at h0 h1 <;> omega
 obtain ⟨e1,e2,e3,e4⟩:=ofInt_rung (n:=n) (by omega) hn2
 have hP:prodR (rung x) (R n.natAbs 0)≤TOP:=prodR_le (share_top hx (by omega))
 have hT:=T_le hP
 have hTT:=T_top
 refine ⟨double.word (neg x ^^ neg (floatOfInt .f64 n)) (prodR (rung x) (R n.natAbs 0)),?_,?_,by omega⟩
 ·show double.mul _ _=_
  rw [mul_word (by omega) e4,e1]
 ·have hI:INF < SW:=INF_lt_SW
  have hTI:=TOP_lt
  unfold floatToIntVal
  have hr:=rung_word (neg x ^^ neg (floatOfInt .f64 n)) (r:=prodR (rung x) (R n.natAbs 0)) (by omega)
  rw [toInt_eq (by rw [hr];omega),hr,neg_word _ (by omega)]
  have hz:(neg x ^^ neg (floatOfInt .f64 n))=true→T (prodR (rung x) (R n.natAbs 0))=0:=by
   intro h
   rw [e2,decide_eq_false (by omega),Bool.xor_false] at h
   have hr0:rung x=0:=by unfold iv at h0;rw [if_pos h] at h0;omega
   have:prodR (rung x) (R n.natAbs 0)≤0:=prodR_le (by rw [hr0,V_zero];simp)
   have h2:prodR (rung x) (R n.natAbs 0)=0:=by omega
   rw [h2];decide +kernel
  have e5:(if (neg x ^^ neg (floatOfInt .f64 n))=true then -(T (prodR (rung x) (R n.natAbs 0)):Int) else (T (prodR (rung x) (R n.natAbs 0)):Int))=(T (prodR (rung x) (R n.natAbs 0)):Int):=by
   split
   ·rename_i h;rw [hz h];rfl
   ·rfl
  rw [e5]
  have m1:IntKind.i64.min= -9223372036854775808:=by decide
  have m2:IntKind.i64.max=9223372036854775807:=by decide
  simp only [m1,m2]
  rw [if_pos ⟨by omega,by omega⟩]
end Fl

end Go.Proofs.YtampacmmhhilaaaGreat
/- Shares rise; a quotient of two small integers, rounded, lies as near as one wishes; the share of so many of so many. -/
namespace Go.Proofs.YtampacmmhhilaaaGreat

namespace Fl

open Ieee

theorem shareI_bd (x:Nat) {n:Int} (hn:1≤n):0≤shareI x n∧shareI x n < n:=by
 unfold shareI
 split
 ·omega
 ·split
  ·omega
  ·omega
end Fl

end Go.Proofs.YtampacmmhhilaaaGreat
