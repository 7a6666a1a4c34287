/- Texts bound together: FlT FlU EdgeW EdgeA SchP. -/
import Derived.Laws.Externs

import Derived.IntWalk

import Derived.Deep.AppendLies

import Derived.Deep.RegionLaw

import Derived.Test.YtkbddndcegpllaaGreatBt24

set_option maxHeartbeats 400000
set_option linter.all false
namespace Go.Proofs.YtkbddndcegpllaaGreat

namespace Fl

open Ieee

def zi8 (a b:Nat):Nat:=R (mg a * mg b) (-1074 + (sh a:Int) + (-1074 + (sh b:Int)))
theorem ye3(a b:Nat):V a*V b=mg a*mg b*2^(sh a+sh b):=by
 unfold V;rw[Nat.pow_add];simp only[Nat.mul_assoc,Nat.mul_left_comm]
theorem yec(a b:Nat):((sh a+sh b:Nat):Int)= -1074+(sh a:Int)+(-1074+(sh b:Int))+1074+EX:=by
 have:=z6b;omega
theorem zwq{a b r:Nat}(h:V a*V b<=V r*2^EX):zi8 a b<=r:=zvl (yec a b) (by rw[<-ye3];exact h)
theorem z6i{x y:Nat}(b:rung x<INF)(f:rung y<INF):double.mul x y=some (double.word (neg x ^^ neg y) (zi8 (rung x) (rung y))):=by
 unfold Format.mul;rw[zgx b,zgx f];simp only[Datum.product,Option.map_some,Format.write,ztl];rfl
theorem zyc{n:Int}(i: -9223372036854775808<=n)(j:n<=9223372036854775807):rung (floatOfInt .f64 n)=R n.natAbs 0/\neg (floatOfInt .f64 n)=decide (n<0)/\R n.natAbs 0<=TOP+1/\rung (floatOfInt .f64 n)<INF:=by
 have o:INF<SW:=zs1;have b:n.natAbs<=2^63:=by
  have:(2:Nat)^63=9223372036854775808:=by decide
  omega
 have f:R n.natAbs 0<=TOP+1:=by refine zvl (K:=0) (e:=EX) (by rw[z6b];omega) ?_;rw[z3f,Nat.pow_zero,Nat.mul_one];exact Nat.mul_le_mul_right _ b
 have l:TOP+1<INF:=by decide
 rw[z7q];have m:=R_le n.natAbs 0;rw[zs6 _ (by omega),zv3 _ (by omega)];exact⟨rfl,rfl,f,by omega⟩
theorem yfe:iv ONE=(ONE:Int):=by decide +kernel
theorem yaf:nan ONE=false:=by decide +kernel
def zdr (x:Nat) (n:Int):Int:=
 if n < 1\/nan x=true\/iv x < 0 then 0 else if (ONE:Int)<=iv x then n - 1 else min (T (zi8 (rung x) (R n.natAbs 0)):Int) (n - 1)
theorem zye{x:Nat}{n:Int}(l:1<=n)(f:n<=9223372036854775807)(b:0<=iv x)(j:iv x<(ONE:Int)):
  ∃ r,floatBits .mul .f64 x (floatOfInt .f64 n)=some r/\floatToIntVal .f64 r .i64=some (T (zi8 (rung x) (R n.natAbs 0)):Int)/\(T (zi8 (rung x) (R n.natAbs 0)):Int)<=9223372036854775807:=by
 have H:ONE<INF:=by decide
 have y:0<ONE:=by decide
 have D:rung x<ONE:=by unfold iv at b j;cases l:neg x<;>simp only[l,if_true,if_false,Bool.false_eq_true]at b j<;>omega
 obtain⟨o,p,F,q⟩:=zyc (n:=n) (by omega) f;have z:zi8 (rung x) (R n.natAbs 0)<=TOP:=zwq (z4f D (by omega));have I:=T_le z;have C:=ygd;refine⟨double.word (neg x ^^ neg (floatOfInt .f64 n)) (zi8 (rung x) (R n.natAbs 0)),?_,?_,by omega⟩
 ·show double.mul _ _=_;rw[z6i (by omega) q,o]
 have G:INF<SW:=zs1;have B:=yfj;unfold floatToIntVal;have m:=zs6 (neg x ^^ neg (floatOfInt .f64 n)) (r:=zi8 (rung x) (R n.natAbs 0)) (by omega);rw[z5z (by rw[m];omega),m,zv3 _ (by omega)];have E:(neg x ^^ neg (floatOfInt .f64 n))=true->T (zi8 (rung x) (R n.natAbs 0))=0:=by
  intro h;rw[p,decide_eq_false (by omega),Bool.xor_false]at h;have i:rung x=0:=by unfold iv at b;rw[if_pos h]at b;omega
  have:zi8 (rung x) (R n.natAbs 0)<=0:=zwq (by rw[i,zo0];simp);have t:zi8 (rung x) (R n.natAbs 0)=0:=by omega
  rw[t];decide +kernel
 have s:(if (neg x ^^ neg (floatOfInt .f64 n))=true then -(T (zi8 (rung x) (R n.natAbs 0)):Int) else(T (zi8 (rung x) (R n.natAbs 0)):Int))=(T (zi8 (rung x) (R n.natAbs 0)):Int):=by
  split
  ·rename_i h;rw[E h];rfl
  rfl
 rw[s];have m1:IntKind.i64.min= -9223372036854775808:=by decide
 have m2:IntKind.i64.max=9223372036854775807:=by decide
 simp only[m1,m2];rw[if_pos ⟨by omega,by omega⟩]
end Fl

end Go.Proofs.YtkbddndcegpllaaGreat

namespace Go.Proofs.YtkbddndcegpllaaGreat

namespace Fl

open Ieee

theorem z2u(x:Nat){n:Int}(b:1<=n):0<=zdr x n/\zdr x n<n:=by
 unfold zdr;split
 ·omega
 split
 ·omega
 omega
end Fl

end Go.Proofs.YtkbddndcegpllaaGreat

namespace Go.Proofs.YtkbddndcegpllaaGreat

open Go.RowKit Fl

theorem ye8(x y:Nat):FloatKind.f64.format.order x y=Ieee.double.order x y:=rfl
abbrev F64 (x:Nat):Value:= .float .f64 x
theorem z7u(x:Nat)(w:World):(Op.unary UnOp.neg (.float .f64 x)).run Tryz.prog w= .ok (.float .f64 (x ^^^ 2^63)) w:=rfl
theorem z2t(x:Nat)(w:World):Calls Tryz.prog 185 #[F64 x] w fun e w'=>e= .returned (.bool (nan x))/\w'=w:=by
 go_in;go_wp2;go_ret;refine⟨zg6 ?_,rfl⟩;rw[ye8,bne,zq7,Fl.yax,Bool.not_not]
theorem zp1(x:Nat)(w:World):Calls Tryz.prog 186 #[F64 x,.int .i64 (-1)] w fun e w'=>e= .returned (.bool (decide (zg4 x=1)))/\w'=w:=by
 have b:=z7u x;go_in;go_wp2;go_ret;refine⟨zg6 ?_,rfl⟩;rw[<-z18,<- zma];rfl
theorem zps(x:Nat)(w:World):Calls Tryz.prog 186 #[F64 x,.int .i64 1] w fun e w'=>e= .returned (.bool (decide (zg4 x=5)))/\w'=w:=by
 go_in;go_wp2;go_ret;refine⟨zg6 ?_,rfl⟩;rw[<-zsg,<- zma];rfl
theorem lt0(x:Nat):(FloatKind.f64.format.order x 0==some .lt)=(!nan x&&decide (iv x<0)):=(z5e x 0).trans (yce x)
theorem gt0(x:Nat):(FloatKind.f64.format.order x 0==some .gt)=(!nan x&&decide (0<iv x)):=(zma x 0).trans (z9v x)
theorem zhn(x:Nat)(w:World):Calls Tryz.prog 167 #[F64 x] w fun e w'=>e= .returned (.int .i64 (zg4 x))/\w'=w:=by
 have i:=lt0 x;have b:=gt0 x;go_in;go_wp2_with (first|(go_at_call 185;refine(z2t _ _).mono ?_;rintro e j ⟨rfl,rfl⟩)|(go_at_call 186;(with_reducible refine(zp1 _ _).mono ?_);rintro e j ⟨rfl,rfl⟩)|(go_at_call 186;(with_reducible refine(zps _ _).mono ?_);rintro e j ⟨rfl,rfl⟩));all_goals go_ret
 all_goals refine⟨zf5 ?_,rfl⟩
 all_goals clear i b
 all_goals first
  |exact(zst.2 (by assumption)).symm
  |(have h:=z4r (x:=x) (by assumption);have l:(0:Int)<(INF:Int):=(by decide);omega)
theorem gtxy(x y:Nat):(FloatKind.f64.format.order x y==some .gt)=gtB x y:=zma x y
theorem eqxy(x y:Nat):(FloatKind.f64.format.order x y==some .eq)=eqB x y:=zq7 x y
end Go.Proofs.YtkbddndcegpllaaGreat

namespace Go.Proofs.YtkbddndcegpllaaGreat

open Go.RowKit Fl

end Go.Proofs.YtkbddndcegpllaaGreat

namespace Go.Proofs.YtkbddndcegpllaaGreat

open Go.RowKit Fl

structure Ch where
 kind:Int
 client:Int
 ok:Int
 oa:Int
 on:Int
 bias:Nat
 deriving DecidableEq
def Ch.cells (c:Ch):List Value:= [.int .i64 c.kind,.int .i64 c.client,.int .i64 c.ok,.int .i64 c.oa,.int .i64 c.on,.float .f64 c.bias]
def zdm (xs:List Ch):List Value:=xs.flatMap Ch.cells
theorem zmn(xs:List Ch)(i j:Nat)(hi:i<xs.length)(l:j<6):(zdm xs)[i*6+j]?=(xs[i].cells)[j]?:=by
 induction xs generalizing i with
 |nil=>simp at hi
 |cons x xs f=>
  have b:x.cells.length=6:=rfl
  show (x.cells++zdm xs)[i*6+j]?=_
  cases i with
  |zero=>rw[List.getElem?_append_left (by omega)];simp
  |succ i=>
   rw[List.getElem?_append_right (by omega),b,show (i+1)*6+j-6=i*6+j from by omega]
   simpa using f i (by simpa using hi)
def RdC (w:World) (v:Value) (xs:List Ch):Prop:=∃ ao cap,v= .slice ao xs.length cap/\xs.length<=cap/\(cap:Int)<=9223372036854775807/\
 (xs≠ []->∃ b off,ao=some ⟨b,off,.none⟩/\b < w.heap.size/\∀ i j,(hi:i < xs.length)->j < 6->w.cell? ⟨b,off + i * 6 + j,.none⟩=(xs[i].cells)[j]?)
theorem RdC.below{w w':World}{v:Value}{xs:List Ch}(h:RdC w v xs)(hb:Below w.heap.size w w'):RdC w' v xs:=
 let ⟨ao,cap,e,h1,h2,h3⟩:=h
 ⟨ao,cap,e,h1,h2,fun l=>let ⟨b,off,ea,hlt,hc⟩:=h3 l;⟨b,off,ea,Nat.lt_of_lt_of_le hlt hb.size,fun i j hi f=>(hb.cell (p:=⟨b,_,.none⟩) hlt).trans (hc i j hi f)⟩⟩
abbrev OwnC (E:TypeId) (B:Nat) (w:World) (v:Value) (xs:List Ch):Prop:=w.ownsRow B E 6 v xs.length (zdm xs)
theorem OwnC.rd{E:TypeId}{B:Nat}{w:World}{v:Value}{xs:List Ch}(h:OwnC E B w v xs):RdC w v xs:=by
 rcases h.2 with⟨l,b⟩|⟨g,cap,f,rfl,l,b,m,n,q,o⟩
 ·have:xs= []:=List.eq_nil_of_length_eq_zero b;subst this;exact⟨none,0,l,Nat.le_refl _,by omega,fun h=>absurd rfl h⟩
 refine⟨_,cap,rfl,m,by simp only[maxLen]at n;omega,fun _=>⟨g,0,rfl,(Array.getElem?_eq_some_iff.1 b).1,fun i j hi p=>?_⟩⟩;rw[cell_of_row w g _ f E (0,0) b,<- zmn xs i j hi p,<- o,List.getElem?_take,if_pos (by omega)];simp
theorem OwnC.nil(E:TypeId)(B:Nat)(w:World):OwnC E B w (.slice none 0 0) []:=⟨rfl,.inl ⟨rfl,rfl⟩⟩
end Go.Proofs.YtkbddndcegpllaaGreat
