
import Derived.Laws.BitsLemmas

import Derived.Laws.BitsAllLaws

import Derived.Test.YtkilokkopbajkaaGreatBw1

set_option linter.all false
namespace Go.Proofs.YtkilokkopbajkaaGreat

def horner:List Int->Int
 | []=>0
 |x::xs=>x+256*horner xs
def okB (x:Int):Bool:=decide (0<=x)&&decide (x<=255)
def iE (xs:List Int):Bool:=xs.all okB
def putV (k:Int) (xs:List Int):Int:=if iE xs=true then k+16*horner xs else 0
theorem rI{x:Int}:okB x=true↔0<=x/\x<=255:=by simp[okB]
theorem WU(n:Nat):(256:Int)^(n+1)=256*256^n:=by rw[Int.pow_succ,Int.mul_comm]
theorem zx8(n:Nat):(0:Int)<256^n:=Int.pow_pos (by decide)
theorem VW(xs:List Int)(h:iE xs=true):0<=horner xs/\horner xs<256^xs.length:=by
 induction xs with
 |nil=>simp[horner];|cons x xs b=>simp only[iE,List.all_cons,jC]at h;have f:=rI.1 h.1;have:=b h.2;simp only[horner,List.length_cons,WU];omega
theorem zvn(xs:List Int)(x:Int):horner (xs++[x])=horner xs+x*256^xs.length:=by
 induction xs with
 |nil=>simp[horner];|cons y xs b=>simp only[List.cons_append,horner,b,List.length_cons,WU];rw[Int.mul_add,Int.mul_left_comm 256 x];omega
theorem zyh(xs:List Int)(x:Int):iE (xs++[x])=(iE xs&&okB x):=by simp[iE]
theorem zuv(xs:List Int)(j:Nat)(h:j<xs.length):xs.take (j+1)=xs.take j++[xs.getD j 0]:=by
 rw[List.take_succ_eq_append_getElem h];simp[List.getD_eq_getElem?_getD,h]
theorem UE(n:Int)(h0:0<=n)(h1:n<18446744073709551616):IntKind.u64.wrap n=n:=by
 simp only[IntKind.wrap,IntKind.bits,IntKind.signed];simp;omega
theorem GK(f x:Int)(j:Nat)(t:j<=6)(h0:0<=f)(h1:f<16*256^j)(l:0<=x)(o:x<=255):
  bits .or .u64 f (IntKind.u64.wrap (x*2^(4+8*j)))=f+16*(x*256^j):=by
 have q:(2:Int)^(4+8*j)=16*256^j:=by rw[Int.pow_add,Int.pow_mul];rfl
 have hb:(256:Int)^j<=281474976710656:=by
  have:j=0\/j=1\/j=2\/j=3\/j=4\/j=5\/j=6:=by omega
  rcases this with rfl|rfl|rfl|rfl|rfl|rfl|rfl<;>decide
 have z:=zx8 j;have y:x*(16*256^j)<=255*(16*256^j):=Int.mul_le_mul_of_nonneg_right o (by omega);have i:0<=x*(16*256^j):=Int.mul_nonneg l (by omega);have s:IntKind.u64.wrap (x*2^(4+8*j))=x*(16*256^j):=by rw[q];exact UE _ i (by omega)
 rw[s];have hc:bits .or .u64 f (x*(16*256^j))=bits .or .u64 (x*(16*256^j)) f:=by simp only[bits,BitVec.or_comm]
 have hd:x*(16*256^j)%2^(4+8*j)=0:=by rw[q];exact Int.mul_emod_left _ _
 rw[hc,bits_join .u64 64 (by decide) (λn a b=>UE n a b) (4+8*j) _ _ i hd (by omega) h0 (by omega) (by omega)];rw[Int.mul_left_comm];omega
theorem xX(k:Int)(xs:List Int)(j:Nat)(h:j<xs.length)(b:xs[j]<0\/255<xs[j]):putV k xs=0:=by
 have:iE xs≠true:=λhc=>by have:=List.all_eq_true.1 hc xs[j] (List.getElem_mem h);have:=rI.1 this;omega
 rw[putV,jN this]
theorem z6p(k:Int)(xs:List Int)(j:Nat)(n:0<=k)(l:k<=15)(o:xs.length<=7)(h:j<xs.length)(h0:0<=xs[j])(h1:xs[j]<=255)(f:iE (xs.take j)=true):
  bits .or .u64 (k+16*horner (xs.take j)) (IntKind.u64.wrap (xs[j]*2^(4+8*j)))=k+16*horner (xs.take (j+1))/\iE (xs.take (j+1))=true:=by
 have hb:=VW _ f;have b:(xs.take j).length=j:=by simp;omega
 rw[b]at hb;have i:xs.getD j 0=xs[j]:=by simp[List.getD_eq_getElem?_getD,h]
 rw[zuv xs j h,zvn,zyh,f,b,i,GK _ _ j (by omega) (by omega) (by omega) h0 h1];exact⟨by omega,by simpa using rI.2 ⟨h0,h1⟩⟩
theorem wK(k:Int)(xs:List Int)(h:iE xs=true):putV k xs=k+16*horner xs:=by rw[putV,jP h]
def bD (k a b:Int):Bool:=decide (k<0)||decide (4<k)||(k==0&&a !=0)||(k !=2&&b !=0)
def QA (k a b:Int):Int:=if bD k a b=true then 0 else putV k [a,b]
def QE (k a:Int):Bool:=decide (k<0)||decide (3<k)||(k==0&&a !=0)
def VA (k a:Int):Int:=if QE k a=true then 0 else putV k [a]
def bK (k a:Int):Bool:=decide (k<0)||decide (4<k)||(k !=3&&a !=0)
def ZA (k a:Int):Int:=if bK k a=true then 0 else putV k [a]
theorem MJ(k a:Int)(h0:0<=a)(h1:a<=255):putV k [a]=k+16*a:=by
 rw[wK k _ (by simp[iE,okB];omega)];simp[horner]
theorem AL(k a b:Int)(h0:0<=a)(h1:a<=255)(h2:0<=b)(h3:b<=255):putV k [a,b]=k+16*a+4096*b:=by
 rw[wK k _ (by simp[iE,okB];omega)];simp[horner];omega
theorem yf0(k a b c:Int)(h0:0<=a)(h1:a<=255)(h2:0<=b)(h3:b<=255)(h4:0<=c)(f:c<=255):putV k [a,b,c]=k+16*a+4096*b+1048576*c:=by
 rw[wK k _ (by simp[iE,okB];omega)];simp[horner];omega
end Go.Proofs.YtkilokkopbajkaaGreat

namespace Go.Proofs.YtkilokkopbajkaaGreat

def wi (n lo hi:Int):Bool:=decide (lo<=n)&&decide (n<=hi)
theorem BA{n lo hi:Int}:wi n lo hi=true↔lo<=n/\n<=hi:=by simp[wi]
theorem zG{n lo hi:Int}:wi n lo hi=false↔¬(lo<=n/\n<=hi):=by rw[<-BA];simp
def mayB (p c m:Int):Bool:=wi p 1 64&&wi c 1 12&&wi m 0 8
theorem JA{p c m:Int}:mayB p c m=true↔1<=p/\p<=64/\1<=c/\c<=12/\0<=m/\m<=8:=by
 simp only[mayB,jC,BA];omega
def pA (p c m at':Int):Int:=if mayB p c m=true/\wi at' 0 (p-1)=true then c+at' else -1
def zA (k:Int):Int:=if k=0 then 4 else if k=1 then 8 else if k=2 then 16 else if k=3 then 32 else 0
def mA (k:Int):Int:=if k=0 then 16 else if k=1 then 8 else if k=2 then 4 else if k=3 then 2 else 0
end Go.Proofs.YtkilokkopbajkaaGreat

namespace Go.Proofs.YtkilokkopbajkaaGreat

def pB (n:Int):Int:=if wi n 1 32=true then (if n<=4 then 0 else if n<=8 then 1 else if n<=16 then 2 else 3) else 0
def runV (n:Int):Int:=if wi n 33 512=true then (n-1) / 64+1 else 0
def lenB (n:Int):Bool:=wi n 1 512
def lenV (n:Int):Int:=if wi n 1 32=true then zA (pB n) else runV n*64
theorem JQ(n:Int):0<=pB n/\pB n<=3:=by unfold pB;split<;>(try split)<;>(try split)<;>(try split)<;>omega
theorem dY{n k:Int}(b:1<=n/\n<=32)(h0:0<=k)(h:k<=pB n):zA k<n↔k<pB n:=by
 have h1:wi n 1 32=true:=BA.2 b;unfold pB at*;rw[jP h1]at*;unfold zA;split at h<;>(try split at h)<;>(try split at h)<;>(split<;>(try split)<;>(try split)<;>(try split)<;>(try split)<;>(try split)<;>(try split))<;>omega
theorem mJ(n:Int):0<=runV n/\runV n<=8:=by
 unfold runV;split
 .rename_i h;have:=BA.1 h;omega
 omega
theorem GH(k:Int):0<=zA k/\zA k<=32:=by unfold zA;split<;>(try split)<;>(try split)<;>(try split)<;>omega
theorem CC(k:Int):0<=mA k/\mA k<=16:=by unfold mA;split<;>(try split)<;>(try split)<;>(try split)<;>omega
theorem mY{k:Int}(h:0<=k/\k<=3):zA k*mA k=64:=by
 have:k=0\/k=1\/k=2\/k=3:=by omega
 rcases this with rfl|rfl|rfl|rfl<;>rfl
def xB (p c m:Int):Int:=if mayB p c m=true then c+p+p*16+c*m else 0
def uA (p c m x:Int):Int:=if mayB p c m=true/\wi x 0 (c-1)=true then x else -1
def bB (p c m a i:Int):Int:=if mayB p c m=true/\wi a 0 (p-1)=true/\wi i 0 15=true then c+p+a*16+i else -1
def kC (p c m x i:Int):Int:=if mayB p c m=true/\wi x 0 (c-1)=true/\wi i 0 (m-1)=true then c+p+p*16+x*m+i else -1
theorem TE{c m C M:Int}(hc:0<=c/\c<=C)(b:0<=m/\m<=M):0<=c*m/\c*m<=C*M:=
 ⟨Int.mul_nonneg hc.1 b.1,Int.mul_le_mul hc.2 b.2 b.1 (by omega)⟩
theorem z6x(p c m:Int):0<=xB p c m/\xB p c m<=1196:=by
 unfold xB;split
 .rename_i h;have h:=JA.1 h;have:=TE (c:=c) (m:=m) (C:=12) (M:=8) (by omega) (by omega);omega
 omega
end Go.Proofs.YtkilokkopbajkaaGreat

namespace Go.Proofs.YtkilokkopbajkaaGreat

namespace Fl

open Ieee

def B:Nat:=4503599627370496
def INF:Nat:=9218868437227405312
def SW:Nat:=9223372036854775808
theorem ZV:double.binade=B:=by decide
theorem dU:double.infRung=INF:=by decide
theorem RQ:double.signWeight=SW:=by decide
theorem rX:double.leastPlace= -1074:=by decide
theorem LN:0<B:=by decide
theorem z6o:B<=INF:=by decide
theorem AW:INF<SW:=by decide
theorem ygc:INF=2047*B:=by decide
def rung (w:Nat):Nat:=w % SW
def neg (w:Nat):Bool:=w / SW % 2==1
def mg (r:Nat):Nat:=if r<B then r else B+r % B
def sh (r:Nat):Nat:=if r<B then 0 else r / B-1
def V (r:Nat):Nat:=mg r*2 ^ sh r
def iv (w:Nat):Int:=if neg w then -(rung w:Int) else (rung w:Int)
def nan (w:Nat):Bool:=decide (INF<rung w)
theorem wQ(w:Nat):double.read w=if rung w<B then .number (neg w) (rung w) (-1074) else if rung w<INF then .number (neg w) (B+rung w%B) (-1074+(rung w/B-1:Nat)) else if rung w=INF then .infinity (neg w) else .nan (neg w) (rung w-INF):=by
 unfold Format.read;simp only[ZV,dU,RQ,rX];rfl
theorem bI{w:Nat}(h:rung w<INF):double.read w=.number (neg w) (mg (rung w)) (-1074+(sh (rung w):Nat)):=by
 rw[wQ];unfold mg sh;by_cases h1:rung w<B
 .simp[h1]
 rw[jN h1,jP h,jN h1,jN h1]
theorem yM{w:Nat}(h:rung w=INF):double.read w=.infinity (neg w):=by
 have h2:¬INF<B:=by decide
 rw[wQ,h,jN h2,jN (by omega),jP rfl]
theorem CX{w:Nat}(h:INF<rung w):double.read w=.nan (neg w) (rung w-INF):=by
 have h2:B<=INF:=z6o;rw[wQ,jN (by omega),jN (by omega),jN (by omega)]
theorem YI:V 0=0:=by decide
theorem KO(r:Nat):V r<V (r+1):=by
 have f:=LN;unfold V mg sh;by_cases h:r+1<B
 .rw[jP (by omega),jP (by omega),jP h,jP h];simp
 rw[jN h,jN h];by_cases h1:r<B
 .have e:r+1=B:=by omega
  rw[jP h1,jP h1,e,Nat.mod_self,Nat.div_self f];simp;omega
 rw[jN h1,jN h1];have hd:=Nat.div_add_mod r B;have n:=Nat.mod_lt r f;have o:1<=r/B:=by rw[Nat.le_div_iff_mul_le f];omega
 by_cases h2:r%B+1<B
 .have b:(r+1)/B=r/B:=by rw[Nat.div_eq_iff f];rw[Nat.mul_comm]at hd;have:=Nat.add_mul (r/B) 1 B;omega
  have i:(r+1)%B=r%B+1:=by have:=Nat.div_add_mod (r+1) B;rw[b]at this;omega
  rw[b,i];exact Nat.mul_lt_mul_of_pos_right (by omega) (Nat.two_pow_pos _)
 have j:r%B=B-1:=by omega
 have b:(r+1)/B=r/B+1:=by rw[Nat.div_eq_iff f];rw[Nat.mul_comm]at hd;have:=Nat.add_mul (r/B) 1 B;have:=Nat.add_mul (r/B+1) 1 B;omega
 have i:(r+1)%B=0:=by have:=Nat.div_add_mod (r+1) B;rw[b,Nat.mul_add]at this;omega
 rw[j,b,i];have l:r/B+1-1=(r/B-1)+1:=by omega
 rw[l,Nat.pow_succ,Nat.add_zero,<- Nat.mul_assoc,Nat.mul_right_comm];exact Nat.mul_lt_mul_of_pos_right (by omega) (Nat.two_pow_pos _)
theorem V_lt{a b:Nat}(h:a<b):V a<V b:=by
 induction b with
 |zero=>omega;|succ n f=>
  rcases Nat.lt_or_ge a n with h1|h1
  .exact Nat.lt_trans (f h1) (KO n)
  obtain rfl:a=n:=by omega
  exact KO a
theorem V_le{a b:Nat}(h:a<=b):V a<=V b:=by
 rcases Nat.lt_or_eq_of_le h with h|rfl
 .exact Nat.le_of_lt (V_lt h)
 exact Nat.le_refl _
theorem JM{a b:Nat}:V a<V b↔a<b:=⟨λh=>by
 rcases Nat.lt_or_ge a b with h1|h1
 .exact h1
 .have:=V_le h1;omega,V_lt⟩
def sv (w:Nat):Int:=if neg w then -(V (rung w):Int) else (V (rung w):Int)
theorem KP{x y:Nat}:sv x<sv y↔iv x<iv y:=by
 have h1:=@JM (rung x) (rung y);have h2:=@JM (rung y) (rung x);have b:=@JM 0 (rung x);have f:=@JM 0 (rung y);rw[YI]at b f;unfold sv iv;cases neg x<;>cases neg y<;>simp only[if_true,if_false,Bool.false_eq_true]<;>omega
theorem z3a{x y:Nat}:sv x=sv y↔iv x=iv y:=by
 have h1:=@KP x y;have h2:=@KP y x;omega
theorem IZ{a b c d:Int}(h1:a<b↔c<d)(h2:a=b↔c=d):compare a b=compare c d:=by
 simp only[compare,compareOfLessAndEq];by_cases h:c<d
 .rw[jP h,jP (h1.2 h)]
 rw[jN h,jN (λf=>h (h1.1 f))];by_cases f:c=d
 .rw[jP f,jP (h2.2 f)]
 rw[jN f,jN (λi=>f (h2.1 i))]
theorem HU(s:Bool)(m k a:Nat):signed s m a*((2^k:Nat):Int)=signed s m (a+k):=by
 unfold signed;rw[Nat.shiftLeft_eq,Nat.shiftLeft_eq,Nat.pow_add,<- Nat.mul_assoc];cases s
 .simp[Int.natCast_mul]
 simp[Int.natCast_mul,Int.neg_mul]
theorem mX(w:Nat):sv w=signed (neg w) (mg (rung w)) (sh (rung w)):=by
 unfold sv signed V;rw[Nat.shiftLeft_eq]
theorem z5r{x y:Nat}(i:rung x<=INF)(f:rung y<=INF):double.order x y=some (compare (iv x) (iv y)):=by
 unfold Format.order;rcases Nat.lt_or_eq_of_le i with i|i
 .rcases Nat.lt_or_eq_of_le f with f|f
  .rw[bI i,bI f];simp only[Datum.order,Option.some.injEq];generalize s:sh (rung x)=a;generalize hb:sh (rung y)=b;have n:(-1074+(a:Int)-min (-1074+(a:Int)) (-1074+(b:Int))).toNat=a-min a b:=by omega
   have o:(-1074+(b:Int)-min (-1074+(a:Int)) (-1074+(b:Int))).toNat=b-min a b:=by omega
   rw[n,o];have j:=HU (neg x) (mg (rung x)) (min a b) (a-min a b);have l:=HU (neg y) (mg (rung y)) (min a b) (b-min a b);rw[Nat.sub_add_cancel (Nat.min_le_left _ _),<- s,<- mX]at j;rw[Nat.sub_add_cancel (Nat.min_le_right _ _),<- hb,<- mX]at l;rw[s]at j;rw[hb]at l;have t:(0:Int)<((2^min a b:Nat):Int):=by exact_mod_cast Nat.two_pow_pos _
   generalize ((2^min a b:Nat):Int)=p at*;generalize signed (neg x) (mg (rung x)) (a-min a b)=X at*;generalize signed (neg y) (mg (rung y)) (b-min a b)=Y at*;apply IZ
   .rw[<-KP,<- j,<- l];exact⟨λh=>Int.mul_lt_mul_of_pos_right h t,λh=>Int.lt_of_mul_lt_mul_right h (Int.le_of_lt t)⟩
   rw[<-z3a,<- j,<- l];exact⟨λh=>by rw[h],λh=>Int.eq_of_mul_eq_mul_right (by omega) h⟩
  rw[bI i,yM f];simp only[Datum.order,Option.some.injEq];have:iv y=if neg y then -(INF:Int) else(INF:Int):=by unfold iv;rw[f]
  rw[this];cases hn:neg y
  .have h:iv x<(INF:Int):=by unfold iv;split<;>omega
   simp[compare,compareOfLessAndEq,h]
  have h:¬iv x < -(INF:Int):=by unfold iv;split<;>omega
  have q:¬iv x= -(INF:Int):=by unfold iv;split<;>omega
  simp[compare,compareOfLessAndEq,h,q]
 rcases Nat.lt_or_eq_of_le f with f|f
 .rw[yM i,bI f];simp only[Datum.order,Option.some.injEq];have:iv x=if neg x then -(INF:Int) else(INF:Int):=by unfold iv;rw[i]
  rw[this];cases hn:neg x
  .have h:¬(INF:Int)<iv y:=by unfold iv;split<;>omega
   have q:¬(INF:Int)=iv y:=by unfold iv;split<;>omega
   simp[compare,compareOfLessAndEq,h,q]
  have h: -(INF:Int)<iv y:=by unfold iv;split<;>omega
  simp[compare,compareOfLessAndEq,h]
 rw[yM i,yM f];simp only[Datum.order,Option.some.injEq];have n:iv x=if neg x then -(INF:Int) else(INF:Int):=by unfold iv;rw[i]
 have o:iv y=if neg y then -(INF:Int) else(INF:Int):=by unfold iv;rw[f]
 rw[n,o];cases neg x<;>cases neg y<;>decide
theorem gW{x y:Nat}(h:INF<rung x\/INF<rung y):double.order x y=none:=by
 unfold Format.order;rcases h with h|h
 .rw[CX h];rfl
 rw[CX h];cases double.read x<;>rfl
def ltB (x y:Nat):Bool:= !nan x && !nan y&&decide (iv x<iv y)
def gtB (x y:Nat):Bool:= !nan x && !nan y&&decide (iv y<iv x)
def eqB (x y:Nat):Bool:= !nan x && !nan y&&decide (iv x=iv y)
theorem vP(x y:Nat):double.order x y=if nan x||nan y then none else some (compare (iv x) (iv y)):=by
 unfold nan;by_cases h1:INF<rung x
 .rw[gW (.inl h1)];simp[h1]
 by_cases h2:INF<rung y
 .rw[gW (.inr h2)];simp[h2]
 rw[z5r (by omega) (by omega)];simp[h1,h2]
theorem z5e(x y:Nat):(double.order x y==some .lt)=ltB x y:=by
 rw[vP];unfold ltB;cases nan x<;>cases nan y<;>simp[compare,compareOfLessAndEq];by_cases h:iv x<iv y
 .simp[h]
 by_cases b:iv x=iv y<;>simp[h,b]
theorem IM(x y:Nat):(double.order x y==some .gt)=gtB x y:=by
 rw[vP];unfold gtB;cases nan x<;>cases nan y<;>simp[compare,compareOfLessAndEq];by_cases h:iv x<iv y
 .have:¬iv y<iv x:=by omega
  simp[h,this]
 by_cases b:iv x=iv y
 .simp[b]
 have:iv y<iv x:=by omega
 simp[h,b,this]
theorem YV(x y:Nat):(double.order x y==some .eq)=eqB x y:=by
 rw[vP];unfold eqB;cases nan x<;>cases nan y<;>simp[compare,compareOfLessAndEq];by_cases h:iv x<iv y
 .have:¬iv x=iv y:=by omega
  simp[h,this]
 by_cases b:iv x=iv y<;>simp[h,b]
end Fl

end Go.Proofs.YtkilokkopbajkaaGreat

namespace Go.Proofs.YtkilokkopbajkaaGreat

namespace Fl

open Ieee

theorem ZF(n:Nat):0<2^n:=Nat.two_pow_pos n
theorem yew(r:Nat):V (r+1)=V r+2^sh r:=by
 have f:=LN;unfold V mg sh;by_cases h:r+1<B
 .have o:r<B:=by omega
  simp[h,o]
 rw[jN h,jN h];by_cases h1:r<B
 .have e:r+1=B:=by omega
  rw[jP h1,jP h1,e,Nat.mod_self,Nat.div_self f];simp;omega
 rw[jN h1,jN h1];have hd:=Nat.div_add_mod r B;have q:=Nat.mod_lt r f;have s:1<=r/B:=by rw[Nat.le_div_iff_mul_le f];omega
 by_cases h2:r%B+1<B
 .have b:(r+1)/B=r/B:=by rw[Nat.div_eq_iff f];rw[Nat.mul_comm]at hd;have:=Nat.add_mul (r/B) 1 B;omega
  have i:(r+1)%B=r%B+1:=by have:=Nat.div_add_mod (r+1) B;rw[b]at this;omega
  rw[b,i,<- Nat.add_assoc,Nat.add_mul,Nat.one_mul]
 have j:r%B=B-1:=by omega
 have b:(r+1)/B=r/B+1:=by rw[Nat.div_eq_iff f];rw[Nat.mul_comm]at hd;have:=Nat.add_mul (r/B) 1 B;have:=Nat.add_mul (r/B+1) 1 B;omega
 have i:(r+1)%B=0:=by have:=Nat.div_add_mod (r+1) B;rw[b,Nat.mul_add]at this;omega
 rw[j,b,i];have l:r/B+1-1=(r/B-1)+1:=by omega
 rw[l,Nat.pow_succ,Nat.add_zero];generalize 2^(r/B-1)=t;have n:B+(B-1)+1=B*2:=by omega
 rw[<-Nat.succ_mul,Nat.succ_eq_add_one,n,Nat.mul_assoc,Nat.mul_comm t 2]
def Rnd (v K r:Nat):Prop:=∃r0,V r0*2 ^ K<=v/\v<V (r0+1)*2 ^ K/\
 (2*v<(V r0+V (r0+1))*2 ^ K->r=r0)/\((V r0+V (r0+1))*2 ^ K<2*v->r=r0+1)/\(2*v=(V r0+V (r0+1))*2 ^ K->r=if r0 % 2=0 then r0 else r0+1)
theorem Rnd.mono{v v' K r f:Nat}(h:Rnd v K r)(y:Rnd v' K f)(s:v<=v'):r<=f:=by
 obtain⟨a,a1,z,l,n,o⟩:=h;obtain⟨b,B,C,t,i,q⟩:=y;have D:r=a\/r=a+1:=by
  rcases Nat.lt_trichotomy (2*v) ((V a+V (a+1))*2^K) with h|h|h
  .exact .inl (l h)
  .have:=o h;split at this<;>omega
  exact .inr (n h)
 have E:f=b\/f=b+1:=by
  rcases Nat.lt_trichotomy (2*v') ((V b+V (b+1))*2^K) with h|h|h
  .exact .inl (t h)
  .have:=q h;split at this<;>omega
  exact .inr (i h)
 have j:a<=b:=by
  rcases Nat.lt_or_ge b a with h|h
  .have h1:V (b+1)<=V a:=V_le h;have h2:=Nat.mul_le_mul_right (2^K) h1;omega
  exact h
 rcases Nat.lt_or_eq_of_le j with h|rfl
 .omega
 rcases Nat.lt_trichotomy (2*v) ((V a+V (a+1))*2^K) with h|h|h
 .have:=l h;omega
 .rcases Nat.lt_or_eq_of_le s with s|rfl
  .have:=i (by omega);omega
  have:=o h;have:=q h;split at this<;>split at* <;> omega
 have:=n h;have:=i (by omega);omega
theorem Rnd.exact(r K:Nat):Rnd (V r*2^K) K r:=by
 have h1:=KO r;have h2:=Nat.mul_lt_mul_of_pos_right h1 (ZF K);refine⟨r,Nat.le_refl _,h2,λ_=>rfl,λh=>?_,λh=>?_⟩
 .rw[Nat.add_mul]at h;omega
 rw[Nat.add_mul]at h;omega
theorem OX{m low rest d e s K r0 r:Nat}(o:m=low*2^d+rest)(D:rest<2^d)(y:e+d=s+K)(h0:V r0=low*2^s)(h1:V (r0+1)=(low+1)*2^s)(C:r0%2=low%2)(i:r=r0+(2^d<2*rest||(2^d==2*rest&&low%2==1):Bool).toNat):Rnd (m*2^e) K r:=by
 have q:V r0*2^K=low*2^d*2^e:=by rw[h0,Nat.mul_assoc,<- Nat.pow_add,<- y,Nat.pow_add,Nat.mul_comm (2^e),<- Nat.mul_assoc]
 have t:V (r0+1)*2^K=(low+1)*2^d*2^e:=by rw[h1,Nat.mul_assoc,<- Nat.pow_add,<- y,Nat.pow_add,Nat.mul_comm (2^e),<- Nat.mul_assoc]
 have l:(V r0+V (r0+1))*2^K=(2*(low*2^d)+2^d)*2^e:=by rw[Nat.add_mul,q,t,<- Nat.add_mul];congr 1;rw[Nat.add_mul,Nat.one_mul];omega
 have n:2*(m*2^e)=(2*(low*2^d)+2*rest)*2^e:=by rw[o,<- Nat.mul_assoc];congr 1;omega
 have pe:=ZF e;have f:∀{a b:Nat},a*2^e<b*2^e↔a<b:=λ{a b}=>Nat.mul_lt_mul_right pe;refine⟨r0,?_,?_,?_,?_,?_⟩
 .rw[q,o];exact Nat.mul_le_mul_right _ (by omega)
 .rw[t,o,f,Nat.add_mul];omega
 .rw[l,n,f];intro h;rw[i];have a1:¬ 2^d<2*rest:=by omega
  have j:(2^d==2*rest)=false:=by rw[beq_eq_false_iff_ne];omega
  simp[a1,j]
 .rw[l,n,f];intro h;rw[i];have a1:2^d<2*rest:=by omega
  simp[a1]
 rw[l,n];intro h;have h:=Nat.eq_of_mul_eq_mul_right pe h;have a1:2^d=2*rest:=by omega
 rw[i];have j:¬ 2^d<2*rest:=by omega
 have z:(2^d==2*rest)=true:=by rw[beq_iff_eq];exact a1
 rw[z];simp only[j,decide_false,Bool.false_or,Bool.true_and];by_cases B:low%2=1
 .rw[B,jN (by omega)];rfl
 have:low%2=0:=by omega
 rw[this,jP (by omega)];rfl
def pre (m:Nat) (p:Int):Nat:=
 let last:=max (p+m.log2-52) (-1074)
 (last+1074).toNat*B+Toward.even.cut false (m <<< (p-last).toNat) (last-p).toNat
theorem zzd(neg:Bool)(m:Nat)(p:Int):double.nearest neg m p=if m=0 then double.word neg 0 else double.word neg (min (pre m p) INF):=by
 unfold Format.nearest pre;rw[rX,ZV,dU];have e:double.fractionBits=52:=rfl;rw[e];rfl
theorem YT{m:Nat}(b:m≠0):2^m.log2<=m/\m<2^(m.log2+1):=⟨Nat.log2_self_le b,Nat.lt_log2_self⟩
theorem B_eq:B=2^52:=by decide
theorem yeu(s n:Nat):(s*B+n)%2=n%2:=by
 have:B=2*2251799813685248:=by decide
 rw[this,<- Nat.mul_assoc,Nat.mul_comm s 2,Nat.mul_assoc];omega
theorem V_at{s n:Nat}(h1:n<2*B)(h2:s=0\/B<=n):V (s*B+n)=n*2^s/\V (s*B+n+1)=(n+1)*2^s:=by
 have b:=LN;have key:sh (s*B+n)=s/\mg (s*B+n)=n:=by
  unfold sh mg;by_cases h:n<B
  .have hs:s=0:=by omega
   subst hs;rw[Nat.zero_mul,Nat.zero_add,jP h,jP h];exact⟨rfl,rfl⟩
  have e:s*B+n=(s+1)*B+(n-B):=by rw[Nat.add_mul,Nat.one_mul];omega
  have h3:¬s*B+n<B:=by omega
  rw[jN h3,jN h3,e,Nat.mul_comm (s+1) B];rw[Nat.mul_add_div b,Nat.mul_add_mod,Nat.div_eq_of_lt (by omega),Nat.mod_eq_of_lt (by omega)];omega
 have h0:V (s*B+n)=n*2^s:=by unfold V;rw[key.1,key.2]
 refine⟨h0,?_⟩;rw[yew,h0,key.1,Nat.add_mul,Nat.one_mul]
theorem ZM(d:Nat):1 <<< d=2^d:=by rw[Nat.shiftLeft_eq,Nat.one_mul]
theorem vZ{m:Nat}(R:m≠0){p:Int}{K e:Nat}(S:(e:Int)=p+1074+K):Rnd (m*2^e) K (pre m p):=by
 obtain⟨I,J⟩:=YT R;unfold pre;generalize G:m.log2=L at*;dsimp only;by_cases T: -1074<=p+L-52
 .have f:max (p+(L:Int)-52) (-1074)=p+L-52:=by omega
  rw[f];obtain⟨s,hs⟩:=Int.eq_ofNat_of_zero_le (show 0<=p+L-52+1074 by omega);have o:(p+(L:Int)-52+1074).toNat=s:=by omega
  rw[o];by_cases N:52<=L
  .obtain⟨d,hd⟩:∃d,L=52+d:=⟨L-52,by omega⟩;have q:(p-(p+(L:Int)-52)).toNat=0:=by omega
   have t:(p+(L:Int)-52-p).toNat=d:=by omega
   rw[q,t];unfold Toward.cut;simp only[Nat.shiftLeft_zero,G];rw[Nat.min_eq_left (by omega),ZM];have j:=ZF d;have b:m/2^d<2*B:=by
    rw[Nat.div_lt_iff_lt_mul j,B_eq];have:2*2^52*2^d=2^(L+1):=by rw[hd,<- Nat.pow_succ',<- Nat.pow_add];congr 1;omega
    omega
   have i:B<=m/2^d:=by rw[Nat.le_div_iff_mul_le j,B_eq,<- Nat.pow_add,<- hd];exact I
   obtain⟨l,C⟩:=V_at (s:=s) b (.inr i);refine OX (d:=d) (s:=s) (r0:=s*B+m/2^d) (low:=m/2^d) (rest:=m%2^d) ?_ (Nat.mod_lt _ j) (by omega) l C (yeu _ _) ?_
   .rw[Nat.mul_comm];exact(Nat.div_add_mod _ _).symm
   rw[Nat.add_assoc]
  obtain⟨k,H⟩:∃k,52=L+k:=⟨52-L,by omega⟩;have q:(p-(p+(L:Int)-52)).toNat=k:=by omega
  have t:(p+(L:Int)-52-p).toNat=0:=by omega
  rw[q,t];unfold Toward.cut;simp only[Nat.zero_min,Nat.shiftLeft_zero,Nat.div_one,Nat.mod_one];rw[Nat.shiftLeft_eq];have b:m*2^k<2*B:=by
   have:=Nat.mul_lt_mul_of_pos_right J (ZF k);rw[<-Nat.pow_add]at this;have M:L+1+k=53:=by omega
   rw[M]at this;have:(2:Nat)^53=2*B:=by decide
   omega
  have i:B<=m*2^k:=by have:=Nat.mul_le_mul_right (2^k) I;rw[<-Nat.pow_add,<- H]at this;rw[B_eq];exact this
  obtain⟨l,_⟩:=V_at (s:=s) b (.inr i);have F:m*2^e=V (s*B+m*2^k)*2^K:=by rw[l,Nat.mul_assoc,Nat.mul_assoc,<- Nat.pow_add,<- Nat.pow_add];congr 2;omega
  rw[F];have:(s*B+(m*2^k+(decide (1<2*0)||(1==2*0&&m*2^k%2==1)).toNat))=s*B+m*2^k:=by simp
  rw[this];exact Rnd.exact _ _
 have f:max (p+(L:Int)-52) (-1074)= -1074:=by omega
 rw[f];have o:(-1074+1074:Int).toNat=0:=rfl;rw[o,Nat.zero_mul,Nat.zero_add];by_cases U: -1074<=p
 .obtain⟨k,H⟩:=Int.eq_ofNat_of_zero_le (show 0<=p+1074 by omega);have q:(p-(-1074)).toNat=k:=by omega
  have t:(-1074-p).toNat=0:=by omega
  rw[q,t];unfold Toward.cut;simp only[Nat.zero_min,Nat.shiftLeft_zero,Nat.div_one,Nat.mod_one];rw[Nat.shiftLeft_eq];have b:m*2^k<2*B:=by have h1:=Nat.mul_lt_mul_of_pos_right J (ZF k);rw[<-Nat.pow_add]at h1;have h2:2^(L+1+k)<=2^52:=Nat.pow_le_pow_right (by omega) (by omega);rw[<-B_eq]at h2;omega
  obtain⟨l,_⟩:=V_at (s:=0) b (.inl rfl);rw[Nat.zero_mul,Nat.zero_add]at l;have F:m*2^e=V (m*2^k)*2^K:=by rw[l,Nat.pow_zero,Nat.mul_one,Nat.mul_assoc,<- Nat.pow_add];congr 2;omega
  rw[F];have:(m*2^k+(decide (1<2*0)||(1==2*0&&m*2^k%2==1)).toNat)=m*2^k:=by simp
  rw[this];exact Rnd.exact _ _
 obtain⟨d,hd⟩:=Int.eq_ofNat_of_zero_le (show 0<= -1074-p by omega);have q:(p-(-1074)).toNat=0:=by omega
 have t:(-1074-p).toNat=d:=by omega
 rw[q,t];unfold Toward.cut;simp only[Nat.shiftLeft_zero,G];by_cases E:d<=L+2
 .rw[Nat.min_eq_left E,ZM];have j:=ZF d;have b:m/2^d<2*B:=by rw[Nat.div_lt_iff_lt_mul j];have h2:2^(L+1)<=2^(52+d):=Nat.pow_le_pow_right (by omega) (by omega);rw[Nat.pow_add 2 52 d,<- B_eq]at h2;have:=Nat.mul_le_mul_right (2^d) (show B<=2*B by omega);omega
  obtain⟨l,C⟩:=V_at (s:=0) b (.inl rfl);rw[Nat.zero_mul,Nat.zero_add]at l C;refine OX (d:=d) (s:=0) (r0:=m/2^d) (low:=m/2^d) (rest:=m%2^d) ?_ (Nat.mod_lt _ j) (by omega) l C rfl rfl;rw[Nat.mul_comm];exact(Nat.div_add_mod _ _).symm
 rw[Nat.min_eq_right (by omega),ZM];have y:m<2^(L+2):=by have:2^(L+1)<=2^(L+2):=Nat.pow_le_pow_right (by omega) (by omega);omega
 have z:2*m<2^(L+2):=by rw[Nat.pow_succ];omega
 rw[Nat.div_eq_of_lt y,Nat.mod_eq_of_lt y];have n:(0+(decide (2^(L+2)<2*m)||(2^(L+2)==2*m&&0%2==1)).toNat)=0:=by
  have:¬ 2^(L+2)<2*m:=by omega
  simp[this]
 rw[n];have O:2*(m*2^e)<2^K:=by rw[<-Nat.mul_assoc];have h1:=Nat.mul_lt_mul_of_pos_right z (ZF e);rw[<-Nat.pow_add]at h1;have h2:2^(L+2+e)<=2^K:=Nat.pow_le_pow_right (by omega) (by omega);omega
 have D:V (0+1)=1:=by decide
 refine⟨0,by rw[YI];omega,by rw[D];omega,λ_=>rfl,λh=>?_,λh=>?_⟩
 .rw[YI,D]at h;omega
 rw[YI,D]at h;omega
end Fl

end Go.Proofs.YtkilokkopbajkaaGreat

namespace Go.Proofs.YtkilokkopbajkaaGreat

namespace Fl

open Ieee

def EX:Nat:=1074
theorem sL:EX=1074:=rfl
def R (m:Nat) (p:Int):Nat:=if m=0 then 0 else min (pre m p) INF
theorem R_le(m:Nat)(p:Int):R m p<=INF:=by unfold R;split;exact Nat.zero_le _;exact Nat.min_le_right _ _
theorem iX(s:Bool)(m:Nat)(p:Int):double.nearest s m p=double.word s (R m p):=by
 rw[zzd];unfold R;split<;>rfl
theorem HT(s:Bool)(r:Nat):double.word s r=if s then SW+r else r:=by unfold Format.word;rw[RQ]
theorem EW(s:Bool){r:Nat}(h:r<SW):rung (double.word s r)=r:=by
 rw[HT];unfold rung;cases s
 .simp[Nat.mod_eq_of_lt h]
 simp[Nat.mod_eq_of_lt h]
theorem oX(s:Bool){r:Nat}(h:r<SW):neg (double.word s r)=s:=by
 rw[HT];unfold neg;cases s
 .simp[Nat.div_eq_of_lt h]
 have:(SW+r)/SW=1:=by rw[Nat.div_eq_iff (by decide)];omega
 simp[this]
theorem Rnd.val{v K r:Nat}(h:Rnd (V r*2^K) K v):v=r:=Nat.le_antisymm (h.mono (Rnd.exact r K) lr) ((Rnd.exact r K).mono h lr)
section

variable {m m' e e' K r:Nat}{p p':Int}

theorem GQ(b:(e:Int)=p+1074+K)(h:m*2^e<=V r*2^K):R m p<=r:=by
 unfold R;split
 .exact Nat.zero_le _
 rename_i h0;exact Nat.le_trans (Nat.min_le_left _ _) ((vZ h0 b).mono (Rnd.exact r K) h)
end

theorem rep{G:Nat}{s:Nat}(q:G<2*B)(hs:s<=2045):∃r,V r=G*2^s/\r<=INF:=by
 rcases Nat.eq_zero_or_pos G with rfl|h0
 .exact⟨0,by rw[YI];simp,Nat.zero_le _⟩
 obtain⟨o,f⟩:=YT (m:=G) (by omega);have y:G.log2<=52:=by
  rcases Nat.lt_or_ge 52 G.log2 with h|h
  .have:=Nat.pow_le_pow_right (n:=2) (by omega) (show 53<=G.log2 from h);have e:2*B=2^53:=by decide
   omega
  exact h
 generalize G.log2=L at*;have t:INF=2047*B:=ygc;by_cases z:52-L<=s
 .have j:2^(L+1)*2^(52-L)=2*B:=by rw[<-Nat.pow_add,show L+1+(52-L)=53 by omega];decide
  have l:2^L*2^(52-L)=B:=by rw[<-Nat.pow_add,show L+(52-L)=52 by omega];decide
  have b:=Nat.mul_lt_mul_of_pos_right f (ZF (52-L));have i:=Nat.mul_le_mul_right (2^(52-L)) o;rw[j]at b;rw[l]at i;refine⟨(s-(52-L))*B+G*2^(52-L),?_,?_⟩
  .rw[(V_at b (.inr i)).1,Nat.mul_assoc,<- Nat.pow_add];congr 2;omega
  have:(s-(52-L))*B<=2045*B:=Nat.mul_le_mul_right _ (by omega);omega
 have b:G*2^s<2*B:=by
  have h1:=Nat.mul_lt_mul_of_pos_right f (ZF s);rw[<-Nat.pow_add]at h1;have h2:2^(L+1+s)<=2^53:=Nat.pow_le_pow_right (by omega) (by omega);have e:2*B=2^53:=by decide
  omega
 refine⟨G*2^s,?_,?_⟩
 .have:=(V_at (s:=0) b (.inl rfl)).1;rw[Nat.zero_mul,Nat.zero_add]at this;rw[this];simp
 have:2*B<=INF:=by decide
 omega
theorem z7q(n:Int):floatOfInt .f64 n=double.word (decide (n<0)) (R n.natAbs 0):=by
 unfold floatOfInt FloatKind.nearest FloatKind.encode;show double.nearest _ _ _=_;rw[iX]
theorem z4d(m:Nat){c s:Nat}(h:c<=s):m*2^s=m*2^(s-c)*2^c:=by rw[Nat.mul_assoc,<- Nat.pow_add,Nat.sub_add_cancel h]
def T (r:Nat):Nat:=V r / 2 ^ EX
theorem T_le{a b:Nat}(h:a<=b):T a<=T b:=Nat.div_le_div_right (V_le h)
theorem z5z{x:Nat}(i:rung x<INF):(FloatKind.f64.decode x).toInt .zero=some (if neg x then -(T (rung x):Int) else(T (rung x):Int)):=by
 show (double.read x).toInt .zero=_;rw[bI i];generalize rung x=r;unfold Datum.toInt;simp only[Datum.integral,Option.some.injEq];have key:Toward.zero.cut (neg x) (mg r <<< (-1074+(sh r:Int)).toNat) (-(-1074+(sh r:Int))).toNat=T r:=by
  unfold Toward.cut T V;simp only[Bool.toNat_false,Nat.add_zero];rw[ZM,Nat.shiftLeft_eq];generalize mg r=m;generalize sh r=s;have j:=sL;by_cases h:EX<=s
  .have b:(-1074+(s:Int)).toNat=s-EX:=by omega
   have f:(-(-1074+(s:Int))).toNat=0:=by omega
   rw[b,f,Nat.zero_min,Nat.pow_zero,Nat.div_one];rw[z4d m h,Nat.mul_div_cancel _ (ZF _)]
  have b:(-1074+(s:Int)).toNat=0:=by omega
  have f:(-(-1074+(s:Int))).toNat=EX-s:=by omega
  rw[b,f,Nat.pow_zero,Nat.mul_one];have e:m*2^s/2^EX=m/2^(EX-s):=by
   have:(2:Nat)^EX=2^(EX-s)*2^s:=by rw[<-Nat.pow_add,Nat.sub_add_cancel (by omega)]
   rw[this,Nat.mul_div_mul_right _ _ (ZF _)]
  rw[e];by_cases hd:EX-s<=m.log2+2
  .rw[Nat.min_eq_left hd]
  rw[Nat.min_eq_right (by omega)];have l:m<2^(m.log2+1):=Nat.lt_log2_self;have h1:2^(m.log2+1)<=2^(m.log2+2):=Nat.pow_le_pow_right (by omega) (by omega);have h2:2^(m.log2+1)<=2^(EX-s):=Nat.pow_le_pow_right (by omega) (by omega);rw[Nat.div_eq_of_lt (by omega),Nat.div_eq_of_lt (by omega)]
 rw[key];unfold signed;rw[Nat.shiftLeft_zero]
def ONE:Nat:=4607182418800017408
theorem ye7:V (ONE-1)=(2*B-1)*2^1021:=by decide +kernel
def TOP:Nat:=4890909195324358655
theorem yfy:V TOP=(2*B-1)*2^1084:=by decide +kernel
theorem yfj:TOP<INF:=by decide
theorem MO:V (TOP+1)=2^63*2^EX:=by decide +kernel
theorem ygd:(T TOP:Int)<=9223372036854775807:=by decide +kernel
theorem z4f{f:Nat}(j:f<ONE){n:Nat}(i:n<=9223372036854775807):V f*V (R n 0)<=V TOP*2^EX:=by
 have h1:V f<=(2*B-1)*2^1021:=by rw[<-ye7];exact V_le (by unfold ONE at*;omega)
 have b:n<=2^63:=by
  have:(2:Nat)^63=9223372036854775808:=by decide
  omega
 have h2:R n 0<=TOP+1:=by refine GQ (K:=0) (e:=EX) (by rw[sL];omega) ?_;rw[MO,Nat.pow_zero,Nat.mul_one];exact Nat.mul_le_mul_right _ b
 have h3:V (R n 0)<=2^63*2^EX:=by rw[<-MO];exact V_le h2
 have h4:=Nat.mul_le_mul h1 h3;rw[yfy];have e:(2*B-1)*2^1021*(2^63*2^EX)=(2*B-1)*2^1084*2^EX:=by decide +kernel
 rw[e]at h4;exact h4
end Fl

end Go.Proofs.YtkilokkopbajkaaGreat

namespace Go.Proofs.YtkilokkopbajkaaGreat

namespace Fl

open Ieee

theorem FW(x:Nat):rung (x ^^^ 2^63)=rung x:=by
 have e:SW=2^63:=by decide
 unfold rung;rw[e,Nat.xor_mod_two_pow,Nat.mod_self,Nat.xor_zero]
theorem z6h{x:Nat}:neg (x ^^^ 2^63)= !neg x:=by
 have e:SW=2^63:=by decide
 unfold neg;rw[e,<- Nat.shiftRight_eq_div_pow,<- Nat.shiftRight_eq_div_pow,Nat.shiftRight_xor_distrib];have:2^63 >>> 63=1:=by decide
 rw[this];have h:=Nat.xor_mod_two_pow (a:=x >>> 63) (b:=1) (n:=1);have h1:(2:Nat)^1=2:=rfl;rw[h1]at h;rw[h];rcases Nat.mod_two_eq_zero_or_one (x >>> 63) with f|f<;>rw[f]<;>decide
theorem YY(x:Nat):iv (x ^^^ 2^63)= -iv x:=by
 unfold iv;rw[FW,z6h];cases neg x<;>simp
theorem z5s(x:Nat):nan (x ^^^ 2^63)=nan x:=by
 unfold nan;rw[FW]
theorem DN{x:Nat}(h:nan x=false): -(INF:Int)<=iv x/\iv x<=INF:=by
 unfold nan at h;have h:rung x<=INF:=by simpa using h
 unfold iv;split<;>omega
def mD (x:Nat):Int:=if nan x then 0 else if iv x= -(INF:Int) then 1 else if iv x=(INF:Int) then 5 else if iv x<0 then 2 else if 0<iv x then 4 else 3
def key (x:Nat):Int:=if nan x then -(2*INF+3:Int) else if neg x then -(2*(rung x:Int)+1) else 2*(rung x:Int)
def mN:Nat:=9218868437227405311
theorem z3o:iv mN=9218868437227405311:=by decide
theorem zzk:nan mN=false:=by decide
theorem KT:iv 0=0:=by decide
theorem uX:nan 0=false:=by decide
theorem NW(x:Nat):gtB x mN=decide (mD x=5):=by
 unfold gtB;rw[zzk,z3o];unfold mD;cases h:nan x
 .have:=DN h;simp only[Bool.not_false,Bool.true_and,Bool.false_eq_true,if_false];unfold INF at*;rw[Bool.eq_iff_iff,decide_eq_true_eq,decide_eq_true_eq];split
  .omega
  split
  .omega
  split<;>(try split)<;>omega
 simp
theorem z18(x:Nat):gtB (x ^^^ 2^63) mN=decide (mD x=1):=by
 rw[NW];unfold mD;rw[z5s,YY];cases h:nan x
 .have:=DN h;simp only[Bool.false_eq_true,if_false];unfold INF at*;rw[Bool.eq_iff_iff,decide_eq_true_eq,decide_eq_true_eq];by_cases h1:iv x= -9218868437227405312
  .simp[h1]
  by_cases h2:iv x=9218868437227405312
  .simp[h2]
  by_cases h3:iv x<0
  .rw[jN (by omega),jN (by omega),jN (by omega),jP (by omega),jN (by omega),jN (by omega),jP (by omega)];simp
  by_cases h4:0<iv x
  .rw[jN (by omega),jN (by omega),jP (by omega),jN (by omega),jN (by omega),jN (by omega),jP (by omega)];simp
  rw[jN (by omega),jN (by omega),jN (by omega),jN (by omega),jN (by omega),jN (by omega),jN (by omega),jN (by omega)];simp
 simp
theorem wZ(x:Nat):ltB x 0=(!nan x&&decide (iv x<0)):=by
 unfold ltB;rw[uX,KT];simp
theorem z9v(x:Nat):gtB x 0=(!nan x&&decide (0<iv x)):=by
 unfold gtB;rw[uX,KT];simp
theorem IY(x:Nat):eqB x x= !nan x:=by
 unfold eqB;cases nan x<;>simp
theorem XW{x:Nat}:mD x=0↔nan x=true:=by
 unfold mD;cases nan x
 .simp only[Bool.false_eq_true,if_false,iff_false];repeat' split
  all_goals omega
 simp
theorem z4r{x:Nat}(h:nan x=false):(mD x=1/\iv x= -(INF:Int))\/(mD x=2/\ -(INF:Int)<iv x/\iv x<0)\/(mD x=3/\iv x=0)\/(mD x=4/\0<iv x/\iv x<(INF:Int))\/(mD x=5/\iv x=(INF:Int)):=by
 have h1:=DN h;have f:(0:Int)<(INF:Int):=by decide
 unfold mD;rw[jN (by simp[h])];by_cases a:iv x= -(INF:Int)
 .rw[jP a];omega
 rw[jN a];by_cases b:iv x=(INF:Int)
 .rw[jP b];omega
 rw[jN b];by_cases c:iv x<0
 .rw[jP c];omega
 rw[jN c];by_cases d:0<iv x
 .rw[jP d];omega
 rw[jN d];omega
end Fl

end Go.Proofs.YtkilokkopbajkaaGreat

namespace Go.Proofs.YtkilokkopbajkaaGreat

namespace Fl

open Ieee

def EE (a b:Nat):Nat:=R (mg a*mg b) (-1074+(sh a:Int)+(-1074+(sh b:Int)))
theorem ye3(a b:Nat):V a*V b=mg a*mg b*2^(sh a+sh b):=by
 unfold V;rw[Nat.pow_add];simp only[Nat.mul_assoc,Nat.mul_left_comm]
theorem yec(a b:Nat):((sh a+sh b:Nat):Int)= -1074+(sh a:Int)+(-1074+(sh b:Int))+1074+EX:=by
 have:=sL;omega
theorem NX{a b r:Nat}(h:V a*V b<=V r*2^EX):EE a b<=r:=GQ (yec a b) (by rw[<-ye3];exact h)
theorem z6i{x y:Nat}(b:rung x<INF)(f:rung y<INF):double.mul x y=some (double.word (neg x ^^ neg y) (EE (rung x) (rung y))):=by
 unfold Format.mul;rw[bI b,bI f];simp only[Datum.product,Option.map_some,Format.write,iX];rfl
theorem zyc{n:Int}(h0: -9223372036854775808<=n)(h1:n<=9223372036854775807):rung (floatOfInt .f64 n)=R n.natAbs 0/\neg (floatOfInt .f64 n)=decide (n<0)/\R n.natAbs 0<=TOP+1/\rung (floatOfInt .f64 n)<INF:=by
 have f:INF<SW:=AW;have b:n.natAbs<=2^63:=by
  have:(2:Nat)^63=9223372036854775808:=by decide
  omega
 have h2:R n.natAbs 0<=TOP+1:=by refine GQ (K:=0) (e:=EX) (by rw[sL];omega) ?_;rw[MO,Nat.pow_zero,Nat.mul_one];exact Nat.mul_le_mul_right _ b
 have h3:TOP+1<INF:=by decide
 rw[z7q];have h4:=R_le n.natAbs 0;rw[EW _ (by omega),oX _ (by omega)];exact⟨rfl,rfl,h2,by omega⟩
theorem yfe:iv ONE=(ONE:Int):=by decide +kernel
theorem xY:nan ONE=false:=by decide +kernel
def jD (x:Nat) (n:Int):Int:=
 if n<1\/nan x=true\/iv x<0 then 0 else if (ONE:Int)<=iv x then n-1 else min (T (EE (rung x) (R n.natAbs 0)):Int) (n-1)
theorem zye{x:Nat}{n:Int}(i:1<=n)(b:n<=9223372036854775807)(h0:0<=iv x)(h1:iv x<(ONE:Int)):
  ∃r,floatBits .mul .f64 x (floatOfInt .f64 n)=some r/\floatToIntVal .f64 r .i64=some (T (EE (rung x) (R n.natAbs 0)):Int)/\(T (EE (rung x) (R n.natAbs 0)):Int)<=9223372036854775807:=by
 have G:ONE<INF:=by decide
 have t:0<ONE:=by decide
 have C:rung x<ONE:=by unfold iv at h0 h1;cases i:neg x<;>simp only[i,if_true,if_false,Bool.false_eq_true]at h0 h1<;>omega
 obtain⟨l,o,E,q⟩:=zyc (n:=n) (by omega) b;have y:EE (rung x) (R n.natAbs 0)<=TOP:=NX (z4f C (by omega));have H:=T_le y;have B:=ygd;refine⟨double.word (neg x ^^ neg (floatOfInt .f64 n)) (EE (rung x) (R n.natAbs 0)),?_,?_,by omega⟩
 .show double.mul _ _=_;rw[z6i (by omega) q,l]
 have F:INF<SW:=AW;have z:=yfj;unfold floatToIntVal;have j:=EW (neg x ^^ neg (floatOfInt .f64 n)) (r:=EE (rung x) (R n.natAbs 0)) (by omega);rw[z5z (by rw[j];omega),j,oX _ (by omega)];have D:(neg x ^^ neg (floatOfInt .f64 n))=true->T (EE (rung x) (R n.natAbs 0))=0:=by
  intro h;rw[o,jF (by omega),Bool.xor_false]at h;have f:rung x=0:=by unfold iv at h0;rw[jP h]at h0;omega
  have:EE (rung x) (R n.natAbs 0)<=0:=NX (by rw[f,YI];simp);have h2:EE (rung x) (R n.natAbs 0)=0:=by omega
  rw[h2];decide +kernel
 have s:(if (neg x ^^ neg (floatOfInt .f64 n))=true then -(T (EE (rung x) (R n.natAbs 0)):Int) else(T (EE (rung x) (R n.natAbs 0)):Int))=(T (EE (rung x) (R n.natAbs 0)):Int):=by
  split
  .rename_i h;rw[D h];rfl
  rfl
 rw[s];have m1:IntKind.i64.min= -9223372036854775808:=by decide
 have m2:IntKind.i64.max=9223372036854775807:=by decide
 simp only[m1,m2];rw[jP ⟨by omega,by omega⟩]
end Fl

end Go.Proofs.YtkilokkopbajkaaGreat

namespace Go.Proofs.YtkilokkopbajkaaGreat

namespace Fl

open Ieee

theorem z2u(x:Nat){n:Int}(b:1<=n):0<=jD x n/\jD x n<n:=by
 unfold jD;split
 .omega
 split
 .omega
 omega
end Fl

end Go.Proofs.YtkilokkopbajkaaGreat
