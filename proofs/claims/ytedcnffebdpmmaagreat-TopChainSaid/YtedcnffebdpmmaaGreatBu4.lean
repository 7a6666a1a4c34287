/- Texts bound together: PlanW PlnS PlnX QVars QLoud RefS. -/
import Derived.Deep.DrawnRows

import Derived.Test.YtedcnffebdpmmaaGreatBu2

set_option linter.all false
set_option maxHeartbeats 1000000
namespace Go.Proofs.YtedcnffebdpmmaaGreat

section

open Go.RowKit

theorem za9(n lo hi:Int)(w:World):
  Calls Tryz.prog 49 #[n,lo,hi] w fun e w'=>e= .returned (.bool (wi n lo hi))/\w'=w:=by
 go_in;go_wp2;all_goals go_ret
 all_goals refine⟨zg6 ?_,rfl⟩
 all_goals simp[wi]
 all_goals omega
theorem zcc(p c m:Int)(w:World):
  Calls Tryz.prog 28 #[.agg #[p,c,m]] w fun e w'=>e= .returned (.bool (mayB p c m))/\w'=w.alloc (.cells #[p,c,m] 23):=by
 have h1:wi p 1 64=true\/wi p 1 64=false:=by cases wi p 1 64<;>simp
 have h2:wi c 1 12=true\/wi c 1 12=false:=by cases wi c 1 12<;>simp
 rcases h1 with h1|h1<;>rcases h2 with h2|h2 <;>
 ·go_in;go_wp2_with (go_at_call 49;refine(za9 _ _ _ _).mono ?_;rintro e w' ⟨rfl,rfl⟩);go_ret;exact⟨zg6 (by simp[mayB,h1,h2]),rfl⟩
theorem planPage_any(p c m a:Int)(w:World):
  Calls Tryz.prog 65 #[.agg #[p,c,m],a] w fun e w'=>e= .returned (.int .i64 (zak p c m a))/\Below w.heap.size w w':=by
 by_cases h1:mayB p c m=true
 ·have hb:=zar.1 h1;have o:wrap64 (p-1)=p-1:=IntWalk.wrap64_in _ ⟨by omega,by omega⟩;by_cases h2:wi a 0 (p-1)=true
  ·have n:=zbc.1 h2;go_in;go_wp2_with (first|(go_at_call 28;refine(zcc _ _ _ _).mono ?_;rintro e j ⟨rfl,rfl⟩)|(go_at_call 49;refine(za9 _ _ _ _).mono ?_;rintro e w' ⟨rfl,rfl⟩));go_ret;exact⟨zf5 (by rw[zak,if_pos ⟨h1,h2⟩]),by go_grown⟩
  have i:wi a 0 (p-1)=false:=by simpa using h2
  clear h2;go_in;go_wp2_with (first|(go_at_call 28;refine(zcc _ _ _ _).mono ?_;rintro e j ⟨rfl,rfl⟩)|(go_at_call 49;refine(za9 _ _ _ _).mono ?_;rintro e w' ⟨rfl,rfl⟩));go_ret;exact⟨zf5 (by rw[zak,if_neg (by simp[i])]),by go_grown⟩
 have b:mayB p c m=false:=by simpa using h1
 clear h1;go_in;go_wp2_with (first|(go_at_call 28;refine(zcc _ _ _ _).mono ?_;rintro e j ⟨rfl,rfl⟩)|(go_at_call 49;refine(za9 _ _ _ _).mono ?_;rintro e w' ⟨rfl,rfl⟩));go_ret;exact⟨zf5 (by rw[zak,if_neg (by simp[b])]),by go_grown⟩
theorem slots_any(k:Int)(w:World):
  Calls Tryz.prog 67 #[k] w fun e w'=>e= .returned (.int .i64 (zah k))/\w'=w:=by
 by_cases h:0<=k/\k<=3
 ·have h1:wi k 0 3=true:=zbc.2 h;have:k=0\/k=1\/k=2\/k=3:=by omega
  rcases this with rfl|rfl|rfl|rfl <;>
  ·go_in;go_wp2_with (go_at_call 49;refine(za9 _ _ _ _).mono ?_;rintro e w' ⟨rfl,rfl⟩);go_ret;exact⟨rfl,rfl⟩
 have h1:wi k 0 3=false:=zgo.2 h;go_in;go_wp2_with (go_at_call 49;refine(za9 _ _ _ _).mono ?_;rintro e w' ⟨rfl,rfl⟩);go_ret;exact⟨zf5 (by rw[zah,if_neg (by omega),if_neg (by omega),if_neg (by omega),if_neg (by omega)]),rfl⟩
theorem refMay_any(p c m:Int)(w:World):
  Calls Tryz.prog 46 #[.agg #[p,c,m]] w fun e w'=>e= .returned (.bool (mayB p c m))/\w'=w.alloc (.cells #[p,c,m] 23):=by
 go_in;go_wp2;all_goals go_ret
 all_goals refine⟨zg6 ?_,rfl⟩
 all_goals (rw[Bool.eq_iff_iff,zar];simp;omega)
end

section

open Go.RowKit

attribute [local go_sem ↓] Go.wp_at_zero Go.wp_at_succ

theorem zgq(k:Int)(w:World):
  Calls Tryz.prog 66 #[k] w fun e w'=>e= .returned (.int .i64 (zbj k))/\w'=w:=by
 by_cases h:0<=k/\k<=3
 ·have h1:wi k 0 3=true:=zbc.2 h;have:k=0\/k=1\/k=2\/k=3:=by omega
  rcases this with rfl|rfl|rfl|rfl <;>
  ·go_in;go_wp2_with (go_at_call 49;refine(za9 _ _ _ _).mono ?_;rintro e w' ⟨rfl,rfl⟩);go_ret;exact⟨rfl,rfl⟩
 have h1:wi k 0 3=false:=zgo.2 h;go_in;go_wp2_with (go_at_call 49;refine(za9 _ _ _ _).mono ?_;rintro e w' ⟨rfl,rfl⟩);go_ret;exact⟨zf5 (by rw[zbj,if_neg (by omega),if_neg (by omega),if_neg (by omega),if_neg (by omega)]),rfl⟩
theorem zmu(n:Int)(w:World):
  Calls Tryz.prog 104 #[n] w fun e w'=>e= .returned (.tuple #[.int .i64 (zcn n),.bool (wi n 1 32)])/\w'=w:=by
 by_cases h:1<=n/\n<=32
 ·have h1:wi n 1 32=true:=zbc.2 h;have m:=zwh n;have b:=fun k h0=>zxo (k:=k) h h0;obtain⟨c,hc⟩:∃ c:Nat,zcn n=c:=⟨(zcn n).toNat,by omega⟩;rw[h1,hc];rw[hc]at m;simp only[hc]at b;clear hc;go_in;go_wp2_with (go_at_call 49;refine(za9 _ _ _ _).mono ?_;rintro e w' ⟨rfl,i⟩;obtain rfl:=i.symm);go_loopw [4] (fun q wr=>∃ k:Nat,k<=c/\q= .int .i64 k/\wr=w) (fun q _=>c-(intOf q).toNat);case atStart=>exact⟨0,Nat.zero_le _,rfl,by first|rfl|trivial⟩
  case round=>
   obtain⟨k,s,rfl,p⟩:=hrel;obtain rfl:=p.symm;have j:=b k (by omega) (by omega);clear b;by_cases r:k<c
   ·have hs:zbj k<n:=j.2 (by omega);clear j;go_wp2_with (go_at_call 66;refine(zgq _ _).mono ?_;rintro e w' ⟨rfl,i⟩;obtain rfl:=i.symm);exact⟨⟨k+1,by omega,by go_num,by first|rfl|trivial⟩,by simp[intOf];omega⟩
   have hs:¬ zbj k<n:=fun h=>by have:=j.1 h;omega
   have o:k=c:=by omega
   subst o;clear j;go_wp2_with (go_at_call 66;refine(zgq _ _).mono ?_;rintro e w' ⟨rfl,i⟩;obtain rfl:=i.symm);go_ret2;exact⟨rfl,rfl⟩
 have h1:wi n 1 32=false:=zgo.2 h;have h2:zcn n=0:=by unfold zcn;rw[if_neg (by rw[h1];simp)]
 rw[h1,h2];go_in;go_wp2_with (go_at_call 49;refine(za9 _ _ _ _).mono ?_;rintro e w' ⟨rfl,rfl⟩);go_ret2;exact⟨rfl,rfl⟩
theorem zur(n:Int)(w:World):
  Calls Tryz.prog 86 #[n] w fun e w'=>e= .returned (.tuple #[.int .i64 (runV n),.bool (wi n 33 512)])/\w'=w:=by
 by_cases h:33<=n/\n<=512
 ·have h1:wi n 33 512=true:=zbc.2 h;have h2:runV n=(n-1)/64+1:=by unfold runV;rw[if_pos h1]
  have h3:=wrp (n-1);have h4:=wrp ((n-1)/64+1);rw[h1,h2];clear h2;go_in;go_wp2_with (go_at_call 49;refine(za9 _ _ _ _).mono ?_;rintro e w' ⟨rfl,rfl⟩);go_ret2;exact⟨rfl,rfl⟩
 have h1:wi n 33 512=false:=zgo.2 h;have h2:runV n=0:=by unfold runV;rw[if_neg (by rw[h1];simp)]
 rw[h1,h2];go_in;go_wp2_with (go_at_call 49;refine(za9 _ _ _ _).mono ?_;rintro e w' ⟨rfl,rfl⟩);go_ret2;exact⟨rfl,rfl⟩
theorem zo1(n:Int)(w:World):
  Calls Tryz.prog 84 #[n] w fun e w'=>e= .returned (.tuple #[.int .i64 (lenV n),.bool (lenB n)])/\w'=w:=by
 by_cases h:1<=n/\n<=32
 ·have h1:wi n 1 32=true:=zbc.2 h;have h2:lenV n=zbj (zcn n):=by unfold lenV;rw[if_pos h1]
  have h3:lenB n=true:=zbc.2 (by omega);rw[h2,h3];clear h2;go_in;go_wp2_with (first|(go_at_call 104;refine(zmu _ _).mono ?_;rintro e w' ⟨rfl,rfl⟩)|(go_at_call 66;refine(zgq _ _).mono ?_;rintro e w' ⟨rfl,rfl⟩));go_ret2;exact⟨rfl,rfl⟩
 have h1:wi n 1 32=false:=zgo.2 h;have h2:lenV n=runV n*64:=by unfold lenV;rw[if_neg (by rw[h1];simp)]
 have h3:lenB n=wi n 33 512:=by rw[Bool.eq_iff_iff];unfold lenB;rw[zbc,zbc];omega
 have hb:=yc6 n;have h4:=wrp (runV n*64);rw[h2,h3];clear h2 h3;go_in;go_wp2_with (first|(go_at_call 104;refine(zmu _ _).mono ?_;rintro e w' ⟨rfl,rfl⟩)|(go_at_call 86;refine(zur _ _).mono ?_;rintro e w' ⟨rfl,rfl⟩));go_ret2;exact⟨rfl,rfl⟩
end

section

open Go.RowKit

theorem zro(p c m:Int)(w:World):
  Calls Tryz.prog 45 #[.agg #[p,c,m]] w fun e w'=>e= .returned (.int .i64 (zb6 p c m))/\Below w.heap.size w w':=by
 by_cases h1:mayB p c m=true
 ·have hb:=zar.1 h1;have n:=zk3 (c:=c) (m:=m) (C:=12) (M:=8) (by omega) (by omega);have b:zb6 p c m=c+p+p*16+c*m:=by unfold zb6;rw[if_pos h1]
  rw[b];clear b;have i:=wrp (c+p);have o:=wrp (p*16);have q:=wrp (c+p+p*16);have r:=wrp (c*m);have s:=wrp (c+p+p*16+c*m);go_in;go_wp2_with (go_at_call 28;refine(zcc _ _ _ _).mono ?_;rintro e i ⟨rfl,rfl⟩);go_ret;exact⟨rfl,by go_grown⟩
 have j:mayB p c m=false:=by simpa using h1
 have b:zb6 p c m=0:=by unfold zb6;rw[if_neg h1]
 rw[b];clear h1 b;go_in;go_wp2_with (go_at_call 28;refine(zcc _ _ _ _).mono ?_;rintro e i ⟨rfl,rfl⟩);go_ret;exact⟨rfl,by go_grown⟩
theorem zau(p c m x:Int)(w:World):
  Calls Tryz.prog 22 #[.agg #[p,c,m],x] w fun e w'=>e= .returned (.int .i64 (zae p c m x))/\Below w.heap.size w w':=by
 by_cases h1:mayB p c m=true;case neg=>
  have n:mayB p c m=false:=by simpa using h1
  have b:zae p c m x= -1:=by unfold zae;rw[if_neg (fun h=>h1 h.1)]
  rw[b];clear h1 b;go_in;go_wp2_with (first|(go_at_call 28;refine(zcc _ _ _ _).mono ?_;rintro e j ⟨rfl,rfl⟩)|(go_at_call 49;refine(za9 _ _ _ _).mono ?_;rintro e w' ⟨rfl,rfl⟩));go_ret;exact⟨rfl,by go_grown⟩
 case pos=>
  have hb:=zar.1 h1;have wc:wrap64 (c-1)=c-1:=IntWalk.wrap64_in _ ⟨by omega,by omega⟩;by_cases i:wi x 0 (c-1)=true;case neg=>
   have q':wi x 0 (c-1)=false:=by simpa using i
   have b:zae p c m x= -1:=by unfold zae;rw[if_neg (fun h=>i h.2)]
   rw[b];clear i b;go_in;go_wp2_with (first|(go_at_call 28;refine(zcc _ _ _ _).mono ?_;rintro e j ⟨rfl,rfl⟩)|(go_at_call 49;refine(za9 _ _ _ _).mono ?_;rintro e w' ⟨rfl,rfl⟩));go_ret;exact⟨rfl,by go_grown⟩
  have o:=zbc.1 i;have b:zae p c m x=x:=by unfold zae;rw[if_pos ⟨h1,i⟩]
  rw[b];clear b;go_in;go_wp2_with (first|(go_at_call 28;refine(zcc _ _ _ _).mono ?_;rintro e j ⟨rfl,rfl⟩)|(go_at_call 49;refine(za9 _ _ _ _).mono ?_;rintro e w' ⟨rfl,rfl⟩));go_ret;exact⟨rfl,by go_grown⟩
theorem zbm(p c m a i:Int)(w:World):
  Calls Tryz.prog 96 #[.agg #[p,c,m],a,i] w fun e w'=>e= .returned (.int .i64 (zbk p c m a i))/\Below w.heap.size w w':=by
 by_cases h1:mayB p c m=true;case neg=>
  have o:mayB p c m=false:=by simpa using h1
  have b:zbk p c m a i= -1:=by unfold zbk;rw[if_neg (fun h=>h1 h.1)]
  rw[b];clear h1 b;go_in;go_wp2_with (first|(go_at_call 28;refine(zcc _ _ _ _).mono ?_;rintro e n ⟨rfl,rfl⟩)|(go_at_call 49;refine(za9 _ _ _ _).mono ?_;rintro e w' ⟨rfl,rfl⟩));go_ret;exact⟨rfl,by go_grown⟩
 case pos=>
  have hb:=zar.1 h1;have wc:wrap64 (p-1)=p-1:=IntWalk.wrap64_in _ ⟨by omega,by omega⟩;by_cases j:wi a 0 (p-1)=true;case neg=>
   have q':wi a 0 (p-1)=false:=by simpa using j
   have b:zbk p c m a i= -1:=by unfold zbk;rw[if_neg (fun h=>j h.2.1)]
   rw[b];clear j b;go_in;go_wp2_with (first|(go_at_call 28;refine(zcc _ _ _ _).mono ?_;rintro e n ⟨rfl,rfl⟩)|(go_at_call 49;refine(za9 _ _ _ _).mono ?_;rintro e w' ⟨rfl,rfl⟩));go_ret;exact⟨rfl,by go_grown⟩
  have q:=zbc.1 j;by_cases q1:wi i 0 15=true;case neg=>
   have q':wi i 0 15=false:=by simpa using q1
   have b:zbk p c m a i= -1:=by unfold zbk;rw[if_neg (fun h=>q1 h.2.2)]
   rw[b];clear q1 b;go_in;go_wp2_with (first|(go_at_call 28;refine(zcc _ _ _ _).mono ?_;rintro e n ⟨rfl,rfl⟩)|(go_at_call 49;refine(za9 _ _ _ _).mono ?_;rintro e w' ⟨rfl,rfl⟩));go_ret;exact⟨rfl,by go_grown⟩
  have r:=zbc.1 q1;have b:zbk p c m a i=c+p+a*16+i:=by unfold zbk;rw[if_pos ⟨h1,j,q1⟩]
  rw[b];clear b;have n:=wrp (c+p);have s:=wrp (a*16);have t:=wrp (c+p+a*16);have z:=wrp (c+p+a*16+i);go_in;go_wp2_with (first|(go_at_call 28;refine(zcc _ _ _ _).mono ?_;rintro e n ⟨rfl,rfl⟩)|(go_at_call 49;refine(za9 _ _ _ _).mono ?_;rintro e w' ⟨rfl,rfl⟩));go_ret;exact⟨rfl,by go_grown⟩
theorem zjh(p c m x i:Int)(w:World):
  Calls Tryz.prog 73 #[.agg #[p,c,m],x,i] w fun e w'=>e= .returned (.int .i64 (ze9 p c m x i))/\Below w.heap.size w w':=by
 by_cases h1:mayB p c m=true;case neg=>
  have o:mayB p c m=false:=by simpa using h1
  have b:ze9 p c m x i= -1:=by unfold ze9;rw[if_neg (fun h=>h1 h.1)]
  rw[b];clear h1 b;go_in;go_wp2_with (first|(go_at_call 28;refine(zcc _ _ _ _).mono ?_;rintro e n ⟨rfl,rfl⟩)|(go_at_call 49;refine(za9 _ _ _ _).mono ?_;rintro e w' ⟨rfl,rfl⟩));go_ret;exact⟨rfl,by go_grown⟩
 case pos=>
  have hb:=zar.1 h1;have wc:wrap64 (c-1)=c-1:=IntWalk.wrap64_in _ ⟨by omega,by omega⟩;have wd:wrap64 (m-1)=m-1:=IntWalk.wrap64_in _ ⟨by omega,by omega⟩;by_cases j:wi x 0 (c-1)=true;case neg=>
   have q':wi x 0 (c-1)=false:=by simpa using j
   have b:ze9 p c m x i= -1:=by unfold ze9;rw[if_neg (fun h=>j h.2.1)]
   rw[b];clear j b;go_in;go_wp2_with (first|(go_at_call 28;refine(zcc _ _ _ _).mono ?_;rintro e n ⟨rfl,rfl⟩)|(go_at_call 49;refine(za9 _ _ _ _).mono ?_;rintro e w' ⟨rfl,rfl⟩));go_ret;exact⟨rfl,by go_grown⟩
  have q:=zbc.1 j;by_cases q1:wi i 0 (m-1)=true;case neg=>
   have q':wi i 0 (m-1)=false:=by simpa using q1
   have b:ze9 p c m x i= -1:=by unfold ze9;rw[if_neg (fun h=>q1 h.2.2)]
   rw[b];clear q1 b;go_in;go_wp2_with (first|(go_at_call 28;refine(zcc _ _ _ _).mono ?_;rintro e n ⟨rfl,rfl⟩)|(go_at_call 49;refine(za9 _ _ _ _).mono ?_;rintro e w' ⟨rfl,rfl⟩));go_ret;exact⟨rfl,by go_grown⟩
  have r:=zbc.1 q1;have b:ze9 p c m x i=c+p+p*16+x*m+i:=by unfold ze9;rw[if_pos ⟨h1,j,q1⟩]
  rw[b];clear b;have s:=zk3 (c:=x) (m:=m) (C:=11) (M:=8) (by omega) (by omega);have n:=wrp (c+p);have t:=wrp (p*16);have z:=wrp (c+p+p*16);have B:=wrp (x*m);have D:=wrp (c+p+p*16+x*m);have E:=wrp (c+p+p*16+x*m+i);go_in;go_wp2_with (first|(go_at_call 28;refine(zcc _ _ _ _).mono ?_;rintro e n ⟨rfl,rfl⟩)|(go_at_call 49;refine(za9 _ _ _ _).mono ?_;rintro e w' ⟨rfl,rfl⟩));go_ret;exact⟨rfl,by go_grown⟩
def splitB (p c m a:Int):Bool:=mayB p c m && wi a 0 (p * 64 - 1)
theorem ygw(x:Int)(h0:0<=x)(h1:x<9223372036854775808):bits .and .i64 x 63=x%64:=
 bits_mask .i64 63 (by decide) (fun n a b=>IntWalk.i64_in _ ⟨by omega,by omega⟩) 6 (by decide) x h0 h1
theorem z0r(p c m a:Int)(w:World):
  Calls Tryz.prog 85 #[.agg #[p,c,m],a] w fun e w'=>e= .returned (.tuple (if splitB p c m a=true then #[.int .i64 (a/64),.int .i64 (a%64),.bool true] else #[.int .i64 0,.int .i64 0,.bool false]))/\Below w.heap.size w w':=by
 by_cases h1:mayB p c m=true;case neg=>
  have j:mayB p c m=false:=by simpa using h1
  have b:splitB p c m a=false:=by unfold splitB;rw[j];rfl
  rw[b,if_neg Bool.false_ne_true];clear h1 b;go_in;go_wp2_with (first|(go_at_call 28;refine(zcc _ _ _ _).mono ?_;rintro e n ⟨rfl,rfl⟩)|(go_at_call 49;refine(za9 _ _ _ _).mono ?_;rintro e w' ⟨rfl,rfl⟩));go_ret3;exact⟨rfl,by go_grown⟩
 case pos=>
  have hb:=zar.1 h1;have n:=wrp (p*64);have r:=wrp (p*64-1);by_cases i:wi a 0 (p*64-1)=true;case neg=>
   have q':wi a 0 (p*64-1)=false:=by simpa using i
   have b:splitB p c m a=false:=by unfold splitB;rw[q',Bool.and_false]
   rw[b,if_neg Bool.false_ne_true];clear i b;go_in;go_wp2_with (first|(go_at_call 28;refine(zcc _ _ _ _).mono ?_;rintro e n ⟨rfl,rfl⟩)|(go_at_call 49;refine(za9 _ _ _ _).mono ?_;rintro e w' ⟨rfl,rfl⟩));go_ret3;exact⟨rfl,by go_grown⟩
  have q:=zbc.1 i;have b:splitB p c m a=true:=by unfold splitB;rw[h1,i];rfl
  rw[b,if_pos rfl];clear b;have o:=ygw a (by omega) (by omega);go_in;go_wp2_with (first|(go_at_call 28;refine(zcc _ _ _ _).mono ?_;rintro e n ⟨rfl,rfl⟩)|(go_at_call 49;refine(za9 _ _ _ _).mono ?_;rintro e w' ⟨rfl,rfl⟩));go_ret3;exact⟨rfl,by go_grown⟩
theorem zug(p i k:Int)(w:World)(j:0<=p/\p<=64)(hi:0<=i/\i<=16):
  Calls Tryz.prog 118 #[p,i,k] w fun e w'=>e= .returned (.int .i64 (p*64+i*zbj k))/\w'=w:=by
 have hs:=znt k;have b:=zk3 (c:=i) (m:=zbj k) (C:=16) (M:=32) (by omega) (by omega);have n:=wrp (p*64);have o:=wrp (i*zbj k);have q:=wrp (p*64+i*zbj k);go_in;go_wp2_with (go_at_call 66;refine(zgq _ _).mono ?_;rintro e w' ⟨rfl,rfl⟩);go_ret;exact⟨rfl,rfl⟩
structure zd0 where
 al:Nat
 st:Nat
 so:Nat
 d:Nat
 src:Nat
 t:TypeId
 zero:Array Value
 val:Array Value
def vptr (N:Nat):Value:= .pointer (some ⟨N,0,.none⟩)
def vput (b:Bool) (d N:Nat) (a:Act):Act:=if b=true then a.put (some d) (vptr N) else a
def zd0.lies (x:zd0) (W w:World) (listed:Array Bool) (N:Nat):Prop:=
 listed.getD x.al false=true->W.heap.size<=N/\w.heap[N]?=some (.cells (if listed.getD x.st false=true then x.val else x.zero) x.t (0,0))
structure zhy (W:World) (x y:zd0) (listed:Array Bool) (aQ a:Act) (w:World):Prop where
 below:Below W.heap.size W w
 fits:x.d < aQ.tmps.size/\y.d < aQ.tmps.size
 firsts:(listed.getD x.st false=true->listed.getD x.al false=true)/\(listed.getD y.st false=true->listed.getD y.al false=true)
 there:∃ M N,a=vput (listed.getD x.al false) x.d M (vput (listed.getD y.al false) y.d N aQ)/\x.lies W w listed M/\y.lies W w listed N/\(listed.getD x.al false=true->listed.getD y.al false=true->M≠N)
def zhc (w:World):World->Prop:=fun w'=> Below w.heap.size w w'
def ownB (x y:zd0) (i:Nat):Bool:=i==x.al || i==x.st || i==y.al || i==y.st
def nopO (o:Oper):Oper:= { o with op:= .move (.const undef),dst:=none,guard:=none }
def nopL (x y:zd0) (l:List Oper):List Oper:=l.mapIdx fun i o=> if ownB x y i=true then nopO o else o
def z2q (ops:Array Oper) (x y:zd0):Bool:=
 (List.range ops.size).all fun i=> match ops[i]? with
  | some o=> (o.after.all fun e=> !Region.binds .any e || decide (e.on < i)) && (ownB x y i || (o.guard.isNone && o.dst !=some x.d && o.dst !=some y.d && !(o.looksAt ops).contains x.d && !(o.looksAt ops).contains y.d)) &&
    ((List.range ops.size).all fun j=> match ops[j]? with | some p=> i==j || o.dst.isNone || o.dst !=p.dst | none=> true)
  | none=> true
theorem Act.zjo{a:Act}{d:Tmp}{v:Value}(h:d<a.tmps.size):(a.put (some d) v).eval (.tmp d)=v:=by
 show (a.tmps.setIfInBounds d v).getD d undef=v;simp[h]
theorem zlz{b:Bool}{d N:Nat}{a:Act}{t:Option Tmp}{v:Value}(h:t≠some d):(vput b d N a).put t v=vput b d N (a.put t v):=by
 unfold vput;split
 ·exact Act.put_comm a _ _ fun e f i=>h (by rw[i,<- f])
 rfl
theorem zfk{b:Bool}{d N:Nat}{a:Act}{x:Operand}(h:x≠ .tmp d):(vput b d N a).eval x=a.eval x:=by
 unfold vput;split
 ·exact Act.eval_put fun e f i=>h (by rw[i];injection f with f;rw[f])
 rfl
section

variable {P:Program} {ops ops':Array Oper} {md:Region.Mode} {aF:Act} {W:World} {Q:Exit->Act->World->Prop}

theorem zph{C:World->Prop}{i t:Nat}{o:Oper}(hi:ops'[i]?=some o)(hd:o.dst=some t)(b:∀ j p,ops'[j]?=some p->j≠i->p.dst≠some t)(f:Nat):
  ∀ (listed:Array Bool) (aQ:Act),listed.getD i false=true->wpAnyQ P md ops' C (fun a=>a=aF) f listed aQ->aQ.tmps[t]?=aF.tmps[t]?:=by
 induction f with
 |zero=>intro listed aQ _ h;rw[h.2]
 |succ f D=>
  intro listed aQ s h
  cases hr:Region.ready md ops' listed with
  |nil=>rw[h.1 hr]
  |cons j E=>
   have r:j ∈ Region.ready md ops' listed:=by rw[hr];exact List.mem_cons_self ..
   obtain⟨n,p,z,_⟩:=mem_ready.1 r
   obtain⟨v,_,B⟩:=yieldsIn_of_qOp z (h.2 j r)
   have m:j≠i:=fun e=>by
    subst e
    have:=getD_both n
    rw[s]at this;cases this
   have:=D _ _ (getD_set_true s) B
   rw[<-this]
   have q:=b j p z m
   cases hpd:p.dst with
   |none=>rfl
   |some d=>
    have:d≠t:=fun e=>q (by rw[hpd,e])
    simp[Act.put,Array.getElem?_setIfInBounds_ne this]
theorem zqc{C:World->Prop}{i:Nat}{o:Oper}{v:Value}(hi:ops'[i]?=some o)(b:∀ t,o.dst=some t->∀ j p,ops'[j]?=some p->j≠i->p.dst≠some t){f:Nat}{listed:Array Bool}{aQ:Act}(hu:i<listed.size)
  (h:wpAnyQ P md ops' C (fun a=>a=aF) f (listed.setIfInBounds i true) (aQ.put o.dst v)):aQ.put o.dst v=aQ.put o.dst ((o.dst.map fun t=>aF.tmps.getD t undef).getD undef):=by
 cases hd:o.dst with
 |none=>rfl;|some t=>
  rw[hd]at h;have h1:=zph hi hd (b t hd) f _ _ (by simp[hu]) h;simp only[Option.map_some,Option.getD_some];rcases Nat.lt_or_ge t aQ.tmps.size with m|m
  ·have:(aQ.put (some t) v).tmps[t]?=some v:=by simp[Act.put,m]
   rw[this]at h1;rw[Array.getD_eq_getD_getElem?,<- h1];rfl
  simp[Act.put,Array.setIfInBounds_eq_of_size_le m]
end

theorem gset{listed:Array Bool}{i j:Nat}(h:i<listed.size):(listed.setIfInBounds i true).getD j false=(decide (j=i)||listed.getD j false):=by
 by_cases e:j=i
 ·subst e;simp[h]
 have b:i≠j:=fun f=>e f.symm;simp[Array.getElem?_setIfInBounds_ne b,e]
theorem zfh{listed:Array Bool}{i:Nat}(h:listed.getD i true=false):i<listed.size:=by
 rcases Nat.lt_or_ge i listed.size with h1|h1
 ·exact h1
 simp[Array.getElem?_eq_none h1]at h
section

variable {P:Program} {l:List Oper} {md:Region.Mode} {aF:Act} {W:World} {Q:Exit->Act->World->Prop} {x y:zd0}

theorem zmy(i:Nat):(nopL x y l).toArray[i]?=(l.toArray[i]?).map fun o=>if ownB x y i=true then nopO o else o:=by
 simp[nopL,List.getElem?_mapIdx]
theorem zne(listed:Array Bool):Region.ready md (nopL x y l).toArray listed=Region.ready md l.toArray listed:=by
 unfold Region.ready;have hs:(nopL x y l).toArray.size=l.toArray.size:=by simp[nopL]
 rw[hs];apply List.filter_congr;intro i _;rw[zmy];congr 1;cases l.toArray[i]? with
 |none=>rfl;|some o=>simp only[Option.map_some,Option.getD_some];split<;>rfl
structure yef (l:List Oper) (x y:zd0) (i:Nat) (o:Oper):Prop where
 low:∀ e ∈ o.after,Region.binds .any e=true->e.on < i
 quiet:ownB x y i=false->o.guard=none/\o.dst≠some x.d/\o.dst≠some y.d/\x.d ∉ o.looksAt l.toArray/\y.d ∉ o.looksAt l.toArray
 dist:∀ t,o.dst=some t->∀ j p,l.toArray[j]?=some p->j≠i->p.dst≠some t
theorem zm4(h:z2q l.toArray x y=true){i:Nat}{o:Oper}(hi:l.toArray[i]?=some o):yef l x y i o:=by
 have q:i<l.toArray.size:=(Array.getElem?_eq_some_iff.1 hi).1;have h1:=List.all_eq_true.1 h i (List.mem_range.2 q);simp only[hi,Bool.and_eq_true,Bool.or_eq_true]at h1;obtain⟨⟨h2,h3⟩,h4⟩:=h1;refine⟨fun e z m=>?_,fun f=>?_,fun t B j p s r=>?_⟩
 ·have:=(Array.all_eq_true_iff_forall_mem.1 h2) e z;simpa[m] using this
 ·rw[f]at h3;simp only[Bool.false_eq_true,false_or,bne_iff_ne,ne_eq,Bool.not_eq_true',Option.isNone_iff_eq_none,List.contains_eq_mem,decide_eq_false_iff_not]at h3;exact⟨h3.1.1.1.1,h3.1.1.1.2,h3.1.1.2,h3.1.2,h3.2⟩
 have n:j<l.toArray.size:=(Array.getElem?_eq_some_iff.1 s).1;have b:=List.all_eq_true.1 h4 j (List.mem_range.2 n);simp only[s,B,Bool.or_eq_true,beq_iff_eq,bne_iff_ne,ne_eq,Option.isNone_some,Bool.false_eq_true,or_false]at b;rcases b with b|b
 ·exact absurd b.symm r
 exact fun e=>b e.symm
structure ze2 (P:Program) (l:List Oper) (Q:Exit->Act->World->Prop) (aF:Act) (x:zd0):Prop where
 make:∀ a w K,K (a.put (some x.d) (vptr w.heap.size)) (w.alloc (.cells x.zero x.t (0,0)))->wpOp P l.toArray Q x.al K a w
 fill:∀ a w K M,a.eval (.tmp x.d)=vptr M->a.eval (.tmp x.src)=aF.eval (.tmp x.src)->w.heap[M]?=some (.cells x.zero x.t (0,0))->
  (∀ w',w'.heap[M]?=some (.cells x.val x.t (0,0))->Only (fun k=> k=M) w w'->w'.heap.size=w.heap.size->K a w')->wpOp P l.toArray Q x.st K a w
 waits:∀ listed,x.st ∈ Region.ready .any l.toArray listed->listed.getD x.al false=true/\listed.getD x.so false=true
 src:∃ o,l.toArray[x.so]?=some o/\o.dst=some x.src
structure zlh (x y:zd0):Prop where
 n1:x.al≠x.st
 n2:x.al≠y.al
 n3:x.al≠y.st
 n4:x.st≠y.al
 n5:x.st≠y.st
 n6:y.al≠y.st
 d1:x.d≠y.d
 d2:x.src≠x.d
 d3:x.src≠y.d
 d4:y.src≠x.d
 d5:y.src≠y.d
theorem zlh.symm(h:zlh x y):zlh y x:=⟨h.n6,h.n2.symm,h.n4.symm,h.n3.symm,h.n5.symm,h.n1,h.d1.symm,h.d5,h.d4,h.d3,h.d2⟩
theorem z0g{b c:Bool}{d e M N:Nat}{a:Act}(h:d≠e):vput b d M (vput c e N a)=vput c e N (vput b d M a):=by
 unfold vput;cases b<;>cases c<;>simp;exact Act.put_comm a _ _ fun u hu f=>h (by injection hu with hu;injection f with f;omega)
theorem zhy.symm{listed:Array Bool}{aQ a:Act}{w:World}(b:zlh x y)(h:zhy W x y listed aQ a w):zhy W y x listed aQ a w:=by
 obtain⟨M,N,h1,h2,h3,h4⟩:=h.there;exact⟨h.below,h.fits.symm,h.firsts.symm,N,M,by rw[h1,z0g b.d1],h3,h2,fun u v=>(h4 v u).symm⟩
theorem z7g{listed:Array Bool}{aQ a:Act}{w:World}(i:zlh x y)(hs:ze2 P l Q aF x)(h:zhy W x y listed aQ a w)(hu:listed.getD x.al true=false):
  wpOp P l.toArray Q x.al (fun q w'=>zhy W x y (listed.setIfInBounds x.al true) aQ q w') a w:=by
 have b:=zfh hu;have o:=getD_both hu;obtain⟨M,N,h1,h2,h3,h4⟩:=h.there;have j:listed.getD x.st false=false:=by
  rcases Bool.eq_false_or_eq_true (listed.getD x.st false) with e|e
  ·have:=h.firsts.1 e;rw[o]at this;cases this
  exact e
 have f:(listed.setIfInBounds x.al true).getD y.al false=listed.getD y.al false:=by rw[gset b,decide_eq_false i.n2.symm,Bool.false_or]
 have m:(listed.setIfInBounds x.al true).getD x.st false=false:=by rw[gset b,decide_eq_false i.n1.symm,Bool.false_or];exact j
 have n:(listed.setIfInBounds x.al true).getD y.st false=listed.getD y.st false:=by rw[gset b,decide_eq_false i.n3.symm,Bool.false_or]
 have r:(listed.setIfInBounds x.al true).getD x.al false=true:=by rw[gset b,decide_eq_true rfl,Bool.true_or]
 refine hs.make a w _ ⟨h.below.alloc h.below.size _,h.fits,⟨fun e=>(by rw[m]at e;cases e),fun e=>(by rw[f];rw[n]at e;exact h.firsts.2 e)⟩,⟨w.heap.size,N,?_,fun _=>⟨h.below.size,?_⟩,fun e=>?_,fun _ e=>?_⟩⟩
 ·rw[r,f,h1,o];rfl
 ·rw[m,if_neg (by decide)];exact heap_alloc_new w _
 ·rw[f]at e;obtain⟨k1,p⟩:=h3 e;rw[n];refine⟨k1,?_⟩;have:N<w.heap.size:=(Array.getElem?_eq_some_iff.1 p).1;rw[Below.heap_alloc _ _ _ this];exact p
 rw[f]at e;have:N<w.heap.size:=(Array.getElem?_eq_some_iff.1 (h3 e).2).1;omega
theorem z6q{listed:Array Bool}{aQ a:Act}{w:World}(n:zlh x y)(hs:ze2 P l Q aF x)(h:zhy W x y listed aQ a w)(hu:x.st ∈ Region.ready .any l.toArray listed)(i:aQ.eval (.tmp x.src)=aF.eval (.tmp x.src)):
  wpOp P l.toArray Q x.st (fun C w'=>zhy W x y (listed.setIfInBounds x.st true) aQ C w') a w:=by
 have j:=(mem_ready.1 hu).1;have f:=zfh j;have H:=getD_both j;obtain⟨b,I⟩:=hs.waits listed hu;obtain⟨M,N,h1,h2,h3,h4⟩:=h.there;obtain⟨k1,o⟩:=h2 b;rw[H]at o;simp only[Bool.false_eq_true,if_false]at o;have s:(listed.setIfInBounds x.st true).getD x.al false=true:=by rw[gset f,b,Bool.or_true]
 have E:(listed.setIfInBounds x.st true).getD x.st false=true:=by rw[gset f,decide_eq_true rfl,Bool.true_or]
 have m:(listed.setIfInBounds x.st true).getD y.al false=listed.getD y.al false:=by rw[gset f,decide_eq_false n.n4.symm,Bool.false_or]
 have r:(listed.setIfInBounds x.st true).getD y.st false=listed.getD y.st false:=by rw[gset f,decide_eq_false n.n5.symm,Bool.false_or]
 have G:a=(vput (listed.getD y.al false) y.d N aQ).put (some x.d) (vptr M):=by rw[h1,b];rfl
 have q:x.d<(vput (listed.getD y.al false) y.d N aQ).tmps.size:=by
  have:(vput (listed.getD y.al false) y.d N aQ).tmps.size=aQ.tmps.size:=by unfold vput;split<;>simp[Act.put]
  rw[this];exact h.fits.1
 have D:a.eval (.tmp x.d)=vptr M:=by rw[G];exact Act.zjo q
 have p:a.eval (.tmp x.src)=aF.eval (.tmp x.src):=by rw[h1,zfk (fun e=>n.d2 (by injection e)),zfk (fun e=>n.d3 (by injection e))];exact i
 refine hs.fill a w _ M D p o fun w' J t R=>?_;have O:M<w.heap.size:=(Array.getElem?_eq_some_iff.1 o).1;have hb:Below W.heap.size W w':=h.below.trans (t.below (B:=W.heap.size) h.below.size fun k e=>e ▸ k1);refine⟨hb,h.fits,⟨fun _=>s,fun e=>(by rw[m];rw[r]at e;exact h.firsts.2 e)⟩,⟨M,N,?_,fun _=>⟨k1,?_⟩,fun e=>?_,fun _ e=>?_⟩⟩
 ·rw[s,m,h1,b]
 ·rw[E];simpa using J
 ·rw[m]at e;obtain⟨L,z⟩:=h3 e;rw[r];refine⟨L,?_⟩;have F:N<w.heap.size:=(Array.getElem?_eq_some_iff.1 z).1;rw[t.block N F (fun p=>h4 b e p.symm)];exact z
 rw[m]at e;exact h4 b e
theorem zqv{a:Act}{t:Option Tmp}{v:Value}:(a.put t v).tmps.size=a.tmps.size:=by cases t<;>simp[Act.put]
theorem zmk{ops:Array Oper}{o:Oper}{d:Nat}(h:d ∉ o.looksAt ops):∀ z ∈ o.op.operands,z≠ .tmp d:=by
 intro z b e;subst e;refine h (List.mem_append_left _ (List.mem_filterMap.2 ⟨.tmp d,by simpa using b,rfl⟩))
theorem z2g{W w w':World}(h:Below W.heap.size W w)(k:Below w.heap.size w w'):Below W.heap.size W w':=
 ⟨k.os.trans h.os,k.tape.trans h.tape,k.output.trans h.output,Nat.le_trans h.size k.size,fun i hi=>(k.block i (Nat.lt_of_lt_of_le hi h.size)).trans (h.block i hi)⟩
theorem all_in(r:z2q l.toArray x y=true){listed:Array Bool}(z:listed.size=l.toArray.size)(h:Region.ready .any l.toArray listed= []):∀ n i,i<n->i<l.toArray.size->listed.getD i true=true:=by
 intro n;induction n with
 |zero=>intro i hi;omega;|succ n t=>
  intro i hi s;rcases Bool.eq_false_or_eq_true (listed.getD i true) with e|e
  ·exact e
  have p:l.toArray[i]?=some l.toArray[i]:=Array.getElem?_eq_getElem s
  have o:i ∈ Region.ready .any l.toArray listed:=mem_ready.2 ⟨e,_,p,fun b q f=>by
   have m:=(zm4 r p).low b q f
   have:=t b.on (by omega) (by omega)
   have j:b.on<listed.size:=by omega
   simp only[Array.getD_eq_getD_getElem?,Array.getElem?_eq_getElem j,Option.getD_some]at this ⊢
   exact this⟩
  rw[h]at o;cases o
theorem zpl(m:z2q l.toArray x y=true){i:Nat}{o:Oper}(hi:l.toArray[i]?=some o):∀ t,o.dst=some t->∀ j p,(nopL x y l).toArray[j]?=some p->j≠i->p.dst≠some t:=by
 intro t n j p b f;rw[zmy]at b;cases hq:l.toArray[j]? with
 |none=>rw[hq]at b;cases b;|some q=>
  rw[hq]at b;simp only[Option.map_some,Option.some.injEq]at b;subst b;split
  ·exact fun e=>by cases e
  exact(zm4 m hi).dist t n j q hq f
theorem ycl{C:World->Prop}{i:Nat}{K:Act->Prop}{aQ:Act}(b:ownB x y i=true)(hi:∃ o,l.toArray[i]?=some o)(h:qOp P (nopL x y l).toArray C i K aQ):K aQ:=by
 obtain⟨o,j⟩:=hi;have h0:(nopL x y l).toArray[i]?=some (nopO o):=by rw[zmy,j];simp[b]
 obtain⟨v,_,f⟩:=yieldsIn_of_qOp h0 h;exact f
theorem z1u{listed:Array Bool}{aQ a m:Act}{w w':World}{i:Nat}{t:Option Tmp}{v:Value}(hu:i<listed.size)(h:zhy W x y listed aQ a w)(b:ownB x y i=false)(r:t≠some x.d)(s:t≠some y.d)
  (hb:Below w.heap.size w w') (o:m=a.put t v):zhy W x y (listed.setIfInBounds i true) (aQ.put t v) m w':=by
 simp only[ownB,Bool.or_eq_false_iff,beq_eq_false_iff_ne,ne_eq]at b;obtain⟨⟨⟨n1,n2⟩,n3⟩,n4⟩:=b;have g:∀ j,j≠i->(listed.setIfInBounds i true).getD j false=listed.getD j false:=fun j p=>by rw[gset hu,decide_eq_false p,Bool.false_or]
 obtain⟨M,N,h1,h2,h3,h4⟩:=h.there;have f:∀ (z:zd0) (R:Nat),z.al≠i->z.st≠i->z.lies W w listed R->z.lies W w' (listed.setIfInBounds i true) R:=fun z R B C q e=>by rw[g _ B]at e;rw[g _ C];obtain⟨k1,n⟩:=q e;exact⟨k1,(hb.block R (Array.getElem?_eq_some_iff.1 n).1).trans n⟩
 refine⟨z2g h.below hb,by rw[zqv];exact h.fits,?_,⟨M,N,?_,f x M (Ne.symm n1) (Ne.symm n2) h2,f y N (Ne.symm n3) (Ne.symm n4) h3,?_⟩⟩
 ·rw[g _ (Ne.symm n1),g _ (Ne.symm n2),g _ (Ne.symm n3),g _ (Ne.symm n4)];exact h.firsts
 ·rw[g _ (Ne.symm n1),g _ (Ne.symm n3),o,h1,zlz r,zlz s]
 rw[g _ (Ne.symm n1),g _ (Ne.symm n3)];exact h4
structure Filled (W:World) (x y:zd0) (aF a:Act) (w:World) (M N:Nat):Prop where
 state:a=(aF.put (some y.d) (vptr N)).put (some x.d) (vptr M)
 below:Below W.heap.size W w
 apart:M≠N
 new:W.heap.size<=M/\W.heap.size<=N
 one:w.heap[M]?=some (.cells x.val x.t (0,0))
 two:w.heap[N]?=some (.cells y.val y.t (0,0))
def nopF (x y:zd0):Nat->List Oper->List Oper
 | _, []=> []
 | i,o::r=> (if ownB x y i=true then nopO o else o)::nopF x y (i + 1) r
theorem zwe:∀ (r:List Oper) (i j:Nat),(nopF x y i r)[j]?=(r[j]?).map fun o=>if ownB x y (i+j)=true then nopO o else o
 | [],_,_=>by simp[nopF]
 |o::r,i,0=>by simp[nopF]
 |o::r,i,j+1=>by
  simp only[nopF,List.getElem?_cons_succ]
  rw[zwe r (i+1) j,show i+1+j=i+(j+1) by omega]
theorem ycp:nopL x y l=nopF x y 0 l:=by
 apply List.ext_getElem?;intro j;rw[zwe];simp[nopL,List.getElem?_mapIdx]
theorem zsj{B:World}:zhc B=fun w'=>∃ e:Ext B,w'=e.w:=by
 funext w';exact propext ⟨fun h=>⟨⟨w',h⟩,rfl⟩,fun ⟨e,h⟩=>h ▸ e.below⟩
end

end

section

open Go.RowKit

def nopC (v:Value) (o:Oper):Oper:= { o with op:= .move (.const v),guard:=none }
def z8f (x:zd0) (ld i:Nat):Bool:=i==x.al || i==x.st || i==ld
def zej (x:zd0) (ld:Nat) (v:Value) (i:Nat) (o:Oper):Oper:=if i==ld then nopC v o else if i==x.al || i==x.st then nopO o else o
def nopM (x:zd0) (ld:Nat) (v:Value) (l:List Oper):List Oper:=l.mapIdx (zej x ld v)
def zrg (ops:Array Oper) (x:zd0) (ld:Nat):Bool:=
 (List.range ops.size).all fun i=> match ops[i]? with
  | some o=> (o.after.all fun e=> !Region.binds .any e || decide (e.on < i)) && (z8f x ld i || (o.guard.isNone && o.dst !=some x.d && !(o.looksAt ops).contains x.d)) && (i !=ld || o.dst !=some x.d) &&
    ((List.range ops.size).all fun j=> match ops[j]? with | some p=> i==j || o.dst.isNone || o.dst !=p.dst | none=> true)
  | none=> true
def zsq (ops:Array Oper) (x:zd0) (ld:Nat) (ts:List Nat):Bool:=
 ts.all fun t=> (List.range ops.size).any fun j=> match ops[j]? with
  | some o=> o.dst==some t && j !=ld && j !=x.al && j !=x.st && (match ops[ld]? with | some p=> p.after.any fun e=> Region.binds .any e && e.on==j | none=> false)
  | none=> false
section

variable {P:Program} {l:List Oper} {md:Region.Mode} {aF:Act} {W:World} {Q:Exit->Act->World->Prop} {x:zd0} {ld:Nat} {v:Value} {K0 K1:World->Prop}

theorem zfv(i:Nat):(nopM x ld v l).toArray[i]?=(l.toArray[i]?).map (zej x ld v i):=by
 simp[nopM,List.getElem?_mapIdx]
theorem zt1(i:Nat)(o:Oper):(zej x ld v i o).after=o.after:=by unfold zej;split<;>(try split)<;>rfl
theorem zzy(i:Nat)(o:Oper):(zej x ld v i o).dst=o.dst\/(zej x ld v i o).dst=none:=by unfold zej;split<;>(try split)<;>first|exact .inl rfl|exact .inr rfl
theorem zk0(listed:Array Bool):Region.ready md (nopM x ld v l).toArray listed=Region.ready md l.toArray listed:=by
 unfold Region.ready;have hs:(nopM x ld v l).toArray.size=l.toArray.size:=by simp[nopM]
 rw[hs];apply List.filter_congr;intro i _;rw[zfv];congr 1;cases l.toArray[i]? with
 |none=>rfl
 |some o=>simp only[Option.map_some,Option.getD_some,zt1]
structure ygz (l:List Oper) (x:zd0) (ld i:Nat) (o:Oper):Prop where
 low:∀ e ∈ o.after,Region.binds .any e=true->e.on < i
 quiet:z8f x ld i=false->o.guard=none/\o.dst≠some x.d/\x.d ∉ o.looksAt l.toArray
 loud:i=ld->o.dst≠some x.d
 dist:∀ t,o.dst=some t->∀ j p,l.toArray[j]?=some p->j≠i->p.dst≠some t
theorem zik(h:zrg l.toArray x ld=true){i:Nat}{o:Oper}(hi:l.toArray[i]?=some o):ygz l x ld i o:=by
 have r:i<l.toArray.size:=(Array.getElem?_eq_some_iff.1 hi).1;have h1:=List.all_eq_true.1 h i (List.mem_range.2 r);simp only[hi,Bool.and_eq_true,Bool.or_eq_true]at h1;obtain⟨⟨⟨h2,h3⟩,m⟩,h4⟩:=h1;refine⟨fun e B n=>?_,fun f=>?_,fun e=>?_,fun t C j p z s=>?_⟩
 ·have:=(Array.all_eq_true_iff_forall_mem.1 h2) e B;simpa[n] using this
 ·rw[f]at h3;simp only[Bool.false_eq_true,false_or,bne_iff_ne,ne_eq,Bool.not_eq_true',Option.isNone_iff_eq_none,List.contains_eq_mem,decide_eq_false_iff_not]at h3;exact⟨h3.1.1,h3.1.2,h3.2⟩
 ·subst e;simpa using m
 have q:j<l.toArray.size:=(Array.getElem?_eq_some_iff.1 z).1;have b:=List.all_eq_true.1 h4 j (List.mem_range.2 q);simp only[z,C,Bool.or_eq_true,beq_iff_eq,bne_iff_ne,ne_eq,Option.isNone_some,Bool.false_eq_true,or_false]at b;rcases b with b|b
 ·exact absurd b.symm s
 exact fun e=>b e.symm
theorem yag(r:zrg l.toArray x ld=true){listed:Array Bool}(z:listed.size=l.toArray.size)(h:Region.ready .any l.toArray listed= []):∀ n i,i<n->i<l.toArray.size->listed.getD i true=true:=by
 intro n;induction n with
 |zero=>intro i hi;omega;|succ n t=>
  intro i hi s;rcases Bool.eq_false_or_eq_true (listed.getD i true) with e|e
  ·exact e
  have p:l.toArray[i]?=some l.toArray[i]:=Array.getElem?_eq_getElem s
  have o:i ∈ Region.ready .any l.toArray listed:=mem_ready.2 ⟨e,_,p,fun b q f=>by
   have m:=(zik r p).low b q f
   have:=t b.on (by omega) (by omega)
   have j:b.on<listed.size:=by omega
   simp only[Array.getD_eq_getD_getElem?,Array.getElem?_eq_getElem j,Option.getD_some]at this ⊢
   exact this⟩
  rw[h]at o;cases o
theorem zkc(m:zrg l.toArray x ld=true){i:Nat}{o:Oper}(hi:l.toArray[i]?=some o):∀ t,o.dst=some t->∀ j p,(nopM x ld v l).toArray[j]?=some p->j≠i->p.dst≠some t:=by
 intro t n j p b f;rw[zfv]at b;cases hq:l.toArray[j]? with
 |none=>rw[hq]at b;cases b;|some q=>
  rw[hq]at b;simp only[Option.map_some,Option.some.injEq]at b;subst b;rcases zzy (x:=x) (ld:=ld) (v:=v) j q with e|e<;>rw[e]
  ·exact(zik m hi).dist t n j q hq f
  exact fun e=>by cases e
structure LRel (W:World) (x:zd0) (ld:Nat) (K0 K1:World->Prop) (listed:Array Bool) (aQ a:Act) (w:World):Prop where
 size:W.heap.size<=w.heap.size
 k0:listed.getD ld false=false->K0 w
 k1:listed.getD ld false=true->K1 w
 fits:x.d < aQ.tmps.size
 first:listed.getD x.st false=true->listed.getD x.al false=true
 there:∃ M,a=vput (listed.getD x.al false) x.d M aQ/\x.lies W w listed M
structure zn6 (W:World) (K:World->Prop):Prop where
 far:∀ Y Y',K Y->W.heap.size<=Y.heap.size->Only (fun k=> W.heap.size<=k) Y Y'->K Y'
def zij (P:Program) (l:List Oper) (Q:Exit->Act->World->Prop) (aF:Act) (W:World) (ld:Nat) (v:Value) (ts:List Nat) (K0 K1:World->Prop):Prop:=
 ∃ o,l.toArray[ld]?=some o/\∀ a w K,K0 w->W.heap.size<=w.heap.size->(∀ t ∈ ts,a.eval (.tmp t)=aF.eval (.tmp t))->(∀ w',K1 w'->Only (fun k=> k < W.heap.size) w w'->K (a.put o.dst v) w')->wpOp P l.toArray Q ld K a w
structure zni (W:World) (x:zd0) (K1:World->Prop) (size:Nat) (aF a:Act) (w:World) (M:Nat):Prop where
 state:a=vput (decide (x.al < size)) x.d M aF
 big:W.heap.size<=w.heap.size
 k1:K1 w
 one:x.al < size->W.heap.size<=M/\w.heap[M]?=some (.cells x.val x.t (0,0))
theorem yf2(hf:zrg l.toArray x ld=true)(b9:Region.noSelect l.toArray=true)(hx:x.al<l.toArray.size->ze2 P l Q aF x)(s:x.al≠x.st/\x.al≠ld/\x.st≠ld/\x.src≠x.d)
  (O:ld<l.toArray.size/\(x.al<l.toArray.size↔x.st<l.toArray.size)) (bb:x.so≠x.al/\x.so≠x.st) (bz:x.al<l.toArray.size->x.so≠ld)
  (X:zn6 W K0) (Y:zn6 W K1) {ts:List Nat} (hw:zsq l.toArray x ld ts=true) (c5:x.d ∉ ts) (bv:zij P l Q aF W ld v ts K0 K1)
  (b4:∀ a w M,zni W x K1 l.toArray.size aF a w M->Q .normal a w) (n:Nat):∀ (listed:Array Bool) (aQ a:Act) (w:World),listed.size=l.toArray.size->LRel W x ld K0 K1 listed aQ a w->
  (∀ B,K0 B\/K1 B->W.heap.size<=B.heap.size->wpAnyQ P .any (nopM x ld v l).toArray (zhc B) (fun a=>a=aF) n listed aQ)->wpAny P .any l.toArray Q n listed a w:=by
 have kk:∀ {listed aQ a w},LRel W x ld K0 K1 listed aQ a w->K0 w\/K1 w:=fun {listed aQ a w} h=>by
  rcases Bool.eq_false_or_eq_true (listed.getD ld false) with e|e
  ·exact .inr (h.k1 e)
  exact .inl (h.k0 e)
 have fin:∀ (listed:Array Bool) (aQ a:Act) (w:World),listed.size=l.toArray.size->LRel W x ld K0 K1 listed aQ a w->Region.ready .any l.toArray listed= []->aQ=aF->Q .normal a w:=by
  intro listed aQ a w T f h0 e;have D:∀ i,i<l.toArray.size->listed.getD i false=true:=fun i hi=>by
   have:=yag hf T h0 (i+1) i (by omega) hi;have E:i<listed.size:=by omega
   simp only[Array.getD_eq_getD_getElem?,Array.getElem?_eq_getElem E,Option.getD_some]at this ⊢;exact this
  obtain⟨M,h1,h2⟩:=f.there;have hd:listed.getD x.al false=decide (x.al<l.toArray.size):=by
   by_cases hl:x.al<l.toArray.size
   ·rw[D _ hl,decide_eq_true hl]
   rw[decide_eq_false hl];have:listed.size<=x.al:=by omega
   simp[Array.getElem?_eq_none this]
  refine b4 a w M ⟨by rw[h1,e,hd],f.size,f.k1 (D _ O.1),fun hl=>?_⟩;obtain⟨k1,G⟩:=h2 (D _ hl);rw[D _ (O.2.1 hl)]at G;exact⟨k1,by simpa using G⟩
 induction n with
 |zero=>
  intro listed aQ a w T f h;have h1:=h w (kk f) f.size;have h0:Region.ready .any l.toArray listed= []:=by rw[<-zk0 (x:=x) (ld:=ld) (v:=v)];exact h1.1
  exact⟨h0,fin listed aQ a w T f h0 h1.2⟩
 |succ n ih=>
  intro listed aQ a w T f h;refine⟨fun h0=>fin listed aQ a w T f h0 ((h w (kk f) f.size).1 (by rw[zk0];exact h0)),fun i hi=>?_⟩;have H:i ∈ Region.ready .any (nopM x ld v l).toArray listed:=by rw[zk0];exact hi
  obtain⟨bf,o,F,Z⟩:=mem_ready.1 hi;have E:=zfh bf;have b0:i<l.toArray.size:=(Array.getElem?_eq_some_iff.1 F).1;have R:(listed.setIfInBounds i true).size=l.toArray.size:=by simpa using T
  have g:∀ j,j≠i->(listed.setIfInBounds i true).getD j false=listed.getD j false:=fun j hj=>by rw[gset E,decide_eq_false hj,Bool.false_or]
  have gi:(listed.setIfInBounds i true).getD i false=true:=by rw[gset E,decide_eq_true rfl,Bool.true_or]
  have gf:=getD_both bf;obtain⟨M,h1,h2⟩:=f.there;by_cases il:i=ld
  ·subst il;obtain⟨o',b5,b3⟩:=bv;rw[F]at b5;obtain rfl:o=o':=Option.some.inj b5;have h0:(nopM x i v l).toArray[i]?=some (nopC v o):=by rw[zfv,F];simp[zej]
   have V:∀ B,K0 B\/K1 B->W.heap.size<=B.heap.size->wpAnyQ P .any (nopM x i v l).toArray (zhc B) (fun a=>a=aF) n (listed.setIfInBounds i true) (aQ.put o.dst v):=fun B U hs=>by
    obtain⟨u,hy,q⟩:=yieldsIn_of_qOp h0 ((h B U hs).2 i H);have hu:u=v:=by
     rcases hy with⟨_,h2⟩|⟨h2,_⟩
     ·have h3:=h2 B br;simp only[nopC,Oper.quietAt]at h3;simp[go_sem,zhc]at h3;exact h3.symm
     simp[nopC,Region.wanted]at h2
    rw[hu]at q;exact q
   have bm:∀ t ∈ ts,a.eval (.tmp t)=aF.eval (.tmp t):=fun t ht=>by
    have c6:=List.all_eq_true.1 hw t ht
    obtain⟨j,hj,I⟩:=List.any_eq_true.1 c6
    cases hp:l.toArray[j]? with
    |none=>rw[hp]at I;cases I
    |some p=>
     rw[hp]at I
     simp only[F,Bool.and_eq_true,beq_iff_eq,bne_iff_ne,ne_eq]at I
     obtain⟨⟨⟨⟨b7,bq⟩,bp⟩,bs⟩,b1⟩:=I
     have b1:∃ e ∈ o.after,Region.binds .any e=true/\e.on=j:=by
      obtain⟨e,he,hb⟩:=Array.any_eq_true'.1 b1
      simp only[Bool.and_eq_true,beq_iff_eq]at hb
      exact⟨e,he,hb⟩
     obtain⟨e,he,bi,bj⟩:=b1
     have bw:listed.getD j false=true:=by rw[<-bj];exact Z e he bi
     have b8:x.d≠t:=fun e=>c5 (e ▸ ht)
     have bx:t≠x.d:=fun e=>b8 e.symm
     have bh:a.eval (.tmp t)=aQ.eval (.tmp t):=by rw[h1,zfk (fun e=>bx (by injection e))]
     have h3:(nopM x i v l).toArray[j]?=some p:=by
      rw[zfv,hp]
      simp[zej,bq,bp,bs]
     have:=zph h3 b7 (zkc hf hp t b7) _ listed aQ bw (h w (kk f) f.size)
     rw[bh]
     show aQ.tmps.getD t undef=aF.tmps.getD t undef
     rw[Array.getD_eq_getD_getElem?,Array.getD_eq_getD_getElem?,this]
   refine b3 a w _ (f.k0 gf) f.size bm fun w' bu m=>ih _ (aQ.put o.dst v) _ _ R ⟨Nat.le_trans f.size m.size,fun e=>?_,fun _=>bu,by rw[zqv];exact f.fits,?_,⟨M,?_,?_⟩⟩ V
   ·rw[gi]at e;cases e
   ·rw[g _ s.2.2.1,g _ s.2.1];exact f.first
   ·rw[g _ s.2.1,h1,zlz ((zik hf F).loud rfl)]
   intro e;rw[g _ s.2.1]at e;rw[g _ s.2.2.1];obtain⟨k1,G⟩:=h2 e;exact⟨k1,(m.block M (Array.getElem?_eq_some_iff.1 G).1 (by omega)).trans G⟩
  by_cases ia:i=x.al
  ·subst ia;have J:=hx b0;have h0:(nopM x ld v l).toArray[x.al]?=some (nopO o):=by rw[zfv,F];simp[zej,s.2.1]
   have V:∀ B,K0 B\/K1 B->W.heap.size<=B.heap.size->wpAnyQ P .any (nopM x ld v l).toArray (zhc B) (fun a=>a=aF) n (listed.setIfInBounds x.al true) aQ:=fun B U hs=>by obtain⟨u,_,q⟩:=yieldsIn_of_qOp h0 ((h B U hs).2 _ H);exact q
   have c4:listed.getD x.st false=false:=by
    rcases Bool.eq_false_or_eq_true (listed.getD x.st false) with e|e
    ·have:=f.first e;rw[gf]at this;cases this
    exact e
   have bk:Below w.heap.size w (w.alloc (.cells x.zero x.t (0,0))):=br.alloc lr _;have S:Only (fun k=>W.heap.size<=k) w (w.alloc (.cells x.zero x.t (0,0))):=Only.of_below bk;refine J.make a w _ (ih _ aQ _ _ R ⟨by have:=f.size;simp;omega,fun e=>?_,fun e=>?_,f.fits,fun _=>gi,⟨w.heap.size,?_,fun _=>⟨f.size,?_⟩⟩⟩ V)
   ·rw[g _ s.2.1.symm]at e;exact X.far _ _ (f.k0 e) f.size S
   ·rw[g _ s.2.1.symm]at e;exact Y.far _ _ (f.k1 e) f.size S
   ·rw[gi,h1,gf];rfl
   rw[g _ s.1.symm,c4,if_neg (by decide)];exact heap_alloc_new w _
  by_cases is:i=x.st
  ·subst is;have J:=hx (O.2.2 b0);have h0:(nopM x ld v l).toArray[x.st]?=some (nopO o):=by rw[zfv,F];simp[zej,s.2.2.1]
   have V:∀ B,K0 B\/K1 B->W.heap.size<=B.heap.size->wpAnyQ P .any (nopM x ld v l).toArray (zhc B) (fun a=>a=aF) n (listed.setIfInBounds x.st true) aQ:=fun B U hs=>by obtain⟨u,_,q⟩:=yieldsIn_of_qOp h0 ((h B U hs).2 _ H);exact q
   obtain⟨N,ba⟩:=J.waits listed hi;obtain⟨k1,G⟩:=h2 N;rw[gf]at G;simp only[Bool.false_eq_true,if_false]at G;obtain⟨oz,z1,z2⟩:=J.src;have z3:(nopM x ld v l).toArray[x.so]?=some oz:=by rw[zfv,z1];have h4:=bz (O.2.2 b0);simp[zej,h4,bb.1,bb.2]
   have bc:aQ.eval (.tmp x.src)=aF.eval (.tmp x.src):=by have:=zph z3 z2 (zkc hf z1 _ z2) _ listed aQ ba (h w (kk f) f.size);show aQ.tmps.getD x.src undef=aF.tmps.getD x.src undef;rw[Array.getD_eq_getD_getElem?,Array.getD_eq_getD_getElem?,this]
   have ha:a=aQ.put (some x.d) (vptr M):=by rw[h1,N];rfl
   have e1:a.eval (.tmp x.d)=vptr M:=by rw[ha];exact Act.zjo f.fits
   have e2:a.eval (.tmp x.src)=aF.eval (.tmp x.src):=by rw[h1,zfk (fun e=>s.2.2.2 (by injection e))];exact bc
   refine J.fill a w _ M e1 e2 G fun w' r m c8=>ih _ aQ _ _ R ⟨by have:=f.size;omega,fun e=>?_,fun e=>?_,f.fits,fun _=>by rw[g _ s.1];exact N,⟨M,?_,fun _=>⟨k1,?_⟩⟩⟩ V
   ·rw[g _ s.2.2.1.symm]at e;exact X.far _ _ (f.k0 e) f.size ⟨m.os,m.tape,m.output,m.size,fun k hk b2=>m.block k hk (fun e=>b2 (e ▸ k1))⟩
   ·rw[g _ s.2.2.1.symm]at e;exact Y.far _ _ (f.k1 e) f.size ⟨m.os,m.tape,m.output,m.size,fun k hk b2=>m.block k hk (fun e=>b2 (e ▸ k1))⟩
   ·rw[g _ s.1,N,ha];rfl
   rw[gi];simpa using r
  have b6:z8f x ld i=false:=by simp[z8f,il,ia,is]
  obtain⟨qg,qx,lx⟩:=(zik hf F).quiet b6;have h0:(nopM x ld v l).toArray[i]?=some o:=by rw[zfv,F];simp[zej,il,ia,is]
  obtain⟨u,c7,bg⟩:=yieldsIn_of_qOp h0 ((h w (kk f) f.size).2 i H);have hv:=zqc h0 (zkc hf F) E bg;have V:∀ B,K0 B\/K1 B->W.heap.size<=B.heap.size->wpAnyQ P .any (nopM x ld v l).toArray (zhc B) (fun a=>a=aF) n (listed.setIfInBounds i true) (aQ.put o.dst u):=fun B U hs=>by obtain⟨u2,_,q⟩:=yieldsIn_of_qOp h0 ((h B U hs).2 i H);have hu:=zqc h0 (zkc hf F) E q;rw[hv,<- hu];exact q
  have L:∀ k,Region.wanted o k=true:=fun k=>by unfold Region.wanted;rw[qg]
  have hq:∀ w',zhc w w'->o.quietAt P aQ (zhc w) w' u:=by
   rcases c7 with⟨_,h2⟩|⟨h2,_⟩
   ·exact h2
   rw[L]at h2;cases h2
  have bn:execOp a.eval o=execOp aQ.eval o:=execOp_congr o (fun cs b=>Region.noSelect_spec b9 i o cs b F) fun z T=>by rw[h1,zfk (zmk lx z T)]
  unfold wpOp;rw[F];simp only[L,if_true];refine .inl (Oper.wp_of_quiet (C:=zhc w) (K:=fun a'=>a'=a.put o.dst u) br (fun a' w' r e=>ih _ (aQ.put o.dst u) _ _ R ⟨Nat.le_trans f.size r.size,fun e=>?_,fun e=>?_,by rw[zqv];exact f.fits,?_,⟨M,?_,?_⟩⟩ V) ⟨u,fun w' r=>?_,rfl⟩)
  ·rw[g _ (Ne.symm il)]at e;exact X.far _ _ (f.k0 e) f.size (Only.of_below r)
  ·rw[g _ (Ne.symm il)]at e;exact Y.far _ _ (f.k1 e) f.size (Only.of_below r)
  ·rw[g _ (Ne.symm is),g _ (Ne.symm ia)];exact f.first
  ·rw[g _ (Ne.symm ia),e,h1,zlz qx]
  ·intro e2;rw[g _ (Ne.symm ia)]at e2;rw[g _ (Ne.symm is)];obtain⟨k1,G⟩:=h2 e2;exact⟨k1,(r.block M (Array.getElem?_eq_some_iff.1 G).1).trans G⟩
  have:=hq w' r;unfold Oper.quietAt at *;rw[bn];exact this
def zfq (x:zd0) (ld:Nat) (v:Value):Nat->List Oper->List Oper
 | _, []=> []
 | i,o::r=> zej x ld v i o::zfq x ld v (i + 1) r
theorem zra:∀ (r:List Oper) (i j:Nat),(zfq x ld v i r)[j]?=(r[j]?).map (zej x ld v (i+j))
 | [],_,_=>by simp[zfq]
 |o::r,i,0=>by simp[zfq]
 |o::r,i,j+1=>by
  simp only[zfq,List.getElem?_cons_succ]
  rw[zra r (i+1) j,show i+1+j=i+(j+1) by omega]
theorem yb7:nopM x ld v l=zfq x ld v 0 l:=by
 apply List.ext_getElem?;intro j;rw[zra];simp[nopM,List.getElem?_mapIdx]
theorem zqg{a:Act}{l':List Oper}{ts:List Nat}(D:zfq x ld v 0 l=l')(o:Region.lexB .any l'.toArray=true)(b:zrg l.toArray x ld=true)(n:Region.noSelect l.toArray=true)
  (E:x.al≠x.st/\x.al≠ld/\x.st≠ld/\x.src≠x.d) (p:ld<l.toArray.size/\(x.al<l.toArray.size↔x.st<l.toArray.size)) (s:x.so≠x.al/\x.so≠x.st) (r:x.al<l.toArray.size->x.so≠ld) (F:zsq l.toArray x ld ts=true) (t:x.d ∉ ts) (j:x.d<a.tmps.size)
  (hc:zn6 W K0/\zn6 W K1) (h0:K0 W.drew)
  (f:∃ aF,(∀ B,K0 B\/K1 B->W.heap.size<=B.heap.size->wpQuiet P l'.toArray (fun w'=>∃ e:Ext B,w'=e.w) (fun z=>z=aF) l' a)/\(x.al<l.toArray.size->ze2 P l Q aF x)/\zij P l Q aF W ld v ts K0 K1/\
   ∀ a w M,zni W x K1 l.toArray.size aF a w M->Q .normal a w):wpAny P .any l.toArray Q l.toArray.size (Array.replicate l.toArray.size false) a W.drew:=by
 subst D;obtain⟨aF,h,G,q,i⟩:=f;rw[<-yb7]at o h;simp only[Region.lexB,Bool.and_eq_true]at o;have m:(nopM x ld v l).length=l.toArray.size:=by simp[nopM]
 refine yf2 (W:=W.drew) (K0:=K0) (K1:=K1) b n G E p s r ⟨hc.1.far⟩ ⟨hc.2.far⟩ F t q (fun a w M b=>i a w M ⟨b.state,b.big,b.k1,b.one⟩) l.toArray.size _ a a _ (by simp) ⟨Nat.le_refl _,fun _=>h0,fun e=>?_,j,fun e=>?_,⟨0,?_,fun e=>?_⟩⟩ fun B hb hs=>?_
 ·rw[getD_replicate_false]at e;cases e
 ·rw[getD_replicate_false]at e;cases e
 ·rw[getD_replicate_false];rfl
 ·rw[getD_replicate_false]at e;cases e
 have h3:=h B hb hs;rw[<-zsj]at h3
 have:=wpAnyQ_lex (C:=zhc B) (md:= .any) o.1 (nopM x ld v l) 0 (Array.replicate l.toArray.size false) a (by simp) (by
  have h2:=o.2
  simpa[nopM] using h2) h3
 rw[m]at this;exact this
theorem zcl{D:Nat}{a:Act}{l':List Oper}{ts:List Nat}(t:P.follows .mixedOrders=true)(s:zfq x ld v 0 l=l')(q:Region.lexB .any l'.toArray=true)(r:zrg l.toArray x ld=true)(i:Region.noSelect l.toArray=true)
  (z:x.al≠x.st/\x.al≠ld/\x.st≠ld/\x.src≠x.d) (j:ld<l.toArray.size/\(x.al<l.toArray.size↔x.st<l.toArray.size)) (n:x.so≠x.al/\x.so≠x.st) (m:x.al<l.toArray.size->x.so≠ld) (C:zsq l.toArray x ld ts=true) (o:x.d ∉ ts) (f:x.d<a.tmps.size)
  (hc:zn6 W K0/\zn6 W K1) (h0:K0 W.drew)
  (b:∃ aF,(∀ B,K0 B\/K1 B->W.heap.size<=B.heap.size->wpQuiet P l'.toArray (fun w'=>∃ e:Ext B,w'=e.w) (fun p=>p=aF) l' a)/\(x.al<l.toArray.size->ze2 P l Q aF x)/\zij P l Q aF W ld v ts K0 K1/\
   ∀ a w M,zni W x K1 l.toArray.size aF a w M->Q .normal a w):(Code.region D l.toArray true).wp P Q a W:=by
 exact wp_region_any t (zqg s q r i z j n m C o f hc h0 b)
def zbb (d:Nat):zd0:=⟨1000,1001,1002,d,d + 1,0, #[], #[]⟩
theorem wrl{D:Nat}{a:Act}{l':List Oper}{ts:List Nat}(hc:zn6 W K0/\zn6 W K1)(h0:K0 W.drew)
  (b:∃ aF,(∀ B,K0 B\/K1 B->W.heap.size<=B.heap.size->wpQuiet P l'.toArray (fun w'=>∃ e:Ext B,w'=e.w) (fun p=>p=aF) l' a)/\(x.al<l.toArray.size->ze2 P l Q aF x)/\zij P l Q aF W ld v ts K0 K1/\
   ∀ a w M,zni W x K1 l.toArray.size aF a w M->Q .normal a w)
  (t:P.follows .mixedOrders=true:=by kernel_rfl) (s:zfq x ld v 0 l=l':=by simp only[zbb,zfq,zej,nopO,nopC,Nat.reduceBEq,Bool.or_false,Bool.or_true,Bool.false_eq_true,↓reduceIte,Nat.reduceAdd];exact rfl) (q:Region.lexB .any l'.toArray=true:=by kernel_rfl) (r:zrg l.toArray x ld=true:=by kernel_rfl) (i:Region.noSelect l.toArray=true:=by kernel_rfl)
  (z:x.al≠x.st/\x.al≠ld/\x.st≠ld/\x.src≠x.d:=by simp[zbb]) (j:ld<l.toArray.size/\(x.al<l.toArray.size↔x.st<l.toArray.size):=by simp[zbb]) (n:x.so≠x.al/\x.so≠x.st:=by simp[zbb]) (m:x.al<l.toArray.size->x.so≠ld:=by simp[zbb]) (C:zsq l.toArray x ld ts=true:=by kernel_rfl) (o:x.d ∉ ts:=by simp[zbb]) (f:x.d<a.tmps.size:=by simp[zbb]):(Code.region D l.toArray true).wp P Q a W:=
 zcl t s q r i z j n m C o f hc h0 b
end

theorem zcz{P:Program}{l:List Oper}{Q:Exit->Act->World->Prop}{aF:Act}{W:World}{ld:Nat}{v:Value}{ts:List Nat}{K0 K1:World->Prop}{f:FuncId}{dst:Option Tmp}{i:Array TypeId}{o:TypeId}{pos:String}{n:Array Edge}
  (h1:l.toArray[ld]?=some { dst:=dst,op:= .call { callee:= .value (.func f),args:=(ts.map Operand.tmp).toArray,argTypes:=i},type:=o,pos:=pos,after:=n,guard:=none})
  (j:∀ args w,(callFunc f args).run P w= .ok (.enter f args) w)
  (h2:∀ w,K0 w->W.heap.size<=w.heap.size->Calls P f (ts.map fun t=>aF.eval (.tmp t)).toArray w fun r w'=>r= .returned v/\K1 w'/\Only (fun k=>k<W.heap.size) w w'):zij P l Q aF W ld v ts K0 K1:=by
 refine⟨_,h1,fun a w K s hs q p=>?_⟩;unfold wpOp;rw[h1];simp only[Region.wanted,if_true];left;have b:((ts.map Operand.tmp).toArray).map a.eval=(ts.map fun t=>aF.eval (.tmp t)).toArray:=by simp only[List.map_toArray,List.map_map];congr 1;exact List.map_congr_left fun t z=>q t z
 have h3:=h2 w s hs;rw[<-b]at h3;have m:(execOp a.eval { dst:=dst,op:= .call { callee:= .value (.func f),args:=(ts.map Operand.tmp).toArray,argTypes:=i},type:=o,pos:=pos,after:=n,guard:=none}).run P w= .ok (.enter f (((ts.map Operand.tmp).toArray).map a.eval)) w:=by have:=j (((ts.map Operand.tmp).toArray).map a.eval) w;simp only[List.map_toArray,List.map_map]at this;simp[go_sem,this]
 unfold Oper.wp;rw[m,Oper.upon_enter];refine h3.mono ?_;rintro r w' ⟨rfl,k1,B⟩;exact p w' k1 B
end

section

open Go.RowKit

attribute [local go_sem ↓] Go.wp_at_zero Go.wp_at_succ

theorem yho(k:Int)(w:World):
  Calls Tryz.prog 130 #[k] w fun e w'=>e= .returned (.int .i64 (zbj k))/\w'=w:=by
 by_cases h:0<=k/\k<=3
 ·have:k=0\/k=1\/k=2\/k=3:=by omega
  rcases this with rfl|rfl|rfl|rfl <;>
  ·go_in;go_wp2;go_ret;exact⟨rfl,rfl⟩
 have b:zbj k=0:=by rw[zbj,if_neg (by omega),if_neg (by omega),if_neg (by omega),if_neg (by omega)]
 rw[b];have hc:k<0\/(0<=k/\4<=k):=by omega
 clear h b;rcases hc with hc|⟨hc,i⟩
 ·go_in;go_wp2;go_ret;exact⟨rfl,rfl⟩
 go_in;go_wp2;go_ret;exact⟨rfl,rfl⟩
theorem yhs(n:Int)(w:World):
  Calls Tryz.prog 129 #[n] w fun e w'=>e= .returned (.tuple #[.int .i64 (zcn n),.bool (wi n 1 32)])/\w'=w:=by
 by_cases h:1<=n/\n<=32
 ·have h1:wi n 1 32=true:=zbc.2 h;have j:=zwh n;have b:=fun k h0=>zxo (k:=k) h h0;obtain⟨c,hc⟩:∃ c:Nat,zcn n=c:=⟨(zcn n).toNat,by omega⟩;rw[h1,hc];rw[hc]at j;simp only[hc]at b;clear hc;obtain⟨h2,h3⟩:=h;go_in;go_wp2_with fail;go_loopw [4] (fun q wr=>∃ k:Nat,k<=c/\q= .int .i64 k/\wr=w) (fun q _=>c-(intOf q).toNat);case atStart=>exact⟨0,Nat.zero_le _,rfl,by first|rfl|trivial⟩
  case round=>
   obtain⟨k,t,rfl,p⟩:=hrel;obtain rfl:=p.symm;have i:=b k (by omega) (by omega);clear b;by_cases s:k<c
   ·have hs:zbj k<n:=i.2 (by omega);clear i;go_wp2_with (go_at_call 130;refine(yho _ _).mono ?_;rintro e w' ⟨rfl,o⟩;obtain rfl:=o.symm);exact⟨⟨k+1,by omega,by go_num,by first|rfl|trivial⟩,by simp[intOf];omega⟩
   have hs:¬ zbj k<n:=fun h=>by have:=i.1 h;omega
   have m:k=c:=by omega
   subst m;clear i;go_wp2_with (go_at_call 130;refine(yho _ _).mono ?_;rintro e w' ⟨rfl,o⟩;obtain rfl:=o.symm);go_ret2;exact⟨rfl,rfl⟩
 have h1:wi n 1 32=false:=zgo.2 h;have h2:zcn n=0:=by unfold zcn;rw[if_neg (by rw[h1];simp)]
 rw[h1,h2];have hc:n<1\/(1<=n/\32<n):=by omega
 clear h1 h2 h;rcases hc with hc|⟨hc,r⟩
 ·go_in;go_wp2;go_ret2;exact⟨rfl,rfl⟩
 go_in;go_wp2;go_ret2;exact⟨rfl,rfl⟩
theorem yim(n:Int)(w:World):
  Calls Tryz.prog 131 #[n] w fun e w'=>e= .returned (.tuple #[.int .i64 (runV n),.bool (wi n 33 512)])/\w'=w:=by
 by_cases h:33<=n/\n<=512
 ·have h1:wi n 33 512=true:=zbc.2 h;have h2:runV n=(n+64-1)/64:=by unfold runV;rw[if_pos h1];omega
  have i:=wrp (n+64);have j:=wrp (n+64-1);have m:IntKind.i64.wrap ((n+64-1).tdiv 64)=(n+64-1)/64:=by rw[Int.tdiv_eq_ediv_of_nonneg (by omega)];exact IntWalk.i64_in _ ⟨by omega,by omega⟩
  rw[h1,h2];clear h2;obtain⟨h3,h4⟩:=h;go_in;go_wp2;go_ret2;exact⟨rfl,rfl⟩
 have h1:wi n 33 512=false:=zgo.2 h;have h2:runV n=0:=by unfold runV;rw[if_neg (by rw[h1];simp)]
 rw[h1,h2];have hc:n<33\/(33<=n/\512<n):=by omega
 clear h1 h2 h;rcases hc with hc|⟨hc,b⟩
 ·go_in;go_wp2;go_ret2;exact⟨rfl,rfl⟩
 go_in;go_wp2;go_ret2;exact⟨rfl,rfl⟩
theorem yi5(n:Int)(w:World):
  Calls Tryz.prog 112 #[n] w fun e w'=>e= .returned (.tuple #[.int .i64 (lenV n),.bool (lenB n)])/\w'=w:=by
 by_cases h:1<=n/\n<=32
 ·have h1:wi n 1 32=true:=zbc.2 h;have h2:lenV n=zbj (zcn n):=by unfold lenV;rw[if_pos h1]
  have h3:lenB n=true:=zbc.2 (by omega);rw[h2,h3];clear h2;go_in;go_wp2_with (first|(go_at_call 129;refine(yhs _ _).mono ?_;rintro e w' ⟨rfl,rfl⟩)|(go_at_call 130;refine(yho _ _).mono ?_;rintro e w' ⟨rfl,rfl⟩));go_ret2;exact⟨rfl,rfl⟩
 have h1:wi n 1 32=false:=zgo.2 h;have h2:lenV n=runV n*64:=by unfold lenV;rw[if_neg (by rw[h1];simp)]
 have h3:lenB n=wi n 33 512:=by rw[Bool.eq_iff_iff];unfold lenB;rw[zbc,zbc];omega
 have hb:=yc6 n;have h4:=wrp (runV n*64);rw[h2,h3];clear h2 h3;go_in;go_wp2_with (first|(go_at_call 129;refine(yhs _ _).mono ?_;rintro e w' ⟨rfl,rfl⟩)|(go_at_call 131;refine(yim _ _).mono ?_;rintro e w' ⟨rfl,rfl⟩));go_ret2;exact⟨rfl,rfl⟩
end

end Go.Proofs.YtedcnffebdpmmaaGreat
