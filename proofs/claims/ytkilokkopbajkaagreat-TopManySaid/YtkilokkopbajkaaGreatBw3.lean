/- Lemmas for the claim. -/
import Derived.Deep.DrawnRows

import Derived.Test.YtkilokkopbajkaaGreatBw2

set_option linter.all false
set_option maxHeartbeats 1000000
namespace Go.Proofs.YtkilokkopbajkaaGreat

section

open Go.RowKit

theorem cQ(k:Int)(xs:List Int)(b m:Nat)(w:World)(p:0<=k)(o:k<=15)(s:xs.length<=3)(hc:∀ i,i<xs.length->w.cell? ⟨b,m+i,.none⟩=some (.int .i64 (xs.getD i 0))):
  Calls Tryz.prog 133 #[k,.slice (some ⟨b,m,.none⟩) xs.length xs.length] w fun e w'=>e= .returned (.int .u64 (putV k xs))/\w'=w:=by
 go_in;go_wp2;go_loop [4,5,12] (fun r v i=>∃ j:Nat,j<=xs.length/\i= .int .i64 j/\r= .int .u64 0/\v= .int .u64 (k+16*horner (xs.take j))/\AE (xs.take j)=true) (fun _ _ i=>xs.length-(intOf i).toNat);case atStart=>exact⟨0,Nat.zero_le _,rfl,rfl,by simp[horner],by simp[AE]⟩
 case round=>
  obtain⟨j,q,rfl,rfl,rfl,l⟩:=hrel;have n:j<xs.length->w.cell? ⟨b,m+j,.none⟩=some (.int .i64 (xs.getD j 0)):=fun h=>hc j h;go_wp2;case roundEnd=>have hs:=z6p k xs j p o (by omega) ‹_› (by omega) (by omega) l;exact⟨⟨j+1,by omega,by go_num,rfl,by rw[hs.1],hs.2⟩,by simp[intOf];omega⟩
  all_goals go_ret
  ·exact⟨by rw[aX k xs j ‹_› (by omega)];rfl,rfl⟩
  ·exact⟨by rw[aX k xs j ‹_› (by omega)];rfl,rfl⟩
  have e:xs.take j=xs:=List.take_of_length_le (by omega);rw[e]at l ⊢;exact⟨by rw[AM k xs l];rfl,rfl⟩
theorem put1(k a:Int)(b j:Nat)(w:World)(m:0<=k)(l:k<=15)(h0:w.cell? ⟨b,j,.none⟩=some (.int .i64 a)):
  Calls Tryz.prog 133 #[k,.slice (some ⟨b,j,.none⟩) 1 1] w fun e w'=>e= .returned (.int .u64 (putV k [a]))/\w'=w:=
 cQ k [a] b j w m l (by simp) (fun i hi=>by
  match i,hi with
  |0,_=>exact h0)
theorem put2(k a c:Int)(b j:Nat)(w:World)(m:0<=k)(l:k<=15)(h0:w.cell? ⟨b,j,.none⟩=some (.int .i64 a))(h1:w.cell? ⟨b,j+1,.none⟩=some (.int .i64 c)):
  Calls Tryz.prog 133 #[k,.slice (some ⟨b,j,.none⟩) 2 2] w fun e w'=>e= .returned (.int .u64 (putV k [a,c]))/\w'=w:=
 cQ k [a,c] b j w m l (by simp) (fun i hi=>by
  match i,hi with
  |0,_=>exact h0
  |1,_=>exact h1)
theorem put3(k a c d:Int)(b j:Nat)(w:World)(m:0<=k)(l:k<=15)(h0:w.cell? ⟨b,j,.none⟩=some (.int .i64 a))(h1:w.cell? ⟨b,j+1,.none⟩=some (.int .i64 c))(h2:w.cell? ⟨b,j+2,.none⟩=some (.int .i64 d)):
  Calls Tryz.prog 133 #[k,.slice (some ⟨b,j,.none⟩) 3 3] w fun e w'=>e= .returned (.int .u64 (putV k [a,c,d]))/\w'=w:=
 cQ k [a,c,d] b j w m l (by simp) (fun i hi=>by
  match i,hi with
  |0,_=>exact h0
  |1,_=>exact h1
  |2,_=>exact h2)
theorem KF(k a b:Int)(w:World):
  Calls Tryz.prog 139 #[.agg #[k,a,b]] w fun e w'=>e= .returned (.int .u64 (UA k a b))/\Below w.heap.size w w':=by
 go_in;go_wp2_with (go_at_call 133;refine(put2 _ a b _ _ _ (by omega) (by omega) (by go_simp) (by go_simp)).mono ?_;rintro e w' ⟨rfl,rfl⟩);all_goals go_ret
 all_goals refine⟨OF ?_,by go_grown⟩
 all_goals simp_all [UA,TE]
 all_goals omega
theorem mE(k a:Int)(w:World):
  Calls Tryz.prog 141 #[.agg #[k,a]] w fun e w'=>e= .returned (.int .u64 (qB k a))/\Below w.heap.size w w':=by
 go_in;go_wp2_with (go_at_call 133;refine(put1 _ a _ _ _ (by omega) (by omega) (by go_simp)).mono ?_;rintro e w' ⟨rfl,rfl⟩);all_goals go_ret
 all_goals refine⟨OF ?_,by go_grown⟩
 all_goals simp_all [qB,HG]
 all_goals omega
theorem sJ(a b c:Int)(w:World):
  Calls Tryz.prog 153 #[.agg #[a,b,c]] w fun e w'=>e= .returned (.int .u64 (putV 1 [a,b,c]))/\Below w.heap.size w w':=by
 go_in;go_wp2_with (go_at_call 133;refine(put3 _ a b c _ _ _ (by omega) (by omega) (by go_simp) (by go_simp) (by go_simp)).mono ?_;rintro e w' ⟨rfl,rfl⟩);all_goals go_ret
 all_goals exact⟨rfl,by go_grown⟩
theorem wJ(k a:Int)(w:World):
  Calls Tryz.prog 100 #[k,a] w fun e w'=>e= .returned (.int .u64 (WA k a))/\Below w.heap.size w w':=by
 go_in;go_wp2_with (go_at_call 133;refine(put1 _ a _ _ _ (by omega) (by omega) (by go_simp)).mono ?_;rintro e w' ⟨rfl,rfl⟩);all_goals go_ret
 all_goals refine⟨OF ?_,by go_grown⟩
 all_goals simp_all [WA,zJ]
 all_goals omega
theorem aC(n lo hi:Int)(w:World):
  Calls Tryz.prog 90 #[n,lo,hi] w fun e w'=>e= .returned (.bool (wi n lo hi))/\w'=w:=by
 go_in;go_wp2;all_goals go_ret
 all_goals refine⟨pG ?_,rfl⟩
 all_goals simp[wi]
 all_goals omega
theorem tC(p c m:Int)(w:World):
  Calls Tryz.prog 86 #[.agg #[p,c,m]] w fun e w'=>e= .returned (.bool (mayB p c m))/\w'=w.alloc (.cells #[p,c,m] 23):=by
 have h1:wi p 1 64=true\/wi p 1 64=false:=by cases wi p 1 64<;>simp
 have h2:wi c 1 12=true\/wi c 1 12=false:=by cases wi c 1 12<;>simp
 rcases h1 with h1|h1<;>rcases h2 with h2|h2 <;>
 ·go_in;go_wp2_with (go_at_call 90;refine(aC _ _ _ _).mono ?_;rintro e w' ⟨rfl,rfl⟩);go_ret;exact⟨pG (by simp[mayB,h1,h2]),rfl⟩
theorem EB(p c m a:Int)(w:World):
  Calls Tryz.prog 112 #[.agg #[p,c,m],a] w fun e w'=>e= .returned (.int .i64 (pA p c m a))/\Below w.heap.size w w':=by
 by_cases h1:mayB p c m=true
 ·have hb:=LA.1 h1;have n:wrap64 (p-1)=p-1:=IntWalk.wrap64_in _ ⟨by omega,by omega⟩;by_cases h2:wi a 0 (p-1)=true
  ·have l:=IA.1 h2;go_in;go_wp2_with (first|(go_at_call 86;refine(tC _ _ _ _).mono ?_;rintro e j ⟨rfl,rfl⟩)|(go_at_call 90;refine(aC _ _ _ _).mono ?_;rintro e w' ⟨rfl,rfl⟩));go_ret;exact⟨OF (by rw[pA,jP ⟨h1,h2⟩]),by go_grown⟩
  have i:wi a 0 (p-1)=false:=by simpa using h2
  clear h2;go_in;go_wp2_with (first|(go_at_call 86;refine(tC _ _ _ _).mono ?_;rintro e j ⟨rfl,rfl⟩)|(go_at_call 90;refine(aC _ _ _ _).mono ?_;rintro e w' ⟨rfl,rfl⟩));go_ret;exact⟨OF (by rw[pA,jN (by simp[i])]),by go_grown⟩
 have b:mayB p c m=false:=by simpa using h1
 clear h1;go_in;go_wp2_with (first|(go_at_call 86;refine(tC _ _ _ _).mono ?_;rintro e j ⟨rfl,rfl⟩)|(go_at_call 90;refine(aC _ _ _ _).mono ?_;rintro e w' ⟨rfl,rfl⟩));go_ret;exact⟨OF (by rw[pA,jN (by simp[b])]),by go_grown⟩
theorem XC(k:Int)(w:World):
  Calls Tryz.prog 75 #[k] w fun e w'=>e= .returned (.int .i64 (mA k))/\w'=w:=by
 by_cases h:0<=k/\k<=3
 ·have h1:wi k 0 3=true:=IA.2 h;have:k=0\/k=1\/k=2\/k=3:=by omega
  rcases this with rfl|rfl|rfl|rfl <;>
  ·go_in;go_wp2_with (go_at_call 90;refine(aC _ _ _ _).mono ?_;rintro e w' ⟨rfl,rfl⟩);go_ret;exact⟨rfl,rfl⟩
 have h1:wi k 0 3=false:=qG.2 h;go_in;go_wp2_with (go_at_call 90;refine(aC _ _ _ _).mono ?_;rintro e w' ⟨rfl,rfl⟩);go_ret;exact⟨OF (by rw[mA,jN (by omega),jN (by omega),jN (by omega),jN (by omega)]),rfl⟩
theorem UG(p c m:Int)(w:World):
  Calls Tryz.prog 21 #[.agg #[p,c,m]] w fun e w'=>e= .returned (.bool (mayB p c m))/\w'=w.alloc (.cells #[p,c,m] 23):=by
 go_in;go_wp2;all_goals go_ret
 all_goals refine⟨pG ?_,rfl⟩
 all_goals (rw[Bool.eq_iff_iff,LA];simp;omega)
end

section

open Go.RowKit

attribute [local go_sem ↓] Go.wp_at_zero Go.wp_at_succ

theorem mH(k:Int)(w:World):
  Calls Tryz.prog 78 #[k] w fun e w'=>e= .returned (.int .i64 (qA k))/\w'=w:=by
 by_cases h:0<=k/\k<=3
 ·have h1:wi k 0 3=true:=IA.2 h;have:k=0\/k=1\/k=2\/k=3:=by omega
  rcases this with rfl|rfl|rfl|rfl <;>
  ·go_in;go_wp2_with (go_at_call 90;refine(aC _ _ _ _).mono ?_;rintro e w' ⟨rfl,rfl⟩);go_ret;exact⟨rfl,rfl⟩
 have h1:wi k 0 3=false:=qG.2 h;go_in;go_wp2_with (go_at_call 90;refine(aC _ _ _ _).mono ?_;rintro e w' ⟨rfl,rfl⟩);go_ret;exact⟨OF (by rw[qA,jN (by omega),jN (by omega),jN (by omega),jN (by omega)]),rfl⟩
theorem rP(n:Int)(w:World):
  Calls Tryz.prog 104 #[n] w fun e w'=>e= .returned (.tuple #[.int .i64 (BB n),.bool (wi n 1 32)])/\w'=w:=by
 by_cases h:1<=n/\n<=32
 ·have h1:wi n 1 32=true:=IA.2 h;have l:=rQ n;have b:=fun k h0=>LX (k:=k) h h0;obtain⟨c,hc⟩:∃ c:Nat,BB n=c:=⟨(BB n).toNat,by omega⟩;rw[h1,hc];rw[hc]at l;simp only[hc]at b;clear hc;go_in;go_wp2_with (go_at_call 90;refine(aC _ _ _ _).mono ?_;rintro e w' ⟨rfl,i⟩;obtain rfl:=i.symm);go_loopw [4] (fun p wr=>∃ k:Nat,k<=c/\p= .int .i64 k/\wr=w) (fun p _=>c-(intOf p).toNat);case atStart=>exact⟨0,Nat.zero_le _,rfl,by first|rfl|trivial⟩
  case round=>
   obtain⟨k,r,rfl,o⟩:=hrel;obtain rfl:=o.symm;have j:=b k (by omega) (by omega);clear b;by_cases q:k<c
   ·have hs:qA k<n:=j.2 (by omega);clear j;go_wp2_with (go_at_call 78;refine(mH _ _).mono ?_;rintro e w' ⟨rfl,i⟩;obtain rfl:=i.symm);exact⟨⟨k+1,by omega,by go_num,by first|rfl|trivial⟩,by simp[intOf];omega⟩
   have hs:¬ qA k<n:=fun h=>by have:=j.1 h;omega
   have m:k=c:=by omega
   subst m;clear j;go_wp2_with (go_at_call 78;refine(mH _ _).mono ?_;rintro e w' ⟨rfl,i⟩;obtain rfl:=i.symm);go_ret2;exact⟨rfl,rfl⟩
 have h1:wi n 1 32=false:=qG.2 h;have h2:BB n=0:=by unfold BB;rw[jN (by rw[h1];simp)]
 rw[h1,h2];go_in;go_wp2_with (go_at_call 90;refine(aC _ _ _ _).mono ?_;rintro e w' ⟨rfl,rfl⟩);go_ret2;exact⟨rfl,rfl⟩
theorem CM(n:Int)(w:World):
  Calls Tryz.prog 56 #[n] w fun e w'=>e= .returned (.tuple #[.int .i64 (runV n),.bool (wi n 33 512)])/\w'=w:=by
 by_cases h:33<=n/\n<=512
 ·have h1:wi n 33 512=true:=IA.2 h;have h2:runV n=(n-1)/64+1:=by unfold runV;rw[jP h1]
  have h3:=wrp (n-1);have h4:=wrp ((n-1)/64+1);rw[h1,h2];clear h2;go_in;go_wp2_with (go_at_call 90;refine(aC _ _ _ _).mono ?_;rintro e w' ⟨rfl,rfl⟩);go_ret2;exact⟨rfl,rfl⟩
 have h1:wi n 33 512=false:=qG.2 h;have h2:runV n=0:=by unfold runV;rw[jN (by rw[h1];simp)]
 rw[h1,h2];go_in;go_wp2_with (go_at_call 90;refine(aC _ _ _ _).mono ?_;rintro e w' ⟨rfl,rfl⟩);go_ret2;exact⟨rfl,rfl⟩
theorem EP(n:Int)(w:World):
  Calls Tryz.prog 55 #[n] w fun e w'=>e= .returned (.tuple #[.int .i64 (lenV n),.bool (lenB n)])/\w'=w:=by
 by_cases h:1<=n/\n<=32
 ·have h1:wi n 1 32=true:=IA.2 h;have h2:lenV n=qA (BB n):=by unfold lenV;rw[jP h1]
  have h3:lenB n=true:=IA.2 (by omega);rw[h2,h3];clear h2;go_in;go_wp2_with (first|(go_at_call 104;refine(rP _ _).mono ?_;rintro e w' ⟨rfl,rfl⟩)|(go_at_call 78;refine(mH _ _).mono ?_;rintro e w' ⟨rfl,rfl⟩));go_ret2;exact⟨rfl,rfl⟩
 have h1:wi n 1 32=false:=qG.2 h;have h2:lenV n=runV n*64:=by unfold lenV;rw[jN (by rw[h1];simp)]
 have h3:lenB n=wi n 33 512:=by rw[Bool.eq_iff_iff];unfold lenB;rw[IA,IA];omega
 have hb:=WM n;have h4:=wrp (runV n*64);rw[h2,h3];clear h2 h3;go_in;go_wp2_with (first|(go_at_call 104;refine(rP _ _).mono ?_;rintro e w' ⟨rfl,rfl⟩)|(go_at_call 56;refine(CM _ _).mono ?_;rintro e w' ⟨rfl,rfl⟩));go_ret2;exact⟨rfl,rfl⟩
end

section

open Go.RowKit

theorem UV(p c m:Int)(w:World):
  Calls Tryz.prog 88 #[.agg #[p,c,m]] w fun e w'=>e= .returned (.int .i64 (oB p c m))/\Below w.heap.size w w':=by
 by_cases h1:mayB p c m=true
 ·have hb:=LA.1 h1;have l:=NE (c:=c) (m:=m) (C:=12) (M:=8) (by omega) (by omega);have b:oB p c m=c+p+p*16+c*m:=by unfold oB;rw[jP h1]
  rw[b];clear b;have i:=wrp (c+p);have n:=wrp (p*16);have o:=wrp (c+p+p*16);have q:=wrp (c*m);have r:=wrp (c+p+p*16+c*m);go_in;go_wp2_with (go_at_call 86;refine(tC _ _ _ _).mono ?_;rintro e i ⟨rfl,rfl⟩);go_ret;exact⟨rfl,by go_grown⟩
 have j:mayB p c m=false:=by simpa using h1
 have b:oB p c m=0:=by unfold oB;rw[jN h1]
 rw[b];clear h1 b;go_in;go_wp2_with (go_at_call 86;refine(tC _ _ _ _).mono ?_;rintro e i ⟨rfl,rfl⟩);go_ret;exact⟨rfl,by go_grown⟩
theorem kC(p c m x:Int)(w:World):
  Calls Tryz.prog 44 #[.agg #[p,c,m],x] w fun e w'=>e= .returned (.int .i64 (zA p c m x))/\Below w.heap.size w w':=by
 by_cases h1:mayB p c m=true;case neg=>
  have l:mayB p c m=false:=by simpa using h1
  have b:zA p c m x= -1:=by unfold zA;rw[jN (fun h=>h1 h.1)]
  rw[b];clear h1 b;go_in;go_wp2_with (first|(go_at_call 86;refine(tC _ _ _ _).mono ?_;rintro e j ⟨rfl,rfl⟩)|(go_at_call 90;refine(aC _ _ _ _).mono ?_;rintro e w' ⟨rfl,rfl⟩));go_ret;exact⟨rfl,by go_grown⟩
 case pos=>
  have hb:=LA.1 h1;have wc:wrap64 (c-1)=c-1:=IntWalk.wrap64_in _ ⟨by omega,by omega⟩;by_cases i:wi x 0 (c-1)=true;case neg=>
   have q':wi x 0 (c-1)=false:=by simpa using i
   have b:zA p c m x= -1:=by unfold zA;rw[jN (fun h=>i h.2)]
   rw[b];clear i b;go_in;go_wp2_with (first|(go_at_call 86;refine(tC _ _ _ _).mono ?_;rintro e j ⟨rfl,rfl⟩)|(go_at_call 90;refine(aC _ _ _ _).mono ?_;rintro e w' ⟨rfl,rfl⟩));go_ret;exact⟨rfl,by go_grown⟩
  have n:=IA.1 i;have b:zA p c m x=x:=by unfold zA;rw[jP ⟨h1,i⟩]
  rw[b];clear b;go_in;go_wp2_with (first|(go_at_call 86;refine(tC _ _ _ _).mono ?_;rintro e j ⟨rfl,rfl⟩)|(go_at_call 90;refine(aC _ _ _ _).mono ?_;rintro e w' ⟨rfl,rfl⟩));go_ret;exact⟨rfl,by go_grown⟩
theorem oE(p c m a i:Int)(w:World):
  Calls Tryz.prog 114 #[.agg #[p,c,m],a,i] w fun e w'=>e= .returned (.int .i64 (XA p c m a i))/\Below w.heap.size w w':=by
 by_cases h1:mayB p c m=true;case neg=>
  have n:mayB p c m=false:=by simpa using h1
  have b:XA p c m a i= -1:=by unfold XA;rw[jN (fun h=>h1 h.1)]
  rw[b];clear h1 b;go_in;go_wp2_with (first|(go_at_call 86;refine(tC _ _ _ _).mono ?_;rintro e l ⟨rfl,rfl⟩)|(go_at_call 90;refine(aC _ _ _ _).mono ?_;rintro e w' ⟨rfl,rfl⟩));go_ret;exact⟨rfl,by go_grown⟩
 case pos=>
  have hb:=LA.1 h1;have wc:wrap64 (p-1)=p-1:=IntWalk.wrap64_in _ ⟨by omega,by omega⟩;by_cases j:wi a 0 (p-1)=true;case neg=>
   have q':wi a 0 (p-1)=false:=by simpa using j
   have b:XA p c m a i= -1:=by unfold XA;rw[jN (fun h=>j h.2.1)]
   rw[b];clear j b;go_in;go_wp2_with (first|(go_at_call 86;refine(tC _ _ _ _).mono ?_;rintro e l ⟨rfl,rfl⟩)|(go_at_call 90;refine(aC _ _ _ _).mono ?_;rintro e w' ⟨rfl,rfl⟩));go_ret;exact⟨rfl,by go_grown⟩
  have o:=IA.1 j;by_cases q1:wi i 0 15=true;case neg=>
   have q':wi i 0 15=false:=by simpa using q1
   have b:XA p c m a i= -1:=by unfold XA;rw[jN (fun h=>q1 h.2.2)]
   rw[b];clear q1 b;go_in;go_wp2_with (first|(go_at_call 86;refine(tC _ _ _ _).mono ?_;rintro e l ⟨rfl,rfl⟩)|(go_at_call 90;refine(aC _ _ _ _).mono ?_;rintro e w' ⟨rfl,rfl⟩));go_ret;exact⟨rfl,by go_grown⟩
  have q:=IA.1 q1;have b:XA p c m a i=c+p+a*16+i:=by unfold XA;rw[jP ⟨h1,j,q1⟩]
  rw[b];clear b;have l:=wrp (c+p);have r:=wrp (a*16);have s:=wrp (c+p+a*16);have t:=wrp (c+p+a*16+i);go_in;go_wp2_with (first|(go_at_call 86;refine(tC _ _ _ _).mono ?_;rintro e l ⟨rfl,rfl⟩)|(go_at_call 90;refine(aC _ _ _ _).mono ?_;rintro e w' ⟨rfl,rfl⟩));go_ret;exact⟨rfl,by go_grown⟩
theorem xL(p c m x i:Int)(w:World):
  Calls Tryz.prog 118 #[.agg #[p,c,m],x,i] w fun e w'=>e= .returned (.int .i64 (fC p c m x i))/\Below w.heap.size w w':=by
 by_cases h1:mayB p c m=true;case neg=>
  have n:mayB p c m=false:=by simpa using h1
  have b:fC p c m x i= -1:=by unfold fC;rw[jN (fun h=>h1 h.1)]
  rw[b];clear h1 b;go_in;go_wp2_with (first|(go_at_call 86;refine(tC _ _ _ _).mono ?_;rintro e l ⟨rfl,rfl⟩)|(go_at_call 90;refine(aC _ _ _ _).mono ?_;rintro e w' ⟨rfl,rfl⟩));go_ret;exact⟨rfl,by go_grown⟩
 case pos=>
  have hb:=LA.1 h1;have wc:wrap64 (c-1)=c-1:=IntWalk.wrap64_in _ ⟨by omega,by omega⟩;have wd:wrap64 (m-1)=m-1:=IntWalk.wrap64_in _ ⟨by omega,by omega⟩;by_cases j:wi x 0 (c-1)=true;case neg=>
   have q':wi x 0 (c-1)=false:=by simpa using j
   have b:fC p c m x i= -1:=by unfold fC;rw[jN (fun h=>j h.2.1)]
   rw[b];clear j b;go_in;go_wp2_with (first|(go_at_call 86;refine(tC _ _ _ _).mono ?_;rintro e l ⟨rfl,rfl⟩)|(go_at_call 90;refine(aC _ _ _ _).mono ?_;rintro e w' ⟨rfl,rfl⟩));go_ret;exact⟨rfl,by go_grown⟩
  have o:=IA.1 j;by_cases q1:wi i 0 (m-1)=true;case neg=>
   have q':wi i 0 (m-1)=false:=by simpa using q1
   have b:fC p c m x i= -1:=by unfold fC;rw[jN (fun h=>q1 h.2.2)]
   rw[b];clear q1 b;go_in;go_wp2_with (first|(go_at_call 86;refine(tC _ _ _ _).mono ?_;rintro e l ⟨rfl,rfl⟩)|(go_at_call 90;refine(aC _ _ _ _).mono ?_;rintro e w' ⟨rfl,rfl⟩));go_ret;exact⟨rfl,by go_grown⟩
  have q:=IA.1 q1;have b:fC p c m x i=c+p+p*16+x*m+i:=by unfold fC;rw[jP ⟨h1,j,q1⟩]
  rw[b];clear b;have r:=NE (c:=x) (m:=m) (C:=11) (M:=8) (by omega) (by omega);have l:=wrp (c+p);have s:=wrp (p*16);have t:=wrp (c+p+p*16);have y:=wrp (x*m);have z:=wrp (c+p+p*16+x*m);have B:=wrp (c+p+p*16+x*m+i);go_in;go_wp2_with (first|(go_at_call 86;refine(tC _ _ _ _).mono ?_;rintro e l ⟨rfl,rfl⟩)|(go_at_call 90;refine(aC _ _ _ _).mono ?_;rintro e w' ⟨rfl,rfl⟩));go_ret;exact⟨rfl,by go_grown⟩
def splitB (p c m a:Int):Bool:=mayB p c m && wi a 0 (p * 64 - 1)
theorem ygw(x:Int)(h0:0<=x)(h1:x<9223372036854775808):bits .and .i64 x 63=x%64:=
 bits_mask .i64 63 (by decide) (fun n a b=>IntWalk.i64_in _ ⟨by omega,by omega⟩) 6 (by decide) x h0 h1
theorem z0r(p c m a:Int)(w:World):
  Calls Tryz.prog 126 #[.agg #[p,c,m],a] w fun e w'=>e= .returned (.tuple (if splitB p c m a=true then #[.int .i64 (a/64),.int .i64 (a%64),.bool true] else #[.int .i64 0,.int .i64 0,.bool false]))/\Below w.heap.size w w':=by
 by_cases h1:mayB p c m=true;case neg=>
  have j:mayB p c m=false:=by simpa using h1
  have b:splitB p c m a=false:=by unfold splitB;rw[j];rfl
  rw[b,jN Bool.false_ne_true];clear h1 b;go_in;go_wp2_with (first|(go_at_call 86;refine(tC _ _ _ _).mono ?_;rintro e l ⟨rfl,rfl⟩)|(go_at_call 90;refine(aC _ _ _ _).mono ?_;rintro e w' ⟨rfl,rfl⟩));go_ret3;exact⟨rfl,by go_grown⟩
 case pos=>
  have hb:=LA.1 h1;have l:=wrp (p*64);have q:=wrp (p*64-1);by_cases i:wi a 0 (p*64-1)=true;case neg=>
   have q':wi a 0 (p*64-1)=false:=by simpa using i
   have b:splitB p c m a=false:=by unfold splitB;rw[q',Bool.and_false]
   rw[b,jN Bool.false_ne_true];clear i b;go_in;go_wp2_with (first|(go_at_call 86;refine(tC _ _ _ _).mono ?_;rintro e l ⟨rfl,rfl⟩)|(go_at_call 90;refine(aC _ _ _ _).mono ?_;rintro e w' ⟨rfl,rfl⟩));go_ret3;exact⟨rfl,by go_grown⟩
  have o:=IA.1 i;have b:splitB p c m a=true:=by unfold splitB;rw[h1,i];rfl
  rw[b,jP rfl];clear b;have n:=ygw a (by omega) (by omega);go_in;go_wp2_with (first|(go_at_call 86;refine(tC _ _ _ _).mono ?_;rintro e l ⟨rfl,rfl⟩)|(go_at_call 90;refine(aC _ _ _ _).mono ?_;rintro e w' ⟨rfl,rfl⟩));go_ret3;exact⟨rfl,by go_grown⟩
theorem NW(p i k:Int)(w:World)(j:0<=p/\p<=64)(hi:0<=i/\i<=16):
  Calls Tryz.prog 77 #[p,i,k] w fun e w'=>e= .returned (.int .i64 (p*64+i*qA k))/\w'=w:=by
 have hs:=wH k;have b:=NE (c:=i) (m:=qA k) (C:=16) (M:=32) (by omega) (by omega);have l:=wrp (p*64);have n:=wrp (i*qA k);have o:=wrp (p*64+i*qA k);go_in;go_wp2_with (go_at_call 78;refine(mH _ _).mono ?_;rintro e w' ⟨rfl,rfl⟩);go_ret;exact⟨rfl,rfl⟩
end

section

open Go.RowKit Go.ChangeShapes Go.WideShapes Go.ChangeAt

theorem UL{b:Type}(f:b->List Value)(sz:Nat)(i:∀ a,(f a).length=sz)(xs:List b):(xs.flatMap f).length=xs.length*sz:=by
 induction xs with
 |nil=>simp
 |cons x xs j=>rw[List.flatMap_cons,List.length_append,i,j,List.length_cons,Nat.add_mul,Nat.one_mul,Nat.add_comm]
theorem BM{l:Type}(f:l->List Value)(sz:Nat)(b:∀ a,(f a).length=sz)(xs:List l)(i j:Nat)(hi:i<xs.length)(n:j<sz):(xs.flatMap f)[i*sz+j]?=(f xs[i])[j]?:=by
 induction xs generalizing i with
 |nil=>simp at hi
 |cons x xs m=>
  rw[List.flatMap_cons]
  cases i with
  |zero=>rw[List.getElem?_append_left (by rw[b];omega)];simp
  |succ i=>
   rw[List.getElem?_append_right (by rw[b,Nat.add_mul,Nat.one_mul];omega),b,show (i+1)*sz+j-sz=i*sz+j from by rw[Nat.add_mul,Nat.one_mul];omega]
   simpa using m i (by simpa using hi)
section

variable {H:Type} {enc:TypeId × Value->H} {P:Program} {w:World}

theorem open_list{y:Type}(f:y->List Value)(m:y->Prop){t e:TypeId}{v:Value}{sz:Nat}(C:P.underlying t=some (.slice e))(ce:P.cellsOf e=sz)(o:0<sz)(F:∀ a,(f a).length=sz)(D:∀ es,es.length=sz->Rd enc P w e es->∃ a,f a=es/\m a) {r:Reach} {J:Nat} {d:DataW H} {ps:List MemPlace} (N:Value.okWide P w r J t v) (h0:DataW.Trod enc P w 0 (fun _=>true) true t v d ps):
  ∃ xs:List y,RdS w sz v xs.length (xs.flatMap f)/\∀ a ∈ xs,m a:=by
 obtain⟨a0,len,cap,rfl⟩:=okWide_slice C N;have h:=iV h0;by_cases G:len=0
 ·subst G;refine⟨[],?_,fun a z=>by cases z⟩;have n:cap<=maxLen:=by
   rcases GX C h with h0|⟨a,I,E,h0,h1,h2,h3⟩
   ·simp[Value.cells]at h0;omega
   simp[Value.cells]at h0;obtain⟨rfl,_,rfl⟩:=h0;exact h2
  exact⟨a0,cap,rfl,Nat.zero_le _,by simp only[maxLen]at n;omega,by simp,fun h=>absurd rfl h⟩
 obtain⟨b,p,rfl,hb,n,q,B⟩:=z2c C ce o h G;have key:∀ i:Fin len,∃ a,m a/\∀ j,j<sz->w.cell? ⟨b,p+i*sz+j,.none⟩=(f a)[j]?:=fun i=>by obtain⟨es,h1,h2,h3⟩:=B i (by have:=i.2;omega);obtain⟨a,rfl,M⟩:=D es h1 h2;exact⟨a,M,h3⟩
 let xs:List y:=List.ofFn fun i:Fin len=>Classical.choose (key i);have l:xs.length=len:=List.length_ofFn;have s:∀ i (hi:i<xs.length),xs[i]=Classical.choose (key ⟨i,l ▸ hi⟩):=fun i hi=>List.getElem_ofFn _;refine⟨xs,?_,fun a z=>?_⟩
 ·rw[l];refine⟨_,cap,rfl,n,by simp only[maxLen]at q;omega,by rw[UL f sz F,l],fun _=>⟨b,p,rfl,hb,fun i hi=>?_⟩⟩;have h1:i/sz<xs.length:=by rw[l];exact Nat.div_lt_of_lt_mul (by rw[Nat.mul_comm];exact hi)
  have h2:=(Classical.choose_spec (key ⟨i/sz,l ▸ h1⟩)).2 (i%sz) (Nat.mod_lt _ o);have h3:=BM f sz F xs (i/sz) (i%sz) h1 (Nat.mod_lt _ o);rw[<-s _ h1,<- h3]at h2;have L:i/sz*sz+i%sz=i:=by rw[Nat.mul_comm];exact Nat.div_add_mod i sz
  have h4:w.cell? ⟨b,p+i/sz*sz+i%sz,.none⟩=(xs.flatMap f)[i/sz*sz+i%sz]?:=h2;rw[Nat.add_assoc,L]at h4;exact h4
 obtain⟨i,hi,rfl⟩:=List.getElem_of_mem z;rw[s i hi];exact(Classical.choose_spec (key ⟨i,l ▸ hi⟩)).1
def RdZ (k:IntKind) (w:World) (v:Value) (zs:List Int):Prop:=RdS w 1 v zs.length (zs.map (.int k))
end

theorem RdZ.cells{k:IntKind}{w:World}{v:Value}{zs:List Int}(h:RdZ k w v zs):∃ ao cap,v= .slice ao zs.length cap/\zs.length<=cap/\(cap:Int)<=9223372036854775807/\(zs≠ []->∃ b f,ao=some ⟨b,f,.none⟩/\b<w.heap.size/\∀ i (hi:i<zs.length),w.cell? ⟨b,f+i,.none⟩=some (.int k zs[i])):=by
 obtain⟨ao,cap,e,h1,h2,_,h4⟩:=h;refine⟨ao,cap,e,h1,h2,fun m=>?_⟩;obtain⟨b,f,l,j,hc⟩:=h4 (fun h=>m (List.eq_nil_of_length_eq_zero h));refine⟨b,f,l,j,fun i hi=>(hc i (by omega)).trans ?_⟩;simp[hi]
theorem RdZ.below{k:IntKind}{w w':World}{v:Value}{zs:List Int}(h:RdZ k w v zs)(hb:Below w.heap.size w w'):RdZ k w' v zs:=RdS.below h hb
end

section

open Go.RowKit

def RdE (w:World) (v:Value) (es:List Ev):Prop:=RdS w 8 v es.length (es.flatMap fun e=> e.cells.toList)
theorem KS(e:Ev):e.cells.toList.length=8:=rfl
theorem RdE.below{w w':World}{v:Value}{es:List Ev}(h:RdE w v es)(hb:Below w.heap.size w w'):RdE w' v es:=RdS.below h hb
theorem RdE.nth{w:World}{v:Value}{es:List Ev}(h:RdE w v es):∃ ao cap,v= .slice ao es.length cap/\es.length<=cap/\(cap:Int)<=9223372036854775807/\(es≠ []->∃ b f,ao=some ⟨b,f,.none⟩/\b<w.heap.size/\∀ i (hi:i<es.length) j,j<8->w.cell? ⟨b,f+i*8+j,.none⟩=(es[i]).cells.toList[j]?):=by
 obtain⟨ao,cap,e,h1,h2,h3,h4⟩:=h;refine⟨ao,cap,e,h1,h2,fun p=>?_⟩;obtain⟨b,f,l,m,n⟩:=h4 (fun e=>p (List.eq_nil_of_length_eq_zero e));refine⟨b,f,l,m,fun i hi j o=>?_⟩;rw[Nat.add_assoc,n _ (by omega)];exact BM (fun e:Ev=>e.cells.toList) 8 KS es i j hi o
theorem RdE.take{w:World}{ao:Option Addr}{cap:Nat}{es:List Ev}(h:RdE w (.slice ao es.length cap) es)(n:Nat)(f:n<=es.length):RdE w (cutV ao 0 n cap 8) (es.take n):=by
 have hc:=RdS.cut (l:=0) (h:=n) h (Nat.zero_le _) f;unfold RdE;have b:(es.take n).length=n:=by rw[List.length_take];omega
 rw[b];have e:(es.take n).flatMap (fun e=>e.cells.toList)=((es.flatMap fun e=>e.cells.toList).drop (0*8)).take ((n-0)*8):=by
  rw[Nat.zero_mul,List.drop_zero,Nat.sub_zero];have h2:es.flatMap (fun e=>e.cells.toList)=(es.take n).flatMap (fun e=>e.cells.toList)++(es.drop n).flatMap (fun e=>e.cells.toList):=by rw[<-List.flatMap_append,List.take_append_drop]
  have h3:((es.take n).flatMap (fun e=>e.cells.toList)).length=n*8:=by rw[UL _ 8 KS,b]
  rw[h2,<- h3,List.take_left]
 rw[e];simpa using hc
end

section

structure Bk where
 a:Int
 n:Int
 deriving DecidableEq
def okK (W:Int):Int->List Bk->Prop
 | lo, []=> lo<=W
 | lo,b::l=> lo<=b.a/\1<=b.n/\okK W (b.a + b.n) l
theorem okK.le{W:Int}{l:List Bk}:∀ {lo:Int},okK W lo l->lo<=W:=by
 induction l with
 |nil=>exact fun h=>h
 |cons b l f=>exact fun h=>by have:=f h.2.2;have:=h.1;have:=h.2.1;omega
theorem okK.mono{W:Int}{l:List Bk}{lo f:Int}(h:okK W lo l)(i:f<=lo):okK W f l:=by
 cases l with
 |nil=>exact Int.le_trans i h
 |cons b l=>exact⟨Int.le_trans i h.1,h.2⟩
theorem okK.mem{W:Int}{l:List Bk}:∀ {lo:Int},okK W lo l->∀ b ∈ l,lo<=b.a/\1<=b.n/\b.a+b.n<=W:=by
 induction l with
 |nil=>exact fun _ b hb=>by cases hb
 |cons c l f=>
  intro lo h b hb;rcases List.mem_cons.1 hb with rfl|hb
  ·exact⟨h.1,h.2.1,h.2.2.le⟩
  have:=f h.2.2 b hb;have:=h.1;have:=h.2.1;omega
def posB (at':Int):List Bk->Nat
 | []=> 0
 | b::l=> if b.a < at' then posB at' l + 1 else 0
def iB (at':Int) (l:List Bk):Bool:=decide (∃ b,l[posB at' l]?=some b/\b.a=at')
theorem wQ(at':Int)(l:List Bk):posB at' l<=l.length:=by
 induction l with
 |nil=>exact Nat.le_refl _
 |cons b l f=>simp only[posB,List.length_cons];split<;>omega
theorem XU(at':Int)(l:List Bk)(i:Nat)(hi:i<posB at' l)(h:i<l.length):l[i].a<at':=by
 induction l generalizing i with
 |nil=>simp at h;|cons b l f=>
  simp only[posB]at hi;split at hi
  ·rename_i hb;cases i with
   |zero=>exact hb
   |succ i=>exact f i (by omega) (by simpa using h)
  omega
theorem z92(at':Int)(l:List Bk)(h:posB at' l<l.length):at'<=l[posB at' l].a:=by
 induction l with
 |nil=>simp at h;|cons b l f=>
  by_cases hb:b.a<at'
  ·simp only[posB,jP hb,List.getElem_cons_succ];exact f (by simpa[posB,hb] using h)
  simp only[posB,jN hb,List.getElem_cons_zero];omega
theorem okK.lt{W:Int}{l:List Bk}{lo:Int}(h:okK W lo l):∀ i j (_:i<j) (m:j<l.length),(l[i]'(by omega)).a+(l[i]'(by omega)).n<=l[j].a:=by
 induction l generalizing lo with
 |nil=>exact fun i j _ m=>by simp at m
 |cons b l p=>
  intro i j o m
  cases j with
  |zero=>omega
  |succ j=>
   have f:j<l.length:=by simpa using m
   cases i with
   |zero=>exact(h.2.2.mem l[j] (List.getElem_mem f)).1
   |succ i=>exact p h.2.2 i j (by omega) f
theorem EM(at':Int)(l:List Bk)(i:Nat)(hi:i<=l.length)(h1:∀ k (_:k<i) (b:k<l.length),l[k].a<at')(h2:∀ b:i<l.length,at'<=l[i].a):posB at' l=i:=by
 rcases Nat.lt_trichotomy (posB at' l) i with h|h|h
 ·have:=h1 _ h (by omega);have:=z92 at' l (by omega);omega
 ·exact h
 have f:=wQ at' l;have:=XU at' l i h (by omega);have:=h2 (by omega);omega
theorem LJ(at':Int)(l:List Bk):iB at' l=true↔∃ h:posB at' l<l.length,l[posB at' l].a=at':=by
 simp only[iB,decide_eq_true_eq];constructor
 ·rintro⟨b,h1,h2⟩;obtain⟨h3,rfl⟩:=List.getElem?_eq_some_iff.1 h1;exact⟨h3,h2⟩
 rintro⟨h1,h2⟩;exact⟨_,List.getElem?_eq_getElem h1,h2⟩
theorem XJ{W lo at':Int}{l:List Bk}(h:okK W lo l):iB at' l=true↔∃ b ∈ l,b.a=at':=by
 rw[LJ];constructor
 ·rintro⟨h1,h2⟩;exact⟨_,List.getElem_mem h1,h2⟩
 rintro⟨b,hb,rfl⟩;obtain⟨i,hi,rfl⟩:=List.getElem_of_mem hb;have m:=EM l[i].a l i (by omega) (fun k j f=>by have:=h.lt k i j hi;have:=(h.mem _ (List.getElem_mem f)).2.1;omega) (fun _=>Int.le_refl _);exact⟨by omega,by simp only[m]⟩
def meets (b:Bk) (at' n:Int):Bool:=decide (b.a < at' + n/\at' < b.a + b.n)
def DF (W at' n:Int):Bool:=decide (1<=n/\0<=at'/\at'<=W/\n<=W - at')
def AB (W:Int) (l:List Bk) (at' n:Int):Bool:=DF W at' n && !l.any (fun b=> meets b at' n)
def putB (l:List Bk) (at' n:Int):List Bk:=l.take (posB at' l) ++ ⟨at',n⟩::l.drop (posB at' l)
theorem bK{W lo at' n:Int}{l:List Bk}(h:okK W lo l)(f:lo<=at')(j:1<=n)(m:at'+n<=W)(hc:∀ b ∈ l,¬ (b.a<at'+n/\at'<b.a+b.n)):okK W lo (putB l at' n):=by
 induction l generalizing lo with
 |nil=>exact⟨f,j,m⟩;|cons b l q=>
  have hb:=hc b (by simp);have h1:=h.2.1;unfold putB;simp only[posB];split
  ·rename_i p;simp only[List.take_succ_cons,List.drop_succ_cons,List.cons_append];exact⟨h.1,h.2.1,q h.2.2 (by omega) (fun c i=>hc c (by simp[i]))⟩
  rename_i o;simp only[List.take_zero,List.drop_zero,List.nil_append];exact⟨f,j,⟨by show at'+n<=b.a;omega,h.2⟩⟩
def NI (l:List Bk) (at':Int):List Bk:=l.take (posB at' l) ++ l.drop (posB at' l + 1)
def DB (l:List Bk) (at':Int):List Bk:=if iB at' l then NI l at' else l
theorem okK.z7t{W lo:Int}{l:List Bk}(h:okK W lo l)(i:Nat):okK W lo (l.take i++l.drop (i+1)):=by
 induction l generalizing lo i with
 |nil=>simpa using h
 |cons b l f=>
  cases i with
  |zero=>simpa using h.2.2.mono (by have:=h.1;have:=h.2.1;omega)
  |succ i=>exact⟨h.1,h.2.1,f h.2.2 i⟩
theorem AT{W at':Int}{l:List Bk}(h:okK W 0 l):okK W 0 (DB l at'):=by
 unfold DB;split
 ·exact h.z7t _
 exact h
theorem okK.len{W lo:Int}{l:List Bk}(h:okK W lo l):(l.length:Int)<=W-lo:=by
 induction l generalizing lo with
 |nil=>have:=h.le;simp;omega;|cons b l f=>have:=f h.2.2;have:=h.1;have:=h.2.1;simp only[List.length_cons];omega
structure Pt where
 was:Bool
 lives:Bool
 asks:Bool
 k:Int
 a:Int
 n:Int
 took:Bool
 gave:Bool
 at':Int
 ab:Bool
 deriving DecidableEq
def Pt.zero:Pt:=⟨false,false,false,0,0,0,false,false,0,false⟩
def rD (p:Pt) (e:Ev):Int:=
 if e.k=0 then (if p.was=true then 1 else 0)
 else if e.k=1 then (if p.lives=false then 1 else if p.asks=true/\p.took=true then 5 else 0)
 else if p.lives=false\/p.asks=true\/e.ok < 1\/4 < e.ok then 1 else 0
def LD (p:Pt) (e:Ev):Pt:=
 if rD p e≠0 then p
 else if e.k=0 then { p with was:=true,lives:=true }
 else if e.k=1 then { p with lives:=false,asks:=false }
 else ⟨true,true,true,e.ok,e.oa,e.on,false,false,0,false⟩
def mayT (p:Pt):Bool:=decide (p.k=1) || (decide (p.k=3) && p.gave)
def HF (W:Int) (l:List Bk) (p:Pt) (e:Ev):Int:=
 if mayT p=false\/p.took=true\/lenB p.n=false\/lenV p.n≠e.n then 5 else if AB W l e.at' e.n=true then 0 else 2
def mayG (p:Pt):Bool:=decide (p.k=2) || decide (p.k=3)
def IF (l:List Bk) (p:Pt) (e:Ev):Int:=
 if mayG p=false\/p.gave=true\/e.at'≠p.a then 5 else if iB e.at' l=true then 0 else 3
def CE (p:Pt) (at':Int):Bool:=if p.k=1\/p.k=3 then p.took && (at'==p.at') else if p.k=2 then p.gave && (at'==0) else at'==0
def XF (p:Pt):Bool:=if p.k=1 then !lenB p.n else if p.k=2 then p.ab else if p.k=3 then p.ab || !lenB p.n else true
def DC (p:Pt) (e:Ev):Bool:=
 if e.er=0 then CE p e.at' else if p.took=true\/p.gave=true\/e.at'≠0 then false
 else if e.er=1 then XF p else if e.er=3 then p.k==1 || p.k==3 else if e.er=4\/e.er=5 then p.k==4 else false
structure Wy where
 c:Int
 l:List Bk
 ps:List Pt
def whyJ (W:Int) (l:List Bk) (ps:List Pt) (e:Ev):Wy:=
 if e.c < 0\/(ps.length:Int)<=e.c\/e.k < 0\/5 < e.k then ⟨1,l,ps⟩
 else if e.k < 3 then ⟨rD (ps.getD e.c.toNat Pt.zero) e,l,ps.set e.c.toNat (LD (ps.getD e.c.toNat Pt.zero) e)⟩
 else if (ps.getD e.c.toNat Pt.zero).lives=false\/(ps.getD e.c.toNat Pt.zero).asks=false then ⟨1,l,ps⟩
 else if e.k=3 then
  (if HF W l (ps.getD e.c.toNat Pt.zero) e=0 then ⟨0,putB l e.at' e.n,ps.set e.c.toNat { ps.getD e.c.toNat Pt.zero with took:=true,at':=e.at' }⟩ else ⟨HF W l (ps.getD e.c.toNat Pt.zero) e,l,ps⟩)
 else if e.k=4 then
  (if IF l (ps.getD e.c.toNat Pt.zero) e=0 then ⟨0,DB l e.at',ps.set e.c.toNat { ps.getD e.c.toNat Pt.zero with gave:=true }⟩ else ⟨IF l (ps.getD e.c.toNat Pt.zero) e,l,ps⟩)
 else if DC (ps.getD e.c.toNat Pt.zero) e=true then ⟨0,l,ps.set e.c.toNat { ps.getD e.c.toNat Pt.zero with asks:=false }⟩ else ⟨4,l,ps⟩
def abP (l:List Bk) (p:Pt):Pt:=if iB p.a l=false/\p.asks=true then { p with ab:=true } else p
structure Jd where
 W:Int
 l:List Bk
 ps:List Pt
 m:Int
 at':Int
 why:Int
def CG (j:Jd) (e:Ev):Bool:=decide (j.why=0) && decide ((whyJ j.W j.l j.ps e).c=0)
def CA (j:Jd) (e:Ev):Jd:=
 if j.why≠0 then j
 else if (whyJ j.W j.l j.ps e).c≠0 then { j with l:=(whyJ j.W j.l j.ps e).l,ps:=(whyJ j.W j.l j.ps e).ps,at':=j.m,why:=(whyJ j.W j.l j.ps e).c }
 else { j with l:=(whyJ j.W j.l j.ps e).l,ps:=(whyJ j.W j.l j.ps e).ps.map (abP (whyJ j.W j.l j.ps e).l),m:=j.m + 1 }
def newJ (p c m:Int):Jd:=if mayB p c m=true then ⟨p * 64, [],List.replicate c.toNat Pt.zero,0, -1,0⟩ else ⟨0, [], [],0, -1,0⟩
def runJ (j:Jd) (es:List Ev):Jd:=es.foldl CA j
theorem YE(j:Jd)(a b:List Ev):runJ j (a++b)=runJ (runJ j a) b:=by simp[runJ]
theorem oK(j:Jd)(e:Ev)(b:List Ev):runJ j (e::b)=runJ (CA j e) b:=rfl
theorem AN(j:Jd)(e:Ev)(b:List Ev):runJ j (b++[e])=CA (runJ j b) e:=by simp[runJ]
theorem yit{j:Jd}(h:j.why≠0)(e:Ev):CA j e=j:=by unfold CA;rw[jP h]
theorem yir{j:Jd}(h:j.why≠0)(es:List Ev):runJ j es=j:=by
 induction es with
 |nil=>rfl
 |cons e es b=>rw[oK,yit h,b]
theorem HI(j:Jd)(e:Ev):CG j e=true↔j.why=0/\(whyJ j.W j.l j.ps e).c=0:=by simp[CG]
theorem RK{j:Jd}{e:Ev}(h:CG j e=true):CA j e= {j with l:=(whyJ j.W j.l j.ps e).l,ps:=(whyJ j.W j.l j.ps e).ps.map (abP (whyJ j.W j.l j.ps e).l),m:=j.m+1}:=by
 obtain⟨h1,h2⟩:=(HI j e).1 h;unfold CA;rw[jN (by omega),jN (by omega)]
end

end Go.Proofs.YtkilokkopbajkaaGreat
