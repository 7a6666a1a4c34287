
import Derived.Deep.DrawnRows

import Derived.Test.YtkilokkopbajkaaGreatBw2

set_option linter.all false
set_option maxHeartbeats 1000000
namespace Go.Proofs.YtkilokkopbajkaaGreat

open RowKit

theorem yQ(k:Int)(xs:List Int)(b m:Nat)(w:World)(p:0<=k)(o:k<=15)(s:xs.length<=3)(hc:∀i,i<xs.length->w.cell? ⟨b,m+i,.none⟩=some (.int .i64 (xs.getD i 0))):
  Calls Tryz.prog 133 #[k,.slice (some ⟨b,m,.none⟩) xs.length xs.length] w λe w'=>e=.returned (.int .u64 (putV k xs))/\w'=w:=by
 go_in;go_wp2;go_loop [4,5,12] (λr v i=>∃j:Nat,j<=xs.length/\i=.int .i64 j/\r=.int .u64 0/\v=.int .u64 (k+16*horner (xs.take j))/\iE (xs.take j)=true) (λ_ _ i=>xs.length-(intOf i).toNat);case atStart=>exact⟨0,Nat.zero_le _,rfl,rfl,by simp[horner],by simp[iE]⟩
 case round=>
  obtain⟨j,q,rfl,rfl,rfl,l⟩:=hrel;have n:j<xs.length->w.cell? ⟨b,m+j,.none⟩=some (.int .i64 (xs.getD j 0)):=λh=>hc j h;go_wp2;case roundEnd=>have hs:=z6p k xs j p o (by omega) ‹_› (by omega) (by omega) l;exact⟨⟨j+1,by omega,by go_num,rfl,by rw[hs.1],hs.2⟩,by simp[intOf];omega⟩
  all_goals go_ret
  .exact⟨by rw[xX k xs j ‹_› (by omega)];rfl,rfl⟩
  .exact⟨by rw[xX k xs j ‹_› (by omega)];rfl,rfl⟩
  have e:xs.take j=xs:=List.take_of_length_le (by omega);rw[e]at l|-;exact⟨by rw[wK k xs l];rfl,rfl⟩
theorem put1(k a:Int)(b j:Nat)(w:World)(m:0<=k)(l:k<=15)(h0:w.cell? ⟨b,j,.none⟩=some (.int .i64 a)):
  Calls Tryz.prog 133 #[k,.slice (some ⟨b,j,.none⟩) 1 1] w λe w'=>e=.returned (.int .u64 (putV k [a]))/\w'=w:=
 yQ k [a] b j w m l (by simp) (λi hi=>by
  match i,hi with
  |0,_=>exact h0)
theorem put2(k a c:Int)(b j:Nat)(w:World)(m:0<=k)(l:k<=15)(h0:w.cell? ⟨b,j,.none⟩=some (.int .i64 a))(h1:w.cell? ⟨b,j+1,.none⟩=some (.int .i64 c)):
  Calls Tryz.prog 133 #[k,.slice (some ⟨b,j,.none⟩) 2 2] w λe w'=>e=.returned (.int .u64 (putV k [a,c]))/\w'=w:=
 yQ k [a,c] b j w m l (by simp) (λi hi=>by
  match i,hi with
  |0,_=>exact h0
  |1,_=>exact h1)
theorem put3(k a c d:Int)(b j:Nat)(w:World)(m:0<=k)(l:k<=15)(h0:w.cell? ⟨b,j,.none⟩=some (.int .i64 a))(h1:w.cell? ⟨b,j+1,.none⟩=some (.int .i64 c))(h2:w.cell? ⟨b,j+2,.none⟩=some (.int .i64 d)):
  Calls Tryz.prog 133 #[k,.slice (some ⟨b,j,.none⟩) 3 3] w λe w'=>e=.returned (.int .u64 (putV k [a,c,d]))/\w'=w:=
 yQ k [a,c,d] b j w m l (by simp) (λi hi=>by
  match i,hi with
  |0,_=>exact h0
  |1,_=>exact h1
  |2,_=>exact h2)
theorem WF(k a b:Int)(w:World):
  Calls Tryz.prog 139 #[.agg #[k,a,b]] w λe w'=>e=.returned (.int .u64 (QA k a b))/\Below w.heap.size w w':=by
 go_in;go_wp2_with (go_at_call 133;refine(put2 _ a b _ _ _ (by omega) (by omega) (by go_simp) (by go_simp)).mono ?_;rintro e w' ⟨rfl,rfl⟩);all_goals go_ret
 all_goals refine⟨AE ?_,by go_grown⟩
 all_goals simp_all [QA,bD]
 all_goals omega
theorem tE(k a:Int)(w:World):
  Calls Tryz.prog 141 #[.agg #[k,a]] w λe w'=>e=.returned (.int .u64 (VA k a))/\Below w.heap.size w w':=by
 go_in;go_wp2_with (go_at_call 133;refine(put1 _ a _ _ _ (by omega) (by omega) (by go_simp)).mono ?_;rintro e w' ⟨rfl,rfl⟩);all_goals go_ret
 all_goals refine⟨AE ?_,by go_grown⟩
 all_goals simp_all [VA,QE]
 all_goals omega
theorem UJ(a b c:Int)(w:World):
  Calls Tryz.prog 153 #[.agg #[a,b,c]] w λe w'=>e=.returned (.int .u64 (putV 1 [a,b,c]))/\Below w.heap.size w w':=by
 go_in;go_wp2_with (go_at_call 133;refine(put3 _ a b c _ _ _ (by omega) (by omega) (by go_simp) (by go_simp) (by go_simp)).mono ?_;rintro e w' ⟨rfl,rfl⟩);all_goals go_ret
 all_goals exact⟨rfl,by go_grown⟩
theorem YJ(k a:Int)(w:World):
  Calls Tryz.prog 100 #[k,a] w λe w'=>e=.returned (.int .u64 (ZA k a))/\Below w.heap.size w w':=by
 go_in;go_wp2_with (go_at_call 133;refine(put1 _ a _ _ _ (by omega) (by omega) (by go_simp)).mono ?_;rintro e w' ⟨rfl,rfl⟩);all_goals go_ret
 all_goals refine⟨AE ?_,by go_grown⟩
 all_goals simp_all [ZA,bK]
 all_goals omega
theorem eC(n lo hi:Int)(w:World):
  Calls Tryz.prog 90 #[n,lo,hi] w λe w'=>e=.returned (.bool (wi n lo hi))/\w'=w:=by
 go_in;go_wp2;all_goals go_ret
 all_goals refine⟨RG ?_,rfl⟩
 all_goals simp[wi]
 all_goals omega
theorem BC(p c m:Int)(w:World):
  Calls Tryz.prog 86 #[.agg #[p,c,m]] w λe w'=>e=.returned (.bool (mayB p c m))/\w'=w.alloc (.cells #[p,c,m] 23):=by
 have h1:wi p 1 64=true\/wi p 1 64=false:=by cases wi p 1 64<;>simp
 have h2:wi c 1 12=true\/wi c 1 12=false:=by cases wi c 1 12<;>simp
 rcases h1 with h1|h1<;>rcases h2 with h2|h2 <;>
 .go_in;go_wp2_with (go_at_call 90;refine(eC _ _ _ _).mono ?_;rintro e w' ⟨rfl,rfl⟩);go_ret;exact⟨RG (by simp[mayB,h1,h2]),rfl⟩
theorem JB(p c m a:Int)(w:World):
  Calls Tryz.prog 112 #[.agg #[p,c,m],a] w λe w'=>e=.returned (.int .i64 (pA p c m a))/\Below w.heap.size w w':=by
 by_cases h1:mayB p c m=true
 .have hb:=JA.1 h1;have n:wrap64 (p-1)=p-1:=IntWalk.wrap64_in _ ⟨by omega,by omega⟩;by_cases h2:wi a 0 (p-1)=true
  .have l:=BA.1 h2;go_in;go_wp2_with (first|(go_at_call 86;refine(BC _ _ _ _).mono ?_;rintro e j ⟨rfl,rfl⟩)|(go_at_call 90;refine(eC _ _ _ _).mono ?_;rintro e w' ⟨rfl,rfl⟩));go_ret;exact⟨AE (by rw[pA,jP ⟨h1,h2⟩]),by go_grown⟩
  have i:wi a 0 (p-1)=false:=by simpa using h2
  clear h2;go_in;go_wp2_with (first|(go_at_call 86;refine(BC _ _ _ _).mono ?_;rintro e j ⟨rfl,rfl⟩)|(go_at_call 90;refine(eC _ _ _ _).mono ?_;rintro e w' ⟨rfl,rfl⟩));go_ret;exact⟨AE (by rw[pA,jN (by simp[i])]),by go_grown⟩
 have b:mayB p c m=false:=by simpa using h1
 clear h1;go_in;go_wp2_with (first|(go_at_call 86;refine(BC _ _ _ _).mono ?_;rintro e j ⟨rfl,rfl⟩)|(go_at_call 90;refine(eC _ _ _ _).mono ?_;rintro e w' ⟨rfl,rfl⟩));go_ret;exact⟨AE (by rw[pA,jN (by simp[b])]),by go_grown⟩
theorem gD(k:Int)(w:World):
  Calls Tryz.prog 75 #[k] w λe w'=>e=.returned (.int .i64 (mA k))/\w'=w:=by
 by_cases h:0<=k/\k<=3
 .have h1:wi k 0 3=true:=BA.2 h;have:k=0\/k=1\/k=2\/k=3:=by omega
  rcases this with rfl|rfl|rfl|rfl <;>
  .go_in;go_wp2_with (go_at_call 90;refine(eC _ _ _ _).mono ?_;rintro e w' ⟨rfl,rfl⟩);go_ret;exact⟨rfl,rfl⟩
 have h1:wi k 0 3=false:=zG.2 h;go_in;go_wp2_with (go_at_call 90;refine(eC _ _ _ _).mono ?_;rintro e w' ⟨rfl,rfl⟩);go_ret;exact⟨AE (by rw[mA,jN (by omega),jN (by omega),jN (by omega),jN (by omega)]),rfl⟩
theorem pG(p c m:Int)(w:World):
  Calls Tryz.prog 21 #[.agg #[p,c,m]] w λe w'=>e=.returned (.bool (mayB p c m))/\w'=w.alloc (.cells #[p,c,m] 23):=by
 go_in;go_wp2;all_goals go_ret
 all_goals refine⟨RG ?_,rfl⟩
 all_goals (rw[Bool.eq_iff_iff,JA];simp;omega)
section

attribute [local go_sem ↓] wp_at_zero wp_at_succ

theorem vH(k:Int)(w:World):
  Calls Tryz.prog 78 #[k] w λe w'=>e=.returned (.int .i64 (zA k))/\w'=w:=by
 by_cases h:0<=k/\k<=3
 .have h1:wi k 0 3=true:=BA.2 h;have:k=0\/k=1\/k=2\/k=3:=by omega
  rcases this with rfl|rfl|rfl|rfl <;>
  .go_in;go_wp2_with (go_at_call 90;refine(eC _ _ _ _).mono ?_;rintro e w' ⟨rfl,rfl⟩);go_ret;exact⟨rfl,rfl⟩
 have h1:wi k 0 3=false:=zG.2 h;go_in;go_wp2_with (go_at_call 90;refine(eC _ _ _ _).mono ?_;rintro e w' ⟨rfl,rfl⟩);go_ret;exact⟨AE (by rw[zA,jN (by omega),jN (by omega),jN (by omega),jN (by omega)]),rfl⟩
theorem MP(n:Int)(w:World):
  Calls Tryz.prog 104 #[n] w λe w'=>e=.returned (.tuple #[.int .i64 (pB n),.bool (wi n 1 32)])/\w'=w:=by
 by_cases h:1<=n/\n<=32
 .have h1:wi n 1 32=true:=BA.2 h;have l:=JQ n;have b:=λk h0=>dY (k:=k) h h0;obtain⟨c,hc⟩:∃c:Nat,pB n=c:=⟨(pB n).toNat,by omega⟩;rw[h1,hc];rw[hc]at l;simp only[hc]at b;clear hc;go_in;go_wp2_with (go_at_call 90;refine(eC _ _ _ _).mono ?_;rintro e w' ⟨rfl,i⟩;obtain rfl:=i.symm);go_loopw [4] (λp wr=>∃k:Nat,k<=c/\p=.int .i64 k/\wr=w) (λp _=>c-(intOf p).toNat);case atStart=>exact⟨0,Nat.zero_le _,rfl,by first|rfl|trivial⟩
  case round=>
   obtain⟨k,r,rfl,o⟩:=hrel;obtain rfl:=o.symm;have j:=b k (by omega) (by omega);clear b;by_cases q:k<c
   .have hs:zA k<n:=j.2 (by omega);clear j;go_wp2_with (go_at_call 78;refine(vH _ _).mono ?_;rintro e w' ⟨rfl,i⟩;obtain rfl:=i.symm);exact⟨⟨k+1,by omega,by go_num,by first|rfl|trivial⟩,by simp[intOf];omega⟩
   have hs:¬zA k<n:=λh=>by have:=j.1 h;omega
   have m:k=c:=by omega
   subst m;clear j;go_wp2_with (go_at_call 78;refine(vH _ _).mono ?_;rintro e w' ⟨rfl,i⟩;obtain rfl:=i.symm);go_ret2;exact⟨rfl,rfl⟩
 have h1:wi n 1 32=false:=zG.2 h;have h2:pB n=0:=by unfold pB;rw[jN (by rw[h1];simp)]
 rw[h1,h2];go_in;go_wp2_with (go_at_call 90;refine(eC _ _ _ _).mono ?_;rintro e w' ⟨rfl,rfl⟩);go_ret2;exact⟨rfl,rfl⟩
theorem iN(n:Int)(w:World):
  Calls Tryz.prog 56 #[n] w λe w'=>e=.returned (.tuple #[.int .i64 (runV n),.bool (wi n 33 512)])/\w'=w:=by
 by_cases h:33<=n/\n<=512
 .have h1:wi n 33 512=true:=BA.2 h;have h2:runV n=(n-1)/64+1:=by unfold runV;rw[jP h1]
  have h3:=wrp (n-1);have h4:=wrp ((n-1)/64+1);rw[h1,h2];clear h2;go_in;go_wp2_with (go_at_call 90;refine(eC _ _ _ _).mono ?_;rintro e w' ⟨rfl,rfl⟩);go_ret2;exact⟨rfl,rfl⟩
 have h1:wi n 33 512=false:=zG.2 h;have h2:runV n=0:=by unfold runV;rw[jN (by rw[h1];simp)]
 rw[h1,h2];go_in;go_wp2_with (go_at_call 90;refine(eC _ _ _ _).mono ?_;rintro e w' ⟨rfl,rfl⟩);go_ret2;exact⟨rfl,rfl⟩
theorem ZP(n:Int)(w:World):
  Calls Tryz.prog 55 #[n] w λe w'=>e=.returned (.tuple #[.int .i64 (lenV n),.bool (lenB n)])/\w'=w:=by
 by_cases h:1<=n/\n<=32
 .have h1:wi n 1 32=true:=BA.2 h;have h2:lenV n=zA (pB n):=by unfold lenV;rw[jP h1]
  have h3:lenB n=true:=BA.2 (by omega);rw[h2,h3];clear h2;go_in;go_wp2_with (first|(go_at_call 104;refine(MP _ _).mono ?_;rintro e w' ⟨rfl,rfl⟩)|(go_at_call 78;refine(vH _ _).mono ?_;rintro e w' ⟨rfl,rfl⟩));go_ret2;exact⟨rfl,rfl⟩
 have h1:wi n 1 32=false:=zG.2 h;have h2:lenV n=runV n*64:=by unfold lenV;rw[jN (by rw[h1];simp)]
 have h3:lenB n=wi n 33 512:=by rw[Bool.eq_iff_iff];unfold lenB;rw[BA,BA];omega
 have hb:=mJ n;have h4:=wrp (runV n*64);rw[h2,h3];clear h2 h3;go_in;go_wp2_with (first|(go_at_call 104;refine(MP _ _).mono ?_;rintro e w' ⟨rfl,rfl⟩)|(go_at_call 56;refine(iN _ _).mono ?_;rintro e w' ⟨rfl,rfl⟩));go_ret2;exact⟨rfl,rfl⟩
end

theorem pW(p c m:Int)(w:World):
  Calls Tryz.prog 88 #[.agg #[p,c,m]] w λe w'=>e=.returned (.int .i64 (xB p c m))/\Below w.heap.size w w':=by
 by_cases h1:mayB p c m=true
 .have hb:=JA.1 h1;have l:=TE (c:=c) (m:=m) (C:=12) (M:=8) (by omega) (by omega);have b:xB p c m=c+p+p*16+c*m:=by unfold xB;rw[jP h1]
  rw[b];clear b;have i:=wrp (c+p);have n:=wrp (p*16);have o:=wrp (c+p+p*16);have q:=wrp (c*m);have r:=wrp (c+p+p*16+c*m);go_in;go_wp2_with (go_at_call 86;refine(BC _ _ _ _).mono ?_;rintro e i ⟨rfl,rfl⟩);go_ret;exact⟨rfl,by go_grown⟩
 have j:mayB p c m=false:=by simpa using h1
 have b:xB p c m=0:=by unfold xB;rw[jN h1]
 rw[b];clear h1 b;go_in;go_wp2_with (go_at_call 86;refine(BC _ _ _ _).mono ?_;rintro e i ⟨rfl,rfl⟩);go_ret;exact⟨rfl,by go_grown⟩
theorem pC(p c m x:Int)(w:World):
  Calls Tryz.prog 44 #[.agg #[p,c,m],x] w λe w'=>e=.returned (.int .i64 (uA p c m x))/\Below w.heap.size w w':=by
 by_cases h1:mayB p c m=true;case neg=>
  have l:mayB p c m=false:=by simpa using h1
  have b:uA p c m x= -1:=by unfold uA;rw[jN (λh=>h1 h.1)]
  rw[b];clear h1 b;go_in;go_wp2_with (first|(go_at_call 86;refine(BC _ _ _ _).mono ?_;rintro e j ⟨rfl,rfl⟩)|(go_at_call 90;refine(eC _ _ _ _).mono ?_;rintro e w' ⟨rfl,rfl⟩));go_ret;exact⟨rfl,by go_grown⟩
 case pos=>
  have hb:=JA.1 h1;have wc:wrap64 (c-1)=c-1:=IntWalk.wrap64_in _ ⟨by omega,by omega⟩;by_cases i:wi x 0 (c-1)=true;case neg=>
   have q':wi x 0 (c-1)=false:=by simpa using i
   have b:uA p c m x= -1:=by unfold uA;rw[jN (λh=>i h.2)]
   rw[b];clear i b;go_in;go_wp2_with (first|(go_at_call 86;refine(BC _ _ _ _).mono ?_;rintro e j ⟨rfl,rfl⟩)|(go_at_call 90;refine(eC _ _ _ _).mono ?_;rintro e w' ⟨rfl,rfl⟩));go_ret;exact⟨rfl,by go_grown⟩
  have n:=BA.1 i;have b:uA p c m x=x:=by unfold uA;rw[jP ⟨h1,i⟩]
  rw[b];clear b;go_in;go_wp2_with (first|(go_at_call 86;refine(BC _ _ _ _).mono ?_;rintro e j ⟨rfl,rfl⟩)|(go_at_call 90;refine(eC _ _ _ _).mono ?_;rintro e w' ⟨rfl,rfl⟩));go_ret;exact⟨rfl,by go_grown⟩
theorem uE(p c m a i:Int)(w:World):
  Calls Tryz.prog 114 #[.agg #[p,c,m],a,i] w λe w'=>e=.returned (.int .i64 (bB p c m a i))/\Below w.heap.size w w':=by
 by_cases h1:mayB p c m=true;case neg=>
  have n:mayB p c m=false:=by simpa using h1
  have b:bB p c m a i= -1:=by unfold bB;rw[jN (λh=>h1 h.1)]
  rw[b];clear h1 b;go_in;go_wp2_with (first|(go_at_call 86;refine(BC _ _ _ _).mono ?_;rintro e l ⟨rfl,rfl⟩)|(go_at_call 90;refine(eC _ _ _ _).mono ?_;rintro e w' ⟨rfl,rfl⟩));go_ret;exact⟨rfl,by go_grown⟩
 case pos=>
  have hb:=JA.1 h1;have wc:wrap64 (p-1)=p-1:=IntWalk.wrap64_in _ ⟨by omega,by omega⟩;by_cases j:wi a 0 (p-1)=true;case neg=>
   have q':wi a 0 (p-1)=false:=by simpa using j
   have b:bB p c m a i= -1:=by unfold bB;rw[jN (λh=>j h.2.1)]
   rw[b];clear j b;go_in;go_wp2_with (first|(go_at_call 86;refine(BC _ _ _ _).mono ?_;rintro e l ⟨rfl,rfl⟩)|(go_at_call 90;refine(eC _ _ _ _).mono ?_;rintro e w' ⟨rfl,rfl⟩));go_ret;exact⟨rfl,by go_grown⟩
  have o:=BA.1 j;by_cases q1:wi i 0 15=true;case neg=>
   have q':wi i 0 15=false:=by simpa using q1
   have b:bB p c m a i= -1:=by unfold bB;rw[jN (λh=>q1 h.2.2)]
   rw[b];clear q1 b;go_in;go_wp2_with (first|(go_at_call 86;refine(BC _ _ _ _).mono ?_;rintro e l ⟨rfl,rfl⟩)|(go_at_call 90;refine(eC _ _ _ _).mono ?_;rintro e w' ⟨rfl,rfl⟩));go_ret;exact⟨rfl,by go_grown⟩
  have q:=BA.1 q1;have b:bB p c m a i=c+p+a*16+i:=by unfold bB;rw[jP ⟨h1,j,q1⟩]
  rw[b];clear b;have l:=wrp (c+p);have r:=wrp (a*16);have s:=wrp (c+p+a*16);have t:=wrp (c+p+a*16+i);go_in;go_wp2_with (first|(go_at_call 86;refine(BC _ _ _ _).mono ?_;rintro e l ⟨rfl,rfl⟩)|(go_at_call 90;refine(eC _ _ _ _).mono ?_;rintro e w' ⟨rfl,rfl⟩));go_ret;exact⟨rfl,by go_grown⟩
theorem gM(p c m x i:Int)(w:World):
  Calls Tryz.prog 118 #[.agg #[p,c,m],x,i] w λe w'=>e=.returned (.int .i64 (kC p c m x i))/\Below w.heap.size w w':=by
 by_cases h1:mayB p c m=true;case neg=>
  have n:mayB p c m=false:=by simpa using h1
  have b:kC p c m x i= -1:=by unfold kC;rw[jN (λh=>h1 h.1)]
  rw[b];clear h1 b;go_in;go_wp2_with (first|(go_at_call 86;refine(BC _ _ _ _).mono ?_;rintro e l ⟨rfl,rfl⟩)|(go_at_call 90;refine(eC _ _ _ _).mono ?_;rintro e w' ⟨rfl,rfl⟩));go_ret;exact⟨rfl,by go_grown⟩
 case pos=>
  have hb:=JA.1 h1;have wc:wrap64 (c-1)=c-1:=IntWalk.wrap64_in _ ⟨by omega,by omega⟩;have wd:wrap64 (m-1)=m-1:=IntWalk.wrap64_in _ ⟨by omega,by omega⟩;by_cases j:wi x 0 (c-1)=true;case neg=>
   have q':wi x 0 (c-1)=false:=by simpa using j
   have b:kC p c m x i= -1:=by unfold kC;rw[jN (λh=>j h.2.1)]
   rw[b];clear j b;go_in;go_wp2_with (first|(go_at_call 86;refine(BC _ _ _ _).mono ?_;rintro e l ⟨rfl,rfl⟩)|(go_at_call 90;refine(eC _ _ _ _).mono ?_;rintro e w' ⟨rfl,rfl⟩));go_ret;exact⟨rfl,by go_grown⟩
  have o:=BA.1 j;by_cases q1:wi i 0 (m-1)=true;case neg=>
   have q':wi i 0 (m-1)=false:=by simpa using q1
   have b:kC p c m x i= -1:=by unfold kC;rw[jN (λh=>q1 h.2.2)]
   rw[b];clear q1 b;go_in;go_wp2_with (first|(go_at_call 86;refine(BC _ _ _ _).mono ?_;rintro e l ⟨rfl,rfl⟩)|(go_at_call 90;refine(eC _ _ _ _).mono ?_;rintro e w' ⟨rfl,rfl⟩));go_ret;exact⟨rfl,by go_grown⟩
  have q:=BA.1 q1;have b:kC p c m x i=c+p+p*16+x*m+i:=by unfold kC;rw[jP ⟨h1,j,q1⟩]
  rw[b];clear b;have r:=TE (c:=x) (m:=m) (C:=11) (M:=8) (by omega) (by omega);have l:=wrp (c+p);have s:=wrp (p*16);have t:=wrp (c+p+p*16);have y:=wrp (x*m);have z:=wrp (c+p+p*16+x*m);have B:=wrp (c+p+p*16+x*m+i);go_in;go_wp2_with (first|(go_at_call 86;refine(BC _ _ _ _).mono ?_;rintro e l ⟨rfl,rfl⟩)|(go_at_call 90;refine(eC _ _ _ _).mono ?_;rintro e w' ⟨rfl,rfl⟩));go_ret;exact⟨rfl,by go_grown⟩
def splitB (p c m a:Int):Bool:=mayB p c m&&wi a 0 (p*64-1)
theorem ygw(x:Int)(h0:0<=x)(h1:x<9223372036854775808):bits .and .i64 x 63=x%64:=
 bits_mask .i64 63 (by decide) (λn a b=>IntWalk.i64_in _ ⟨by omega,by omega⟩) 6 (by decide) x h0 h1
theorem z0r(p c m a:Int)(w:World):
  Calls Tryz.prog 126 #[.agg #[p,c,m],a] w λe w'=>e=.returned (.tuple (if splitB p c m a=true then #[.int .i64 (a/64),.int .i64 (a%64),.bool true] else #[.int .i64 0,.int .i64 0,.bool false]))/\Below w.heap.size w w':=by
 by_cases h1:mayB p c m=true;case neg=>
  have j:mayB p c m=false:=by simpa using h1
  have b:splitB p c m a=false:=by unfold splitB;rw[j];rfl
  rw[b,jN Bool.false_ne_true];clear h1 b;go_in;go_wp2_with (first|(go_at_call 86;refine(BC _ _ _ _).mono ?_;rintro e l ⟨rfl,rfl⟩)|(go_at_call 90;refine(eC _ _ _ _).mono ?_;rintro e w' ⟨rfl,rfl⟩));go_ret3;exact⟨rfl,by go_grown⟩
 case pos=>
  have hb:=JA.1 h1;have l:=wrp (p*64);have q:=wrp (p*64-1);by_cases i:wi a 0 (p*64-1)=true;case neg=>
   have q':wi a 0 (p*64-1)=false:=by simpa using i
   have b:splitB p c m a=false:=by unfold splitB;rw[q',Bool.and_false]
   rw[b,jN Bool.false_ne_true];clear i b;go_in;go_wp2_with (first|(go_at_call 86;refine(BC _ _ _ _).mono ?_;rintro e l ⟨rfl,rfl⟩)|(go_at_call 90;refine(eC _ _ _ _).mono ?_;rintro e w' ⟨rfl,rfl⟩));go_ret3;exact⟨rfl,by go_grown⟩
  have o:=BA.1 i;have b:splitB p c m a=true:=by unfold splitB;rw[h1,i];rfl
  rw[b,jP rfl];clear b;have n:=ygw a (by omega) (by omega);go_in;go_wp2_with (first|(go_at_call 86;refine(BC _ _ _ _).mono ?_;rintro e l ⟨rfl,rfl⟩)|(go_at_call 90;refine(eC _ _ _ _).mono ?_;rintro e w' ⟨rfl,rfl⟩));go_ret3;exact⟨rfl,by go_grown⟩
theorem nX(p i k:Int)(w:World)(j:0<=p/\p<=64)(hi:0<=i/\i<=16):
  Calls Tryz.prog 77 #[p,i,k] w λe w'=>e=.returned (.int .i64 (p*64+i*zA k))/\w'=w:=by
 have hs:=GH k;have b:=TE (c:=i) (m:=zA k) (C:=16) (M:=32) (by omega) (by omega);have l:=wrp (p*64);have n:=wrp (i*zA k);have o:=wrp (p*64+i*zA k);go_in;go_wp2_with (go_at_call 78;refine(vH _ _).mono ?_;rintro e w' ⟨rfl,rfl⟩);go_ret;exact⟨rfl,rfl⟩
section

open RowKit Go.ChangeShapes Go.WideShapes Go.ChangeAt

theorem FP{b:Type}(f:b->List Value)(sz:Nat)(i:∀a,(f a).length=sz)(xs:List b):(xs.flatMap f).length=xs.length*sz:=by
 induction xs with
 |nil=>simp
 |cons x xs j=>rw[List.flatMap_cons,List.length_append,i,j,List.length_cons,Nat.add_mul,Nat.one_mul,Nat.add_comm]
theorem gN{l:Type}(f:l->List Value)(sz:Nat)(b:∀a,(f a).length=sz)(xs:List l)(i j:Nat)(hi:i<xs.length)(n:j<sz):(xs.flatMap f)[i*sz+j]?=(f xs[i])[j]?:=by
 induction xs generalizing i with
 |nil=>simp at hi
 |cons x xs m=>
  rw[List.flatMap_cons]
  cases i with
  |zero=>rw[List.getElem?_append_left (by rw[b];omega)];simp
  |succ i=>
   rw[List.getElem?_append_right (by rw[b,Nat.add_mul,Nat.one_mul];omega),b,show (i+1)*sz+j-sz=i*sz+j from by rw[Nat.add_mul,Nat.one_mul];omega]
   simpa using m i (by simpa using hi)
section

variable {H:Type}{enc:TypeId×Value->H}{P:Program}{w:World}

theorem open_list{y:Type}(f:y->List Value)(m:y->Prop){t e:TypeId}{v:Value}{sz:Nat}(C:P.underlying t=some (.slice e))(ce:P.cellsOf e=sz)(o:0<sz)(F:∀a,(f a).length=sz)(D:∀es,es.length=sz->Rd enc P w e es->∃a,f a=es/\m a) {r:Reach}{J:Nat}{d:DataW H}{ps:List MemPlace} (N:Value.okWide P w r J t v) (h0:DataW.Trod enc P w 0 (λ_=>true) true t v d ps):
  ∃xs:List y,RdS w sz v xs.length (xs.flatMap f)/\∀a∈xs,m a:=by
 obtain⟨a0,len,cap,rfl⟩:=okWide_slice C N;have h:=CV h0;by_cases G:len=0
 .subst G;refine⟨[],?_,λa z=>by cases z⟩;have n:cap<=maxLen:=by
   rcases YX C h with h0|⟨a,I,E,h0,h1,h2,h3⟩
   .simp[Value.cells]at h0;omega
   simp[Value.cells]at h0;obtain⟨rfl,_,rfl⟩:=h0;exact h2
  exact⟨a0,cap,rfl,Nat.zero_le _,by simp only[maxLen]at n;omega,by simp,λh=>absurd rfl h⟩
 obtain⟨b,p,rfl,hb,n,q,B⟩:=z2c C ce o h G;have key:∀i:Fin len,∃a,m a/\∀j,j<sz->w.cell? ⟨b,p+i*sz+j,.none⟩=(f a)[j]?:=λi=>by obtain⟨es,h1,h2,h3⟩:=B i (by have:=i.2;omega);obtain⟨a,rfl,M⟩:=D es h1 h2;exact⟨a,M,h3⟩
 let xs:List y:=List.ofFn λi:Fin len=>Classical.choose (key i);have l:xs.length=len:=List.length_ofFn;have s:∀i (hi:i<xs.length),xs[i]=Classical.choose (key ⟨i,l▸hi⟩):=λi hi=>List.getElem_ofFn _;refine⟨xs,?_,λa z=>?_⟩
 .rw[l];refine⟨_,cap,rfl,n,by simp only[maxLen]at q;omega,by rw[FP f sz F,l],λ_=>⟨b,p,rfl,hb,λi hi=>?_⟩⟩;have h1:i/sz<xs.length:=by rw[l];exact Nat.div_lt_of_lt_mul (by rw[Nat.mul_comm];exact hi)
  have h2:=(Classical.choose_spec (key ⟨i/sz,l▸h1⟩)).2 (i%sz) (Nat.mod_lt _ o);have h3:=gN f sz F xs (i/sz) (i%sz) h1 (Nat.mod_lt _ o);rw[<-s _ h1,<- h3]at h2;have L:i/sz*sz+i%sz=i:=by rw[Nat.mul_comm];exact Nat.div_add_mod i sz
  have h4:w.cell? ⟨b,p+i/sz*sz+i%sz,.none⟩=(xs.flatMap f)[i/sz*sz+i%sz]?:=h2;rw[Nat.add_assoc,L]at h4;exact h4
 obtain⟨i,hi,rfl⟩:=List.getElem_of_mem z;rw[s i hi];exact(Classical.choose_spec (key ⟨i,l▸hi⟩)).1
def RdZ (k:IntKind) (w:World) (v:Value) (zs:List Int):Prop:=RdS w 1 v zs.length (zs.map (.int k))
end

theorem RdZ.cells{k:IntKind}{w:World}{v:Value}{zs:List Int}(h:RdZ k w v zs):∃ao cap,v=.slice ao zs.length cap/\zs.length<=cap/\(cap:Int)<=9223372036854775807/\(zs≠ []->∃b f,ao=some ⟨b,f,.none⟩/\b<w.heap.size/\∀i (hi:i<zs.length),w.cell? ⟨b,f+i,.none⟩=some (.int k zs[i])):=by
 obtain⟨ao,cap,e,h1,h2,_,h4⟩:=h;refine⟨ao,cap,e,h1,h2,λm=>?_⟩;obtain⟨b,f,l,j,hc⟩:=h4 (λh=>m (List.eq_nil_of_length_eq_zero h));refine⟨b,f,l,j,λi hi=>(hc i (by omega)).trans ?_⟩;simp[hi]
theorem RdZ.below{k:IntKind}{w w':World}{v:Value}{zs:List Int}(h:RdZ k w v zs)(hb:Below w.heap.size w w'):RdZ k w' v zs:=RdS.below h hb
end

def RdE (w:World) (v:Value) (es:List Ev):Prop:=RdS w 8 v es.length (es.flatMap λe=>e.cells.toList)
theorem mT(e:Ev):e.cells.toList.length=8:=rfl
theorem RdE.below{w w':World}{v:Value}{es:List Ev}(h:RdE w v es)(hb:Below w.heap.size w w'):RdE w' v es:=RdS.below h hb
theorem RdE.take{w:World}{ao:Option Addr}{cap:Nat}{es:List Ev}(h:RdE w (.slice ao es.length cap) es)(n:Nat)(f:n<=es.length):RdE w (cutV ao 0 n cap 8) (es.take n):=by
 have hc:=RdS.cut (l:=0) (h:=n) h (Nat.zero_le _) f;unfold RdE;have b:(es.take n).length=n:=by rw[List.length_take];omega
 rw[b];have e:(es.take n).flatMap (λe=>e.cells.toList)=((es.flatMap λe=>e.cells.toList).drop (0*8)).take ((n-0)*8):=by
  rw[Nat.zero_mul,List.drop_zero,Nat.sub_zero];have h2:es.flatMap (λe=>e.cells.toList)=(es.take n).flatMap (λe=>e.cells.toList)++(es.drop n).flatMap (λe=>e.cells.toList):=by rw[<-List.flatMap_append,List.take_append_drop]
  have h3:((es.take n).flatMap (λe=>e.cells.toList)).length=n*8:=by rw[FP _ 8 mT,b]
  rw[h2,<- h3,List.take_left]
 rw[e];simpa using hc
section

open RowKit Fl

theorem ye8(x y:Nat):FloatKind.f64.format.order x y=Ieee.double.order x y:=rfl
abbrev F64 (x:Nat):Value:=.float .f64 x
theorem z7u(x:Nat)(w:World):(Op.unary UnOp.neg (.float .f64 x)).run Tryz.prog w=.ok (.float .f64 (x ^^^ 2^63)) w:=rfl
theorem z2t(x:Nat)(w:World):Calls Tryz.prog 154 #[F64 x] w λe w'=>e=.returned (.bool (nan x))/\w'=w:=by
 go_in;go_wp2;go_ret;refine⟨RG ?_,rfl⟩;rw[ye8,bne,YV,Fl.IY,Bool.not_not]
theorem zp1(x:Nat)(w:World):Calls Tryz.prog 155 #[F64 x,.int .i64 (-1)] w λe w'=>e=.returned (.bool (decide (mD x=1)))/\w'=w:=by
 have b:=z7u x;go_in;go_wp2;go_ret;refine⟨RG ?_,rfl⟩;rw[<-z18,<- IM];rfl
theorem zps(x:Nat)(w:World):Calls Tryz.prog 155 #[F64 x,.int .i64 1] w λe w'=>e=.returned (.bool (decide (mD x=5)))/\w'=w:=by
 go_in;go_wp2;go_ret;refine⟨RG ?_,rfl⟩;rw[<-NW,<- IM];rfl
theorem lt0(x:Nat):(FloatKind.f64.format.order x 0==some .lt)=(!nan x&&decide (iv x<0)):=(z5e x 0).trans (wZ x)
theorem gt0(x:Nat):(FloatKind.f64.format.order x 0==some .gt)=(!nan x&&decide (0<iv x)):=(IM x 0).trans (z9v x)
theorem aK(x:Nat)(w:World):Calls Tryz.prog 143 #[F64 x] w λe w'=>e=.returned (.int .i64 (mD x))/\w'=w:=by
 have i:=lt0 x;have b:=gt0 x;go_in;go_wp2_with (first|(go_at_call 154;refine(z2t _ _).mono ?_;rintro e j ⟨rfl,rfl⟩)|(go_at_call 155;(with_reducible refine(zp1 _ _).mono ?_);rintro e j ⟨rfl,rfl⟩)|(go_at_call 155;(with_reducible refine(zps _ _).mono ?_);rintro e j ⟨rfl,rfl⟩));all_goals go_ret
 all_goals refine⟨AE ?_,rfl⟩
 all_goals clear i b
 all_goals first
  |exact(XW.2 (by assumption)).symm
  |(have h:=z4r (x:=x) (by assumption);have l:(0:Int)<(INF:Int):=(by decide);omega)
theorem gtxy(x y:Nat):(FloatKind.f64.format.order x y==some .gt)=gtB x y:=IM x y
theorem eqxy(x y:Nat):(FloatKind.f64.format.order x y==some .eq)=eqB x y:=YV x y
theorem yed(x:Nat):(FloatKind.f64.format.order x 4607182418800017408==some .gt||FloatKind.f64.format.order x 4607182418800017408==some .eq)=(!nan x&&decide ((ONE:Int)<=iv x)):=by
 have h1:=gtxy x ONE;have h2:=eqxy x ONE;unfold ONE at h1 h2;rw[h1,h2];show (gtB x ONE||eqB x ONE)=_;unfold gtB eqB;rw[xY,yfe];cases nan x
 .simp only[Bool.not_false,Bool.true_and];rw[Bool.eq_iff_iff];simp only[Bool.or_eq_true,decide_eq_true_eq];omega
 rfl
theorem z4a(x:Nat)(n:Int)(y: -9223372036854775808<=n)(s:n<=9223372036854775807)(w:World):Calls Tryz.prog 120 #[F64 x,n] w λe w'=>e=.returned (.int .i64 (jD x n))/\w'=w:=by
 have j:=lt0 x;have i:=yed x;have b:=XW (x:=x);unfold jD;by_cases h1:n<1
 .rw[jP (.inl h1)];clear j i b;go_in;go_wp2_with (go_at_call 143;refine(aK _ _).mono ?_;rintro e p ⟨rfl,rfl⟩);go_ret;exact⟨rfl,rfl⟩
 cases h2:nan x
 .have o:mD x≠0:=λh=>by rw[b.1 h]at h2;cases h2
  have q:(mD x==0)=false:=by simpa using o
  rw[h2]at j i;by_cases h3:iv x<0
  .rw[jP (.inr (.inr h3))];rw[jT h3]at j;clear i b h3;go_in;go_wp2_with (go_at_call 143;refine(aK _ _).mono ?_;rintro e p ⟨rfl,rfl⟩);go_ret;exact⟨rfl,rfl⟩
  rw[jN (by simp only[Bool.false_eq_true,false_or,not_or];exact⟨h1,h3⟩)];rw[jF h3]at j;by_cases h4:(ONE:Int)<=iv x
  .rw[jP h4];rw[jT h4]at i;clear b h3 h4;go_in;go_wp2_with (go_at_call 143;refine(aK _ _).mono ?_;rintro e p ⟨rfl,rfl⟩);go_ret;exact⟨rfl,rfl⟩
  rw[jN h4];rw[jF h4]at i;obtain⟨r,m,l,B⟩:=zye (x:=x) (n:=n) (by omega) s (by omega) (by omega);generalize (T (EE (rung x) (R n.natAbs 0)):Int)=t at*;have z:=λw:World=>run_float_arith (P:=Tryz.prog) w .mul 33 .f64 _ _ r m;have hc:=λw:World=>run_convert_float_int (P:=Tryz.prog) w 33 3 .f64 .i64 r t (by kernel_rfl) Tryz.underlying3 l;clear b h3 h4 m l;go_in;go_wp2_with (go_at_call 143;refine(aK _ _).mono ?_;rintro e p ⟨rfl,rfl⟩);all_goals go_ret
  all_goals refine⟨AE ?_,rfl⟩
  all_goals omega
 have o:mD x=0:=b.2 h2;have q:(mD x==0)=true:=by simpa using o
 rw[jP (.inr (.inl rfl))];clear j i b o;go_in;go_wp2_with (go_at_call 143;refine(aK _ _).mono ?_;rintro e p ⟨rfl,rfl⟩);go_ret;exact⟨rfl,rfl⟩
end

section

attribute [local go_sem ↓] wp_at_zero wp_at_succ

theorem qJ(k:Int)(w:World):
  Calls Tryz.prog 65 #[k] w λe w'=>e=.returned (.int .i64 (zA k))/\w'=w:=by
 by_cases h:0<=k/\k<=3
 .have:k=0\/k=1\/k=2\/k=3:=by omega
  rcases this with rfl|rfl|rfl|rfl <;>
  .go_in;go_wp2;go_ret;exact⟨rfl,rfl⟩
 have b:zA k=0:=by rw[zA,jN (by omega),jN (by omega),jN (by omega),jN (by omega)]
 rw[b];have hc:k<0\/(0<=k/\4<=k):=by omega
 clear h b;rcases hc with hc|⟨hc,i⟩
 .go_in;go_wp2;go_ret;exact⟨rfl,rfl⟩
 go_in;go_wp2;go_ret;exact⟨rfl,rfl⟩
theorem cO(n:Int)(w:World):
  Calls Tryz.prog 58 #[n] w λe w'=>e=.returned (.tuple #[.int .i64 (pB n),.bool (wi n 1 32)])/\w'=w:=by
 by_cases h:1<=n/\n<=32
 .have h1:wi n 1 32=true:=BA.2 h;have j:=JQ n;have b:=λk h0=>dY (k:=k) h h0;obtain⟨c,hc⟩:∃c:Nat,pB n=c:=⟨(pB n).toNat,by omega⟩;rw[h1,hc];rw[hc]at j;simp only[hc]at b;clear hc;obtain⟨h2,h3⟩:=h;go_in;go_wp2_with fail;go_loopw [4] (λp wr=>∃k:Nat,k<=c/\p=.int .i64 k/\wr=w) (λp _=>c-(intOf p).toNat);case atStart=>exact⟨0,Nat.zero_le _,rfl,by first|rfl|trivial⟩
  case round=>
   obtain⟨k,s,rfl,o⟩:=hrel;obtain rfl:=o.symm;have i:=b k (by omega) (by omega);clear b;by_cases r:k<c
   .have hs:zA k<n:=i.2 (by omega);clear i;go_wp2_with (go_at_call 65;refine(qJ _ _).mono ?_;rintro e w' ⟨rfl,m⟩;obtain rfl:=m.symm);exact⟨⟨k+1,by omega,by go_num,by first|rfl|trivial⟩,by simp[intOf];omega⟩
   have hs:¬zA k<n:=λh=>by have:=i.1 h;omega
   have l:k=c:=by omega
   subst l;clear i;go_wp2_with (go_at_call 65;refine(qJ _ _).mono ?_;rintro e w' ⟨rfl,m⟩;obtain rfl:=m.symm);go_ret2;exact⟨rfl,rfl⟩
 have h1:wi n 1 32=false:=zG.2 h;have h2:pB n=0:=by unfold pB;rw[jN (by rw[h1];simp)]
 rw[h1,h2];have hc:n<1\/(1<=n/\32<n):=by omega
 clear h1 h2 h;rcases hc with hc|⟨hc,q⟩
 .go_in;go_wp2;go_ret2;exact⟨rfl,rfl⟩
 go_in;go_wp2;go_ret2;exact⟨rfl,rfl⟩
theorem AR(n:Int)(w:World):
  Calls Tryz.prog 59 #[n] w λe w'=>e=.returned (.tuple #[.int .i64 (runV n),.bool (wi n 33 512)])/\w'=w:=by
 by_cases h:33<=n/\n<=512
 .have h1:wi n 33 512=true:=BA.2 h;have h2:runV n=(n+64-1)/64:=by unfold runV;rw[jP h1];omega
  have i:=wrp (n+64);have j:=wrp (n+64-1);have l:IntKind.i64.wrap ((n+64-1).tdiv 64)=(n+64-1)/64:=by rw[Int.tdiv_eq_ediv_of_nonneg (by omega)];exact IntWalk.i64_in _ ⟨by omega,by omega⟩
  rw[h1,h2];clear h2;obtain⟨h3,h4⟩:=h;go_in;go_wp2;go_ret2;exact⟨rfl,rfl⟩
 have h1:wi n 33 512=false:=zG.2 h;have h2:runV n=0:=by unfold runV;rw[jN (by rw[h1];simp)]
 rw[h1,h2];have hc:n<33\/(33<=n/\512<n):=by omega
 clear h1 h2 h;rcases hc with hc|⟨hc,b⟩
 .go_in;go_wp2;go_ret2;exact⟨rfl,rfl⟩
 go_in;go_wp2;go_ret2;exact⟨rfl,rfl⟩
theorem NK(n:Int)(w:World):
  Calls Tryz.prog 19 #[n] w λe w'=>e=.returned (.tuple #[.int .i64 (lenV n),.bool (lenB n)])/\w'=w:=by
 by_cases h:1<=n/\n<=32
 .have h1:wi n 1 32=true:=BA.2 h;have h2:lenV n=zA (pB n):=by unfold lenV;rw[jP h1]
  have h3:lenB n=true:=BA.2 (by omega);rw[h2,h3];clear h2;go_in;go_wp2_with (first|(go_at_call 58;refine(cO _ _).mono ?_;rintro e w' ⟨rfl,rfl⟩)|(go_at_call 65;refine(qJ _ _).mono ?_;rintro e w' ⟨rfl,rfl⟩));go_ret2;exact⟨rfl,rfl⟩
 have h1:wi n 1 32=false:=zG.2 h;have h2:lenV n=runV n*64:=by unfold lenV;rw[jN (by rw[h1];simp)]
 have h3:lenB n=wi n 33 512:=by rw[Bool.eq_iff_iff];unfold lenB;rw[BA,BA];omega
 have hb:=mJ n;have h4:=wrp (runV n*64);rw[h2,h3];clear h2 h3;go_in;go_wp2_with (first|(go_at_call 58;refine(cO _ _).mono ?_;rintro e w' ⟨rfl,rfl⟩)|(go_at_call 59;refine(AR _ _).mono ?_;rintro e w' ⟨rfl,rfl⟩));go_ret2;exact⟨rfl,rfl⟩
end

end Go.Proofs.YtkilokkopbajkaaGreat
