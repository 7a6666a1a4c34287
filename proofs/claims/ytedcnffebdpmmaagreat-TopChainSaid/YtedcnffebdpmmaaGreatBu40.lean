/- One adopts the one ahead of it, and is killed in the midst, one after another: the walk of the law. -/
import Derived.Test.YtedcnffebdpmmaaGreatBu38

import Derived.Test.YtedcnffebdpmmaaGreatBu39

set_option linter.all false
set_option maxHeartbeats 8000000
set_option maxRecDepth 100000
namespace Go.Proofs.YtedcnffebdpmmaaGreat

open Go.RowKit

attribute [local go_sem ↓] Go.wp_at_zero Go.wp_at_succ

def chF (s:Sh) (us:List Int) (c:Nat):Nat:=if (c:Int) < s.c - 1/\c - 1 < us.length then (us.getD (c - 1) 0).toNat % (z5k s + 1) else z5k s
theorem chF_le(s:Sh)(b:List Int)(c:Nat):chF s b c<=z5k s:=by
 unfold chF;split
 ·exact Nat.le_of_lt_succ (Nat.mod_lt _ (by omega))
 exact Nat.le_refl _
theorem chF_last{s:Sh}(b:List Int){c:Nat}(h:(c:Int)=s.c-1):chF s b c=z5k s:=by
 unfold chF;rw[if_neg (by omega)]
theorem run_field_rule1(a b:Int)(w:World):(Instr.field 55 (.agg #[a,b]) 1).run Tryz.prog w= .ok (.int .i64 b) w:=by kernel_rfl
attribute [local go_sem ↓] run_field_rule1

theorem uAt{W:World}{k:IntKind}{l:List Int}{q:Option Addr}{f:Nat}(hu:RdZ k W (.slice q l.length f) l){j:Nat}(z:j<l.length):∃ n i,q=some ⟨n,i,.none⟩/\∀ X,Below W.heap.size W X->X.cell? ⟨n,i+j,.none⟩=some (.int k l[j])/\n<X.heap.size:=by
 obtain⟨ao,cap,e,h1,h2,h3,h4⟩:=hu;injection e with r B C;subst r;obtain⟨b,m,s,t,y⟩:=h4 (by omega);refine⟨b,m,s,fun X p=>⟨?_,Nat.lt_of_lt_of_le t p.size⟩⟩;have o:=y j (by omega);rw[List.getElem?_map,List.getElem?_eq_getElem z]at o;exact zai p _ _ _ o
theorem chN_eq(s:Sh)(f:Nat->Nat)(d:Wd)(j:Nat):chN s f d (j+1)=if (j:Int)+1<s.c-1 then(((((chN s f d j).act s ⟨1,(j:Int)+1,0,0,0,0⟩).1.act s ⟨2,(j:Int)+1,4,j,0,0⟩).1.goN s ((j:Int)+1) (f (j+1))).act s ⟨4,(j:Int)+1,0,0,0,0⟩).1
  else(((chN s f d j).act s ⟨1,(j:Int)+1,0,0,0,0⟩).1.act s ⟨2,(j:Int)+1,4,j,0,0⟩).1.goN s ((j:Int)+1) (f (j+1)):=by
 show chS s f (chN s f d j) (j+1)=_;unfold chS chD;rw[show ((j+1:Nat):Int)=(j:Int)+1 by omega,show (j:Int)+1-1=(j:Int) by omega]
theorem chain_any(s:Sh)(xs:List Ch)(E:List Int)(v u:Value)(W:World)(hr:RdS W 6 v xs.length (xs.flatMap Ch.cells))(hu:RdZ .u16 W u E)(bx:∀ a ∈ E,0<=a/\a<=65535):
  Calls Tryz.prog 3 #[.agg #[s.p,s.c,s.m],v,u] W fun e w'=>e= .returned (.bool true)/\Below W.heap.size W w':=by
 obtain⟨ao,cap,rfl,fd,i1,_,_⟩:=id hr;obtain⟨uo,hh,rfl,ev,hg,_,_⟩:=id hu;obtain⟨n,hn,fn⟩:=hidv xs.length;rw[<-fn]at fd hr ⊢;clear fn;have c7:=hd' (fun i (hi:i<xs.length)=>chAt hn.out hr hi);clear hr;have gv:=hd' (fun j (hj:j<E.length)=>uAt hu hj);replace bx:=hd' fun j (hj:j<E.length)=>bx E[j] (List.getElem_mem hj);clear hu;have g9:=hd' (fun Y=>yhf Y);have R:∀ Y,Calls Tryz.prog 5 #[.slice ao n cap,.int .i64 600] Y fun e w'=>e= .returned (.bool (decide (n<=600)))/\w'=Y:=fun Y=>room22 ao n cap 600 (by omega) Y;have fa:=(Below.refl W.heap.size W).alloc lr (.cells #[s.p,s.c,s.m] 23);have t0:zaa (W.alloc (.cells #[s.p,s.c,s.m] 23)) W.heap.size #[s.p,s.c,s.m] 23:=heap_alloc_new _ _;go_in;go_upto_region 3 with(first|(go_at_call 4;(with_reducible refine(g9.out _).mono ?_);rintro r w1 ⟨rfl,ef⟩));have t1:=t0.below ef;have U:=zab fa ef;clear t0 fa ef;obtain⟨H,hH,f4⟩:=hidv W.heap.size;rw[<-f4]at t1 ⊢;clear f4;have lH:=t1.lt;obtain⟨c0,c1,c2⟩:=ci3 s.p s.c s.m t1.cell;by_cases L:¬ n<=600
 ·rw[decide_eq_false L]at R;replace R:=hd' R;clear c7 L;go_wp2_with (first|(go_at_call 5;(with_reducible refine(R.out _).mono ?_);rintro r w2 ⟨rfl,b3⟩;obtain rfl:=b3.symm));go_returns;exact⟨rfl,U⟩
 replace L:=Decidable.not_not.1 L;rw[decide_eq_true L]at R;replace R:=hd' R;obtain⟨m,hm,fm⟩:=hidv E.length;rw[<-fm]at ev ⊢;clear fm;by_cases bf:s.c<3\/12<m
 ·clear c7 L bx;by_cases eh:s.c<3
  ·clear bf;go_wp2_with (first|(go_at_call 5;(with_reducible refine(R.out _).mono ?_);rintro r w2 ⟨rfl,b3⟩;obtain rfl:=b3.symm));go_returns;exact⟨rfl,U⟩
  have hl:(12:Int)<(m:Int):=by omega
  clear bf;go_wp2_with (first|(go_at_call 5;(with_reducible refine(R.out _).mono ?_);rintro r w2 ⟨rfl,b3⟩;obtain rfl:=b3.symm));go_returns;exact⟨rfl,U⟩
 have eh:¬ s.c<3:=fun e=>bf (.inl e);have e9:¬ (12:Int)<(m:Int):=fun e=>bf (.inr (by omega));clear bf;by_cases O:¬ mayB s.p s.c s.m=true
 ·have eg:=hd' (fun Y=>yfo s Y O);clear c7 L O bx;go_wp2_with (first|(go_at_call 5;(with_reducible refine(R.out _).mono ?_);rintro r w2 ⟨rfl,b3⟩;obtain rfl:=b3.symm)|(go_at_call 6;(with_reducible refine(eg.out _).mono ?_);rintro r w3 ⟨b1,rfl⟩));go_returns;exact⟨rfl,zab U b1⟩
 replace O:=Decidable.not_not.1 O;have i0:=zar.1 O;have g4:=mostV_le O;have fy:=hd' (show 2<s.c by omega);have gm:decide (s.c<3)=false:=decide_eq_false eh;have ff:decide (12<(m:Int))=false:=decide_eq_false e9;clear eh e9;have c5:=ai_new O;have f8:=hd' (fun i=>ai_weak (ai_acts0 c5 (xs.take i)) (show 0+(xs.take i).length<=600 by rw[List.length_take,<- hn.out];omega));have eg:=hd' (law_begin (W0:=W) (Kp:=kp1 H (.cells #[s.p,s.c,s.m] 23 (0,0))) O U (fun k v hk=>by obtain⟨rfl,rfl⟩:=hk;exact t1));go_upto_region 8 with(first|(go_at_call 5;(with_reducible refine(R.out _).mono ?_);rintro r w2 ⟨rfl,b3⟩;obtain rfl:=b3.symm)|(go_at_call 6;(with_reducible refine eg.out.mono ?_);rintro r w3 ⟨g,vv,rfl,bz,b1⟩));generalize f5:kp1 H (.cells #[s.p,s.c,s.m] 23 (0,0))=Kp at *;have bv:Hid (∀ (X:World) (d:Wd),LawAt W g s Kp d X->X.cell? ⟨H,0,.none⟩=some (.int .i64 s.p)/\X.cell? ⟨H,1,.none⟩=some (.int .i64 s.c)/\X.cell? ⟨H,2,.none⟩=some (.int .i64 s.m)/\H<X.heap.size):=hd' fun X d hX=>by have h1:=hX.keep (k:=H) (v:= .cells #[s.p,s.c,s.m] 23 (0,0)) (by rw[<-f5];exact⟨rfl,rfl⟩);exact⟨zac h1 0,zac h1 1,zac h1 2,(Array.getElem?_eq_some_iff.1 h1).1⟩
 have g1:Hid (acts0 s (zde s) (xs.take 0)=zde s):=hd' rfl;clear f5 c0 c1 c2 t1 U b1 lH gm ff;go_wp2;go_loopw [9] (fun v9 wr=>∃ i:Nat,i<=n/\v9= .int .i64 i/\LawAt W g s Kp (acts0 s (zde s) (xs.take i)) wr) (fun v9 _=>n-(intOf v9).toNat);case atStart=>exact⟨0,Nat.zero_le _,rfl,by rw[g1.out];exact bz⟩
 case round=>
  clear bz;obtain⟨i,i3,rfl,D⟩:=hrel;have b:=f8.out i;have gp:(0:Int)<=(i:Int):=by omega
  by_cases hi:i<n
  ·have i2:(i:Int)<(n:Int):=by omega
   have h7:IntKind.i64.wrap ((i:Int)+1)=(i:Int)+1:=IntWalk.i64_in _ ⟨by omega,by omega⟩;have fj:i<xs.length:=hn.out ▸ hi;have c6:=acts0_take (s:=s) (d:=zde s) fj;obtain⟨gb,bm,rfl,c9⟩:=c7.out i fj;obtain⟨hq,zl⟩:=c9 W.heap.size wr lr D.ab;generalize acts0 s (zde s) (xs.take i)=d at *;generalize i8:xs[i]=xc at *;obtain⟨ck,cc,co,ca,cn,cb⟩:=xc;dsimp only at c6;have z0:wr.cell? ⟨gb,bm+i*6,.none⟩=some (.int .i64 ck):=hq 0 (by omega);have z1:wr.cell? ⟨gb,bm+i*6+1,.none⟩=some (.int .i64 cc):=hq 1 (by omega);have z2:wr.cell? ⟨gb,bm+i*6+2,.none⟩=some (.int .i64 co):=hq 2 (by omega);have z3:wr.cell? ⟨gb,bm+i*6+3,.none⟩=some (.int .i64 ca):=hq 3 (by omega);have z4:wr.cell? ⟨gb,bm+i*6+4,.none⟩=some (.int .i64 cn):=hq 4 (by omega);have z5:wr.cell? ⟨gb,bm+i*6+5,.none⟩=some (.float .f64 cb):=hq 5 (by omega);have ej:=hd' (fun X=>znm ⟨ck,cc,co,ca,cn,cb⟩ X);replace ej:Hid (∀ X,Calls Tryz.prog 8 #[.agg #[ck,cc,co,ca,cn,.float .f64 cb]] X fun e w'=>e= .returned (.agg #[ck,cc,co,ca,cn,.float .f64 cb])/\Below X.heap.size X w'):=ej;have bu:=hd' fun X (hb:Below wr.heap.size wr X)=>law_do (D.below hb) b.1 (by omega) ck cc co ca cn cb;clear hq c9 b;by_cases bs:cc=0
   ·have b7:acts0 s (zde s) (xs.take (i+1))=(d.act s ⟨ck,cc,co,ca,cn,cb⟩).1:=by rw[c6,if_pos bs]
    have gl:(cc==0)=true:=by rw[bs];rfl
    replace b7:=hd' b7;clear c6 bs;go_wp2_with (first|(go_at_call 8;(with_reducible refine(ej.out _).mono ?_);rintro r w6 ⟨rfl,gd⟩)|(go_at_call 7;(with_reducible refine(bu.out _ gd).mono ?_);rintro r w7 ⟨rfl,ba⟩));exact⟨⟨i+1,by omega,by go_num,by rw[b7.out];exact ba⟩,by simp only[intOf];omega⟩
   have b7:acts0 s (zde s) (xs.take (i+1))=d:=by rw[c6,if_neg bs]
   have gl:(cc==0)=false:=by simpa using bs
   clear c6 bs;go_wp2_with fail;exact⟨⟨i+1,by omega,by go_num,by rw[b7];exact D⟩,by simp only[intOf];omega⟩
  obtain rfl:i=n:=by omega
  have bf:¬ (i:Int)<(i:Int):=by omega
  obtain⟨V,rfl⟩:∃ V:World,V=wr:=⟨_,rfl⟩;have e7:=fun y (h1:0<y) (_:y<s.c)=>fresh_acts0 (fresh_new O y) c5 (show y≠0 by omega) (xs.take i);generalize acts0 s (zde s) (xs.take i)=d at *;have f2:=chi_0 b fy.out e7;have b5:=ai_act b ⟨1,0,0,0,0,0⟩;have e2:=hd' (law_do D b.1 (by omega) 1 0 0 0 0 0);have e3:=hd' fun X (hX:LawAt W g s Kp (d.act s ⟨1,0,0,0,0,0⟩).1 X)=>law_do hX b5.1 (by omega) 4 0 0 0 0 0;clear f8 c7 e7 b c5 bf D b5;go_upto_region 15 with(first|(go_at_call 7;(with_reducible refine e2.out.mono ?_);rintro r w7 ⟨rfl,ba⟩)|(go_at_call 7;(with_reducible refine(e3.out _ ba).mono ?_);rintro r w8 ⟨rfl,b4⟩));clear e2 e3 ba;have bi:=hd' (chi_all (f:=chF s E) f2 (chF_le s E) (fun j hj=>chF_last E hj));generalize (((d.act s ⟨1,0,0,0,0,0⟩).1).act s ⟨4,0,0,0,0,0⟩).1=d1 at *;have g6:Hid (chN s (chF s E) d1 0=d1):=hd' rfl;obtain⟨C,hC⟩:∃ C:Nat,Hid ((C:Int)=s.c-1):=⟨(s.c-1).toNat,hd' (by omega)⟩;have ek:=hd' (fun Y=>yg0 s O Y);obtain⟨M,bp,cv⟩:∃ M,Hid (z5k s=M)/\z5k s=M:=⟨_,hd' rfl,rfl⟩;rw[cv]at ek g4;clear cv f2;go_wp2;go_loopw [10] (fun ex wr=>∃ j:Nat,j<=C/\ex= .int .i64 ((j:Int)+1)/\LawAt W g s Kp (chN s (chF s E) d1 j) wr) (fun ex _=>C+1-(intOf ex).toNat);case atStart=>exact⟨0,Nat.zero_le _,rfl,by rw[g6.out];exact b4⟩
  case round=>
   clear b4;obtain⟨j,hj,rfl,D⟩:=hrel;obtain⟨c0,c1,c2,lH⟩:=bv.out _ _ D;by_cases i4:j<C
   ·have cu:(j:Int)+1<s.c:=by have:=hC.out;omega
    have em:(0:Int)<=(j:Int)+1:=by omega
    have i7:IntKind.i64.wrap ((j:Int)+1-1)=(j:Int):=by rw[IntWalk.i64_in _ ⟨by omega,by omega⟩];omega
    have ew:=wrp (s.c-1);have ig:IntKind.i64.wrap ((j:Int)+1+1)=(j:Int)+1+1:=IntWalk.i64_in _ ⟨by omega,by omega⟩
    have bg:AI s (chN s (chF s E) d1 j) 100000:=ai_weak (bi.out j (by omega)).ai (by
     have:j*(3+z5k s)<=12*8003:=Nat.mul_le_mul (by omega) (by have:=bp.out;omega)
     omega)
    have e8:=(bi.out j (by omega)).fr ((j:Int)+1) (by omega) cu;have hS:=chN_eq s (chF s E) d1 j;generalize chN s (chF s E) d1 j=d0 at *;replace hS:=hd' hS;obtain⟨_,ea⟩:=one_start e8 bg.1 ⟨em,cu⟩;have b5:=ai_act bg ⟨1,(j:Int)+1,0,0,0,0⟩;have f9:=rest_asks (o:=⟨4,j,0⟩) b5.1 ea.1 ⟨show (1:Int)<=4 by decide,Int.le_refl _⟩;have f7:=ai_act b5 ⟨2,(j:Int)+1,4,j,0,0⟩;obtain⟨_,_,e6⟩:=yct (x:=⟨2,(j:Int)+1,4,j,0,0⟩) b5.1 rfl f9;have e4:=hd' (law_do D bg.1 (by omega) 1 ((j:Int)+1) 0 0 0 0);have e5:=hd' fun X (hX:LawAt W g s Kp (d0.act s ⟨1,(j:Int)+1,0,0,0,0⟩).1 X)=>law_do hX b5.1 (by omega) 2 ((j:Int)+1) 4 j 0 0;clear ea f9 e8 bg b5 D;go_upto_region 20 with(first|(go_at_call 7;(with_reducible refine e4.out.mono ?_);rintro r w7 ⟨rfl,ba⟩)|(go_at_call 7;(with_reducible refine(e5.out _ ba).mono ?_);rintro r w8 ⟨rfl,b4⟩));clear e4 e5 ba;generalize ((d0.act s ⟨1,(j:Int)+1,0,0,0,0⟩).1.act s ⟨2,(j:Int)+1,4,(j:Int),0,0⟩).1=d2 at *;obtain⟨c0,c1,c2,lH⟩:=bv.out _ _ b4;have cg:Hid (∀ X,Below w8.heap.size w8 X->X.cell? ⟨H,0,.none⟩=some (.int .i64 s.p)/\X.cell? ⟨H,1,.none⟩=some (.int .i64 s.c)/\X.cell? ⟨H,2,.none⟩=some (.int .i64 s.m)/\H<X.heap.size):=hd' fun X hX=>bv.out _ _ (b4.below hX);go_upto_region 21 with(first|(go_at_call 9;(with_reducible refine(ek.out _).mono ?_);rintro r w9 ⟨rfl,bc⟩));obtain⟨fv,fw,fx,gy⟩:=cg.out _ bc;obtain⟨F,f3,G⟩:∃ F,Hid (chF s E (j+1)=F)/\chF s E (j+1)=F:=⟨_,hd' rfl,rfl⟩;have c8:(¬ (j:Int)+1<s.c-1/\F=M)\/((j:Int)+1<s.c-1/\¬ (j:Int)<(m:Int)/\F=M)\/((j:Int)+1<s.c-1/\(j:Int)<(m:Int)/\∃ hj:j<E.length,(E[j]).tmod ((M:Int)+1)=(F:Int)):=by
     unfold chF at G;have i6:=hm.out;have g5:=bp.out;by_cases k1:(j:Int)+1<s.c-1
     ·by_cases k2:j<E.length
      ·refine .inr (.inr ⟨k1,by omega,k2,?_⟩);rw[if_pos ⟨by omega,by omega⟩,show j+1-1=j by omega,List.getD_eq_getElem?_getD,List.getElem?_eq_getElem k2,g5]at G;have I:=(bx.out j k2).1;have e1:((E[j].toNat%(M+1):Nat):Int)=E[j]%((M:Int)+1):=by rw[Int.natCast_emod,Int.toNat_of_nonneg I];rfl
       rw[<-G,Int.tmod_eq_emod_of_nonneg I];exact e1.symm
      rw[if_neg (by omega)]at G;exact .inr (.inl ⟨k1,by omega,by omega⟩)
     rw[if_neg (by omega)]at G;exact .inl ⟨k1,by omega⟩
    rw[G]at hS;have hs:F<=M:=by rw[<-G,<- bp.out];exact chF_le s E _
    clear G;obtain⟨bb,bq⟩:∃ bb:Bool,Hid (bb=true↔((j:Int)+1<s.c-1/\(j:Int)<(m:Int))):=⟨decide ((j:Int)+1<s.c-1/\(j:Int)<(m:Int)),hd' (by simp)⟩;go_upto_region 21 with fail;go_cut [93] from 82 to 93 (fun h6 wx=>h6= .bool bb/\wx=w9);case first=>
     by_cases q1:(j:Int)+1<s.c-1
     ·by_cases q2:(j:Int)<(m:Int)
      ·obtain rfl:bb=true:=bq.out.2 ⟨q1,q2⟩;go_wp2_with fail;go_meet;exact⟨rfl,rfl⟩
      obtain rfl:bb=false:=by cases bb with|false=>rfl|true=>exact absurd (bq.out.1 rfl).2 q2
      go_wp2_with fail;go_meet;exact⟨rfl,rfl⟩
     obtain rfl:bb=false:=by cases bb with|false=>rfl|true=>exact absurd (bq.out.1 rfl).1 q1
     go_wp2_with fail;go_meet;exact⟨rfl,rfl⟩
    obtain⟨rfl,ew⟩:=hcut;obtain rfl:=ew.symm;go_upto_if 93 with fail;go_cut [11] from 94 to 103 (fun gz wx=>gz= .int .i64 (F:Int)/\Below w9.heap.size w9 wx);case first=>
     have cr:(bb=false/\F=M)\/(bb=true/\(j:Int)<(m:Int)/\∃ hj:j<E.length,(E[j]).tmod ((M:Int)+1)=(F:Int)):=by
      rcases c8 with⟨q1,q2⟩|⟨q1,q2,q3⟩|⟨q1,q2,q3⟩
      ·exact .inl ⟨by cases bb with|false=>rfl|true=>exact absurd (bq.out.1 rfl).1 q1,q2⟩
      ·exact .inl ⟨by cases bb with|false=>rfl|true=>exact absurd (bq.out.1 rfl).2 q2,q3⟩
      exact .inr ⟨bq.out.2 ⟨q1,q2⟩,q2,q3⟩
     rcases cr with⟨rfl,q2⟩|⟨rfl,q2,q3,q4⟩
     ·subst q2;go_wp2_with fail;go_meet;exact⟨rfl,Below.refl _ _⟩
     obtain⟨ub,ic,rfl,I⟩:=gv.out j q3;have ia:=bx.out j q3;generalize E[j]=z at *;have c4:=b4.below bc;obtain⟨i9,ib⟩:=I _ c4.ab;have wz:IntKind.i64.wrap z=z:=IntWalk.i64_in _ ⟨by omega,by omega⟩;have wM:IntKind.i64.wrap ((M:Int)+1)=(M:Int)+1:=IntWalk.i64_in _ ⟨by omega,by omega⟩;have wF:IntKind.i64.wrap (F:Int)=(F:Int):=IntWalk.i64_in _ ⟨by omega,by omega⟩;have ha:(0:Int)<=(j:Int):=by omega
     have hw:((M:Int)+1==0)=false:=by simpa using(show ¬ (M:Int)+1=0 by omega)
     go_upto_region 22 with fail;refine wret 10 ?_;repeat (go_big_quiet_step (((go_at_call 9;exact zam (ek.out _)))))
     refine wqn fun X ga=>?_;have gj:=ga;go_wp2_with fail;go_meet;exact⟨rfl,gj⟩
    case rest=>
     obtain⟨rfl,fb⟩:=hcut;obtain⟨Y,rfl⟩:∃ V:World,V=wc:=⟨_,rfl⟩;have f6:=(b4.below bc).below fb;have g8:Hid (∀ k,∃ kc,(d2.goN s ((j:Int)+1) k).kl ((j:Int)+1)=some kc):=hd' fun k=>by obtain⟨k',e,_⟩:=yav f7.1 e6 k;exact⟨k',e⟩
     have g2:Hid (d2.goN s ((j:Int)+1) 0=d2):=hd' rfl;have g7:=hd' fun k=>ai_goN (c:=(j:Int)+1) f7 k;clear cg b4 bc fb e6 c8 fv fw fx c0 c1 c2 lH gy;replace f3:=hd' f3.out;go_wp2;go_loopw [12] (fun ey wr=>∃ k:Nat,k<=F/\ey= .int .i64 k/\LawAt W g s Kp (d2.goN s ((j:Int)+1) k) wr) (fun ey _=>F-(intOf ey).toNat);case atStart=>exact⟨0,Nat.zero_le _,rfl,by rw[g2.out];exact f6⟩
     case round=>
      clear f6;obtain⟨k,hk,rfl,D⟩:=hrel;obtain⟨kc,ch⟩:=g8.out k;have T:=g7.out k;obtain⟨q,S,b8⟩:=law_client D T.1 ch;have i5:(0:Int)<=(k:Int):=by omega
      have ih:IntKind.i64.wrap ((k:Int)+1)=(k:Int)+1:=IntWalk.i64_in _ ⟨by omega,by omega⟩;by_cases cs:k<F/\kc.job≠none
      ·obtain⟨b9,ep⟩:=cs;have hf:(k:Int)<(F:Int):=by omega
       have bw:kc.rests=false:=by unfold Kl.rests;cases hj:kc.job with|none=>exact absurd hj ep|some j=>rfl
       rw[bw]at b8;have es:=z5n (s:=s) ch ep;have bu:=hd' fun X (hb:Below wr.heap.size wr X)=>law_do (D.below hb) T.1 (by omega) 3 ((j:Int)+1) 0 0 0 0;replace es:Hid (∀ X,LawAt W g s Kp ((d2.goN s ((j:Int)+1) k).act s ⟨3,(j:Int)+1,0,0,0,0⟩).1 X->LawAt W g s Kp (d2.goN s ((j:Int)+1) (k+1)) X):=hd' fun X hX=>by show LawAt W g s Kp ((d2.goN s ((j:Int)+1) k).goS s ((j:Int)+1)) X;rw[es];exact hX
       replace S:=hd' S;replace b8:=hd' b8;clear T ch ep bw D;go_wp2_with (first|(go_at_call 10;(with_reducible refine(S.out _ J).mono ?_);rintro r w7 ⟨rfl,b2⟩;have l:=J.trans (b2.mono J.size))|(go_at_call 10;(with_reducible refine(S.out _ br).mono ?_);rintro r w6 ⟨rfl,J⟩)|(go_at_call 11;(with_reducible refine(b8.out _ l).mono ?_);rintro r w8 ⟨rfl,cj⟩;obtain rfl:=cj.symm)|(go_at_call 7;(with_reducible refine(bu.out _ l).mono ?_);rintro r w9 ⟨rfl,c4⟩));exact⟨⟨k+1,by omega,by go_num,es.out _ c4⟩,by simp only[intOf];omega⟩
      have hD:d2.goN s ((j:Int)+1) k=d2.goN s ((j:Int)+1) F:=by
       by_cases b9:k<F
       ·have em:kc.job=none:=by cases hj:kc.job with|none=>rfl|some j=>exact absurd ⟨b9,by rw[hj];exact fun e=>by cases e⟩ cs
        have:=yfl ch em (F-k);rw[show k+(F-k)=F by omega]at this;exact this.symm
       rw[show k=F by omega]
      rw[hD]at D T;have fi:¬ (k:Int)<(F:Int)\/((k:Int)<(F:Int)/\kc.rests=true):=by
       by_cases b9:k<F
       ·refine .inr ⟨by omega,?_⟩;unfold Kl.rests;cases hj:kc.job with
        |none=>rfl
        |some j=>exact absurd ⟨b9,by rw[hj];exact fun e=>by cases e⟩ cs
       exact .inl (by omega)
      have hS:=hS.out;have bu:=hd' fun X (hb:Below wr.heap.size wr X)=>law_do (D.below hb) T.1 (by omega) 4 ((j:Int)+1) 0 0 0 0;have cg:Hid (∀ X,Below wr.heap.size wr X->X.cell? ⟨H,1,.none⟩=some (.int .i64 s.c)):=hd' fun X hX=>(bv.out _ _ (D.below hX)).2.1;have B:Hid (∀ X,LawAt W g s Kp (chN s (chF s E) d1 (j+1)) X->∃ j':Nat,j'<=C/\Value.int .i64 ((j:Int)+1+1)= .int .i64 ((j':Int)+1)/\LawAt W g s Kp (chN s (chF s E) d1 j') X):=hd' fun X hX=>⟨j+1,by omega,by go_num,hX⟩;have l:Below wr.heap.size wr wr:=Below.refl _ _;replace S:=hd' S;replace D:=hd' fun X (hb:Below wr.heap.size wr X)=>D.below hb;clear T ch cs hD;by_cases q1:(j:Int)+1<s.c-1
      ·rw[if_pos q1]at hS;rw[hS]at B;replace B:=hd' B.out;clear hS;rcases fi with b9|⟨b9,bw⟩;all_goals
        try rw[bw]at b8
        go_upto_region 27 with(first|(go_at_call 10;(with_reducible refine(S.out _ J).mono ?_);rintro r w7 ⟨rfl,b2⟩;have l:=J.trans (b2.mono J.size))|(go_at_call 10;(with_reducible refine(S.out _ br).mono ?_);rintro r w6 ⟨rfl,J⟩)|(go_at_call 11;(with_reducible refine(b8 _ l).mono ?_);rintro r w8 ⟨rfl,cj⟩;obtain rfl:=cj.symm));have c1:=cg.out _ l;go_wp2_with (first|(go_at_call 7;(with_reducible refine(bu.out _ l).mono ?_);rintro r w9 ⟨rfl,c4⟩));exact⟨B.out _ c4,by simp only[intOf];omega⟩
      rw[if_neg q1]at hS;rw[hS]at B;replace B:=hd' B.out;clear hS bu;rcases fi with b9|⟨b9,bw⟩;all_goals
       try rw[bw]at b8
       go_upto_region 27 with(first|(go_at_call 10;(with_reducible refine(S.out _ J).mono ?_);rintro r w7 ⟨rfl,b2⟩;have l:=J.trans (b2.mono J.size))|(go_at_call 10;(with_reducible refine(S.out _ br).mono ?_);rintro r w6 ⟨rfl,J⟩)|(go_at_call 11;(with_reducible refine(b8 _ l).mono ?_);rintro r w8 ⟨rfl,cj⟩;obtain rfl:=cj.symm));have c1:=cg.out _ l;go_wp2_with fail;exact⟨B.out _ (D.out _ l),by simp only[intOf];omega⟩
   obtain rfl:j=C:=by omega
   obtain⟨V,rfl⟩:∃ V:World,V=wr:=⟨_,rfl⟩;have cu:¬ (j:Int)+1<s.c:=by have:=hC.out;omega
   obtain⟨c,fc,bh⟩:∃ c,Hid (c=s.c-1)/\c=s.c-1:=⟨_,hd' rfl,rfl⟩;have ew:IntKind.i64.wrap (s.c-1)=c:=by rw[bh];exact IntWalk.i64_in _ ⟨by omega,by omega⟩
   have b0:=hC.out;rw[<-bh]at b0;have ei:=bi.out j (by omega);have cm:=chi_end ei hC.out;have el:=ei.gn;rw[<-bh]at cm el;clear bh;have cd:c<s.c:=by have:=fc.out;omega
   have b6:=hd' (fun (i:Nat) (hi:i<=j)=>ado_all cm cd i (by omega));have h9:600+2+j*(3+z5k s)<=100000:=by have:j*(3+z5k s)<=12*8003:=Nat.mul_le_mul (by omega) (by have:=bp.out;omega);omega
   have ed:=hd' (fun (i:Nat) (hi:i<=j)=>ai_weak (b6.out i hi).ai (m:=200000) (by
    have:i*(1+z5k s)<=12*8001:=Nat.mul_le_mul (by omega) (by have:=bp.out;omega)
    omega))
   have cx:=hd' (fun (i:Nat) (hi:i<j)=>ado_step (b6.out i (by omega)) (by omega) cd);have fg:=hd' (fun (i:Nat) (hi:i<j)=>ado_done (b6.out (i+1) (by omega)) (x:=(i:Int)) (by omega) (by omega) (gone_adoN (el i (by omega) (by omega) (by omega)) cm (by omega) cd (i+1) (by omega)));have bj:=hd' (ado_end (b6.out j lr) b0 (by have:=fc.out;omega));clear cm el ei bi b6;generalize chN s (chF s E) d1 j=dK at *;replace b0:=hd' b0;have g3:Hid (adoN s c dK 0=dK):=hd' rfl;have h8:z5k s<=8000:=by have:=bp.out;omega
   go_upto_region 31 with fail;clear cu;go_loopw [14] (fun ez wr=>∃ i:Nat,i<=j/\ez= .int .i64 i/\LawAt W g s Kp (adoN s c dK i) wr) (fun ez _=>j-(intOf ez).toNat);case atStart=>exact⟨0,Nat.zero_le _,rfl,by rw[g3.out];exact D⟩
   case round=>
    clear D;obtain⟨i,hi,rfl,D⟩:=hrel;obtain⟨c0,c1,c2,lH⟩:=bv.out _ _ D;have gp:(0:Int)<=(i:Int):=by omega
    have b:=ed.out i hi;by_cases fk:i<j
    ·have fl:(i:Int)<c:=by have:=b0.out;omega
     have h7:IntKind.i64.wrap ((i:Int)+1)=(i:Int)+1:=IntWalk.i64_in _ ⟨by omega,by omega⟩;obtain⟨_,f1,_⟩:=cx.out i fk;have cy:=ed.out (i+1) (by omega);have e0:=fg.out i fk;have cz:=hd' (law_ask_ok D b.1 (by omega) c 4 i 0 f1);have bk:=hd' fun X (hX:LawAt W g s Kp (adoN s c dK (i+1)) X)=>law_stat hX cy.1 i;rw[e0]at bk;replace bk:=hd' bk.out;have B:Hid (∀ X,LawAt W g s Kp (adoN s c dK (i+1)) X->∃ i':Nat,i'<=j/\Value.int .i64 ((i:Int)+1)= .int .i64 i'/\LawAt W g s Kp (adoN s c dK i') X):=hd' fun X hX=>⟨i+1,by omega,by go_num,hX⟩;have fh:adoN s c dK (i+1)=askW s (adoN s c dK i) c ⟨4,i,0⟩:=rfl;rw[<-fh]at cz;clear fh D b cy e0 f1;generalize adoN s c dK (i+1)=dn at *;go_wp2_with (first|(go_at_call 12;(with_reducible refine cz.out.mono ?_);rintro r w3 ⟨rfl,bz⟩)|(go_at_call 13;(with_reducible refine(bk.out _ bz).mono ?_);rintro r w4 ⟨rfl,gc⟩));exact⟨B.out _ (bz.below gc),by simp only[intOf];omega⟩
    have gq:i=j:=by omega
    subst gq;have fl:¬ (i:Int)<c:=by have:=b0.out;omega
    obtain⟨V2,rfl⟩:∃ V:World,V=wr:=⟨_,rfl⟩;obtain⟨σ,gR,gG,gB⟩:=bj.out;clear cx fg ed bj;generalize adoN s c dK i=dE at *;have fs:Hid (∀ Z,Below V2.heap.size V2 Z->Calls Tryz.prog 15 #[some g] Z fun e w'=>∃ v',e= .returned v'/\Below Z.heap.size Z w'/\RdZ .u64 w' v' dE.m.ws):=hd' fun Z hZ=>law_words (D.below hZ)
    have cl:Hid (∃ f t:Int,∀ v X,RdZ .u64 X v dE.m.ws->Calls Tryz.prog 14 #[.agg #[s.p,s.c,s.m],v] X fun e w'=>e= .returned (.agg #[f,t,.int .i64 0,.int .i64 0])/\Below X.heap.size X w'):=hd' ⟨(hpOf s dE.m).count.f,(hpOf s dE.m).count.t,fun v X hv=>by
     have h1:=ycv (hpOf s dE.m) v X hv b.1.fit
     obtain⟨q1,q2⟩:=hp_count gR gG gB
     rw[q1,q2]at h1
     exact h1⟩
    have gs:Hid (∀ v X,RdZ .u64 X v dE.m.ws->Calls Tryz.prog 16 #[.agg #[s.p,s.c,s.m],v] X fun e w'=>e= .returned (.bool true)/\Below X.heap.size X w'):=hd' fun v X hv=>sndG_any (hpOf s dE.m) v X hv b.1.fit (hp_sound gR gG) (hp_mag gR gG);have eu:dE.tr.length<=100000000:=by have:=b.1.tr;omega
    have gu:Hid (∀ Z,Below V2.heap.size V2 Z->Calls Tryz.prog 18 #[some g] Z fun e w'=>∃ v',e= .returned v'/\Below Z.heap.size Z w'/\RdE w' v' dE.tr):=hd' fun Z hZ=>law_trace (D.below hZ) eu;have gr:Hid (∀ v X,RdE X v dE.tr->Calls Tryz.prog 17 #[.agg #[s.p,s.c,s.m],v] X fun e w'=>e= .returned (.agg #[.int .i64 (-1),.int .i64 0])/\Below X.heap.size X w'):=hd' fun v X hv=>rrule_any O v dE.tr X hv eu (ai_why b);have hE:=hd' D.ab;have hK:Hid (∀ Z,Below V2.heap.size V2 Z->Z.cell? ⟨H,0,.none⟩=some (.int .i64 s.p)/\Z.cell? ⟨H,1,.none⟩=some (.int .i64 s.c)/\Z.cell? ⟨H,2,.none⟩=some (.int .i64 s.m)):=hd' fun Z hZ=>by obtain⟨k0,k1,k2,_⟩:=bv.out _ _ (D.below hZ);exact⟨k0,k1,k2⟩
    obtain⟨cf,ct,cl⟩:=cl.out;replace cl:=hd' cl;clear gB gG gR eu b D;go_upto_region 36 with fail;go_cut [15] from 153 to 157 (fun h5 wx=>∃ p:Nat,h5= .pointer (some ⟨p,0,.none⟩)/\p<wx.heap.size/\Below V2.heap.size V2 wx/\wx.cell? ⟨p,2,.none⟩=some (.int .i64 0)/\wx.cell? ⟨p,3,.none⟩=some (.int .i64 0));case first=>
     go_region_held3 (fun X=>X.cell? ⟨H,0,.none⟩=some (.int .i64 s.p)/\X.cell? ⟨H,1,.none⟩=some (.int .i64 s.c)/\X.cell? ⟨H,2,.none⟩=some (.int .i64 s.m))
      (first|exact hK.out _ (by go_grown))
      (first|(go_at_call 15;(with_reducible refine(fs.out _ (by go_grown)).mono ?_);rintro r w9 ⟨v9,rfl,bc,fq⟩;have g0:=zab (w:=V2) (by go_grown) bc;have hy:=g0.size;try (have I:=zco.below (N:=V2.heap.size) (c:=Cn.zero) (heap_alloc_new V2.drew (.cells #[.int .i64 0,.int .i64 0,.int .i64 0,.int .i64 0] 49)) bc;have q0:=I.c0;have q1:=I.c1;have q2:=I.c2;have q3:=I.c3;have qF:=I.fr))|(go_at_call 14;(with_reducible refine(cl.out _ _ (by first|exact fq|exact fq.below (br.alloc lr _))).mono ?_);rintro r w7 ⟨rfl,b2⟩;have fz:=zab (w:=V2) (by go_grown) b2;have hx:=fz.size;try (first|(have I:=I.below b2;have q0:=I.c0;have q1:=I.c1;have q2:=I.c2;have q3:=I.c3;have qF:=I.fr)|(have I:=zco.below (N:=w9.heap.size) (c:=Cn.zero) (heap_alloc_new w9 (.cells #[.int .i64 0,.int .i64 0,.int .i64 0,.int .i64 0] 49)) b2;have q0:=I.c0;have q1:=I.c1;have q2:=I.c2;have q3:=I.c3;have qF:=I.fr))))
     all_goals (go_wp2_with fail;go_meet)
     all_goals refine⟨_,rfl,?_,by go_grown,?_,?_⟩
     all_goals first|go_cell|go_size|(simp;done)|(simp;exact I.lt)
    case rest=>
     obtain⟨p,rfl,hp,b1,n2,n3⟩:=hcut;obtain⟨V3,rfl⟩:∃ V:World,V=wc:=⟨_,rfl⟩;have er:=b1.size;have cq:Hid (Below V3.heap.size V3 V3.drew):=hd' br.drew;have bn:Hid (∀ Y:World,Below V3.heap.size V3 Y->(Y.cell? ⟨H,0,.none⟩=some (.int .i64 s.p)/\Y.cell? ⟨H,1,.none⟩=some (.int .i64 s.c)/\Y.cell? ⟨H,2,.none⟩=some (.int .i64 s.m)/\Y.cell? ⟨p,2,.none⟩=some (.int .i64 0)/\Y.cell? ⟨p,3,.none⟩=some (.int .i64 0))):=hd' fun Y hY=>by obtain⟨k0,k1,k2⟩:=hK.out Y (b1.trans (hY.mono er));exact⟨k0,k1,k2,zai hY _ _ _ n2,zai hY _ _ _ n3⟩
     have fu:Hid (∀ Z,Below V3.heap.size V3 Z->Calls Tryz.prog 15 #[some g] Z fun e w'=>∃ v',e= .returned v'/\Below Z.heap.size Z w'/\RdZ .u64 w' v' dE.m.ws):=hd' fun Z hZ=>fs.out Z (b1.trans (hZ.mono er));have fp:Hid (∀ Z,Below V3.heap.size V3 Z->Calls Tryz.prog 18 #[some g] Z fun e w'=>∃ v',e= .returned v'/\Below Z.heap.size Z w'/\RdE w' v' dE.tr):=hd' fun Z hZ=>gu.out Z (b1.trans (hZ.mono er));obtain⟨c0,c1,c2,n2,n3⟩:=bn.out V3 br;go_upto_region 37 with fail
     go_region_held3 (fun Y=>Y.cell? ⟨H,0,.none⟩=some (.int .i64 s.p)/\Y.cell? ⟨H,1,.none⟩=some (.int .i64 s.c)/\Y.cell? ⟨H,2,.none⟩=some (.int .i64 s.m)/\Y.cell? ⟨p,2,.none⟩=some (.int .i64 0)/\Y.cell? ⟨p,3,.none⟩=some (.int .i64 0))
      (first|exact bn.out _ cq.out|exact bn.out _ f0|exact bn.out _ ec|exact bn.out _ cp|exact bn.out _ eb)
      (first|(go_at_call 15;(with_reducible refine(fu.out _ cq.out).mono ?_);rintro r wA ⟨vA,rfl,gf,gw⟩;have eb:=cq.out.trans (gf.mono cq.out.size))|(go_at_call 16;(with_reducible refine(gs.out _ _ gw).mono ?_);rintro r wS ⟨rfl,gh⟩;have cp:=eb.trans (gh.mono eb.size))|(go_at_call 18;(with_reducible refine(fp.out _ cp).mono ?_);rintro r wT ⟨vT,rfl,gi,gx⟩;have ec:=cp.trans (gi.mono cp.size))|(go_at_call 17;(with_reducible refine(gr.out _ _ gx).mono ?_);rintro r wR ⟨rfl,gg⟩;have f0:=ec.trans (gg.mono ec.size)))
     go_wp2_with fail;go_returns;exact⟨rfl,(hE.out.trans (b1.mono hE.out.size)).trans (f0.mono (by have:=hE.out.size;omega))⟩
end Go.Proofs.YtedcnffebdpmmaaGreat
