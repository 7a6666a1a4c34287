/- Lemmas for the claim. -/
import Derived.Test.YtkilokkopbajkaaGreatBw23

import Derived.Test.YtkilokkopbajkaaGreatBw30

set_option linter.all false
set_option maxHeartbeats 8000000
set_option maxRecDepth 100000
namespace Go.Proofs.YtkilokkopbajkaaGreat

attribute [local go_sem] rowW DA IB IG

section

open Go.RowKit

attribute [local go_sem ↓] Go.wp_at_zero Go.wp_at_succ

theorem zxu(q2:Nat)(cs:Array Value)(g:Bool)(w:World)(h:aA w q2 cs 246)(m:cs[14]?=some (.bool g)):
  Calls Tryz.prog 242 #[.agg #[some q2]] w fun e w'=>e= .returned (.bool g)/\Below w.heap.size w w':=by
 have i:=(Below.refl w.heap.size w).alloc lr (.cells #[some q2] 212);have t0:=jA w (.cells #[some q2] 212);go_in;go_upto_region 1 with fail;generalize w.alloc (.cells #[some q2] 212)=X at *;have j:=gL q2 cs g X (h.below i) m;replace j:=hd' j;obtain⟨H,o,b⟩:=hidv w.heap.size;rw[<-b]at t0 ⊢;clear b;have p:H<X.heap.size:=(jE t0);have n:=kA t0;clear h t0;clear m;go_wp2_with (go_at_call 163;(with_reducible refine j.out.mono ?_);rintro r q ⟨rfl,l⟩;obtain rfl:=l.symm);go_returns;exact⟨rfl,i⟩
theorem z2s(q2:Nat)(cs:Array Value)(g:Bool)(w:World)(h:aA w q2 cs 246)(m:cs[14]?=some (.bool g)):
  Calls Tryz.prog 241 #[.agg #[some q2]] w fun e w'=>e= .returned (.int .i64 (if g=true then 0 else 1))/\Below w.heap.size w w':=by
 have i:=(Below.refl w.heap.size w).alloc lr (.cells #[some q2] 212);have t0:=jA w (.cells #[some q2] 212);go_in;go_upto_region 1 with fail;generalize w.alloc (.cells #[some q2] 212)=X at *;have j:=gL q2 cs g X (h.below i) m;replace j:=hd' j;obtain⟨H,o,b⟩:=hidv w.heap.size;rw[<-b]at t0 ⊢;clear b;have p:H<X.heap.size:=(jE t0);have n:=kA t0;clear h t0;clear m;cases g;all_goals go_wp2_with (go_at_call 163;(with_reducible refine j.out.mono ?_);rintro r q ⟨rfl,l⟩;obtain rfl:=l.symm);go_returns;exact⟨rfl,i⟩
theorem zz3(q2:Nat)(s:Sh)(t:Ad)(w:World)(h:aA w q2 (DA s t) 252):
  Calls Tryz.prog 263 #[.agg #[some q2]] w fun e w'=>e= .returned (.int .i64 t.err)/\Below w.heap.size w w':=by
 have i:=(Below.refl w.heap.size w).alloc lr (.cells #[some q2] 220);have t0:=jA w (.cells #[some q2] 220);go_in;go_upto_region 1 with fail;generalize w.alloc (.cells #[some q2] 220)=X at *;have j:=z0i q2 s t X (h.below i);replace j:=hd' j;obtain⟨H,n,b⟩:=hidv w.heap.size;rw[<-b]at t0 ⊢;clear b;have o:H<X.heap.size:=(jE t0);have m:=kA t0;clear h t0;go_wp2_with (go_at_call 266;(with_reducible refine j.out.mono ?_);rintro r p ⟨rfl,l⟩;obtain rfl:=l.symm);go_returns;exact⟨rfl,i⟩
theorem z1d(q2:Nat)(s:Sh)(t:Rr)(m n o p:Value)(w:World)(h:aA w q2 (IB s t m n o p) 249):
  Calls Tryz.prog 247 #[.agg #[some q2]] w fun e w'=>e= .returned (.int .i64 t.err)/\Below w.heap.size w w':=by
 have i:=(Below.refl w.heap.size w).alloc lr (.cells #[some q2] 216);have t0:=jA w (.cells #[some q2] 216);go_in;go_upto_region 1 with fail;generalize w.alloc (.cells #[some q2] 216)=X at *;have j:=zzz q2 s t m n o p X (h.below i);replace j:=hd' j;obtain⟨H,y,b⟩:=hidv w.heap.size;rw[<-b]at t0 ⊢;clear b;have z:H<X.heap.size:=(jE t0);have q:=kA t0;clear h t0;go_wp2_with (go_at_call 250;(with_reducible refine j.out.mono ?_);rintro r B ⟨rfl,l⟩;obtain rfl:=l.symm);go_returns;exact⟨rfl,i⟩
end

section

open Go.RowKit Fl

theorem NZ(x y:Nat):FloatKind.f64.format.order x y=Ieee.double.order x y:=rfl
abbrev F64 (x:Nat):Value:= .float .f64 x
theorem z7u(x:Nat)(w:World):(Op.unary UnOp.neg (.float .f64 x)).run Tryz.prog w= .ok (.float .f64 (x ^^^ 2^63)) w:=rfl
theorem z2t(x:Nat)(w:World):Calls Tryz.prog 154 #[F64 x] w fun e w'=>e= .returned (.bool (nan x))/\w'=w:=by
 go_in;go_wp2;go_ret;refine⟨pG ?_,rfl⟩;rw[NZ,bne,HV,Fl.rY,Bool.not_not]
theorem zp1(x:Nat)(w:World):Calls Tryz.prog 155 #[F64 x,.int .i64 (-1)] w fun e w'=>e= .returned (.bool (decide (eD x=1)))/\w'=w:=by
 have b:=z7u x;go_in;go_wp2;go_ret;refine⟨pG ?_,rfl⟩;rw[<-z18,<- ZL];rfl
theorem zps(x:Nat)(w:World):Calls Tryz.prog 155 #[F64 x,.int .i64 1] w fun e w'=>e= .returned (.bool (decide (eD x=5)))/\w'=w:=by
 go_in;go_wp2;go_ret;refine⟨pG ?_,rfl⟩;rw[<-qW,<- ZL];rfl
theorem lt0(x:Nat):(FloatKind.f64.format.order x 0==some .lt)=(!nan x&&decide (iv x<0)):=(z5e x 0).trans (bZ x)
theorem gt0(x:Nat):(FloatKind.f64.format.order x 0==some .gt)=(!nan x&&decide (0<iv x)):=(ZL x 0).trans (z9v x)
theorem yJ(x:Nat)(w:World):Calls Tryz.prog 143 #[F64 x] w fun e w'=>e= .returned (.int .i64 (eD x))/\w'=w:=by
 have i:=lt0 x;have b:=gt0 x;go_in;go_wp2_with (first|(go_at_call 154;refine(z2t _ _).mono ?_;rintro e j ⟨rfl,rfl⟩)|(go_at_call 155;(with_reducible refine(zp1 _ _).mono ?_);rintro e j ⟨rfl,rfl⟩)|(go_at_call 155;(with_reducible refine(zps _ _).mono ?_);rintro e j ⟨rfl,rfl⟩));all_goals go_ret
 all_goals refine⟨OF ?_,rfl⟩
 all_goals clear i b
 all_goals first
  |exact(AW.2 (by assumption)).symm
  |(have h:=z4r (x:=x) (by assumption);have l:(0:Int)<(INF:Int):=(by decide);omega)
theorem gtxy(x y:Nat):(FloatKind.f64.format.order x y==some .gt)=gtB x y:=ZL x y
theorem eqxy(x y:Nat):(FloatKind.f64.format.order x y==some .eq)=eqB x y:=HV x y
end

section

open Go.RowKit Fl

theorem RZ(x:Nat):(FloatKind.f64.format.order x 4607182418800017408==some .gt||FloatKind.f64.format.order x 4607182418800017408==some .eq)=(!nan x&&decide ((ONE:Int)<=iv x)):=by
 have h1:=gtxy x ONE;have h2:=eqxy x ONE;unfold ONE at h1 h2;rw[h1,h2];show (gtB x ONE||eqB x ONE)=_;unfold gtB eqB;rw[XX,yfe];cases nan x
 ·simp only[Bool.not_false,Bool.true_and];rw[Bool.eq_iff_iff];simp only[Bool.or_eq_true,decide_eq_true_eq];omega
 rfl
theorem z4a(x:Nat)(n:Int)(y: -9223372036854775808<=n)(s:n<=9223372036854775807)(w:World):Calls Tryz.prog 120 #[F64 x,n] w fun e w'=>e= .returned (.int .i64 (ZC x n))/\w'=w:=by
 have j:=lt0 x;have i:=RZ x;have b:=AW (x:=x);unfold ZC;by_cases h1:n<1
 ·rw[jP (.inl h1)];clear j i b;go_in;go_wp2_with (go_at_call 143;refine(yJ _ _).mono ?_;rintro e p ⟨rfl,rfl⟩);go_ret;exact⟨rfl,rfl⟩
 cases h2:nan x
 ·have o:eD x≠0:=fun h=>by rw[b.1 h]at h2;cases h2
  have q:(eD x==0)=false:=by simpa using o
  rw[h2]at j i;by_cases h3:iv x<0
  ·rw[jP (.inr (.inr h3))];rw[jT h3]at j;clear i b h3;go_in;go_wp2_with (go_at_call 143;refine(yJ _ _).mono ?_;rintro e p ⟨rfl,rfl⟩);go_ret;exact⟨rfl,rfl⟩
  rw[jN (by simp only[Bool.false_eq_true,false_or,not_or];exact⟨h1,h3⟩)];rw[jF h3]at j;by_cases h4:(ONE:Int)<=iv x
  ·rw[jP h4];rw[jT h4]at i;clear b h3 h4;go_in;go_wp2_with (go_at_call 143;refine(yJ _ _).mono ?_;rintro e p ⟨rfl,rfl⟩);go_ret;exact⟨rfl,rfl⟩
  rw[jN h4];rw[jF h4]at i;obtain⟨r,m,l,B⟩:=zye (x:=x) (n:=n) (by omega) s (by omega) (by omega);generalize (T (yE (rung x) (R n.natAbs 0)):Int)=t at *;have z:=fun w:World=>run_float_arith (P:=Tryz.prog) w .mul 33 .f64 _ _ r m;have hc:=fun w:World=>run_convert_float_int (P:=Tryz.prog) w 33 3 .f64 .i64 r t (by kernel_rfl) Tryz.underlying3 l;clear b h3 h4 m l;go_in;go_wp2_with (go_at_call 143;refine(yJ _ _).mono ?_;rintro e p ⟨rfl,rfl⟩);all_goals go_ret
  all_goals refine⟨OF ?_,rfl⟩
  all_goals omega
 have o:eD x=0:=b.2 h2;have q:(eD x==0)=true:=by simpa using o
 rw[jP (.inr (.inl rfl))];clear j i b o;go_in;go_wp2_with (go_at_call 143;refine(yJ _ _).mono ?_;rintro e p ⟨rfl,rfl⟩);go_ret;exact⟨rfl,rfl⟩
end

section

open Go.RowKit

attribute [local go_sem ↓] Go.wp_at_zero Go.wp_at_succ

theorem BT:(Tryz.prog.info? 118).map (fun i=>(i.zero,i.size,i.bytes))=some (some (.int .u64 0),1,8):=by kernel_rfl
theorem RW(n:Nat)(l:n<=100000):∀ u:World,(Instr.makeSlice 43 (.int .i64 (n:Int)) (.int .i64 (n:Int))).run Tryz.prog u= .ok (.slice (some ⟨u.heap.size,0,.none⟩) n n) (u.alloc (.cells (madeCells #[.int .u64 0] n) 118)):=fun u=>by
 obtain⟨j,hi,b,f,i⟩:=info_parts BT
 have h:=run_make (P:=Tryz.prog) u 43 118 j (.int .u64 0) Tryz.underlying43 hi b .i64 .i64 (n:Int) (n:Int) (by omega) (Int.le_refl _) (by rw[i];omega) (by omega)
 rw[Int.toNat_natCast]at h
 simpa[f,Value.cells] using h
def oF (n:Nat):Mem:=⟨List.replicate n 0,0,⟨0,0,0,0,0,false⟩⟩
theorem HX(n:Nat):madeCells #[.int .u64 0] n=rowW (List.replicate n 0):=by
 apply Array.toList_inj.1;rw[toList_madeCells_one];simp[rowW]
theorem eV(n:Nat):(oF n).fit:=fun x b=>by
 rw[List.eq_of_mem_replicate b];exact⟨by decide,by decide⟩
theorem z7s(n:Nat)(j:n<=2000)(w:World):
  Calls Tryz.prog 87 #[.int .i64 (n:Int)] w fun e w'=>∃ p b,e= .returned (.pointer (some ⟨p,0,.none⟩))/\oA w' p b (oF n)/\w.heap.size<=p/\w.heap.size<=b/\Below w.heap.size w w':=by
 have i:=RW n (by omega);have h1:decide ((n:Int)<0)=false:=jF (by omega);have h2:decide ((2000:Int)<(n:Int))=false:=jF (by omega);go_in;go_wp2_with fail;go_returns;refine⟨_,w.heap.size,rfl,⟨by simp,?_,?_,eV n,by simp[oF];omega,by simp[oF]⟩,by simp,Nat.le_refl _,?_⟩
 ·have h:=jA (w.alloc (.cells (madeCells #[.int .u64 0] n) 118)) (.cells (IG w.heap.size (oF n)) 173);simpa[IG,oF] using h
 ·have h:=jA w (.cells (madeCells #[.int .u64 0] n) 118);rw[HX]at h;have h2:=aA.alloc (T:=118) h (.cells (IG w.heap.size (oF n)) 173);simpa[IG,oF,aA,HX] using h2
 exact(br.alloc lr _).alloc (by simp) _
theorem z5o(p b:Nat)(m:Mem)(a x:Int)(w:World)(h:oA w p b m)(j:m.has a)(q:0<=x/\x<18446744073709551616):
  Calls Tryz.prog 99 #[some p,a,.int .u64 x] w fun e w'=>e= .returned (.bool true)/\oA w' p b ⟨m.ws.set a.toNat x,m.st,m.la⟩/\Only (fun k=>k=b) w w':=by
 have h1:=hd' (mQ p b m a w h j);have l:=hd' (h.put j q);obtain⟨n,s,i⟩:=hidv m.ws.length;have y:w.cell? ⟨p,0,.none⟩=some (.slice (some ⟨b,0,.none⟩) n n):=by rw[i];exact kA h.blk 0
 have z:=h.cell j;have B:=GA h.row;have a0:(0:Int)<=a:=j.1;have a1:a<(n:Int):=by rw[i];exact j.2
 clear i h j;go_in;go_wp2_with (go_at_call 132;refine h1.out.mono ?_;rintro r t ⟨rfl,o⟩;obtain rfl:=o.symm);go_returns;exact⟨rfl,l.out,Only.setCell (F:=fun k=>k=b) (Only.refl _ _) (.inl rfl) _⟩
theorem cV(p b:Nat)(m:Mem)(w:World)(h:oA w p b m):
  Calls Tryz.prog 92 #[some p] w fun e w'=>e= .returned (.int .i64 m.st)/\w'=w:=by
 have i:w.cell? ⟨p,1,.none⟩=some (.int .i64 m.st):=kA h.blk 1;clear h;go_in;go_wp2_with fail;go_returns;exact⟨rfl,rfl⟩
theorem z4k(p b:Nat)(m:Mem)(w:World)(h:oA w p b m):
  Calls Tryz.prog 94 #[some p] w fun e w'=>e= .returned (accV m.la)/\Below w.heap.size w w':=by
 unfold accV;have y:=(Below.refl w.heap.size w).alloc lr (.cells #[.int .i64 0,.int .i64 0,.int .i64 0,.int .u64 0,.int .u64 0,.bool false] 155);have s:aA (w.alloc (.cells #[.int .i64 0,.int .i64 0,.int .i64 0,.int .u64 0,.int .u64 0,.bool false] 155)) w.heap.size #[.int .i64 0,.int .i64 0,.int .i64 0,.int .u64 0,.int .u64 0,.bool false] 155:=jA _ _;have r:=h.below y;have D:w.heap.size≠p:=fun e=>by have:=h.ltp;omega
 obtain⟨la,z⟩:∃ la,la=m.la:=⟨_,rfl⟩;have F:(w.alloc (.cells #[.int .i64 0,.int .i64 0,.int .i64 0,.int .u64 0,.int .u64 0,.bool false] 155)).cell? ⟨p,2,.none⟩=some (.int .i64 m.la.c):=kA r.blk 2;have G:(w.alloc (.cells #[.int .i64 0,.int .i64 0,.int .i64 0,.int .u64 0,.int .u64 0,.bool false] 155)).cell? ⟨p,3,.none⟩=some (.int .i64 m.la.k):=kA r.blk 3;have H:(w.alloc (.cells #[.int .i64 0,.int .i64 0,.int .i64 0,.int .u64 0,.int .u64 0,.bool false] 155)).cell? ⟨p,4,.none⟩=some (.int .i64 m.la.a):=kA r.blk 4;have I:(w.alloc (.cells #[.int .i64 0,.int .i64 0,.int .i64 0,.int .u64 0,.int .u64 0,.bool false] 155)).cell? ⟨p,5,.none⟩=some (.int .u64 m.la.was):=kA r.blk 5;have J:(w.alloc (.cells #[.int .i64 0,.int .i64 0,.int .i64 0,.int .u64 0,.int .u64 0,.bool false] 155)).cell? ⟨p,6,.none⟩=some (.int .u64 m.la.put):=kA r.blk 6;have L:(w.alloc (.cells #[.int .i64 0,.int .i64 0,.int .i64 0,.int .u64 0,.int .u64 0,.bool false] 155)).cell? ⟨p,7,.none⟩=some (.bool m.la.ok):=kA r.blk 7;rw[<-z]at F G H I J L ⊢;clear h r z;obtain⟨l,n,lp,q,o,lo⟩:=la;dsimp only at F G H I J L ⊢;go_in;go_upto_region 1 with fail;generalize w.alloc (.cells #[.int .i64 0,.int .i64 0,.int .i64 0,.int .u64 0,.int .u64 0,.bool false] 155)=X at *;obtain⟨E,O,j⟩:=hidv w.heap.size;rw[<-j]at s D ⊢;have i:w.heap.size<=E:=by omega
 clear j;have Z:=s.lt;have Y:=GA s;have M:=s.cell;go_wp2_with fail;have B:aA ((((((X.setCell ⟨E,0,.none⟩ (.int .i64 l)).setCell ⟨E,1,.none⟩ (.int .i64 n)).setCell ⟨E,2,.none⟩ (.int .i64 lp)).setCell ⟨E,3,.none⟩ (.int .u64 q)).setCell ⟨E,4,.none⟩ (.int .u64 o)).setCell ⟨E,5,.none⟩ (.bool lo)) E #[l,n,lp,.int .u64 q,.int .u64 o,lo] 155:=((((((s.set 0 (.int .i64 l)).set 1 (.int .i64 n)).set 2 (.int .i64 lp)).set 3 (.int .u64 q)).set 4 (.int .u64 o)).set 5 (.bool lo));have C:Below w.heap.size w ((((((X.setCell ⟨E,0,.none⟩ (.int .i64 l)).setCell ⟨E,1,.none⟩ (.int .i64 n)).setCell ⟨E,2,.none⟩ (.int .i64 lp)).setCell ⟨E,3,.none⟩ (.int .u64 q)).setCell ⟨E,4,.none⟩ (.int .u64 o)).setCell ⟨E,5,.none⟩ (.bool lo)):=((((((y.setCell (p:=⟨E,0,.none⟩) i (.int .i64 l)).setCell (p:=⟨E,1,.none⟩) i (.int .i64 n)).setCell (p:=⟨E,2,.none⟩) i (.int .i64 lp)).setCell (p:=⟨E,3,.none⟩) i (.int .u64 q)).setCell (p:=⟨E,4,.none⟩) i (.int .u64 o)).setCell (p:=⟨E,5,.none⟩) i (.bool lo));generalize (((((X.setCell ⟨E,0,.none⟩ (.int .i64 l)).setCell ⟨E,1,.none⟩ (.int .i64 n)).setCell ⟨E,2,.none⟩ (.int .i64 lp)).setCell ⟨E,3,.none⟩ (.int .u64 q)).setCell ⟨E,4,.none⟩ (.int .u64 o)).setCell ⟨E,5,.none⟩ (.bool lo)=U at *;obtain⟨r0,r1,R⟩:=ci3 l n lp B.cell;have S:=ce (.int .u64 q) (B.cell 3);have T:=ce (.int .u64 o) (B.cell 4);have V:=ce (.bool lo) (B.cell 5);exact bodyPost_ret (v:= .agg #[l,n,lp,.int .u64 q,.int .u64 o,lo]) (by simp[results,Tryz.results94,go_sem,r0,r1,R,S,T,V]) rfl ⟨rfl,C⟩
theorem z5x(xs:List Int)(v:Value)(w:World)(E:RdS w 1 v xs.length (xs.map (Value.int .u64)))(D:xs.length<=2000):
  Calls Tryz.prog 103 #[v] w fun e w'=>∃ v',e= .returned v'/\Below w.heap.size w w'/\w'.ownsRow w.heap.size 118 1 v' xs.length (xs.map (Value.int .u64)):=by
 obtain⟨ao,cap,rfl,C,F,I,o⟩:=id E;have n:∀ W:World,(binOp .eql 43 (.slice ao xs.length cap) (.slice none 0 0)).run Tryz.prog W= .ok (.bool ao.isNone) W:=fun W=>Lib.run_eql_slice_nil W _ _ ao _ _ _ _ Tryz.underlying43;rcases ao with _|ad
 ·have G:xs= []:=by
   rcases xs with _|⟨b,l⟩
   ·rfl
   obtain⟨_,_,h,_⟩:=o (by simp);cases h
  subst G;replace n:∀ W:World,(binOp .eql 43 (.slice none 0 cap) (.slice none 0 0)).run Tryz.prog W= .ok (.bool true) W:=n;show Calls Tryz.prog 103 #[.slice none 0 cap] w _;go_in;go_wp2;go_ret;exact⟨_,rfl,Below.refl _ _,⟨rfl,.inl ⟨rfl,rfl⟩⟩⟩
 obtain⟨H,q,s,y,z⟩:=info_parts BT;have m:(w.alloc (.cells #[] 118)).ownsRow w.heap.size 118 1 (.slice (some ⟨w.heap.size,0,.none⟩) 0 0) 0 []:=World.ownsRow_lit w #[] 0 lr (Nat.zero_le _) rfl;have r:RdS (w.alloc (.cells #[] 118)) 1 (.slice (some ad) xs.length cap) xs.length (xs.map (Value.int .u64)):=RdS.alloc E _;go_in;go_wp2_with (refine cH rfl (.tmp 5) (.tmp 6) 43 rfl w.heap.size 118 H _ 1 8 Tryz.underlying43 q s y z rfl (by omega) _ 0 [] rfl m _ xs.length (xs.map (Value.int .u64)) rfl r (by intro c hc;obtain⟨x,_,rfl⟩:=List.mem_map.1 hc;rfl) (by simp only[maxLen];omega) (by omega) (by simp) ?_;intro J L i j B;have p:=iE ((Below.refl w.heap.size w).alloc lr _) m (by simp) j);go_ret;rw[Nat.zero_add,List.nil_append]at i;exact⟨_,rfl,p,i⟩
theorem oA.rd{w:World}{p b:Nat}{m:Mem}(h:oA w p b m):RdS w 1 (.slice (some ⟨b,0,.none⟩) m.ws.length m.ws.length) m.ws.length (m.ws.map (Value.int .u64)):=by
 have h2:=RdS.new (sz:=1) (n:=m.ws.length) h.row (by simp[rowW]) (by have:=h.few;omega);simpa[rowW] using h2
theorem z8c(p b:Nat)(m:Mem)(w:World)(h:oA w p b m):
  Calls Tryz.prog 53 #[some p] w fun e w'=>∃ v',e= .returned v'/\Below w.heap.size w w'/\w'.ownsRow w.heap.size 118 1 v' m.ws.length (m.ws.map (Value.int .u64)):=by
 have o:w.cell? ⟨p,0,.none⟩=some (.slice (some ⟨b,0,.none⟩) m.ws.length m.ws.length):=kA h.blk 0;have hc:=hd' (z5x m.ws _ w h.rd h.few);go_in;go_wp2_with (go_at_call 103;refine hc.out.mono ?_;rintro e n ⟨l,rfl,i,j⟩);go_ret;exact⟨_,rfl,i,j⟩
attribute [local go_sem ↓] iL fL

def YA (w:World) (N:Nat) (c:Cn):Prop:=w.heap[N]?=some (.cells #[c.f,c.t,c.l,c.o] 87 (0,0))
section

variable {w:World} {N:Nat} {c:Cn}

theorem YA.set0(h:YA w N c)(x:Int):YA (w.setCell ⟨N,0,.none⟩ (.int .i64 x)) N ⟨x,c.t,c.l,c.o⟩:=by unfold YA at *;rw[heap_setCell_same w N 0 _ _ _ h];rfl
theorem YA.set1(h:YA w N c)(x:Int):YA (w.setCell ⟨N,1,.none⟩ (.int .i64 x)) N ⟨c.f,x,c.l,c.o⟩:=by unfold YA at *;rw[heap_setCell_same w N 1 _ _ _ h];rfl
theorem YA.set2(h:YA w N c)(x:Int):YA (w.setCell ⟨N,2,.none⟩ (.int .i64 x)) N ⟨c.f,c.t,x,c.o⟩:=by unfold YA at *;rw[heap_setCell_same w N 2 _ _ _ h];rfl
theorem YA.set3(h:YA w N c)(x:Int):YA (w.setCell ⟨N,3,.none⟩ (.int .i64 x)) N ⟨c.f,c.t,c.l,x⟩:=by unfold YA at *;rw[heap_setCell_same w N 3 _ _ _ h];rfl
theorem YA.c0(h:YA w N c):w.cell? ⟨N,0,.none⟩=some (.int .i64 c.f):=kA h 0
theorem YA.c1(h:YA w N c):w.cell? ⟨N,1,.none⟩=some (.int .i64 c.t):=kA h 1
theorem YA.c2(h:YA w N c):w.cell? ⟨N,2,.none⟩=some (.int .i64 c.l):=kA h 2
theorem YA.c3(h:YA w N c):w.cell? ⟨N,3,.none⟩=some (.int .i64 c.o):=kA h 3
theorem YA.fr(h:YA w N c)(i:Nat):w.frozen? ⟨N,i,.none⟩=false:=GA h i
theorem YA.lt(h:YA w N c):N<w.heap.size:=(jE h)
theorem YA.below{w':World}(h:YA w N c)(hb:Below w.heap.size w w'):YA w' N c:=(hb.block N h.lt).trans h
end

abbrev atN (N:Nat):Nat->Prop:=fun k=> k=N
theorem rM(w:World)(N:Nat)(c:Cn)(b:Bool)(k:Int)(hc:YA w N c)(i:c.nn)(hs:c.sum<=100000)(m:0<=k/\k<=100000):
  Calls Tryz.prog 83 #[some N,b,k] w fun e w'=>e= .returned (.tuple #[])/\Only (atN N) w w'/\YA w' N (c.add (JD b k)):=by
 have hb:=Cn.bd i hs;have c2:=hc.c2;have c3:=hc.c3;have f2:=hc.fr 2;have j:=hc.fr 3;have n:=wrp (c.l+k);have q:=wrp (c.o+k);rcases jB b with rfl|rfl
 ·go_in;go_wp2;go_end0;refine⟨rfl,(Only.refl (atN N) w).setCell (p:=⟨N,2,.none⟩) (.inl rfl) _,?_⟩;have:=hc.set2 (c.l+k);simpa[Cn.add,JD] using this
 go_in;go_wp2;go_end0;refine⟨rfl,(Only.refl (atN N) w).setCell (p:=⟨N,3,.none⟩) (.inl rfl) _,?_⟩;have:=hc.set3 (c.o+k);simpa[Cn.add,JD] using this
theorem Only.qC{N:Nat}{w w':World}(o:Only (atN N) w w'){b:Nat}(hb:b<w.heap.size)(f:b≠N)(i:Nat):w'.cell? ⟨b,i,.none⟩=w.cell? ⟨b,i,.none⟩:=by
 have:=o.block b hb f;simp only[World.cell?];rw[this]
theorem Only.FI{N B:Nat}{b w w':World}(h:Below B b w)(o:Only (atN N) w w')(f:B<=w.heap.size)(i:B<=N):Below B b w':=h.trans (o.below f fun k j=>by rw[j];exact i)
theorem z2f(k:Int)(i:Nat)(h:(i:Int)<=mA k):qA k*i<=512/\0<=qA k*i:=by
 have h1:=wH k;have h2:=CC k;have:=NE (c:=qA k) (m:=(i:Int)) (C:=32) (M:=16) (by omega) (by omega);omega
theorem zyk(h:Hp)(v:Value)(a k:Int)(V w:World)(N:Nat)(c:Cn)(b:Bok V v h)(ha:0<=a/\a<h.p)(hB:Below V.heap.size V w)(hN:V.heap.size<=N)(hc:YA w N c)(hn:c.nn)(hs:c.sum<=5000):
  Calls Tryz.prog 85 #[XE h v,a,k,some N] w fun e w'=>e= .returned (.tuple #[])/\Only (atN N) w w'/\YA w' N (c.add (h.slS a (qA k) (mA k).toNat)):=by
 have b3:=fun i X (hX:Below V.heap.size V X) hi=>lJ h v a i X (b.below hX) ha hi;have b1:=fun x X (hX:Below V.heap.size V X)=>GW h v x X (b.below hX);have R:=XC k;have b4:=mH k;have bk:=CC k;have bm:=wH k;have Z:=fun i=>z2f k i;obtain⟨q,hq⟩:∃ q:Nat,mA k=q:=⟨(mA k).toNat,by omega⟩;rw[hq]at R bk Z ⊢;rw[Int.toNat_natCast];generalize qA k=z at *;have I:c.add (h.slS a z 0)=c:=Cn.add_zero c;have J:∀ i,c.add (h.slS a z (i+1))=(c.add (h.slS a z i)).add (h.slC a z i):=fun i=>(Cn.add_assoc _ _ _).symm;have L:∀ i,(c.add (h.slS a z i)).nn:=fun i=>Cn.jO hn (h.OT a bm.1 i);have M:∀ i:Nat,i<=q->(c.add (h.slS a z i)).sum<=6000:=fun i hi=>by have:=Z i (by omega);rw[Cn.YP,h.eT];omega
 have Y:∀ i,h.slC a z i=if h.sk a i=1 then⟨z,0,0,0⟩ else if h.sk a i=3 then⟨0,z,0,0⟩ else JD (h.sk a i==2&&h.lv (h.sa a i)) z:=fun _=>rfl;generalize b6:(fun i=>c.add (h.slS a z i))=T at *;have b7:∀ i,c.add (h.slS a z i)=T i:=fun i=>by rw[<-b6]
 simp only[b7]at I J L M ⊢;clear b6 b7;replace b3:=hd' b3;replace b1:=hd' b1;replace R:=hd' R;replace b4:=hd' b4;replace I:=hd' I;replace J:=hd' J;replace L:=hd' L;replace M:=hd' M;replace Y:=hd' Y;have bp:=hc.lt;clear hq Z b;go_in;go_wp2_with fail;refine(b4 _).mono ?_;rintro e w2 ⟨rfl,hw⟩;obtain rfl:=hw.symm;clear hw;go_wp2_with fail;refine(R _).mono ?_;rintro e w2 ⟨rfl,hw⟩;obtain rfl:=hw.symm;clear hw;obtain⟨H,hH,b5⟩:=hidv w.heap.size;have r:H≠N:=by omega
 have g0:=jA w (.cells #[h.p,h.c,h.m,v] 115);have hW:Only (atN N) w (w.alloc (.cells #[h.p,h.c,h.m,v] 115)):=(Only.refl _ _).alloc _;have G:=hB.alloc hB.size (.cells #[h.p,h.c,h.m,v] 115);have bg:YA (w.alloc (.cells #[h.p,h.c,h.m,v] 115)) N c:=hc.below (br.alloc lr _);have s:H<(w.alloc (.cells #[h.p,h.c,h.m,v] 115)).heap.size:=by simp;omega
 have bn:N<(w.alloc (.cells #[h.p,h.c,h.m,v] 115)).heap.size:=by simp;omega
 rw[<-b5]at g0 ⊢;clear b5;generalize w.alloc (.cells #[h.p,h.c,h.m,v] 115)=W at *;have c0:W.cell? ⟨H,0,.none⟩=some (.int .i64 h.p):=kA g0 0;have c1:W.cell? ⟨H,1,.none⟩=some (.int .i64 h.c):=kA g0 1;have c2:W.cell? ⟨H,2,.none⟩=some (.int .i64 h.m):=kA g0 2;have c3:W.cell? ⟨H,3,.none⟩=some v:=kA g0 3;clear g0;go_wp2_with fail;go_loopw [15] (fun vi wr=>∃ i:Nat,i<=q/\vi= .int .i64 i/\Only (atN N) W wr/\YA wr N (T i)) (fun vi _=>q-(intOf vi).toNat);case atStart=>exact⟨0,Nat.zero_le _,rfl,Only.refl _ _,by rw[I];exact bg⟩
 case round=>
  obtain⟨i,hi,rfl,o,E⟩:=hrel;have d0:=(o.qC s r 0).trans c0;have d1:=(o.qC s r 1).trans c1;have d2:=(o.qC s r 2).trans c2;have d3:=(o.qC s r 3).trans c3;have bf:=Only.FI G o G.size hN;by_cases bj:i<q
  ·have C:=b3 i wr bf (by omega);have j:=J i;rw[Y i]at j;have b2:=L i;have bb:=M i hi;have bu:=Cn.bd b2 bb;have O:=b1 (h.sa a i);generalize h.sk a i=U at *;generalize h.sa a i=S at *;generalize h.lv S=lb at *;generalize T i=y at *;replace C:=hd' C;replace O:=hd' O;by_cases B:U=1
   ·rw[jP B]at j;subst B;replace j:=hd' j;go_wp2_with fail;refine C.out.mono ?_;rintro e w3 ⟨rfl,l⟩;have n:=(E.below l).below (br.alloc lr (.cells #[.int .i64 1,S] 139));have D:Only (atN N) W (w3.alloc (.cells #[.int .i64 1,S] 139)):=(o.trans (Only.of_below l) (fun _ _ h=>h)).alloc _;have q0:=n.c0;have q1:=n.fr 0;have w4:=wrp (y.f+z);go_wp2;refine⟨⟨i+1,by omega,by go_num,D.setCell (p:=⟨N,0,.none⟩) (.inl rfl) _,?_⟩,by simp[intOf];omega⟩;have:=n.set0 (y.f+z);rw[j];simpa[Cn.add] using this
   by_cases F:U=3
   ·rw[jN B,jP F]at j;subst F;replace j:=hd' j;clear B;go_wp2_with fail;refine C.out.mono ?_;rintro e w3 ⟨rfl,l⟩;have n:=(E.below l).below (br.alloc lr (.cells #[.int .i64 3,S] 139));have D:Only (atN N) W (w3.alloc (.cells #[.int .i64 3,S] 139)):=(o.trans (Only.of_below l) (fun _ _ h=>h)).alloc _;have q0:=n.c1;have q1:=n.fr 1;have w4:=wrp (y.t+z);go_wp2;refine⟨⟨i+1,by omega,by go_num,D.setCell (p:=⟨N,1,.none⟩) (.inl rfl) _,?_⟩,by simp[intOf];omega⟩;have:=n.set1 (y.t+z);rw[j];simpa[Cn.add] using this
   rw[jN B,jN F]at j;have bq:(U==1)=false:=by rw[beq_eq_false_iff_ne];exact B
   have bs:(U==3)=false:=by rw[beq_eq_false_iff_ne];exact F
   by_cases b9:U=2
   ·subst b9;replace j:T (i+1)=y.add (JD lb z):=j;replace j:=hd' j;clear B F;go_wp2_with fail;refine C.out.mono ?_;rintro e w3 ⟨rfl,l⟩;have n:=(E.below l).below (br.alloc lr (.cells #[.int .i64 2,S] 139));have D:Only (atN N) W (w3.alloc (.cells #[.int .i64 2,S] 139)):=(o.trans (Only.of_below l) (fun _ _ h=>h)).alloc _;have e0:=(D.qC s r 0).trans c0;have e1:=(D.qC s r 1).trans c1;have e2:=(D.qC s r 2).trans c2;have e3:=(D.qC s r 3).trans c3;have bc:=Only.FI G D G.size hN;go_wp2_with fail;refine(O _ bc).mono ?_;rintro e w4 ⟨rfl,b8⟩;have bh:=n.below b8;have o4:=D.trans (Only.of_below b8) (fun _ _ h=>h);go_wp2_with fail;refine(rM _ N y lb z bh b2 (by omega) (by omega)).mono ?_;rintro e w5 ⟨rfl,o5,b0⟩;go_wp2;exact⟨⟨i+1,by omega,by go_num,o4.trans o5 (fun _ _ h=>h),by rw[j];exact b0⟩,by simp[intOf];omega⟩
   have ba:(U==2)=false:=by rw[beq_eq_false_iff_ne];exact b9
   rw[ba,Bool.false_and]at j;replace j:=hd' j;clear O;go_wp2_with fail;refine C.out.mono ?_;rintro e w3 ⟨rfl,l⟩;have n:=(E.below l).below (br.alloc lr (.cells #[U,S] 139));have D:Only (atN N) W (w3.alloc (.cells #[U,S] 139)):=(o.trans (Only.of_below l) (fun _ _ h=>h)).alloc _;go_wp2_with fail;refine(rM _ N y false z n b2 (by omega) (by omega)).mono ?_;rintro e w5 ⟨rfl,o5,b0⟩;go_wp2;exact⟨⟨i+1,by omega,by go_num,D.trans o5 (fun _ _ h=>h),by rw[j];exact b0⟩,by simp[intOf];omega⟩
  have bi:i=q:=by omega
  subst bi;clear bj;have bv:¬ ((i:Int)<(i:Int)):=by omega
  go_wp2;go_end0;exact⟨rfl,hW.trans o (fun _ _ h=>h),E⟩
end

section

open Go.RowKit

attribute [local go_sem ↓] Go.wp_at_zero Go.wp_at_succ

theorem fK(h:Hp)(v:Value)(w:World)(hr:RdZ .u64 w v h.xs)(hf:h.fit):
  Calls Tryz.prog 37 #[shV h,v] w fun e w'=>e= .returned (.agg #[h.count.f,h.count.t,h.count.l,h.count.o])/\Below w.heap.size w w':=by
 obtain⟨ao,cap,hv,_,_,_⟩:=hr.cells;generalize h.xs.length=n at hv;subst hv;have D:=fun X L=>CK h (.slice ao n cap) X (hr.below (w':=X) L);have c5:h.count=if h.ok=true then h.cn h.p.toNat else Cn.zero:=rfl;obtain⟨S,hS⟩:∃ S:Obj,S= .cells #[h.p,h.c,h.m] 23:=⟨_,rfl⟩;obtain⟨Z,hZ⟩:∃ Z:Obj,Z= .cells #[.int .i64 0,.int .i64 0,.int .i64 0,.int .i64 0] 87:=⟨_,rfl⟩;obtain⟨t1,t2,t3,t4,t5⟩:=EO w S Z Z;rcases jB h.ok with C|C;case inr=>
  rw[C]at D;rw[c5,C,jN Bool.false_ne_true];replace D:=hd' D;subst hS hZ;go_in;go_wp2_with fail;refine(D _ t5).mono ?_;rintro e w1 ⟨rfl,z⟩;have s:=z.alloc z.size (.cells #[h.p,h.c,h.m,.slice ao n cap] 115);have r1:=(s.block _ (by rw[t4];omega)).trans t2;have r2:=(s.block _ (by rw[t4];omega)).trans t3;have hB:=t5.trans (s.mono t5.size);have a0:=(kA r1 0).trans (show _=some (.int .i64 0) from rfl);have a1:=(kA r1 1).trans (show _=some (.int .i64 0) from rfl);have a2:=(kA r1 2).trans (show _=some (.int .i64 0) from rfl);have a3:=(kA r1 3).trans (show _=some (.int .i64 0) from rfl);have aF:=GA r1;have b0:=(kA r2 0).trans (show _=some (.int .i64 0) from rfl);have b1:=(kA r2 1).trans (show _=some (.int .i64 0) from rfl);have b2:=(kA r2 2).trans (show _=some (.int .i64 0) from rfl);have b3:=(kA r2 3).trans (show _=some (.int .i64 0) from rfl);go_upto_region 3 with fail;generalize w1.alloc (.cells #[h.p,h.c,h.m,.slice ao n cap] 115)=W at *;obtain⟨H,hH,J⟩:=hidv w.heap.size;rw[<-J]at a0 a1 a2 a3 b0 b1 b2 b3 aF hB ⊢;clear J t1 t2 t3 t4 t5 r1 r2 z s;have b4:H<=H+1:=by omega
  have bx:H+1≠H+1+1:=by omega
  generalize H+1+1=N at *;generalize H+1=R at *;go_wp2;exact bodyPost_ret (v:= .agg #[.int .i64 0,.int .i64 0,.int .i64 0,.int .i64 0]) (by simp[results,Tryz.results37,go_sem,a0,a1,a2,a3]) rfl ⟨rfl,by rw[<-hH];exact((((hB.setCell b4 _).setCell b4 _).setCell b4 _).setCell b4 _)⟩
 case inl=>
  have b:Bok w (.slice ao n cap) h:=⟨C,hr,hf⟩;obtain⟨bp,_,_,_⟩:=b.bd;rw[C]at D;rw[c5,C,jP rfl];have bm:=fun a X (L:Below w.heap.size w X) ha=>PG h (.slice ao n cap) a X (b.below L) ha;have bg:=fun a X (L:Below w.heap.size w X) ha=>zy8 h (.slice ao n cap) a X (b.below L) ha;have bi:=fun x X (L:Below w.heap.size w X)=>GW h (.slice ao n cap) x X (b.below L);obtain⟨P,hP⟩:∃ P:Nat,Hid (h.p=P):=⟨h.p.toNat,hd' (by omega)⟩;have bw:h.p.toNat=P:=by have:=hP.out;omega
  rw[bw];clear bw;have T:∀ k:Nat,h.cn (k+1)=(h.cn k).add (h.pgC k):=fun _=>rfl;have O:∀ k:Nat,k<=64->(h.cn k).nn/\(h.cn k).sum<=4096:=fun k hk=>⟨h.LQ k,by rw[h.AQ];omega⟩;have bj:∀ a:Int,h.pgC a=if (h.hb a || !h.pb a)=true then JD (h.hb a&&h.lv (h.hc a)) 64 else if h.pk a=0 then⟨64,0,0,0⟩ else if h.pk a=2 then h.slS a (qA (h.pa a)) (mA (h.pa a)).toNat else⟨0,64,0,0⟩:=fun _=>rfl;replace D:=hd' D;replace bm:=hd' bm;replace bg:=hd' bg;replace bi:=hd' bi;replace T:=hd' T;replace O:=hd' O;replace bj:=hd' bj;replace C:=hd' C;subst hS hZ;go_in;go_wp2_with fail;refine(D _ t5).mono ?_;rintro e w1 ⟨rfl,z⟩;have s:=z.alloc z.size (.cells #[h.p,h.c,h.m,.slice ao n cap] 115);have r0:=(s.block _ (by rw[t4];omega)).trans t1;have r1:=(s.block _ (by rw[t4];omega)).trans t2;have r2:=(s.block _ (by rw[t4];omega)).trans t3;have r3:=jA w1 (.cells #[h.p,h.c,h.m,.slice ao n cap] 115);have hB:=t5.trans (s.mono t5.size);have bc:=z.size;go_upto_region 3 with fail;obtain⟨H,hH,J⟩:=hidv w.heap.size;obtain⟨K,hK,bv⟩:=hidv w1.heap.size;rw[<-bv]at r3 ⊢;rw[<-J]at r0 r1 r2 ⊢;have cl:H+2<K:=by rw[t4]at bc;omega
  have lS:=(jE r0);have lR:=(jE r1);have I:=(jE r3);have ba:w.heap.size<=H+1+1:=by omega
  have c7:YA (w1.alloc (.cells #[h.p,h.c,h.m,.slice ao n cap] 115)) (H+1+1) Cn.zero:=r2;clear bv J t1 t2 t3 t4 t5 z s bc r2;generalize w1.alloc (.cells #[h.p,h.c,h.m,.slice ao n cap] 115)=W at *;have s0:W.cell? ⟨H,0,.none⟩=some (.int .i64 h.p):=kA r0 0;have k0:W.cell? ⟨K,0,.none⟩=some (.int .i64 h.p):=kA r3 0;have k1:W.cell? ⟨K,1,.none⟩=some (.int .i64 h.c):=kA r3 1;have k2:W.cell? ⟨K,2,.none⟩=some (.int .i64 h.m):=kA r3 2;have k3:W.cell? ⟨K,3,.none⟩=some (.slice ao n cap):=kA r3 3;have r:K≠H+1+1:=by omega
  have ck:H≠H+1+1:=by omega
  have bx:H+1≠H+1+1:=by omega
  rw[hP]at s0;clear r0 r3;have bb:w.heap.size<=H+1:=by have:=hH.out;omega
  have cf:K<H+1+1\/H+1+1<K:=by omega
  generalize H+1+1=N at *;generalize H+1=R at *;go_wp2_with fail;go_loopw [24] (fun vi wr=>∃ i:Nat,i<=P/\vi= .int .i64 i/\Only (atN N) W wr/\YA wr N (h.cn i)) (fun vi _=>P-(intOf vi).toNat);case atStart=>exact⟨0,Nat.zero_le _,rfl,Only.refl _ _,c7⟩
  case round=>
   obtain⟨i,hi,rfl,E,F⟩:=hrel;have bu:=Only.FI hB E hB.size ba;have d0:=(E.qC I r 0).trans k0;have d1:=(E.qC I r 1).trans k1;have d2:=(E.qC I r 2).trans k2;have d3:=(E.qC I r 3).trans k3;by_cases cb:i<P
   ·have U:0<=(i:Int)/\(i:Int)<h.p:=by have:=hP.out;omega
    have c6:i<=64:=by have:=hP.out;omega
    obtain⟨b8,cc⟩:=O i c6;have cm:=Cn.bd b8 cc;have q:=T i;rw[bj]at q;have b9:=bm i wr bu U;have b7:=fun X L=>bg i X L U;have bh:=bi (h.hc i);have bn:=fun X N c L hN hc hn hs=>zyk h (.slice ao n cap) i (h.pa i) w X N c b U L hN hc hn hs;generalize h.pk i=pk at *;generalize h.pa i=pa at *;generalize h.pn i=pn at *;generalize h.pb i=pb at *;generalize h.hb i=hb at *;generalize h.hc i=hc at *;generalize h.lv hc=lb at *;generalize h.cn i=y at *;replace b9:=hd' b9;replace b7:=hd' b7;replace bh:=hd' bh;replace bn:=hd' bn;replace U:=hd' U
    have fin:Hid (∀ X c,Only (atN N) W X->YA X N c->h.cn (i+1)=c->∃ j:Nat,j<=P/\Value.int .i64 ((i:Int)+1)= .int .i64 j/\Only (atN N) W X/\YA X N (h.cn j)):=
     hd' fun X c ho hc e=>⟨i+1,by omega,by go_num,ho,by rw[e];exact hc⟩
    go_wp2_with fail;refine b9.out.mono ?_;rintro e w3 ⟨rfl,b5⟩;have o3:Only (atN N) W (w3.alloc (.cells #[pk,pa,pn] 136)):=(E.trans (Only.of_below b5) (fun _ _ h=>h)).alloc _;have c4:=(F.below b5).below (br.alloc lr (.cells #[pk,pa,pn] 136));have g3:=jA w3 (.cells #[pk,pa,pn] 136);have c9:w3.heap.size≠N:=by have:=(F.below b5).lt;omega
    go_upto_region 9 with fail;generalize w3.heap.size=G at g3 c9 ⊢;generalize w3.alloc (.cells #[pk,pa,pn] 136)=W3 at *;have lG:=(jE g3);have bq:=Only.FI hB o3 hB.size ba;have d0:=(o3.qC I r 0).trans k0;have d1:=(o3.qC I r 1).trans k1;have d2:=(o3.qC I r 2).trans k2;have d3:=(o3.qC I r 3).trans k3;go_wp2_with fail;refine(b7 _ bq).mono ?_;rintro e w4 ⟨rfl,b6⟩;have Y:=o3.trans (Only.of_below b6) (fun _ _ h=>h);have B:=c4.below b6;have bs:=Only.FI hB Y hB.size ba;have d0:=(Y.qC I r 0).trans k0;have d1:=(Y.qC I r 1).trans k1;have d2:=(Y.qC I r 2).trans k2;have d3:=(Y.qC I r 3).trans k3;have g4:=(b6.block _ lG).trans g3;have cg:=kA g4;have n0:=B.c0;have n1:=B.c1;have nF:=B.fr;clear b9 b7 b5 b6 g3 g4 o3 c4 bq;rcases jB hb with bf|bf
    ·subst bf;replace q:h.cn (i+1)=y.add (JD lb 64):=q;replace q:=hd' q;go_wp2_with fail;refine(bh _ bs).mono ?_;rintro e w5 ⟨rfl,bz⟩;have o5:=Y.trans (Only.of_below bz) (fun _ _ h=>h);have c8:=B.below bz;go_wp2_with fail;refine(rM _ _ y lb 64 c8 b8 (by omega) (by omega)).mono ?_;rintro e w6 ⟨rfl,o6,M⟩;go_wp2;exact⟨fin _ _ (o5.trans o6 (fun _ _ h=>h)) M q.out,by simp[intOf];omega⟩
    subst bf;rcases jB pb with bk|bk
    ·subst bk;rw[jN (by simp)]at q;by_cases h0:pk=0
     ·rw[jP h0]at q;subst h0;replace q:=hd' q;have cd:=wrp (y.f+64);go_wp2;refine⟨fin _ _ (Y.setCell (p:=⟨N,0,.none⟩) (.inl rfl) _) (B.set0 (y.f+64)) ?_,by simp[intOf];omega⟩;rw[q];simp[Cn.add]
     rw[jN h0]at q;have ch:(pk==0)=false:=by rw[beq_eq_false_iff_ne];exact h0
     by_cases h2:pk=2
     ·rw[jP h2]at q;subst h2;replace q:=hd' q;go_wp2_with fail;refine(bn _ _ y bs ba B b8 (by omega)).mono ?_;rintro e w6 ⟨rfl,o6,M⟩;go_wp2;exact⟨fin _ _ (Y.trans o6 (fun _ _ h=>h)) M q.out,by simp[intOf];omega⟩
     rw[jN h2]at q;have cj:(pk==2)=false:=by rw[beq_eq_false_iff_ne];exact h2
     replace q:=hd' q;have cd:=wrp (y.t+64);go_wp2;refine⟨fin _ _ (Y.setCell (p:=⟨N,1,.none⟩) (.inl rfl) _) (B.set1 (y.t+64)) ?_,by simp[intOf];omega⟩;rw[q];simp[Cn.add]
    subst bk;replace q:h.cn (i+1)=y.add (JD false 64):=q;replace q:=hd' q;go_wp2_with fail;refine(rM _ _ y false 64 B b8 (by omega) (by omega)).mono ?_;rintro e w6 ⟨rfl,o6,M⟩;go_wp2;exact⟨fin _ _ (Y.trans o6 (fun _ _ h=>h)) M q.out,by simp[intOf];omega⟩
   have ca:i=P:=by omega
   subst ca;clear cb;have cp:¬ ((i:Int)<(i:Int)):=by omega
   have n0:=F.c0;have n1:=F.c1;have n2:=F.c2;have n3:=F.c3;have V:=(E.block _ lR bx).trans r1;have a0:=(kA V 0).trans (show _=some (.int .i64 0) from rfl);have a1:=(kA V 1).trans (show _=some (.int .i64 0) from rfl);have a2:=(kA V 2).trans (show _=some (.int .i64 0) from rfl);have a3:=(kA V 3).trans (show _=some (.int .i64 0) from rfl);have aF:=GA V;go_wp2;exact bodyPost_ret (v:= .agg #[.int .i64 (h.cn i).f,.int .i64 (h.cn i).t,.int .i64 (h.cn i).l,.int .i64 (h.cn i).o]) (by simp[results,Tryz.results37,go_sem,a0,a1,a2,a3]) rfl ⟨rfl,((((bu.setCell bb _).setCell bb _).setCell bb _).setCell bb _)⟩
end

end Go.Proofs.YtkilokkopbajkaaGreat
