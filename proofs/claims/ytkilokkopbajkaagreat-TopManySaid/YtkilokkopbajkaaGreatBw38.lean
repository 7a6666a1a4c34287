/- Lemmas for the claim. -/
import Derived.Test.YtkilokkopbajkaaGreatBw34

import Derived.Test.YtkilokkopbajkaaGreatBw37

set_option linter.all false
set_option maxHeartbeats 8000000
set_option maxRecDepth 100000
namespace Go.Proofs.YtkilokkopbajkaaGreat

attribute [local go_sem] iC

section

open Go.RowKit

attribute [local go_sem ↓] Go.wp_at_zero Go.wp_at_succ

theorem SV(i cl a b d:Int)(j:Nat)(w:World):Calls Tryz.prog 43 #[.agg #[i,cl,a,b,d,.float .f64 j]] w fun e w'=>e= .returned (.bool (decide (1<=i/\i<=4)))/\Below w.heap.size w w':=by
 by_cases h1:1<=i
 ·by_cases h2:i<=4
  ·rw[jT (And.intro h1 h2)];have d1:decide (i>=1)=true:=jT h1;have d2:decide (i<=4)=true:=jT h2;go_in;go_wp2;go_ret;exact⟨rfl,br.alloc lr _⟩
  rw[jF (fun h:1<=i/\i<=4=>h2 h.2)];have d1:decide (i>=1)=true:=jT h1;have d2:decide (i<=4)=false:=jF h2;go_in;go_wp2;go_ret;exact⟨rfl,br.alloc lr _⟩
 rw[jF (fun h:1<=i/\i<=4=>h1 h.1)];have d1:decide (i>=1)=false:=jF h1;go_in;go_wp2;go_ret;exact⟨rfl,br.alloc lr _⟩
section

variable {B:Nat} {F:Nat->Prop} {W:World} {g:Nat} {s:Sh} {d:Wd} {x:Wx} {n:Nat}

theorem MY(h:WdP B F W g s d x)(z:B<=W.heap.size)(C:wdOk s d n)(c:Int)(k:Kl)(t:d.kl c=some k)(o:Op3):
  Calls Tryz.prog 47 #[.pointer (some ⟨x.qs c.toNat,0,.none⟩),.agg #[o.k,o.a,o.n]] W fun r w'=>∃ v E,r= .returned (.tuple #[v,.int .i64 (k.invoke s o).2.2])/\RdE w' v (k.invoke s o).2.1/\
   WdP B (grow F W w') w' g s {d with l:=d.l.set c.toNat (some (k.invoke s o).1)} E/\Only F W w':=by
 obtain⟨y,D,p⟩:=C.kl c k t;have j:=(Wd.lC t).2;have b:d.l.getD c.toNat none=some k:=by have h1:=t;unfold Wd.kl at h1;rw[jP p.1]at h1;exact h1
 have q:=h.cw (n:=0) b y C.fi;refine(yfi o q z).mono fun r w' hS=>?_;obtain⟨v,h1,h2⟩:=hS.ret;have h3:=h.stepped z b j hS.cw.kl hS.cw.wd (Only.weak hS.only fun i hi=>.inl hi);exact⟨v,_,h1,fQ h2,h3.1,h3.2⟩
theorem jY(h:WdP B F W g s d x)(O:B<=W.heap.size)(N:wdOk s d n)(c:Ch)(q:c.bad s):
  Calls Tryz.prog 11 #[some g,.agg c.cells.toArray] W fun e w'=>e= .returned (.int .i64 1)/\WdTo B F W w' g s d:=by
 have S:=N.fi.bd;have hm:=N.fi.may;obtain⟨y,o,D,z,cn,C⟩:=c;show Calls Tryz.prog 11 #[some g,.agg #[y,o,D,z,cn,.float .f64 C]] W _;have b:=(Below.refl W.heap.size W).alloc lr (.cells #[y,o,D,z,cn,.float .f64 C] 38);have t0:aA (W.alloc (.cells #[y,o,D,z,cn,.float .f64 C] 38)) W.heap.size #[y,o,D,z,cn,.float .f64 C] 38:=heap_alloc_new _ _;have j:=fun Y=>SV y o D z cn C Y;have r:=fun Y=>kC s.p s.c s.m o Y;have M:∀ (p:Nat) (W:World),(binOp .eql 27 (.pointer (some ⟨p,0,.none⟩)) (.pointer none)).run Tryz.prog W= .ok (.bool false) W:=fun p W=>by kernel_rfl
 have i:=fun W1 (hb:Below W.heap.size W W1)=>WdTo.start (W1:=W1) h O hb;have g0:(W.alloc (.cells #[y,o,D,z,cn,.float .f64 C] 38)).cell? ⟨g,0,.none⟩=some (.int .i64 s.p):=(h.below b).top.cell 0;have Z:(W.alloc (.cells #[y,o,D,z,cn,.float .f64 C] 38)).cell? ⟨g,1,.none⟩=some (.int .i64 s.c):=(h.below b).top.cell 1;have g2:(W.alloc (.cells #[y,o,D,z,cn,.float .f64 C] 38)).cell? ⟨g,2,.none⟩=some (.int .i64 s.m):=(h.below b).top.cell 2;have V:=(h.below b).top.lt;replace i:=hd' i;unfold Ch.bad at q;dsimp only at q;clear h;by_cases G:1<=y/\y<=4
 ·have T:zA s.p s.c s.m o<0:=by
   rcases Int.lt_or_le (zA s.p s.c s.m o) 0 with e|e
   ·exact e
   have:=(mD e).2;omega
  rw[decide_eq_true G]at j;generalize zA s.p s.c s.m o=sx at *;replace j:=hd' j;replace r:=hd' r;clear q G;go_in;go_upto_region 1 with fail;generalize W.alloc (.cells #[y,o,D,z,cn,.float .f64 C] 38)=X at *;obtain⟨H,R,l⟩:=hidv W.heap.size;rw[<-l]at t0 ⊢;try rw[<-l]at hFH hHl
  clear l;replace b:=hd' b;have U:=t0.lt;have I:=t0.cell;refine wre ?_;repeat (go_big_quiet_step ((first|(go_at_call 43;exact AA (j.out _))|(go_at_call 44;exact AA (r.out _)))))
  refine wqn fun Y E=>?_;have L:=E;clear I;go_wp2_with fail;go_returns;exact⟨rfl,i.out _ (xA b.out L)⟩
 rw[decide_eq_false G]at j;replace j:=hd' j;replace r:=hd' r;clear q G;go_in;go_upto_region 1 with fail;generalize W.alloc (.cells #[y,o,D,z,cn,.float .f64 C] 38)=X at *;obtain⟨H,R,l⟩:=hidv W.heap.size;rw[<-l]at t0 ⊢;try rw[<-l]at hFH hHl
 clear l;replace b:=hd' b;have U:=t0.lt;have J:=t0.cell;refine wre ?_;repeat (go_big_quiet_step ((first|(go_at_call 43;exact AA (j.out _))|(go_at_call 44;exact AA (r.out _)))))
 refine wqn fun Y E=>?_;have L:=E;clear J;go_wp2_with fail;go_returns;exact⟨rfl,i.out _ (xA b.out L)⟩
theorem LS(h:WdP B F W g s d x)(hB:B<=W.heap.size)(ho:wdOk s d n)(hn:n<=30000000)(c:Ch)(G:¬ c.bad s):
  Calls Tryz.prog 11 #[some g,.agg c.cells.toArray] W fun e w'=>e= .returned (.int .i64 (d.act s c).2)/\WdTq (fun q=>c.kind=3->q=x.qs) B F W w' g s (d.act s c).1:=by
 have eb:=ho.fi.bd;have hm:=ho.fi.may;obtain⟨j,b,C,z,cn,T⟩:=c;show Calls Tryz.prog 11 #[some g,.agg #[j,b,C,z,cn,.float .f64 T]] W _;have b6:=(Below.refl W.heap.size W).alloc lr (.cells #[j,b,C,z,cn,.float .f64 T] 38);have t0:aA (W.alloc (.cells #[j,b,C,z,cn,.float .f64 T] 38)) W.heap.size #[j,b,C,z,cn,.float .f64 T] 38:=heap_alloc_new _ _;have b9:=fun Y=>SV j b C z cn T Y;have b7:=fun Y=>kC s.p s.c s.m b Y;have e7:∀ (p:Nat) (W:World),(binOp .eql 27 (.pointer (some ⟨p,0,.none⟩)) (.pointer none)).run Tryz.prog W= .ok (.bool false) W:=fun p W=>by kernel_rfl
 have eh:∀ (p:Nat) (W:World),(binOp .eql 57 (.pointer (some ⟨p,0,.none⟩)) (.pointer none)).run Tryz.prog W= .ok (.bool false) W:=fun p W=>by kernel_rfl
 have M:1<=j/\j<=4/\0<=b/\b<s.c:=by unfold Ch.bad at G;dsimp only at G;omega
 have hc:0<=b/\b<s.c:=⟨M.2.2.1,M.2.2.2⟩;have ec:¬ b<0:=by omega
 have ed:=hc.1;rw[LH hm hc]at b7;rw[decide_eq_true (And.intro M.1 M.2.1)]at b9;have hi:b.toNat<d.l.length:=by rw[ho.len];omega
 have ef:b<(d.l.length:Int):=by omega
 have bi:=ho.tr
 have bm:d.act s ⟨j,b,C,z,cn,T⟩=if j=1 then d.begin s ⟨j,b,C,z,cn,T⟩ else match d.kl b with
  |none=>(d,2)
  |some k=>if j=3 then d.step s b k else if j=2 then d.ask s ⟨j,b,C,z,cn,T⟩ k else d.kill b:=if_neg G
 have O:∀ Z,Below W.heap.size W Z->Calls Tryz.prog 45 #[some g,.agg #[j,b,C,z,cn,.float .f64 T]] Z fun e w'=>e= .returned (.int .i64 (d.begin s ⟨j,b,C,z,cn,T⟩).2)/\WdTo B F Z w' g s (d.begin s ⟨j,b,C,z,cn,T⟩).1:=fun Z hb=>zyt (h.below hb) (by have:=hb.size;omega) ho hn ⟨j,b,C,z,cn,T⟩ hc;have U:=fun k (hk:d.kl b=some k) Z (hb:Below W.heap.size W Z)=>z2w (h.below hb) (by have:=hb.size;omega) ho hn b k hk;have b5:=fun k (hk:d.kl b=some k) Z (hb:Below W.heap.size W Z)=>MY (h.below hb) (by have:=hb.size;omega) ho b k hk ⟨C,z,cn⟩;have E:=fun W1 W2 d2 (hb:Below W.heap.size W W1)=>WdTo.from (W1:=W1) (W2:=W2) (d2:=d2) h hB hb;have bb:=fun W1 (hb:Below W.heap.size W W1)=>WdTo.start (W1:=W1) h hB hb;have D:=fun W1 W2 d2 (hb:Below W.heap.size W W1)=>WdTq.from (R:=fun q=>q=x.qs) (W1:=W1) (W2:=W2) (d2:=d2) h hB hb;have S:=fun W1 (hb:Below W.heap.size W W1)=>WdTq.start (R:=fun q=>j=3->q=x.qs) (W1:=W1) h hB hb (fun _=>rfl);have bv:=fun F' Y L x' (hY:WdP B F' Y g s {d with l:=L} x')=>vU hY ho.fi b 2 hc;have N:=fun Z Y (hb:Below W.heap.size W Z) (cs:Below Z.heap.size Z Y)=>WdP.place (W:=Z) (W':=Y) (c:=b.toNat) (q:=0) (o:=none) (Fq:=fun _=>False) (h.below hb) (by have:=hb.size;omega) hi cs (fun k e=>by cases e) (fun i e=>e.elim) rfl;have bx:¬ F W.heap.size:=fun e=>by have:=(h.lt _ e).2;omega
 have bq:W.heap.size≠x.lb:=fun e=>by have:=(h.lt _ h.fl.1).2;omega
 have cu:g≠x.lb:=fun e=>by have:=h.fg.2;have:=h.fl.2;rw[e]at *;omega
 have V:∀ Y:World,Below W.heap.size W Y->aA Y g (iC s x.p x.lb d.l.length x.tv x.sv) 105/\Y.cell? ⟨x.lb,b.toNat,.none⟩=some (ptrK (d.kl b) (x.qs b.toNat))/\(∀ i,Y.frozen? ⟨x.lb,i,.none⟩=false)/\x.lb<Y.heap.size:=fun Y hb=>⟨(h.below hb).top,(h.below hb).ptr hc.1 hi,GA (h.below hb).lst,(h.below hb).lst.lt⟩;have k0:=V _ b6;have cd:=k0.1.cell;have e2:=k0.1.lt;obtain⟨R,hR,bz⟩:∃ R:Wd × Int,Hid (R=d.act s ⟨j,b,C,z,cn,T⟩)/\R=d.act s ⟨j,b,C,z,cn,T⟩:=⟨_,hd' rfl,rfl⟩;rw[<-bz];clear bz k0 h;replace hR:=hd' (hR.out.trans bm);replace O:=hd' O;replace U:=hd' U;replace b5:=hd' b5;replace E:=hd' E;replace bb:=hd' bb;replace D:=hd' D;replace S:=hd' S;replace bv:=hd' bv;replace N:=hd' N;replace V:=hd' V;replace b9:=hd' b9;replace b7:=hd' b7;replace bi:=hd' bi;replace G:=hd' G;clear bm;go_in;go_upto_region 1 with fail;generalize W.alloc (.cells #[j,b,C,z,cn,.float .f64 T] 38)=X at *;obtain⟨H,hH,bp⟩:=hidv W.heap.size;rw[<-bp]at t0 ⊢;try rw[<-bp]at bx bq
 clear bp;replace b6:=hd' b6;have lH:=t0.lt;obtain⟨x0,x1,x2,x3,x4⟩:=ci5 j b C z cn t0.cell;have x5:=ce (.float .f64 T) (t0.cell 5);refine wre ?_;repeat (go_big_quiet_step ((first|(go_at_call 43;exact AA (b9.out _))|(go_at_call 44;exact AA (b7.out _)))))
 refine wqn fun Y cr=>?_;have hX:=cr;clear x0 x1 x2 x3 x4 x5;have bu:=xA b6.out hX;have tY:=t0.below hX;have kY:=V.out _ bu;clear t0 b6 b7 b9 cd e2 lH;have cp:=hX.size;have cl:H<Y.heap.size:=tY.lt;have e3:=kY.1.lt;have cf:=tY.cell;have cg:=kY.1.cell;have yl:=kY.2.1;have e5:=kY.2.2.2;clear kY hX;go_upto_region 3 with fail;go_quiet (fail);have c4:=below_drewN (Below.refl Y.heap.size Y) nq;have tZ:aA (Y.drewN nq) H _ _:=tY.drewN nq;generalize Y.drewN nq=Z at *;have y:=xA bu c4;have kZ:=V.out _ y;have e1:=tZ.lt;have e4:=kZ.1.lt;obtain⟨z0,z1,z2,z3,z4⟩:=ci5 j b C z cn tZ.cell;have ch:=tZ.cell;have bw:=ce (.slice (some ⟨x.lb,0,.none⟩) d.l.length d.l.length) (kZ.1.cell 4);have zl:=kZ.2.1;have zf:=kZ.2.2.1;have e6:=kZ.2.2.2;clear cf cg yl e5 tY e3 cl kZ cp c4 bu;obtain⟨pv,c6,bn⟩:∃ pv,Hid (pv=ptrK (d.kl b) (x.qs b.toNat))/\pv=ptrK (d.kl b) (x.qs b.toNat):=⟨_,hd' rfl,rfl⟩;rw[<-bn]at zl ⊢;clear bn;by_cases b8:j=1
 ·have I:=hd' (hR.out.trans (if_pos b8));clear hR M;subst b8;go_wp2_with (first|(go_at_call 45;(with_reducible refine(O.out _ y).mono ?_);rintro r w5 ⟨rfl,hT⟩));go_returns;rw[I.out];exact⟨rfl,(E.out _ _ _ y hT).q fun q e=>absurd e (show ¬ (1:Int)=3 by decide)⟩
 have b1:(j==1)=false:=by rw[beq_eq_false_iff_ne];exact b8
 rcases hkl:d.kl b with _|k
 ·have I:=hd' (hR.out.trans ((if_neg b8).trans (by rw[hkl])):R=(d,2));obtain rfl:pv= .pointer none:=by rw[c6.out,hkl];rfl
  clear hR M;go_wp2_with fail;go_returns;rw[I.out];exact⟨rfl,S.out _ y⟩
 have I:=hd' (hR.out.trans ((if_neg b8).trans (by rw[hkl])):R=if j=3 then d.step s b k else if j=2 then d.ask s ⟨j,b,C,z,cn,T⟩ k else d.kill b);obtain rfl:pv= .pointer (some ⟨x.qs b.toNat,0,.none⟩):=by rw[c6.out,hkl];rfl
 clear hR;by_cases b0:j=3
 ·have J:=hd' (I.out.trans (if_pos b0));have cy:=hd' (U.out k hkl Z y);clear I M;subst b0;go_wp2_with (first|(go_at_call 46;(with_reducible refine cy.out.mono ?_);rintro r w5 ⟨rfl,hT⟩));go_returns;rw[J.out];first|exact⟨rfl,D.out _ _ _ y hT⟩|exact⟨rfl,(D.out _ _ _ y hT).imp fun q e _=>e⟩
 have b3:(j==3)=false:=by rw[beq_eq_false_iff_ne];exact b0
 by_cases bh:j=2
 ·have J:=hd' (I.out.trans ((if_neg b0).trans (if_pos bh)));have cq:=hd' (b5.out k hkl Z y);have eg:=Kl.SU s k ⟨C,z,cn⟩;have b4:d.ask s ⟨j,b,C,z,cn,T⟩ k=(⟨d.m,d.l.set b.toNat (some (k.invoke s ⟨C,z,cn⟩).1),d.tr++(k.invoke s ⟨C,z,cn⟩).2.1,d.lg⟩,(k.invoke s ⟨C,z,cn⟩).2.2):=rfl;replace J:=hd' (J.out.trans b4);clear I M b4;generalize (k.invoke s ⟨C,z,cn⟩).1=k' at *;generalize (k.invoke s ⟨C,z,cn⟩).2.1=es at *;generalize (k.invoke s ⟨C,z,cn⟩).2.2=er at *;subst bh;have ea:B<=Z.heap.size:=by have:=y.size;omega
  go_wp2_with (first|(go_at_call 47;(with_reducible refine cq.out.mono ?_);rintro r w5 ⟨v,x5,rfl,cx,bk,ba⟩;have ei:=ba.size;have bf:B<=w5.heap.size:=(by omega);have e0:=hd' (pX bk bf es v cx (by show d.tr.length+es.length<=_;have:=bi.out;omega));have bg:=hd' ((⟨⟨x5,bk⟩,ba,bf⟩:WdTo B F Z w5 g s {d with l:=d.l.set b.toNat (some k')})))|(go_at_call 48;(with_reducible refine e0.out.mono ?_);rintro r w6 ⟨rfl,bs⟩));go_returns;rw[J.out];exact⟨rfl,(E.out _ _ _ y (WdTo.trans bg.out bs)).q fun q e=>absurd e (show ¬ (2:Int)=3 by decide)⟩
 have b2:(j==2)=false:=by rw[beq_eq_false_iff_ne];exact bh
 have J:=hd' (I.out.trans ((if_neg b0).trans (if_neg bh)));clear I M;go_upto_region 14 with fail;have c8:=(V.out _ y).1
 go_region_held3 (fun Y=>Y.cell? ⟨H,1,.none⟩=some (.int .i64 b)/\Y.cell? ⟨g,4,.none⟩=some (.slice (some ⟨x.lb,0,.none⟩) d.l.length d.l.length))
  (first|exact⟨z1,bw⟩|exact⟨(tZ.drew.other bq _ _).cell 1,(c8.drew.other cu _ _).cell 4⟩)
  (fail)
 obtain⟨x',bj,c5,_,_⟩:=N.out Z Z.drew y br.drew;have tK:=tZ.drew.other bq b.toNat (ptrK none 0);have ej:=c5.size;have cm:=hd' (⟨⟨x',bj⟩,c5,by have:=y.size;omega⟩:WdTo B F Z _ g s {d with l:=d.l.set b.toNat none});change Exit.then _ _ _ _ (Z.drew.setCell ⟨x.lb,b.toNat,.none⟩ (ptrK none 0));generalize Z.drew.setCell ⟨x.lb,b.toNat,.none⟩ (ptrK none 0)=K1 at *;have e8:=tK.cell;have lK:=tK.lt;have cv:¬ grow F Z K1 H:=fun e=>by rcases e with e|e;exact bx e;omega
 have cj:B<=K1.heap.size:=by have:=y.size;omega
 have el:=bj.top.lt;have bc:d.tr.length+1<=100000000:=by have:=bi.out;omega
 have b4:d.kill b=(⟨d.m.put b (WA 2 0),d.l.set b.toNat none,d.tr++[⟨1,b,0,0,0,0,0,0⟩],d.lg⟩,0):=rfl;replace J:=hd' (J.out.trans b4);replace bc:=hd' bc;clear b4 c8 z0 z1 z2 z3 z4 ch bw zl zf e6 e1 e4;go_wp2_with (first|(go_at_call 49;(with_reducible refine(bv.out _ _ _ _ bj).mono ?_);rintro r w5 ⟨rfl,bk,ba⟩;have c9:=tK.only ba cv;have e9:=c9.cell;have l5:=c9.lt;have bg:=hd' (WdTo.trans cm.out (WdTo.set bj cj bk ba));obtain⟨⟨x2,c7⟩,_,bf⟩:=id bg.out;have ek:=c7.top.lt;have cz:=DV c7 bf 1 b bc.out)|(go_at_call 48;(with_reducible refine cz.mono ?_);rintro r w6 ⟨rfl,bs⟩));go_returns;rw[J.out];exact⟨rfl,(E.out _ _ _ y (WdTo.trans bg.out bs)).q fun q e=>absurd e b0⟩
theorem z7b(h:WdP B F W g s d x)(i:B<=W.heap.size)(l:wdOk s d n)(j:n<=30000000)(c:Ch)(b:¬ c.bad s):
  Calls Tryz.prog 11 #[some g,.agg c.cells.toArray] W fun e w'=>e= .returned (.int .i64 (d.act s c).2)/\WdTo B F W w' g s (d.act s c).1:=
 (LS h i l j c b).mono fun e w' h=>⟨h.1,h.2.to⟩
theorem TO(h:WdP B F W g s d x)(b:B<=W.heap.size)(i:wdOk s d n)(j:n<=30000000)(c:Ch):
  Calls Tryz.prog 11 #[some g,.agg c.cells.toArray] W fun e w'=>e= .returned (.int .i64 (d.act s c).2)/\WdTo B F W w' g s (d.act s c).1:=by
 by_cases hb:c.bad s
 ·have e:d.act s c=(d,1):=jP hb;rw[e];exact jY h b i c hb
 exact z7b h b i j c hb
end

end

section

open Go.RowKit

attribute [local go_sem ↓] Go.wp_at_zero Go.wp_at_succ

theorem EZ:(Tryz.prog.info? 310).map (fun i=>(i.zero,i.size,i.bytes))=some (some (.pointer none),1,8):=by kernel_rfl
theorem z0w(n:Nat)(l:n<=100):∀ u:World,(Instr.makeSlice 148 (.int .i64 (n:Int)) (.int .i64 (n:Int))).run Tryz.prog u= .ok (.slice (some ⟨u.heap.size,0,.none⟩) n n) (u.alloc (.cells (madeCells #[.pointer none] n) 310)):=fun u=>by
 obtain⟨j,hi,b,f,i⟩:=info_parts EZ
 have h:=run_make (P:=Tryz.prog) u 148 310 j (.pointer none) Tryz.underlying148 hi b .i64 .i64 (n:Int) (n:Int) (by omega) (Int.le_refl _) (by rw[i];omega) (by omega)
 rw[Int.toNat_natCast]at h
 simpa[f,Value.cells] using h
theorem z0l(n:Nat)(i:n<=2000)(w:World):
  Calls Tryz.prog 89 #[.int .i64 (n:Int)] w fun e w'=>(∃ p,e= .returned (.pointer (some ⟨p,0,.none⟩)))/\Below w.heap.size w w':=by
 have b:=RW n (by omega);have h1:decide ((n:Int)<0)=false:=jF (by omega);have h2:decide ((2000:Int)<(n:Int))=false:=jF (by omega);go_in;go_wp2_with fail;go_returns;exact⟨⟨_,rfl⟩,by go_grown⟩
theorem FY(s:Sh)(W:World)(G:mayB s.p s.c s.m=true):
  Calls Tryz.prog 42 #[.agg #[s.p,s.c,s.m]] W fun e w'=>Below W.heap.size W w'/\∃ g,e= .returned (.tuple #[.pointer (some ⟨g,0,.none⟩),.int .i64 0]):=by
 have j:=fun Y=>UG s.p s.c s.m Y;rw[G]at j;have hb:=LA.1 G;have V:=(uV G).2;have l:=fun Y=>zv0 s Y;obtain⟨sp,S,b⟩:=s;dsimp only at *;obtain⟨n,rfl⟩:∃ n:Nat,S=(n:Int):=⟨S.toNat,by omega⟩;obtain⟨N,R,y⟩:∃ N:Nat,oB sp (n:Int) b=(N:Int)/\N<=2000:=⟨(oB sp (n:Int) b).toNat,by omega,by omega⟩;rw[R]at l;have o:=fun Y=>z0l N y Y;have b0:=z0w n (by omega);replace j:=hd' j;replace l:=hd' l;replace o:=hd' o;have b1:(n:Int)<=12:=by omega
 have J:=jA W (.cells #[sp,.int .i64 (n:Int),b] 23);have t0:aA (W.alloc (.cells #[sp,.int .i64 (n:Int),b] 23)) W.heap.size #[sp,.int .i64 (n:Int),b] 23:=J;have t1:=t0.alloc (.cells #[sp,.int .i64 (n:Int),b] 23);have z:Below W.heap.size W ((W.alloc (.cells #[sp,.int .i64 (n:Int),b] 23)).alloc (.cells #[sp,.int .i64 (n:Int),b] 23)):=by go_grown
 clear G hb V R y J t0;go_in;go_upto_region 3 with(first|(go_at_call 21;refine(j _).mono ?_;rintro r w1 ⟨rfl,L⟩;obtain rfl:=L.symm));generalize (W.alloc (.cells #[sp,.int .i64 (n:Int),b] 23)).alloc (.cells #[sp,.int .i64 (n:Int),b] 23)=X at *;obtain⟨H,J,q⟩:=hidv W.heap.size;rw[<-q]at t1 ⊢;clear q;have lH:=t1.lt;have i:∀ Y,aA Y H #[sp,.int .i64 (n:Int),b] 23->Y.cell? ⟨H,0,.none⟩=some (.int .i64 sp)/\Y.cell? ⟨H,1,.none⟩=some (.int .i64 (n:Int))/\Y.cell? ⟨H,2,.none⟩=some (.int .i64 b):=fun Y h=>⟨h.cell 0,h.cell 1,h.cell 2⟩;replace i:=hd' i
 go_region_held3 (fun Y=>Y.cell? ⟨H,0,.none⟩=some (.int .i64 sp)/\Y.cell? ⟨H,1,.none⟩=some (.int .i64 (n:Int))/\Y.cell? ⟨H,2,.none⟩=some (.int .i64 b))
  (first|exact i _ t1.drew|exact i _ (t1.drew.alloc _)|exact i _ ((M.alloc _).alloc _)|exact i _ (M.alloc _)|exact i _ M|exact i _ (T.alloc _)|exact i _ T)
  (first|(go_at_call 72;refine(l _).mono ?_;rintro r w4 ⟨rfl,C⟩;have E:Below X.heap.size X w4:=(by first|exact xA br.drew C|exact xA (br.drew.alloc lr _) C);have T:=t1.below E)|(go_at_call 89;refine(o _).mono ?_;rintro r w5 ⟨⟨p,rfl⟩,D⟩;have I:Below X.heap.size X w5:=(by first|exact xA E D|exact xA (E.alloc E.size _) D);have M:=t1.below I))
 all_goals have Z:=z.size;have U:=I.size;have O:=xA z I;go_wp2_with fail;go_returns;exact⟨by first|exact(O.alloc (by omega) _)|exact((O.alloc (by omega) _).alloc (by simp;omega) _),_,rfl⟩
theorem MU(s:Sh)(W:World)(C:mayB s.p s.c s.m=true):
  Calls Tryz.prog 10 #[.agg #[s.p,s.c,s.m]] W fun e w'=>Below W.heap.size W w'/\∃ g v x,e= .returned (.tuple #[.pointer (some ⟨g,0,.none⟩),.pointer (some ⟨v,0,.none⟩)])/\WdP W.heap.size (fun i=>W.heap.size<=i/\i<w'.heap.size) w' g s (ZA s) x:=by
 have q:=fun Y=>zzx s Y C;have y:=fun Y=>FY s Y C;have E:∀ (p:Nat) (W:World),(binOp .eql 27 (.pointer (some ⟨p,0,.none⟩)) (.pointer none)).run Tryz.prog W= .ok (.bool false) W:=fun p W=>by kernel_rfl
 have z:=(Below.refl W.heap.size W).alloc lr (.cells #[s.p,s.c,s.m] 23);have t0:aA (W.alloc (.cells #[s.p,s.c,s.m] 23)) W.heap.size #[s.p,s.c,s.m] 23:=jA _ _;replace q:=hd' q;replace y:=hd' y;clear C;go_in;go_upto_region 1 with fail;have o:(W.alloc (.cells #[s.p,s.c,s.m] 23)).heap.size=W.heap.size+1:=by simp
 generalize W.alloc (.cells #[s.p,s.c,s.m] 23)=X at *;obtain⟨H,J,b⟩:=hidv W.heap.size;rw[<-b]at t0 o ⊢;have G:=t0.cell;replace o:=hd' o;replace b:=hd' b;go_wp2_with (first|(go_at_call 41;refine(q _).mono ?_;rintro r L ⟨j,g,x,rfl,D⟩;have t1:=t0.below j;have I:=t1.cell)|(go_at_call 42;refine(y _).mono ?_;rintro r M ⟨l,v,rfl⟩));go_returns;have h1:=j.size;have h2:=l.size;have h3:=o.out;have h4:=b.out;exact⟨xA (xA z j) l,g,v,x,rfl,((D.below l).lower (by omega)).weak (fun i hi=>⟨by omega,by omega⟩) (fun i hi=>hi)⟩
end

section

variable {s:Sh} {m:Mem} {σ:Ab}

def hpOf (s:Sh) (m:Mem):Hp:=⟨s.p,s.c,s.m,m.ws⟩
theorem WN(b:Rep s m σ):(hpOf s m).ok=true:=by
 unfold Hp.ok hpOf;dsimp only;rw[b.may,b.fi.len];simp
theorem DS(f:Rep s m σ){a:Int}(b:0<=a/\a<s.p):(hpOf s m).pw a=(σ.pg a).enc:=by
 have:=f.pg a b;rw[(ixs f.fi).1 a b]at this;exact this
theorem bH(b:Rep s m σ)(i:GI s σ){a:Int}(f:0<=a/\a<s.p):(hpOf s m).pb a=true/\(hpOf s m).pk a=(σ.pg a).kind/\(hpOf s m).pa a=(σ.pg a).pa:=by
 obtain⟨h1,h2,_⟩:=PW.read b.may (i.pf a);have hb:(hpOf s m).pb a=true:=by unfold Hp.pb;rw[DS b f];exact PW.BH b.may f (i.pf a)
 unfold Hp.pk Hp.pa;rw[jP hb,jP hb,DS b f];exact⟨hb,h1,h2⟩
theorem zK(f:Rep s m σ){a i:Int}(b:0<=a/\a<s.p)(hi:0<=i/\i<16):(hpOf s m).sw a i=(σ.sl a i).enc:=by
 have:=f.sl a i b hi;rw[(ixs f.fi).2.1 a i b hi]at this;exact this
theorem SW.BH(hs:mayB s.p s.c s.m=true){x:SW}(h:x.fit s):NF x.enc=true:=by
 obtain⟨h1,h2⟩:=SW.read hs h;obtain⟨e,h3⟩:=SW.LE hs h;unfold NF;rw[h1,h2,beq_iff_eq];cases x with
 |none=>decide
 |opened k=>rfl
 |way c=>rfl
 |taken k=>rfl
theorem YI(b:Rep s m σ)(j:GI s σ){a i:Int}(f:0<=a/\a<s.p)(hi:0<=i/\i<16):(hpOf s m).sk a i=(σ.sl a i).kind/\(hpOf s m).sa a i=(σ.sl a i).pa:=by
 obtain⟨h1,h2⟩:=SW.read b.may (j.sf a i);have hb:NF ((hpOf s m).sw a i)=true:=by rw[zK b f hi];exact SW.BH b.may (j.sf a i)
 unfold Hp.sk Hp.sa;rw[jP hb,jP hb,zK b f hi];exact⟨h1,h2⟩
theorem PN(f:Rep s m σ){a:Int}(b:0<=a/\a<s.p)(h0:∀ i,0<=i/\i<16->σ.sl a i= .none)(n:Nat)(l:n<=16):(hpOf s m).FF a n=true:=by
 induction n with
 |zero=>rfl;|succ n j=>show (_&&_)=true;rw[j (by omega),zK f b (by omega),h0 n (by omega)];rfl
theorem yqg(l:Rep s m σ)(f:GI s σ){a k b:Int}(j:0<=a/\a<s.p)(q:σ.pg a= .super k b)(n:Nat)(t:n<=16):(hpOf s m).supT a k n=true:=by
 induction n with
 |zero=>rfl;|succ n r=>
  show (_&&_)=true;rw[r (by omega),Bool.true_and];have hi:0<=(n:Int)/\(n:Int)<16:=by omega
  obtain⟨h1,h2⟩:=YI l f j hi;have h3:=zK l j hi;have h4:=f.sk a n;have i:=f.sf a n;rw[q]at h4;unfold wE at h4;dsimp only at h4;unfold Hp.okS;by_cases hs:(n:Int)<mA k
  ·rw[jP ⟨hi.1,hs⟩]at h4;rw[jP hs,h1,h2];rcases h4 with e|e|⟨c,e⟩
   ·rw[e];simp[SW.kind,SW.pa]
   ·rw[e];simp[SW.kind,SW.pa]
   rw[e]at i ⊢;have o:c<(hpOf s m).c:=i.2;simp[SW.kind,SW.pa,o]
  rw[jN (by omega)]at h4;rw[jN hs,h3,h4];rfl
theorem yrd(q:Rep s m σ)(l:GI s σ){a:Int}(r:0<=a/\a<s.p):(hpOf s m).snd a=true:=by
 obtain⟨h1,h2,h3⟩:=bH q l r;have f:=fun i=>l.sk a i;have t:=l.pf a;unfold Hp.snd;rw[jP h1,h2,h3];cases e:σ.pg a with
 |empty=>rw[e]at f;rw[jN (by simp[PW.kind]),jN (by simp[PW.kind]),jN (by simp[PW.kind]),jP (by simp[PW.kind])];exact PN q r (fun i _=>f i) 16 (by omega)
 |held o=>rw[jN (by simp[PW.kind]),jN (by simp[PW.kind]),jN (by simp[PW.kind]),jN (by simp[PW.kind])]
 |super k b=>rw[jP (by simp[PW.kind])];exact yqg q l r e 16 (by omega)
 |large n=>
  rw[e]at f t;rw[jN (by simp[PW.kind]),jP (by simp[PW.kind]),jC];refine⟨PN q r (fun i _=>f i) 16 (by omega),?_⟩;have I:=l.lg a n e;obtain⟨_,J,L,M⟩:=t
  have key:∀ j:Nat,(j:Int)<=n-1->(hpOf s m).rowT a j=true:=by
   intro j
   induction j with
   |zero=>intro _;rfl
   |succ j O=>
    intro R
    show (_&&_)=true
    rw[O (by omega)]
    have N:0<=a+1+(j:Int)/\a+1+(j:Int)<s.p:=by omega
    obtain⟨_,z,C⟩:=bH q l N
    have:=I (1+j) (by omega) (by omega)
    rw[show a+(1+(j:Int))=a+1+j by omega]at this
    rw[z,C,this]
    simp[PW.kind,PW.pa]
  exact key (n-1).toNat (by omega)
 |body h=>
  rw[e]at f t;rw[jN (by simp[PW.kind]),jN (by simp[PW.kind]),jP (by simp[PW.kind]),jC];refine⟨PN q r (fun i _=>f i) 16 (by omega),?_⟩;obtain⟨_,D,G,H⟩:=t;obtain⟨_,z,C⟩:=bH q l (a:=h) ⟨D,by omega⟩;show (_||_)=true;rw[show PW.pa (.body h)=h from rfl,z,C];rcases l.bd a h e with⟨o,y⟩|⟨n,y,E⟩
  ·rw[y];simp[PW.kind]
  rw[y];simp[PW.kind,PW.pa,E]
theorem TI(b:Rep s m σ)(f:GI s σ):(hpOf s m).sound=true:=by
 unfold Hp.sound;rw[WN b,Bool.true_and];have hb:=b.fi.bd
 have key:∀ n:Nat,(n:Int)<=s.p->(hpOf s m).sndT n=true:=by
  intro n
  induction n with
  |zero=>intro _;rfl
  |succ n i=>
   intro j
   show (_&&_)=true
   rw[i (by omega),yrd b f ⟨by omega,by omega⟩];rfl
 exact key (hpOf s m).p.toNat (by show ((s.p.toNat:Nat):Int)<=s.p;omega)
theorem okK.same{W:Int}{l k:List Bk}:∀ {lo:Int},okK W lo l->okK W lo k->(∀ b,b ∈ l↔b ∈ k)->l=k:=by
 induction l generalizing k with
 |nil=>
  intro lo _ _ h
  cases k with
  |nil=>rfl
  |cons b k=>exact absurd ((h b).2 (by simp)) (by simp)
 |cons a l o=>
  intro lo h1 h2 h
  cases k with
  |nil=>exact absurd ((h a).1 (by simp)) (by simp)
  |cons b k=>
   have m1:=okK.mem h1.2.2
   have m2:=okK.mem h2.2.2
   have j:=(h a).1 (by simp)
   have hb:=(h b).2 (by simp)
   have e:a=b:=by
    rcases List.mem_cons.1 j with e|e
    ·exact e
    ·rcases List.mem_cons.1 hb with i|i
     ·exact i.symm
     ·have:=m1 b i;have:=m2 a e;have:=h1.2.1;have:=h2.2.1;omega
   subst e
   congr 1
   refine o h1.2.2 h2.2.2 fun x=>?_
   constructor
   ·intro f
    rcases List.mem_cons.1 ((h x).1 (by simp[f])) with e|e
    ·have:=m1 x f;rw[e]at this;have:=h1.2.1;omega
    ·exact e
   ·intro f
    rcases List.mem_cons.1 ((h x).2 (by simp[f])) with e|e
    ·have:=m2 x f;rw[e]at this;have:=h1.2.1;omega
    ·exact e
theorem uS(y:Rep s m σ)(j:GI s σ)(x:Bk):x ∈ (hpOf s m).bl↔∃ b:Bl,σ.has b/\b.at'=x.a/\b.len=x.n:=by
 have O:=y.fi.bd;unfold Hp.bl;rw[jP (WN y),Hp.yp7];have R:(hpOf s m).p.toNat=s.p.toNat:=rfl;rw[R];constructor
 ·rintro⟨a,U,f⟩;have z:0<=(a:Int)/\(a:Int)<s.p:=by omega
  obtain⟨_,h2,h3⟩:=bH y j z;unfold Hp.pgB at f;rw[h2,h3]at f;cases e:σ.pg a with
  |large n=>rw[e,jP (by simp[PW.kind])]at f;simp only[List.mem_singleton]at f;subst f;exact⟨.lar a n,e,rfl,rfl⟩
  |super k b=>
   rw[e,jN (by simp[PW.kind]),jP (by simp[PW.kind]),Hp.iS]at f;obtain⟨i,hi,r,rfl⟩:=f;have C:=j.pf a;rw[e]at C;have M:=cJ C.2.1;have L:(i:Int)<mA k:=by have T:i<(mA k).toNat:=hi;omega
   have l:0<=(i:Int)/\(i:Int)<16:=by omega
   obtain⟨J,_⟩:=YI y j z l;rw[J]at r;have hs:=j.sk a i;rw[e]at hs;unfold wE at hs;dsimp only at hs;rw[jP ⟨l.1,L⟩]at hs;rcases hs with q|q|⟨c,q⟩
   ·rw[q]at r;exact absurd r (by simp[SW.kind])
   ·refine⟨.sm a i k,q,?_,?_⟩
    ·show (a:Int)*64+i*qA k=_*64+_*qA ((hpOf s m).pa a);rw[h3,e];rfl
    show qA k=qA ((hpOf s m).pa a);rw[h3,e];rfl
   rw[q]at r;exact absurd r (by simp[SW.kind])
  |empty=>rw[e,jN (by simp[PW.kind]),jN (by simp[PW.kind])]at f;simp at f
  |held o=>rw[e,jN (by simp[PW.kind]),jN (by simp[PW.kind])]at f;simp at f
  |body h=>rw[e,jN (by simp[PW.kind]),jN (by simp[PW.kind])]at f;simp at f
 rintro⟨b,hb,H,I⟩;cases b with
 |lar p n=>
  have e:σ.pg p= .large n:=hb;have C:=j.pf p;rw[e]at C;have N:0<=p/\p<s.p:=C.1;refine⟨p.toNat,by omega,?_⟩;have t:((p.toNat:Nat):Int)=p:=by omega
  obtain⟨_,h2,h3⟩:=bH y j N;unfold Hp.pgB;rw[t,h2,h3,e,jP (by simp[PW.kind]),List.mem_singleton];cases x;have q1:p*64=_:=H;have q2:n*64=_:=I;dsimp only at q1 q2;subst q1 q2;rfl
 |sm p i k=>
  obtain⟨⟨S,e⟩,hi,r,E,G⟩:=AH j hb;have q:σ.sl p i= .taken k:=hb;have M:=cJ r;refine⟨p.toNat,by omega,?_⟩;have t:((p.toNat:Nat):Int)=p:=by omega
  obtain⟨_,h2,h3⟩:=bH y j (a:=p) ⟨E,G⟩;unfold Hp.pgB;rw[t,h2,h3,e,jN (by simp[PW.kind]),jP (by simp[PW.kind]),Hp.iS];obtain⟨J,_⟩:=YI y j (a:=p) (i:=i) ⟨E,G⟩ (by omega);have D:((i.toNat:Nat):Int)=i:=by omega
  refine⟨i.toNat,by show i.toNat<(mA k).toNat;omega,by rw[D,J,q];rfl,?_⟩;rw[D,h3,e];cases x;have q1:p*64+i*qA k=_:=H;have q2:qA k=_:=I;dsimp only at q1 q2;subst q1 q2;rfl
theorem yrx(i:Rep s m σ)(f:GI s σ){l:List Bk}(h:KD (s.p*64) σ.has l):(hpOf s m).bl=l:=by
 have h1:=Hp.yrp (TI i f);have e:64*(hpOf s m).p=s.p*64:=Int.mul_comm _ _;rw[e]at h1;refine okK.same h1 h.ok fun b=>?_;rw[uS i f];exact(h.mem b.a b.n).symm
end

end Go.Proofs.YtkilokkopbajkaaGreat
