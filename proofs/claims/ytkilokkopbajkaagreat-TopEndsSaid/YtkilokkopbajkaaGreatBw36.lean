
import Derived.Test.YtkilokkopbajkaaGreatBw34

import Derived.Test.YtkilokkopbajkaaGreatBw35

set_option linter.all false
set_option maxHeartbeats 8000000
set_option maxRecDepth 100000
namespace Go.Proofs.YtkilokkopbajkaaGreat

open RowKit

attribute [local go_sem ↓] wp_at_zero wp_at_succ

attribute [local go_sem] qC

def jdOf (s:Sh) (d:Wd):Jd:=runJ (newJ s.p s.c s.m) d.tr
def AI (s:Sh) (d:Wd) (n:Nat):Prop:=wdOk s d n/\∃ σ,WI s σ d/\JI s σ d (jdOf s d)
theorem SD{s:Sh}{d:Wd}{n:Nat}(h:AI s d n)(x:Ch):AI s (d.act s x).1 (n+1):=by
 obtain⟨b,σ,i,f⟩:=h;obtain⟨σ',es,h1,h2,h3⟩:=yrw f i b x;refine⟨bF b x,σ',h1,?_⟩;unfold jdOf;rw[h2,bH];exact h3
theorem LS{s:Sh}{d:Wd}{n:Nat}{c:Int}(h:AI s d n):AI s (d.goS s c) (n+1):=by
 have h1:=SD h (NC c);refine⟨VQ h.1,?_⟩;unfold Wd.goS;split
 .split
  .exact h1.2
  exact h.2
 exact h.2
theorem BI{s:Sh}{d:Wd}{n:Nat}{c:Int}(h:AI s d n)(i:Nat):AI s (d.goN s c i) (n+i):=by
 induction i with
 |zero=>exact h
 |succ i b=>exact LS b
section

variable {J:Jd}{e:Ev}{W:Int}{L:List Bk}{o:Op3}{c:Int}

theorem qG{es:List Ev}(h:(runJ J es).why=0):J.why=0:=by
 rcases Decidable.em (J.why=0) with h1|h1
 .exact h1
 rw[yir h1]at h;exact h
theorem KG(b:J.why=0)(h:(DA J e).why=0):(whyJ J.W J.l J.ps e).c=0:=by
 unfold DA at h;rw[jN (by omega)]at h;rcases Decidable.em ((whyJ J.W J.l J.ps e).c=0) with h1|h1
 .exact h1
 rw[jP h1]at h;exact absurd h h1
theorem zI(h:(whyJ J.W J.l J.ps e).c=0):¬(e.c<0\/(J.ps.length:Int)<=e.c\/e.k<0\/5<e.k):=by
 intro h1;unfold whyJ at h;rw[jP h1]at h;exact absurd h (show (1:Int)≠0 by decide)
theorem VK(h:(whyJ J.W J.l J.ps e).c=0)(f:3<=e.k):(J.pt e.c).lives=true/\(J.pt e.c).asks=true:=by
 have h1:=zI h;unfold whyJ at h;rw[jN h1,jN (by omega)]at h;by_cases h2:(J.ps.getD e.c.toNat Pt.zero).lives=false\/(J.ps.getD e.c.toNat Pt.zero).asks=false
 .rw[jP h2]at h;exact absurd h (show (1:Int)≠0 by decide)
 have h3:(J.pt e.c).lives=true:=by
  cases h4:(J.pt e.c).lives
  .exact absurd (.inl h4) h2
  rfl
 have b:(J.pt e.c).asks=true:=by
  cases h4:(J.pt e.c).asks
  .exact absurd (.inr h4) h2
  rfl
 exact⟨h3,b⟩
theorem VR(f:J.why=0)(h:(DA J e).why=0)(i:e.k=4):UF J.l (J.pt e.c) e=0/\wI J (DA J e) e.c (nB J.l e.at') {J.pt e.c with gave:=true}:=by
 have h0:=KG f h;have h1:=zI h0;obtain⟨h2,h3⟩:=VK h0 (by omega);have b:whyJ J.W J.l J.ps e=if UF J.l (J.pt e.c) e=0 then⟨0,nB J.l e.at',J.ps.set e.c.toNat {J.pt e.c with gave:=true}⟩ else⟨UF J.l (J.pt e.c) e,J.l,J.ps⟩:=by
  unfold whyJ
  rw[jN h1,jN (by omega),jN (by
   intro h4
   rcases h4 with h4|h4
   .exact absurd (h2.symm.trans h4) (by decide)
   .exact absurd (h3.symm.trans h4) (by decide)),jN (by omega),jP i]
  rfl
 by_cases h4:UF J.l (J.pt e.c) e=0
 .rw[jP h4]at b;exact⟨h4,BF f ⟨by omega,by omega⟩ b⟩
 rw[jN h4]at b;rw[b]at h0;exact absurd h0 h4
theorem fS(f:J.why=0)(h:(DA J e).why=0)(i:e.k=3):TF J.W J.l (J.pt e.c) e=0/\wI J (DA J e) e.c (putB J.l e.at' e.n) {J.pt e.c with took:=true,at':=e.at'}:=by
 have h0:=KG f h;have h1:=zI h0;obtain⟨h2,h3⟩:=VK h0 (by omega);have b:whyJ J.W J.l J.ps e=if TF J.W J.l (J.pt e.c) e=0 then⟨0,putB J.l e.at' e.n,J.ps.set e.c.toNat {J.pt e.c with took:=true,at':=e.at'}⟩ else⟨TF J.W J.l (J.pt e.c) e,J.l,J.ps⟩:=by
  unfold whyJ
  rw[jN h1,jN (by omega),jN (by
   intro h4
   rcases h4 with h4|h4
   .exact absurd (h2.symm.trans h4) (by decide)
   .exact absurd (h3.symm.trans h4) (by decide)),jP i]
  rfl
 by_cases h4:TF J.W J.l (J.pt e.c) e=0
 .rw[jP h4]at b;exact⟨h4,BF f ⟨by omega,by omega⟩ b⟩
 rw[jN h4]at b;rw[b]at h0;exact absurd h0 h4
theorem iO(f:J.why=0)(h:(DA J e).why=0)(i:e.k=5):JC (J.pt e.c) e=true/\wI J (DA J e) e.c J.l {J.pt e.c with asks:=false}:=by
 have h0:=KG f h;have h1:=zI h0;obtain⟨h2,h3⟩:=VK h0 (by omega);have b:whyJ J.W J.l J.ps e=if JC (J.pt e.c) e=true then⟨0,J.l,J.ps.set e.c.toNat {J.pt e.c with asks:=false}⟩ else⟨4,J.l,J.ps⟩:=by
  unfold whyJ
  rw[jN h1,jN (by omega),jN (by
   intro h4
   rcases h4 with h4|h4
   .exact absurd (h2.symm.trans h4) (by decide)
   .exact absurd (h3.symm.trans h4) (by decide)),jN (by omega),jN (by omega)]
  rfl
 by_cases h4:JC (J.pt e.c) e=true
 .rw[jP h4]at b;exact⟨h4,BF f ⟨by omega,by omega⟩ b⟩
 rw[jN h4]at b;rw[b]at h0;exact absurd h0 (show (4:Int)≠0 by decide)
theorem KR(f:J.why=0)(h:(DA J (NA c o)).why=0):wI J (DA J (NA c o)) c J.l ⟨true,true,true,o.k,o.a,o.n,false,false,0,false⟩:=by
 have h0:=KG f h;have h1:=zI h0;have b:whyJ J.W J.l J.ps (NA c o)=⟨dF (J.pt c) (NA c o),J.l,J.ps.set c.toNat (jG (J.pt c) (NA c o))⟩:=by unfold whyJ;rw[jN h1,jP (show (NA c o).k<3 from (show (2:Int)<3 by decide))];rfl
 have h2:dF (J.pt c) (NA c o)=0:=by rw[b]at h0;exact h0
 have h3:jG (J.pt c) (NA c o)=⟨true,true,true,o.k,o.a,o.n,false,false,0,false⟩:=by unfold jG;rw[jN (by omega),jN (show ¬(NA c o).k=0 from (show ¬(2:Int)=0 by decide)),jN (show ¬(NA c o).k=1 from (show ¬(2:Int)=1 by decide))];rfl
 rw[h2,h3]at b;have h4:¬(c<0\/(J.ps.length:Int)<=c\/(2:Int)<0\/(5:Int)<2):=h1;exact BF f (e:=NA c o) ⟨show 0<=c by omega,show c.toNat<J.ps.length by omega⟩ b
end

theorem nW(i cl a b d:Int)(j:Nat)(w:World):Calls Tryz.prog 43 #[.agg #[i,cl,a,b,d,.float .f64 j]] w λe w'=>e=.returned (.bool (decide (1<=i/\i<=4)))/\Below w.heap.size w w':=by
 by_cases h1:1<=i
 .by_cases h2:i<=4
  .rw[jT (And.intro h1 h2)];have d1:decide (i>=1)=true:=jT h1;have d2:decide (i<=4)=true:=jT h2;go_in;go_wp2;go_ret;exact⟨rfl,br.alloc lr _⟩
  rw[jF (λh:1<=i/\i<=4=>h2 h.2)];have d1:decide (i>=1)=true:=jT h1;have d2:decide (i<=4)=false:=jF h2;go_in;go_wp2;go_ret;exact⟨rfl,br.alloc lr _⟩
 rw[jF (λh:1<=i/\i<=4=>h1 h.1)];have d1:decide (i>=1)=false:=jF h1;go_in;go_wp2;go_ret;exact⟨rfl,br.alloc lr _⟩
section

variable {B:Nat}{F:Nat->Prop}{W:World}{g:Nat}{s:Sh}{d:Wd}{x:Wx}{n:Nat}

theorem bZ(h:WdP B F W g s d x)(y:B<=W.heap.size)(z:wdOk s d n)(c:Int)(k:Kl)(q:d.kl c=some k)(o:Op3):
  Calls Tryz.prog 47 #[.pointer (some ⟨x.qs c.toNat,0,.none⟩),.agg #[o.k,o.a,o.n]] W λr w'=>∃v D,r=.returned (.tuple #[v,.int .i64 (k.invoke s o).2.2])/\RdE w' v (k.invoke s o).2.1/\
   WdP B (grow F W w') w' g s {d with l:=d.l.set c.toNat (some (k.invoke s o).1)} D/\Only F W w':=by
 obtain⟨t,C,m⟩:=z.kl c k q;have j:=(Wd.rC q).2;have b:d.l.getD c.toNat none=some k:=by have h1:=q;unfold Wd.kl at h1;rw[jP m.1]at h1;exact h1
 have p:=h.cw (n:=0) b t z.fi;refine(yfi o p y).mono λr w' hS=>?_;obtain⟨v,h1,h2⟩:=hS.ret;have h3:=h.stepped y b j hS.cw.kl hS.cw.wd (Only.weak hS.only λi hi=>.inl hi);exact⟨v,_,h1,AQ h2,h3.1,h3.2⟩
theorem EY(h:WdP B F W g s d x)(T:B<=W.heap.size)(S:wdOk s d n)(c:Ch)(r:c.bad s):
  Calls Tryz.prog 11 #[some g,.agg c.cells.toArray] W λe w'=>e=.returned (.int .i64 1)/\WdTo B F W w' g s d:=by
 have V:=S.fi.bd;have hm:=S.fi.may;obtain⟨z,q,E,C,cn,D⟩:=c;show Calls Tryz.prog 11 #[some g,.agg #[z,q,E,C,cn,.float .f64 D]] W _;have b:=(Below.refl W.heap.size W).alloc lr (.cells #[z,q,E,C,cn,.float .f64 D] 38);have t0:aA (W.alloc (.cells #[z,q,E,C,cn,.float .f64 D] 38)) W.heap.size #[z,q,E,C,cn,.float .f64 D] 38:=heap_alloc_new _ _;have j:=λY=>nW z q E C cn D Y;have y:=λY=>pC s.p s.c s.m q Y;have R:∀(p:Nat) (W:World),(binOp .eql 27 (.pointer (some ⟨p,0,.none⟩)) (.pointer none)).run Tryz.prog W=.ok (.bool false) W:=λp W=>by kernel_rfl
 have i:=λW1 (hb:Below W.heap.size W W1)=>WdTo.start (W1:=W1) h T hb;have g0:(W.alloc (.cells #[z,q,E,C,cn,.float .f64 D] 38)).cell? ⟨g,0,.none⟩=some (.int .i64 s.p):=(h.below b).top.cell 0;have g1:(W.alloc (.cells #[z,q,E,C,cn,.float .f64 D] 38)).cell? ⟨g,1,.none⟩=some (.int .i64 s.c):=(h.below b).top.cell 1;have g2:(W.alloc (.cells #[z,q,E,C,cn,.float .f64 D] 38)).cell? ⟨g,2,.none⟩=some (.int .i64 s.m):=(h.below b).top.cell 2;have b0:=(h.below b).top.lt;replace i:=hd' i;unfold Ch.bad at r;dsimp only at r;clear h;by_cases I:1<=z/\z<=4
 .have Z:uA s.p s.c s.m q<0:=by
   rcases Int.lt_or_le (uA s.p s.c s.m q) 0 with e|e
   .exact e
   have:=(sD e).2;omega
  rw[decide_eq_true I]at j;generalize uA s.p s.c s.m q=sx at*;replace j:=hd' j;replace y:=hd' y;clear r I;go_in;go_upto_region 1 with fail;generalize W.alloc (.cells #[z,q,E,C,cn,.float .f64 D] 38)=X at*;obtain⟨H,U,l⟩:=hidv W.heap.size;rw[<-l]at t0|-;try rw[<-l]at hFH hHl
  clear l;replace b:=hd' b;have lH:=t0.lt;have M:=t0.cell;refine wre ?_;repeat (go_big_quiet_step ((first|(go_at_call 43;exact AA (j.out _))|(go_at_call 44;exact AA (y.out _)))))
  refine wqn λY G=>?_;have O:=G;clear M;go_wp2_with fail;go_returns;exact⟨rfl,i.out _ (qA b.out O)⟩
 rw[decide_eq_false I]at j;replace j:=hd' j;replace y:=hd' y;clear r I;go_in;go_upto_region 1 with fail;generalize W.alloc (.cells #[z,q,E,C,cn,.float .f64 D] 38)=X at*;obtain⟨H,U,l⟩:=hidv W.heap.size;rw[<-l]at t0|-;try rw[<-l]at hFH hHl
 clear l;replace b:=hd' b;have lH:=t0.lt;have N:=t0.cell;refine wre ?_;repeat (go_big_quiet_step ((first|(go_at_call 43;exact AA (j.out _))|(go_at_call 44;exact AA (y.out _)))))
 refine wqn λY G=>?_;have O:=G;clear N;go_wp2_with fail;go_returns;exact⟨rfl,i.out _ (qA b.out O)⟩
theorem qT(h:WdP B F W g s d x)(hB:B<=W.heap.size)(ho:wdOk s d n)(hn:n<=30000000)(c:Ch)(G:¬c.bad s):
  Calls Tryz.prog 11 #[some g,.agg c.cells.toArray] W λe w'=>e=.returned (.int .i64 (d.act s c).2)/\WdTq (λq=>c.kind=3->q=x.qs) B F W w' g s (d.act s c).1:=by
 have ec:=ho.fi.bd;have hm:=ho.fi.may;obtain⟨j,b,C,z,cn,U⟩:=c;show Calls Tryz.prog 11 #[some g,.agg #[j,b,C,z,cn,.float .f64 U]] W _;have b7:=(Below.refl W.heap.size W).alloc lr (.cells #[j,b,C,z,cn,.float .f64 U] 38);have t0:aA (W.alloc (.cells #[j,b,C,z,cn,.float .f64 U] 38)) W.heap.size #[j,b,C,z,cn,.float .f64 U] 38:=heap_alloc_new _ _;have ba:=λY=>nW j b C z cn U Y;have b8:=λY=>pC s.p s.c s.m b Y;have e8:∀(p:Nat) (W:World),(binOp .eql 27 (.pointer (some ⟨p,0,.none⟩)) (.pointer none)).run Tryz.prog W=.ok (.bool false) W:=λp W=>by kernel_rfl
 have ei:∀(p:Nat) (W:World),(binOp .eql 57 (.pointer (some ⟨p,0,.none⟩)) (.pointer none)).run Tryz.prog W=.ok (.bool false) W:=λp W=>by kernel_rfl
 have N:1<=j/\j<=4/\0<=b/\b<s.c:=by unfold Ch.bad at G;dsimp only at G;omega
 have hc:0<=b/\b<s.c:=⟨N.2.2.1,N.2.2.2⟩;have ed:¬b<0:=by omega
 have ef:=hc.1;rw[UH hm hc]at b8;rw[decide_eq_true (And.intro N.1 N.2.1)]at ba;have hi:b.toNat<d.l.length:=by rw[ho.len];omega
 have eg:b<(d.l.length:Int):=by omega
 have bj:=ho.tr
 have bn:d.act s ⟨j,b,C,z,cn,U⟩=if j=1 then d.begin s ⟨j,b,C,z,cn,U⟩ else match d.kl b with
  |none=>(d,2)
  |some k=>if j=3 then d.step s b k else if j=2 then d.ask s ⟨j,b,C,z,cn,U⟩ k else d.kill b:=if_neg G
 have S:∀Z,Below W.heap.size W Z->Calls Tryz.prog 45 #[some g,.agg #[j,b,C,z,cn,.float .f64 U]] Z λe w'=>e=.returned (.int .i64 (d.begin s ⟨j,b,C,z,cn,U⟩).2)/\WdTo B F Z w' g s (d.begin s ⟨j,b,C,z,cn,U⟩).1:=λZ hb=>zyt (h.below hb) (by have:=hb.size;omega) ho hn ⟨j,b,C,z,cn,U⟩ hc;have V:=λk (hk:d.kl b=some k) Z (hb:Below W.heap.size W Z)=>z2w (h.below hb) (by have:=hb.size;omega) ho hn b k hk;have b6:=λk (hk:d.kl b=some k) Z (hb:Below W.heap.size W Z)=>bZ (h.below hb) (by have:=hb.size;omega) ho b k hk ⟨C,z,cn⟩;have E:=λW1 W2 d2 (hb:Below W.heap.size W W1)=>WdTo.from (W1:=W1) (W2:=W2) (d2:=d2) h hB hb;have bc:=λW1 (hb:Below W.heap.size W W1)=>WdTo.start (W1:=W1) h hB hb;have D:=λW1 W2 d2 (hb:Below W.heap.size W W1)=>WdTq.from (R:=λq=>q=x.qs) (W1:=W1) (W2:=W2) (d2:=d2) h hB hb;have T:=λW1 (hb:Below W.heap.size W W1)=>WdTq.start (R:=λq=>j=3->q=x.qs) (W1:=W1) h hB hb (λ_=>rfl);have bw:=λF' Y L x' (hY:WdP B F' Y g s {d with l:=L} x')=>OU hY ho.fi b 2 hc;have O:=λZ Y (hb:Below W.heap.size W Z) (cu:Below Z.heap.size Z Y)=>WdP.place (W:=Z) (W':=Y) (c:=b.toNat) (q:=0) (o:=none) (Fq:=λ_=>False) (h.below hb) (by have:=hb.size;omega) hi cu (λk e=>by cases e) (λi e=>e.elim) rfl;have bz:¬F W.heap.size:=λe=>by have:=(h.lt _ e).2;omega
 have bs:W.heap.size≠x.lb:=λe=>by have:=(h.lt _ h.fl.1).2;omega
 have cv:g≠x.lb:=λe=>by have:=h.fg.2;have:=h.fl.2;rw[e]at*;omega
 have b0:∀Y:World,Below W.heap.size W Y->aA Y g (qC s x.p x.lb d.l.length x.tv x.sv) 105/\Y.cell? ⟨x.lb,b.toNat,.none⟩=some (ptrK (d.kl b) (x.qs b.toNat))/\(∀i,Y.frozen? ⟨x.lb,i,.none⟩=false)/\x.lb<Y.heap.size:=λY hb=>⟨(h.below hb).top,(h.below hb).ptr hc.1 hi,KA (h.below hb).lst,(h.below hb).lst.lt⟩;have k0:=b0 _ b7;have cf:=k0.1.cell;have e3:=k0.1.lt;obtain⟨R,hR,c4⟩:∃R:Wd×Int,Hid (R=d.act s ⟨j,b,C,z,cn,U⟩)/\R=d.act s ⟨j,b,C,z,cn,U⟩:=⟨_,hd' rfl,rfl⟩;rw[<-c4];clear c4 k0 h;replace hR:=hd' (hR.out.trans bn);replace S:=hd' S;replace V:=hd' V;replace b6:=hd' b6;replace E:=hd' E;replace bc:=hd' bc;replace D:=hd' D;replace T:=hd' T;replace bw:=hd' bw;replace O:=hd' O;replace b0:=hd' b0;replace ba:=hd' ba;replace b8:=hd' b8;replace bj:=hd' bj;replace G:=hd' G;clear bn;go_in;go_upto_region 1 with fail;generalize W.alloc (.cells #[j,b,C,z,cn,.float .f64 U] 38)=X at*;obtain⟨H,hH,bq⟩:=hidv W.heap.size;rw[<-bq]at t0|-;try rw[<-bq]at bz bs
 clear bq;replace b7:=hd' b7;have lH:=t0.lt;obtain⟨x0,x1,x2,x3,x4⟩:=ci5 j b C z cn t0.cell;have x5:=ce (.float .f64 U) (t0.cell 5);refine wre ?_;repeat (go_big_quiet_step ((first|(go_at_call 43;exact AA (ba.out _))|(go_at_call 44;exact AA (b8.out _)))))
 refine wqn λY cs=>?_;have hX:=cs;clear x0 x1 x2 x3 x4 x5;have bv:=qA b7.out hX;have tY:=t0.below hX;have kY:=b0.out _ bv;clear t0 b7 b8 ba cf e3 lH;have cq:=hX.size;have cm:H<Y.heap.size:=tY.lt;have e4:=kY.1.lt;have cg:=tY.cell;have ch:=kY.1.cell;have yl:=kY.2.1;have e6:=kY.2.2.2;clear kY hX;go_upto_region 3 with fail;go_quiet (fail);have c5:=below_drewN (Below.refl Y.heap.size Y) nq;have tZ:aA (Y.drewN nq) H _ _:=tY.drewN nq;generalize Y.drewN nq=Z at*;have y:=qA bv c5;have kZ:=b0.out _ y;have e2:=tZ.lt;have e5:=kZ.1.lt;obtain⟨z0,z1,z2,z3,z4⟩:=ci5 j b C z cn tZ.cell;have cj:=tZ.cell;have bx:=ce (.slice (some ⟨x.lb,0,.none⟩) d.l.length d.l.length) (kZ.1.cell 4);have zl:=kZ.2.1;have zf:=kZ.2.2.1;have e7:=kZ.2.2.2;clear cg ch yl e6 tY e4 cm kZ cq c5 bv;obtain⟨pv,c7,bp⟩:∃pv,Hid (pv=ptrK (d.kl b) (x.qs b.toNat))/\pv=ptrK (d.kl b) (x.qs b.toNat):=⟨_,hd' rfl,rfl⟩;rw[<-bp]at zl|-;clear bp;by_cases b9:j=1
 .have I:=hd' (hR.out.trans (if_pos b9));clear hR N;subst b9;go_wp2_with (first|(go_at_call 45;(with_reducible refine(S.out _ y).mono ?_);rintro r w5 ⟨rfl,hT⟩));go_returns;rw[I.out];exact⟨rfl,(E.out _ _ _ y hT).q λq e=>absurd e (show ¬(1:Int)=3 by decide)⟩
 have b1:(j==1)=false:=by rw[beq_eq_false_iff_ne];exact b9
 rcases hkl:d.kl b with _|k
 .have I:=hd' (hR.out.trans ((if_neg b9).trans (by rw[hkl])):R=(d,2));obtain rfl:pv=.pointer none:=by rw[c7.out,hkl];rfl
  clear hR N;go_wp2_with fail;go_returns;rw[I.out];exact⟨rfl,T.out _ y⟩
 have I:=hd' (hR.out.trans ((if_neg b9).trans (by rw[hkl])):R=if j=3 then d.step s b k else if j=2 then d.ask s ⟨j,b,C,z,cn,U⟩ k else d.kill b);obtain rfl:pv=.pointer (some ⟨x.qs b.toNat,0,.none⟩):=by rw[c7.out,hkl];rfl
 clear hR;by_cases b4:j=3
 .have M:=hd' (I.out.trans (if_pos b4));have cz:=hd' (V.out k hkl Z y);clear I N;subst b4;go_wp2_with (first|(go_at_call 46;(with_reducible refine cz.out.mono ?_);rintro r w5 ⟨rfl,hT⟩));go_returns;rw[M.out];first|exact⟨rfl,D.out _ _ _ y hT⟩|exact⟨rfl,(D.out _ _ _ y hT).imp λq e _=>e⟩
 have b3:(j==3)=false:=by rw[beq_eq_false_iff_ne];exact b4
 by_cases bi:j=2
 .have M:=hd' (I.out.trans ((if_neg b4).trans (if_pos bi)));have cr:=hd' (b6.out k hkl Z y);have eh:=Kl.nV s k ⟨C,z,cn⟩;have b5:d.ask s ⟨j,b,C,z,cn,U⟩ k=(⟨d.m,d.l.set b.toNat (some (k.invoke s ⟨C,z,cn⟩).1),d.tr++(k.invoke s ⟨C,z,cn⟩).2.1,d.lg⟩,(k.invoke s ⟨C,z,cn⟩).2.2):=rfl;replace M:=hd' (M.out.trans b5);clear I N b5;generalize (k.invoke s ⟨C,z,cn⟩).1=k' at*;generalize (k.invoke s ⟨C,z,cn⟩).2.1=es at*;generalize (k.invoke s ⟨C,z,cn⟩).2.2=er at*;subst bi;have eb:B<=Z.heap.size:=by have:=y.size;omega
  go_wp2_with (first|(go_at_call 47;(with_reducible refine cr.out.mono ?_);rintro r w5 ⟨v,x5,rfl,cy,bm,bb⟩;have ej:=bb.size;have bg:B<=w5.heap.size:=(by omega);have e1:=hd' (KX bm bg es v cy (by show d.tr.length+es.length<=_;have:=bj.out;omega));have bh:=hd' ((⟨⟨x5,bm⟩,bb,bg⟩:WdTo B F Z w5 g s {d with l:=d.l.set b.toNat (some k')})))|(go_at_call 48;(with_reducible refine e1.out.mono ?_);rintro r w6 ⟨rfl,bu⟩));go_returns;rw[M.out];exact⟨rfl,(E.out _ _ _ y (WdTo.trans bh.out bu)).q λq e=>absurd e (show ¬(2:Int)=3 by decide)⟩
 have b2:(j==2)=false:=by rw[beq_eq_false_iff_ne];exact bi
 have M:=hd' (I.out.trans ((if_neg b4).trans (if_neg bi)));clear I N;go_upto_region 14 with fail;have c9:=(b0.out _ y).1
 go_region_held3 (λY=>Y.cell? ⟨H,1,.none⟩=some (.int .i64 b)/\Y.cell? ⟨g,4,.none⟩=some (.slice (some ⟨x.lb,0,.none⟩) d.l.length d.l.length))
  (first|exact⟨z1,bx⟩|exact⟨(tZ.drew.other bs _ _).cell 1,(c9.drew.other cv _ _).cell 4⟩)
  (fail)
 obtain⟨x',bk,c6,_,_⟩:=O.out Z Z.drew y br.drew;have tK:=tZ.drew.other bs b.toNat (ptrK none 0);have ek:=c6.size;have cp:=hd' (⟨⟨x',bk⟩,c6,by have:=y.size;omega⟩:WdTo B F Z _ g s {d with l:=d.l.set b.toNat none});change Exit.then _ _ _ _ (Z.drew.setCell ⟨x.lb,b.toNat,.none⟩ (ptrK none 0));generalize Z.drew.setCell ⟨x.lb,b.toNat,.none⟩ (ptrK none 0)=K1 at*;have e9:=tK.cell;have lK:=tK.lt;have cx:¬grow F Z K1 H:=λe=>by rcases e with e|e;exact bz e;omega
 have cl:B<=K1.heap.size:=by have:=y.size;omega
 have em:=bk.top.lt;have bf:d.tr.length+1<=100000000:=by have:=bj.out;omega
 have b5:d.kill b=(⟨d.m.put b (ZA 2 0),d.l.set b.toNat none,d.tr++[⟨1,b,0,0,0,0,0,0⟩],d.lg⟩,0):=rfl;replace M:=hd' (M.out.trans b5);replace bf:=hd' bf;clear b5 c9 z0 z1 z2 z3 z4 cj bx zl zf e7 e2 e5;go_wp2_with (first|(go_at_call 49;(with_reducible refine(bw.out _ _ _ _ bk).mono ?_);rintro r w5 ⟨rfl,bm,bb⟩;have cd:=tK.only bb cx;have ea:=cd.cell;have l5:=cd.lt;have bh:=hd' (WdTo.trans cp.out (WdTo.set bk cl bm bb));obtain⟨⟨x2,c8⟩,_,bg⟩:=id bh.out;have el:=c8.top.lt;have e0:=UV c8 bg 1 b bf.out)|(go_at_call 48;(with_reducible refine e0.mono ?_);rintro r w6 ⟨rfl,bu⟩));go_returns;rw[M.out];exact⟨rfl,(E.out _ _ _ y (WdTo.trans bh.out bu)).q λq e=>absurd e b4⟩
theorem z7b(h:WdP B F W g s d x)(i:B<=W.heap.size)(l:wdOk s d n)(j:n<=30000000)(c:Ch)(b:¬c.bad s):
  Calls Tryz.prog 11 #[some g,.agg c.cells.toArray] W λe w'=>e=.returned (.int .i64 (d.act s c).2)/\WdTo B F W w' g s (d.act s c).1:=
 (qT h i l j c b).mono λe w' h=>⟨h.1,h.2.to⟩
theorem nK(h:WdP B F W g s d x)(b:B<=W.heap.size)(i:wdOk s d n)(j:n<=30000000)(c:Ch):
  Calls Tryz.prog 11 #[some g,.agg c.cells.toArray] W λe w'=>e=.returned (.int .i64 (d.act s c).2)/\WdTo B F W w' g s (d.act s c).1:=by
 by_cases hb:c.bad s
 .have e:d.act s c=(d,1):=jP hb;rw[e];exact EY h b i c hb
 exact z7b h b i j c hb
end

section

theorem SU{P:Program}{w:World}{a:Addr}{m:Mode}(k:FloatKind)(x:Nat):(store a (.float k x) m).run P w=stored P w a (.float k x) m:=run_store P w a _ m rfl
attribute [local go_sem] SU

theorem zru(xs:List Ev):∀u∈xs.flatMap (λe=>e.cells.toList),u.oneCell'=true:=λu hu=>by
 obtain⟨e,_,b⟩:=List.mem_flatMap.1 hu
 simp only[Ev.cells,List.mem_cons,List.not_mem_nil,or_false]at b
 rcases b with rfl|rfl|rfl|rfl|rfl|rfl|rfl|rfl<;>rfl
theorem zvh(xs:List Ev)(v:Value)(w:World)(M:RdS w 8 v xs.length (xs.flatMap λe=>e.cells.toList))(I:xs.length<=100000000):
  Calls Tryz.prog 67 #[v] w λe w'=>∃v',e=.returned v'/\Below w.heap.size w w'/\w'.ownsRow w.heap.size 62 8 v' xs.length (xs.flatMap λe=>e.cells.toList):=by
 obtain⟨ao,cap,rfl,H,N,S,q⟩:=id M;have p:∀W:World,(binOp .eql 59 (.slice ao xs.length cap) (.slice none 0 0)).run Tryz.prog W=.ok (.bool ao.isNone) W:=λW=>Lib.run_eql_slice_nil W _ _ ao _ _ _ _ Tryz.underlying59;rcases ao with _|ad
 .have O:xs=[]:=by
   rcases xs with _|⟨b,l⟩
   .rfl
   obtain⟨_,_,h,_⟩:=q (by simp);cases h
  subst O;replace p:∀W:World,(binOp .eql 59 (.slice none 0 cap) (.slice none 0 0)).run Tryz.prog W=.ok (.bool true) W:=p;show Calls Tryz.prog 67 #[.slice none 0 cap] w _;go_in;go_wp2;go_ret;exact⟨_,rfl,Below.refl _ _,⟨rfl,.inl ⟨rfl,rfl⟩⟩⟩
 obtain⟨R,y,C,D,E⟩:=info_parts JL;have m:(w.alloc (.cells #[] 62)).ownsRow w.heap.size 62 8 (.slice (some ⟨w.heap.size,0,.none⟩) 0 0) 0 []:=World.ownsRow_lit w #[] 0 lr (Nat.zero_le _) rfl;have z:RdS (w.alloc (.cells #[] 62)) 8 (.slice (some ad) xs.length cap) xs.length (xs.flatMap λe=>e.cells.toList):=RdS.alloc M _;go_in;go_wp2_with (refine nH rfl (.tmp 5) (.tmp 6) 59 rfl w.heap.size 62 R _ 8 64 Tryz.underlying59 y C D E rfl (by omega) _ 0 [] rfl m _ xs.length _ rfl z (zru xs) (by simp only[maxLen];omega) (by omega) (by simp) ?_;intro T U i j G;have r:=sE ((Below.refl w.heap.size w).alloc lr _) m (by simp) j);go_ret;rw[Nat.zero_add,List.nil_append]at i;exact⟨_,rfl,r,i⟩
theorem rM{B:Nat}{F:Nat->Prop}{W:World}{g:Nat}{s:Sh}{d:Wd}{x:Wx}(h:WdP B F W g s d x)(l:d.tr.length<=100000000):
  Calls Tryz.prog 26 #[some g] W λe w'=>∃v',e=.returned v'/\Below W.heap.size W w'/\w'.ownsRow W.heap.size 62 8 v' d.tr.length (d.tr.flatMap λe=>e.cells.toList):=by
 have j:∀(p:Nat) (W:World),(binOp .eql 27 (.pointer (some ⟨p,0,.none⟩)) (.pointer none)).run Tryz.prog W=.ok (.bool false) W:=λp W=>by kernel_rfl
 have c0:=ce x.tv (h.top.cell 5);have hc:=hd' (zvh d.tr x.tv W (RdS.lD h.tr) l);clear h;generalize x.tv=v at*;go_in;go_wp2_with (go_at_call 67;refine hc.out.mono ?_;rintro e q ⟨m,rfl,b,i⟩);go_ret;exact⟨_,rfl,b,i⟩
theorem QQ{B:Nat}{F:Nat->Prop}{W:World}{g:Nat}{s:Sh}{d:Wd}{x:Wx}(h:WdP B F W g s d x):
  Calls Tryz.prog 15 #[some g] W λe w'=>∃v',e=.returned v'/\Below W.heap.size W w'/\w'.ownsRow W.heap.size 118 1 v' d.m.ws.length (d.m.ws.map (Value.int .u64)):=by
 have l:∀(p:Nat) (W:World),(binOp .eql 27 (.pointer (some ⟨p,0,.none⟩)) (.pointer none)).run Tryz.prog W=.ok (.bool false) W:=λp W=>by kernel_rfl
 have c0:=ce (.pointer (some ⟨x.p,0,.none⟩)) (h.top.cell 3);have hc:=hd' (z8c x.p x.b d.m W h.wds);have lg:=h.top.lt;clear h;go_in;go_wp2_with (go_at_call 53;refine hc.out.mono ?_;rintro e r ⟨q,rfl,i,j⟩);go_ret;exact⟨_,rfl,i,j⟩
theorem DQ{B:Nat}{F:Nat->Prop}{W:World}{g:Nat}{s:Sh}{d:Wd}{x:Wx}(h:WdP B F W g s d x)(c:Int)(hc:0<=c/\c.toNat<d.l.length)(i:d.l.length<=100):
  Calls Tryz.prog 24 #[some g,c] W λe w'=>e=.returned (ptrK (d.kl c) (x.qs c.toNat))/\Below W.heap.size W w':=by
 have b:∀(p:Nat) (W:World),(binOp .eql 27 (.pointer (some ⟨p,0,.none⟩)) (.pointer none)).run Tryz.prog W=.ok (.bool false) W:=λp W=>by kernel_rfl
 have c4:=ce (.slice (some ⟨x.lb,0,.none⟩) d.l.length d.l.length) (h.top.cell 4);have lg:=h.top.lt;have q:=h.ptr hc.1 hc.2;have j:=h.lst.lt;have h0:=hc.1;have h1:c<(d.l.length:Int):=by omega
 have h2:¬c<0:=by omega
 have h3:¬(d.l.length:Int)<=c:=by omega
 clear h hc;generalize ptrK (d.kl c) (x.qs c.toNat)=m at*;go_in;go_wp2_with fail;go_returns;exact⟨rfl,by go_grown⟩
end

theorem UZ:(Tryz.prog.info? 310).map (λi=>(i.zero,i.size,i.bytes))=some (some (.pointer none),1,8):=by kernel_rfl
theorem z0w(n:Nat)(l:n<=100):∀u:World,(Instr.makeSlice 148 (.int .i64 (n:Int)) (.int .i64 (n:Int))).run Tryz.prog u=.ok (.slice (some ⟨u.heap.size,0,.none⟩) n n) (u.alloc (.cells (madeCells #[.pointer none] n) 310)):=λu=>by
 obtain⟨j,hi,b,f,i⟩:=info_parts UZ
 have h:=run_make (P:=Tryz.prog) u 148 310 j (.pointer none) Tryz.underlying148 hi b .i64 .i64 (n:Int) (n:Int) (by omega) (Int.le_refl _) (by rw[i];omega) (by omega)
 rw[Int.toNat_natCast]at h
 simpa[f,Value.cells] using h
theorem z0l(n:Nat)(i:n<=2000)(w:World):
  Calls Tryz.prog 89 #[.int .i64 (n:Int)] w λe w'=>(∃p,e=.returned (.pointer (some ⟨p,0,.none⟩)))/\Below w.heap.size w w':=by
 have b:=qX n (by omega);have h1:decide ((n:Int)<0)=false:=jF (by omega);have h2:decide ((2000:Int)<(n:Int))=false:=jF (by omega);go_in;go_wp2_with fail;go_returns;exact⟨⟨_,rfl⟩,by go_grown⟩
theorem VY(s:Sh)(W:World)(I:mayB s.p s.c s.m=true):
  Calls Tryz.prog 42 #[.agg #[s.p,s.c,s.m]] W λe w'=>Below W.heap.size W w'/\∃g,e=.returned (.tuple #[.pointer (some ⟨g,0,.none⟩),.int .i64 0]):=by
 have j:=λY=>pG s.p s.c s.m Y;rw[I]at j;have hb:=JA.1 I;have hT:=(MV I).2;have l:=λY=>zv0 s Y;obtain⟨sp,V,b⟩:=s;dsimp only at*;obtain⟨n,rfl⟩:∃n:Nat,V=(n:Int):=⟨V.toNat,by omega⟩;obtain⟨N,U,z⟩:∃N:Nat,xB sp (n:Int) b=(N:Int)/\N<=2000:=⟨(xB sp (n:Int) b).toNat,by omega,by omega⟩;rw[U]at l;have q:=λY=>z0l N z Y;have b2:=z0w n (by omega);replace j:=hd' j;replace l:=hd' l;replace q:=hd' q;have b3:(n:Int)<=12:=by omega
 have O:=jA W (.cells #[sp,.int .i64 (n:Int),b] 23);have t0:aA (W.alloc (.cells #[sp,.int .i64 (n:Int),b] 23)) W.heap.size #[sp,.int .i64 (n:Int),b] 23:=O;have t1:=t0.alloc (.cells #[sp,.int .i64 (n:Int),b] 23);have C:Below W.heap.size W ((W.alloc (.cells #[sp,.int .i64 (n:Int),b] 23)).alloc (.cells #[sp,.int .i64 (n:Int),b] 23)):=by go_grown
 clear I hb hT U z O t0;go_in;go_upto_region 3 with(first|(go_at_call 21;refine(j _).mono ?_;rintro r w1 ⟨rfl,R⟩;obtain rfl:=R.symm));generalize (W.alloc (.cells #[sp,.int .i64 (n:Int),b] 23)).alloc (.cells #[sp,.int .i64 (n:Int),b] 23)=X at*;obtain⟨H,O,y⟩:=hidv W.heap.size;rw[<-y]at t1|-;clear y;have lH:=t1.lt;have i:∀Y,aA Y H #[sp,.int .i64 (n:Int),b] 23->Y.cell? ⟨H,0,.none⟩=some (.int .i64 sp)/\Y.cell? ⟨H,1,.none⟩=some (.int .i64 (n:Int))/\Y.cell? ⟨H,2,.none⟩=some (.int .i64 b):=λY h=>⟨h.cell 0,h.cell 1,h.cell 2⟩;replace i:=hd' i
 go_region_held3 (λY=>Y.cell? ⟨H,0,.none⟩=some (.int .i64 sp)/\Y.cell? ⟨H,1,.none⟩=some (.int .i64 (n:Int))/\Y.cell? ⟨H,2,.none⟩=some (.int .i64 b))
  (first|exact i _ t1.drew|exact i _ (t1.drew.alloc _)|exact i _ ((S.alloc _).alloc _)|exact i _ (S.alloc _)|exact i _ S|exact i _ (Z.alloc _)|exact i _ Z)
  (first|(go_at_call 72;refine(l _).mono ?_;rintro r w4 ⟨rfl,D⟩;have G:Below X.heap.size X w4:=(by first|exact qA br.drew D|exact qA (br.drew.alloc lr _) D);have Z:=t1.below G)|(go_at_call 89;refine(q _).mono ?_;rintro r w5 ⟨⟨p,rfl⟩,E⟩;have M:Below X.heap.size X w5:=(by first|exact qA G E|exact qA (G.alloc G.size _) E);have S:=t1.below M))
 all_goals have b1:=C.size;have b0:=M.size;have T:=qA C M;go_wp2_with fail;go_returns;exact⟨by first|exact(T.alloc (by omega) _)|exact((T.alloc (by omega) _).alloc (by simp;omega) _),_,rfl⟩
theorem yez(s:Sh)(W:World)(l:¬mayB s.p s.c s.m=true):
  Calls Tryz.prog 42 #[.agg #[s.p,s.c,s.m]] W λe w'=>Below W.heap.size W w'/\e=.returned (.tuple #[.pointer none,.int .i64 1]):=by
 have b:=λY=>pG s.p s.c s.m Y;have i:mayB s.p s.c s.m=false:=by simpa using l
 rw[i]at b;obtain⟨sp,q,t⟩:=s;dsimp only at*;replace b:=hd' b;clear l i;go_in;go_wp2_with (first|(go_at_call 21;refine(b _).mono ?_;rintro r y ⟨rfl,j⟩;obtain rfl:=j.symm));go_returns;exact⟨by go_grown,rfl⟩
theorem UP(s:Sh)(W:World)(D:mayB s.p s.c s.m=true):
  Calls Tryz.prog 10 #[.agg #[s.p,s.c,s.m]] W λe w'=>Below W.heap.size W w'/\∃g v x,e=.returned (.tuple #[.pointer (some ⟨g,0,.none⟩),.pointer (some ⟨v,0,.none⟩)])/\WdP W.heap.size (λi=>W.heap.size<=i/\i<w'.heap.size) w' g s (sB s) x:=by
 have y:=λY=>zzx s Y D;have z:=λY=>VY s Y D;have G:∀(p:Nat) (W:World),(binOp .eql 27 (.pointer (some ⟨p,0,.none⟩)) (.pointer none)).run Tryz.prog W=.ok (.bool false) W:=λp W=>by kernel_rfl
 have C:=(Below.refl W.heap.size W).alloc lr (.cells #[s.p,s.c,s.m] 23);have t0:aA (W.alloc (.cells #[s.p,s.c,s.m] 23)) W.heap.size #[s.p,s.c,s.m] 23:=jA _ _;replace y:=hd' y;replace z:=hd' z;clear D;go_in;go_upto_region 1 with fail;have q:(W.alloc (.cells #[s.p,s.c,s.m] 23)).heap.size=W.heap.size+1:=by simp
 generalize W.alloc (.cells #[s.p,s.c,s.m] 23)=X at*;obtain⟨H,N,b⟩:=hidv W.heap.size;rw[<-b]at t0 q|-;have I:=t0.cell;replace q:=hd' q;replace b:=hd' b;go_wp2_with (first|(go_at_call 41;refine(y _).mono ?_;rintro r O ⟨j,g,x,rfl,E⟩;have t1:=t0.below j;have M:=t1.cell)|(go_at_call 42;refine(z _).mono ?_;rintro r R ⟨l,v,rfl⟩));go_returns;have h1:=j.size;have h2:=l.size;have h3:=q.out;have h4:=b.out;exact⟨qA (qA C j) l,g,v,x,rfl,((E.below l).lower (by omega)).weak (λi hi=>⟨by omega,by omega⟩) (λi hi=>hi)⟩
theorem XN(s:Sh)(W:World)(z:¬mayB s.p s.c s.m=true):
  Calls Tryz.prog 10 #[.agg #[s.p,s.c,s.m]] W λe w'=>Below W.heap.size W w'/\e=.returned (.tuple #[.pointer none,.pointer none]):=by
 have j:=λY=>z8i s Y z;have l:=λY=>yez s Y z;have q:=(Below.refl W.heap.size W).alloc lr (.cells #[s.p,s.c,s.m] 23);have t0:aA (W.alloc (.cells #[s.p,s.c,s.m] 23)) W.heap.size #[s.p,s.c,s.m] 23:=jA _ _;have C:∀W:World,(binOp .eql 27 (.pointer none) (.pointer none)).run Tryz.prog W=.ok (.bool true) W:=λW=>by kernel_rfl
 replace j:=hd' j;replace l:=hd' l;clear z;go_in;go_upto_region 1 with fail;generalize W.alloc (.cells #[s.p,s.c,s.m] 23)=X at*;obtain⟨H,G,b⟩:=hidv W.heap.size;rw[<-b]at t0|-;clear b;have D:=t0.cell;go_wp2_with (first|(go_at_call 41;refine(j _).mono ?_;rintro r I ⟨i,rfl⟩;have t1:=t0.below i;have E:=t1.cell)|(go_at_call 42;refine(l _).mono ?_;rintro r M ⟨y,rfl⟩));go_returns;exact⟨qA (qA q i) y,rfl⟩
def Wd.rest (s:Sh) (d:Wd) (c:Int):Wd:=d.goN s c (GA s)
section

variable {s:Sh}{d:Wd}{n:Nat}{c:Int}

theorem RD{m:Nat}(h:AI s d n)(b:n<=m):AI s d m:=⟨⟨h.1.fi,h.1.fit,h.1.len,h.1.kl,⟨h.1.st.1,by have:=h.1.st.2;omega⟩,by have:=h.1.tr;omega,h.1.lg⟩,h.2⟩
def Rest (d:Wd) (c:Int):Prop:=∃k,d.kl c=some k/\k.job=none
theorem yI{o:Op3}(h:wdOk s d n)(i:Rest d c)(j:1<=o.k/\o.k<=4):(d.act s ⟨2,c,o.k,o.a,o.n,0⟩).2=0:=by
 obtain⟨k,h1,h2⟩:=i;obtain⟨_,_,f⟩:=h.kl _ _ h1;unfold Wd.act;rw[jN (by unfold Ch.bad;dsimp only;omega),jN (show ¬(2:Int)=1 by decide)];dsimp only;rw[h1];dsimp only;rw[jN (show ¬(2:Int)=3 by decide),jP rfl];unfold Wd.ask Kl.invoke;dsimp only;have b:k.rests=true:=by unfold Kl.rests;rw[h2];rfl
 rw[jN (by rw[b];decide),jN (show ¬((⟨2,c,o.k,o.a,o.n,0⟩:Ch).op.k<1\/4<(⟨2,c,o.k,o.a,o.n,0⟩:Ch).op.k) from (show ¬(o.k<1\/4<o.k) by omega))];split<;>rfl
theorem PK{o:Op3}(h:wdOk s d n)(f:Rest d c)(b:1<=o.k/\o.k<=4):Rest (askW s d c o) c:=by
 obtain⟨k,h1,h2,_⟩:=WN h (yI h f b);exact⟨k,h1,h2⟩
def iH (s:Sh) (d:Wd) (c:Int):Prop:=∃ σ,WI s σ d/\σ.st c=.unused
theorem aS(h:iH s d c)(hc:0<=c/\c<s.c):d.stat c=0:=by
 obtain⟨σ,b,hu⟩:=h;have h1:=b.rep.st c hc;rw[(ixs b.rep.fi).2.2.2 _ hc,hu]at h1;unfold Wd.stat;rw[h1];rfl
theorem jO(h:iH s d c)(hd:wdOk s d n)(hc:0<=c/\c<s.c):(d.act s ⟨1,c,0,0,0,0⟩).2=0/\∃k,(d.act s ⟨1,c,0,0,0,0⟩).1.kl c=some k:=by
 have h0:=aS h hc;have hi:c.toNat<d.l.length:=by rw[hd.len];omega
 unfold Wd.act;rw[jN (by unfold Ch.bad;dsimp only;omega),jP rfl];unfold Wd.begin;dsimp only;rw[jP h0];exact⟨rfl,_,by rw[d.IB hc.1 hi,jP rfl]⟩
end

theorem yJ{s:Sh}{d:Wd}{n:Nat}(h:AI s d n):(hpOf s d.m).bl=(jdOf s d).l:=by
 obtain⟨_,σ,f,b⟩:=h;have:=b.bl;rw[b.W]at this;exact yr1 f.rep f.gi this
structure IA (W0:World) (g:Nat) (s:Sh) (Kp:Nat->Obj->Prop) (d:Wd) (W:World):Prop where
 wd:∃F x,WdP W0.heap.size F W g s d x/\∀k v,Kp k v->W.heap[k]?=some v/\¬F k
 ab:Below W0.heap.size W0 W
def kp1 (k:Nat) (v:Obj):Nat->Obj->Prop:=λi o=>i=k/\o=v
def kpM (Kp:Nat->Obj->Prop) (k:Nat) (v:Obj):Nat->Obj->Prop:=λi o=>Kp i o\/(i=k/\o=v)
section

variable {W0 W W':World}{g:Nat}{s:Sh}{Kp Kq:Nat->Obj->Prop}{d d':Wd}{n:Nat}

theorem IA.keep(h:IA W0 g s Kp d W){k:Nat}{v:Obj}(b:Kp k v):W.heap[k]?=some v:=by
 obtain⟨⟨F,x,_,h2⟩,_⟩:=h;exact(h2 k v b).1
theorem IA.imp(h:IA W0 g s Kp d W)(f:∀k v,Kq k v->Kp k v):IA W0 g s Kq d W:=by
 obtain⟨⟨F,x,h1,h2⟩,h3⟩:=h;exact⟨⟨F,x,h1,λk v b=>h2 k v (f k v b)⟩,h3⟩
theorem IA.below(h:IA W0 g s Kp d W)(hb:Below W.heap.size W W'):IA W0 g s Kp d W':=by
 obtain⟨⟨F,x,h1,h2⟩,h3⟩:=h;exact⟨⟨F,x,h1.below hb,λk v b=>⟨(hb.block k (Array.getElem?_eq_some_iff.1 (h2 k v b).1).1).trans (h2 k v b).1,(h2 k v b).2⟩⟩,h3.trans (hb.mono h3.size)⟩
theorem IA.add(h:IA W0 g s Kp d W)(hb:Below W.heap.size W W'){k:Nat}{v:Obj}(p:W.heap.size<=k)(l:W'.heap[k]?=some v):IA W0 g s (kpM Kp k v) d W':=by
 obtain⟨⟨F,x,h1,h2⟩,h3⟩:=h.below hb;obtain⟨⟨j,m,b,f⟩,_⟩:=h;refine⟨⟨j,m,b.below hb,λi o hi=>?_⟩,h3⟩;rcases hi with hi|⟨rfl,rfl⟩
 .exact⟨(h2 i o hi).1,(f i o hi).2⟩
 exact⟨l,λe=>by have:=(b.lt i e).2;omega⟩
theorem IA.to{F:Nat->Prop}{x:Wx}(h3:Below W0.heap.size W0 W)(h1:WdP W0.heap.size F W g s d x)(h2:∀k v,Kp k v->W.heap[k]?=some v/\¬F k)(h:WdTo W0.heap.size F W W' g s d'):IA W0 g s Kp d' W':=by
 obtain⟨⟨r,f⟩,m,t⟩:=h;refine⟨⟨_,r,f,λk v q=>?_⟩,h3.trans (m.below h3.size (λj p=>(h1.lt j p).1))⟩;obtain⟨i,l⟩:=h2 k v q;have b:=(jE i);exact⟨(m.block k b l).trans i,zH l b⟩
theorem gO{Y:World}(q:mayB s.p s.c s.m=true)(i:Below W0.heap.size W0 Y)(b:∀k v,Kp k v->Y.heap[k]?=some v):
  Calls Tryz.prog 10 #[.agg #[s.p,s.c,s.m]] Y λe w'=>∃g v,e=.returned (.tuple #[.pointer (some ⟨g,0,.none⟩),.pointer (some ⟨v,0,.none⟩)])/\IA W0 g s Kp (sB s) w'/\Below Y.heap.size Y w':=
 (UP s Y q).mono λe w' ⟨hb,g,v,x,l,r⟩=>⟨g,v,l,⟨⟨_,x,r.lower i.size,λk o j=>⟨(hb.block k (jE (b k o j))).trans (b k o j),λe=>by have:=(jE (b k o j));omega⟩⟩,i.trans (hb.mono i.size)⟩,hb⟩
theorem CI(h:IA W0 g s Kp d W)(q:wdOk s d n)(p:n<=30000000)(l j m b cn:Int)(i:Nat):
  Calls Tryz.prog 11 #[some g,.agg #[l,j,m,b,cn,.float .f64 i]] W λe w'=>e=.returned (.int .i64 (d.act s ⟨l,j,m,b,cn,i⟩).2)/\IA W0 g s Kp (d.act s ⟨l,j,m,b,cn,i⟩).1 w':=by
 obtain⟨⟨F,x,h1,h2⟩,h3⟩:=h;exact(nK h1 h3.size q p ⟨l,j,m,b,cn,i⟩).mono λe w' k=>⟨k.1,IA.to h3 h1 h2 k.2⟩
theorem tJ(h:IA W0 g s Kp d W):
  Calls Tryz.prog 15 #[some g] W λe w'=>∃v',e=.returned v'/\Below W.heap.size W w'/\RdZ .u64 w' v' d.m.ws:=by
 obtain⟨⟨F,x,h1,h2⟩,h3⟩:=h;exact(QQ h1).mono λe w' ⟨v,k1,b,i⟩=>⟨v,k1,b,RdS.lD i⟩
theorem IA.other{G:Nat->Prop}(h:IA W0 g s Kp d W)(j:Only G W W')(p:∀k,G k->W0.heap.size<=k/\∃v,Kp k v)(r:∀k v,Kq k v->(Kp k v/\¬G k)\/((G k\/W.heap.size<=k)/\W'.heap[k]?=some v)):IA W0 g s Kq d W':=by
 obtain⟨⟨F,x,h1,h2⟩,h3⟩:=h;have hd:∀k,F k->¬G k:=λk f b=>by obtain⟨_,v,m⟩:=p k b;exact(h2 k v m).2 f
 refine⟨⟨F,x,h1.only j hd,λk v i=>?_⟩,h3.trans (j.below h3.size λk i=>(p k i).1)⟩;rcases r k v i with⟨l,q⟩|⟨b,m⟩
 .exact⟨(j.block k (Array.getElem?_eq_some_iff.1 (h2 k v l).1).1 q).trans (h2 k v l).1,(h2 k v l).2⟩
 refine⟨m,λf=>?_⟩;rcases b with b|b
 .exact hd k f b
 have:=(h1.lt k f).2;omega
end

def kpN (Kp:Nat->Obj->Prop) (W W':World):Nat->Obj->Prop:=λk v=>Kp k v\/(W.heap.size<=k/\W'.heap[k]?=some v)
section

variable {W0 W W' X:World}{g:Nat}{s:Sh}{Kp:Nat->Obj->Prop}{d d':Wd}{n:Nat}

theorem IA.news(h:IA W0 g s Kp d W)(hb:Below W.heap.size W W'):IA W0 g s (kpN Kp W W') d W':=by
 obtain⟨⟨F,x,h1,h2⟩,h3⟩:=h.below hb;obtain⟨⟨j,m,b,f⟩,_⟩:=h;refine⟨⟨j,m,b.below hb,λi o hi=>?_⟩,h3⟩;rcases hi with hi|⟨hi,l⟩
 .exact⟨(h2 i o hi).1,(f i o hi).2⟩
 exact⟨l,λe=>by have:=(b.lt i e).2;omega⟩
end

theorem XR(s:Sh)(t:Ad)(a b:Int):(t.turn s a b).done=t.done/\(t.turn s a b).c=t.c/\(t.turn s a b).d=t.d/\(3<=a->3<=b->3<=(t.turn s a b).next):=by
 unfold Ad.turn;dsimp only;by_cases h:t.at'+1=s.p
 .rw[jP h];dsimp only;split
  .exact⟨rfl,rfl,rfl,λ_ _=>(by show (3:Int)<=10;decide)⟩
  exact⟨rfl,rfl,rfl,λ_ h=>h⟩
 rw[jN h];dsimp only;split
 .exact⟨rfl,rfl,rfl,λ_ _=>(by show (3:Int)<=10;decide)⟩
 exact⟨rfl,rfl,rfl,λh _=>h⟩
theorem WR(s:Sh)(t:Ad):(t.slot s).done=t.done/\(t.slot s).c=t.c/\(t.slot s).d=t.d/\3<=(t.slot s).next:=by
 unfold Ad.slot;split
 .obtain⟨h1,h2,h3,h4⟩:=XR s ({t with i:=0,next:=11}:Ad) 10 13;exact⟨h1,h2,h3,h4 (by decide) (by decide)⟩
 exact⟨rfl,rfl,rfl,(by show (3:Int)<=11;decide)⟩
structure zO (t:Ad) (σ:Ab) (r:Ad×Ab):Prop where
 dn:r.1.done=false
 nx:3<=r.1.next
 c:r.1.c=t.c
 d:r.1.d=t.d
 st:r.2.st=σ.st
 mg:∀y i,y≠t.d->r.2.mg y i=σ.mg y i
theorem zO.of{t t' u:Ad}{σ σ':Ab}(hd:t.done=false)(h:u.done=t'.done/\u.c=t'.c/\u.d=t'.d/\3<=u.next)(e:t'.done=t.done/\t'.c=t.c/\t'.d=t.d)(h1:σ'.st=σ.st)(h2:∀y i,y≠t.d->σ'.mg y i=σ.mg y i):zO t σ (u,σ'):=
 ⟨h.1.trans (e.1.trans hd),h.2.2.2,h.2.1.trans e.2.1,h.2.2.1.trans e.2.2,h1,h2⟩
theorem yof{s:Sh}{t:Ad}{σ:Ab}(hd:t.done=false)(h3:3<=t.next):zO t σ (adA s t σ)\/adA s t σ=(t.fin 0,σ.stat t.d .done):=by
 have tk:∀(t':Ad) a b,3<=a->3<=b->(t'.turn s a b).done=t'.done/\(t'.turn s a b).c=t'.c/\(t'.turn s a b).d=t'.d/\3<=(t'.turn s a b).next:=λt' a b h1 h2=>by obtain⟨k1,N,O,R⟩:=XR s t' a b;exact⟨k1,N,O,R h1 h2⟩
 have K:∀{n:Int} (t':Ad),3<=n->t'.done=t.done->t'.c=t.c->t'.d=t.d->t'.next=n->t'.done=t.done/\t'.c=t.c/\t'.d=t.d/\3<=t'.next:=λt' h G H I q=>⟨G,H,I,by omega⟩;by_cases e:t.next=3
 .rw[QN hd e];left;cases σ.pg t.at' with
  |body h=>exact .of hd (K (n:=4) _ (by decide) rfl rfl rfl rfl) ⟨rfl,rfl,rfl⟩ rfl (λ_ _ _=>rfl)
  |empty=>exact .of hd (tk _ 3 6 (by decide) (by decide)) ⟨rfl,rfl,rfl⟩ rfl (λ_ _ _=>rfl)
  |held o=>exact .of hd (tk _ 3 6 (by decide) (by decide)) ⟨rfl,rfl,rfl⟩ rfl (λ_ _ _=>rfl)
  |super k b=>exact .of hd (tk _ 3 6 (by decide) (by decide)) ⟨rfl,rfl,rfl⟩ rfl (λ_ _ _=>rfl)
  |large n=>exact .of hd (tk _ 3 6 (by decide) (by decide)) ⟨rfl,rfl,rfl⟩ rfl (λ_ _ _=>rfl)
 by_cases q:t.next=4
 .rw[NN hd q];left;by_cases h:σ.pg t.pa=.held t.d
  .rw[jP h];exact .of hd (K (n:=5) _ (by decide) rfl rfl rfl rfl) ⟨rfl,rfl,rfl⟩ rfl (λ_ _ _=>rfl)
  rw[jN h];exact .of hd (tk _ 3 6 (by decide) (by decide)) ⟨rfl,rfl,rfl⟩ rfl (λ_ _ _=>rfl)
 by_cases C:t.next=5
 .rw[SN hd C];exact .inl (.of hd (tk _ 3 6 (by decide) (by decide)) ⟨rfl,rfl,rfl⟩ rfl (λ_ _ _=>rfl))
 by_cases D:t.next=6
 .rw[RN hd D];left;by_cases h:σ.pg t.at'=.held t.d
  .rw[jP h];exact .of hd (K (n:=7) _ (by decide) rfl rfl rfl rfl) ⟨rfl,rfl,rfl⟩ rfl (λ_ _ _=>rfl)
  rw[jN h];exact .of hd (tk _ 6 9 (by decide) (by decide)) ⟨rfl,rfl,rfl⟩ rfl (λ_ _ _=>rfl)
 by_cases r:t.next=7
 .rw[ON hd r];left;by_cases h:t.i+1=16
  .rw[jP h];exact .of hd (K (n:=8) _ (by decide) rfl rfl rfl rfl) ⟨rfl,rfl,rfl⟩ rfl (λ_ _ _=>rfl)
  rw[jN h];exact .of hd (K (n:=7) _ (by decide) rfl rfl rfl r) ⟨rfl,rfl,rfl⟩ rfl (λ_ _ _=>rfl)
 by_cases E:t.next=8
 .rw[VN hd E];exact .inl (.of hd (tk _ 6 9 (by decide) (by decide)) ⟨rfl,rfl,rfl⟩ rfl (λ_ _ _=>rfl))
 by_cases z:t.next=9
 .rw[UN hd z];left;have p:∀y i,y≠t.d->(σ.mag t.d t.i .none).mg y i=σ.mg y i:=λy i M=>HG _ (λh=>M h.1) _;by_cases h:t.i+1=s.m
  .rw[jP h];exact .of hd (K (n:=10) _ (by decide) rfl rfl rfl rfl) ⟨rfl,rfl,rfl⟩ rfl p
  rw[jN h];exact .of hd (K (n:=9) _ (by decide) rfl rfl rfl z) ⟨rfl,rfl,rfl⟩ rfl p
 by_cases f:t.next=10
 .rw[YO hd f];left;cases σ.pg t.at' with
  |super k b=>exact .of hd (K (n:=11) _ (by decide) rfl rfl rfl rfl) ⟨rfl,rfl,rfl⟩ rfl (λ_ _ _=>rfl)
  |empty=>exact .of hd (tk _ 10 13 (by decide) (by decide)) ⟨rfl,rfl,rfl⟩ rfl (λ_ _ _=>rfl)
  |held o=>exact .of hd (tk _ 10 13 (by decide) (by decide)) ⟨rfl,rfl,rfl⟩ rfl (λ_ _ _=>rfl)
  |body h=>exact .of hd (tk _ 10 13 (by decide) (by decide)) ⟨rfl,rfl,rfl⟩ rfl (λ_ _ _=>rfl)
  |large n=>exact .of hd (tk _ 10 13 (by decide) (by decide)) ⟨rfl,rfl,rfl⟩ rfl (λ_ _ _=>rfl)
 by_cases j:t.next=11
 .rw[VO hd j];left;by_cases h:σ.sl t.at' t.i=.way t.d
  .rw[jP h];exact .of hd (K (n:=12) _ (by decide) rfl rfl rfl rfl) ⟨rfl,rfl,rfl⟩ rfl (λ_ _ _=>rfl)
  rw[jN h];exact .of hd (WR s t) ⟨rfl,rfl,rfl⟩ rfl (λ_ _ _=>rfl)
 by_cases l:t.next=12
 .rw[ZO hd l];exact .inl (.of hd (WR s t) ⟨rfl,rfl,rfl⟩ rfl (λ_ _ _=>rfl))
 right;unfold adA;rw[jN (by rw[hd];decide)];rw[jN (by omega)];rw[jN (by omega)];rw[jN (by omega)];rw[jN e];rw[jN q];rw[jN C];rw[jN D];rw[jN r];rw[jN E];rw[jN z];rw[jN f];rw[jN j];rw[jN l]
def TW.gone:TW->Prop
 |.dead=>True
 |.owned _=>True
 |_=>False
def AdPh (c x:Int) (v0:TW) (t:Ad) (σ:Ab):Prop:=t.done=false/\t.c=c/\t.d=x/\
 ((t.next=0/\σ.st x=v0)\/(t.next=1/\σ.st x=v0/\v0=.owned t.who/\t.was=v0.enc)\/(t.next=2/\σ.st x=v0/\v0.gone/\t.was=v0.enc)\/(3<=t.next/\v0.gone/\σ.st x=.owned c))
def BO (x:Int) (v0:TW) (er:Int) (σ:Ab):Prop:=(v0.gone/\er=0/\σ.st x=.done)\/(¬v0.gone/\er=5/\σ.st x=v0)
structure yrr (s:Sh) (c x:Int) (st0:Int->TW) (σ σ':Ab):Prop where
 st:∀y,y≠x->σ'.st y=σ.st y
 mg:∀i,σ'.mg c i=σ.mg c i
theorem ypj{s:Sh}{c x:Int}{st0:Int->TW}{t:Ad}{σ:Ab}(b:x≠c)(j:∀a,st0 x=.owned a->st0 a≠.live)(hs:∀y,y≠x->σ.st y=st0 y)(h:AdPh c x (st0 x) t σ):
  yrr s c x st0 σ (adA s t σ).2/\(AdPh c x (st0 x) (adA s t σ).1 (adA s t σ).2\/((adA s t σ).1.done=true/\BO x (st0 x) (adA s t σ).1.err (adA s t σ).2)):=by
 obtain⟨hd,hc,m,h0⟩:=h;subst m;rcases h0 with h0|h0|h0|h0
 .rw[EK hd h0.1];refine⟨⟨λ_ _=>rfl,λ_=>rfl⟩,?_⟩;dsimp only;rw[h0.2];cases e:st0 t.d with
  |dead=>exact .inl ⟨hd,hc,rfl,.inr (.inr (.inl ⟨rfl,h0.2.trans e,trivial,rfl⟩))⟩
  |owned a=>exact .inl ⟨hd,hc,rfl,.inr (.inl ⟨rfl,h0.2.trans e,rfl,rfl⟩)⟩
  |unused=>exact .inr ⟨rfl,.inr ⟨id,rfl,h0.2.trans e⟩⟩
  |live=>exact .inr ⟨rfl,.inr ⟨id,rfl,h0.2.trans e⟩⟩
  |done=>exact .inr ⟨rfl,.inr ⟨id,rfl,h0.2.trans e⟩⟩
 .obtain⟨h1,h2,h3,h4⟩:=h0;rw[JN hd h1];have l:σ.st t.who≠.live:=by
   by_cases e:t.who=t.d
   .rw[e,h2,h3];exact λe=>by cases e
   rw[hs _ e];exact j _ h3
  rw[jN l];exact⟨⟨λ_ _=>rfl,λ_=>rfl⟩,.inl ⟨hd,hc,rfl,.inr (.inr (.inl ⟨rfl,h2,by rw[h3];trivial,h4⟩))⟩⟩
 .obtain⟨h1,h2,h3,h4⟩:=h0;rw[TN hd h1,jP (by rw[h2];exact h4.symm)];refine⟨⟨λy f=>OG _ f _,λ_=>rfl⟩,.inl ⟨hd,hc,rfl,.inr (.inr (.inr ⟨Int.le_refl _,h3,?_⟩))⟩⟩;show up σ.st t.d (.owned t.c) t.d=_;rw[aJ,hc]
 obtain⟨h1,h2,h3⟩:=h0;rcases yof (s:=s) (σ:=σ) hd h1 with h|h
 .refine⟨⟨λy _=>by rw[h.st],λi=>h.mg c i (Ne.symm b)⟩,.inl ⟨h.dn,h.c.trans hc,h.d,.inr (.inr (.inr ⟨h.nx,h2,by rw[h.st];exact h3⟩))⟩⟩
 rw[h];exact⟨⟨λy f=>OG _ f _,λ_=>rfl⟩,.inr ⟨rfl,.inl ⟨h2,rfl,aJ _ _ _⟩⟩⟩
structure xJ (s:Sh) (c x:Int) (σ0:Ab) (d:Wd):Prop where
 ex:∃ σ,WI s σ d/\(∀y,y≠x->σ.st y=σ0.st y)/\(∀i,σ.mg c i=σ0.mg c i)/\∃k,d.kl c=some k/\((∃t,k.job=some (.hei t)/\AdPh c x (σ0.st x) t σ)\/(k.job=none/\∃l e,d.tr=l ++ [e]/\BO x (σ0.st x) e.er σ))
section

variable {s:Sh}{d:Wd}{n:Nat}{c x:Int}{σ0:Ab}

theorem yn3(hd:wdOk s d n)(C:x≠c)(M:∀a,σ0.st x=.owned a->σ0.st a≠.live)(h:xJ s c x σ0 d):xJ s c x σ0 (d.goS s c):=by
 obtain⟨σ,O,h1,h2,k,q,h3⟩:=h.ex;rcases h3 with⟨t,p,N⟩|⟨p,S⟩
 .obtain⟨_,D,j⟩:=hd.kl _ _ q;rw[mH q (by rw[p];exact λe=>by cases e),OH q j];obtain⟨E,_,R⟩:=fJ O hd q p;have hi:c.toNat<d.l.length:=by rw[hd.len];omega
  obtain⟨a1,f⟩:=ypj (s:=s) (st0:=σ0.st) C M h1 N;have e:k.step s d.m=(k.after ((Jb.hei t).step s k.c d.m).1,((Jb.hei t).step s k.c d.m).2,k.tells ((Jb.hei t).step s k.c d.m).1,0):=by unfold Kl.step;rw[p]
  rw[D,R]at e;have I:(Jb.hei t).EB s c σ=(.hei (adA s t σ).1,(adA s t σ).2):=rfl;rw[I]at E e;dsimp only at E e;have r:(d.step s c k).1.kl c=some (k.after (.hei (adA s t σ).1)):=by unfold Wd.step;rw[e];dsimp only;rw[d.IB j.1 hi,jP rfl]
  have z:(d.step s c k).1.tr=d.tr++k.tells (.hei (adA s t σ).1):=by unfold Wd.step;rw[e]
  refine⟨⟨_,E,λy G=>(a1.st y G).trans (h1 y G),λi=>(a1.mg i).trans (h2 i),_,r,?_⟩⟩;rcases f with f|⟨f,H⟩
  .refine .inl ⟨_,?_,f⟩;unfold Kl.after;dsimp only;have b:(Jb.hei (adA s t σ).1).done=false:=f.1;rw[jN (by rw[b];decide)]
  have b:(Jb.hei (adA s t σ).1).done=true:=f;refine .inr ⟨?_,?_⟩
  .unfold Kl.after;dsimp only;rw[jP b]
  rw[z];unfold Kl.tells;rw[jP b];exact⟨_,_,(by rw[<-List.append_assoc,<- List.append_assoc]),H⟩
 rw[uI q p];exact h
theorem ync(hd:wdOk s d n)(b:x≠c)(f:∀a,σ0.st x=.owned a->σ0.st a≠.live)(h:xJ s c x σ0 d)(i:Nat):xJ s c x σ0 (d.goN s c i):=by
 induction i with
 |zero=>exact h
 |succ i j=>exact yn3 (QD hd i) b f j
theorem yny(hd:wdOk s d n)(M:Rest d c)(O:0<=x/\x<s.c)(r:x≠c)(N:WI s σ0 d){z:Int}:xJ s c x σ0 (d.act s ⟨2,c,4,x,z,0⟩).1:=by
 obtain⟨k,t,I⟩:=M;obtain⟨_,f,q⟩:=hd.kl _ _ t;have hi:c.toNat<d.l.length:=by rw[hd.len];omega
 have H:=hd.fi.may;have G:=LH N hd ⟨2,c,4,x,z,0⟩ (k:=k) t;unfold Wd.act;rw[jN (by unfold Ch.bad;dsimp only;omega),jN (show ¬(2:Int)=1 by decide)];dsimp only;rw[t];dsimp only;rw[jN (show ¬(2:Int)=3 by decide),jP rfl];have D:k.rests=true:=by unfold Kl.rests;rw[I];rfl
 have i:uA s.p s.c s.m x=x:=by unfold uA;rw[jP ⟨H,BA.2 (by omega)⟩]
 have E:uA s.p s.c s.m c=c:=by unfold uA;rw[jP ⟨H,BA.2 (by omega)⟩]
 have y:yC s k.c 4 x z=false:=by
  unfold yC ZC kF;rw[i,f];have h1:decide (x<0)=false:=jF (by omega);have h2:(x==c)=false:=by rw[beq_eq_false_iff_ne];exact r
  rw[h1,h2];rfl
 have C:Ch.op (⟨2,c,4,x,z,0⟩:Ch)=⟨4,x,z⟩:=rfl;have b:k.invoke s ⟨4,x,z⟩=({k with op:=⟨4,x,z⟩,told:=false,steps:=0,job:=some (ZB s k.c k.first 4 x z)},[NA k.c ⟨4,x,z⟩],0):=by unfold Kl.invoke;rw[jN (by rw[D];decide),jN (show ¬((4:Int)<1\/(4:Int)<4) by decide)];rw[jN (show ¬yC s k.c 4 x z=true by rw[y];decide)]
 have j:(d.ask s ⟨2,c,4,x,z,0⟩ k).1.kl c=some {k with op:=⟨4,x,z⟩,told:=false,steps:=0,job:=some (ZB s k.c k.first 4 x z)}:=by unfold Wd.ask;dsimp only;rw[C,b,d.IB q.1 hi,jP rfl]
 refine⟨⟨σ0,G,λ_ _=>rfl,λ_=>rfl,_,j,.inl ⟨qD s c x,?_,?_⟩⟩⟩
 .dsimp only;rw[f];rfl
 have:qD s c x=⟨c,x,0,0,0,0,0,0,0,0,0,false⟩:=by unfold qD;dsimp only;rw[jN (by rw[i,E];intro h;rcases h with h|h|h<;>omega)]
 rw[this];exact⟨rfl,rfl,rfl,.inl ⟨rfl,rfl⟩⟩
theorem ymz(f:WI s σ0 d)(h:∀y k,d.kl y=some k->k.job=none):∀a,σ0.st x=.owned a->σ0.st a≠.live:=λa b e=>by
 obtain⟨k,t,h1,h2,_⟩:=(f.ow x a b).2 e
 rw[h a k h1]at h2;cases h2
theorem RK(hd:wdOk s d n)(m:Rest d c)(M:0<=x/\x<s.c)(j:x≠c)(p:WI s σ0 d)(hi:∀y k,d.kl y=some k->k.job=none){z:Int}:
  ∃ σ,WI s σ (askW s d c ⟨4,x,z⟩)/\(∀y,y≠x->σ.st y=σ0.st y)/\(∀i,σ.mg c i=σ0.mg c i)/\BO x (σ0.st x) (PB (askW s d c ⟨4,x,z⟩)) σ:=by
 have I:=ymz (x:=x) p hi;have h1:=ync (bF hd ⟨2,c,4,x,z,0⟩) j I (yny hd m M j p) (GA s);obtain⟨k,H,G⟩:=PK (o:=⟨4,x,z⟩) hd m ⟨show (1:Int)<=4 by decide,Int.le_refl _⟩;obtain⟨σ,q,r,C,N,b,D⟩:=h1.ex;have b:(askW s d c ⟨4,x,z⟩).kl c=some N:=b;rw[H]at b;injection b with b;subst b;rcases D with⟨t,f,_⟩|⟨_,l,e,f,E⟩
 .rw[G]at f;cases f
 have f:(askW s d c ⟨4,x,z⟩).tr=l++[e]:=f;refine⟨σ,q,r,C,?_⟩;have:PB (askW s d c ⟨4,x,z⟩)=e.er:=by unfold PB;rw[f];simp
 rw[this];exact E
end

def NhI (st0:Int->TW) (s:Sh) (d:Wd) (c:Int):Prop:=∃ σ,WI s σ d/\(∀x,σ.st x=st0 x)/\∀k j,d.kl c=some k->k.job=some j->∀t,j≠.hei t
theorem yo7{s:Sh}{c:Int}{j:Jb}{σ:Ab}(h:∀t,j≠.hei t):∀t,(j.EB s c σ).1≠.hei t:=λt e=>by
 cases j with
 |hei a=>exact h a rfl
 |mal r x=>
  unfold Jb.EB at e
  dsimp only at e
  repeat' split at e
  all_goals cases e
 |fre f=>
  unfold Jb.EB at e
  dsimp only at e
  repeat' split at e
  all_goals cases e
 |aga r=>
  unfold Jb.EB at e
  dsimp only at e
  repeat' split at e
  all_goals cases e
section

variable {s:Sh}{d:Wd}{n:Nat}{c:Int}{st0:Int->TW}

theorem yru(hd:wdOk s d n)(h:NhI st0 s d c):NhI st0 s (d.goS s c) c:=by
 obtain⟨σ,p,h1,h2⟩:=h;cases hk:d.kl c with
 |none=>
  have:d.goS s c=d:=by unfold Wd.goS;rw[hk]
  rw[this];exact⟨σ,p,h1,h2⟩
 |some k=>
  cases hj:k.job with
  |none=>rw[uI hk hj];exact⟨σ,p,h1,h2⟩
  |some j=>
   obtain⟨E,r,i⟩:=hd.kl _ _ hk
   rw[mH hk (by rw[hj];exact λe=>by cases e),OH hk i]
   obtain⟨G,_,H⟩:=fJ p hd hk hj
   have hi:c.toNat<d.l.length:=by rw[hd.len];omega
   obtain⟨q,C,_⟩:=E.jb j hj
   rw[r]at q
   have z:JbAt s c σ j:=by
    have:=(p.li c k hk).2
    unfold KlAt at this;rw[hj]at this;exact this
   have D:=KQ p.rep p.gi q i C z (h2 k j hk hj)
   refine⟨_,G,λx=>(D.kept.2.2 x).trans (h1 x),λI j' f b t=>?_⟩
   have e:k.step s d.m=(k.after (j.step s k.c d.m).1,(j.step s k.c d.m).2,k.tells (j.step s k.c d.m).1,0):=by unfold Kl.step;rw[hj]
   have y:(d.step s c k).1.kl c=some (k.after (j.step s k.c d.m).1):=by
    unfold Wd.step;rw[e];dsimp only
    rw[d.IB i.1 hi,jP rfl]
   rw[y]at f
   injection f with f
   rw[<-f]at b
   unfold Kl.after at b
   dsimp only at b
   split at b
   .cases b
   .injection b with b
    rw[<-b,r,H]
    exact yo7 (h2 k j hk hj) t
theorem yqt(hd:wdOk s d n)(h:NhI st0 s d c)(i:Nat):NhI st0 s (d.goN s c i) c:=by
 induction i with
 |zero=>exact h
 |succ i b=>exact yru (QD hd i) b
theorem ypa{f k a m:Int}(b:1<=k/\k<=3):∀t,ZB s c f k a m≠.hei t:=λt e=>by
 unfold ZB at e
 repeat' split at e
 all_goals first|omega|cases e
theorem yq1(hd:wdOk s d n)(z:Rest d c){σ:Ab}(C:WI s σ d)(h1:∀x,σ.st x=st0 x){k a m:Int}(q:1<=k/\k<=3):NhI st0 s (d.act s ⟨2,c,k,a,m,0⟩).1 c:=by
 obtain⟨k0,p,j⟩:=z;obtain⟨_,y,i⟩:=hd.kl _ _ p;have hi:c.toNat<d.l.length:=by rw[hd.len];omega
 have r:=LH C hd ⟨2,c,k,a,m,0⟩ (k:=k0) p;have e:(d.act s ⟨2,c,k,a,m,0⟩).1=(d.ask s ⟨2,c,k,a,m,0⟩ k0).1:=by unfold Wd.act;rw[jN (by unfold Ch.bad;dsimp only;omega),jN (show ¬(2:Int)=1 by decide)];dsimp only;rw[p];dsimp only;rw[jN (show ¬(2:Int)=3 by decide),jP rfl]
 rw[e];refine⟨σ,r,h1,λD j' f b t=>?_⟩;unfold Wd.ask at f;dsimp only at f;rw[d.IB i.1 hi,jP rfl]at f;injection f with f;rw[<-f]at b;unfold Kl.invoke at b;split at b
 .rw[j]at b;cases b
 split at b
 .rw[j]at b;cases b
 split at b
 .dsimp only at b;rw[j]at b;cases b
 dsimp only at b;injection b with b;rw[<-b];exact ypa q t
theorem WK(hd:wdOk s d n)(f:Rest d c){σ:Ab}(i:WI s σ d)(h1:∀x,σ.st x=st0 x){k a m:Int}(b:1<=k/\k<=3):NhI st0 s (askW s d c ⟨k,a,m⟩) c:=
 yqt (bF hd ⟨2,c,k,a,m,0⟩) (yq1 hd f i h1 b) (GA s)
end

end Go.Proofs.YtkilokkopbajkaaGreat
