/- Lemmas for the claim. -/
import Derived.Test.YtmmbicppdjgbmaaGreatBw42

import Derived.Test.YtmmbicppdjgbmaaGreatBw44

set_option linter.all false
set_option maxHeartbeats 8000000
set_option maxRecDepth 100000
namespace Go.Proofs.YtmmbicppdjgbmaaGreat

section

section

variable {J:Jd} {e:Ev} {W:Int} {L:List Bk} {o:Op3} {c:Int}

theorem HR(f:J.why=0)(h:(CA J e).why=0)(i:e.k=4):FC J.l (J.pt e.c) e=0/\ZH J (CA J e) e.c (UA J.l e.at') { J.pt e.c with gave:=true}:=by
 have h0:=xH f h;have h1:=RI h0;obtain⟨h2,h3⟩:=EN h0 (by omega);have b:whyJ J.W J.l J.ps e=if FC J.l (J.pt e.c) e=0 then⟨0,UA J.l e.at',J.ps.set e.c.toNat { J.pt e.c with gave:=true}⟩ else⟨FC J.l (J.pt e.c) e,J.l,J.ps⟩:=by
  unfold whyJ
  rw[jN h1,jN (by omega),jN (by
   intro h4
   rcases h4 with h4|h4
   ·exact absurd (h2.symm.trans h4) (by decide)
   ·exact absurd (h3.symm.trans h4) (by decide)),jN (by omega),jP i]
  rfl
 by_cases h4:FC J.l (J.pt e.c) e=0
 ·rw[jP h4]at b;exact⟨h4,lF f ⟨by omega,by omega⟩ b⟩
 rw[jN h4]at b;rw[b]at h0;exact absurd h0 h4
theorem HN(f:J.why=0)(h:(CA J e).why=0)(i:e.k=5):WB (J.pt e.c) e=true/\ZH J (CA J e) e.c J.l { J.pt e.c with asks:=false}:=by
 have h0:=xH f h;have h1:=RI h0;obtain⟨h2,h3⟩:=EN h0 (by omega);have b:whyJ J.W J.l J.ps e=if WB (J.pt e.c) e=true then⟨0,J.l,J.ps.set e.c.toNat { J.pt e.c with asks:=false}⟩ else⟨4,J.l,J.ps⟩:=by
  unfold whyJ
  rw[jN h1,jN (by omega),jN (by
   intro h4
   rcases h4 with h4|h4
   ·exact absurd (h2.symm.trans h4) (by decide)
   ·exact absurd (h3.symm.trans h4) (by decide)),jN (by omega),jN (by omega)]
  rfl
 by_cases h4:WB (J.pt e.c) e=true
 ·rw[jP h4]at b;exact⟨h4,lF f ⟨by omega,by omega⟩ b⟩
 rw[jN h4]at b;rw[b]at h0;exact absurd h0 (show (4:Int)≠0 by decide)
theorem JN(f:J.why=0)(h:(CA J (NA c o)).why=0):ZH J (CA J (NA c o)) c J.l ⟨true,true,true,o.k,o.a,o.n,false,false,0,false⟩:=by
 have h0:=xH f h;have h1:=RI h0;have b:whyJ J.W J.l J.ps (NA c o)=⟨qC (J.pt c) (NA c o),J.l,J.ps.set c.toNat (CC (J.pt c) (NA c o))⟩:=by unfold whyJ;rw[jN h1,jP (show (NA c o).k<3 from (show (2:Int)<3 by decide))];rfl
 have h2:qC (J.pt c) (NA c o)=0:=by rw[b]at h0;exact h0
 have h3:CC (J.pt c) (NA c o)=⟨true,true,true,o.k,o.a,o.n,false,false,0,false⟩:=by unfold CC;rw[jN (by omega),jN (show ¬ (NA c o).k=0 from (show ¬ (2:Int)=0 by decide)),jN (show ¬ (NA c o).k=1 from (show ¬ (2:Int)=1 by decide))];rfl
 rw[h2,h3]at b;have h4:¬ (c<0\/(J.ps.length:Int)<=c\/(2:Int)<0\/(5:Int)<2):=h1;exact lF f (e:=NA c o) ⟨show 0<=c by omega,show c.toNat<J.ps.length by omega⟩ b
end

end

section

section

variable {s:Sh} {d:Wd} {n:Nat} {c:Int}

def bF (s:Sh) (d:Wd) (c:Int):Prop:=∃ σ,WI s σ d/\σ.st c= .unused
theorem DN(b:mayB s.p s.c s.m=true)(c:Int):bF s (uB s) c:=⟨jJ,AQ b,rfl⟩
theorem uH(h:bF s d c)(hd:wdOk s d n){x:Ch}(i:x.client≠c):bF s (d.act s x).1 c:=by
 obtain⟨σ,b,hu⟩:=h;have f:∀ v,(σ.stat x.client v).st c= .unused:=fun v=>by show up σ.st x.client v c=_;rw[AH _ (Ne.symm i)];exact hu
 unfold Wd.act;split
 ·exact⟨σ,b,hu⟩
 rename_i hb;unfold Ch.bad at hb;split
 ·by_cases h0:d.stat x.client=0
  ·exact⟨_,BM b hd x (by omega) h0,f _⟩
  unfold Wd.begin;rw[jN h0];exact⟨σ,b,hu⟩
 cases hk:d.kl x.client with
 |none=>exact⟨σ,b,hu⟩;|some k=>
  dsimp only;split
  ·cases hj:k.job with
   |none=>
    have:k.step s d.m=(k,d.m, [],2):=by unfold Kl.step;rw[hj]
    unfold Wd.step;rw[this];dsimp only;exact⟨σ,EM b hk (b.li _ k hk).2 (.inl rfl) _ _,hu⟩
   |some j=>have h1:=EI b hd hk hj;exact⟨_,h1.1,(h1.2.1.st c).2 hu⟩
  split
  ·exact⟨σ,FI b hd x hk,hu⟩
  exact⟨_,JJ b hd hk,f _⟩
theorem gK(h:bF s d c)(hc:0<=c/\c<s.c):d.stat c=0:=by
 obtain⟨σ,b,hu⟩:=h;have h1:=b.rep.st c hc;rw[(ixs b.rep.fi).2.2.2 _ hc,hu]at h1;unfold Wd.stat;rw[h1];rfl
theorem yl9(h:bF s d c)(hd:wdOk s d n)(hc:0<=c/\c<s.c):(d.act s ⟨1,c,0,0,0,0⟩).2=0/\∃ k,(d.act s ⟨1,c,0,0,0,0⟩).1.kl c=some k:=by
 have h0:=gK h hc;have hi:c.toNat<d.l.length:=by rw[hd.len];omega
 unfold Wd.act;rw[jN (by unfold Ch.bad;dsimp only;omega),jP rfl];unfold Wd.begin;dsimp only;rw[jP h0];exact⟨rfl,_,by rw[d.AB hc.1 hi,jP rfl]⟩
end

end

section

open Go.RowKit

attribute [local go_sem ↓] Go.wp_at_zero Go.wp_at_succ

attribute [local go_sem ↓] YK WK

theorem Bk.oneC(b:Bk):∀ u ∈ b.cells,u.oneCell'=true:=by
 intro u hu;simp only[Bk.cells,List.mem_cons,List.not_mem_nil,or_false]at hu;rcases hu with rfl|rfl<;>rfl
theorem Hp.UQ(h:Hp)(a:Int)(i:Nat):(h.slB a i).length<=i:=by
 induction i with
 |zero=>exact Nat.le_refl _;|succ i b=>unfold Hp.slB;rw[List.length_append];split<;>simp<;>omega
theorem Hp.yi8(h:Hp)(a:Int):(h.pgB a).length<=16:=by
 unfold Hp.pgB;have hb:=JC (h.pa a);split
 ·simp
 split
 ·have:=h.UQ a (mA (h.pa a)).toNat;omega
 simp
theorem Hp.yjd(h:Hp)(k:Nat):(h.blT k).length<=16*k:=by
 induction k with
 |zero=>exact Nat.le_refl _;|succ k b=>unfold Hp.blT;rw[List.length_append];have:=h.yi8 k;omega
theorem own_below{w w':World}{B:Nat}{E:TypeId}{size:Nat}{v:Value}{n:Nat}{xs:List Value}(h:w.ownsRow B E size v n xs)(hb:Below w.heap.size w w'):w'.ownsRow B E size v n xs:=
 PB h fun k b=>hb.block k (h.lt k b).2
theorem PQ(l:List Bk)(b:Bk):BA (l++[b])=BA l++b.cells:=by rw[vG];simp[BA]
theorem LQ{w w':World}{g:Nat}(h:w'.heap[g]?=w.heap[g]?)(o:Nat):w'.cell? ⟨g,o,.none⟩=w.cell? ⟨g,o,.none⟩:=by
 simp only[World.cell?,h]
theorem yrg:(Tryz.prog.info? 166).map (fun i=>(i.zero,i.size,i.bytes))=some (some (.agg #[.int .i64 0,.int .i64 0]),2,16):=by kernel_rfl
theorem yjc(h:Hp)(v:Value)(w:World)(hr:RdZ .u64 w v h.xs)(hf:h.fit):
  Calls Tryz.prog 43 #[shV h,v] w fun e w'=>∃ v',e= .returned v'/\Below w.heap.size w w'/\w'.ownsRow w.heap.size 166 2 v' h.bl.length (BA h.bl):=by
 obtain⟨ao,cap,hv,_,_,_⟩:=hr.cells;generalize h.xs.length=m at hv;subst hv;have F:=fun X hX=>vO h (.slice ao m cap) X (hr.below (w':=X) hX);have b1:=(Below.refl w.heap.size w).alloc lr (.cells #[h.p,h.c,h.m] 23);have ba:h.bl=if h.ok=true then h.blT h.p.toNat else []:=rfl;obtain⟨i0,ca,cd,cf,cg⟩:=info_parts yrg;rcases Bool.eq_false_or_eq_true h.ok with E|E;case inr=>rw[E]at F;rw[ba,E,if_neg Bool.false_ne_true];clear ba E;replace F:=hd' F;go_in;go_wp2_with fail;refine(F.out _ b1).mono ?_;rintro e w1 ⟨rfl,U⟩;have hB:=b1.trans (U.mono b1.size);go_wp2;go_ret;exact⟨_,rfl,hB.alloc hB.size _,⟨rfl,.inl ⟨rfl,rfl⟩⟩⟩
 case inl=>
  have b:Bok w (.slice ao m cap) h:=⟨E,hr,hf⟩;obtain⟨bp,_,_,_⟩:=b.bd;rw[E]at F;rw[ba,E,if_pos rfl];have bu:=fun a X (hX:Below w.heap.size w X) ha=>mH h (.slice ao m cap) a X (b.below hX) ha;have bv:=fun a i X (hX:Below w.heap.size w X) ha hi=>FK h (.slice ao m cap) a i X (b.below hX) ha hi;obtain⟨P,hP⟩:∃ P:Nat,Hid (h.p=P):=⟨h.p.toNat,hd' (by omega)⟩;have c7:h.p.toNat=P:=by have:=hP.out;omega
  rw[c7];have B:=fun a=>Hp.zN (h:=h) (a:=a);have N:=fun a=>Hp.pN (h:=h) (a:=a);have cc:Hid (∀ a,h.pb a=false->h.pk a=0):=hd' fun a hb=>by unfold Hp.pk;rw[hb,if_neg Bool.false_ne_true]
  have cl:Hid (h.blT 0= []):=hd' rfl;have cp:Hid (∀ k:Nat,h.blT (k+1)=h.blT k++h.pgB k):=hd' fun _=>rfl;have cm:Hid (∀ k:Nat,(h.blT k).length<=16*k):=hd' h.yjd;have hG:Hid (∀ a,h.pgB a=if h.pk a=3 then [⟨a*64,h.pa a*64⟩] else if h.pk a=2 then h.slB a (mA (h.pa a)).toNat else []):=hd' fun _=>rfl;have ch:Hid (∀ a,h.slB a 0= []):=hd' fun _=>rfl;have ck:Hid (∀ a (i:Nat),h.slB a (i+1)=h.slB a i++(if h.sk a i=3 then [⟨a*64+i*AA (h.pa a),AA (h.pa a)⟩] else [])):=hd' fun _ _=>rfl;have cj:Hid (∀ a (i:Nat),(h.slB a i).length<=i):=hd' h.UQ;replace F:=hd' F;replace bu:=hd' bu;replace bv:=hd' bv;replace B:=hd' B;replace N:=hd' N;clear ba E c7 b;go_in;go_wp2_with fail;refine(F.out _ b1).mono ?_;rintro e w1 ⟨rfl,U⟩;have bi:=b1.trans (U.mono b1.size);have hB:=bi.alloc bi.size (.cells #[h.p,h.c,h.m,.slice ao m cap] 107);have Y:=U.alloc U.size (.cells #[h.p,h.c,h.m,.slice ao m cap] 107);have r0:=(Y.block _ (by simp)).trans (heap_alloc_new w (.cells #[h.p,h.c,h.m] 23));have r3:=heap_alloc_new w1 (.cells #[h.p,h.c,h.m,.slice ao m cap] 107);go_upto_region 2 with fail;obtain⟨H,hH,c5⟩:=hidv w.heap.size;obtain⟨K,hK,c6⟩:=hidv w1.heap.size;rw[<-c6]at r3 ⊢;rw[<-c5]at r0 ⊢;clear c6 c5 U Y bi;generalize w1.alloc (.cells #[h.p,h.c,h.m,.slice ao m cap] 107)=W at *;have e1:=iA r0;have k0:W.cell? ⟨K,0,.none⟩=some (.int .i64 h.p):=iA r3 0;have k1:W.cell? ⟨K,1,.none⟩=some (.int .i64 h.c):=iA r3 1;have k2:W.cell? ⟨K,2,.none⟩=some (.int .i64 h.m):=iA r3 2;have k3:W.cell? ⟨K,3,.none⟩=some (.slice ao m cap):=iA r3 3;have e6:=hB.size;clear r0 r3;go_wp2_with fail;go_loopw [7,22] (fun vl vi wr=>∃ i:Nat,i<=P/\vi= .int .i64 i/\Below W.heap.size W wr/\wr.ownsRow W.heap.size 166 2 vl (h.blT i).length (BA (h.blT i))) (fun _ vi _=>P-(intOf vi).toNat);case atStart=>exact⟨0,Nat.zero_le _,rfl,Below.refl _ _,by rw[cl.out];exact⟨rfl,.inl ⟨rfl,rfl⟩⟩⟩
  case round=>
   obtain⟨i,hi,rfl,D,b5⟩:=hrel;have d0:=kA D _ _ _ k0;have d1:=kA D _ _ _ k1;have d2:=kA D _ _ _ k2;have d3:=kA D _ _ _ k3;have bj:=hB.trans (D.mono hB.size);by_cases ea:(i:Int)<h.p
   ·have e7:i<P:=by have:=hP.out;omega
    have cb:0<=(i:Int)/\(i:Int)<h.p:=by omega
    have I:=cp.out i;rw[hG.out]at I;have hL:=cm.out i;have bb:=bu.out i wr bj cb;have x3:=B.out i;have x2:=N.out i;have x0:=cc.out i;have bw:=fun j X hX hj=>bv.out i j X hX cb hj;have y0:=ch.out i;have yS:=ck.out i;have yL:=cj.out i;generalize h.blT i=L at *;generalize Z:L.length=n at *;generalize h.pk i=pk at *;generalize h.pa i=pa at *;generalize h.pn i=pn at *;generalize h.pb i=pb at *;replace bb:=hd' bb;replace bw:=hd' bw;replace y0:=hd' y0;replace yS:=hd' yS;replace yL:=hd' yL;replace I:=hd' I;replace x0:=hd' x0;replace x2:=hd' x2;replace x3:=hd' x3;replace Z:=hd' Z
    have fin:Hid (∀ X v l,Below W.heap.size W X->X.ownsRow W.heap.size 166 2 v l.length (BA l)->h.blT (i+1)=l->∃ j:Nat,j<=P/\Value.int .i64 ((i:Int)+1)= .int .i64 j/\Below W.heap.size W X/\X.ownsRow W.heap.size 166 2 v (h.blT j).length (BA (h.blT j))):=
     hd' fun X v l hb ho e=>⟨i+1,by omega,by go_num,hb,by rw[e];exact ho⟩
    go_wp2_with fail;refine bb.out.mono ?_;rintro e w2 ⟨rfl,Y⟩;have b3:=D.trans (Y.mono D.size);have R:=b3.alloc b3.size (.cells #[pk,pa,pn] 158);have b7:=own_below b5 Y;have T:=b7.alloc (.cells #[pk,pa,pn] 158);have g3:=heap_alloc_new w2 (.cells #[pk,pa,pn] 158);have bn:u7.ownBlock≠some w2.heap.size:=fun e=>by have:=(b7.lt _ e).2;omega
    go_upto_region 9 with fail;clear b5 Y b3 b7 d0 d1 d2 d3 bb D bj;generalize w2.heap.size=G at g3 bn ⊢;generalize w2.alloc (.cells #[pk,pa,pn] 158)=V at *;have p0:V.cell? ⟨G,0,.none⟩=some (.int .i64 pk):=iA g3 0;have p1:V.cell? ⟨G,1,.none⟩=some (.int .i64 pa):=iA g3 1;have lG:=(Array.getElem?_eq_some_iff.1 g3).1;have cq:=R.size;clear g3;by_cases B:pk=3
    ·subst B;have bs:pb=true:=by
      rcases Bool.eq_false_or_eq_true pb with hp|hp
      ·exact hp
      exact absurd (x0.out hp) (by omega)
     subst bs;obtain⟨a1,a2,a3⟩:=x3.out rfl;have m1:IntKind.i64.wrap ((i:Int)*64)=(i:Int)*64:=IntWalk.i64_in _ ⟨by omega,by omega⟩;have m2:=wrp (pa*64);go_wp2_with (refine AG rfl (.tmp 34) (.tmp 41) 101 rfl W.heap.size 166 i0 _ 2 16 Tryz.underlying101 ca cd cf cg rfl (by omega) _ n (BA L) rfl (T.alloc _) _ 1 (Bk.cells ⟨(i:Int)*64,pa*64⟩) rfl (RdS.new (cs:=(Bk.cells ⟨(i:Int)*64,pa*64⟩).toArray) (t:=166) (sz:=2) (n:=1) (heap_alloc_new V _) rfl (by omega)) (Bk.oneC _) (by simp only[maxLen];omega) (by omega) (by simp;omega) ?_;intro v1 w1 O r bh;have c8:=bE (R.alloc cq _) (T.alloc _) (by simp;omega) r;have q0:=(LQ (r.block G (by simp;omega) (fun e=>bn e.symm)) 0).trans (kA ((Below.refl V.heap.size V).alloc lr _) _ _ _ p0));refine⟨fin.out _ _ (L++[⟨(i:Int)*64,pa*64⟩]) c8 ?_ ?_,by simp[intOf];omega⟩
     ·rw[PQ,List.length_append,List.length_singleton,Z.out];exact O
     exact I.out
    by_cases N:pk=2
    ·subst N;have bs:pb=true:=by
      rcases Bool.eq_false_or_eq_true pb with hp|hp
      ·exact hp
      exact absurd (x0.out hp) (by omega)
     subst bs;obtain⟨a1,a2⟩:=x2.out rfl;have bf:=kD pa;have bx:=aH pa;have cz:=JC pa;have ec:=RH pa;have bk:=fun (j:Int) X (hj:0<=j/\j<=16)=>HW i j pa X (by omega) hj;have hT:=I.out;rw[if_neg B,if_pos rfl]at hT;obtain⟨q,hq⟩:∃ q:Nat,mA pa=q:=⟨(mA pa).toNat,by omega⟩;rw[hq]at bf cz hT;rw[Int.toNat_natCast]at hT;generalize AA pa=z at *;replace bf:=hd' bf;replace bx:=hd' bx;replace bk:=hd' bk;replace hT:=hd' hT;clear I x0 x2 x3 B hq;go_wp2_with fail;refine(bf.out _).mono ?_;rintro e w3 ⟨rfl,hw⟩;obtain rfl:=hw.symm;clear hw;obtain⟨Wr,rfl⟩:∃ V:World,V=wr:=⟨_,rfl⟩;go_wp2_with fail;go_loopw [7,49] (fun vl vj wr=>∃ j:Nat,j<=q/\vj= .int .i64 j/\Below W.heap.size W wr/\wr.ownsRow W.heap.size 166 2 vl (n+(h.slB i j).length) (BA (L++h.slB i j))/\wr.cell? ⟨G,1,.none⟩=some (.int .i64 pa)/\G<wr.heap.size/\vl.ownBlock≠some G) (fun _ vj _=>q-(intOf vj).toNat);case atStart=>exact⟨0,Nat.zero_le _,rfl,R,by rw[y0.out,List.append_nil];exact T,p1,lG,bn⟩
     case round=>
      obtain⟨j,hj,rfl,y,bz,r1,lq,bq⟩:=hrel;by_cases e9:j<q
      ·have d0:=kA y _ _ _ k0;have d1:=kA y _ _ _ k1;have d2:=kA y _ _ _ k2;have d3:=kA y _ _ _ k3;have c4:=hB.trans (y.mono hB.size);have bc:=bw.out j wr c4 (by omega);have b6:=yS.out j;have e5:=yL.out j;have ed:=WE (c:=(j:Int)) (m:=z) (C:=16) (M:=32) (by omega) (by omega);have cu:0<=(j:Int)/\(j:Int)<=16:=by omega
       have b0:=fun X=>bk.out j X cu;generalize h.sk i j=k4 at *;generalize h.sa i j=k5 at *;generalize h.slB i j=M at *;generalize b9:M.length=mm at *;generalize (i:Int)*64+(j:Int)*z=ad at *;replace bc:=hd' bc;replace b6:=hd' b6;replace b0:=hd' b0;replace b9:=hd' b9
       have bg:Hid (∀ X v l,Below W.heap.size W X->X.ownsRow W.heap.size 166 2 v (n+l.length) (BA (L++l))->h.slB i (j+1)=l->X.cell? ⟨G,1,.none⟩=some (.int .i64 pa)->G<X.heap.size->v.ownBlock≠some G->∃ k:Nat,k<=q/\Value.int .i64 ((j:Int)+1)= .int .i64 k/\Below W.heap.size W X/\X.ownsRow W.heap.size 166 2 v (n+(h.slB i k).length) (BA (L++h.slB i k))/\X.cell? ⟨G,1,.none⟩=some (.int .i64 pa)/\G<X.heap.size/\v.ownBlock≠some G):=
        hd' fun X v l hb ho e c lx hn=>⟨j+1,by omega,by go_num,hb,by rw[e];exact ho,c,lx,hn⟩
       go_wp2_with fail;refine bc.out.mono ?_;rintro e w5 ⟨rfl,b2⟩;have b8:=own_below bz b2;have b4:=y.trans (b2.mono y.size);have r5:=kA b2 _ _ _ r1;have eb:=b2.size;have cy:=b4.size;clear d0 d1 d2 d3 c4 bz y r1 b2;by_cases bm:k4=3
       ·subst bm;have S:=b6.out;rw[if_pos rfl]at S;replace S:=hd' S;clear b6 bc;go_upto_region 16 with fail
        go_region_held3 (fun w'=>w'.cell? ⟨G,1,.none⟩=some (.int .i64 pa)) (first|go_keep|exact q1)
         (first|(go_at_call 85;(with_reducible refine(b0.out _).mono ?_);rintro e w6 ⟨rfl,rfl⟩)|(go_at_call 86;(with_reducible refine(bx.out _).mono ?_);rintro e w6 ⟨rfl,rfl⟩)|(refine cG (by rfl) (.tmp 58) (.tmp 68) 101 (by rfl) W.heap.size 166 i0 _ 2 16 Tryz.underlying101 ca cd cf cg rfl (by omega) _ (n+mm) (BA (L++M)) (by rfl) ((b8.alloc _).drew) _ 1 (Bk.cells ⟨ad,z⟩) (by rfl) (RdS.new (cs:=(Bk.cells ⟨ad,z⟩).toArray) (t:=166) (sz:=2) (n:=1) (heap_alloc_new w5 _) rfl (by omega)) (Bk.oneC _) (by simp only[maxLen];omega) (by omega) (by simp;omega) ?_;intro v1 w1 O r bh;have c9:=bE ((b4.alloc cy _).drew) ((b8.alloc _).drew) (by simp;omega) r;have q1:=(LQ (r.block G (by simp;omega) (fun e=>bq e.symm)) 1).trans (kA ((Below.refl w5.heap.size w5).alloc lr _) _ _ _ r5);have e0:G<w1.heap.size:=HD q1;have cx:v1.ownBlock≠some G:=(fun e=>by rcases bh with h|h;exact bq (h.symm.trans e);(have:=h.symm.trans e;injection this with this;simp at this;omega))))
        go_wp2;refine⟨bg.out _ _ (M++[⟨ad,z⟩]) c9 ?_ S.out q1 e0 cx,by simp[intOf];omega⟩;rw[<-List.append_assoc,PQ,List.length_append,List.length_singleton,b9.out,<- Nat.add_assoc];exact O
       have e4:(k4==3)=false:=by rw[beq_eq_false_iff_ne];exact bm
       go_wp2;refine⟨bg.out _ _ M b4 (by rw[b9.out];exact b8) ?_ r5 (by omega) bq,by simp[intOf];omega⟩;have:=b6.out;rw[if_neg bm,List.append_nil]at this;exact this
      have cv:j=q:=by omega
      subst cv;have e8:¬ ((j:Int)<(j:Int)):=by omega
      go_wp2;refine⟨fin.out _ _ (L++h.slB i j) y ?_ hT.out,by simp[intOf];omega⟩;rw[List.length_append,Z.out];exact bz
    have e3:(pk==3)=false:=by rw[beq_eq_false_iff_ne];exact B
    have e2:(pk==2)=false:=by rw[beq_eq_false_iff_ne];exact N
    go_wp2_with fail;refine⟨fin.out _ _ L R ?_ ?_,by simp[intOf];omega⟩
    ·rw[Z.out];exact T
    have:=I.out;rw[if_neg B,if_neg N,List.append_nil]at this;exact this
   have cr:i=P:=by have:=hP.out;omega
   subst cr;go_wp2;go_ret;exact⟨_,rfl,bj,World.ownsRow.mono b5 (by omega)⟩
end

section

open Go.RowKit

attribute [local go_sem ↓] Go.wp_at_zero Go.wp_at_succ

theorem Hp.AS{h:Hp}{a:Int}(hs:h.snd a=true):h.pb a=true:=by
 unfold Hp.snd at hs;split at hs
 ·assumption
 cases hs
theorem Hp.yot{h:Hp}{a:Int}{n:Nat}(hs:h.rowT a n=true):∀ i:Nat,i<n->h.pk (a+1+i)=4/\h.pa (a+1+i)=a:=by
 induction n with
 |zero=>intro i hi;omega;|succ n b=>
  intro i hi;have h1:(h.rowT a n&&(h.pk (a+1+n)==4&&h.pa (a+1+n)==a))=true:=hs;simp only[jC,beq_iff_eq]at h1;rcases Nat.lt_or_ge i n with h2|h2
  ·exact b h1.1 i h2
  have:i=n:=by omega
  subst this;exact h1.2
theorem okK.widen{W W':Int}(f:W<=W'){l:List Bk}:∀ {lo:Int},okK W lo l->okK W' lo l:=by
 induction l with
 |nil=>exact fun h=>Int.le_trans h f
 |cons b l i=>exact fun h=>⟨h.1,h.2.1,i h.2.2⟩
theorem Hp.nS{h:Hp}{a:Int}{q:Nat}{b:Bk}:b ∈ h.slB a q↔∃ i:Nat,i<q/\h.sk a i=3/\b=⟨a*64+i*AA (h.pa a),AA (h.pa a)⟩:=by
 induction q with
 |zero=>simp[Hp.slB];|succ q f=>
  unfold Hp.slB;rw[List.mem_append,f];constructor
  ·rintro(⟨i,h1,h2,h3⟩|h1)
   ·exact⟨i,by omega,h2,h3⟩
   split at h1
   ·rename_i h2;exact⟨q,by omega,h2,by simpa using h1⟩
   simp at h1
  rintro⟨i,h1,h2,h3⟩;rcases Nat.lt_or_ge i q with h4|h4
  ·exact .inl ⟨i,h4,h2,h3⟩
  have:i=q:=by omega
  subst this;right;rw[jP h2];simp[h3]
theorem Hp.yqs{h:Hp}{k:Nat}{b:Bk}:b ∈ h.blT k↔∃ a:Nat,a<k/\b ∈ h.pgB a:=by
 induction k with
 |zero=>simp[Hp.blT];|succ k f=>
  unfold Hp.blT;rw[List.mem_append,f];constructor
  ·rintro(⟨a,h1,h2⟩|h1)
   ·exact⟨a,by omega,h2⟩
   exact⟨k,by omega,h1⟩
  rintro⟨a,h1,h2⟩;rcases Nat.lt_or_ge a k with h4|h4
  ·exact .inl ⟨a,h4,h2⟩
  have:a=k:=by omega
  subst this;exact .inr h2
theorem Hp.yrn{h:Hp}{a:Int}(f:1<=AA (h.pa a))(q:Nat):okK (a*64+q*AA (h.pa a)) (a*64) (h.slB a q):=by
 induction q with
 |zero=>show a*64<=a*64+((0:Nat):Int)*_;simp;|succ q b=>
  unfold Hp.slB;have e:((q+1:Nat):Int)*AA (h.pa a)=q*AA (h.pa a)+AA (h.pa a):=by rw[Int.natCast_add,Int.add_mul];simp
  rw[e];split
  ·refine okK.append (M:=a*64+q*AA (h.pa a)) ?_ b;exact⟨Int.le_refl _,f,by show _+_<=_;simp only;omega⟩
  rw[List.append_nil];exact b.widen (by omega)
theorem Hp.row_of{h:Hp}{a:Int}(hs:h.snd a=true)(b:h.pk a=3):(1<=h.pa a/\h.pa a<=8/\h.pa a<=h.p-a)/\∀ q:Int,a<q->q<a+h.pa a->h.pk q=4/\h.pa q=a:=by
 have f:=Hp.AS hs;refine⟨Hp.zN (by rw[f,b];rfl),fun q h1 h2=>?_⟩;unfold Hp.snd at hs;rw[jP f,jN (by rw[b];decide),jP b,jC]at hs;have h3:=Hp.yot hs.2 (q-a-1).toNat (by omega);rw[show a+1+((q-a-1).toNat:Int)=q by omega]at h3;exact h3
theorem Hp.yrc{h:Hp}{a:Int}(hs:h.snd a=true)(p:h.pk a=2):∃ z q:Nat,AA (h.pa a)=z/\mA (h.pa a)=q/\1<=z/\z*q=64:=by
 have r:=Hp.AS hs;have f:=Hp.pN (h:=h) (a:=a) (by rw[r,p];rfl);have b:=KX f;have y:=RH (h.pa a);have t:=JC (h.pa a);obtain⟨z,l⟩:∃ z:Nat,AA (h.pa a)=z:=⟨(AA (h.pa a)).toNat,by omega⟩;obtain⟨q,j⟩:∃ q:Nat,mA (h.pa a)=q:=⟨(mA (h.pa a)).toNat,by omega⟩;rw[l,j]at b;have i:z*q=64:=by exact_mod_cast b
 refine⟨z,q,l,j,?_,i⟩;rcases Nat.eq_zero_or_pos z with e|e
 ·subst e;omega
 exact e
theorem Hp.yq7{h:Hp}{P:Nat}(O:h.p=P)(hs:∀ i:Nat,i<P->h.snd i=true)(k:Nat)(R:k<=P):
  okK (64*h.en k) 0 (h.blT k)/\(k:Int)<=h.en k/\h.en k<=P/\∀ q:Int,k<=q->q<h.en k->h.pk q=4:=by
 induction k with
 |zero=>exact⟨Int.le_refl 0,Int.le_refl 0,by show (0:Int)<=P;omega,fun q h1 h2=>by have:h.en 0=0:=rfl;omega⟩;|succ k I=>
  obtain⟨l,S,T,C⟩:=I (by omega);have b:=hs k (by omega);have f:h.pk k≠4->h.en k=k:=fun E=>by false_or_by_contra;exact E (C k (Int.le_refl _) (by omega))
  unfold Hp.blT Hp.pgB Hp.en;by_cases h3:h.pk k=3
  ·rw[jP h3,jP h3];have r:=f (by rw[h3];decide);obtain⟨N,D⟩:=Hp.row_of b h3;refine⟨?_,by omega,by omega,fun q h4 B=>(D q (by omega) B).1⟩;rw[r]at l;have j:okK (64*((k:Int)+h.pa k)) (64*k) [⟨(k:Int)*64,h.pa k*64⟩]:=⟨by show 64*(k:Int)<=k*64;omega,by show 1<=h.pa k*64;omega,by show (k:Int)*64+h.pa k*64<=_;omega⟩;exact okK.append j l
  rw[jN h3,jN h3];refine⟨?_,by omega,by omega,fun q h4 B=>C q (by omega) (by omega)⟩;by_cases h2:h.pk k=2
  ·rw[jP h2];have r:=f (by rw[h2];decide);obtain⟨z,q,G,F,H,y⟩:=Hp.yrc b h2;have t:=Hp.yrn (h:=h) (a:=k) (by omega) q;rw[G]at t;have e:(q:Int)*z=64:=by rw[Int.mul_comm];exact_mod_cast y
   rw[e]at t;rw[F,Int.toNat_natCast];rw[r]at l ⊢;exact okK.append (M:=64*k) ((t.mono (by omega)).widen (by omega)) l
  rw[jN h2,List.append_nil];exact l.widen (by omega)
theorem Hp.ynd{h:Hp}(hs:h.sound=true):h.ok=true/\∃ P:Nat,h.p=P/\h.p.toNat=P/\P<=64/\∀ i:Nat,i<P->h.snd i=true:=by
 unfold Hp.sound at hs;rw[jC]at hs;have b:mayB h.p h.c h.m=true:=by have:=hs.1;unfold Hp.ok at this;rw[jC]at this;exact this.1
 have hb:=LA.1 b;exact⟨hs.1,h.p.toNat,by omega,rfl,by omega,Hp.jR h hs.2⟩
theorem Hp.yrz{h:Hp}(hs:h.sound=true):okK (64*h.p) 0 h.bl:=by
 obtain⟨l,P,i,b,j,f⟩:=Hp.ynd hs;unfold Hp.bl;rw[jP l,b];obtain⟨k1,q,r,t⟩:=Hp.yq7 i f P lr;exact k1.widen (by omega)
end

section

variable {s:Sh} {m:Mem} {σ:Ab}

theorem yrj(y:Rep s m σ)(j:GI s σ)(x:Bk):x ∈ (hpOf s m).bl↔∃ b:Bl,σ.has b/\b.at'=x.a/\b.len=x.n:=by
 have O:=y.fi.bd;unfold Hp.bl;rw[jP (cO y),Hp.yqs];have R:(hpOf s m).p.toNat=s.p.toNat:=rfl;rw[R];constructor
 ·rintro⟨a,U,f⟩;have z:0<=(a:Int)/\(a:Int)<s.p:=by omega
  obtain⟨_,h2,h3⟩:=zG y j z;unfold Hp.pgB at f;rw[h2,h3]at f;cases e:σ.pg a with
  |large n=>rw[e,jP (by simp[PW.kind])]at f;simp only[List.mem_singleton]at f;subst f;exact⟨.lar a n,e,rfl,rfl⟩
  |super k b=>
   rw[e,jN (by simp[PW.kind]),jP (by simp[PW.kind]),Hp.nS]at f;obtain⟨i,hi,r,rfl⟩:=f;have B:=j.pf a;rw[e]at B;have M:=ZI B.2.1;have I:(i:Int)<mA k:=by have T:i<(mA k).toNat:=hi;omega
   have l:0<=(i:Int)/\(i:Int)<16:=by omega
   obtain⟨H,_⟩:=SI y j z l;rw[H]at r;have hs:=j.sk a i;rw[e]at hs;unfold sE at hs;dsimp only at hs;rw[jP ⟨l.1,I⟩]at hs;rcases hs with q|q|⟨c,q⟩
   ·rw[q]at r;exact absurd r (by simp[SW.kind])
   ·refine⟨.sm a i k,q,?_,?_⟩
    ·show (a:Int)*64+i*AA k=_*64+_*AA ((hpOf s m).pa a);rw[h3,e];rfl
    show AA k=AA ((hpOf s m).pa a);rw[h3,e];rfl
   rw[q]at r;exact absurd r (by simp[SW.kind])
  |empty=>rw[e,jN (by simp[PW.kind]),jN (by simp[PW.kind])]at f;simp at f
  |held o=>rw[e,jN (by simp[PW.kind]),jN (by simp[PW.kind])]at f;simp at f
  |body h=>rw[e,jN (by simp[PW.kind]),jN (by simp[PW.kind])]at f;simp at f
 rintro⟨b,hb,F,G⟩;cases b with
 |lar p n=>
  have e:σ.pg p= .large n:=hb;have B:=j.pf p;rw[e]at B;have N:0<=p/\p<s.p:=B.1;refine⟨p.toNat,by omega,?_⟩;have t:((p.toNat:Nat):Int)=p:=by omega
  obtain⟨_,h2,h3⟩:=zG y j N;unfold Hp.pgB;rw[t,h2,h3,e,jP (by simp[PW.kind]),List.mem_singleton];cases x;have q1:p*64=_:=F;have q2:n*64=_:=G;dsimp only at q1 q2;subst q1 q2;rfl
 |sm p i k=>
  obtain⟨⟨S,e⟩,hi,r,D,E⟩:=pH j hb;have q:σ.sl p i= .taken k:=hb;have M:=ZI r;refine⟨p.toNat,by omega,?_⟩;have t:((p.toNat:Nat):Int)=p:=by omega
  obtain⟨_,h2,h3⟩:=zG y j (a:=p) ⟨D,E⟩;unfold Hp.pgB;rw[t,h2,h3,e,jN (by simp[PW.kind]),jP (by simp[PW.kind]),Hp.nS];obtain⟨H,_⟩:=SI y j (a:=p) (i:=i) ⟨D,E⟩ (by omega);have C:((i.toNat:Nat):Int)=i:=by omega
  refine⟨i.toNat,by show i.toNat<(mA k).toNat;omega,by rw[C,H,q];rfl,?_⟩;rw[C,h3,e];cases x;have q1:p*64+i*AA k=_:=F;have q2:AA k=_:=G;dsimp only at q1 q2;subst q1 q2;rfl
theorem yrx(i:Rep s m σ)(f:GI s σ){l:List Bk}(h:GD (s.p*64) σ.has l):(hpOf s m).bl=l:=by
 have h1:=Hp.yrz (SN i f);have e:64*(hpOf s m).p=s.p*64:=Int.mul_comm _ _;rw[e]at h1;refine okK.same h1 h.ok fun b=>?_;rw[yrj i f];exact(h.mem b.a b.n).symm
end

section

open Go.RowKit

attribute [local go_sem ↓] Go.wp_at_zero Go.wp_at_succ

theorem yrw{s:Sh}{d:Wd}{n:Nat}(h:AI s d n):(hpOf s d.m).bl=(jdOf s d).l:=by
 obtain⟨_,σ,f,b⟩:=h;have:=b.bl;rw[b.W]at this;exact yrx f.rep f.gi this
theorem BR{s:Sh}{d:Wd}{n:Nat}(h:AI s d n)(v:Value)(w:World)(z:RdZ .u64 w v d.m.ws):
  Calls Tryz.prog 43 #[.agg #[s.p,s.c,s.m],v] w fun e w'=>Below w.heap.size w w'/\∃ ao cap,e= .returned (.slice ao (jdOf s d).l.length cap)/\(jdOf s d).l.length<=cap/\(cap:Int)<=9223372036854775807/\
   Hid (∀ k (i:k<(jdOf s d).l.length),∃ b off,ao=some ⟨b,off,.none⟩/\(w.heap.size<=b/\b<w'.heap.size)/\w'.cell? ⟨b,off+k*2,.none⟩=some (.int .i64 ((jdOf s d).l[k]).a)/\w'.cell? ⟨b,off+k*2+1,.none⟩=some (.int .i64 ((jdOf s d).l[k]).n)):=by
 refine(yjc (hpOf s d.m) v w z h.1.fit).mono fun e w' ⟨v',h1,h2,h3⟩=>⟨h2,?_⟩;rw[yrw h]at h3;obtain⟨ao,cap,rfl,q,r,_,t⟩:=RdS.AC h3;refine⟨ao,cap,h1,q,r,hd' fun k i=>?_⟩;obtain⟨b,off,j,hb,hc⟩:=t (by omega);have y:=(h3.lt b (by rw[j];rfl)).1;refine⟨b,off,j,⟨y,hb⟩,?_,?_⟩
 ·refine(hc (k*2) (by omega)).trans ?_;exact YJ _ _ 0 i (by omega)
 rw[Nat.add_assoc];refine(hc (k*2+1) (by omega)).trans ?_;exact YJ _ _ 1 i (by omega)
end

section

open Go.RowKit

section

variable {W0 W W':World} {g:Nat} {s:Sh} {Kp Kq:Nat->Obj->Prop} {d d':Wd} {n:Nat}

theorem DR(h:KA W0 g s Kp d W)(i:wdOk s d n)(b:n+1+WA s<=10000000)(c k a m:Int)(h0:(d.act s ⟨2,c,k,a,m,0⟩).2=0):
  Calls Tryz.prog 21 #[some g,.agg #[s.p,s.c,s.m],c,.agg #[k,a,m]] W fun e w'=>
   e= .returned (.tuple #[.int .i64 (YD (askW s d c ⟨k,a,m⟩)),.bool true])/\KA W0 g s Kp (askW s d c ⟨k,a,m⟩) w':=
 (mS h i b c k a m).mono fun e w' h=>by rw[jP h0]at h;exact h
theorem ym4(h:KA W0 g s Kp d W)(p:wdOk s d n){c:Int}{k:Kl}(i:d.kl c=some k):∃ q:Nat,(∀ Y,jW W Y->Calls Tryz.prog 44 #[some g,c] Y fun e w'=>e= .returned (.pointer (some ⟨q,0,.none⟩))/\Below Y.heap.size Y w')/\(∀ Y,jW W Y->Calls Tryz.prog 45 #[some q] Y fun e w'=>e= .returned (.bool k.rests)/\w'=Y):=by
 obtain⟨⟨F,x,h1,h2⟩,h3⟩:=h;have b:=Wd.gC i;have r:d.l.length<=100:=by have:=p.fi.bd;have:=p.len;omega
 have j:d.l.getD c.toNat none=some k:=by have h1:=i;unfold Wd.kl at h1;rw[jP b.1]at h1;exact h1
 refine⟨x.qs c.toNat,fun Y hb=>?_,fun Y hb=>GX ((h1.below hb).cl c.toNat k j)⟩;have h4:=NW (h1.below hb) c b r;rw[i]at h4;exact h4
end

end

section

variable {s:Sh} {m:Mem} {σ:Ab}

def Bare (s:Sh) (σ:Ab):Prop:=∀ c,0<=c/\c < s.c->qA σ c .no/\∀ i,σ.mg c i= .none
theorem Bare.held(h:Bare s σ)(f:GI s σ){p o:Int}(e:σ.pg p= .held o):False:=by
 have b:=f.pf p;rw[e]at b;exact((h o b.2).1.h p).1 e
theorem Bare.way(h:Bare s σ)(q:GI s σ){p i k b o:Int}(e:σ.pg p= .super k b)(l:σ.sl p i= .way o):False:=by
 have f:=q.sf p i;rw[l]at f;rcases((h o f).1.w p i k).1 ⟨⟨b,e⟩,l⟩ with h1|⟨j,h1⟩
 ·exact h1
 rw[(h o f).2 j]at h1;cases h1
theorem Cn.CS{a b:Cn}(f:a.l=0/\a.o=0)(hb:b.l=0/\b.o=0):(a.add b).l=0/\(a.add b).o=0:=by
 unfold Cn.add;dsimp only;omega
theorem yrl(z:Rep s m σ)(j:GI s σ)(h:Bare s σ){a:Int}(B:0<=a/\a<s.p):((hpOf s m).pgC a).l=0/\((hpOf s m).pgC a).o=0:=by
 obtain⟨h1,h2,h3⟩:=zG z j B
 have hb:(hpOf s m).hb a=false:=by
  unfold Hp.hb Hp.hd
  rw[h1,h2,h3,Bool.true_and]
  cases e:σ.pg a with
  |held o=>exact(h.held j e).elim
  |body q=>
   rw[jP (by simp[PW.kind])]
   have C:=j.pf a
   rw[e]at C
   obtain⟨_,r,G,H⟩:=C
   obtain⟨_,E,_⟩:=zG z j (a:=q) ⟨r,by omega⟩
   show (_&&_)=false
   rw[show PW.pa (.body q)=q from rfl,E]
   rcases j.bd a q e with⟨o,f⟩|⟨n,f,_⟩
   ·exact(h.held j f).elim
   ·rw[f];simp[PW.kind]
  |empty=>rw[jN (by simp[PW.kind]),h2,e];simp[PW.kind]
  |super k b=>rw[jN (by simp[PW.kind]),h2,e];simp[PW.kind]
  |large n=>rw[jN (by simp[PW.kind]),h2,e];simp[PW.kind]
 unfold Hp.pgC;rw[hb,h1,jN (by simp)];split
 ·exact⟨rfl,rfl⟩
 split
 ·rename_i _ t
  have e:∃ k b,σ.pg a= .super k b:=by
   rw[h2]at t
   cases e:σ.pg a with
   |super k b=>exact⟨k,b,rfl⟩
   |_=>rw[e]at t;simp[PW.kind]at t
  obtain⟨k,b,e⟩:=e;have y:(hpOf s m).pa a=k:=by rw[h3,e];rfl
  have F:=JC k;rw[y]
  have key:∀ n:Nat,(n:Int)<=mA k->((hpOf s m).slS a (AA k) n).l=0/\((hpOf s m).slS a (AA k) n).o=0:=by
   intro n
   induction n with
   |zero=>intro _;exact⟨rfl,rfl⟩
   |succ n I=>
    intro M
    refine Cn.CS (I (by omega)) ?_
    obtain⟨D,_⟩:=SI z j B (i:=n) (by omega)
    have hs:=j.sk a n
    rw[e]at hs
    unfold sE at hs
    dsimp only at hs
    rw[jP ⟨by omega,by omega⟩]at hs
    unfold Hp.slC
    rw[D]
    rcases hs with f|f|⟨o,f⟩
    ·rw[f,jP (by simp[SW.kind])];exact⟨rfl,rfl⟩
    ·rw[f,jN (by simp[SW.kind]),jP (by simp[SW.kind])];exact⟨rfl,rfl⟩
    ·exact(h.way j e f).elim
  exact key _ (by omega)
 exact⟨rfl,rfl⟩
theorem yo2(b:Rep s m σ)(f:GI s σ)(h:Bare s σ):(hpOf s m).count.l=0/\(hpOf s m).count.o=0:=by
 unfold Hp.count;rw[jP (cO b)];have hb:=b.fi.bd
 have key:∀ n:Nat,(n:Int)<=s.p->((hpOf s m).cn n).l=0/\((hpOf s m).cn n).o=0:=by
  intro n
  induction n with
  |zero=>intro _;exact⟨rfl,rfl⟩
  |succ n i=>intro j;exact Cn.CS (i (by omega)) (yrl b f h ⟨by omega,by omega⟩)
 exact key (hpOf s m).p.toNat (by show ((s.p.toNat:Nat):Int)<=s.p;omega)
end

section

def One (s:Sh) (d:Wd) (c:Int):Prop:=Rest d c/\∃ σ,WI s σ d/\∀ i,σ.mg c i= .none
section

variable {s:Sh} {d:Wd} {n:Nat} {c:Int}

theorem sR(h:bF s d c)(hd:wdOk s d n)(hc:0<=c/\c<s.c):(d.act s ⟨1,c,0,0,0,0⟩).2=0/\One s (d.act s ⟨1,c,0,0,0,0⟩).1 c:=by
 have h0:=gK h hc;refine⟨(yl9 h hd hc).1,?_⟩;obtain⟨σ,b,hu⟩:=h;have hi:c.toNat<d.l.length:=by rw[hd.len];omega
 have e:(d.act s ⟨1,c,0,0,0,0⟩)=d.begin s ⟨1,c,0,0,0,0⟩:=by unfold Wd.act;rw[jN (by unfold Ch.bad;dsimp only;omega),jP rfl]
 rw[e];refine⟨?_,_,BM b hd ⟨1,c,0,0,0,0⟩ hc h0,(b.un c (.inl hu)).2⟩;unfold Wd.begin;dsimp only;rw[jP h0];exact⟨_,by rw[d.AB hc.1 hi,jP rfl],rfl⟩
theorem yqv(hd:wdOk s d n){y:Int}{k:Kl}(b:d.kl y=some k)(z:Int):(d.kill y).1.kl z=if z=y then none else d.kl z:=by
 obtain⟨_,_,hc⟩:=hd.kl _ k b;have hi:y.toNat<d.l.length:=by rw[hd.len];omega
 unfold Wd.kill;exact d.AB hc.1 hi _ _ _ _ _
end

end

section

section

variable {s:Sh} {d:Wd} {n:Nat} {c:Int}

theorem tR(h:bF s d c)(hd:wdOk s d n){x:Int}(f:x≠c)(i:Nat):bF s (d.goN s x i) c:=by
 induction i with
 |zero=>exact h;|succ i b=>
  show bF s ((d.goN s x i).goS s x) c;unfold Wd.goS;split
  ·split
   ·exact uH b (OG hd i) (x:=bB x) f
   exact b
  exact b
end

end

section

section

variable {s:Sh} {d:Wd} {n:Nat} {c x:Int}

theorem yp8(h:One s d x)(z:AI s d n)(M:x≠c):One s (d.goS s c) x:=by
 obtain⟨⟨N,r,D⟩,σ,l,F⟩:=h;refine⟨⟨N,(NR z.1 M).trans r,D⟩,?_⟩;have H:=(l.li x N r).1;unfold Wd.goS;cases hk:d.kl c with
 |none=>exact⟨σ,l,F⟩
 |some k=>
  dsimp only
  cases hj:k.job with
  |none=>rw[jN (by simp)];exact⟨σ,l,F⟩
  |some j=>
   rw[jP (show (some j).isSome=true from rfl)]
   obtain⟨U,B,p⟩:=z.1.kl c k hk
   rw[zH hk p]
   obtain⟨h1,_,_⟩:=EI l z.1 hk hj
   refine⟨_,h1,fun i=>?_⟩
   have e:(j.QC s c σ).2.mg x i=σ.mg x i:=by
    obtain⟨S,f⟩:=l.li c k hk
    obtain⟨b,q,R,O⟩:=U.jb j hj
    rw[B]at b
    by_cases I:∃ t,j= .hei t
    ·obtain⟨t,rfl⟩:=I
     show (adA s t σ).2.mg x i=_
     have hd:t.done=false:=q
     by_cases h3:3<=t.next
     ·have G:x≠t.d:=fun e=>by
       have:=((qH f hj).2.n3 hd h3).1
       rw[<-e,H]at this
       cases this
      rcases YR (s:=s) (σ:=σ) hd h3 with y|y
      ·exact y.mg x i G
      ·rw[y];rfl
     ·have T:=(b.1.cl hd).2.2.2.1
      have:t.next=0\/t.next=1\/t.next=2:=by omega
      rcases this with e|e|e
      ·rw[LI hd e]
      ·rw[UJ hd e]
      ·rw[XJ hd e];split<;>rfl
    ·have E:KlAt s c σ k=JbAt s c σ j:=by unfold KlAt;rw[hj]
     rw[E]at f
     have C:=tQ l.rep l.gi b p q f (fun a e=>I ⟨a,e⟩)
     exact(C.kept.2.1 x M).m i
   rw[e];exact F i
theorem jS(h:One s d x)(b:AI s d n)(f:x≠c)(i:Nat):One s (d.goN s c i) x:=by
 induction i with
 |zero=>exact h
 |succ i j=>exact yp8 j (QG b i) f
theorem ER(h:One s d x)(i:AI s d n)(r:x≠c)(k a m:Int):One s (d.act s ⟨2,c,k,a,m,0⟩).1 x:=by
 obtain⟨⟨q,f,b⟩,σ,p,l⟩:=h;unfold Wd.act;split
 ·exact⟨⟨q,f,b⟩,σ,p,l⟩
 rename_i hb;rw[jN (show ¬ (2:Int)=1 by decide)];dsimp only;cases hk:d.kl c with
 |none=>exact⟨⟨q,f,b⟩,σ,p,l⟩;|some t=>dsimp only;rw[jN (show ¬ (2:Int)=3 by decide),jP rfl];obtain⟨_,_,j⟩:=i.1.kl _ _ hk;refine⟨⟨q,?_,b⟩,σ,FI p i.1 ⟨2,c,k,a,m,0⟩ hk,l⟩;unfold Wd.ask;rw[d.AB j.1 (by rw[i.1.len];omega),jN r];exact f
theorem rest_start(h:Rest d x)(j:AI s d n)(p:x≠c)(hc:0<=c/\c<s.c):Rest (d.act s ⟨1,c,0,0,0,0⟩).1 x:=by
 obtain⟨i,f,b⟩:=h;have hi:c.toNat<d.l.length:=by rw[j.1.len];omega
 unfold Wd.act;rw[jN (by unfold Ch.bad;dsimp only;omega),jP rfl];unfold Wd.begin;split
 ·exact⟨i,by rw[d.AB hc.1 hi,jN p];exact f,b⟩
 exact⟨i,f,b⟩
end

structure KdI (s:Sh) (d:Wd) (n:Nat):Prop where
 ai:AI s d n
 r0:Rest d 0
 o1:One s d 1
 fr:∀ y:Int,2<=y->y < s.c->bF s d y
theorem kd_0{s:Sh}(i:mayB s.p s.c s.m=true)(hc:2<=s.c):KdI s (((uB s).act s ⟨1,0,0,0,0,0⟩).1.act s ⟨1,1,0,0,0,0⟩).1 2:=by
 have f:=oK i;have h0:=sR (DN i 0) f.1 ⟨Int.le_refl _,by omega⟩;have b:=kC f ⟨1,0,0,0,0,0⟩;have j:=uH (DN i 1) f.1 (x:=⟨1,0,0,0,0,0⟩) (by decide);have h1:=sR j b.1 ⟨by omega,by omega⟩;exact⟨kC b _,rest_start h0.2.1 b (by decide) ⟨by omega,by omega⟩,h1.2,fun y h2 _=>uH (uH (DN i y) f.1 (x:=⟨1,0,0,0,0,0⟩) (by dsimp only;omega)) b.1 (x:=⟨1,1,0,0,0,0⟩) (by dsimp only;omega)⟩
theorem yrh{s:Sh}{d:Wd}{n:Nat}(h:KdI s d n){k a m:Int}(f:1<=k/\k<=4):KdI s (askW s d 0 ⟨k,a,m⟩) (n+1+WA s):=by
 have b:=kC h.ai ⟨2,0,k,a,m,0⟩;exact⟨QG b _,fK h.ai.1 h.r0 f,jS (ER h.o1 h.ai (by decide) k a m) b (by decide) _, fun y h1 h2=>tR (uH (h.fr y h1 h2) h.ai.1 (x:=⟨2,0,k,a,m,0⟩) (by dsimp only;omega)) b.1 (by omega) _⟩
def tgS (p:Int × Int) (e:Ev):Int × Int:=if e.k=2 then (0,0) else if e.k=3 then (p.1 + 1,p.2) else if e.k=4 then (p.1,p.2 + 1) else p
def tgL (l:List Ev):Int × Int:=l.foldl tgS (0,0)
theorem TR(l:List Ev)(e:Ev):tgL (l++[e])=tgS (tgL l) e:=by unfold tgL;rw[List.foldl_append];rfl
theorem gS(l es:List Ev):tgL (l++es)=es.foldl tgS (tgL l):=by unfold tgL;rw[List.foldl_append]
theorem yo5{l:List Ev}{i:Nat}(h:i<l.length):tgL (l.take (i+1))=tgS (tgL (l.take i)) l[i]:=by rw[List.take_succ_eq_append_getElem h,TR]
structure TgI (s:Sh) (d:Wd) (L:Nat):Prop where
 bl:((jdOf s d).l.length:Int)=L + (tgL d.tr).1 - (tgL d.tr).2
 nn:0<=(tgL d.tr).1
 tk:0 < (tgL d.tr).1->∃ l e,d.tr=l ++ [e]/\e.k=5/\e.c=0
 jb:∀ k,d.kl 0=some k->k.job≠none->(tgL d.tr).1=0
theorem yn2{l:List Bk}{a:Int}(h:OA a l=true):((UA l a).length:Int)=l.length-1:=by
 have h1:=((uG a l).1 h).1;unfold UA YH;rw[jP h,List.length_append,List.length_take,List.length_drop];omega
theorem yqd{J:Jd}{e:Ev}(j:J.why=0)(h:(CA J e).why=0)(r:3<=e.k/\e.k<=5)(p:Int × Int):((CA J e).l.length:Int)-(tgS p e).1+(tgS p e).2=J.l.length-p.1+p.2:=by
 have h3:e.k=3\/e.k=4\/e.k=5:=by omega
 unfold tgS;rcases h3 with b|b|b
 ·obtain⟨_,i⟩:=KN j h b;rw[i.l,qN,jN (by omega),jP b];dsimp only;omega
 ·obtain⟨f,i⟩:=HR j h b;have q:OA e.at' J.l=true:=by
   unfold FC at f;split at f
   ·cases f
   split at f
   ·assumption
   cases f
  rw[i.l,yn2 q,jN (by omega),jN (by omega),jP b];dsimp only;omega
 obtain⟨_,i⟩:=HN j h b;rw[i.l,jN (by omega),jN (by omega),jN (by omega)]
theorem yra{es:List Ev}:∀ {J:Jd} (_:(runJ J es).why=0) (_:∀ e ∈ es,3<=e.k/\e.k<=5) (p:Int × Int),((runJ J es).l.length:Int)-(es.foldl tgS p).1+(es.foldl tgS p).2=J.l.length-p.1+p.2:=by
 induction es with
 |nil=>intro J _ _ p;rfl;|cons e es i=>intro J h b p;have h1:(CA J e).why=0:=YE (es:=es) h;have h0:J.why=0:=YE (es:= [e]) h1;have h2:=i (J:=CA J e) h (fun x f=>b x (List.mem_cons_of_mem _ f)) (tgS p e);have h3:=yqd h0 h1 (b e List.mem_cons_self) p;rw[dI,List.foldl_cons];omega
theorem yqa(k:Kl)(j:Jb):∀ e ∈ k.tells j,3<=e.k/\e.k<=5:=fun e b=>by
 unfold Kl.tells at b
 rcases List.mem_append.1 b with b|b
 ·split at b
  ·rw[List.mem_singleton.1 b];exact⟨show (3:Int)<=4 by decide,show (4:Int)<=5 by decide⟩
  ·cases b
 ·split at b
  ·rcases List.mem_append.1 b with b|b
   ·split at b
    ·rw[List.mem_singleton.1 b];exact⟨show (3:Int)<=3 by decide,show (3:Int)<=5 by decide⟩
    ·cases b
   ·rw[List.mem_singleton.1 b];exact⟨show (3:Int)<=5 by decide,show (5:Int)<=5 by decide⟩
  ·cases b
theorem yow(k:Kl)(j:Jb)(g:Int):0<=((k.tells j).foldl tgS (0,g)).1/\(j.done=false->((k.tells j).foldl tgS (0,g)).1=0)/\(j.done=true->∃ l e,k.tells j=l++[e]/\e.k=5/\e.c=k.c):=by
 unfold Kl.tells;refine⟨?_,fun h=>?_,fun h=>?_⟩
 ·by_cases f:j.gave=true/\k.told=false
  ·rw[jP f];by_cases hd:j.done=true
   ·rw[jP hd];cases j.took with
    |none=>exact(by decide:(0:Int)<=0)
    |some b=>exact(by decide:(0:Int)<=0+1)
   rw[jN hd];exact(by decide:(0:Int)<=0)
  rw[jN f];by_cases hd:j.done=true
  ·rw[jP hd];cases j.took with
   |none=>exact(by decide:(0:Int)<=0)
   |some b=>exact(by decide:(0:Int)<=0+1)
  rw[jN hd];exact(by decide:(0:Int)<=0)
 ·rw[jN (show ¬ j.done=true by rw[h];decide)];split<;>rfl
 rw[jP h];exact⟨_,_,(List.append_assoc _ _ _).symm,rfl,rfl⟩
theorem yrp{s:Sh}{d:Wd}{n L:Nat}(y:AI s d n)(h:TgI s d L):TgI s (d.goS s 0) L:=by
 unfold Wd.goS;cases hk:d.kl 0 with
 |none=>exact h
 |some k=>
  dsimp only
  cases hj:k.job with
  |none=>rw[jN (by simp)];exact h
  |some j=>
   rw[jP (show (some j).isSome=true from rfl)]
   obtain⟨M,z,B⟩:=y.1.kl 0 k hk
   have hi:(0:Int).toNat<d.l.length:=by rw[y.1.len];omega
   have p:=kC y (bB 0)
   rw[zH hk B]at p ⊢
   obtain⟨j',f⟩:∃ j',j'=(j.step s k.c d.m).1:=⟨_,rfl⟩
   have r:k.step s d.m=(k.after j',(j.step s k.c d.m).2,k.tells j',0):=by unfold Kl.step;rw[hj,f]
   have i:(d.step s 0 k).1.tr=d.tr++k.tells j':=by unfold Wd.step;rw[r]
   have C:(d.step s 0 k).1.kl 0=some (k.after j'):=by unfold Wd.step;rw[r,d.AB (Int.le_refl _) hi,jP rfl]
   have D:=yG p
   have q:jdOf s (d.step s 0 k).1=runJ (jdOf s d) (k.tells j'):=by unfold jdOf;rw[i,ZF]
   have h0:=h.jb k hk (by rw[hj];exact fun e=>by cases e)
   have I:=yra (J:=jdOf s d) (es:=k.tells j') (by rw[<-q];exact D) (yqa k j') (tgL d.tr)
   have t:tgL (d.step s 0 k).1.tr=(k.tells j').foldl tgS (tgL d.tr):=by rw[i,gS]
   have E:tgL d.tr=(0,(tgL d.tr).2):=by rw[<-h0]
   obtain⟨q1,q2,q3⟩:=yow k j' (tgL d.tr).2
   rw[<-E,<- t]at q1 q2
   rw[<-t,<- q]at I
   have hb:=h.bl
   refine⟨by omega,q1,fun E=>?_,fun N b f=>?_⟩
   ·cases hd:j'.done with
    |false=>have:=q2 hd;omega
    |true=>
     obtain⟨l,e,F,G,H⟩:=q3 hd
     exact⟨d.tr++l,e,by rw[i,F,List.append_assoc],G,H.trans z⟩
   ·rw[C]at b
    injection b with b
    subst b
    apply q2
    cases hd:j'.done with
    |false=>rfl
    |true=>exact absurd (show (k.after j').job=none by unfold Kl.after;dsimp only;rw[hd];rfl) f
theorem yrd{s:Sh}{d:Wd}{n L:Nat}(b:AI s d n)(h:TgI s d L)(i:Nat):TgI s (d.goN s 0 i) L:=by
 induction i with
 |zero=>exact h
 |succ i f=>exact yrp (QG b i) f
theorem yq1{s:Sh}{d:Wd}{n:Nat}(B:AI s d n){k a m:Int}(h0:(d.act s ⟨2,0,k,a,m,0⟩).2=0):TgI s (d.act s ⟨2,0,k,a,m,0⟩).1 (jdOf s d).l.length:=by
 have f:=kC B ⟨2,0,k,a,m,0⟩;have b:=yG f;unfold Wd.act at h0 f b ⊢;by_cases hb:(⟨2,0,k,a,m,0⟩:Ch).bad s
 ·rw[jP hb]at h0;cases h0
 rw[jN hb,jN (show ¬ (2:Int)=1 by decide)]at h0 f b ⊢;dsimp only at h0 f b ⊢;cases hk:d.kl 0 with
 |none=>rw[hk]at h0;cases h0;|some q=>
  rw[hk]at h0 f b;dsimp only at h0 f b ⊢;rw[jN (show ¬ (2:Int)=3 by decide),jP rfl]at h0 f b ⊢;obtain⟨N,G,H⟩:=B.1.kl 0 q hk;unfold Wd.ask Kl.invoke at h0 b ⊢;dsimp only at h0 b ⊢;have I:∀ es,(jdOf s ⟨d.m,d.l,d.tr++es,d.lg⟩)=runJ (jdOf s d) es:=fun es=>by unfold jdOf;rw[ZF]
  have r:∀ l,(jdOf s ⟨d.m,l,d.tr++[NA q.c (Ch.op ⟨2,0,k,a,m,0⟩)],d.lg⟩).why=0->(CA (jdOf s d) (NA q.c (Ch.op ⟨2,0,k,a,m,0⟩))).l=(jdOf s d).l:=fun l E=>by
   have e:jdOf s ⟨d.m,l,d.tr++[NA q.c (Ch.op ⟨2,0,k,a,m,0⟩)],d.lg⟩=CA (jdOf s d) (NA q.c (Ch.op ⟨2,0,k,a,m,0⟩)):=by unfold jdOf;rw[wH]
   rw[e]at E;exact(JN (yG B) E).l
  split at h0
  ·cases h0
  rename_i M;rw[jN M]at b ⊢;split at h0
  ·cases h0
  rename_i D;rw[jN D]at b ⊢;split
  ·rename_i j;rw[jP j]at b;dsimp only at b ⊢;rename_i _ _;have e:∀ (l:List (Option Kl)) (x y:Ev),jdOf s ⟨d.m,l,d.tr++[x,y],d.lg⟩=CA (CA (jdOf s d) x) y:=fun l x y=>by unfold jdOf;rw[ZF];rfl
   have i:∀ (x y:Ev),x.k=2->y.k=5->tgL (d.tr++[x,y])=(0,0):=fun x y h1 h2=>by rw[gS];simp only[List.foldl_cons,List.foldl_nil,tgS];rw[jP h1,jN (by omega),jN (by omega),jN (by omega)]
   rw[e]at b;have z:(CA (jdOf s d) (NA q.c (Ch.op ⟨2,0,k,a,m,0⟩))).why=0:=YE (es:= [_]) b;have C:=(JN (yG B) z).l;have F:=(HN z b rfl).2.l;refine⟨?_,?_,fun t=>?_,fun _ _ _=>?_⟩
   ·show ((jdOf s ⟨d.m,_,d.tr++[_,_],d.lg⟩).l.length:Int)=_+(tgL (d.tr++[_,_])).1-(tgL (d.tr++[_,_])).2;rw[e,F,C,i _ _ rfl rfl];simp
   ·show 0<=(tgL (d.tr++[_,_])).1;rw[i _ _ rfl rfl];exact Int.le_refl _
   ·rw[show (⟨d.m,_,d.tr++[_,_],d.lg⟩:Wd).tr=d.tr++[_,_] from rfl,i _ _ rfl rfl]at t;exact absurd t (by decide)
   show (tgL (d.tr++[_,_])).1=0;rw[i _ _ rfl rfl]
  rename_i j;rw[jN j]at b;dsimp only at b ⊢;have C:=r _ b;have i:tgL (d.tr++[NA q.c (Ch.op ⟨2,0,k,a,m,0⟩)])=(0,0):=by rw[TR];unfold tgS;exact jP rfl
  refine⟨?_,?_,fun t=>?_,fun _ _ _=>?_⟩
  ·show ((runJ (newJ s.p s.c s.m) (d.tr++[_])).l.length:Int)=_+(tgL (d.tr++[_])).1-(tgL (d.tr++[_])).2;rw[wH,i];show ((CA (jdOf s d) _).l.length:Int)=_;rw[C];simp
  ·show 0<=(tgL (d.tr++[_])).1;rw[i];exact Int.le_refl _
  ·rw[show (⟨d.m,_,d.tr++[_],d.lg⟩:Wd).tr=d.tr++[_] from rfl,i]at t;exact absurd t (by decide)
  show (tgL (d.tr++[_])).1=0;rw[i]
theorem ynl{J:Jd}{e:Ev}(b:J.why=0)(h:(CA J e).why=0)(f:e.k<3):(CA J e).l=J.l:=by
 rw[KK ((CI _ _).2 ⟨b,xH b h⟩)];show (whyJ J.W J.l J.ps e).l=J.l;unfold whyJ;repeat' split
 all_goals first|rfl|omega
theorem vR{s:Sh}{σ:Ab}{d:Wd}{y:Int}(b:WI s σ d)(i:0<=y/\y<s.c)(h0:d.stat y=0):σ.st y= .unused:=by
 have f:=(ixs b.rep.fi).2.2.2 _ i;have h4:=b.rep.st _ i;rw[f]at h4;have j:=(TW.read b.rep.may (b.gi.tf y)).1;unfold Wd.stat at h0;rw[h4,j]at h0;cases e:σ.st y with
 |unused=>rfl
 |live=>rw[e]at h0;exact absurd h0 (by decide)
 |dead=>rw[e]at h0;exact absurd h0 (by decide)
 |owned a=>rw[e]at h0;exact absurd h0 (show ¬ (3:Int)=0 by decide)
 |done=>rw[e]at h0;exact absurd h0 (by decide)
theorem hei_goS{s:Sh}{d:Wd}{n:Nat}{c:Int}(q:AI s d n)(y:∀ k j,d.kl c=some k->k.job=some j->∃ t,j= .hei t):(jdOf s (d.goS s c)).l=(jdOf s d).l/\∀ k j,(d.goS s c).kl c=some k->k.job=some j->∃ t,j= .hei t:=by
 unfold Wd.goS;cases hk0:d.kl c with
 |none=>exact⟨rfl,y⟩
 |some k=>
  dsimp only
  cases hj:k.job with
  |none=>rw[jN (by simp)];exact⟨rfl,y⟩
  |some j=>
   rw[jP (show (some j).isSome=true from rfl)]
   obtain⟨F,D,i⟩:=q.1.kl c k hk0
   have hi:c.toNat<d.l.length:=by rw[q.1.len];omega
   have f:=kC q (bB c)
   rw[zH hk0 i]at f ⊢
   obtain⟨t,rfl⟩:=y k j hk0 hj
   obtain⟨t',B⟩:∃ t',(Jb.step s k.c d.m (.hei t)).1= .hei t':=⟨_,rfl⟩
   have p:k.step s d.m=(k.after (.hei t'),(Jb.step s k.c d.m (.hei t)).2,k.tells (.hei t'),0):=by unfold Kl.step;rw[hj];dsimp only;rw[B]
   have C:(d.step s c k).1.tr=d.tr++k.tells (.hei t'):=by unfold Wd.step;rw[p]
   have z:(d.step s c k).1.kl c=some (k.after (.hei t')):=by unfold Wd.step;rw[p,d.AB i.1 hi,jP rfl]
   have b:=yG f
   have r:jdOf s (d.step s c k).1=runJ (jdOf s d) (k.tells (.hei t')):=by unfold jdOf;rw[C,ZF]
   have E:k.tells (.hei t')=if t'.done=true then [RA k.c k.op 0 t'.err] else []:=by
    unfold Kl.tells;rw[jN (fun h=>by cases h.1)];rfl
   refine⟨?_,fun G j' h1 h2=>?_⟩
   ·rw[r,E]at b ⊢
    by_cases hd:t'.done=true
    ·rw[jP hd]at b ⊢
     exact(HN (yG q) b rfl).2.l
    ·rw[jN hd];rfl
   ·rw[z]at h1
    injection h1 with h1
    subst h1
    unfold Kl.after at h2
    dsimp only at h2
    split at h2
    ·cases h2
    ·injection h2 with h2;exact⟨_,h2.symm⟩
theorem hei_goN{s:Sh}{d:Wd}{n:Nat}{c:Int}(f:AI s d n)(p:∀ k j,d.kl c=some k->k.job=some j->∃ t,j= .hei t)(i:Nat):(jdOf s (d.goN s c i)).l=(jdOf s d).l/\∀ k j,(d.goN s c i).kl c=some k->k.job=some j->∃ t,j= .hei t:=by
 induction i with
 |zero=>exact⟨rfl,p⟩;|succ i b=>obtain⟨h1,h2⟩:=hei_goS (QG (c:=c) f i) b.2;exact⟨h1.trans b.1,h2⟩
theorem hei_ask{s:Sh}{d:Wd}{n:Nat}{c x:Int}(i:AI s d n)(E:Rest d c):(jdOf s (askW s d c ⟨4,x,0⟩)).l=(jdOf s d).l:=by
 have h0:=QI (o:=⟨4,x,0⟩) i.1 E ⟨show (1:Int)<=4 by decide,Int.le_refl _⟩;have p:=kC i ⟨2,c,4,x,0,0⟩;have key:(jdOf s (d.act s ⟨2,c,4,x,0,0⟩).1).l=(jdOf s d).l/\∀ k j,(d.act s ⟨2,c,4,x,0,0⟩).1.kl c=some k->k.job=some j->∃ t,j= .hei t:=by
  have b:=yG p;obtain⟨F,D,H⟩:=E;obtain⟨M,G,q⟩:=i.1.kl c F D;have hi:c.toNat<d.l.length:=by rw[i.1.len];omega
  dsimp only at h0;unfold Wd.act at h0 b ⊢;by_cases hb:(⟨2,c,4,x,0,0⟩:Ch).bad s
  ·rw[jP hb]at h0;cases h0
  rw[jN hb,jN (show ¬ (2:Int)=1 by decide)]at h0 b ⊢;dsimp only at h0 b ⊢;rw[D]at h0 b ⊢;dsimp only at h0 b ⊢;rw[jN (show ¬ (2:Int)=3 by decide),jP rfl]at h0 b ⊢;unfold Wd.ask Kl.invoke at h0 b ⊢;dsimp only at h0 b ⊢;split at h0
  ·cases h0
  rename_i C;rw[jN C]at b ⊢;split at h0
  ·cases h0
  rename_i B;rw[jN B]at b ⊢;split
  ·rename_i f;rw[jP f]at b;dsimp only at b ⊢;have e:∀ (l:List (Option Kl)) (y z:Ev),jdOf s ⟨d.m,l,d.tr++[y,z],d.lg⟩=CA (CA (jdOf s d) y) z:=fun l y z=>by unfold jdOf;rw[ZF];rfl
   rw[e]at b;have r:(CA (jdOf s d) (NA F.c (Ch.op ⟨2,c,4,x,0,0⟩))).why=0:=YE (es:= [_]) b;refine⟨?_,fun I j' h1 h2=>?_⟩
   ·rw[e];exact(HN r b rfl).2.l.trans (JN (yG i) r).l
   rw[d.AB q.1 hi,jP rfl]at h1;injection h1 with h1;subst h1;dsimp only at h2;rw[H]at h2;cases h2
  rename_i f;rw[jN f]at b;dsimp only at b ⊢;have e:∀ (l:List (Option Kl)) (y:Ev),jdOf s ⟨d.m,l,d.tr++[y],d.lg⟩=CA (jdOf s d) y:=fun l y=>by unfold jdOf;rw[wH]
  rw[e]at b;refine⟨?_,fun I j' h1 h2=>?_⟩
  ·rw[e];exact(JN (yG i) b).l
  rw[d.AB q.1 hi,jP rfl]at h1;injection h1 with h1;subst h1;dsimp only at h2;injection h2 with h2;exact⟨_,h2.symm⟩
 exact(hei_goN p key.2 (WA s)).1.trans key.1
structure KdE (s:Sh) (d2:Wd) (n:Nat):Prop where
 ai:AI s (askW s (d2.act s ⟨4,0,0,0,0,0⟩).1 1 ⟨4,0,0⟩) n
 ok:((d2.act s ⟨4,0,0,0,0,0⟩).1.act s ⟨2,1,4,0,0,0⟩).2=0
 er:YD (askW s (d2.act s ⟨4,0,0,0,0,0⟩).1 1 ⟨4,0,0⟩)=0
 bare:∃ σ,Rep s (askW s (d2.act s ⟨4,0,0,0,0,0⟩).1 1 ⟨4,0,0⟩).m σ/\GI s σ/\Bare s σ
 bl:(jdOf s (askW s (d2.act s ⟨4,0,0,0,0,0⟩).1 1 ⟨4,0,0⟩)).l=(jdOf s d2).l
theorem yrb{s:Sh}{d:Wd}{n:Nat}(hc:2<=s.c)(h:KdI s d n){k a m:Int}(h0:(d.act s ⟨2,0,k,a,m,0⟩).2=0)(j:Nat):KdE s ((d.act s ⟨2,0,k,a,m,0⟩).1.goN s 0 j) (n+1+j+1+1+WA s):=by
 have B:=kC h.ai ⟨2,0,k,a,m,0⟩;have p:=QG (c:=0) B j;have b4:=jS (ER h.o1 h.ai (by decide) k a m) B (show (1:Int)≠0 by decide) j;have Y:∀ y:Int,2<=y->y<s.c->bF s ((d.act s ⟨2,0,k,a,m,0⟩).1.goN s 0 j) y:=fun y h1 h2=>tR (uH (h.fr y h1 h2) h.ai.1 (x:=⟨2,0,k,a,m,0⟩) (by dsimp only;omega)) B.1 (by omega) _;have b2:∃ M,((d.act s ⟨2,0,k,a,m,0⟩).1.goN s 0 j).kl 0=some M:=by obtain⟨_,_,X⟩:=NI (x:=⟨2,0,k,a,m,0⟩) h.ai.1 rfl h0;obtain⟨M,h1,_⟩:=MI B.1 X j;exact⟨M,h1⟩
 generalize (d.act s ⟨2,0,k,a,m,0⟩).1.goN s 0 j=d2 at *;obtain⟨k0,E⟩:=b2;have f:=kC p ⟨4,0,0,0,0,0⟩;obtain⟨⟨k1,b1,b0⟩,σ,hw,hm⟩:=b4;have S:d2.act s ⟨4,0,0,0,0,0⟩=d2.kill 0:=by unfold Wd.act;rw[jN (by unfold Ch.bad;dsimp only;omega),jN (show ¬ (4:Int)=1 by decide)];dsimp only;rw[E];dsimp only;rw[jN (show ¬ (4:Int)=3 by decide),jN (show ¬ (4:Int)=2 by decide)]
 have C:WI s (σ.stat 0 .dead) (d2.act s ⟨4,0,0,0,0,0⟩).1:=by rw[S];exact JJ hw p.1 E
 have H:∀ z,(d2.act s ⟨4,0,0,0,0,0⟩).1.kl z=if z=0 then none else d2.kl z:=fun z=>by rw[S];exact yqv p.1 E z
 have G:∀ y:Int,2<=y->y<s.c->bF s (d2.act s ⟨4,0,0,0,0,0⟩).1 y:=fun y h1 h2=>uH (Y y h1 h2) p.1 (by dsimp only;omega);have F:(jdOf s (d2.act s ⟨4,0,0,0,0,0⟩).1).l=(jdOf s d2).l:=by
  have e:jdOf s (d2.act s ⟨4,0,0,0,0,0⟩).1=CA (jdOf s d2) (NE 0):=by rw[S];unfold jdOf Wd.kill;rw[wH]
  have I:=yG f;rw[e]at I ⊢;exact ynl (yG p) I (by decide)
 generalize V:(d2.act s ⟨4,0,0,0,0,0⟩).1=d3 at *;have r:Rest d3 1:=⟨k1,by rw[H,jN (by decide)];exact b1,b0⟩;have Z:∀ y k,d3.kl y=some k->k.job=none:=fun y M b=>by
  obtain⟨q1,q2⟩:=Wd.gC b;rw[f.1.len]at q2;by_cases O:y=0
  ·rw[H,jP O]at b;cases b
  by_cases R:y=1
  ·obtain⟨kk,h1,h2⟩:=r;rw[R,h1]at b;injection b with b;rw[<-b];exact h2
  have:=vR C ⟨q1,by omega⟩ (gK (G y (by omega) (by omega)) ⟨q1,by omega⟩);have h1:=(C.li y M b).1;rw[this]at h1;cases h1
 have b5:=QI (o:=⟨4,0,0⟩) f.1 r ⟨show (1:Int)<=4 by decide,Int.le_refl _⟩;obtain⟨N,t,b7,b3,D⟩:=mR f.1 r (x:=0) ⟨Int.le_refl _,by omega⟩ (by decide) C Z;have U:(σ.stat 0 .dead).st 0= .dead:=by show up σ.st 0 .dead 0=_;exact UH _ _ _
 rw[U]at D;have q:YD (askW s d3 1 ⟨4,0,0⟩)=0/\N.st 0= .done:=by
  rcases D with⟨_,h1,h2⟩|⟨h1,_⟩
  ·exact⟨h1,h2⟩
  exact absurd trivial h1
 have T:AI s (askW s d3 1 ⟨4,0,0⟩) (n+1+j+1+1+WA s):=QG (kC f ⟨2,1,4,0,0,0⟩) _;have b6:=fK (o:=⟨4,0,0⟩) f.1 r ⟨show (1:Int)<=4 by decide,Int.le_refl _⟩;subst V;refine⟨T,b5,q.1,⟨N,t.rep,t.gi,fun y hy=>?_⟩,(hei_ask f r).trans F⟩;by_cases O:y=0
 ·exact t.un y (.inr (by rw[O];exact q.2))
 by_cases R:y=1
 ·obtain⟨k4,h1,h2⟩:=b6;rw[R];have h3:=(t.li 1 k4 h1).2;unfold KlAt at h3;rw[h2]at h3;exact⟨h3,fun i=>(b3 i).trans (hm i)⟩
 refine t.un y (.inl ?_);rw[b7 y O];exact vR C hy (gK (G y (by omega) hy.2) hy)
end

section

open Go.RowKit

theorem yrt{a:Int}(h:(Lit.int .u16 a).wf=true):0<=a/\a<=65535:=by
 simp[Lit.wf,IntKind.min,IntKind.max,IntKind.bits,IntKind.signed]at h;omega
end

end Go.Proofs.YtmmbicppdjgbmaaGreat
