/- Lemmas for the claim. -/
import Derived.Test.YtkilokkopbajkaaGreatBw11

import Derived.Test.YtkilokkopbajkaaGreatBw30

set_option linter.all false
set_option maxHeartbeats 8000000
set_option maxRecDepth 100000
namespace Go.Proofs.YtkilokkopbajkaaGreat

section

open Go.RowKit

attribute [local go_sem ↓] Go.wp_at_zero Go.wp_at_succ

attribute [local go_sem ↓] iL fL

theorem Bk.oneC(b:Bk):∀ u ∈ b.cells,u.oneCell'=true:=by
 intro u hu;simp only[Bk.cells,List.mem_cons,List.not_mem_nil,or_false]at hu;rcases hu with rfl|rfl<;>rfl
def Hp.slB (h:Hp) (a:Int):Nat->List Bk
 | 0=> []
 | i + 1=> h.slB a i ++ (if h.sk a i=3 then [⟨a * 64 + i * qA (h.pa a),qA (h.pa a)⟩] else [])
def Hp.pgB (h:Hp) (a:Int):List Bk:=
 if h.pk a=3 then [⟨a * 64,h.pa a * 64⟩] else if h.pk a=2 then h.slB a (mA (h.pa a)).toNat else []
def Hp.blT (h:Hp):Nat->List Bk
 | 0=> []
 | k + 1=> h.blT k ++ h.pgB k
def Hp.bl (h:Hp):List Bk:=if h.ok=true then h.blT h.p.toNat else []
theorem Hp.WQ(h:Hp)(a:Int)(i:Nat):(h.slB a i).length<=i:=by
 induction i with
 |zero=>exact Nat.le_refl _;|succ i b=>unfold Hp.slB;rw[List.length_append];split<;>simp<;>omega
theorem Hp.yi8(h:Hp)(a:Int):(h.pgB a).length<=16:=by
 unfold Hp.pgB;have hb:=CC (h.pa a);split
 ·simp
 split
 ·have:=h.WQ a (mA (h.pa a)).toNat;omega
 simp
theorem Hp.ZQ(h:Hp)(k:Nat):(h.blT k).length<=16*k:=by
 induction k with
 |zero=>exact Nat.le_refl _;|succ k b=>unfold Hp.blT;rw[List.length_append];have:=h.yi8 k;omega
theorem own_below{w w':World}{B:Nat}{E:TypeId}{size:Nat}{v:Value}{n:Nat}{xs:List Value}(h:w.ownsRow B E size v n xs)(hb:Below w.heap.size w w'):w'.ownsRow B E size v n xs:=
 bC h fun k b=>hb.block k (h.lt k b).2
theorem TQ(l:List Bk)(b:Bk):SA (l++[b])=SA l++b.cells:=by rw[kK];simp[SA]
theorem NQ{w w':World}{g:Nat}(h:w'.heap[g]?=w.heap[g]?)(o:Nat):w'.cell? ⟨g,o,.none⟩=w.cell? ⟨g,o,.none⟩:=by
 simp only[World.cell?,h]
theorem yrg:(Tryz.prog.info? 74).map (fun i=>(i.zero,i.size,i.bytes))=some (some (.agg #[.int .i64 0,.int .i64 0]),2,16):=by kernel_rfl
theorem yjc(h:Hp)(v:Value)(w:World)(hr:RdZ .u64 w v h.xs)(hf:h.fit):
  Calls Tryz.prog 34 #[shV h,v] w fun e w'=>∃ v',e= .returned v'/\Below w.heap.size w w'/\w'.ownsRow w.heap.size 74 2 v' h.bl.length (SA h.bl):=by
 obtain⟨ao,cap,hv,_,_,_⟩:=hr.cells;generalize h.xs.length=m at hv;subst hv;have D:=fun X hX=>CK h (.slice ao m cap) X (hr.below (w':=X) hX);have b1:=(Below.refl w.heap.size w).alloc lr (.cells #[h.p,h.c,h.m] 23);have b7:h.bl=if h.ok=true then h.blT h.p.toNat else []:=rfl;obtain⟨i0,c7,ca,cb,cc⟩:=info_parts yrg;rcases Bool.eq_false_or_eq_true h.ok with B|B;case inr=>rw[B]at D;rw[b7,B,if_neg Bool.false_ne_true];clear b7 B;replace D:=hd' D;go_in;go_wp2_with fail;refine(D.out _ b1).mono ?_;rintro e w1 ⟨rfl,R⟩;have hB:=b1.trans (R.mono b1.size);go_wp2;go_ret;exact⟨_,rfl,hB.alloc hB.size _,⟨rfl,.inl ⟨rfl,rfl⟩⟩⟩
 case inl=>
  have b:Bok w (.slice ao m cap) h:=⟨B,hr,hf⟩;obtain⟨bp,_,_,_⟩:=b.bd;rw[B]at D;rw[b7,B,if_pos rfl];have bn:=fun a X (hX:Below w.heap.size w X) ha=>PG h (.slice ao m cap) a X (b.below hX) ha;have bq:=fun a i X (hX:Below w.heap.size w X) ha hi=>lJ h (.slice ao m cap) a i X (b.below hX) ha hi;obtain⟨P,hP⟩:∃ P:Nat,Hid (h.p=P):=⟨h.p.toNat,hd' (by omega)⟩;have c4:h.p.toNat=P:=by have:=hP.out;omega
  rw[c4];have s:=fun a=>Hp.zN (h:=h) (a:=a);have F:=fun a=>Hp.rN (h:=h) (a:=a);have c9:Hid (∀ a,h.pb a=false->h.pk a=0):=hd' fun a hb=>by unfold Hp.pk;rw[hb,if_neg Bool.false_ne_true]
  have ch:Hid (h.blT 0= []):=hd' rfl;have ck:Hid (∀ k:Nat,h.blT (k+1)=h.blT k++h.pgB k):=hd' fun _=>rfl;have cj:Hid (∀ k:Nat,(h.blT k).length<=16*k):=hd' h.ZQ;have hG:Hid (∀ a,h.pgB a=if h.pk a=3 then [⟨a*64,h.pa a*64⟩] else if h.pk a=2 then h.slB a (mA (h.pa a)).toNat else []):=hd' fun _=>rfl;have cd:Hid (∀ a,h.slB a 0= []):=hd' fun _=>rfl;have cg:Hid (∀ a (i:Nat),h.slB a (i+1)=h.slB a i++(if h.sk a i=3 then [⟨a*64+i*qA (h.pa a),qA (h.pa a)⟩] else [])):=hd' fun _ _=>rfl;have cf:Hid (∀ a (i:Nat),(h.slB a i).length<=i):=hd' h.WQ;replace D:=hd' D;replace bn:=hd' bn;replace bq:=hd' bq;replace s:=hd' s;replace F:=hd' F;clear b7 B c4 b;go_in;go_wp2_with fail;refine(D.out _ b1).mono ?_;rintro e w1 ⟨rfl,R⟩;have bf:=b1.trans (R.mono b1.size);have hB:=bf.alloc bf.size (.cells #[h.p,h.c,h.m,.slice ao m cap] 115);have S:=R.alloc R.size (.cells #[h.p,h.c,h.m,.slice ao m cap] 115);have r0:=(S.block _ (by simp)).trans (heap_alloc_new w (.cells #[h.p,h.c,h.m] 23));have r3:=heap_alloc_new w1 (.cells #[h.p,h.c,h.m,.slice ao m cap] 115);go_upto_region 2 with fail;obtain⟨H,hH,bx⟩:=hidv w.heap.size;obtain⟨K,hK,bz⟩:=hidv w1.heap.size;rw[<-bz]at r3 ⊢;rw[<-bx]at r0 ⊢;clear bz bx R S bf;generalize w1.alloc (.cells #[h.p,h.c,h.m,.slice ao m cap] 115)=W at *;have cy:=kA r0;have k0:W.cell? ⟨K,0,.none⟩=some (.int .i64 h.p):=kA r3 0;have k1:W.cell? ⟨K,1,.none⟩=some (.int .i64 h.c):=kA r3 1;have k2:W.cell? ⟨K,2,.none⟩=some (.int .i64 h.m):=kA r3 2;have k3:W.cell? ⟨K,3,.none⟩=some (.slice ao m cap):=kA r3 3;have e0:=hB.size;clear r0 r3;go_wp2_with fail;go_loopw [7,22] (fun vl vi wr=>∃ i:Nat,i<=P/\vi= .int .i64 i/\Below W.heap.size W wr/\wr.ownsRow W.heap.size 74 2 vl (h.blT i).length (SA (h.blT i))) (fun _ vi _=>P-(intOf vi).toNat);case atStart=>exact⟨0,Nat.zero_le _,rfl,Below.refl _ _,by rw[ch.out];exact⟨rfl,.inl ⟨rfl,rfl⟩⟩⟩
  case round=>
   obtain⟨i,hi,rfl,y,b2⟩:=hrel;have d0:=iA y _ _ _ k0;have d1:=iA y _ _ _ k1;have d2:=iA y _ _ _ k2;have d3:=iA y _ _ _ k3;have bg:=hB.trans (y.mono hB.size);by_cases e7:(i:Int)<h.p
   ·have e1:i<P:=by have:=hP.out;omega
    have c8:0<=(i:Int)/\(i:Int)<h.p:=by omega
    have E:=ck.out i;rw[hG.out]at E;have hL:=cj.out i;have b8:=bn.out i wr bg c8;have x3:=s.out i;have x2:=F.out i;have x0:=c9.out i;have bs:=fun j X hX hj=>bq.out i j X hX c8 hj;have y0:=cd.out i;have yS:=cg.out i;have yL:=cf.out i;generalize h.blT i=L at *;generalize T:L.length=n at *;generalize h.pk i=pk at *;generalize h.pa i=pa at *;generalize h.pn i=pn at *;generalize h.pb i=pb at *;replace b8:=hd' b8;replace bs:=hd' bs;replace y0:=hd' y0;replace yS:=hd' yS;replace yL:=hd' yL;replace E:=hd' E;replace x0:=hd' x0;replace x2:=hd' x2;replace x3:=hd' x3;replace T:=hd' T
    have fin:Hid (∀ X v l,Below W.heap.size W X->X.ownsRow W.heap.size 74 2 v l.length (SA l)->h.blT (i+1)=l->∃ j:Nat,j<=P/\Value.int .i64 ((i:Int)+1)= .int .i64 j/\Below W.heap.size W X/\X.ownsRow W.heap.size 74 2 v (h.blT j).length (SA (h.blT j))):=
     hd' fun X v l hb ho e=>⟨i+1,by omega,by go_num,hb,by rw[e];exact ho⟩
    go_wp2_with fail;refine b8.out.mono ?_;rintro e w2 ⟨rfl,S⟩;have Z:=y.trans (S.mono y.size);have J:=Z.alloc Z.size (.cells #[pk,pa,pn] 136);have b4:=own_below b2 S;have O:=b4.alloc (.cells #[pk,pa,pn] 136);have g3:=heap_alloc_new w2 (.cells #[pk,pa,pn] 136);have bj:u7.ownBlock≠some w2.heap.size:=fun e=>by have:=(b4.lt _ e).2;omega
    go_upto_region 9 with fail;clear b2 S Z b4 d0 d1 d2 d3 b8 y bg;generalize w2.heap.size=G at g3 bj ⊢;generalize w2.alloc (.cells #[pk,pa,pn] 136)=V at *;have p0:V.cell? ⟨G,0,.none⟩=some (.int .i64 pk):=kA g3 0;have p1:V.cell? ⟨G,1,.none⟩=some (.int .i64 pa):=kA g3 1;have lG:=(Array.getElem?_eq_some_iff.1 g3).1;have cl:=J.size;clear g3;by_cases s:pk=3
    ·subst s;have bm:pb=true:=by
      rcases Bool.eq_false_or_eq_true pb with hp|hp
      ·exact hp
      exact absurd (x0.out hp) (by omega)
     subst bm;obtain⟨a1,a2,a3⟩:=x3.out rfl;have m1:IntKind.i64.wrap ((i:Int)*64)=(i:Int)*64:=IntWalk.i64_in _ ⟨by omega,by omega⟩;have m2:=wrp (pa*64);go_wp2_with (refine cH rfl (.tmp 34) (.tmp 41) 69 rfl W.heap.size 74 i0 _ 2 16 Tryz.underlying69 c7 ca cb cc rfl (by omega) _ n (SA L) rfl (O.alloc _) _ 1 (Bk.cells ⟨(i:Int)*64,pa*64⟩) rfl (RdS.new (cs:=(Bk.cells ⟨(i:Int)*64,pa*64⟩).toArray) (t:=74) (sz:=2) (n:=1) (heap_alloc_new V _) rfl (by omega)) (Bk.oneC _) (by simp only[maxLen];omega) (by omega) (by simp;omega) ?_;intro v1 w1 I o bc;have c5:=iE (J.alloc cl _) (O.alloc _) (by simp;omega) o;have q0:=(NQ (o.block G (by simp;omega) (fun e=>bj e.symm)) 0).trans (iA ((Below.refl V.heap.size V).alloc lr _) _ _ _ p0));refine⟨fin.out _ _ (L++[⟨(i:Int)*64,pa*64⟩]) c5 ?_ ?_,by simp[intOf];omega⟩
     ·rw[TQ,List.length_append,List.length_singleton,T.out];exact I
     exact E.out
    by_cases F:pk=2
    ·subst F;have bm:pb=true:=by
      rcases Bool.eq_false_or_eq_true pb with hp|hp
      ·exact hp
      exact absurd (x0.out hp) (by omega)
     subst bm;obtain⟨a1,a2⟩:=x2.out rfl;have ba:=XC pa;have bu:=mH pa;have cv:=CC pa;have e9:=wH pa;have bh:=fun (j:Int) X (hj:0<=j/\j<=16)=>NW i j pa X (by omega) hj;have hT:=E.out;rw[if_neg s,if_pos rfl]at hT;obtain⟨q,hq⟩:∃ q:Nat,mA pa=q:=⟨(mA pa).toNat,by omega⟩;rw[hq]at ba cv hT;rw[Int.toNat_natCast]at hT;generalize qA pa=z at *;replace ba:=hd' ba;replace bu:=hd' bu;replace bh:=hd' bh;replace hT:=hd' hT;clear E x0 x2 x3 s hq;go_wp2_with fail;refine(ba.out _).mono ?_;rintro e w3 ⟨rfl,hw⟩;obtain rfl:=hw.symm;clear hw;obtain⟨Wr,rfl⟩:∃ V:World,V=wr:=⟨_,rfl⟩;go_wp2_with fail;go_loopw [7,49] (fun vl vj wr=>∃ j:Nat,j<=q/\vj= .int .i64 j/\Below W.heap.size W wr/\wr.ownsRow W.heap.size 74 2 vl (n+(h.slB i j).length) (SA (L++h.slB i j))/\wr.cell? ⟨G,1,.none⟩=some (.int .i64 pa)/\G<wr.heap.size/\vl.ownBlock≠some G) (fun _ vj _=>q-(intOf vj).toNat);case atStart=>exact⟨0,Nat.zero_le _,rfl,J,by rw[y0.out,List.append_nil];exact O,p1,lG,bj⟩
     case round=>
      obtain⟨j,hj,rfl,r,bv,r1,lq,bk⟩:=hrel;by_cases e6:j<q
      ·have d0:=iA r _ _ _ k0;have d1:=iA r _ _ _ k1;have d2:=iA r _ _ _ k2;have d3:=iA r _ _ _ k3;have bw:=hB.trans (r.mono hB.size);have b9:=bs.out j wr bw (by omega);have b3:=yS.out j;have cz:=yL.out j;have ea:=NE (c:=(j:Int)) (m:=z) (C:=16) (M:=32) (by omega) (by omega);have cp:0<=(j:Int)/\(j:Int)<=16:=by omega
       have U:=fun X=>bh.out j X cp;generalize h.sk i j=k4 at *;generalize h.sa i j=k5 at *;generalize h.slB i j=M at *;generalize b6:M.length=mm at *;generalize (i:Int)*64+(j:Int)*z=ad at *;replace b9:=hd' b9;replace b3:=hd' b3;replace U:=hd' U;replace b6:=hd' b6
       have bb:Hid (∀ X v l,Below W.heap.size W X->X.ownsRow W.heap.size 74 2 v (n+l.length) (SA (L++l))->h.slB i (j+1)=l->X.cell? ⟨G,1,.none⟩=some (.int .i64 pa)->G<X.heap.size->v.ownBlock≠some G->∃ k:Nat,k<=q/\Value.int .i64 ((j:Int)+1)= .int .i64 k/\Below W.heap.size W X/\X.ownsRow W.heap.size 74 2 v (n+(h.slB i k).length) (SA (L++h.slB i k))/\X.cell? ⟨G,1,.none⟩=some (.int .i64 pa)/\G<X.heap.size/\v.ownBlock≠some G):=
        hd' fun X v l hb ho e c lx hn=>⟨j+1,by omega,by go_num,hb,by rw[e];exact ho,c,lx,hn⟩
       go_wp2_with fail;refine b9.out.mono ?_;rintro e w5 ⟨rfl,Y⟩;have b5:=own_below bv Y;have b0:=r.trans (Y.mono r.size);have r5:=iA Y _ _ _ r1;have e8:=Y.size;have cu:=b0.size;clear d0 d1 d2 d3 bw bv r r1 Y;by_cases bi:k4=3
       ·subst bi;have N:=b3.out;rw[if_pos rfl]at N;replace N:=hd' N;clear b3 b9;go_upto_region 16 with fail
        go_region_held3 (fun w'=>w'.cell? ⟨G,1,.none⟩=some (.int .i64 pa)) (first|go_keep|exact q1)
         (first|(go_at_call 77;(with_reducible refine(U.out _).mono ?_);rintro e w6 ⟨rfl,rfl⟩)|(go_at_call 78;(with_reducible refine(bu.out _).mono ?_);rintro e w6 ⟨rfl,rfl⟩)|(refine DG (by rfl) (.tmp 58) (.tmp 68) 69 (by rfl) W.heap.size 74 i0 _ 2 16 Tryz.underlying69 c7 ca cb cc rfl (by omega) _ (n+mm) (SA (L++M)) (by rfl) ((b5.alloc _).drew) _ 1 (Bk.cells ⟨ad,z⟩) (by rfl) (RdS.new (cs:=(Bk.cells ⟨ad,z⟩).toArray) (t:=74) (sz:=2) (n:=1) (heap_alloc_new w5 _) rfl (by omega)) (Bk.oneC _) (by simp only[maxLen];omega) (by omega) (by simp;omega) ?_;intro v1 w1 I o bc;have c6:=iE ((b0.alloc cu _).drew) ((b5.alloc _).drew) (by simp;omega) o;have q1:=(NQ (o.block G (by simp;omega) (fun e=>bk e.symm)) 1).trans (iA ((Below.refl w5.heap.size w5).alloc lr _) _ _ _ r5);have cx:G<w1.heap.size:=bG q1;have cr:v1.ownBlock≠some G:=(fun e=>by rcases bc with h|h;exact bk (h.symm.trans e);(have:=h.symm.trans e;injection this with this;simp at this;omega))))
        go_wp2;refine⟨bb.out _ _ (M++[⟨ad,z⟩]) c6 ?_ N.out q1 cx cr,by simp[intOf];omega⟩;rw[<-List.append_assoc,TQ,List.length_append,List.length_singleton,b6.out,<- Nat.add_assoc];exact I
       have e4:(k4==3)=false:=by rw[beq_eq_false_iff_ne];exact bi
       go_wp2;refine⟨bb.out _ _ M b0 (by rw[b6.out];exact b5) ?_ r5 (by omega) bk,by simp[intOf];omega⟩;have:=b3.out;rw[if_neg bi,List.append_nil]at this;exact this
      have cq:j=q:=by omega
      subst cq;have e5:¬ ((j:Int)<(j:Int)):=by omega
      go_wp2;refine⟨fin.out _ _ (L++h.slB i j) r ?_ hT.out,by simp[intOf];omega⟩;rw[List.length_append,T.out];exact bv
    have e3:(pk==3)=false:=by rw[beq_eq_false_iff_ne];exact s
    have e2:(pk==2)=false:=by rw[beq_eq_false_iff_ne];exact F
    go_wp2_with fail;refine⟨fin.out _ _ L J ?_ ?_,by simp[intOf];omega⟩
    ·rw[T.out];exact O
    have:=E.out;rw[if_neg s,if_neg F,List.append_nil]at this;exact this
   have cm:i=P:=by have:=hP.out;omega
   subst cm;go_wp2;go_ret;exact⟨_,rfl,bg,World.ownsRow.mono b2 (by omega)⟩
end

section

open Go.RowKit

attribute [local go_sem ↓] Go.wp_at_zero Go.wp_at_succ

def Hp.FF (h:Hp) (a:Int):Nat->Bool
 | 0=> true
 | i + 1=> h.FF a i && h.sw a i==0
def Hp.bare (h:Hp) (a:Int):Bool:=h.FF a 16
def Hp.okS (h:Hp) (a k i:Int):Bool:=if i < mA k then (h.sk a i==2 && decide (h.sa a i < h.c)) || ((h.sk a i==1 || h.sk a i==3) && h.sa a i==k) else h.sw a i==0
def Hp.supT (h:Hp) (a k:Int):Nat->Bool
 | 0=> true
 | i + 1=> h.supT a k i && h.okS a k i
def Hp.sup (h:Hp) (a k:Int):Bool:=h.supT a k 16
def Hp.rowT (h:Hp) (a:Int):Nat->Bool
 | 0=> true
 | i + 1=> h.rowT a i && (h.pk (a + 1 + i)==4 && h.pa (a + 1 + i)==a)
def Hp.rowB (h:Hp) (a n:Int):Bool:=h.rowT a (n - 1).toNat
def Hp.snd (h:Hp) (a:Int):Bool:=
 if h.pb a=true then
  (if h.pk a=2 then h.sup a (h.pa a)
   else if h.pk a=3 then h.bare a && h.rowB a (h.pa a)
   else if h.pk a=4 then h.bare a && (h.pk (h.pa a)==1 || (h.pk (h.pa a)==3 && decide (a < h.pa a + h.pa (h.pa a))))
   else if h.pk a=0 then h.bare a
   else true)
 else false
def Hp.sndT (h:Hp):Nat->Bool
 | 0=> true
 | i + 1=> h.sndT i && h.snd i
theorem Hp.mR(h:Hp){n:Nat}(b:h.sndT n=true):∀ i,i<n->h.snd (i:Nat)=true:=by
 induction n with
 |zero=>intro i hi;omega;|succ n f=>
  intro i hi;have h1:(h.sndT n&&h.snd n)=true:=b;rw[jC]at h1;rcases Nat.lt_or_ge i n with h2|h2
  ·exact f h1.1 i h2
  have:i=n:=by omega
  subst this;exact h1.2
def Hp.sound (h:Hp):Bool:=h.ok && h.sndT h.p.toNat
theorem Hp.kinds{h:Hp}{a:Int}(b:h.pb a=true):h.pk a=0\/h.pk a=1\/h.pk a=2\/h.pk a=3\/h.pk a=4:=by
 have hb:=(h.dJ a).1;have:h.pk a<=4:=by
  unfold Hp.pk;rw[jP b];unfold Hp.pb MA at b;simp only[jC,beq_iff_eq]at b;have h1:=b.1.1;generalize h.pw a=x at *;false_or_by_contra;rename_i hc;have:TE (PA x) (nA x 0) (nA x 1)=true:=by unfold TE;simp only[Bool.or_eq_true,decide_eq_true_eq];left;left;right;omega
  unfold UA at h1;rw[jP this]at h1;subst h1;exact hc (by decide)
 omega
theorem Hp.CH{h:Hp}{a:Int}(hs:h.snd a=true):h.pb a=true:=by
 unfold Hp.snd at hs;split at hs
 ·assumption
 cases hs
theorem Hp.ypn{h:Hp}{a:Int}{n:Nat}(hs:h.rowT a n=true):∀ i:Nat,i<n->h.pk (a+1+i)=4/\h.pa (a+1+i)=a:=by
 induction n with
 |zero=>intro i hi;omega;|succ n b=>
  intro i hi;have h1:(h.rowT a n&&(h.pk (a+1+n)==4&&h.pa (a+1+n)==a))=true:=hs;simp only[jC,beq_iff_eq]at h1;rcases Nat.lt_or_ge i n with h2|h2
  ·exact b h1.1 i h2
  have:i=n:=by omega
  subst this;exact h1.2
theorem okK.widen{W W':Int}(f:W<=W'){l:List Bk}:∀ {lo:Int},okK W lo l->okK W' lo l:=by
 induction l with
 |nil=>exact fun h=>Int.le_trans h f
 |cons b l i=>exact fun h=>⟨h.1,h.2.1,i h.2.2⟩
theorem okK.append{W M:Int}{l k:List Bk}(f:okK W M k):∀ {lo:Int},okK M lo l->okK W lo (l++k):=by
 induction l with
 |nil=>exact fun h=>f.mono h
 |cons b l i=>exact fun h=>⟨h.1,h.2.1,i h.2.2⟩
theorem Hp.iS{h:Hp}{a:Int}{q:Nat}{b:Bk}:b ∈ h.slB a q↔∃ i:Nat,i<q/\h.sk a i=3/\b=⟨a*64+i*qA (h.pa a),qA (h.pa a)⟩:=by
 induction q with
 |zero=>simp[Hp.slB];|succ q f=>
  unfold Hp.slB;rw[List.mem_append,f];constructor
  ·rintro(⟨i,h1,h2,h3⟩|h1)
   ·exact⟨i,by omega,h2,h3⟩
   split at h1
   ·rename_i h2;exact⟨q,by omega,h2,by simpa using h1⟩
   simp at h1
  rintro⟨i,h1,h2,h3⟩;rcases Nat.lt_or_ge i q with h4|h4
  ·exact .inl ⟨i,h4,h2,h3⟩
  have:i=q:=by omega
  subst this;right;rw[jP h2];simp[h3]
theorem Hp.yp7{h:Hp}{k:Nat}{b:Bk}:b ∈ h.blT k↔∃ a:Nat,a<k/\b ∈ h.pgB a:=by
 induction k with
 |zero=>simp[Hp.blT];|succ k f=>
  unfold Hp.blT;rw[List.mem_append,f];constructor
  ·rintro(⟨a,h1,h2⟩|h1)
   ·exact⟨a,by omega,h2⟩
   exact⟨k,by omega,h1⟩
  rintro⟨a,h1,h2⟩;rcases Nat.lt_or_ge a k with h4|h4
  ·exact .inl ⟨a,h4,h2⟩
  have:a=k:=by omega
  subst this;exact .inr h2
theorem Hp.yq5{h:Hp}{a:Int}(f:1<=qA (h.pa a))(q:Nat):okK (a*64+q*qA (h.pa a)) (a*64) (h.slB a q):=by
 induction q with
 |zero=>show a*64<=a*64+((0:Nat):Int)*_;simp;|succ q b=>
  unfold Hp.slB;have e:((q+1:Nat):Int)*qA (h.pa a)=q*qA (h.pa a)+qA (h.pa a):=by rw[Int.natCast_add,Int.add_mul];simp
  rw[e];split
  ·refine okK.append (M:=a*64+q*qA (h.pa a)) ?_ b;exact⟨Int.le_refl _,f,by show _+_<=_;simp only;omega⟩
  rw[List.append_nil];exact b.widen (by omega)
theorem Hp.row_of{h:Hp}{a:Int}(hs:h.snd a=true)(b:h.pk a=3):(1<=h.pa a/\h.pa a<=8/\h.pa a<=h.p-a)/\∀ q:Int,a<q->q<a+h.pa a->h.pk q=4/\h.pa q=a:=by
 have f:=Hp.CH hs;refine⟨Hp.zN (by rw[f,b];rfl),fun q h1 h2=>?_⟩;unfold Hp.snd at hs;rw[jP f,jN (by rw[b];decide),jP b,jC]at hs;have h3:=Hp.ypn hs.2 (q-a-1).toNat (by omega);rw[show a+1+((q-a-1).toNat:Int)=q by omega]at h3;exact h3
theorem Hp.yq8{h:Hp}{a:Int}(hs:h.snd a=true)(m:h.pk a=2):∃ z q:Nat,qA (h.pa a)=z/\mA (h.pa a)=q/\1<=z/\z*q=64:=by
 have n:=Hp.CH hs;have f:=Hp.rN (h:=h) (a:=a) (by rw[n,m];rfl);have b:=OX f;have p:=wH (h.pa a);have o:=CC (h.pa a);obtain⟨z,l⟩:∃ z:Nat,qA (h.pa a)=z:=⟨(qA (h.pa a)).toNat,by omega⟩;obtain⟨q,j⟩:∃ q:Nat,mA (h.pa a)=q:=⟨(mA (h.pa a)).toNat,by omega⟩;rw[l,j]at b;have i:z*q=64:=by exact_mod_cast b
 refine⟨z,q,l,j,?_,i⟩;rcases Nat.eq_zero_or_pos z with e|e
 ·subst e;omega
 exact e
def Hp.en (h:Hp):Nat->Int
 | 0=> 0
 | k + 1=> if h.pk k=3 then k + h.pa k else max (h.en k) (k + 1)
theorem Hp.TN{h:Hp}{P:Nat}(G:h.p=P)(hs:∀ i:Nat,i<P->h.snd i=true)(k:Nat)(H:k<=P):
  okK (64*h.en k) 0 (h.blT k)/\(k:Int)<=h.en k/\h.en k<=P/\∀ q:Int,k<=q->q<h.en k->h.pk q=4:=by
 induction k with
 |zero=>exact⟨Int.le_refl 0,Int.le_refl 0,by show (0:Int)<=P;omega,fun q h1 h2=>by have:h.en 0=0:=rfl;omega⟩;|succ k E=>
  obtain⟨l,I,J,s⟩:=E (by omega);have b:=hs k (by omega);have f:h.pk k≠4->h.en k=k:=fun y=>by false_or_by_contra;exact y (s k (Int.le_refl _) (by omega))
  unfold Hp.blT Hp.pgB Hp.en;by_cases h3:h.pk k=3
  ·rw[jP h3,jP h3];have m:=f (by rw[h3];decide);obtain⟨F,t⟩:=Hp.row_of b h3;refine⟨?_,by omega,by omega,fun q h4 r=>(t q (by omega) r).1⟩;rw[m]at l;have j:okK (64*((k:Int)+h.pa k)) (64*k) [⟨(k:Int)*64,h.pa k*64⟩]:=⟨by show 64*(k:Int)<=k*64;omega,by show 1<=h.pa k*64;omega,by show (k:Int)*64+h.pa k*64<=_;omega⟩;exact okK.append j l
  rw[jN h3,jN h3];refine⟨?_,by omega,by omega,fun q h4 r=>s q (by omega) (by omega)⟩;by_cases h2:h.pk k=2
  ·rw[jP h2];have m:=f (by rw[h2];decide);obtain⟨z,q,C,B,D,o⟩:=Hp.yq8 b h2;have n:=Hp.yq5 (h:=h) (a:=k) (by omega) q;rw[C]at n;have e:(q:Int)*z=64:=by rw[Int.mul_comm];exact_mod_cast o
   rw[e]at n;rw[B,Int.toNat_natCast];rw[m]at l ⊢;exact okK.append (M:=64*k) ((n.mono (by omega)).widen (by omega)) l
  rw[jN h2,List.append_nil];exact l.widen (by omega)
theorem Hp.MR{h:Hp}(hs:h.sound=true):h.ok=true/\∃ P:Nat,h.p=P/\h.p.toNat=P/\P<=64/\∀ i:Nat,i<P->h.snd i=true:=by
 unfold Hp.sound at hs;rw[jC]at hs;have b:mayB h.p h.c h.m=true:=by have:=hs.1;unfold Hp.ok at this;rw[jC]at this;exact this.1
 have hb:=LA.1 b;exact⟨hs.1,h.p.toNat,by omega,rfl,by omega,Hp.mR h hs.2⟩
theorem Hp.yrp{h:Hp}(hs:h.sound=true):okK (64*h.p) 0 h.bl:=by
 obtain⟨l,P,i,b,j,f⟩:=Hp.MR hs;unfold Hp.bl;rw[jP l,b];obtain⟨k1,m,n,o⟩:=Hp.TN i f P lr;exact k1.widen (by omega)
theorem Hp.yh9(h:Hp)(a:Int){i j:Nat}(b:i<=j)(f:h.FF a i=false):h.FF a j=false:=by
 induction b with
 |refl=>exact f
 |step _ l=>show (_&&_)=false;rw[l];rfl
theorem Hp.yip(h:Hp)(a k:Int){i j:Nat}(b:i<=j)(f:h.supT a k i=false):h.supT a k j=false:=by
 induction b with
 |refl=>exact f
 |step _ l=>show (_&&_)=false;rw[l];rfl
theorem Hp.yid(h:Hp)(a:Int){i j:Nat}(b:i<=j)(f:h.rowT a i=false):h.rowT a j=false:=by
 induction b with
 |refl=>exact f
 |step _ l=>show (_&&_)=false;rw[l];rfl
theorem yiz(h:Hp)(v:Value)(a:Int)(w:World)(b:Bok w v h)(ha:0<=a/\a<h.p):
  Calls Tryz.prog 116 #[XE h v,a] w fun e w'=>e= .returned (.bool (h.bare a))/\Below w.heap.size w w':=by
 obtain⟨b1,b2,b3,b4⟩:=b.bd;have X:=NE (c:=h.c) (m:=h.m) (C:=12) (M:=8) (by omega) (by omega);have b6:0<h.xs.length:=by omega
 obtain⟨g,r,cap,k0,hv,b5,hg,_,_,_⟩:=b.word 0 (by omega) (by omega);have D:Hid (∀ i:Nat,i<16->∃ k:Nat,XA h.p h.c h.m a i=(k:Int)/\k<h.xs.length/\w.cell? ⟨g,r+k,.none⟩=some (.int .u64 (h.sw a i))):=hd' fun i hi=>by obtain⟨g',b7,b0,k,O,_,_,R,J,hc⟩:=b.word (h.c+h.p+a*16+i) (by omega) (by omega);rw[hv]at O;injection O with F _ _;injection F with F;injection F with F e2;subst F e2;refine⟨k,?_,J,hc⟩;unfold XA;rw[jP ⟨b.may,IA.2 (by omega),IA.2 (by omega)⟩,R]
 subst hv;have B:=fun i=>oE h.p h.c h.m a i;have S:Hid (h.FF a 0=true):=hd' rfl;have V:Hid (∀ i,h.FF a (i+1)=(h.FF a i&&h.sw a i==0)):=hd' fun _=>rfl;have U:Hid (∀ i,i<=16->h.FF a i=false->h.bare a=false):=hd' fun i hi=>h.yh9 a hi;have T:Hid (h.FF a 16=h.bare a):=hd' rfl;generalize hn:h.xs.length=n at *;replace hn:=hd' hn;replace B:=hd' B;clear b b4 X;go_in;have g0:=jA w (.cells #[h.p,h.c,h.m,.slice (some ⟨g,r,.none⟩) n cap] 115);have y:Below w.heap.size w (w.alloc (.cells #[h.p,h.c,h.m,.slice (some ⟨g,r,.none⟩) n cap] 115)):=br.alloc lr _;go_upto_region 1 with fail;obtain⟨H,hH,G⟩:=hidv w.heap.size;rw[<-G]at g0 ⊢;clear G;generalize w.alloc (.cells #[h.p,h.c,h.m,.slice (some ⟨g,r,.none⟩) n cap] 115)=W at *;have c0:W.cell? ⟨H,0,.none⟩=some (.int .i64 h.p):=kA g0 0;have c1:W.cell? ⟨H,1,.none⟩=some (.int .i64 h.c):=kA g0 1;have c2:W.cell? ⟨H,2,.none⟩=some (.int .i64 h.m):=kA g0 2;have c3:W.cell? ⟨H,3,.none⟩=some (.slice (some ⟨g,r,.none⟩) n cap):=kA g0 3;have lH:=(jE g0);have lg:g<W.heap.size:=by have:=y.size;omega
 clear g0;go_wp2_with fail;go_loopw [6] (fun Z wr=>∃ i:Nat,i<=16/\Z= .int .i64 i/\Hid (h.FF a i=true)/\Below W.heap.size W wr) (fun Z _=>16-(intOf Z).toNat);case atStart=>exact⟨0,Nat.zero_le _,rfl,S,Below.refl _ _⟩
 case round=>
  obtain⟨i,hi,rfl,N,l⟩:=hrel;have d0:=iA l _ _ _ c0;have d1:=iA l _ _ _ c1;have d2:=iA l _ _ _ c2;have d3:=iA l _ _ _ c3;have s:=y.trans (l.mono y.size);have bb:H<wr.heap.size:=by have:=l.size;omega
  have bc:g<wr.heap.size:=by have:=l.size;omega
  by_cases L:i<16
  ·obtain⟨k,R,J,hc⟩:=D i L;replace hc:=iA s _ _ _ hc;have o:=B i;rw[R]at o;have j:=V i;rw[N,Bool.true_and]at j;have z:=U (i+1) (by omega);generalize h.sw a i=x at *;replace o:=hd' o;have b9:(0:Int)<=(k:Int):=by omega
   have ba:(k:Int)<(n:Int):=by omega
   have b8:(i:Int)<16:=by omega
   clear R;by_cases E:x=0
   ·have q:(x==0)=true:=by rw[beq_iff_eq];exact E
    rw[q]at j;have hd:(x !=0)=false:=by simp[E]
    replace j:=hd' j;clear z q E;go_upto_region 4 with fail;refine wre ?_;repeat (go_big_quiet_step ((go_at_call 114;exact AA (o _))))
    refine wpQuiet_nil ?_;rintro _ ⟨e,rfl⟩;go_wp2;exact⟨⟨i+1,by omega,by go_num,j,l.trans (e.below.mono l.size)⟩,by simp[intOf];omega⟩
   have q:(x==0)=false:=by rw[beq_eq_false_iff_ne];exact E
   rw[q]at j;have hd:(x !=0)=true:=by simpa using E
   have I:=hd' (z j);clear z q E j;go_upto_region 4 with fail;refine wre ?_;repeat (go_big_quiet_step ((go_at_call 114;exact AA (o _))))
   refine wpQuiet_nil ?_;rintro _ ⟨e,rfl⟩;go_wp2;go_ret;exact⟨by rw[I];rfl,s.trans (e.below.mono s.size)⟩
  have Y:i=16:=by omega
  subst Y;clear L;go_wp2;go_ret;exact⟨by rw[<-T,N];rfl,s⟩
theorem Bok.slots{w:World}{v:Value}{h:Hp}(b:Bok w v h){a:Int}(I:0<=a/\a<h.p):∃ g f cap,v= .slice (some ⟨g,f,.none⟩) h.xs.length cap/\g<w.heap.size/\
  ∀ i:Nat,i<16->∃ k:Nat,XA h.p h.c h.m a i=(k:Int)/\k<h.xs.length/\w.cell? ⟨g,f+k,.none⟩=some (.int .u64 (h.sw a i)):=by
 obtain⟨D,E,F,G⟩:=b.bd;have y:=NE (c:=h.c) (m:=h.m) (C:=12) (M:=8) (by omega) (by omega);obtain⟨g,f,cap,k0,r,q,z,_,_,_⟩:=b.word 0 (by omega) (by omega);refine⟨g,f,cap,r,z,fun i hi=>?_⟩;obtain⟨H,s,o,k,l,_,_,B,n,hc⟩:=b.word (h.c+h.p+a*16+i) (by omega) (by omega);rw[r]at l;injection l with j _ _;injection j with j;injection j with j t;subst j t;refine⟨k,?_,n,hc⟩;unfold XA;rw[jP ⟨b.may,IA.2 (by omega),IA.2 (by omega)⟩,B]
theorem yii(h:Hp)(v:Value)(a k:Int)(w:World)(b:Bok w v h)(ha:0<=a/\a<h.p):
  Calls Tryz.prog 115 #[XE h v,a,k] w fun e w'=>e= .returned (.bool (h.sup a k))/\Below w.heap.size w w':=by
 obtain⟨g,D,cap,hv,hg,y⟩:=b.slots ha;replace y:=hd' y;have J:=fun i=>oE h.p h.c h.m a i;have L:=fun i X (hX:Below w.heap.size w X) hi=>lJ h v a i X (b.below hX) ha hi;subst hv;have M:=XC k;have bc:=CC k;have b2:Hid (h.supT a k 0=true):=hd' rfl;have b6:Hid (∀ i,h.supT a k (i+1)=(h.supT a k i&&h.okS a k i)):=hd' fun _=>rfl;have b4:Hid (∀ i,i<=16->h.supT a k i=false->h.sup a k=false):=hd' fun i hi=>h.yip a k hi;have b3:Hid (h.supT a k 16=h.sup a k):=hd' rfl;have b5:Hid (∀ i,h.okS a k i=if i<mA k then(h.sk a i==2&&decide (h.sa a i<h.c))||((h.sk a i==1||h.sk a i==3)&&h.sa a i==k) else h.sw a i==0):=hd' fun _=>rfl;generalize mA k=q at *;generalize hn:h.xs.length=n at *;replace hn:=hd' hn;replace J:=hd' J;replace L:=hd' L;replace M:=hd' M;clear b;go_in;have g0:=jA w (.cells #[h.p,h.c,h.m,.slice (some ⟨g,D,.none⟩) n cap] 115);have r:Below w.heap.size w (w.alloc (.cells #[h.p,h.c,h.m,.slice (some ⟨g,D,.none⟩) n cap] 115)):=br.alloc lr _;go_upto_region 1 with fail;obtain⟨H,hH,R⟩:=hidv w.heap.size;rw[<-R]at g0 ⊢;clear R;generalize w.alloc (.cells #[h.p,h.c,h.m,.slice (some ⟨g,D,.none⟩) n cap] 115)=W at *;have c0:W.cell? ⟨H,0,.none⟩=some (.int .i64 h.p):=kA g0 0;have c1:W.cell? ⟨H,1,.none⟩=some (.int .i64 h.c):=kA g0 1;have c2:W.cell? ⟨H,2,.none⟩=some (.int .i64 h.m):=kA g0 2;have c3:W.cell? ⟨H,3,.none⟩=some (.slice (some ⟨g,D,.none⟩) n cap):=kA g0 3;have lH:=(jE g0);have lg:g<W.heap.size:=by have:=r.size;omega
 clear g0;go_wp2_with fail;go_loopw [10] (fun vi wr=>∃ i:Nat,i<=16/\vi= .int .i64 i/\Hid (h.supT a k i=true)/\Below W.heap.size W wr) (fun vi _=>16-(intOf vi).toNat);case atStart=>exact⟨0,Nat.zero_le _,rfl,b2,Below.refl _ _⟩
 case round=>
  obtain⟨i,hi,rfl,b0,o⟩:=hrel;have d0:=iA o _ _ _ c0;have d1:=iA o _ _ _ c1;have d2:=iA o _ _ _ c2;have d3:=iA o _ _ _ c3;have E:=r.trans (o.mono r.size);by_cases Z:i<16
  ·obtain⟨z,hk,bb,hc⟩:=y i Z;have B:=J i;rw[hk]at B;have C:=L i wr E (by omega);have j:=b6 i;rw[b0,Bool.true_and,b5 i]at j;have T:=b4 (i+1) (by omega);generalize h.sw a i=x at *;generalize h.sk a i=k4 at *;generalize h.sa a i=k5 at *;replace B:=hd' B;replace C:=hd' C;have b9:(0:Int)<=(z:Int):=by omega
   have ba:(z:Int)<(n:Int):=by omega
   have b8:(i:Int)<16:=by omega
   clear hk;go_wp2_with fail;refine C.out.mono ?_;rintro e w3 ⟨rfl,F⟩;have l:=(o.trans (F.mono o.size)).alloc (Nat.le_trans o.size F.size) (.cells #[k4,k5] 139);have N:=jA w3 (.cells #[k4,k5] 139);go_upto_region 5 with fail;generalize w3.heap.size=G at N ⊢;generalize w3.alloc (.cells #[k4,k5] 139)=V at *;have lG:=(jE N);have p0:V.cell? ⟨G,0,.none⟩=some (.int .i64 k4):=kA N 0;have p1:V.cell? ⟨G,1,.none⟩=some (.int .i64 k5):=kA N 1;have d0:=iA l _ _ _ c0;have d1:=iA l _ _ _ c1;have d2:=iA l _ _ _ c2;have d3:=iA l _ _ _ c3;have O:=r.trans (l.mono r.size);replace hc:=iA O _ _ _ hc;have bf:H<V.heap.size:=by have:=l.size;omega
   have bg:g<V.heap.size:=by have:=l.size;omega
   refine wre ?_;repeat (go_big_quiet_step ((go_at_call 114;exact AA (B _))))
   refine wpQuiet_nil ?_;rintro _ ⟨e,rfl⟩;have p0:=iA e.below _ _ _ p0;have p1:=iA e.below _ _ _ p1;have d1:=iA e.below _ _ _ d1;have S:=l.trans (e.below.mono l.size);have b1:=r.trans (S.mono r.size);clear F N lG O hc l C B o E;generalize e.w=U at *;clear e;go_wp2_with fail;refine(M _).mono ?_;rintro e w4 ⟨rfl,hw⟩;obtain rfl:=hw.symm;clear hw;go_upto_if 30 with fail;obtain⟨ok,I⟩:∃ ok:Bool,Hid (h.supT a k (i+1)=ok):=⟨_,hd' rfl⟩;rw[I]at j;replace j:=hd' j;go_cut [9] (fun s wx=>s= .bool ok/\wx=U);case first=>
    by_cases hq:(i:Int)<q
    ·have h1:=j.out;rw[jP hq]at h1;replace h1:=hd' h1;go_wp2_with fail;all_goals (go_meet;refine⟨?_,rfl⟩;rw[h1];congr 1)
     all_goals (clear h1;first|(simp[*];done)|(simp_all;done))
    have h1:=j.out;rw[jN hq]at h1;replace h1:=hd' h1;go_wp2_with fail;go_meet;case rel=>exact⟨by rw[h1],rfl⟩
   case rest=>
    obtain⟨rfl,hw⟩:=hcut;obtain rfl:=hw.symm;clear hw;rcases jB ok with ho|ho
    ·subst ho;go_wp2;exact⟨⟨i+1,by omega,by go_num,I,S⟩,by simp[intOf];omega⟩
    subst ho;have Y:=hd' (T I.out);clear T;go_wp2;go_ret;exact⟨by rw[Y];rfl,b1⟩
  have b7:i=16:=by omega
  subst b7;clear Z;go_wp2;go_ret;exact⟨by rw[<-b3,b0];rfl,E⟩
end

end Go.Proofs.YtkilokkopbajkaaGreat
