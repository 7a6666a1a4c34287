
import Derived.Test.YtkilokkopbajkaaGreatBw37

import Derived.Test.YtkilokkopbajkaaGreatBw40

set_option linter.all false
set_option maxHeartbeats 8000000
set_option maxRecDepth 100000
namespace Go.Proofs.YtkilokkopbajkaaGreat

open RowKit

attribute [local go_sem ↓] wp_at_zero wp_at_succ

section

attribute [local go_sem ↓] fI eI

theorem Bk.oneC(b:Bk):∀u∈b.cells,u.oneCell'=true:=by
 intro u hu;simp only[Bk.cells,List.mem_cons,List.not_mem_nil,or_false]at hu;rcases hu with rfl|rfl<;>rfl
theorem own_below{w w':World}{B:Nat}{E:TypeId}{size:Nat}{v:Value}{n:Nat}{xs:List Value}(h:w.ownsRow B E size v n xs)(hb:Below w.heap.size w w'):w'.ownsRow B E size v n xs:=
 oC h λk b=>hb.block k (h.lt k b).2
theorem tR(l:List Bk)(b:Bk):TA (l++[b])=TA l++b.cells:=by rw[JK];simp[TA]
theorem pR{w w':World}{g:Nat}(h:w'.heap[g]?=w.heap[g]?)(o:Nat):w'.cell? ⟨g,o,.none⟩=w.cell? ⟨g,o,.none⟩:=by
 simp only[World.cell?,h]
theorem yq2:(Tryz.prog.info? 74).map (λi=>(i.zero,i.size,i.bytes))=some (some (.agg #[.int .i64 0,.int .i64 0]),2,16):=by kernel_rfl
theorem yjc(h:Hp)(v:Value)(w:World)(hr:RdZ .u64 w v h.xs)(hf:h.fit):
  Calls Tryz.prog 34 #[shV h,v] w λe w'=>∃v',e=.returned v'/\Below w.heap.size w w'/\w'.ownsRow w.heap.size 74 2 v' h.bl.length (TA h.bl):=by
 obtain⟨ao,cap,hv,_,_,_⟩:=hr.cells;generalize h.xs.length=m at hv;subst hv;have D:=λX hX=>jL h (.slice ao m cap) X (hr.below (w':=X) hX);have b1:=(Below.refl w.heap.size w).alloc lr (.cells #[h.p,h.c,h.m] 23);have b7:h.bl=if h.ok=true then h.blT h.p.toNat else []:=rfl;obtain⟨i0,c7,ca,cb,cc⟩:=info_parts yq2;rcases Bool.eq_false_or_eq_true h.ok with B|B;case inr=>rw[B]at D;rw[b7,B,if_neg Bool.false_ne_true];clear b7 B;replace D:=hd' D;go_in;go_wp2_with fail;refine(D.out _ b1).mono ?_;rintro e w1 ⟨rfl,R⟩;have hB:=b1.trans (R.mono b1.size);go_wp2;go_ret;exact⟨_,rfl,hB.alloc hB.size _,⟨rfl,.inl ⟨rfl,rfl⟩⟩⟩
 case inl=>
  have b:Bok w (.slice ao m cap) h:=⟨B,hr,hf⟩;obtain⟨bp,_,_,_⟩:=b.bd;rw[B]at D;rw[b7,B,if_pos rfl];have bn:=λa X (hX:Below w.heap.size w X) ha=>WG h (.slice ao m cap) a X (b.below hX) ha;have bq:=λa i X (hX:Below w.heap.size w X) ha hi=>NJ h (.slice ao m cap) a i X (b.below hX) ha hi;obtain⟨P,hP⟩:∃P:Nat,Hid (h.p=P):=⟨h.p.toNat,hd' (by omega)⟩;have c4:h.p.toNat=P:=by have:=hP.out;omega
  rw[c4];have s:=λa=>Hp.fO (h:=h) (a:=a);have F:=λa=>Hp.aO (h:=h) (a:=a);have c9:Hid (∀a,h.pb a=false->h.pk a=0):=hd' λa hb=>by unfold Hp.pk;rw[hb,if_neg Bool.false_ne_true]
  have ch:Hid (h.blT 0=[]):=hd' rfl;have ck:Hid (∀k:Nat,h.blT (k+1)=h.blT k++h.pgB k):=hd' λ_=>rfl;have cj:Hid (∀k:Nat,(h.blT k).length<=16*k):=hd' h.eO;have hG:Hid (∀a,h.pgB a=if h.pk a=3 then [⟨a*64,h.pa a*64⟩] else if h.pk a=2 then h.slB a (mA (h.pa a)).toNat else []):=hd' λ_=>rfl;have cd:Hid (∀a,h.slB a 0=[]):=hd' λ_=>rfl;have cg:Hid (∀a (i:Nat),h.slB a (i+1)=h.slB a i++(if h.sk a i=3 then [⟨a*64+i*zA (h.pa a),zA (h.pa a)⟩] else [])):=hd' λ_ _=>rfl;have cf:Hid (∀a (i:Nat),(h.slB a i).length<=i):=hd' h.BR;replace D:=hd' D;replace bn:=hd' bn;replace bq:=hd' bq;replace s:=hd' s;replace F:=hd' F;clear b7 B c4 b;go_in;go_wp2_with fail;refine(D.out _ b1).mono ?_;rintro e w1 ⟨rfl,R⟩;have bf:=b1.trans (R.mono b1.size);have hB:=bf.alloc bf.size (.cells #[h.p,h.c,h.m,.slice ao m cap] 115);have S:=R.alloc R.size (.cells #[h.p,h.c,h.m,.slice ao m cap] 115);have r0:=(S.block _ (by simp)).trans (heap_alloc_new w (.cells #[h.p,h.c,h.m] 23));have r3:=heap_alloc_new w1 (.cells #[h.p,h.c,h.m,.slice ao m cap] 115);go_upto_region 2 with fail;obtain⟨H,hH,bx⟩:=hidv w.heap.size;obtain⟨K,hK,bz⟩:=hidv w1.heap.size;rw[<-bz]at r3|-;rw[<-bx]at r0|-;clear bz bx R S bf;generalize w1.alloc (.cells #[h.p,h.c,h.m,.slice ao m cap] 115)=W at*;have cy:=iA r0;have k0:W.cell? ⟨K,0,.none⟩=some (.int .i64 h.p):=iA r3 0;have k1:W.cell? ⟨K,1,.none⟩=some (.int .i64 h.c):=iA r3 1;have k2:W.cell? ⟨K,2,.none⟩=some (.int .i64 h.m):=iA r3 2;have k3:W.cell? ⟨K,3,.none⟩=some (.slice ao m cap):=iA r3 3;have e0:=hB.size;clear r0 r3;go_wp2_with fail;go_loopw [7,22] (λvl vi wr=>∃i:Nat,i<=P/\vi=.int .i64 i/\Below W.heap.size W wr/\wr.ownsRow W.heap.size 74 2 vl (h.blT i).length (TA (h.blT i))) (λ_ vi _=>P-(intOf vi).toNat);case atStart=>exact⟨0,Nat.zero_le _,rfl,Below.refl _ _,by rw[ch.out];exact⟨rfl,.inl ⟨rfl,rfl⟩⟩⟩
  case round=>
   obtain⟨i,hi,rfl,y,b2⟩:=hrel;have d0:=kA y _ _ _ k0;have d1:=kA y _ _ _ k1;have d2:=kA y _ _ _ k2;have d3:=kA y _ _ _ k3;have bg:=hB.trans (y.mono hB.size);by_cases e7:(i:Int)<h.p
   .have e1:i<P:=by have:=hP.out;omega
    have c8:0<=(i:Int)/\(i:Int)<h.p:=by omega
    have E:=ck.out i;rw[hG.out]at E;have hL:=cj.out i;have b8:=bn.out i wr bg c8;have x3:=s.out i;have x2:=F.out i;have x0:=c9.out i;have bs:=λj X hX hj=>bq.out i j X hX c8 hj;have y0:=cd.out i;have yS:=cg.out i;have yL:=cf.out i;generalize h.blT i=L at*;generalize T:L.length=n at*;generalize h.pk i=pk at*;generalize h.pa i=pa at*;generalize h.pn i=pn at*;generalize h.pb i=pb at*;replace b8:=hd' b8;replace bs:=hd' bs;replace y0:=hd' y0;replace yS:=hd' yS;replace yL:=hd' yL;replace E:=hd' E;replace x0:=hd' x0;replace x2:=hd' x2;replace x3:=hd' x3;replace T:=hd' T
    have fin:Hid (∀X v l,Below W.heap.size W X->X.ownsRow W.heap.size 74 2 v l.length (TA l)->h.blT (i+1)=l->∃j:Nat,j<=P/\Value.int .i64 ((i:Int)+1)=.int .i64 j/\Below W.heap.size W X/\X.ownsRow W.heap.size 74 2 v (h.blT j).length (TA (h.blT j))):=
     hd' λX v l hb ho e=>⟨i+1,by omega,by go_num,hb,by rw[e];exact ho⟩
    go_wp2_with fail;refine b8.out.mono ?_;rintro e w2 ⟨rfl,S⟩;have Z:=y.trans (S.mono y.size);have J:=Z.alloc Z.size (.cells #[pk,pa,pn] 136);have b4:=own_below b2 S;have O:=b4.alloc (.cells #[pk,pa,pn] 136);have g3:=heap_alloc_new w2 (.cells #[pk,pa,pn] 136);have bj:u7.ownBlock≠some w2.heap.size:=λe=>by have:=(b4.lt _ e).2;omega
    go_upto_region 9 with fail;clear b2 S Z b4 d0 d1 d2 d3 b8 y bg;generalize w2.heap.size=G at g3 bj|-;generalize w2.alloc (.cells #[pk,pa,pn] 136)=V at*;have p0:V.cell? ⟨G,0,.none⟩=some (.int .i64 pk):=iA g3 0;have p1:V.cell? ⟨G,1,.none⟩=some (.int .i64 pa):=iA g3 1;have lG:=(Array.getElem?_eq_some_iff.1 g3).1;have cl:=J.size;clear g3;by_cases s:pk=3
    .subst s;have bm:pb=true:=by
      rcases Bool.eq_false_or_eq_true pb with hp|hp
      .exact hp
      exact absurd (x0.out hp) (by omega)
     subst bm;obtain⟨a1,a2,a3⟩:=x3.out rfl;have m1:IntKind.i64.wrap ((i:Int)*64)=(i:Int)*64:=IntWalk.i64_in _ ⟨by omega,by omega⟩;have m2:=wrp (pa*64);go_wp2_with (refine nH rfl (.tmp 34) (.tmp 41) 69 rfl W.heap.size 74 i0 _ 2 16 Tryz.underlying69 c7 ca cb cc rfl (by omega) _ n (TA L) rfl (O.alloc _) _ 1 (Bk.cells ⟨(i:Int)*64,pa*64⟩) rfl (RdS.new (cs:=(Bk.cells ⟨(i:Int)*64,pa*64⟩).toArray) (t:=74) (sz:=2) (n:=1) (heap_alloc_new V _) rfl (by omega)) (Bk.oneC _) (by simp only[maxLen];omega) (by omega) (by simp;omega) ?_;intro v1 w1 I o bc;have c5:=sE (J.alloc cl _) (O.alloc _) (by simp;omega) o;have q0:=(pR (o.block G (by simp;omega) (λe=>bj e.symm)) 0).trans (kA ((Below.refl V.heap.size V).alloc lr _) _ _ _ p0));refine⟨fin.out _ _ (L++[⟨(i:Int)*64,pa*64⟩]) c5 ?_ ?_,by simp[intOf];omega⟩
     .rw[tR,List.length_append,List.length_singleton,T.out];exact I
     exact E.out
    by_cases F:pk=2
    .subst F;have bm:pb=true:=by
      rcases Bool.eq_false_or_eq_true pb with hp|hp
      .exact hp
      exact absurd (x0.out hp) (by omega)
     subst bm;obtain⟨a1,a2⟩:=x2.out rfl;have ba:=gD pa;have bu:=vH pa;have cv:=CC pa;have e9:=GH pa;have bh:=λ(j:Int) X (hj:0<=j/\j<=16)=>nX i j pa X (by omega) hj;have hT:=E.out;rw[if_neg s,if_pos rfl]at hT;obtain⟨q,hq⟩:∃q:Nat,mA pa=q:=⟨(mA pa).toNat,by omega⟩;rw[hq]at ba cv hT;rw[Int.toNat_natCast]at hT;generalize zA pa=z at*;replace ba:=hd' ba;replace bu:=hd' bu;replace bh:=hd' bh;replace hT:=hd' hT;clear E x0 x2 x3 s hq;go_wp2_with fail;refine(ba.out _).mono ?_;rintro e w3 ⟨rfl,hw⟩;obtain rfl:=hw.symm;clear hw;obtain⟨Wr,rfl⟩:∃V:World,V=wr:=⟨_,rfl⟩;go_wp2_with fail;go_loopw [7,49] (λvl vj wr=>∃j:Nat,j<=q/\vj=.int .i64 j/\Below W.heap.size W wr/\wr.ownsRow W.heap.size 74 2 vl (n+(h.slB i j).length) (TA (L++h.slB i j))/\wr.cell? ⟨G,1,.none⟩=some (.int .i64 pa)/\G<wr.heap.size/\vl.ownBlock≠some G) (λ_ vj _=>q-(intOf vj).toNat);case atStart=>exact⟨0,Nat.zero_le _,rfl,J,by rw[y0.out,List.append_nil];exact O,p1,lG,bj⟩
     case round=>
      obtain⟨j,hj,rfl,r,bv,r1,lq,bk⟩:=hrel;by_cases e6:j<q
      .have d0:=kA r _ _ _ k0;have d1:=kA r _ _ _ k1;have d2:=kA r _ _ _ k2;have d3:=kA r _ _ _ k3;have bw:=hB.trans (r.mono hB.size);have b9:=bs.out j wr bw (by omega);have b3:=yS.out j;have cz:=yL.out j;have ea:=TE (c:=(j:Int)) (m:=z) (C:=16) (M:=32) (by omega) (by omega);have cp:0<=(j:Int)/\(j:Int)<=16:=by omega
       have U:=λX=>bh.out j X cp;generalize h.sk i j=k4 at*;generalize h.sa i j=k5 at*;generalize h.slB i j=M at*;generalize b6:M.length=mm at*;generalize (i:Int)*64+(j:Int)*z=ad at*;replace b9:=hd' b9;replace b3:=hd' b3;replace U:=hd' U;replace b6:=hd' b6
       have bb:Hid (∀X v l,Below W.heap.size W X->X.ownsRow W.heap.size 74 2 v (n+l.length) (TA (L++l))->h.slB i (j+1)=l->X.cell? ⟨G,1,.none⟩=some (.int .i64 pa)->G<X.heap.size->v.ownBlock≠some G->∃k:Nat,k<=q/\Value.int .i64 ((j:Int)+1)=.int .i64 k/\Below W.heap.size W X/\X.ownsRow W.heap.size 74 2 v (n+(h.slB i k).length) (TA (L++h.slB i k))/\X.cell? ⟨G,1,.none⟩=some (.int .i64 pa)/\G<X.heap.size/\v.ownBlock≠some G):=
        hd' λX v l hb ho e c lx hn=>⟨j+1,by omega,by go_num,hb,by rw[e];exact ho,c,lx,hn⟩
       go_wp2_with fail;refine b9.out.mono ?_;rintro e w5 ⟨rfl,Y⟩;have b5:=own_below bv Y;have b0:=r.trans (Y.mono r.size);have r5:=kA Y _ _ _ r1;have e8:=Y.size;have cu:=b0.size;clear d0 d1 d2 d3 bw bv r r1 Y;by_cases bi:k4=3
       .subst bi;have N:=b3.out;rw[if_pos rfl]at N;replace N:=hd' N;clear b3 b9;go_upto_region 16 with fail
        go_region_held3 (λw'=>w'.cell? ⟨G,1,.none⟩=some (.int .i64 pa)) (first|go_keep|exact q1)
         (first|(go_at_call 77;(with_reducible refine(U.out _).mono ?_);rintro e w6 ⟨rfl,rfl⟩)|(go_at_call 78;(with_reducible refine(bu.out _).mono ?_);rintro e w6 ⟨rfl,rfl⟩)|(refine sG (by rfl) (.tmp 58) (.tmp 68) 69 (by rfl) W.heap.size 74 i0 _ 2 16 Tryz.underlying69 c7 ca cb cc rfl (by omega) _ (n+mm) (TA (L++M)) (by rfl) ((b5.alloc _).drew) _ 1 (Bk.cells ⟨ad,z⟩) (by rfl) (RdS.new (cs:=(Bk.cells ⟨ad,z⟩).toArray) (t:=74) (sz:=2) (n:=1) (heap_alloc_new w5 _) rfl (by omega)) (Bk.oneC _) (by simp only[maxLen];omega) (by omega) (by simp;omega) ?_;intro v1 w1 I o bc;have c6:=sE ((b0.alloc cu _).drew) ((b5.alloc _).drew) (by simp;omega) o;have q1:=(pR (o.block G (by simp;omega) (λe=>bk e.symm)) 1).trans (kA ((Below.refl w5.heap.size w5).alloc lr _) _ _ _ r5);have cx:G<w1.heap.size:=GG q1;have cr:v1.ownBlock≠some G:=(λe=>by rcases bc with h|h;exact bk (h.symm.trans e);(have:=h.symm.trans e;injection this with this;simp at this;omega))))
        go_wp2;refine⟨bb.out _ _ (M++[⟨ad,z⟩]) c6 ?_ N.out q1 cx cr,by simp[intOf];omega⟩;rw[<-List.append_assoc,tR,List.length_append,List.length_singleton,b6.out,<- Nat.add_assoc];exact I
       have e4:(k4==3)=false:=by rw[beq_eq_false_iff_ne];exact bi
       go_wp2;refine⟨bb.out _ _ M b0 (by rw[b6.out];exact b5) ?_ r5 (by omega) bk,by simp[intOf];omega⟩;have:=b3.out;rw[if_neg bi,List.append_nil]at this;exact this
      have cq:j=q:=by omega
      subst cq;have e5:¬((j:Int)<(j:Int)):=by omega
      go_wp2;refine⟨fin.out _ _ (L++h.slB i j) r ?_ hT.out,by simp[intOf];omega⟩;rw[List.length_append,T.out];exact bv
    have e3:(pk==3)=false:=by rw[beq_eq_false_iff_ne];exact s
    have e2:(pk==2)=false:=by rw[beq_eq_false_iff_ne];exact F
    go_wp2_with fail;refine⟨fin.out _ _ L J ?_ ?_,by simp[intOf];omega⟩
    .rw[T.out];exact O
    have:=E.out;rw[if_neg s,if_neg F,List.append_nil]at this;exact this
   have cm:i=P:=by have:=hP.out;omega
   subst cm;go_wp2;go_ret;exact⟨_,rfl,bg,World.ownsRow.mono b2 (by omega)⟩
end

theorem Hp.yh9(h:Hp)(a:Int){i j:Nat}(b:i<=j)(f:h.QF a i=false):h.QF a j=false:=by
 induction b with
 |refl=>exact f
 |step _ l=>show (_&&_)=false;rw[l];rfl
theorem Hp.yip(h:Hp)(a k:Int){i j:Nat}(b:i<=j)(f:h.supT a k i=false):h.supT a k j=false:=by
 induction b with
 |refl=>exact f
 |step _ l=>show (_&&_)=false;rw[l];rfl
theorem Hp.yid(h:Hp)(a:Int){i j:Nat}(b:i<=j)(f:h.rowT a i=false):h.rowT a j=false:=by
 induction b with
 |refl=>exact f
 |step _ l=>show (_&&_)=false;rw[l];rfl
theorem yiz(h:Hp)(v:Value)(a:Int)(w:World)(b:Bok w v h)(ha:0<=a/\a<h.p):
  Calls Tryz.prog 116 #[mF h v,a] w λe w'=>e=.returned (.bool (h.bare a))/\Below w.heap.size w w':=by
 obtain⟨b1,b2,b3,b4⟩:=b.bd;have X:=TE (c:=h.c) (m:=h.m) (C:=12) (M:=8) (by omega) (by omega);have b6:0<h.xs.length:=by omega
 obtain⟨g,r,cap,k0,hv,b5,hg,_,_,_⟩:=b.word 0 (by omega) (by omega);have D:Hid (∀i:Nat,i<16->∃k:Nat,bB h.p h.c h.m a i=(k:Int)/\k<h.xs.length/\w.cell? ⟨g,r+k,.none⟩=some (.int .u64 (h.sw a i))):=hd' λi hi=>by obtain⟨g',b7,b0,k,O,_,_,R,J,hc⟩:=b.word (h.c+h.p+a*16+i) (by omega) (by omega);rw[hv]at O;injection O with F _ _;injection F with F;injection F with F e2;subst F e2;refine⟨k,?_,J,hc⟩;unfold bB;rw[jP ⟨b.may,BA.2 (by omega),BA.2 (by omega)⟩,R]
 subst hv;have B:=λi=>uE h.p h.c h.m a i;have S:Hid (h.QF a 0=true):=hd' rfl;have V:Hid (∀i,h.QF a (i+1)=(h.QF a i&&h.sw a i==0)):=hd' λ_=>rfl;have U:Hid (∀i,i<=16->h.QF a i=false->h.bare a=false):=hd' λi hi=>h.yh9 a hi;have T:Hid (h.QF a 16=h.bare a):=hd' rfl;generalize hn:h.xs.length=n at*;replace hn:=hd' hn;replace B:=hd' B;clear b b4 X;go_in;have g0:=jA w (.cells #[h.p,h.c,h.m,.slice (some ⟨g,r,.none⟩) n cap] 115);have y:Below w.heap.size w (w.alloc (.cells #[h.p,h.c,h.m,.slice (some ⟨g,r,.none⟩) n cap] 115)):=br.alloc lr _;go_upto_region 1 with fail;obtain⟨H,hH,G⟩:=hidv w.heap.size;rw[<-G]at g0|-;clear G;generalize w.alloc (.cells #[h.p,h.c,h.m,.slice (some ⟨g,r,.none⟩) n cap] 115)=W at*;have c0:W.cell? ⟨H,0,.none⟩=some (.int .i64 h.p):=iA g0 0;have c1:W.cell? ⟨H,1,.none⟩=some (.int .i64 h.c):=iA g0 1;have c2:W.cell? ⟨H,2,.none⟩=some (.int .i64 h.m):=iA g0 2;have c3:W.cell? ⟨H,3,.none⟩=some (.slice (some ⟨g,r,.none⟩) n cap):=iA g0 3;have lH:=(jE g0);have lg:g<W.heap.size:=by have:=y.size;omega
 clear g0;go_wp2_with fail;go_loopw [6] (λZ wr=>∃i:Nat,i<=16/\Z=.int .i64 i/\Hid (h.QF a i=true)/\Below W.heap.size W wr) (λZ _=>16-(intOf Z).toNat);case atStart=>exact⟨0,Nat.zero_le _,rfl,S,Below.refl _ _⟩
 case round=>
  obtain⟨i,hi,rfl,N,l⟩:=hrel;have d0:=kA l _ _ _ c0;have d1:=kA l _ _ _ c1;have d2:=kA l _ _ _ c2;have d3:=kA l _ _ _ c3;have s:=y.trans (l.mono y.size);have bb:H<wr.heap.size:=by have:=l.size;omega
  have bc:g<wr.heap.size:=by have:=l.size;omega
  by_cases L:i<16
  .obtain⟨k,R,J,hc⟩:=D i L;replace hc:=kA s _ _ _ hc;have o:=B i;rw[R]at o;have j:=V i;rw[N,Bool.true_and]at j;have z:=U (i+1) (by omega);generalize h.sw a i=x at*;replace o:=hd' o;have b9:(0:Int)<=(k:Int):=by omega
   have ba:(k:Int)<(n:Int):=by omega
   have b8:(i:Int)<16:=by omega
   clear R;by_cases E:x=0
   .have q:(x==0)=true:=by rw[beq_iff_eq];exact E
    rw[q]at j;have hd:(x !=0)=false:=by simp[E]
    replace j:=hd' j;clear z q E;go_upto_region 4 with fail;refine wre ?_;repeat (go_big_quiet_step ((go_at_call 114;exact AA (o _))))
    refine wpQuiet_nil ?_;rintro _ ⟨e,rfl⟩;go_wp2;exact⟨⟨i+1,by omega,by go_num,j,l.trans (e.below.mono l.size)⟩,by simp[intOf];omega⟩
   have q:(x==0)=false:=by rw[beq_eq_false_iff_ne];exact E
   rw[q]at j;have hd:(x !=0)=true:=by simpa using E
   have I:=hd' (z j);clear z q E j;go_upto_region 4 with fail;refine wre ?_;repeat (go_big_quiet_step ((go_at_call 114;exact AA (o _))))
   refine wpQuiet_nil ?_;rintro _ ⟨e,rfl⟩;go_wp2;go_ret;exact⟨by rw[I];rfl,s.trans (e.below.mono s.size)⟩
  have Y:i=16:=by omega
  subst Y;clear L;go_wp2;go_ret;exact⟨by rw[<-T,N];rfl,s⟩
theorem yii(h:Hp)(v:Value)(a k:Int)(w:World)(b:Bok w v h)(ha:0<=a/\a<h.p):
  Calls Tryz.prog 115 #[mF h v,a,k] w λe w'=>e=.returned (.bool (h.sup a k))/\Below w.heap.size w w':=by
 obtain⟨g,D,cap,hv,hg,y⟩:=b.slots ha;replace y:=hd' y;have J:=λi=>uE h.p h.c h.m a i;have L:=λi X (hX:Below w.heap.size w X) hi=>NJ h v a i X (b.below hX) ha hi;subst hv;have M:=gD k;have bc:=CC k;have b2:Hid (h.supT a k 0=true):=hd' rfl;have b6:Hid (∀i,h.supT a k (i+1)=(h.supT a k i&&h.okS a k i)):=hd' λ_=>rfl;have b4:Hid (∀i,i<=16->h.supT a k i=false->h.sup a k=false):=hd' λi hi=>h.yip a k hi;have b3:Hid (h.supT a k 16=h.sup a k):=hd' rfl;have b5:Hid (∀i,h.okS a k i=if i<mA k then(h.sk a i==2&&decide (h.sa a i<h.c))||((h.sk a i==1||h.sk a i==3)&&h.sa a i==k) else h.sw a i==0):=hd' λ_=>rfl;generalize mA k=q at*;generalize hn:h.xs.length=n at*;replace hn:=hd' hn;replace J:=hd' J;replace L:=hd' L;replace M:=hd' M;clear b;go_in;have g0:=jA w (.cells #[h.p,h.c,h.m,.slice (some ⟨g,D,.none⟩) n cap] 115);have r:Below w.heap.size w (w.alloc (.cells #[h.p,h.c,h.m,.slice (some ⟨g,D,.none⟩) n cap] 115)):=br.alloc lr _;go_upto_region 1 with fail;obtain⟨H,hH,R⟩:=hidv w.heap.size;rw[<-R]at g0|-;clear R;generalize w.alloc (.cells #[h.p,h.c,h.m,.slice (some ⟨g,D,.none⟩) n cap] 115)=W at*;have c0:W.cell? ⟨H,0,.none⟩=some (.int .i64 h.p):=iA g0 0;have c1:W.cell? ⟨H,1,.none⟩=some (.int .i64 h.c):=iA g0 1;have c2:W.cell? ⟨H,2,.none⟩=some (.int .i64 h.m):=iA g0 2;have c3:W.cell? ⟨H,3,.none⟩=some (.slice (some ⟨g,D,.none⟩) n cap):=iA g0 3;have lH:=(jE g0);have lg:g<W.heap.size:=by have:=r.size;omega
 clear g0;go_wp2_with fail;go_loopw [10] (λvi wr=>∃i:Nat,i<=16/\vi=.int .i64 i/\Hid (h.supT a k i=true)/\Below W.heap.size W wr) (λvi _=>16-(intOf vi).toNat);case atStart=>exact⟨0,Nat.zero_le _,rfl,b2,Below.refl _ _⟩
 case round=>
  obtain⟨i,hi,rfl,b0,o⟩:=hrel;have d0:=kA o _ _ _ c0;have d1:=kA o _ _ _ c1;have d2:=kA o _ _ _ c2;have d3:=kA o _ _ _ c3;have E:=r.trans (o.mono r.size);by_cases Z:i<16
  .obtain⟨z,hk,bb,hc⟩:=y i Z;have B:=J i;rw[hk]at B;have C:=L i wr E (by omega);have j:=b6 i;rw[b0,Bool.true_and,b5 i]at j;have T:=b4 (i+1) (by omega);generalize h.sw a i=x at*;generalize h.sk a i=k4 at*;generalize h.sa a i=k5 at*;replace B:=hd' B;replace C:=hd' C;have b9:(0:Int)<=(z:Int):=by omega
   have ba:(z:Int)<(n:Int):=by omega
   have b8:(i:Int)<16:=by omega
   clear hk;go_wp2_with fail;refine C.out.mono ?_;rintro e w3 ⟨rfl,F⟩;have l:=(o.trans (F.mono o.size)).alloc (Nat.le_trans o.size F.size) (.cells #[k4,k5] 139);have N:=jA w3 (.cells #[k4,k5] 139);go_upto_region 5 with fail;generalize w3.heap.size=G at N|-;generalize w3.alloc (.cells #[k4,k5] 139)=V at*;have lG:=(jE N);have p0:V.cell? ⟨G,0,.none⟩=some (.int .i64 k4):=iA N 0;have p1:V.cell? ⟨G,1,.none⟩=some (.int .i64 k5):=iA N 1;have d0:=kA l _ _ _ c0;have d1:=kA l _ _ _ c1;have d2:=kA l _ _ _ c2;have d3:=kA l _ _ _ c3;have O:=r.trans (l.mono r.size);replace hc:=kA O _ _ _ hc;have bf:H<V.heap.size:=by have:=l.size;omega
   have bg:g<V.heap.size:=by have:=l.size;omega
   refine wre ?_;repeat (go_big_quiet_step ((go_at_call 114;exact AA (B _))))
   refine wpQuiet_nil ?_;rintro _ ⟨e,rfl⟩;have p0:=kA e.below _ _ _ p0;have p1:=kA e.below _ _ _ p1;have d1:=kA e.below _ _ _ d1;have S:=l.trans (e.below.mono l.size);have b1:=r.trans (S.mono r.size);clear F N lG O hc l C B o E;generalize e.w=U at*;clear e;go_wp2_with fail;refine(M _).mono ?_;rintro e w4 ⟨rfl,hw⟩;obtain rfl:=hw.symm;clear hw;go_upto_if 30 with fail;obtain⟨ok,I⟩:∃ok:Bool,Hid (h.supT a k (i+1)=ok):=⟨_,hd' rfl⟩;rw[I]at j;replace j:=hd' j;go_cut [9] (λs wx=>s=.bool ok/\wx=U);case first=>
    by_cases hq:(i:Int)<q
    .have h1:=j.out;rw[jP hq]at h1;replace h1:=hd' h1;go_wp2_with fail;all_goals (go_meet;refine⟨?_,rfl⟩;rw[h1];congr 1)
     all_goals (clear h1;first|(simp[*];done)|(simp_all;done))
    have h1:=j.out;rw[jN hq]at h1;replace h1:=hd' h1;go_wp2_with fail;go_meet;case rel=>exact⟨by rw[h1],rfl⟩
   case rest=>
    obtain⟨rfl,hw⟩:=hcut;obtain rfl:=hw.symm;clear hw;rcases jB ok with ho|ho
    .subst ho;go_wp2;exact⟨⟨i+1,by omega,by go_num,I,S⟩,by simp[intOf];omega⟩
    subst ho;have Y:=hd' (T I.out);clear T;go_wp2;go_ret;exact⟨by rw[Y];rfl,b1⟩
  have b7:i=16:=by omega
  subst b7;clear Z;go_wp2;go_ret;exact⟨by rw[<-b3,b0];rfl,E⟩
theorem yjb(h:Hp)(v:Value)(a n:Int)(w:World)(b:Bok w v h)(ha:0<=a/\a<h.p)(hn:1<=n/\n<=8/\n<=h.p-a):
  Calls Tryz.prog 117 #[mF h v,a,n] w λe w'=>e=.returned (.bool (h.rowB a n))/\Below w.heap.size w w':=by
 obtain⟨b1,_,_,_⟩:=b.bd;obtain⟨ao,cap,hv,_,_,_⟩:=b.rd.cells;generalize h.xs.length=m at hv;subst hv;have E:=λq X (U:Below w.heap.size w X) hq=>WG h (.slice ao m cap) q X (b.below U) hq;obtain⟨N,I⟩:∃N:Nat,n-1=N:=⟨(n-1).toNat,by omega⟩;have O:Hid (h.rowT a 0=true):=hd' rfl;have T:Hid (∀i:Nat,h.rowT a (i+1)=(h.rowT a i&&(h.pk (a+1+i)==4&&h.pa (a+1+i)==a))):=hd' λ_=>rfl;have S:Hid (∀i,i<=N->h.rowT a i=false->h.rowB a n=false):=hd' λi hi hf=>by unfold Hp.rowB;exact h.yid a (by omega) hf
 have R:Hid (h.rowT a N=h.rowB a n):=hd' (by unfold Hp.rowB;rw[I,Int.toNat_natCast]);replace I:=hd' I;replace E:=hd' E;have wa:=wrp (a+1);have wn:=wrp (a+n);clear b;go_in;have g0:=jA w (.cells #[h.p,h.c,h.m,.slice ao m cap] 115);have F:Below w.heap.size w (w.alloc (.cells #[h.p,h.c,h.m,.slice ao m cap] 115)):=br.alloc lr _;go_upto_region 1 with fail;obtain⟨H,hH,G⟩:=hidv w.heap.size;rw[<-G]at g0|-;clear G;generalize w.alloc (.cells #[h.p,h.c,h.m,.slice ao m cap] 115)=W at*;have c0:W.cell? ⟨H,0,.none⟩=some (.int .i64 h.p):=iA g0 0;have c1:W.cell? ⟨H,1,.none⟩=some (.int .i64 h.c):=iA g0 1;have c2:W.cell? ⟨H,2,.none⟩=some (.int .i64 h.m):=iA g0 2;have c3:W.cell? ⟨H,3,.none⟩=some (.slice ao m cap):=iA g0 3;clear g0;go_wp2_with fail;go_loopw [7] (λvi wr=>∃i:Nat,i<=N/\vi=.int .i64 (a+1+i)/\Hid (h.rowT a i=true)/\Below W.heap.size W wr) (λvi _=>(a+n-intOf vi).toNat);case atStart=>exact⟨0,Nat.zero_le _,by simp,O,Below.refl _ _⟩
 case round=>
  obtain⟨i,hi,rfl,M,s⟩:=hrel;have d0:=kA s _ _ _ c0;have d1:=kA s _ _ _ c1;have d2:=kA s _ _ _ c2;have d3:=kA s _ _ _ c3;have o:=F.trans (s.mono F.size);by_cases b0:i<N
  .have hq:a+1+(i:Int)<a+n:=by have:=I.out;omega
   have C:=E (a+1+i) wr o (by omega);have l:=T i;rw[M,Bool.true_and]at l;have z:=S (i+1) (by omega);have wq:IntKind.i64.wrap (a+1+(i:Int)+1)=a+1+(i:Int)+1:=IntWalk.i64_in _ ⟨by omega,by omega⟩;generalize h.pk (a+1+i)=k1 at*;generalize h.pa (a+1+i)=k2 at*;generalize h.pn (a+1+i)=k3 at*;generalize h.pb (a+1+i)=k4 at*;replace C:=hd' C
   have fin:Hid (∀X,jW W X->h.rowT a (i+1)=true->(∃j:Nat,j<=N/\Value.int .i64 (a+1+(i:Int)+1)=.int .i64 (a+1+j)/\Hid (h.rowT a j=true)/\Below W.heap.size W X)/\(a+n-(a+1+(i:Int)+1)).toNat<(a+n-(a+1+(i:Int))).toNat):=
    hd' λX U y=>⟨⟨i+1,by omega,by congr 1;omega,hd' y,U⟩,by omega⟩
   by_cases B:k1=4
   .by_cases D:k2=a
    .have y:h.rowT a (i+1)=true:=by rw[l,B,D];simp
     subst B D;replace y:=hd' y;clear l z;go_wp2_with fail;refine C.out.mono ?_;rintro e w3 ⟨rfl,r⟩;go_wp2;exact fin _ ((s.trans (r.mono s.size)).alloc (Nat.le_trans s.size r.size) _) y.out
    have L:(k2==a)=false:=by rw[beq_eq_false_iff_ne];exact D
    have y:=z (by rw[l,L,Bool.and_false]);have Z:(k2 !=a)=true:=by simpa using D
    subst B;replace y:=hd' y;clear l z fin;go_wp2_with fail;refine C.out.mono ?_;rintro e w3 ⟨rfl,r⟩;go_wp2;go_ret;exact⟨by rw[y];rfl,(o.trans (r.mono o.size)).alloc (Nat.le_trans o.size r.size) _⟩
   have J:(k1==4)=false:=by rw[beq_eq_false_iff_ne];exact B
   have y:=z (by rw[l,J,Bool.false_and]);have Y:(k1 !=4)=true:=by simpa using B
   replace y:=hd' y;clear l z fin;go_wp2_with fail;refine C.out.mono ?_;rintro e w3 ⟨rfl,r⟩;go_wp2;go_ret;exact⟨by rw[y];rfl,(o.trans (r.mono o.size)).alloc (Nat.le_trans o.size r.size) _⟩
  have V:i=N:=by omega
  subst V;clear b0;have hq:¬(a+1+(i:Int)<a+n):=by have:=I.out;omega
  go_wp2;go_ret;exact⟨by rw[<-R,M];rfl,o⟩
theorem yik(h:Hp)(v:Value)(a:Int)(w:World)(b:Bok w v h)(ha:0<=a/\a<h.p):
  Calls Tryz.prog 79 #[mF h v,a] w λe w'=>e=.returned (.bool (h.snd a))/\Below w.heap.size w w':=by
 obtain⟨b1,_,_,_⟩:=b.bd;obtain⟨ao,cap,hv,_,_,_⟩:=b.rd.cells;generalize h.xs.length=m at hv;subst hv;have I:=λX (L:Below w.heap.size w X)=>WG h (.slice ao m cap) a X (b.below L) ha;have b2:=λq X (L:Below w.heap.size w X) hq=>WG h (.slice ao m cap) q X (b.below L) hq;have b4:=λk X (L:Below w.heap.size w X)=>yii h (.slice ao m cap) a k X (b.below L) ha;have R:=λX (L:Below w.heap.size w X)=>yiz h (.slice ao m cap) a X (b.below L) ha;have b3:=λn X (L:Below w.heap.size w X) hn=>yjb h (.slice ao m cap) a n X (b.below L) ha hn;have M:=Hp.fO (h:=h) (a:=a);have N:=Hp.mR (h:=h) (a:=a);have b9:=h.EJ a
 have hs:h.snd a=if h.pb a=true then
  (if h.pk a=2 then h.sup a (h.pa a)
   else if h.pk a=3 then h.bare a&&h.rowB a (h.pa a)
   else if h.pk a=4 then h.bare a&&(h.pk (h.pa a)==1||(h.pk (h.pa a)==3&&decide (a<h.pa a+h.pa (h.pa a))))
   else if h.pk a=0 then h.bare a
   else true)
 else false:=rfl;generalize h.pk a=k1 at*;generalize h.pa a=r at*;generalize h.pn a=D at*;generalize h.pb a=kb at*;generalize h.bare a=bb at*;rw[hs];clear hs b;replace I:=hd' I;replace b2:=hd' b2;replace b4:=hd' b4;replace R:=hd' R;replace b3:=hd' b3;rcases jB kb with b0|b0;case inr=>subst b0;rw[jN Bool.false_ne_true];clear M N;go_in;go_wp2_with fail;refine(I _ (br.alloc lr _)).mono ?_;rintro e i ⟨rfl,l⟩;have j:Below w.heap.size w i:=((Below.refl w.heap.size w).alloc lr _).trans (l.mono (by simp));go_wp2;go_ret;exact⟨rfl,j.alloc j.size _⟩
 case inl=>
  subst b0;rw[jP rfl];by_cases q2:k1=2
  .rw[jP q2];subst q2;clear M N;go_in;go_wp2_with fail;refine(I _ (br.alloc lr _)).mono ?_;rintro e i ⟨rfl,l⟩;have j:Below w.heap.size w i:=((Below.refl w.heap.size w).alloc lr _).trans (l.mono (by simp));have g0:=(l.block _ (by simp)).trans (jA w (.cells #[h.p,h.c,h.m,.slice ao m cap] 115));have B:=jA i (.cells #[.int .i64 2,r,D] 136);have o:Below i.heap.size i (i.alloc (.cells #[.int .i64 2,r,D] 136)):=br.alloc lr _;have g0:=(o.block _ (jE g0)).trans g0;have s:Below w.heap.size w (i.alloc (.cells #[.int .i64 2,r,D] 136)):=j.trans (o.mono j.size);go_upto_region 2 with fail;obtain⟨H,hH,z⟩:=hidv w.heap.size;rw[<-z]at g0|-;clear z o j l;generalize i.heap.size=G at B|-;generalize i.alloc (.cells #[.int .i64 2,r,D] 136)=W at*;have c0:W.cell? ⟨H,0,.none⟩=some (.int .i64 h.p):=iA g0 0;have c1:W.cell? ⟨H,1,.none⟩=some (.int .i64 h.c):=iA g0 1;have c2:W.cell? ⟨H,2,.none⟩=some (.int .i64 h.m):=iA g0 2;have c3:W.cell? ⟨H,3,.none⟩=some (.slice ao m cap):=iA g0 3;have U:W.cell? ⟨G,0,.none⟩=some (.int .i64 2):=iA B 0;have Y:W.cell? ⟨G,1,.none⟩=some (.int .i64 r):=iA B 1;clear g0 B;go_wp2_with fail;refine(b4 r _ s).mono ?_;rintro e w2 ⟨rfl,y⟩;go_wp2;go_ret;exact⟨rfl,s.trans (y.mono s.size)⟩
  rw[jN q2];by_cases q3:k1=3
  .rw[jP q3];subst q3;have hk:=M (by simp);clear M N q2;have T:=λX L=>b3 r X L hk;generalize h.rowB a r=rb at*;replace T:=hd' T;go_in;go_wp2_with fail;refine(I _ (br.alloc lr _)).mono ?_;rintro e i ⟨rfl,l⟩;have j:Below w.heap.size w i:=((Below.refl w.heap.size w).alloc lr _).trans (l.mono (by simp));have g0:=(l.block _ (by simp)).trans (jA w (.cells #[h.p,h.c,h.m,.slice ao m cap] 115));have B:=jA i (.cells #[.int .i64 3,r,D] 136);have o:Below i.heap.size i (i.alloc (.cells #[.int .i64 3,r,D] 136)):=br.alloc lr _;have g0:=(o.block _ (jE g0)).trans g0;have s:Below w.heap.size w (i.alloc (.cells #[.int .i64 3,r,D] 136)):=j.trans (o.mono j.size);go_upto_region 2 with fail;obtain⟨H,hH,z⟩:=hidv w.heap.size;rw[<-z]at g0|-;clear z o j l;generalize i.heap.size=G at B|-;generalize i.alloc (.cells #[.int .i64 3,r,D] 136)=W at*;have c0:W.cell? ⟨H,0,.none⟩=some (.int .i64 h.p):=iA g0 0;have c1:W.cell? ⟨H,1,.none⟩=some (.int .i64 h.c):=iA g0 1;have c2:W.cell? ⟨H,2,.none⟩=some (.int .i64 h.m):=iA g0 2;have c3:W.cell? ⟨H,3,.none⟩=some (.slice ao m cap):=iA g0 3;have U:W.cell? ⟨G,0,.none⟩=some (.int .i64 3):=iA B 0;have Y:W.cell? ⟨G,1,.none⟩=some (.int .i64 r):=iA B 1;clear g0 B;go_wp2_with fail;refine(R _ s).mono ?_;rintro e w2 ⟨rfl,y⟩;have F:=s.trans (y.mono s.size);have c0:=kA y _ _ _ c0;have c1:=kA y _ _ _ c1;have c2:=kA y _ _ _ c2;have c3:=kA y _ _ _ c3;have U:=kA y _ _ _ U;have Y:=kA y _ _ _ Y;rcases jB bb with J|J
   .subst J;go_wp2_with fail;refine(T _ F).mono ?_;rintro e w3 ⟨rfl,C⟩;go_wp2;go_ret;exact⟨rfl,F.trans (C.mono F.size)⟩
   subst J;go_wp2;go_ret;exact⟨rfl,F⟩
  rw[jN q3];by_cases q4:k1=4
  .rw[jP q4];subst q4;have hk:=N (by simp);clear M N q2 q3;have S:=λX L=>b2 r X L (by omega);have b8:=h.EJ r;generalize h.pk r=Z at*;generalize h.pa r=j2 at*;generalize h.pn r=j3 at*;generalize h.pb r=jb at*;replace S:=hd' S;have wj:=wrp (r+j2);go_in;go_wp2_with fail;refine(I _ (br.alloc lr _)).mono ?_;rintro e i ⟨rfl,l⟩;have j:Below w.heap.size w i:=((Below.refl w.heap.size w).alloc lr _).trans (l.mono (by simp));have g0:=(l.block _ (by simp)).trans (jA w (.cells #[h.p,h.c,h.m,.slice ao m cap] 115));have B:=jA i (.cells #[.int .i64 4,r,D] 136);have o:Below i.heap.size i (i.alloc (.cells #[.int .i64 4,r,D] 136)):=br.alloc lr _;have g0:=(o.block _ (jE g0)).trans g0;have s:Below w.heap.size w (i.alloc (.cells #[.int .i64 4,r,D] 136)):=j.trans (o.mono j.size);go_upto_region 2 with fail;obtain⟨H,hH,z⟩:=hidv w.heap.size;rw[<-z]at g0|-;clear z o j l;generalize i.heap.size=G at B|-;generalize i.alloc (.cells #[.int .i64 4,r,D] 136)=W at*;have c0:W.cell? ⟨H,0,.none⟩=some (.int .i64 h.p):=iA g0 0;have c1:W.cell? ⟨H,1,.none⟩=some (.int .i64 h.c):=iA g0 1;have c2:W.cell? ⟨H,2,.none⟩=some (.int .i64 h.m):=iA g0 2;have c3:W.cell? ⟨H,3,.none⟩=some (.slice ao m cap):=iA g0 3;have U:W.cell? ⟨G,0,.none⟩=some (.int .i64 4):=iA B 0;have Y:W.cell? ⟨G,1,.none⟩=some (.int .i64 r):=iA B 1;clear g0 B;go_wp2_with fail;refine(S _ s).mono ?_;rintro e w2 ⟨rfl,y⟩;have C:=y.alloc y.size (.cells #[Z,j2,j3] 136);have g2:=jA w2 (.cells #[Z,j2,j3] 136);have F:=s.trans (C.mono s.size);have c0:=kA C _ _ _ c0;have c1:=kA C _ _ _ c1;have c2:=kA C _ _ _ c2;have c3:=kA C _ _ _ c3;have U:=kA C _ _ _ U;have Y:=kA C _ _ _ Y;go_upto_region 11 with fail;generalize w2.heap.size=K at g2|-;generalize w2.alloc (.cells #[Z,j2,j3] 136)=V at*;have r0:V.cell? ⟨K,0,.none⟩=some (.int .i64 Z):=iA g2 0;have r1:V.cell? ⟨K,1,.none⟩=some (.int .i64 j2):=iA g2 1;clear g2 C y;go_wp2_with fail;refine(R _ F).mono ?_;rintro e w3 ⟨rfl,E⟩;have O:=F.trans (E.mono F.size);have c0:=kA E _ _ _ c0;have c1:=kA E _ _ _ c1;have c2:=kA E _ _ _ c2;have c3:=kA E _ _ _ c3;have U:=kA E _ _ _ U;have Y:=kA E _ _ _ Y;have r0:=kA E _ _ _ r0;have r1:=kA E _ _ _ r1;rcases jB bb with J|J
   .subst J;by_cases x1:Z=1
    .subst x1;go_wp2;go_ret;exact⟨by rfl,O⟩
    have b6:(Z==1)=false:=by rw[beq_eq_false_iff_ne];exact x1
    by_cases x3:Z=3
    .subst x3;by_cases x4:a<r+j2
     .have b5:decide (a<r+j2)=true:=jT x4;go_wp2;go_ret;exact⟨by rw[b5];rfl,O⟩
     have b5:decide (a<r+j2)=false:=jF x4;go_wp2;go_ret;exact⟨by rw[b5];rfl,O⟩
    have b7:(Z==3)=false:=by rw[beq_eq_false_iff_ne];exact x3
    go_wp2;go_ret;exact⟨by rw[b6,b7];rfl,O⟩
   subst J;go_wp2;go_ret;exact⟨by rfl,O⟩
  rw[jN q4];clear M N;have y2:(k1==2)=false:=by rw[beq_eq_false_iff_ne];exact q2
  have y3:(k1==3)=false:=by rw[beq_eq_false_iff_ne];exact q3
  have y4:(k1==4)=false:=by rw[beq_eq_false_iff_ne];exact q4
  by_cases q0:k1=0
  .rw[jP q0];subst q0;go_in;go_wp2_with fail;refine(I _ (br.alloc lr _)).mono ?_;rintro e i ⟨rfl,l⟩;have j:Below w.heap.size w i:=((Below.refl w.heap.size w).alloc lr _).trans (l.mono (by simp));have g0:=(l.block _ (by simp)).trans (jA w (.cells #[h.p,h.c,h.m,.slice ao m cap] 115));have B:=jA i (.cells #[.int .i64 0,r,D] 136);have o:Below i.heap.size i (i.alloc (.cells #[.int .i64 0,r,D] 136)):=br.alloc lr _;have g0:=(o.block _ (jE g0)).trans g0;have s:Below w.heap.size w (i.alloc (.cells #[.int .i64 0,r,D] 136)):=j.trans (o.mono j.size);go_upto_region 2 with fail;obtain⟨H,hH,z⟩:=hidv w.heap.size;rw[<-z]at g0|-;clear z o j l;generalize i.heap.size=G at B|-;generalize i.alloc (.cells #[.int .i64 0,r,D] 136)=W at*;have c0:W.cell? ⟨H,0,.none⟩=some (.int .i64 h.p):=iA g0 0;have c1:W.cell? ⟨H,1,.none⟩=some (.int .i64 h.c):=iA g0 1;have c2:W.cell? ⟨H,2,.none⟩=some (.int .i64 h.m):=iA g0 2;have c3:W.cell? ⟨H,3,.none⟩=some (.slice ao m cap):=iA g0 3;have U:W.cell? ⟨G,0,.none⟩=some (.int .i64 0):=iA B 0;have Y:W.cell? ⟨G,1,.none⟩=some (.int .i64 r):=iA B 1;clear g0 B;go_wp2_with fail;refine(R _ s).mono ?_;rintro e w2 ⟨rfl,y⟩;go_wp2;go_ret;exact⟨rfl,s.trans (y.mono s.size)⟩
  rw[jN q0];have y0:(k1==0)=false:=by rw[beq_eq_false_iff_ne];exact q0
  go_in;go_wp2_with fail;refine(I _ (br.alloc lr _)).mono ?_;rintro e i ⟨rfl,l⟩;have j:Below w.heap.size w i:=((Below.refl w.heap.size w).alloc lr _).trans (l.mono (by simp));have g0:=(l.block _ (by simp)).trans (jA w (.cells #[h.p,h.c,h.m,.slice ao m cap] 115));have B:=jA i (.cells #[k1,r,D] 136);have o:Below i.heap.size i (i.alloc (.cells #[k1,r,D] 136)):=br.alloc lr _;have g0:=(o.block _ (jE g0)).trans g0;have s:Below w.heap.size w (i.alloc (.cells #[k1,r,D] 136)):=j.trans (o.mono j.size);go_upto_region 2 with fail;obtain⟨H,hH,z⟩:=hidv w.heap.size;rw[<-z]at g0|-;clear z o j l;generalize i.heap.size=G at B|-;generalize i.alloc (.cells #[k1,r,D] 136)=W at*;have c0:W.cell? ⟨H,0,.none⟩=some (.int .i64 h.p):=iA g0 0;have c1:W.cell? ⟨H,1,.none⟩=some (.int .i64 h.c):=iA g0 1;have c2:W.cell? ⟨H,2,.none⟩=some (.int .i64 h.m):=iA g0 2;have c3:W.cell? ⟨H,3,.none⟩=some (.slice ao m cap):=iA g0 3;have U:W.cell? ⟨G,0,.none⟩=some (.int .i64 k1):=iA B 0;have Y:W.cell? ⟨G,1,.none⟩=some (.int .i64 r):=iA B 1;clear g0 B;go_wp2;go_ret;exact⟨rfl,s⟩
end Go.Proofs.YtkilokkopbajkaaGreat
