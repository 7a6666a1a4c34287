/- Texts bound together: EdgeS AudB AudU. -/
import Derived.Deep.Onto

import Derived.Test.YtkbddndcegpllaaGreatBt25

import Derived.Test.YtkbddndcegpllaaGreatBt31

import Derived.Test.YtkbddndcegpllaaGreatBt18

set_option linter.all false
set_option maxHeartbeats 8000000
set_option maxRecDepth 100000
namespace Go.Proofs.YtkbddndcegpllaaGreat

section

open Go.RowKit Fl

theorem yed(x:Nat):(FloatKind.f64.format.order x 4607182418800017408==some .gt||FloatKind.f64.format.order x 4607182418800017408==some .eq)=(!nan x&&decide ((ONE:Int)<=iv x)):=by
 have b:=gtxy x ONE;have f:=eqxy x ONE;unfold ONE at b f;rw[b,f];show (gtB x ONE||eqB x ONE)=_;unfold gtB eqB;rw[yaf,yfe];cases nan x
 ·simp only[Bool.not_false,Bool.true_and];rw[Bool.eq_iff_iff];simp only[Bool.or_eq_true,decide_eq_true_eq];omega
 rfl
theorem z4a(x:Nat)(n:Int)(C: -9223372036854775808<=n)(z:n<=9223372036854775807)(w:World):Calls Tryz.prog 141 #[F64 x,n] w fun e w'=>e= .returned (.int .i64 (zdr x n))/\w'=w:=by
 have j:=lt0 x;have i:=yed x;have b:=zst (x:=x);unfold zdr;by_cases B:n<1
 ·rw[if_pos (.inl B)];clear j i b;go_in;go_wp2_with (go_at_call 167;refine(zhn _ _).mono ?_;rintro e s ⟨rfl,rfl⟩);go_ret;exact⟨rfl,rfl⟩
 cases h2:nan x
 ·have q:zg4 x≠0:=fun h=>by rw[b.1 h]at h2;cases h2
  have y:(zg4 x==0)=false:=by simpa using q
  rw[h2]at j i;by_cases l:iv x<0
  ·rw[if_pos (.inr (.inr l))];rw[decide_eq_true l]at j;clear i b l;go_in;go_wp2_with (go_at_call 167;refine(zhn _ _).mono ?_;rintro e s ⟨rfl,rfl⟩);go_ret;exact⟨rfl,rfl⟩
  rw[if_neg (by simp only[Bool.false_eq_true,false_or,not_or];exact⟨B,l⟩)];rw[decide_eq_false l]at j;by_cases m:(ONE:Int)<=iv x
  ·rw[if_pos m];rw[decide_eq_true m]at i;clear b l m;go_in;go_wp2_with (go_at_call 167;refine(zhn _ _).mono ?_;rintro e s ⟨rfl,rfl⟩);go_ret;exact⟨rfl,rfl⟩
  rw[if_neg m];rw[decide_eq_false m]at i;obtain⟨r,p,o,E⟩:=zye (x:=x) (n:=n) (by omega) z (by omega) (by omega);generalize (T (zi8 (rung x) (R n.natAbs 0)):Int)=t at *;have D:=fun w:World=>run_float_arith (P:=Tryz.prog) w .mul 33 .f64 _ _ r p;have hc:=fun w:World=>run_convert_float_int (P:=Tryz.prog) w 33 3 .f64 .i64 r t (by kernel_rfl) Tryz.underlying3 o;clear b l m p o;go_in;go_wp2_with (go_at_call 167;refine(zhn _ _).mono ?_;rintro e s ⟨rfl,rfl⟩);all_goals go_ret
  all_goals refine⟨zf5 ?_,rfl⟩
  all_goals omega
 have q:zg4 x=0:=b.2 h2;have y:(zg4 x==0)=true:=by simpa using q
 rw[if_pos (.inr (.inl rfl))];clear j i b q;go_in;go_wp2_with (go_at_call 167;refine(zhn _ _).mono ?_;rintro e s ⟨rfl,rfl⟩);go_ret;exact⟨rfl,rfl⟩
end

section

open Go.RowKit

attribute [local go_sem ↓] Go.wp_at_zero Go.wp_at_succ

attribute [local go_sem ↓] zhk zh6

theorem Bk.oneC(b:Bk):∀ u ∈ b.cells,u.oneCell'=true:=by
 intro u hu;simp only[Bk.cells,List.mem_cons,List.not_mem_nil,or_false]at hu;rcases hu with rfl|rfl<;>rfl
def Hp.slB (h:Hp) (a:Int):Nat->List Bk
 | 0=> []
 | i + 1=> h.slB a i ++ (if h.sk a i=3 then [⟨a * 64 + i * zbj (h.pa a),zbj (h.pa a)⟩] else [])
def Hp.pgB (h:Hp) (a:Int):List Bk:=
 if h.pk a=3 then [⟨a * 64,h.pa a * 64⟩] else if h.pk a=2 then h.slB a (zah (h.pa a)).toNat else []
def Hp.blT (h:Hp):Nat->List Bk
 | 0=> []
 | k + 1=> h.blT k ++ h.pgB k
def Hp.bl (h:Hp):List Bk:=if h.ok=true then h.blT h.p.toNat else []
theorem Hp.yio(h:Hp)(a:Int)(i:Nat):(h.slB a i).length<=i:=by
 induction i with
 |zero=>exact Nat.le_refl _;|succ i b=>unfold Hp.slB;rw[List.length_append];split<;>simp<;>omega
theorem Hp.yi8(h:Hp)(a:Int):(h.pgB a).length<=16:=by
 unfold Hp.pgB;have hb:=zcy (h.pa a);split
 ·simp
 split
 ·have:=h.yio a (zah (h.pa a)).toNat;omega
 simp
theorem Hp.yjd(h:Hp)(k:Nat):(h.blT k).length<=16*k:=by
 induction k with
 |zero=>exact Nat.le_refl _;|succ k b=>unfold Hp.blT;rw[List.length_append];have:=h.yi8 k;omega
theorem own_below{w w':World}{B:Nat}{E:TypeId}{size:Nat}{v:Value}{n:Nat}{xs:List Value}(h:w.ownsRow B E size v n xs)(hb:Below w.heap.size w w'):w'.ownsRow B E size v n xs:=
 zas h fun k b=>hb.block k (h.lt k b).2
theorem yhv(l:List Bk)(b:Bk):yhg (l++[b])=yhg l++b.cells:=by rw[yhj];simp[yhg]
theorem yh7{w w':World}{g:Nat}(h:w'.heap[g]?=w.heap[g]?)(o:Nat):w'.cell? ⟨g,o,.none⟩=w.cell? ⟨g,o,.none⟩:=by
 simp only[World.cell?,h]
theorem infoTw:(Tryz.prog.info? 47).map (fun i=>(i.zero,i.size,i.bytes))=some (some (.agg #[.int .i64 0,.int .i64 0]),2,16):=by kernel_rfl
theorem yjc(h:Hp)(v:Value)(w:World)(hr:RdZ .u64 w v h.xs)(hf:h.fit):
  Calls Tryz.prog 20 #[shV h,v] w fun e w'=>∃ v',e= .returned v'/\Below w.heap.size w w'/\w'.ownsRow w.heap.size 47 2 v' h.bl.length (yhg h.bl):=by
 obtain⟨ao,cap,hv,_,_,_⟩:=hr.cells;generalize h.xs.length=m at hv;subst hv;have D:=fun X hX=>z5c h (.slice ao m cap) X (hr.below (w':=X) hX);have b1:=(Below.refl w.heap.size w).alloc lr (.cells #[h.p,h.c,h.m] 23);have b7:h.bl=if h.ok=true then h.blT h.p.toNat else []:=rfl;obtain⟨i0,c7,ca,cb,cc⟩:=info_parts infoTw;rcases Bool.eq_false_or_eq_true h.ok with B|B;case inr=>rw[B]at D;rw[b7,B,if_neg Bool.false_ne_true];clear b7 B;replace D:=hd' D;go_in;go_wp2_with fail;refine(D.out _ b1).mono ?_;rintro e w1 ⟨rfl,R⟩;have hB:=b1.trans (R.mono b1.size);go_wp2;go_ret;exact⟨_,rfl,hB.alloc hB.size _,⟨rfl,.inl ⟨rfl,rfl⟩⟩⟩
 case inl=>
  have b:Bok w (.slice ao m cap) h:=⟨B,hr,hf⟩;obtain⟨bp,_,_,_⟩:=b.bd;rw[B]at D;rw[b7,B,if_pos rfl];have bn:=fun a X (hX:Below w.heap.size w X) ha=>zpo h (.slice ao m cap) a X (b.below hX) ha;have bq:=fun a i X (hX:Below w.heap.size w X) ha hi=>z7y h (.slice ao m cap) a i X (b.below hX) ha hi;obtain⟨P,hP⟩:∃ P:Nat,Hid (h.p=P):=⟨h.p.toNat,hd' (by omega)⟩;have c4:h.p.toNat=P:=by have:=hP.out;omega
  rw[c4];have s:=fun a=>Hp.yji (h:=h) (a:=a);have F:=fun a=>Hp.ygf (h:=h) (a:=a);have c9:Hid (∀ a,h.pb a=false->h.pk a=0):=hd' fun a hb=>by unfold Hp.pk;rw[hb,if_neg Bool.false_ne_true]
  have ch:Hid (h.blT 0= []):=hd' rfl;have ck:Hid (∀ k:Nat,h.blT (k+1)=h.blT k++h.pgB k):=hd' fun _=>rfl;have cj:Hid (∀ k:Nat,(h.blT k).length<=16*k):=hd' h.yjd;have hG:Hid (∀ a,h.pgB a=if h.pk a=3 then [⟨a*64,h.pa a*64⟩] else if h.pk a=2 then h.slB a (zah (h.pa a)).toNat else []):=hd' fun _=>rfl;have cd:Hid (∀ a,h.slB a 0= []):=hd' fun _=>rfl;have cg:Hid (∀ a (i:Nat),h.slB a (i+1)=h.slB a i++(if h.sk a i=3 then [⟨a*64+i*zbj (h.pa a),zbj (h.pa a)⟩] else [])):=hd' fun _ _=>rfl;have cf:Hid (∀ a (i:Nat),(h.slB a i).length<=i):=hd' h.yio;replace D:=hd' D;replace bn:=hd' bn;replace bq:=hd' bq;replace s:=hd' s;replace F:=hd' F;clear b7 B c4 b;go_in;go_wp2_with fail;refine(D.out _ b1).mono ?_;rintro e w1 ⟨rfl,R⟩;have bf:=b1.trans (R.mono b1.size);have hB:=bf.alloc bf.size (.cells #[h.p,h.c,h.m,.slice ao m cap] 124);have S:=R.alloc R.size (.cells #[h.p,h.c,h.m,.slice ao m cap] 124);have r0:=(S.block _ (by simp)).trans (heap_alloc_new w (.cells #[h.p,h.c,h.m] 23));have r3:=heap_alloc_new w1 (.cells #[h.p,h.c,h.m,.slice ao m cap] 124);go_upto_region 2 with fail;obtain⟨H,hH,bx⟩:=hidv w.heap.size;obtain⟨K,hK,bz⟩:=hidv w1.heap.size;rw[<-bz]at r3 ⊢;rw[<-bx]at r0 ⊢;clear bz bx R S bf;generalize w1.alloc (.cells #[h.p,h.c,h.m,.slice ao m cap] 124)=W at *;have cy:=zac r0;have k0:W.cell? ⟨K,0,.none⟩=some (.int .i64 h.p):=zac r3 0;have k1:W.cell? ⟨K,1,.none⟩=some (.int .i64 h.c):=zac r3 1;have k2:W.cell? ⟨K,2,.none⟩=some (.int .i64 h.m):=zac r3 2;have k3:W.cell? ⟨K,3,.none⟩=some (.slice ao m cap):=zac r3 3;have e0:=hB.size;clear r0 r3;go_wp2_with fail;go_loopw [7,22] (fun vl vi wr=>∃ i:Nat,i<=P/\vi= .int .i64 i/\Below W.heap.size W wr/\wr.ownsRow W.heap.size 47 2 vl (h.blT i).length (yhg (h.blT i))) (fun _ vi _=>P-(intOf vi).toNat);case atStart=>exact⟨0,Nat.zero_le _,rfl,Below.refl _ _,by rw[ch.out];exact⟨rfl,.inl ⟨rfl,rfl⟩⟩⟩
  case round=>
   obtain⟨i,hi,rfl,y,b2⟩:=hrel;have d0:=zai y _ _ _ k0;have d1:=zai y _ _ _ k1;have d2:=zai y _ _ _ k2;have d3:=zai y _ _ _ k3;have bg:=hB.trans (y.mono hB.size);by_cases e7:(i:Int)<h.p
   ·have e1:i<P:=by have:=hP.out;omega
    have c8:0<=(i:Int)/\(i:Int)<h.p:=by omega
    have E:=ck.out i;rw[hG.out]at E;have hL:=cj.out i;have b8:=bn.out i wr bg c8;have x3:=s.out i;have x2:=F.out i;have x0:=c9.out i;have bs:=fun j X hX hj=>bq.out i j X hX c8 hj;have y0:=cd.out i;have yS:=cg.out i;have yL:=cf.out i;generalize h.blT i=L at *;generalize T:L.length=n at *;generalize h.pk i=pk at *;generalize h.pa i=pa at *;generalize h.pn i=pn at *;generalize h.pb i=pb at *;replace b8:=hd' b8;replace bs:=hd' bs;replace y0:=hd' y0;replace yS:=hd' yS;replace yL:=hd' yL;replace E:=hd' E;replace x0:=hd' x0;replace x2:=hd' x2;replace x3:=hd' x3;replace T:=hd' T
    have fin:Hid (∀ X v l,Below W.heap.size W X->X.ownsRow W.heap.size 47 2 v l.length (yhg l)->h.blT (i+1)=l->∃ j:Nat,j<=P/\Value.int .i64 ((i:Int)+1)= .int .i64 j/\Below W.heap.size W X/\X.ownsRow W.heap.size 47 2 v (h.blT j).length (yhg (h.blT j))):=
     hd' fun X v l hb ho e=>⟨i+1,by omega,by go_num,hb,by rw[e];exact ho⟩
    go_wp2_with fail;refine b8.out.mono ?_;rintro e w2 ⟨rfl,S⟩;have Z:=y.trans (S.mono y.size);have J:=Z.alloc Z.size (.cells #[pk,pa,pn] 128);have b4:=own_below b2 S;have O:=b4.alloc (.cells #[pk,pa,pn] 128);have g3:=heap_alloc_new w2 (.cells #[pk,pa,pn] 128);have bj:u7.ownBlock≠some w2.heap.size:=fun e=>by have:=(b4.lt _ e).2;omega
    go_upto_region 9 with fail;clear b2 S Z b4 d0 d1 d2 d3 b8 y bg;generalize w2.heap.size=G at g3 bj ⊢;generalize w2.alloc (.cells #[pk,pa,pn] 128)=V at *;have p0:V.cell? ⟨G,0,.none⟩=some (.int .i64 pk):=zac g3 0;have p1:V.cell? ⟨G,1,.none⟩=some (.int .i64 pa):=zac g3 1;have lG:=(Array.getElem?_eq_some_iff.1 g3).1;have cl:=J.size;clear g3;by_cases s:pk=3
    ·subst s;have bm:pb=true:=by
      rcases Bool.eq_false_or_eq_true pb with hp|hp
      ·exact hp
      exact absurd (x0.out hp) (by omega)
     subst bm;obtain⟨a1,a2,a3⟩:=x3.out rfl;have m1:IntKind.i64.wrap ((i:Int)*64)=(i:Int)*64:=IntWalk.i64_in _ ⟨by omega,by omega⟩;have m2:=wrp (pa*64);go_wp2_with (refine zay rfl (.tmp 34) (.tmp 41) 41 rfl W.heap.size 47 i0 _ 2 16 Tryz.underlying41 c7 ca cb cc rfl (by omega) _ n (yhg L) rfl (O.alloc _) _ 1 (Bk.cells ⟨(i:Int)*64,pa*64⟩) rfl (RdS.new (cs:=(Bk.cells ⟨(i:Int)*64,pa*64⟩).toArray) (t:=47) (sz:=2) (n:=1) (heap_alloc_new V _) rfl (by omega)) (Bk.oneC _) (by simp only[maxLen];omega) (by omega) (by simp;omega) ?_;intro v1 w1 I o bc;have c5:=zaw (J.alloc cl _) (O.alloc _) (by simp;omega) o;have q0:=(yh7 (o.block G (by simp;omega) (fun e=>bj e.symm)) 0).trans (zai ((Below.refl V.heap.size V).alloc lr _) _ _ _ p0));refine⟨fin.out _ _ (L++[⟨(i:Int)*64,pa*64⟩]) c5 ?_ ?_,by simp[intOf];omega⟩
     ·rw[yhv,List.length_append,List.length_singleton,T.out];exact I
     exact E.out
    by_cases F:pk=2
    ·subst F;have bm:pb=true:=by
      rcases Bool.eq_false_or_eq_true pb with hp|hp
      ·exact hp
      exact absurd (x0.out hp) (by omega)
     subst bm;obtain⟨a1,a2⟩:=x2.out rfl;have ba:=slots_any pa;have bu:=zgq pa;have cv:=zcy pa;have e9:=znt pa;have bh:=fun (j:Int) X (hj:0<=j/\j<=16)=>zug i j pa X (by omega) hj;have hT:=E.out;rw[if_neg s,if_pos rfl]at hT;obtain⟨q,hq⟩:∃ q:Nat,zah pa=q:=⟨(zah pa).toNat,by omega⟩;rw[hq]at ba cv hT;rw[Int.toNat_natCast]at hT;generalize zbj pa=z at *;replace ba:=hd' ba;replace bu:=hd' bu;replace bh:=hd' bh;replace hT:=hd' hT;clear E x0 x2 x3 s hq;go_wp2_with fail;refine(ba.out _).mono ?_;rintro e w3 ⟨rfl,hw⟩;obtain rfl:=hw.symm;clear hw;obtain⟨Wr,rfl⟩:∃ V:World,V=wr:=⟨_,rfl⟩;go_wp2_with fail;go_loopw [7,49] (fun vl vj wr=>∃ j:Nat,j<=q/\vj= .int .i64 j/\Below W.heap.size W wr/\wr.ownsRow W.heap.size 47 2 vl (n+(h.slB i j).length) (yhg (L++h.slB i j))/\wr.cell? ⟨G,1,.none⟩=some (.int .i64 pa)/\G<wr.heap.size/\vl.ownBlock≠some G) (fun _ vj _=>q-(intOf vj).toNat);case atStart=>exact⟨0,Nat.zero_le _,rfl,J,by rw[y0.out,List.append_nil];exact O,p1,lG,bj⟩
     case round=>
      obtain⟨j,hj,rfl,r,bv,r1,lq,bk⟩:=hrel;by_cases e6:j<q
      ·have d0:=zai r _ _ _ k0;have d1:=zai r _ _ _ k1;have d2:=zai r _ _ _ k2;have d3:=zai r _ _ _ k3;have bw:=hB.trans (r.mono hB.size);have b9:=bs.out j wr bw (by omega);have b3:=yS.out j;have cz:=yL.out j;have ea:=zk3 (c:=(j:Int)) (m:=z) (C:=16) (M:=32) (by omega) (by omega);have cp:0<=(j:Int)/\(j:Int)<=16:=by omega
       have U:=fun X=>bh.out j X cp;generalize h.sk i j=k4 at *;generalize h.sa i j=k5 at *;generalize h.slB i j=M at *;generalize b6:M.length=mm at *;generalize (i:Int)*64+(j:Int)*z=ad at *;replace b9:=hd' b9;replace b3:=hd' b3;replace U:=hd' U;replace b6:=hd' b6
       have bb:Hid (∀ X v l,Below W.heap.size W X->X.ownsRow W.heap.size 47 2 v (n+l.length) (yhg (L++l))->h.slB i (j+1)=l->X.cell? ⟨G,1,.none⟩=some (.int .i64 pa)->G<X.heap.size->v.ownBlock≠some G->∃ k:Nat,k<=q/\Value.int .i64 ((j:Int)+1)= .int .i64 k/\Below W.heap.size W X/\X.ownsRow W.heap.size 47 2 v (n+(h.slB i k).length) (yhg (L++h.slB i k))/\X.cell? ⟨G,1,.none⟩=some (.int .i64 pa)/\G<X.heap.size/\v.ownBlock≠some G):=
        hd' fun X v l hb ho e c lx hn=>⟨j+1,by omega,by go_num,hb,by rw[e];exact ho,c,lx,hn⟩
       go_wp2_with fail;refine b9.out.mono ?_;rintro e w5 ⟨rfl,Y⟩;have b5:=own_below bv Y;have b0:=r.trans (Y.mono r.size);have r5:=zai Y _ _ _ r1;have e8:=Y.size;have cu:=b0.size;clear d0 d1 d2 d3 bw bv r r1 Y;by_cases bi:k4=3
       ·subst bi;have N:=b3.out;rw[if_pos rfl]at N;replace N:=hd' N;clear b3 b9;go_upto_region 16 with fail
        go_region_held3 (fun w'=>w'.cell? ⟨G,1,.none⟩=some (.int .i64 pa)) (first|go_keep|exact q1)
         (first|(go_at_call 67;(with_reducible refine(U.out _).mono ?_);rintro e w6 ⟨rfl,rfl⟩)|(go_at_call 68;(with_reducible refine(bu.out _).mono ?_);rintro e w6 ⟨rfl,rfl⟩)|(refine zbg (by rfl) (.tmp 58) (.tmp 68) 41 (by rfl) W.heap.size 47 i0 _ 2 16 Tryz.underlying41 c7 ca cb cc rfl (by omega) _ (n+mm) (yhg (L++M)) (by rfl) ((b5.alloc _).drew) _ 1 (Bk.cells ⟨ad,z⟩) (by rfl) (RdS.new (cs:=(Bk.cells ⟨ad,z⟩).toArray) (t:=47) (sz:=2) (n:=1) (heap_alloc_new w5 _) rfl (by omega)) (Bk.oneC _) (by simp only[maxLen];omega) (by omega) (by simp;omega) ?_;intro v1 w1 I o bc;have c6:=zaw ((b0.alloc cu _).drew) ((b5.alloc _).drew) (by simp;omega) o;have q1:=(yh7 (o.block G (by simp;omega) (fun e=>bk e.symm)) 1).trans (zai ((Below.refl w5.heap.size w5).alloc lr _) _ _ _ r5);have cx:G<w1.heap.size:=zqe q1;have cr:v1.ownBlock≠some G:=(fun e=>by rcases bc with h|h;exact bk (h.symm.trans e);(have:=h.symm.trans e;injection this with this;simp at this;omega))))
        go_wp2;refine⟨bb.out _ _ (M++[⟨ad,z⟩]) c6 ?_ N.out q1 cx cr,by simp[intOf];omega⟩;rw[<-List.append_assoc,yhv,List.length_append,List.length_singleton,b6.out,<- Nat.add_assoc];exact I
       have e4:(k4==3)=false:=by rw[beq_eq_false_iff_ne];exact bi
       go_wp2;refine⟨bb.out _ _ M b0 (by rw[b6.out];exact b5) ?_ r5 (by omega) bk,by simp[intOf];omega⟩;have:=b3.out;rw[if_neg bi,List.append_nil]at this;exact this
      have cq:j=q:=by omega
      subst cq;have e5:¬ ((j:Int)<(j:Int)):=by omega
      go_wp2;refine⟨fin.out _ _ (L++h.slB i j) r ?_ hT.out,by simp[intOf];omega⟩;rw[List.length_append,T.out];exact bv
    have e3:(pk==3)=false:=by rw[beq_eq_false_iff_ne];exact s
    have e2:(pk==2)=false:=by rw[beq_eq_false_iff_ne];exact F
    go_wp2_with fail;refine⟨fin.out _ _ L J ?_ ?_,by simp[intOf];omega⟩
    ·rw[T.out];exact O
    have:=E.out;rw[if_neg s,if_neg F,List.append_nil]at this;exact this
   have cm:i=P:=by have:=hP.out;omega
   subst cm;go_wp2;go_ret;exact⟨_,rfl,bg,World.ownsRow.mono b2 (by omega)⟩
end

section

open Go.RowKit

attribute [local go_sem ↓] Go.wp_at_zero Go.wp_at_succ

def Hp.yht (h:Hp) (a:Int):Nat->Bool
 | 0=> true
 | i + 1=> h.yht a i && h.sw a i==0
def Hp.bare (h:Hp) (a:Int):Bool:=h.yht a 16
def Hp.okS (h:Hp) (a k i:Int):Bool:=if i < zah k then (h.sk a i==2 && decide (h.sa a i < h.c)) || ((h.sk a i==1 || h.sk a i==3) && h.sa a i==k) else h.sw a i==0
def Hp.supT (h:Hp) (a k:Int):Nat->Bool
 | 0=> true
 | i + 1=> h.supT a k i && h.okS a k i
def Hp.sup (h:Hp) (a k:Int):Bool:=h.supT a k 16
def Hp.rowT (h:Hp) (a:Int):Nat->Bool
 | 0=> true
 | i + 1=> h.rowT a i && (h.pk (a + 1 + i)==4 && h.pa (a + 1 + i)==a)
def Hp.rowB (h:Hp) (a n:Int):Bool:=h.rowT a (n - 1).toNat
def Hp.snd (h:Hp) (a:Int):Bool:=
 if h.pb a=true then
  (if h.pk a=2 then h.sup a (h.pa a)
   else if h.pk a=3 then h.bare a && h.rowB a (h.pa a)
   else if h.pk a=4 then h.bare a && (h.pk (h.pa a)==1 || (h.pk (h.pa a)==3 && decide (a < h.pa a + h.pa (h.pa a))))
   else if h.pk a=0 then h.bare a
   else true)
 else false
def Hp.sndT (h:Hp):Nat->Bool
 | 0=> true
 | i + 1=> h.sndT i && h.snd i
theorem Hp.yjo(h:Hp){n:Nat}(j:h.sndT n=true):∀ i,i<n->h.snd (i:Nat)=true:=by
 induction n with
 |zero=>intro i hi;omega;|succ n l=>
  intro i hi;have b:(h.sndT n&&h.snd n)=true:=j;rw[Bool.and_eq_true]at b;rcases Nat.lt_or_ge i n with f|f
  ·exact l b.1 i f
  have:i=n:=by omega
  subst this;exact b.2
def Hp.sound (h:Hp):Bool:=h.ok && h.sndT h.p.toNat
theorem Hp.snd_pb{h:Hp}{a:Int}(hs:h.snd a=true):h.pb a=true:=by
 unfold Hp.snd at hs;split at hs
 ·assumption
 cases hs
theorem Hp.rowT_get{h:Hp}{a:Int}{n:Nat}(hs:h.rowT a n=true):∀ i:Nat,i<n->h.pk (a+1+i)=4/\h.pa (a+1+i)=a:=by
 induction n with
 |zero=>intro i hi;omega;|succ n j=>
  intro i hi;have b:(h.rowT a n&&(h.pk (a+1+n)==4&&h.pa (a+1+n)==a))=true:=hs;simp only[Bool.and_eq_true,beq_iff_eq]at b;rcases Nat.lt_or_ge i n with f|f
  ·exact j b.1 i f
  have:i=n:=by omega
  subst this;exact b.2
theorem okK.widen{W W':Int}(f:W<=W'){l:List Bk}:∀ {lo:Int},okK W lo l->okK W' lo l:=by
 induction l with
 |nil=>exact fun h=>Int.le_trans h f
 |cons b l i=>exact fun h=>⟨h.1,h.2.1,i h.2.2⟩
theorem okK.append{W M:Int}{l k:List Bk}(f:okK W M k):∀ {lo:Int},okK M lo l->okK W lo (l++k):=by
 induction l with
 |nil=>exact fun h=>f.mono h
 |cons b l i=>exact fun h=>⟨h.1,h.2.1,i h.2.2⟩
theorem Hp.mem_slB{h:Hp}{a:Int}{q:Nat}{b:Bk}:b ∈ h.slB a q↔∃ i:Nat,i<q/\h.sk a i=3/\b=⟨a*64+i*zbj (h.pa a),zbj (h.pa a)⟩:=by
 induction q with
 |zero=>simp[Hp.slB];|succ q n=>
  unfold Hp.slB;rw[List.mem_append,n];constructor
  ·rintro(⟨i,j,f,l⟩|j)
   ·exact⟨i,by omega,f,l⟩
   split at j
   ·rename_i f;exact⟨q,by omega,f,by simpa using j⟩
   simp at j
  rintro⟨i,j,f,l⟩;rcases Nat.lt_or_ge i q with m|m
  ·exact .inl ⟨i,m,f,l⟩
  have:i=q:=by omega
  subst this;right;rw[if_pos f];simp[l]
theorem Hp.mem_blT{h:Hp}{k:Nat}{b:Bk}:b ∈ h.blT k↔∃ a:Nat,a<k/\b ∈ h.pgB a:=by
 induction k with
 |zero=>simp[Hp.blT];|succ k l=>
  unfold Hp.blT;rw[List.mem_append,l];constructor
  ·rintro(⟨a,i,f⟩|i)
   ·exact⟨a,by omega,f⟩
   exact⟨k,by omega,i⟩
  rintro⟨a,i,f⟩;rcases Nat.lt_or_ge a k with j|j
  ·exact .inl ⟨a,j,f⟩
  have:a=k:=by omega
  subst this;exact .inr f
theorem Hp.slB_ok{h:Hp}{a:Int}(f:1<=zbj (h.pa a))(q:Nat):okK (a*64+q*zbj (h.pa a)) (a*64) (h.slB a q):=by
 induction q with
 |zero=>show a*64<=a*64+((0:Nat):Int)*_;simp;|succ q b=>
  unfold Hp.slB;have e:((q+1:Nat):Int)*zbj (h.pa a)=q*zbj (h.pa a)+zbj (h.pa a):=by rw[Int.natCast_add,Int.add_mul];simp
  rw[e];split
  ·refine okK.append (M:=a*64+q*zbj (h.pa a)) ?_ b;exact⟨Int.le_refl _,f,by show _+_<=_;simp only;omega⟩
  rw[List.append_nil];exact b.widen (by omega)
theorem Hp.row_of{h:Hp}{a:Int}(hs:h.snd a=true)(b:h.pk a=3):(1<=h.pa a/\h.pa a<=8/\h.pa a<=h.p-a)/\∀ q:Int,a<q->q<a+h.pa a->h.pk q=4/\h.pa q=a:=by
 have i:=Hp.snd_pb hs;refine⟨Hp.yji (by rw[i,b];rfl),fun q j l=>?_⟩;unfold Hp.snd at hs;rw[if_pos i,if_neg (by rw[b];decide),if_pos b,Bool.and_eq_true]at hs;have f:=Hp.rowT_get hs.2 (q-a-1).toNat (by omega);rw[show a+1+((q-a-1).toNat:Int)=q by omega]at f;exact f
theorem Hp.sup_of{h:Hp}{a:Int}(hs:h.snd a=true)(m:h.pk a=2):∃ z q:Nat,zbj (h.pa a)=z/\zah (h.pa a)=q/\1<=z/\z*q=64:=by
 have n:=Hp.snd_pb hs;have f:=Hp.ygf (h:=h) (a:=a) (by rw[n,m];rfl);have b:=zzh f;have p:=znt (h.pa a);have o:=zcy (h.pa a);obtain⟨z,l⟩:∃ z:Nat,zbj (h.pa a)=z:=⟨(zbj (h.pa a)).toNat,by omega⟩;obtain⟨q,j⟩:∃ q:Nat,zah (h.pa a)=q:=⟨(zah (h.pa a)).toNat,by omega⟩;rw[l,j]at b;have i:z*q=64:=by exact_mod_cast b
 refine⟨z,q,l,j,?_,i⟩;rcases Nat.eq_zero_or_pos z with e|e
 ·subst e;omega
 exact e
def Hp.en (h:Hp):Nat->Int
 | 0=> 0
 | k + 1=> if h.pk k=3 then k + h.pa k else max (h.en k) (k + 1)
theorem Hp.blT_ok{h:Hp}{P:Nat}(L:h.p=P)(hs:∀ i:Nat,i<P->h.snd i=true)(k:Nat)(N:k<=P):
  okK (64*h.en k) 0 (h.blT k)/\(k:Int)<=h.en k/\h.en k<=P/\∀ q:Int,k<=q->q<h.en k->h.pk q=4:=by
 induction k with
 |zero=>exact⟨Int.le_refl 0,Int.le_refl 0,by show (0:Int)<=P;omega,fun q J f=>by have:h.en 0=0:=rfl;omega⟩;|succ k H=>
  obtain⟨n,O,R,y⟩:=H (by omega);have j:=hs k (by omega);have l:h.pk k≠4->h.en k=k:=fun D=>by false_or_by_contra;exact D (y k (Int.le_refl _) (by omega))
  unfold Hp.blT Hp.pgB Hp.en;by_cases b:h.pk k=3
  ·rw[if_pos b,if_pos b];have o:=l (by rw[b];decide);obtain⟨I,B⟩:=Hp.row_of j b;refine⟨?_,by omega,by omega,fun q C t=>(B q (by omega) t).1⟩;rw[o]at n;have m:okK (64*((k:Int)+h.pa k)) (64*k) [⟨(k:Int)*64,h.pa k*64⟩]:=⟨by show 64*(k:Int)<=k*64;omega,by show 1<=h.pa k*64;omega,by show (k:Int)*64+h.pa k*64<=_;omega⟩;exact okK.append m n
  rw[if_neg b,if_neg b];refine⟨?_,by omega,by omega,fun q C t=>y q (by omega) (by omega)⟩;by_cases f:h.pk k=2
  ·rw[if_pos f];have o:=l (by rw[f];decide);obtain⟨z,q,F,E,G,s⟩:=Hp.sup_of j f;have r:=Hp.slB_ok (h:=h) (a:=k) (by omega) q;rw[F]at r;have e:(q:Int)*z=64:=by rw[Int.mul_comm];exact_mod_cast s
   rw[e]at r;rw[E,Int.toNat_natCast];rw[o]at n ⊢;exact okK.append (M:=64*k) ((r.mono (by omega)).widen (by omega)) n
  rw[if_neg f,List.append_nil];exact n.widen (by omega)
theorem Hp.sound_all{h:Hp}(hs:h.sound=true):h.ok=true/\∃ P:Nat,h.p=P/\h.p.toNat=P/\P<=64/\∀ i:Nat,i<P->h.snd i=true:=by
 unfold Hp.sound at hs;rw[Bool.and_eq_true]at hs;have b:mayB h.p h.c h.m=true:=by have:=hs.1;unfold Hp.ok at this;rw[Bool.and_eq_true]at this;exact this.1
 have hb:=zar.1 b;exact⟨hs.1,h.p.toNat,by omega,rfl,by omega,Hp.yjo h hs.2⟩
theorem Hp.bl_ok{h:Hp}(hs:h.sound=true):okK (64*h.p) 0 h.bl:=by
 obtain⟨l,P,i,b,j,f⟩:=Hp.sound_all hs;unfold Hp.bl;rw[if_pos l,b];obtain⟨k1,m,n,o⟩:=Hp.blT_ok i f P lr;exact k1.widen (by omega)
end

end Go.Proofs.YtkbddndcegpllaaGreat
