/- Texts bound together: AudB AudU HpI GivA. -/
import Derived.Deep.Onto

import Derived.Test.YtkbddndcegpllaaGreatBg45

set_option linter.all false
set_option maxHeartbeats 8000000
set_option maxRecDepth 100000
namespace Go.Proofs.YtkbddndcegpllaaGreat

section

open Go.RowKit

attribute [local go_sem ↓] Go.wp_at_zero Go.wp_at_succ

attribute [local go_sem ↓] zhk zh6

theorem Bk.oneC(b:Bk):∀ u ∈ b.cells,u.oneCell'=true:=by
 intro u hu;simp only[Bk.cells,List.mem_cons,List.not_mem_nil,or_false]at hu;rcases hu with rfl|rfl<;>rfl
def Hp.slB (h:Hp) (a:Int):Nat->List Bk
 | 0=> []
 | i + 1=> h.slB a i ++ (if h.sk a i=3 then [⟨a * 64 + i * zbj (h.pa a),zbj (h.pa a)⟩] else [])
def Hp.pgB (h:Hp) (a:Int):List Bk:=
 if h.pk a=3 then [⟨a * 64,h.pa a * 64⟩] else if h.pk a=2 then h.slB a (zah (h.pa a)).toNat else []
def Hp.blT (h:Hp):Nat->List Bk
 | 0=> []
 | k + 1=> h.blT k ++ h.pgB k
def Hp.bl (h:Hp):List Bk:=if h.ok=true then h.blT h.p.toNat else []
theorem Hp.yio(h:Hp)(a:Int)(i:Nat):(h.slB a i).length<=i:=by
 induction i with
 |zero=>exact Nat.le_refl _;|succ i b=>unfold Hp.slB;rw[List.length_append];split<;>simp<;>omega
theorem Hp.yi8(h:Hp)(a:Int):(h.pgB a).length<=16:=by
 unfold Hp.pgB;have hb:=zcy (h.pa a);split
 ·simp
 split
 ·have:=h.yio a (zah (h.pa a)).toNat;omega
 simp
theorem Hp.yjd(h:Hp)(k:Nat):(h.blT k).length<=16*k:=by
 induction k with
 |zero=>exact Nat.le_refl _;|succ k b=>unfold Hp.blT;rw[List.length_append];have:=h.yi8 k;omega
theorem own_below{w w':World}{B:Nat}{E:TypeId}{size:Nat}{v:Value}{n:Nat}{xs:List Value}(h:w.ownsRow B E size v n xs)(hb:Below w.heap.size w w'):w'.ownsRow B E size v n xs:=
 zas h fun k b=>hb.block k (h.lt k b).2
theorem yhv(l:List Bk)(b:Bk):yhg (l++[b])=yhg l++b.cells:=by rw[yhj];simp[yhg]
theorem yh7{w w':World}{g:Nat}(h:w'.heap[g]?=w.heap[g]?)(o:Nat):w'.cell? ⟨g,o,.none⟩=w.cell? ⟨g,o,.none⟩:=by
 simp only[World.cell?,h]
theorem infoTw:(Tryz.prog.info? 47).map (fun i=>(i.zero,i.size,i.bytes))=some (some (.agg #[.int .i64 0,.int .i64 0]),2,16):=by kernel_rfl
theorem yjc(h:Hp)(v:Value)(w:World)(hr:RdZ .u64 w v h.xs)(hf:h.fit):
  Calls Tryz.prog 20 #[shV h,v] w fun e w'=>∃ v',e= .returned v'/\Below w.heap.size w w'/\w'.ownsRow w.heap.size 47 2 v' h.bl.length (yhg h.bl):=by
 obtain⟨ao,cap,hv,_,_,_⟩:=hr.cells;generalize h.xs.length=m at hv;subst hv;have E:=fun X hX=>z5c h (.slice ao m cap) X (hr.below (w':=X) hX);have b1:=(Below.refl w.heap.size w).alloc lr (.cells #[.int .i64 h.p,.int .i64 h.c,.int .i64 h.m] 23);have b8:h.bl=if h.ok=true then h.blT h.p.toNat else []:=rfl;obtain⟨i0,c8,cb,cc,cd⟩:=info_parts infoTw;rcases Bool.eq_false_or_eq_true h.ok with D|D;case inr=>rw[D]at E;rw[b8,D,if_neg Bool.false_ne_true];clear b8 D;replace E:=hd' E;go_in;go_wp2_with fail;refine(E.out _ b1).mono ?_;rintro e w1 ⟨rfl,S⟩;have hB:=b1.trans (S.mono b1.size);go_wp2;go_ret;exact⟨_,rfl,hB.alloc hB.size _,⟨rfl,.inl ⟨rfl,rfl⟩⟩⟩
 case inl=>
  have b:Bok w (.slice ao m cap) h:=⟨D,hr,hf⟩;obtain⟨bp,_,_,_⟩:=b.bd;rw[D]at E;rw[b8,D,if_pos rfl];have bq:=fun a X (hX:Below w.heap.size w X) ha=>zpo h (.slice ao m cap) a X (b.below hX) ha;have bs:=fun a i X (hX:Below w.heap.size w X) ha hi=>z7y h (.slice ao m cap) a i X (b.below hX) ha hi;obtain⟨P,hP⟩:∃ P:Nat,Hid (h.p=P):=⟨h.p.toNat,hd' (by omega)⟩;have c5:h.p.toNat=P:=by have:=hP.out;omega
  rw[c5];have y:=fun a=>Hp.yji (h:=h) (a:=a);have I:=fun a=>Hp.ygf (h:=h) (a:=a);have ca:Hid (∀ a,h.pb a=false->h.pk a=0):=hd' fun a hb=>by unfold Hp.pk;rw[hb,if_neg Bool.false_ne_true]
  have cj:Hid (h.blT 0= []):=hd' rfl;have cl:Hid (∀ k:Nat,h.blT (k+1)=h.blT k++h.pgB k):=hd' fun _=>rfl;have ck:Hid (∀ k:Nat,(h.blT k).length<=16*k):=hd' h.yjd;have hG:Hid (∀ a,h.pgB a=if h.pk a=3 then [⟨a*64,h.pa a*64⟩] else if h.pk a=2 then h.slB a (zah (h.pa a)).toNat else []):=hd' fun _=>rfl;have cf:Hid (∀ a,h.slB a 0= []):=hd' fun _=>rfl;have ch:Hid (∀ a (i:Nat),h.slB a (i+1)=h.slB a i++(if h.sk a i=3 then [⟨a*64+i*zbj (h.pa a),zbj (h.pa a)⟩] else [])):=hd' fun _ _=>rfl;have cg:Hid (∀ a (i:Nat),(h.slB a i).length<=i):=hd' h.yio;replace E:=hd' E;replace bq:=hd' bq;replace bs:=hd' bs;replace y:=hd' y;replace I:=hd' I;clear b8 D c5 b;go_in;go_wp2_with fail;refine(E.out _ b1).mono ?_;rintro e w1 ⟨rfl,S⟩;have bg:=b1.trans (S.mono b1.size);have hB:=bg.alloc bg.size (.cells #[.int .i64 h.p,.int .i64 h.c,.int .i64 h.m,.slice ao m cap] 124);have T:=S.alloc S.size (.cells #[.int .i64 h.p,.int .i64 h.c,.int .i64 h.m,.slice ao m cap] 124);have r0:=(T.block _ (by simp)).trans (heap_alloc_new w (.cells #[.int .i64 h.p,.int .i64 h.c,.int .i64 h.m] 23));have r3:=heap_alloc_new w1 (.cells #[.int .i64 h.p,.int .i64 h.c,.int .i64 h.m,.slice ao m cap] 124);go_upto_region 2 with fail;obtain⟨H,hH,bz⟩:=hidv w.heap.size;obtain⟨K,hK,c4⟩:=hidv w1.heap.size;rw[<-c4]at r3 ⊢;rw[<-bz]at r0 ⊢;clear c4 bz S T bg;generalize w1.alloc (.cells #[.int .i64 h.p,.int .i64 h.c,.int .i64 h.m,.slice ao m cap] 124)=W at *;have s0:W.cell? ⟨H,0,.none⟩=some (.int .i64 h.p):=zac r0 0;have k0:W.cell? ⟨K,0,.none⟩=some (.int .i64 h.p):=zac r3 0;have k1:W.cell? ⟨K,1,.none⟩=some (.int .i64 h.c):=zac r3 1;have k2:W.cell? ⟨K,2,.none⟩=some (.int .i64 h.m):=zac r3 2;have k3:W.cell? ⟨K,3,.none⟩=some (.slice ao m cap):=zac r3 3;have e0:=hB.size;clear r0 r3;go_wp2_with fail;go_loopw [7,22] (fun vl vi wr=>∃ i:Nat,i<=P/\vi= .int .i64 i/\Below W.heap.size W wr/\wr.ownsRow W.heap.size 47 2 vl (h.blT i).length (yhg (h.blT i))) (fun _ vi _=>P-(intOf vi).toNat);case atStart=>exact⟨0,Nat.zero_le _,rfl,Below.refl _ _,by rw[cj.out];exact⟨rfl,.inl ⟨rfl,rfl⟩⟩⟩
  case round=>
   obtain⟨i,hi,rfl,B,b3⟩:=hrel;have d0:=zai B _ _ _ k0;have d1:=zai B _ _ _ k1;have d2:=zai B _ _ _ k2;have d3:=zai B _ _ _ k3;have bh:=hB.trans (B.mono hB.size);by_cases e7:(i:Int)<h.p
   ·have e1:i<P:=by have:=hP.out;omega
    have c9:0<=(i:Int)/\(i:Int)<h.p:=by omega
    have F:=cl.out i;rw[hG.out]at F;have hL:=ck.out i;have b9:=bq.out i wr bh c9;have x3:=y.out i;have x2:=I.out i;have x0:=ca.out i;have bu:=fun j X hX hj=>bs.out i j X hX c9 hj;have y0:=cf.out i;have yS:=ch.out i;have yL:=cg.out i;generalize h.blT i=L at *;generalize U:L.length=n at *;generalize h.pk i=pk at *;generalize h.pa i=pa at *;generalize h.pn i=pn at *;generalize h.pb i=pb at *;replace b9:=hd' b9;replace bu:=hd' bu;replace y0:=hd' y0;replace yS:=hd' yS;replace yL:=hd' yL;replace F:=hd' F;replace x0:=hd' x0;replace x2:=hd' x2;replace x3:=hd' x3;replace U:=hd' U
    have fin:Hid (∀ X v l,Below W.heap.size W X->X.ownsRow W.heap.size 47 2 v l.length (yhg l)->h.blT (i+1)=l->∃ j:Nat,j<=P/\Value.int .i64 ((i:Int)+1)= .int .i64 j/\Below W.heap.size W X/\X.ownsRow W.heap.size 47 2 v (h.blT j).length (yhg (h.blT j))):=
     hd' fun X v l hb ho e=>⟨i+1,by omega,by go_num,hb,by rw[e];exact ho⟩
    go_wp2_with fail;refine b9.out.mono ?_;rintro e w2 ⟨rfl,T⟩;have b0:=B.trans (T.mono B.size);have N:=b0.alloc b0.size (.cells #[.int .i64 pk,.int .i64 pa,.int .i64 pn] 128);have b5:=own_below b3 T;have R:=b5.alloc (.cells #[.int .i64 pk,.int .i64 pa,.int .i64 pn] 128);have g3:=heap_alloc_new w2 (.cells #[.int .i64 pk,.int .i64 pa,.int .i64 pn] 128);have bk:u7.ownBlock≠some w2.heap.size:=fun e=>by have:=(b5.lt _ e).2;omega
    go_upto_region 9 with fail;clear b3 T b0 b5 d0 d1 d2 d3 b9 B bh;generalize w2.heap.size=G at g3 bk ⊢;generalize w2.alloc (.cells #[.int .i64 pk,.int .i64 pa,.int .i64 pn] 128)=V at *;have p0:V.cell? ⟨G,0,.none⟩=some (.int .i64 pk):=zac g3 0;have p1:V.cell? ⟨G,1,.none⟩=some (.int .i64 pa):=zac g3 1;have lG:=(Array.getElem?_eq_some_iff.1 g3).1;have cm:=N.size;clear g3;by_cases y:pk=3
    ·subst y;have bn:pb=true:=by
      rcases Bool.eq_false_or_eq_true pb with hp|hp
      ·exact hp
      exact absurd (x0.out hp) (by omega)
     subst bn;obtain⟨a1,a2,a3⟩:=x3.out rfl;have m1:IntKind.i64.wrap ((i:Int)*64)=(i:Int)*64:=IntWalk.i64_in _ ⟨by omega,by omega⟩;have m2:=wrp (pa*64);go_wp2_with (refine zay rfl (.tmp 34) (.tmp 41) 41 rfl W.heap.size 47 i0 _ 2 16 Tryz.underlying41 c8 cb cc cd rfl (by omega) _ n (yhg L) rfl (R.alloc _) _ 1 (Bk.cells ⟨(i:Int)*64,pa*64⟩) rfl (RdS.new (cs:=(Bk.cells ⟨(i:Int)*64,pa*64⟩).toArray) (t:=47) (sz:=2) (n:=1) (heap_alloc_new V _) rfl (by omega)) (Bk.oneC _) (by simp only[maxLen];omega) (by omega) (by simp;omega) ?_;intro v1 w1 J o bf;have c6:=zaw (N.alloc cm _) (R.alloc _) (by simp;omega) o;have q0:=(yh7 (o.block G (by simp;omega) (fun e=>bk e.symm)) 0).trans (zai ((Below.refl V.heap.size V).alloc lr _) _ _ _ p0));refine⟨fin.out _ _ (L++[⟨(i:Int)*64,pa*64⟩]) c6 ?_ ?_,by simp[intOf];omega⟩
     ·rw[yhv,List.length_append,List.length_singleton,U.out];exact J
     exact F.out
    by_cases I:pk=2
    ·subst I;have bn:pb=true:=by
      rcases Bool.eq_false_or_eq_true pb with hp|hp
      ·exact hp
      exact absurd (x0.out hp) (by omega)
     subst bn;obtain⟨a1,a2⟩:=x2.out rfl;have bb:=slots_any pa;have bv:=zgq pa;have cx:=zcy pa;have e9:=znt pa;have bi:=fun (j:Int) X (hj:0<=j/\j<=16)=>zug i j pa X (by omega) hj;have hT:=F.out;rw[if_neg y,if_pos rfl]at hT;obtain⟨q,hq⟩:∃ q:Nat,zah pa=q:=⟨(zah pa).toNat,by omega⟩;rw[hq]at bb cx hT;rw[Int.toNat_natCast]at hT;generalize zbj pa=z at *;replace bb:=hd' bb;replace bv:=hd' bv;replace bi:=hd' bi;replace hT:=hd' hT;clear F x0 x2 x3 y hq;go_wp2_with fail;refine(bb.out _).mono ?_;rintro e w3 ⟨rfl,hw⟩;obtain rfl:=hw.symm;clear hw;obtain⟨Wr,rfl⟩:∃ V:World,V=wr:=⟨_,rfl⟩;go_wp2_with fail;go_loopw [7,49] (fun vl vj wr=>∃ j:Nat,j<=q/\vj= .int .i64 j/\Below W.heap.size W wr/\wr.ownsRow W.heap.size 47 2 vl (n+(h.slB i j).length) (yhg (L++h.slB i j))/\wr.cell? ⟨G,1,.none⟩=some (.int .i64 pa)/\G<wr.heap.size/\vl.ownBlock≠some G) (fun _ vj _=>q-(intOf vj).toNat);case atStart=>exact⟨0,Nat.zero_le _,rfl,N,by rw[y0.out,List.append_nil];exact R,p1,lG,bk⟩
     case round=>
      obtain⟨j,hj,rfl,r,bw,r1,lq,bm⟩:=hrel;by_cases e6:j<q
      ·have d0:=zai r _ _ _ k0;have d1:=zai r _ _ _ k1;have d2:=zai r _ _ _ k2;have d3:=zai r _ _ _ k3;have bx:=hB.trans (r.mono hB.size);have ba:=bu.out j wr bx (by omega);have b4:=yS.out j;have cz:=yL.out j;have ea:=zk3 (c:=(j:Int)) (m:=z) (C:=16) (M:=32) (by omega) (by omega);have cq:0<=(j:Int)/\(j:Int)<=16:=by omega
       have Y:=fun X=>bi.out j X cq;generalize h.sk i j=k4 at *;generalize h.sa i j=k5 at *;generalize h.slB i j=M at *;generalize b7:M.length=mm at *;generalize (i:Int)*64+(j:Int)*z=ad at *;replace ba:=hd' ba;replace b4:=hd' b4;replace Y:=hd' Y;replace b7:=hd' b7
       have bc:Hid (∀ X v l,Below W.heap.size W X->X.ownsRow W.heap.size 47 2 v (n+l.length) (yhg (L++l))->h.slB i (j+1)=l->X.cell? ⟨G,1,.none⟩=some (.int .i64 pa)->G<X.heap.size->v.ownBlock≠some G->∃ k:Nat,k<=q/\Value.int .i64 ((j:Int)+1)= .int .i64 k/\Below W.heap.size W X/\X.ownsRow W.heap.size 47 2 v (n+(h.slB i k).length) (yhg (L++h.slB i k))/\X.cell? ⟨G,1,.none⟩=some (.int .i64 pa)/\G<X.heap.size/\v.ownBlock≠some G):=
        hd' fun X v l hb ho e c lx hn=>⟨j+1,by omega,by go_num,hb,by rw[e];exact ho,c,lx,hn⟩
       go_wp2_with fail;refine ba.out.mono ?_;rintro e w5 ⟨rfl,Z⟩;have b6:=own_below bw Z;have b2:=r.trans (Z.mono r.size);have r5:=zai Z _ _ _ r1;have e8:=Z.size;have cv:=b2.size;clear d0 d1 d2 d3 bx bw r r1 Z;by_cases bj:k4=3
       ·subst bj;have O:=b4.out;rw[if_pos rfl]at O;replace O:=hd' O;clear b4 ba;go_upto_region 16 with fail
        go_region_held3 (fun w'=>w'.cell? ⟨G,1,.none⟩=some (.int .i64 pa)) (first|go_keep|exact q1)
         (first|(go_at_call 67;(with_reducible refine(Y.out _).mono ?_);rintro e w6 ⟨rfl,rfl⟩)|(go_at_call 68;(with_reducible refine(bv.out _).mono ?_);rintro e w6 ⟨rfl,rfl⟩)|(refine zbg (by rfl) (.tmp 58) (.tmp 68) 41 (by rfl) W.heap.size 47 i0 _ 2 16 Tryz.underlying41 c8 cb cc cd rfl (by omega) _ (n+mm) (yhg (L++M)) (by rfl) ((b6.alloc _).drew) _ 1 (Bk.cells ⟨ad,z⟩) (by rfl) (RdS.new (cs:=(Bk.cells ⟨ad,z⟩).toArray) (t:=47) (sz:=2) (n:=1) (heap_alloc_new w5 _) rfl (by omega)) (Bk.oneC _) (by simp only[maxLen];omega) (by omega) (by simp;omega) ?_;intro v1 w1 J o bf;have c7:=zaw ((b2.alloc cv _).drew) ((b6.alloc _).drew) (by simp;omega) o;have q1:=(yh7 (o.block G (by simp;omega) (fun e=>bm e.symm)) 1).trans (zai ((Below.refl w5.heap.size w5).alloc lr _) _ _ _ r5);have cy:G<w1.heap.size:=zqe q1;have cu:v1.ownBlock≠some G:=(fun e=>by rcases bf with h|h;exact bm (h.symm.trans e);(have:=h.symm.trans e;injection this with this;simp at this;omega))))
        go_wp2;refine⟨bc.out _ _ (M++[⟨ad,z⟩]) c7 ?_ O.out q1 cy cu,by simp[intOf];omega⟩;rw[<-List.append_assoc,yhv,List.length_append,List.length_singleton,b7.out,<- Nat.add_assoc];exact J
       have e4:(k4==3)=false:=by rw[beq_eq_false_iff_ne];exact bj
       go_wp2;refine⟨bc.out _ _ M b2 (by rw[b7.out];exact b6) ?_ r5 (by omega) bm,by simp[intOf];omega⟩;have:=b4.out;rw[if_neg bj,List.append_nil]at this;exact this
      have cr:j=q:=by omega
      subst cr;have e5:¬ ((j:Int)<(j:Int)):=by omega
      go_wp2;refine⟨fin.out _ _ (L++h.slB i j) r ?_ hT.out,by simp[intOf];omega⟩;rw[List.length_append,U.out];exact bw
    have e3:(pk==3)=false:=by rw[beq_eq_false_iff_ne];exact y
    have e2:(pk==2)=false:=by rw[beq_eq_false_iff_ne];exact I
    go_wp2_with fail;refine⟨fin.out _ _ L N ?_ ?_,by simp[intOf];omega⟩
    ·rw[U.out];exact R
    have:=F.out;rw[if_neg y,if_neg I,List.append_nil]at this;exact this
   have cp:i=P:=by have:=hP.out;omega
   subst cp;go_wp2;go_ret;exact⟨_,rfl,bh,World.ownsRow.mono b3 (by omega)⟩
end

section

open Go.RowKit

attribute [local go_sem ↓] Go.wp_at_zero Go.wp_at_succ

def Hp.yht (h:Hp) (a:Int):Nat->Bool
 | 0=> true
 | i + 1=> h.yht a i && h.sw a i==0
def Hp.bare (h:Hp) (a:Int):Bool:=h.yht a 16
def Hp.okS (h:Hp) (a k i:Int):Bool:=if i < zah k then (h.sk a i==2 && decide (h.sa a i < h.c)) || ((h.sk a i==1 || h.sk a i==3) && h.sa a i==k) else h.sw a i==0
def Hp.supT (h:Hp) (a k:Int):Nat->Bool
 | 0=> true
 | i + 1=> h.supT a k i && h.okS a k i
def Hp.sup (h:Hp) (a k:Int):Bool:=h.supT a k 16
def Hp.rowT (h:Hp) (a:Int):Nat->Bool
 | 0=> true
 | i + 1=> h.rowT a i && (h.pk (a + 1 + i)==4 && h.pa (a + 1 + i)==a)
def Hp.rowB (h:Hp) (a n:Int):Bool:=h.rowT a (n - 1).toNat
def Hp.snd (h:Hp) (a:Int):Bool:=
 if h.pb a=true then
  (if h.pk a=2 then h.sup a (h.pa a)
   else if h.pk a=3 then h.bare a && h.rowB a (h.pa a)
   else if h.pk a=4 then h.bare a && (h.pk (h.pa a)==1 || (h.pk (h.pa a)==3 && decide (a < h.pa a + h.pa (h.pa a))))
   else if h.pk a=0 then h.bare a
   else true)
 else false
def Hp.sndT (h:Hp):Nat->Bool
 | 0=> true
 | i + 1=> h.sndT i && h.snd i
theorem Hp.yjo(h:Hp){n:Nat}(j:h.sndT n=true):∀ i,i<n->h.snd (i:Nat)=true:=by
 induction n with
 |zero=>intro i hi;omega;|succ n l=>
  intro i hi;have b:(h.sndT n&&h.snd n)=true:=j;rw[Bool.and_eq_true]at b;rcases Nat.lt_or_ge i n with f|f
  ·exact l b.1 i f
  have:i=n:=by omega
  subst this;exact b.2
def Hp.sound (h:Hp):Bool:=h.ok && h.sndT h.p.toNat
theorem Hp.snd_pb{h:Hp}{a:Int}(hs:h.snd a=true):h.pb a=true:=by
 unfold Hp.snd at hs;split at hs
 ·assumption
 cases hs
theorem Hp.rowT_get{h:Hp}{a:Int}{n:Nat}(hs:h.rowT a n=true):∀ i:Nat,i<n->h.pk (a+1+i)=4/\h.pa (a+1+i)=a:=by
 induction n with
 |zero=>intro i hi;omega;|succ n j=>
  intro i hi;have b:(h.rowT a n&&(h.pk (a+1+n)==4&&h.pa (a+1+n)==a))=true:=hs;simp only[Bool.and_eq_true,beq_iff_eq]at b;rcases Nat.lt_or_ge i n with f|f
  ·exact j b.1 i f
  have:i=n:=by omega
  subst this;exact b.2
theorem okK.widen{W W':Int}(f:W<=W'){l:List Bk}:∀ {lo:Int},okK W lo l->okK W' lo l:=by
 induction l with
 |nil=>exact fun h=>Int.le_trans h f
 |cons b l i=>exact fun h=>⟨h.1,h.2.1,i h.2.2⟩
theorem okK.append{W M:Int}{l k:List Bk}(f:okK W M k):∀ {lo:Int},okK M lo l->okK W lo (l++k):=by
 induction l with
 |nil=>exact fun h=>f.mono h
 |cons b l i=>exact fun h=>⟨h.1,h.2.1,i h.2.2⟩
theorem Hp.mem_slB{h:Hp}{a:Int}{q:Nat}{b:Bk}:b ∈ h.slB a q↔∃ i:Nat,i<q/\h.sk a i=3/\b=⟨a*64+i*zbj (h.pa a),zbj (h.pa a)⟩:=by
 induction q with
 |zero=>simp[Hp.slB];|succ q o=>
  unfold Hp.slB;rw[List.mem_append,o];constructor
  ·rintro(⟨i,j,f,l⟩|j)
   ·exact⟨i,by omega,f,l⟩
   split at j
   ·rename_i f;exact⟨q,by omega,f,by simpa using j⟩
   simp at j
  rintro⟨i,j,f,l⟩;rcases Nat.lt_or_ge i q with n|n
  ·exact .inl ⟨i,n,f,l⟩
  have:i=q:=by omega
  subst this;right;rw[if_pos f];simp[l]
theorem Hp.mem_blT{h:Hp}{k:Nat}{b:Bk}:b ∈ h.blT k↔∃ a:Nat,a<k/\b ∈ h.pgB a:=by
 induction k with
 |zero=>simp[Hp.blT];|succ k l=>
  unfold Hp.blT;rw[List.mem_append,l];constructor
  ·rintro(⟨a,i,f⟩|i)
   ·exact⟨a,by omega,f⟩
   exact⟨k,by omega,i⟩
  rintro⟨a,i,f⟩;rcases Nat.lt_or_ge a k with j|j
  ·exact .inl ⟨a,j,f⟩
  have:a=k:=by omega
  subst this;exact .inr f
theorem Hp.slB_ok{h:Hp}{a:Int}(f:1<=zbj (h.pa a))(q:Nat):okK (a*64+q*zbj (h.pa a)) (a*64) (h.slB a q):=by
 induction q with
 |zero=>show a*64<=a*64+((0:Nat):Int)*_;simp;|succ q b=>
  unfold Hp.slB;have e:((q+1:Nat):Int)*zbj (h.pa a)=q*zbj (h.pa a)+zbj (h.pa a):=by rw[Int.natCast_add,Int.add_mul];simp
  rw[e];split
  ·refine okK.append (M:=a*64+q*zbj (h.pa a)) ?_ b;exact⟨Int.le_refl _,f,by show _+_<=_;simp only;omega⟩
  rw[List.append_nil];exact b.widen (by omega)
theorem Hp.row_of{h:Hp}{a:Int}(hs:h.snd a=true)(b:h.pk a=3):(1<=h.pa a/\h.pa a<=8/\h.pa a<=h.p-a)/\∀ q:Int,a<q->q<a+h.pa a->h.pk q=4/\h.pa q=a:=by
 have i:=Hp.snd_pb hs;refine⟨Hp.yji (by rw[i,b];rfl),fun q j l=>?_⟩;unfold Hp.snd at hs;rw[if_pos i,if_neg (by rw[b];decide),if_pos b,Bool.and_eq_true]at hs;have f:=Hp.rowT_get hs.2 (q-a-1).toNat (by omega);rw[show a+1+((q-a-1).toNat:Int)=q by omega]at f;exact f
theorem Hp.sup_of{h:Hp}{a:Int}(hs:h.snd a=true)(n:h.pk a=2):∃ z q:Nat,zbj (h.pa a)=z/\zah (h.pa a)=q/\1<=z/\z*q=64:=by
 have o:=Hp.snd_pb hs;have f:=Hp.ygf (h:=h) (a:=a) (by rw[o,n];rfl);have b:=zzh f;have r:=znt (h.pa a);have p:=zcy (h.pa a);obtain⟨z,l⟩:∃ z:Nat,zbj (h.pa a)=z:=⟨(zbj (h.pa a)).toNat,by omega⟩;obtain⟨q,j⟩:∃ q:Nat,zah (h.pa a)=q:=⟨(zah (h.pa a)).toNat,by omega⟩;rw[l,j]at b;have i:z*q=64:=by exact_mod_cast b
 refine⟨z,q,l,j,?_,i⟩;rcases Nat.eq_zero_or_pos z with e|e
 ·subst e;omega
 exact e
def Hp.en (h:Hp):Nat->Int
 | 0=> 0
 | k + 1=> if h.pk k=3 then k + h.pa k else max (h.en k) (k + 1)
theorem Hp.blT_ok{h:Hp}{P:Nat}(O:h.p=P)(hs:∀ i:Nat,i<P->h.snd i=true)(k:Nat)(R:k<=P):
  okK (64*h.en k) 0 (h.blT k)/\(k:Int)<=h.en k/\h.en k<=P/\∀ q:Int,k<=q->q<h.en k->h.pk q=4:=by
 induction k with
 |zero=>exact⟨Int.le_refl 0,Int.le_refl 0,by show (0:Int)<=P;omega,fun q N f=>by have:h.en 0=0:=rfl;omega⟩;|succ k J=>
  obtain⟨o,S,T,C⟩:=J (by omega);have j:=hs k (by omega);have l:h.pk k≠4->h.en k=k:=fun F=>by false_or_by_contra;exact F (C k (Int.le_refl _) (by omega))
  unfold Hp.blT Hp.pgB Hp.en;by_cases b:h.pk k=3
  ·rw[if_pos b,if_pos b];have r:=l (by rw[b];decide);obtain⟨L,D⟩:=Hp.row_of j b;refine⟨?_,by omega,by omega,fun q E B=>(D q (by omega) B).1⟩;rw[r]at o;have n:okK (64*((k:Int)+h.pa k)) (64*k) [⟨(k:Int)*64,h.pa k*64⟩]:=⟨by show 64*(k:Int)<=k*64;omega,by show 1<=h.pa k*64;omega,by show (k:Int)*64+h.pa k*64<=_;omega⟩;exact okK.append n o
  rw[if_neg b,if_neg b];refine⟨?_,by omega,by omega,fun q E B=>C q (by omega) (by omega)⟩;by_cases f:h.pk k=2
  ·rw[if_pos f];have r:=l (by rw[f];decide);obtain⟨z,q,H,G,I,y⟩:=Hp.sup_of j f;have t:=Hp.slB_ok (h:=h) (a:=k) (by omega) q;rw[H]at t;have e:(q:Int)*z=64:=by rw[Int.mul_comm];exact_mod_cast y
   rw[e]at t;rw[G,Int.toNat_natCast];rw[r]at o ⊢;exact okK.append (M:=64*k) ((t.mono (by omega)).widen (by omega)) o
  rw[if_neg f,List.append_nil];exact o.widen (by omega)
theorem Hp.sound_all{h:Hp}(hs:h.sound=true):h.ok=true/\∃ P:Nat,h.p=P/\h.p.toNat=P/\P<=64/\∀ i:Nat,i<P->h.snd i=true:=by
 unfold Hp.sound at hs;rw[Bool.and_eq_true]at hs;have b:mayB h.p h.c h.m=true:=by have:=hs.1;unfold Hp.ok at this;rw[Bool.and_eq_true]at this;exact this.1
 have hb:=zar.1 b;exact⟨hs.1,h.p.toNat,by omega,rfl,by omega,Hp.yjo h hs.2⟩
theorem Hp.bl_ok{h:Hp}(hs:h.sound=true):okK (64*h.p) 0 h.bl:=by
 obtain⟨l,P,i,b,j,f⟩:=Hp.sound_all hs;unfold Hp.bl;rw[if_pos l,b];obtain⟨k1,n,o,q⟩:=Hp.blT_ok i f P lr;exact k1.widen (by omega)
end

section

variable {s:Sh} {m:Mem} {σ:Ab}

def hpOf (s:Sh) (m:Mem):Hp:=⟨s.p,s.c,s.m,m.ws⟩
theorem hp_ok(b:Rep s m σ):(hpOf s m).ok=true:=by
 unfold Hp.ok hpOf;dsimp only;rw[b.may,b.fi.len];simp
theorem hp_pw(f:Rep s m σ){a:Int}(b:0<=a/\a<s.p):(hpOf s m).pw a=(σ.pg a).enc:=by
 have:=f.pg a b;rw[(ixs f.fi).1 a b]at this;exact this
theorem hp_pg(b:Rep s m σ)(i:GI s σ){a:Int}(f:0<=a/\a<s.p):(hpOf s m).pb a=true/\(hpOf s m).pk a=(σ.pg a).kind/\(hpOf s m).pa a=(σ.pg a).pa:=by
 obtain⟨j,l,_⟩:=PW.read b.may (i.pf a);have hb:(hpOf s m).pb a=true:=by unfold Hp.pb;rw[hp_pw b f];exact PW.ya4 b.may f (i.pf a)
 unfold Hp.pk Hp.pa;rw[if_pos hb,if_pos hb,hp_pw b f];exact⟨hb,j,l⟩
theorem hp_sw(f:Rep s m σ){a i:Int}(b:0<=a/\a<s.p)(hi:0<=i/\i<16):(hpOf s m).sw a i=(σ.sl a i).enc:=by
 have:=f.sl a i b hi;rw[(ixs f.fi).2.1 a i b hi]at this;exact this
theorem SW.ya4(hs:mayB s.p s.c s.m=true){x:SW}(h:x.fit s):zet x.enc=true:=by
 obtain⟨b,f⟩:=SW.read hs h;obtain⟨e,i⟩:=SW.zg9 hs h;unfold zet;rw[b,f,beq_iff_eq];cases x with
 |none=>decide
 |opened k=>rfl
 |way c=>rfl
 |taken k=>rfl
theorem hp_sl(b:Rep s m σ)(j:GI s σ){a i:Int}(f:0<=a/\a<s.p)(hi:0<=i/\i<16):(hpOf s m).sk a i=(σ.sl a i).kind/\(hpOf s m).sa a i=(σ.sl a i).pa:=by
 obtain⟨l,n⟩:=SW.read b.may (j.sf a i);have hb:zet ((hpOf s m).sw a i)=true:=by rw[hp_sw b f hi];exact SW.ya4 b.may (j.sf a i)
 unfold Hp.sk Hp.sa;rw[if_pos hb,if_pos hb,hp_sw b f hi];exact⟨l,n⟩
theorem hp_bareT(j:Rep s m σ){a:Int}(f:0<=a/\a<s.p)(b:∀ i,0<=i/\i<16->σ.sl a i= .none)(n:Nat)(o:n<=16):(hpOf s m).yht a n=true:=by
 induction n with
 |zero=>rfl;|succ n l=>show (_&&_)=true;rw[l (by omega),hp_sw j f (by omega),b n (by omega)];rfl
theorem hp_supT(o:Rep s m σ)(i:GI s σ){a k b:Int}(l:0<=a/\a<s.p)(z:σ.pg a= .super k b)(n:Nat)(C:n<=16):(hpOf s m).supT a k n=true:=by
 induction n with
 |zero=>rfl;|succ n B=>
  show (_&&_)=true;rw[B (by omega),Bool.true_and];have hi:0<=(n:Int)/\(n:Int)<16:=by omega
  obtain⟨q,r⟩:=hp_sl o i l hi;have t:=hp_sw o l hi;have f:=i.sk a n;have j:=i.sf a n;rw[z]at f;unfold zhi at f;dsimp only at f;unfold Hp.okS;by_cases hs:(n:Int)<zah k
  ·rw[if_pos ⟨hi.1,hs⟩]at f;rw[if_pos hs,q,r];rcases f with e|e|⟨c,e⟩
   ·rw[e];simp[SW.kind,SW.pa]
   ·rw[e];simp[SW.kind,SW.pa]
   rw[e]at j ⊢;have y:c<(hpOf s m).c:=j.2;simp[SW.kind,SW.pa,y]
  rw[if_neg (by omega)]at f;rw[if_neg hs,t,f];rfl
theorem hp_snd(q:Rep s m σ)(l:GI s σ){a:Int}(r:0<=a/\a<s.p):(hpOf s m).snd a=true:=by
 obtain⟨E,F,G⟩:=hp_pg q l r;have f:=fun i=>l.sk a i;have t:=l.pf a;unfold Hp.snd;rw[if_pos E,F,G];cases e:σ.pg a with
 |empty=>rw[e]at f;rw[if_neg (by simp[PW.kind]),if_neg (by simp[PW.kind]),if_neg (by simp[PW.kind]),if_pos (by simp[PW.kind])];exact hp_bareT q r (fun i _=>f i) 16 (by omega)
 |held o=>rw[if_neg (by simp[PW.kind]),if_neg (by simp[PW.kind]),if_neg (by simp[PW.kind]),if_neg (by simp[PW.kind])]
 |super k b=>rw[if_pos (by simp[PW.kind])];exact hp_supT q l r e 16 (by omega)
 |large n=>
  rw[e]at f t;rw[if_neg (by simp[PW.kind]),if_pos (by simp[PW.kind]),Bool.and_eq_true];refine⟨hp_bareT q r (fun i _=>f i) 16 (by omega),?_⟩;have J:=l.lg a n e;obtain⟨_,L,M,N⟩:=t
  have key:∀ j:Nat,(j:Int)<=n-1->(hpOf s m).rowT a j=true:=by
   intro j
   induction j with
   |zero=>intro _;rfl
   |succ j R=>
    intro S
    show (_&&_)=true
    rw[R (by omega)]
    have O:0<=a+1+(j:Int)/\a+1+(j:Int)<s.p:=by omega
    obtain⟨_,z,B⟩:=hp_pg q l O
    have:=J (1+j) (by omega) (by omega)
    rw[show a+(1+(j:Int))=a+1+j by omega]at this
    rw[z,B,this]
    simp[PW.kind,PW.pa]
  exact key (n-1).toNat (by omega)
 |body h=>
  rw[e]at f t;rw[if_neg (by simp[PW.kind]),if_neg (by simp[PW.kind]),if_pos (by simp[PW.kind]),Bool.and_eq_true];refine⟨hp_bareT q r (fun i _=>f i) 16 (by omega),?_⟩;obtain⟨_,C,H,I⟩:=t;obtain⟨_,z,B⟩:=hp_pg q l (a:=h) ⟨C,by omega⟩;show (_||_)=true;rw[show PW.pa (.body h)=h from rfl,z,B];rcases l.bd a h e with⟨o,y⟩|⟨n,y,D⟩
  ·rw[y];simp[PW.kind]
  rw[y];simp[PW.kind,PW.pa,D]
theorem hp_sound(b:Rep s m σ)(f:GI s σ):(hpOf s m).sound=true:=by
 unfold Hp.sound;rw[hp_ok b,Bool.true_and];have hb:=b.fi.bd
 have key:∀ n:Nat,(n:Int)<=s.p->(hpOf s m).sndT n=true:=by
  intro n
  induction n with
  |zero=>intro _;rfl
  |succ n i=>
   intro j
   show (_&&_)=true
   rw[i (by omega),hp_snd b f ⟨by omega,by omega⟩];rfl
 exact key (hpOf s m).p.toNat (by show ((s.p.toNat:Nat):Int)<=s.p;omega)
theorem okK.same{W:Int}{l k:List Bk}:∀ {lo:Int},okK W lo l->okK W lo k->(∀ b,b ∈ l↔b ∈ k)->l=k:=by
 induction l generalizing k with
 |nil=>
  intro lo _ _ h
  cases k with
  |nil=>rfl
  |cons b k=>exact absurd ((h b).2 (by simp)) (by simp)
 |cons a l p=>
  intro lo f n h
  cases k with
  |nil=>exact absurd ((h a).1 (by simp)) (by simp)
  |cons b k=>
   have m1:=okK.mem f.2.2
   have m2:=okK.mem n.2.2
   have o:=(h a).1 (by simp)
   have hb:=(h b).2 (by simp)
   have e:a=b:=by
    rcases List.mem_cons.1 o with e|e
    ·exact e
    ·rcases List.mem_cons.1 hb with j|j
     ·exact j.symm
     ·have:=m1 b j;have:=m2 a e;have:=f.2.1;have:=n.2.1;omega
   subst e
   congr 1
   refine p f.2.2 n.2.2 fun x=>?_
   constructor
   ·intro i
    rcases List.mem_cons.1 ((h x).1 (by simp[i])) with e|e
    ·have:=m1 x i;rw[e]at this;have:=f.2.1;omega
    ·exact e
   ·intro i
    rcases List.mem_cons.1 ((h x).2 (by simp[i])) with e|e
    ·have:=m2 x i;rw[e]at this;have:=f.2.1;omega
    ·exact e
theorem hp_mem(z:Rep s m σ)(j:GI s σ)(x:Bk):x ∈ (hpOf s m).bl↔∃ b:Bl,σ.has b/\b.at'=x.a/\b.len=x.n:=by
 have O:=z.fi.bd;unfold Hp.bl;rw[if_pos (hp_ok z),Hp.mem_blT];have R:(hpOf s m).p.toNat=s.p.toNat:=rfl;rw[R];constructor
 ·rintro⟨a,U,f⟩;have C:0<=(a:Int)/\(a:Int)<s.p:=by omega
  obtain⟨_,B,l⟩:=hp_pg z j C;unfold Hp.pgB at f;rw[B,l]at f;cases e:σ.pg a with
  |large n=>rw[e,if_pos (by simp[PW.kind])]at f;simp only[List.mem_singleton]at f;subst f;exact⟨.lar a n,e,rfl,rfl⟩
  |super k b=>
   rw[e,if_neg (by simp[PW.kind]),if_pos (by simp[PW.kind]),Hp.mem_slB]at f;obtain⟨i,hi,t,rfl⟩:=f;have D:=j.pf a;rw[e]at D;have M:=z1t D.2.1;have L:(i:Int)<zah k:=by have T:i<(zah k).toNat:=hi;omega
   have q:0<=(i:Int)/\(i:Int)<16:=by omega
   obtain⟨J,_⟩:=hp_sl z j C q;rw[J]at t;have hs:=j.sk a i;rw[e]at hs;unfold zhi at hs;dsimp only at hs;rw[if_pos ⟨q.1,L⟩]at hs;rcases hs with r|r|⟨c,r⟩
   ·rw[r]at t;exact absurd t (by simp[SW.kind])
   ·refine⟨.sm a i k,r,?_,?_⟩
    ·show (a:Int)*64+i*zbj k=_*64+_*zbj ((hpOf s m).pa a);rw[l,e];rfl
    show zbj k=zbj ((hpOf s m).pa a);rw[l,e];rfl
   rw[r]at t;exact absurd t (by simp[SW.kind])
  |empty=>rw[e,if_neg (by simp[PW.kind]),if_neg (by simp[PW.kind])]at f;simp at f
  |held o=>rw[e,if_neg (by simp[PW.kind]),if_neg (by simp[PW.kind])]at f;simp at f
  |body h=>rw[e,if_neg (by simp[PW.kind]),if_neg (by simp[PW.kind])]at f;simp at f
 rintro⟨b,hb,H,I⟩;cases b with
 |lar p n=>
  have e:σ.pg p= .large n:=hb;have D:=j.pf p;rw[e]at D;have N:0<=p/\p<s.p:=D.1;refine⟨p.toNat,by omega,?_⟩;have y:((p.toNat:Nat):Int)=p:=by omega
  obtain⟨_,B,l⟩:=hp_pg z j N;unfold Hp.pgB;rw[y,B,l,e,if_pos (by simp[PW.kind]),List.mem_singleton];cases x;have q1:p*64=_:=H;have q2:n*64=_:=I;dsimp only at q1 q2;subst q1 q2;rfl
 |sm p i k=>
  obtain⟨⟨S,e⟩,hi,t,F,G⟩:=zto j hb;have r:σ.sl p i= .taken k:=hb;have M:=z1t t;refine⟨p.toNat,by omega,?_⟩;have y:((p.toNat:Nat):Int)=p:=by omega
  obtain⟨_,B,l⟩:=hp_pg z j (a:=p) ⟨F,G⟩;unfold Hp.pgB;rw[y,B,l,e,if_neg (by simp[PW.kind]),if_pos (by simp[PW.kind]),Hp.mem_slB];obtain⟨J,_⟩:=hp_sl z j (a:=p) (i:=i) ⟨F,G⟩ (by omega);have E:((i.toNat:Nat):Int)=i:=by omega
  refine⟨i.toNat,by show i.toNat<(zah k).toNat;omega,by rw[E,J,r];rfl,?_⟩;rw[E,l,e];cases x;have q1:p*64+i*zbj k=_:=H;have q2:zbj k=_:=I;dsimp only at q1 q2;subst q1 q2;rfl
theorem hp_bl(j:Rep s m σ)(i:GI s σ){l:List Bk}(h:zjj (s.p*64) σ.has l):(hpOf s m).bl=l:=by
 have f:=Hp.bl_ok (hp_sound j i);have e:64*(hpOf s m).p=s.p*64:=Int.mul_comm _ _;rw[e]at f;refine okK.same f h.ok fun b=>?_;rw[hp_mem j i];exact(h.mem b.a b.n).symm
end

section

open Go.RowKit

attribute [local go_sem ↓] Go.wp_at_zero Go.wp_at_succ

theorem room22(ao:Option Addr)(n cap:Nat)(m:Nat)(i:(n:Int)<=9223372036854775807)(w:World):Calls Tryz.prog 15 #[.slice ao n cap,.int .i64 (m:Int)] w fun e w'=>e= .returned (.bool (decide (n<=m)))/\w'=w:=by
 by_cases h:n<=m
 ·rw[decide_eq_true h];have b:(n:Int)<=(m:Int):=by omega
  go_in;go_wp2_with fail;go_returns;exact⟨rfl,rfl⟩
 rw[decide_eq_false h];have b:¬ (n:Int)<=(m:Int):=by omega
 go_in;go_wp2_with fail;go_returns;exact⟨rfl,rfl⟩
theorem chAt{W:World}{xs:List Ch}{ao:Option Addr}{n cap:Nat}(J:n=xs.length)(D:RdS W 6 (.slice ao n cap) n (xs.flatMap Ch.cells)){i:Nat}(hi:i<xs.length):∃ f b,ao=some ⟨f,b,.none⟩/\∀ H X,W.heap.size<=H->Below H W X->(∀ k,k<6->X.cell? ⟨f,b+i*6+k,.none⟩=xs[i].cells[k]?)/\f<X.heap.size:=by
 obtain⟨r,o,e,q,z,I,l⟩:=D;injection e with t E F;subst t;obtain⟨f,b,rfl,B,j⟩:=l (by omega);refine⟨f,b,rfl,fun H X G hb=>⟨fun k C=>?_,by have:=hb.size;omega⟩⟩;have y:X.cell? ⟨f,b+i*6+k,.none⟩=W.cell? ⟨f,b+i*6+k,.none⟩:=hb.cell (p:=⟨f,_,.none⟩) (show f<H by omega);rw[y,Nat.add_assoc,j _ (by omega)];exact yan xs i hi k C
theorem ai_bl{s:Sh}{d:Wd}{n:Nat}(h:AI s d n):(hpOf s d.m).bl=(jdOf s d).l:=by
 obtain⟨_,σ,f,b⟩:=h;have:=b.bl;rw[b.W]at this;exact hp_bl f.rep f.gi this
theorem wblocks_any{s:Sh}{d:Wd}{n:Nat}(h:AI s d n)(v:Value)(w:World)(D:RdZ .u64 w v d.m.ws):
  Calls Tryz.prog 20 #[.agg #[.int .i64 s.p,.int .i64 s.c,.int .i64 s.m],v] w fun e w'=>Below w.heap.size w w'/\∃ ao cap,e= .returned (.slice ao (jdOf s d).l.length cap)/\(jdOf s d).l.length<=cap/\(cap:Int)<=9223372036854775807/\
   Hid (∀ k (o:k<(jdOf s d).l.length),∃ b i,ao=some ⟨b,i,.none⟩/\(w.heap.size<=b/\b<w'.heap.size)/\w'.cell? ⟨b,i+k*2,.none⟩=some (.int .i64 ((jdOf s d).l[k]).a)/\w'.cell? ⟨b,i+k*2+1,.none⟩=some (.int .i64 ((jdOf s d).l[k]).n)):=by
 refine(yjc (hpOf s d.m) v w D h.1.fit).mono fun e w' ⟨v',r,t,j⟩=>⟨t,?_⟩;rw[ai_bl h]at j;obtain⟨ao,cap,rfl,y,z,_,B⟩:=RdS.zew j;refine⟨ao,cap,r,y,z,hd' fun k o=>?_⟩;obtain⟨b,i,q,hb,hc⟩:=B (by omega);have C:=(j.lt b (by rw[q];rfl)).1;refine⟨b,i,q,⟨C,hb⟩,?_,?_⟩
 ·refine(hc (k*2) (by omega)).trans ?_;exact yh1 _ _ 0 o (by omega)
 rw[Nat.add_assoc];refine(hc (k*2+1) (by omega)).trans ?_;exact yh1 _ _ 1 o (by omega)
end

end Go.Proofs.YtkbddndcegpllaaGreat
