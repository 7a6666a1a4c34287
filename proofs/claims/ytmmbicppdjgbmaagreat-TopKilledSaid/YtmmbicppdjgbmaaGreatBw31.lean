/- Lemmas for the claim. -/
import Derived.Test.YtmmbicppdjgbmaaGreatBw30

set_option linter.all false
set_option maxHeartbeats 4000000
set_option maxRecDepth 100000
namespace Go.Proofs.YtmmbicppdjgbmaaGreat

attribute [local go_sem] rowW GB EG

section

open Go.RowKit

attribute [local go_sem ↓] Go.wp_at_zero Go.wp_at_succ

theorem z7m{s:Sh}{cl:Int}{r:Rs}{c:Option Cm}(h:jbIs s cl (.mal r c))(hd:(Jb.mal r c).done=false):r.done=false\/(r.done=true/\c=none/\∃ b,r.got=some b):=by
 have f:(r.done&&(!r.got.isSome||IC c))=false:=hd;cases hrd:r.done
 ·exact .inl rfl
 rw[hrd,Bool.true_and,Bool.or_eq_false_iff]at f;refine .inr ⟨rfl,?_,?_⟩
 ·rcases hc:c with _|x
  ·rfl
  have:=h.2 x hc;have i:=f.2;rw[hc]at i;have i:x.done=false:=i;rw[this.2.1]at i;cases i
 rcases hg:r.got with _|b
 ·have j:=f.1;rw[hg]at j;cases j
 exact⟨b,rfl⟩
structure cH (G:Nat->Prop) (p b:Nat) (w w':World) (jv:Value) (s:Sh) (cl:Int) (j:Jb) (m:Mem):Prop where
 wds:oA w' p b (j.step s cl m).2
 only:Only (fun k=> G k\/k=p\/k=b) w w'
 job:JbO (grow G w w') w' jv s cl (j.step s cl m).1
theorem aK{q p B1 B2:Nat}{T:TypeId}{x r0:Value}{f:FuncId}{w:World}{Q:Ending->World->Prop}(h1:w.cell? ⟨B1,0,.none⟩=some (.pointer (some ⟨q,0,.none⟩)))(h2:w.cell? ⟨B2,0,.none⟩=some (.pointer (some ⟨p,0,.none⟩)))(o:B1<w.heap.size)(t:B2<w.heap.size)(y:q<w.heap.size)(n:w.cell? ⟨q,8,.none⟩=some (.iface T x)) (m1:∀ W:World,(method (Tryz.prog.types.size+Made.depth) T x "Step").run Tryz.prog W= .ok (f,r0) W) (f1:∀ W:World,(callFunc f #[r0,some p]).run Tryz.prog W= .ok (.enter f #[r0,some p]) W)(b:∀ Y,jW w Y->Calls Tryz.prog f #[r0,some p] Y fun e w'=>e= .returned (.tuple #[])/\Q e w'):
  Calls Tryz.prog 99 #[some B1,some B2] w fun e w'=>e= .returned (.tuple #[])/\Q e w':=by
 replace b:=hd' b;simp[go_sem]at m1;go_in;go_wp2_with fail;refine wret 5 ?_;repeat (go_big_quiet_step (fail))
 refine wqn fun Z i=>?_;have j:=i;go_wp2_with ((with_reducible refine(b _ j).mono ?_);rintro r z ⟨rfl,m⟩);go_returns;exact⟨rfl,m⟩
theorem nI{G:Nat->Prop}{w Y Z:World}(hb:Below w.heap.size w Y)(hs:Y.heap.size<=Z.heap.size):∀ k,grow G Y Z k->grow G w Z k:=fun k b=>b.imp id (fun h=>⟨Nat.le_trans hb.size h.1,h.2⟩)
theorem cH.mk'{G:Nat->Prop}{p b:Nat}{w Y Z:World}{jv:Value}{s:Sh}{cl:Int}{j:Jb}{m:Mem}(hb:Below w.heap.size w Y)(h1:oA Z p b (j.step s cl m).2)(h2:Only (fun k=>G k\/k=p\/k=b) Y Z)(h3:JbO (grow G w Z) Z jv s cl (j.step s cl m).1):cH G p b w Z jv s cl j m:=
 ⟨h1,(Only.of_below (F:=fun k=>G k\/k=p\/k=b) hb).trans h2 (fun _ _ e=>e),h3⟩
theorem z6s{G:Nat->Prop}{q p b B1 B2:Nat}{s:Sh}{cl:Int}{j:Jb}{m:Mem}{w:World}{jv:Value}(h1:w.cell? ⟨B1,0,.none⟩=some (.pointer (some ⟨q,0,.none⟩)))(h2:w.cell? ⟨B2,0,.none⟩=some (.pointer (some ⟨p,0,.none⟩)))(M:B1<w.heap.size)(N:B2<w.heap.size)(O:q<w.heap.size)(F:w.cell? ⟨q,8,.none⟩=some jv) (y:JbO G w jv s cl j) (C:∀ k,G k->k<w.heap.size) (L:oA w p b m) (J:¬ G p) (hb:¬ G b) (I:Fits s m) (B:jbIs s cl j) (hd:j.done=false) (hs:m.st<1000000000):
  Calls Tryz.prog 99 #[some B1,some B2] w fun e w'=>e= .returned (.tuple #[])/\cH G p b w w' jv s cl j m:=by
 cases j with
 |mal r c=>
  obtain⟨q1,rfl,y⟩:=y;refine aK h1 h2 M N O F (fun _=>by kernel_rfl) (fun _=>by kernel_rfl) (Q:=fun _ w'=>cH G p b w w' _ s cl (.mal r c) m) fun Y i=>(zt8 (y.below i) (L.below i) J hb I ⟨fun x z=>(B.1.sk x z).1.ok,fun x z=>(B.1.rn x z).ok⟩ hs (z7m B hd)).mono fun e w' hS=>?_;obtain⟨o,r',c',Z,D⟩:=hS;refine⟨o.ret,.mk' i o.wds o.only ?_⟩;rw[Z];obtain⟨a1,R,T,x2,U,E,V,X,S⟩:=D;refine⟨q1,rfl,fun k n=>?_,nI i o.only.size _ R,T,x2,U,fun k n=>⟨nI i o.only.size _ (E k n).1,(E k n).2⟩,V,X,fun x z=>⟨⟨nI i o.only.size _ (S x z).1.1,(S x z).1.2⟩,(S x z).2⟩⟩;rcases n with n|n
  ·exact Nat.lt_of_lt_of_le (C k n) (Nat.le_trans i.size o.only.size)
  exact n.2
 |fre f=>obtain⟨q1,rfl,y⟩:=y;refine aK h1 h2 M N O F (fun _=>by kernel_rfl) (fun _=>by kernel_rfl) (Q:=fun _ w'=>cH G p b w w' _ s cl (.fre f) m) fun Y i=>(OW (y.below i) (L.below i) J hb I B.ok hs).mono fun e w' hS=>?_;obtain⟨o,D⟩:=hS;refine⟨o.ret,.mk' i o.wds o.only ?_⟩;obtain⟨a1,T,R,E⟩:=D;exact⟨q1,rfl,nI i o.only.size _ a1,T,R,fun h=>nI i o.only.size _ (E h)⟩
 |aga t=>
  obtain⟨q1,rfl,y⟩:=y;refine aK h1 h2 M N O F (fun _=>by kernel_rfl) (fun _=>by kernel_rfl) (Q:=fun _ w'=>cH G p b w w' _ s cl (.aga t) m) fun Y i=>(zza (y.below i) (L.below i) J hb I B.ok hs).mono fun e w' hS=>?_;obtain⟨o,D⟩:=hS;refine⟨o.ret,.mk' i o.wds o.only ⟨q1,rfl,D.weak (nI i o.only.size) fun k n=>?_⟩⟩;rcases n with n|n
  ·exact Nat.lt_of_lt_of_le (C k n) (Nat.le_trans i.size o.only.size)
  exact n.2
 |hei a=>
  obtain⟨q1,rfl,y⟩:=y;refine aK h1 h2 M N O F (fun _=>by kernel_rfl) (fun _=>by kernel_rfl) (Q:=fun _ w'=>cH G p b w w' _ s cl (.hei a) m) fun Y i=>(zyd q1 p b s a m Y (y.below i).2 (L.below i) (fun e=>J (e ▸ y.1)) (fun e=>hb (e ▸ y.1)) I B.1 hs).mono fun e w' hS=>?_;refine⟨hS.ret,.mk' i hS.wds (hS.only.weak fun k n=>?_) ⟨q1,rfl,.inl y.1,hS.row⟩⟩;rcases n with rfl|n|n
  ·exact .inl y.1
  ·exact .inr (.inl n)
  exact .inr (.inr n)
theorem zY{w:World}{B C:Nat}{E:TypeId}{size:Nat}{v:Value}{n:Nat}{xs:List Value}(h:w.ownsRow B E size v n xs)(hc:C<=B):w.ownsRow C E size v n xs:=by
 refine⟨h.1,?_⟩;rcases h.2 with f|⟨g,cap,b,rfl,h1,r⟩
 ·exact .inl f
 exact .inr ⟨g,cap,b,rfl,Nat.le_trans hc h1,r⟩
theorem size_alloc(w:World)(o:Obj):(w.alloc o).heap.size=w.heap.size+1:=by simp
theorem zzj{F G N:Nat->Prop}{q p b sp:Nat}{s:Sh}{k:Kl}{m:Mem}{j:Jb}{jv sl:Value}{w Y Z:World}{r:Ending}(R:∀ i,F i->i<w.heap.size)(U:F q)(hp:¬ F p)(hb:¬ F b)(X:k.job=some j)(y:∀ i,foot sp sl i->F i/\i≠q)(S:∀ i,G i->F i/\i≠q/\¬ foot sp sl i)(D:∀ i,N i->G i\/(w.heap.size<=i/\i<Y.heap.size)) (V:oA Y p b (j.step s k.c m).2) (I:Only (fun i=>F i\/i=p\/i=b) w Y) (T:JbO N Y jv s k.c (j.step s k.c m).1)(B:LK q sp s {k with told:=k.told||(j.step s k.c m).1.gave,steps:=k.steps+1} (j.step s k.c m).1.done jv sl 1 [⟨k.op.k,k.steps+1, [k.op.a,k.op.n,0,0,0,0,0,0]⟩] (k.tells (j.step s k.c m).1) Y Z r):
  ∃ v,r= .returned v/\PJ F q p b w Z (.returned (.tuple #[v,.int .i64 0])) s k m:=by
 have O:k.step s m=(k.after (j.step s k.c m).1,(j.step s k.c m).2,k.tells (j.step s k.c m).1,0):=by unfold Kl.step;rw[X]
 obtain⟨v,hv,J⟩:=B.ret;have L:=I.size;have M:=B.only.size;have b0:=R q U;have z:∀ i,(i=q\/foot sp sl i)->F i:=fun i hi=>by rcases hi with rfl|hi;exact U;exact(y i hi).1
 have t:∀ i,N i->¬ (i=q\/foot sp sl i):=fun i hi e=>by
  rcases D i hi with h|h
  ·rcases e with e|e
   ·exact(S i h).2.1 e
   exact(S i h).2.2 e
  have:=R i (z i e);omega
 refine⟨v,hv,⟨⟨_,by rw[O],?_⟩,?_,?_,?_⟩⟩
 ·rw[O];exact zY J L
 ·rw[O];exact V.only B.only (fun e=>hp (z p e)) (fun e=>hb (z b e))
 ·rw[O];generalize (j.step s k.c m).1=j' at *;have E:=T.only B.only t;have f:=B.row;have o:=B.stk;refine⟨EE R (Nat.le_trans L M),.inl U,?_⟩;cases hd:j'.done
  ·rw[hd]at f o;refine⟨sp,sl,jv,N,?_,?_,fun i hi=>⟨.inl (y i hi).1,(y i hi).2⟩,fun i hi=>⟨?_,fun e=>t i hi (.inl e),fun e=>t i hi (.inr e)⟩,fun e=>?_,fun x C=>?_⟩
   ·have e:(!(k.after j').job.isSome)=false:=by simp[Kl.after,hd]
    rw[e];exact f
   ·have e:iF (k.after j')= [⟨k.op.k,k.steps+1, [k.op.a,k.op.n,0,0,0,0,0,0]⟩]:=by unfold iF Kl.after;simp[hd]
    rw[e];exact o
   ·rcases D i hi with h|h
    ·exact .inl (S i h).1
    exact .inr ⟨h.1,Nat.lt_of_lt_of_le h.2 M⟩
   ·simp[Kl.after,hd]at e
   have e:(k.after j').job=some j':=by simp[Kl.after,hd]
   rw[e]at C;injection C with C;subst C;exact E
  rw[hd]at f o;refine⟨sp,.slice none 0 0,.nilIface,fun _=>False,?_,?_,fun i hi=>?_,fun i hi=>hi.elim,fun _=>rfl,fun x C=>?_⟩
  ·have e:(!(k.after j').job.isSome)=true:=by simp[Kl.after,hd]
   rw[e];exact f
  ·have e:iF (k.after j')= []:=by unfold iF Kl.after;simp[hd]
   rw[e];exact o
  ·rcases hi with rfl|hi
   ·exact⟨.inl (y _ (.inl rfl)).1,(y _ (.inl rfl)).2⟩
   cases hi
  simp[Kl.after,hd]at C
 exact I.trans B.only (fun i _ hi=>.inl (z i hi))
theorem zty{F:Nat->Prop}{q p b:Nat}{s:Sh}{k:Kl}{m:Mem}{j:Jb}{w:World}(h:KlO F w q s k)(hw:oA w p b m)(hp:¬ F p)(hb:¬ F b)(hf:Fits s m)(c5:m.fit)(hj:k.job=some j)(c8:jbIs s k.c j)(c7:j.done=false)(hc:0<=k.c/\k.c<s.c)(er:0<=k.steps/\k.steps<1000000)(hs:m.st<1000000000):
  Calls Tryz.prog 63 #[some q,some p] w fun r w'=>PJ F q p b w w' r s k m:=by
 have ca:k.rests=false:=by unfold Kl.rests;rw[hj];rfl
 obtain⟨hF,hq,sp,sl,jv,G,b4,b6,C,hG,_,bj⟩:=id h;have hJ:=bj j hj;clear bj;have hi:(!k.job.isSome)=false:=by rw[hj];rfl
 rw[hi]at b4;have c6:iF k= [⟨k.op.k,k.steps, [k.op.a,k.op.n,0,0,0,0,0,0]⟩]:=by unfold iF;rw[hj]
 rw[c6]at b6;have e4:IntKind.i64.wrap (k.steps+1)=k.steps+1:=by rw[IntKind.wrap_i64];omega
 have S:=((Below.refl w.heap.size w).alloc lr (.cells #[some q] 80)).alloc (by simp) (.cells #[some p] 75);have hH:aA ((w.alloc (.cells #[some q] 80)).alloc (.cells #[some p] 75)) w.heap.size #[some q] 80:=aA.alloc (jA _ _) _;have hK:aA ((w.alloc (.cells #[some q] 80)).alloc (.cells #[some p] 75)) (w.heap.size+1) #[some p] 75:=by have h:=jA (w.alloc (.cells #[some q] 80)) (.cells #[some p] 75);rw[size_alloc]at h;exact h
 have b3:=(h.below S).rests;rw[ca]at b3;replace b3:=hd' b3;clear h ca hi c6;have bm:((w.alloc (.cells #[some q] 80)).alloc (.cells #[some p] 75)).heap.size=w.heap.size+2:=by rw[size_alloc,size_alloc]
 have D:=b4.below S;have ba:=b6.below S;have bx:=hJ.below S;have cg:=hw.below S;go_in;go_upto_region 1 with fail;generalize (w.alloc (.cells #[some q] 80)).alloc (.cells #[some p] 75)=X at *;obtain⟨B2,eh,bf⟩:∃ H,Hid (H=w.heap.size+1)/\H=w.heap.size+1:=⟨_,hd' rfl,rfl⟩;obtain⟨B1,eg,bc⟩:=hidv w.heap.size;simp only[<-bf]at hK ⊢;rw[<-bc]at hH ⊢;have ec:w.heap.size<=B1:=by omega
 have ed:w.heap.size<=B2:=by omega
 clear bc bf;have l1:B1<X.heap.size:=hH.lt;have c0:=ce (.pointer (some ⟨q,0,.none⟩)) (hH.cell 0);have ef:∀ W:World,(binOp .eql 80 (.pointer (some ⟨q,0,.none⟩)) (.pointer none)).run Tryz.prog W= .ok (.bool false) W:=fun W=>by kernel_rfl
 have ej:∀ (fn:Fn) (first cap:Array Value) (w:World),(Instr.makeFunc fn first cap).run Tryz.prog w= .ok (.func fn first cap) w:=fun _ _ _ _=>rfl;have e9:=hF q hq;have b0:∀ i,G i->i<w.heap.size:=fun i hi=>hF i (hG i hi).1;have ek:=hw.ltp;have ei:=hw.ltb;have o:=(Below.refl X.heap.size X).alloc lr (.cells #[.bool false] 4);have b1:=z6s (w:=X.alloc (.cells #[.bool false] 4)) (q:=q) (p:=p) (b:=b) (G:=G) (s:=s) (cl:=k.c) (j:=j) (m:=m) (jv:=jv) (B1:=B1) (B2:=B2) ((hH.below o).cell 0) ((hK.below o).cell 0) (hH.below o).lt (hK.below o).lt (D.below o).lt ((D.below o).cell 8) (bx.below o) (fun i hi=>by have:=b0 i hi;rw[size_alloc];omega) (cg.below o) (fun e=>hp (hG p e).1) (fun e=>hb (hG b e).1) hf c8 c7 hs
 have hg:=zyf B1 B2 X (Q:=fun Y=>cH G p b (X.alloc (.cells #[.bool false] 4)) Y jv s k.c j m) (b1.mono fun e w' z=>⟨z.1,z.2,by
  have hn:aA (X.alloc (.cells #[.bool false] 4)) X.heap.size #[.bool false] 4:=jA _ _
  refine hn.only z.2.only (fun e=>?_)
  rcases e with e|e|e
  ·have:=b0 _ e;omega
  ·omega
  ·omega⟩)
 replace hg:=hd' hg;clear b1;go_upto_region 7 with(first|(go_at_call 65;(with_reducible refine b3.out.mono ?_);rintro r w1 ⟨rfl,e2⟩;obtain rfl:=e2.symm)|(go_at_call 98;(with_reducible refine hg.out.mono ?_);rintro r U ⟨rfl,Y,hQ,bn⟩;have O:aA U B1 #[some q] 80:=(by rw[bn];exact((hH.below o).only hQ.only (fun e=>by rcases e with e|e|e;have:=b0 _ e;omega;omega;omega)).other (by omega) _ _);have cq:=ce (.pointer (some ⟨q,0,.none⟩)) (O.cell 0);have e5:=O.lt));have E:U=Y.setCell ⟨w.heap.size+2,0,.none⟩ (.bool true):=by rw[bn,bm]
 rw[<-E];have c4:X.heap.size=w.heap.size+2:=bm;have bz:(X.alloc (.cells #[.bool false] 4)).heap.size=w.heap.size+3:=by rw[size_alloc,c4]
 have cb:U.heap.size=Y.heap.size:=by rw[E];exact size_set _ _ _
 have cm:Only (fun i=>F i\/i=p\/i=b) w (X.alloc (.cells #[.bool false] 4)):=Only.of_below (zA S o);have cp:Only (fun i=>F i\/i=p\/i=b) w Y:=cm.trans hQ.only (fun i _ hi=>hi.imp (fun e=>(hG i e).1) id);have ch:Only (fun i=>F i\/i=p\/i=b) w U:=by rw[E];exact Only.setCell cp (.inr (by show w.heap.size<=w.heap.size+2;omega)) _
 have bp:∀ i,(i=q\/foot sp sl i)->¬ (G i\/i=p\/i=b):=fun i hi e=>by
  have bs:F i:=by rcases hi with rfl|hi;exact hq;exact(C i hi).1
  rcases e with e|e|e
  ·rcases hi with rfl|hi
   ·exact(hG _ e).2.1 rfl
   exact(hG i e).2.2 hi
  ·exact hp (e ▸ bs)
  exact hb (e ▸ bs)
 have b2:∀ i,(i=q\/foot sp sl i)->i<w.heap.size:=fun i hi=>by rcases hi with rfl|hi;exact e9;exact hF i (C i hi).1
 have I:Only (fun i=>i=w.heap.size+2) Y U:=by rw[E];exact Only.setCell (F:=fun i=>i=w.heap.size+2) (Only.refl _ _) (.inl rfl) _
 have y:=((D.below o).only hQ.only (bp q (.inl rfl))).only I (by omega);have L:=I.stk (hQ.only.stk (ba.below o) (fun i hi=>bp i (.inr hi))) (fun i hi e=>by have:=b2 i (.inr hi);omega)
 have bk:=hQ.job.only I (fun i hi e=>by
  rcases hi with hi|hi
  ·have:=b0 i hi;omega
  ·omega)
 have cc:=hQ.wds.only I (by omega) (by omega);have R:∀ i,grow G (X.alloc (.cells #[.bool false] 4)) Y i->G i\/(w.heap.size<=i/\i<U.heap.size):=fun i hi=>by
  rcases hi with hi|hi
  ·exact .inl hi
  exact .inr (by omega)
 generalize cv:grow G (X.alloc (.cells #[.bool false] 4)) Y=G2 at *;clear bn E hQ hg bm c4 bz cm cp I o b3 D ba bx cg hJ b4 b6 hw cv cb bp;have eu:∀ Z W:World,Only (fun i=>i=q\/foot sp sl i) Z W->Only (fun i=>F i\/i=p\/i=b) Z W:=fun Z W z=>z.weak (fun i hi=>.inl (by rcases hi with rfl|hi;exact hq;exact(C i hi).1));have bi:=hd' (fun (W:World) (r:Ending) (Y2:World) (h1:oA Y2 p b (j.step s k.c m).2) (h2:Only (fun i=>F i\/i=p\/i=b) w Y2) (h3:JbO G2 Y2 jv s k.c (j.step s k.c m).1) (h4:∀ i,G2 i->G i\/(w.heap.size<=i/\i<Y2.heap.size)) (hT:LK q sp s {k with told:=k.told||(j.step s k.c m).1.gave,steps:=k.steps+1} (j.step s k.c m).1.done jv sl 1 [⟨k.op.k,k.steps+1, [k.op.a,k.op.n,0,0,0,0,0,0]⟩] (k.tells (j.step s k.c m).1) Y2 W r)=>zzj hF hq hp hb hj C hG h4 h1 h2 h3 hT);have c9:=(KJ c8 hc c7 hf (by exact c5)).2.1
 have M:=hd' (fun (Y2:World) (h1:aA Y2 q (GB s {k with steps:=k.steps+1} false jv (.pointer (some ⟨sp,0,.none⟩))) 132) (h2:SK 0 Y2 sp sl 1 [⟨k.op.k,k.steps+1, [k.op.a,k.op.n,0,0,0,0,0,0]⟩]) (h3:JbO G2 Y2 jv s k.c (j.step s k.c m).1) (h4:∀ i,G2 i->i<Y2.heap.size)=>z6y (k:= {k with steps:=k.steps+1}) h1 h2 (fun e=>(C q e).2 rfl) h3 (fun i hi=>⟨fun e=>by
   rcases R i hi with z|z
   ·exact(hG i z).2.1 e
   ·have:=b2 i (.inl e);omega,fun e=>by
   rcases R i hi with z|z
   ·exact(hG i z).2.2 e
   ·have:=b2 i (.inr e);omega⟩) h4 c9 hf.may hc)
 generalize (j.step s k.c m).1=j2 at *;generalize (j.step s k.c m).2=m2 at *;obtain⟨eb,sc,sm⟩:=s;obtain⟨kc,kf,⟨ok,oa,on⟩,kj,kt,V⟩:=k;dsimp only[GB]at y L e4 M bk;have e7:q<U.heap.size:=y.lt;have f2:=DA y;have cr:=ci V (y.cell 12);go_upto_region 8 with fail;have B:aA (U.setCell ⟨q,12,.none⟩ (.int .i64 (V+1))) q #[eb,sc,sm,kc,kf,ok,oa,on,jv,.bool false,kt,some sp,.int .i64 (V+1)] 132:=y.set 12 (.int .i64 (V+1));have oq:Only (fun i=>i=q) U (U.setCell ⟨q,12,.none⟩ (.int .i64 (V+1))):=Only.setCell (F:=fun i=>i=q) (Only.refl _ _) (.inl rfl) _;have b7:=oq.stk L (fun i hi e=>(C i hi).2 e)
 have bu:=bk.only oq (fun i hi e=>by
  rcases R i hi with z|z
  ·exact(hG i z).2.1 e
  ·omega)
 have cd:=cc.only oq (fun e=>hp (e ▸ hq)) (fun e=>hb (e ▸ hq));have cj:=ch.trans oq (fun i _ hi=>.inl (by rw[hi];exact hq));have N:=O.only oq (by omega);have el:U.heap.size<=(U.setCell ⟨q,12,.none⟩ (.int .i64 (V+1))).heap.size:=Nat.le_of_eq (size_set _ _ _).symm;generalize U.setCell ⟨q,12,.none⟩ (.int .i64 (V+1))=w3 at *;clear y L bk cc ch O cq e5 e7 f2 cr oq;have e8:q<w3.heap.size:=B.lt;have e6:B1<w3.heap.size:=N.lt;have d0:=ce (.pointer (some ⟨q,0,.none⟩)) (N.cell 0);have cs:=ce (.pointer (some ⟨sp,0,.none⟩)) (B.cell 11);have cu:=ci (V+1) (B.cell 12);refine wret 8 ?_;repeat (go_big_quiet_step (fail))
 refine wqn fun w4 J=>?_;have b5:=B.below J;have b8:=b7.below J;have bv:=bu.below J;have cf:=cd.below J;have bg:=N.below J;have ck:=cj.trans (Only.of_below (F:=fun _=>False) J) (fun _ _ z=>z.elim);have em:=J.size;clear B b7 bu cd cj N e8 e6 d0 cs cu;have bb:=zz4 (pc':=V+1) b8 (by simp);replace bb:=hd' bb;go_upto_region 9 with(go_at_call 100;(with_reducible refine bb.out.mono ?_);rintro r w5 ⟨rfl,T,b9⟩);have e0:¬ foot sp sl q:=fun e=>(C q e).2 rfl;have bq:=b5.only T e0
 have bw:=bv.only T (fun i hi e=>by
  rcases R i hi with z|z
  ·exact(hG i z).2.2 e
  ·have:=b2 i (.inr e);omega)
 have e3:=cf.only T (fun e=>hp (C p e).1) (fun e=>hb (C b e).1);have bh:=bg.only T (fun e=>by have:=b2 B1 (.inr e);omega);have ea:=ck.trans T (fun i _ hi=>.inl (C i hi).1);have ep:=T.size;have cz:eH [(⟨ok,V, [oa,on,0,0,0,0,0,0]⟩:Fr)] 1 (V+1)= [⟨ok,V+1, [oa,on,0,0,0,0,0,0]⟩]:=rfl;rw[cz]at b9;clear b5 b8 bv cf ck bg bb;have es:B1<w5.heap.size:=bh.lt;have g0:=ce (.pointer (some ⟨q,0,.none⟩)) (bh.cell 0)
 have e1:=hd' (M w5 bq b9 bw (fun i hi=>by
  rcases R i hi with z|z
  ·have:=b0 i z;omega
  ·omega))
 have cy:=hd' (fun W r hT=>bi W r w5 e3 ea bw (fun i hi=>by
  rcases R i hi with z|z
  ·exact .inl z
  ·exact .inr (by omega)) hT)
 clear M bi;go_wp2_with (go_at_call 101;(with_reducible refine e1.out.mono ?_);rintro r w6 hT;obtain⟨v6,rfl,cx⟩:=cy _ _ hT);go_returns;exact cx
theorem zyq(s:Sh)(c k a n:Int)(w:World)(hk:1<=k/\k<=4):
  Calls Tryz.prog 67 #[.agg #[s.p,s.c,s.m],c,.agg #[k,a,n]] w fun e w'=>e= .returned (.tuple #[.int .i64 (WC s c k a n),.bool (vD s c k a n)])/\Below w.heap.size w w':=by
 have C:=fun W=>MM s a W;have L:=fun W=>jM n W;have z:=fun W=>lC s.p s.c s.m a W;have y:=fun W=>gQ n W;obtain⟨B,o,I⟩:=hidv (OD s c k a n);obtain⟨E,b,J⟩:=hidv (HG s k n);unfold WC vD;rw[<-I,<- J];clear I J;unfold OD at o;unfold HG at b;generalize uA s.p s.c s.m a=sx at *;generalize spB s a=there at *;generalize lenB n=F at *;generalize wi n 33 512=large at *;generalize lenV n=ln at *;generalize runV n=pages at *;generalize (if there=true then a/64 else 0)=pg at *;generalize (if there=true then a%64 else 0)=off at *;obtain⟨sp,N,O⟩:=s;dsimp only at C z o b ⊢;replace C:=hd' C;replace L:=hd' L;replace z:=hd' z;replace y:=hd' y;have V:=((Below.refl w.heap.size w).alloc lr (.cells #[sp,N,O] 23)).alloc (by simp) (.cells #[k,a,n] 34);have t0:aA ((w.alloc (.cells #[sp,N,O] 23)).alloc (.cells #[k,a,n] 34)) w.heap.size #[sp,N,O] 23:=aA.alloc (jA _ _) _;have t1:aA ((w.alloc (.cells #[sp,N,O] 23)).alloc (.cells #[k,a,n] 34)) (w.heap.size+1) #[k,a,n] 34:=by have h:=jA (w.alloc (.cells #[sp,N,O] 23)) (.cells #[k,a,n] 34);rw[show (w.alloc (.cells #[sp,N,O] 23)).heap.size=w.heap.size+1 by simp]at h;exact h
 go_in;go_upto_region 1 with fail;generalize (w.alloc (.cells #[sp,N,O] 23)).alloc (.cells #[k,a,n] 34)=X at *;obtain⟨G,hG,R⟩:∃ G,Hid (G=w.heap.size+1)/\G=w.heap.size+1:=⟨_,hd' rfl,rfl⟩;simp only[<-R]at t1 ⊢;clear R;obtain⟨H,hH,S⟩:=hidv w.heap.size;rw[<-S]at t0 ⊢;clear S;have Z:=t0.cell;obtain⟨Y,d1,d2⟩:=ci3 k a n t1.cell;have lH:=t0.lt;have lG:=t1.lt;go_upto_region 3 with(first|(go_at_call 103;refine(L _).mono ?_;rintro r w1 ⟨rfl,b4⟩;obtain rfl:=b4.symm)|(go_at_call 104;refine(C _).mono ?_;rintro r w2 ⟨rfl,b⟩));have s0:=t0.below b;have s1:=t1.below b;have i:=zA V b;clear Z Y d1 d2 lH lG V b t0 t1;have b6:=s0.cell;obtain⟨Y,d1,d2⟩:=ci3 k a n s1.cell;have lH:=s0.lt;have lG:=s1.lt;have b0:k=1\/k=2\/k=3\/k=4:=by omega
 clear hk;rcases b0 with rfl|rfl|rfl|rfl;case inl=>
  cases F;case false=>obtain rfl:B=true:=o.out.trans (by simp);go_wp2_with fail;go_returns;exact⟨rfl,i⟩
  case true=>
   obtain rfl:B=false:=o.out.trans (by simp);cases large;case false=>obtain rfl:E=false:=b.out.trans (by simp);go_wp2_with (go_at_call 105;(with_reducible refine(y _).mono ?_);rintro r D ⟨rfl,j⟩;obtain rfl:=j.symm);go_returns;exact⟨rfl,i⟩
   case true=>
    by_cases M:sp<pages
    ·obtain rfl:E=true:=b.out.trans (by simp[M]);go_wp2_with (go_at_call 105;(with_reducible refine(y _).mono ?_);rintro r D ⟨rfl,j⟩;obtain rfl:=j.symm);go_returns;exact⟨rfl,i⟩
    obtain rfl:E=false:=b.out.trans (by simp[M]);have b3:decide (sp<pages)=false:=jF M;go_wp2_with (go_at_call 105;(with_reducible refine(y _).mono ?_);rintro r D ⟨rfl,j⟩;obtain rfl:=j.symm);go_returns;exact⟨rfl,i⟩
 case inr.inl=>
  obtain rfl:E=false:=b.out.trans (by simp);cases there;case false=>obtain rfl:B=true:=o.out.trans (by simp);go_wp2_with fail;go_returns;exact⟨rfl,i⟩
  case true=>obtain rfl:B=false:=o.out.trans (by simp);go_wp2_with (go_at_call 105;(with_reducible refine(y _).mono ?_);rintro r D ⟨rfl,j⟩;obtain rfl:=j.symm);go_returns;exact⟨rfl,i⟩
 case inr.inr.inl=>
  cases F;case false=>obtain rfl:B=true:=o.out.trans (by simp);go_wp2_with fail;go_returns;exact⟨rfl,i⟩
  case true=>
   cases there;case false=>obtain rfl:B=true:=o.out.trans (by simp);go_wp2_with fail;go_returns;exact⟨rfl,i⟩
   case true=>
    obtain rfl:B=false:=o.out.trans (by simp);cases large;case false=>obtain rfl:E=false:=b.out.trans (by simp);go_wp2_with (go_at_call 105;(with_reducible refine(y _).mono ?_);rintro r D ⟨rfl,j⟩;obtain rfl:=j.symm);go_returns;exact⟨rfl,i⟩
    case true=>
     by_cases M:sp<pages
     ·obtain rfl:E=true:=b.out.trans (by simp[M]);go_wp2_with (go_at_call 105;(with_reducible refine(y _).mono ?_);rintro r D ⟨rfl,j⟩;obtain rfl:=j.symm);go_returns;exact⟨rfl,i⟩
     obtain rfl:E=false:=b.out.trans (by simp[M]);have b3:decide (sp<pages)=false:=jF M;go_wp2_with (go_at_call 105;(with_reducible refine(y _).mono ?_);rintro r D ⟨rfl,j⟩;obtain rfl:=j.symm);go_returns;exact⟨rfl,i⟩
 case inr.inr.inr=>
  obtain rfl:E=false:=b.out.trans (by simp);by_cases hs:sx<0
  ·obtain rfl:B=true:=o.out.trans (by simp[hs]);go_wp2_with (go_at_call 29;(with_reducible refine(z _).mono ?_);rintro r D ⟨rfl,q⟩);go_returns;exact⟨rfl,zA i q⟩
  have b7:decide (sx<0)=false:=jF hs;by_cases T:a=c
  ·subst T;obtain rfl:B=true:=o.out.trans (by simp);go_wp2_with (go_at_call 29;(with_reducible refine(z _).mono ?_);rintro r D ⟨rfl,q⟩;have e1:=kA q _ _ _ d1;have e0:=kA q _ _ _ Y);go_returns;exact⟨rfl,zA i q⟩
  have U:(a==c)=false:=by simpa using T
  obtain rfl:B=false:=o.out.trans (by simp[hs,U]);go_wp2_with (first|(go_at_call 29;refine(z _).mono ?_;rintro r D ⟨rfl,q⟩;have e1:=kA q _ _ _ d1;have e0:=kA q _ _ _ Y;have e2:=kA q _ _ _ d2)|(go_at_call 105;refine(y _).mono ?_;rintro r w4 ⟨rfl,b5⟩;obtain rfl:=b5.symm));go_returns;exact⟨rfl,zA i q⟩
end

section

open Go.RowKit Fl

theorem QZ(x y:Nat):FloatKind.f64.format.order x y=Ieee.double.order x y:=rfl
abbrev F64 (x:Nat):Value:= .float .f64 x
theorem z7u(x:Nat)(w:World):(Op.unary UnOp.neg (.float .f64 x)).run Tryz.prog w= .ok (.float .f64 (x ^^^ 2^63)) w:=rfl
theorem z2t(x:Nat)(w:World):Calls Tryz.prog 150 #[F64 x] w fun e w'=>e= .returned (.bool (nan x))/\w'=w:=by
 go_in;go_wp2;go_ret;refine⟨OF ?_,rfl⟩;rw[QZ,bne,CV,Fl.jY,Bool.not_not]
theorem zp1(x:Nat)(w:World):Calls Tryz.prog 151 #[F64 x,.int .i64 (-1)] w fun e w'=>e= .returned (.bool (decide (dD x=1)))/\w'=w:=by
 have b:=z7u x;go_in;go_wp2;go_ret;refine⟨OF ?_,rfl⟩;rw[<-z18,<- XL];rfl
theorem zps(x:Nat)(w:World):Calls Tryz.prog 151 #[F64 x,.int .i64 1] w fun e w'=>e= .returned (.bool (decide (dD x=5)))/\w'=w:=by
 go_in;go_wp2;go_ret;refine⟨OF ?_,rfl⟩;rw[<-mW,<- XL];rfl
theorem lt0(x:Nat):(FloatKind.f64.format.order x 0==some .lt)=(!nan x&&decide (iv x<0)):=(z5e x 0).trans (ZY x)
theorem gt0(x:Nat):(FloatKind.f64.format.order x 0==some .gt)=(!nan x&&decide (0<iv x)):=(XL x 0).trans (z9v x)
theorem vJ(x:Nat)(w:World):Calls Tryz.prog 124 #[F64 x] w fun e w'=>e= .returned (.int .i64 (dD x))/\w'=w:=by
 have i:=lt0 x;have b:=gt0 x;go_in;go_wp2_with (first|(go_at_call 150;refine(z2t _ _).mono ?_;rintro e j ⟨rfl,rfl⟩)|(go_at_call 151;(with_reducible refine(zp1 _ _).mono ?_);rintro e j ⟨rfl,rfl⟩)|(go_at_call 151;(with_reducible refine(zps _ _).mono ?_);rintro e j ⟨rfl,rfl⟩));all_goals go_ret
 all_goals refine⟨FE ?_,rfl⟩
 all_goals clear i b
 all_goals first
  |exact(vW.2 (by assumption)).symm
  |(have h:=z4r (x:=x) (by assumption);have m:(0:Int)<(INF:Int):=(by decide);omega)
theorem gtxy(x y:Nat):(FloatKind.f64.format.order x y==some .gt)=gtB x y:=XL x y
theorem eqxy(x y:Nat):(FloatKind.f64.format.order x y==some .eq)=eqB x y:=CV x y
end

section

open Go.RowKit Fl

theorem VZ(x:Nat):(FloatKind.f64.format.order x 4607182418800017408==some .gt||FloatKind.f64.format.order x 4607182418800017408==some .eq)=(!nan x&&decide ((ONE:Int)<=iv x)):=by
 have h1:=gtxy x ONE;have h2:=eqxy x ONE;unfold ONE at h1 h2;rw[h1,h2];show (gtB x ONE||eqB x ONE)=_;unfold gtB eqB;rw[TX,yfe];cases nan x
 ·simp only[Bool.not_false,Bool.true_and];rw[Bool.eq_iff_iff];simp only[Bool.or_eq_true,decide_eq_true_eq];omega
 rfl
theorem z4a(x:Nat)(n:Int)(B: -9223372036854775808<=n)(z:n<=9223372036854775807)(w:World):Calls Tryz.prog 96 #[F64 x,n] w fun e w'=>e= .returned (.int .i64 (TC x n))/\w'=w:=by
 have j:=lt0 x;have i:=VZ x;have b:=vW (x:=x);unfold TC;by_cases h1:n<1
 ·rw[jP (.inl h1)];clear j i b;go_in;go_wp2_with (go_at_call 124;refine(vJ _ _).mono ?_;rintro e q ⟨rfl,rfl⟩);go_ret;exact⟨rfl,rfl⟩
 cases h2:nan x
 ·have p:dD x≠0:=fun h=>by rw[b.1 h]at h2;cases h2
  have y:(dD x==0)=false:=by simpa using p
  rw[h2]at j i;by_cases h3:iv x<0
  ·rw[jP (.inr (.inr h3))];rw[jT h3]at j;clear i b h3;go_in;go_wp2_with (go_at_call 124;refine(vJ _ _).mono ?_;rintro e q ⟨rfl,rfl⟩);go_ret;exact⟨rfl,rfl⟩
  rw[jN (by simp only[Bool.false_eq_true,false_or,not_or];exact⟨h1,h3⟩)];rw[jF h3]at j;by_cases h4:(ONE:Int)<=iv x
  ·rw[jP h4];rw[jT h4]at i;clear b h3 h4;go_in;go_wp2_with (go_at_call 124;refine(vJ _ _).mono ?_;rintro e q ⟨rfl,rfl⟩);go_ret;exact⟨rfl,rfl⟩
  rw[jN h4];rw[jF h4]at i;obtain⟨r,o,m,D⟩:=zye (x:=x) (n:=n) (by omega) z (by omega) (by omega);generalize (T (tE (rung x) (R n.natAbs 0)):Int)=t at *;have C:=fun w:World=>run_float_arith (P:=Tryz.prog) w .mul 35 .f64 _ _ r o;have hc:=fun w:World=>run_convert_float_int (P:=Tryz.prog) w 35 3 .f64 .i64 r t (by kernel_rfl) Tryz.underlying3 m;clear b h3 h4 o m;go_in;go_wp2_with (go_at_call 124;refine(vJ _ _).mono ?_;rintro e q ⟨rfl,rfl⟩);all_goals go_ret
  all_goals refine⟨FE ?_,rfl⟩
  all_goals omega
 have p:dD x=0:=b.2 h2;have y:(dD x==0)=true:=by simpa using p
 rw[jP (.inr (.inl rfl))];clear j i b p;go_in;go_wp2_with (go_at_call 124;refine(vJ _ _).mono ?_;rintro e q ⟨rfl,rfl⟩);go_ret;exact⟨rfl,rfl⟩
end

section

open Go.RowKit

attribute [local go_sem ↓] Go.wp_at_zero Go.wp_at_succ

theorem yT:(Tryz.prog.info? 113).map (fun i=>(i.zero,i.size,i.bytes))=some (some (.int .u64 0),1,8):=by kernel_rfl
theorem KW(n:Nat)(m:n<=100000):∀ u:World,(Instr.makeSlice 63 (.int .i64 (n:Int)) (.int .i64 (n:Int))).run Tryz.prog u= .ok (.slice (some ⟨u.heap.size,0,.none⟩) n n) (u.alloc (.cells (madeCells #[.int .u64 0] n) 113)):=fun u=>by
 obtain⟨j,hi,b,f,i⟩:=info_parts yT
 have h:=run_make (P:=Tryz.prog) u 63 113 j (.int .u64 0) Tryz.underlying63 hi b .i64 .i64 (n:Int) (n:Int) (by omega) (Int.le_refl _) (by rw[i];omega) (by omega)
 rw[Int.toNat_natCast]at h
 simpa[f,Value.cells] using h
def oF (n:Nat):Mem:=⟨List.replicate n 0,0,⟨0,0,0,0,0,false⟩⟩
theorem BX(n:Nat):madeCells #[.int .u64 0] n=rowW (List.replicate n 0):=by
 apply Array.toList_inj.1;rw[toList_madeCells_one];simp[rowW]
theorem YU(n:Nat):(oF n).fit:=fun x b=>by
 rw[List.eq_of_mem_replicate b];exact⟨by decide,by decide⟩
theorem z7s(n:Nat)(j:n<=2000)(w:World):
  Calls Tryz.prog 56 #[.int .i64 (n:Int)] w fun e w'=>∃ p b,e= .returned (.pointer (some ⟨p,0,.none⟩))/\oA w' p b (oF n)/\w.heap.size<=p/\w.heap.size<=b/\Below w.heap.size w w':=by
 have i:=KW n (by omega);have h1:decide ((n:Int)<0)=false:=jF (by omega);have h2:decide ((2000:Int)<(n:Int))=false:=jF (by omega);go_in;go_wp2_with fail;go_returns;refine⟨_,w.heap.size,rfl,⟨by simp,?_,?_,YU n,by simp[oF];omega,by simp[oF]⟩,by simp,Nat.le_refl _,?_⟩
 ·have h:=jA (w.alloc (.cells (madeCells #[.int .u64 0] n) 113)) (.cells (EG w.heap.size (oF n)) 182);simpa[EG,oF] using h
 ·have h:=jA w (.cells (madeCells #[.int .u64 0] n) 113);rw[BX]at h;have h2:=aA.alloc (T:=113) h (.cells (EG w.heap.size (oF n)) 182);simpa[EG,oF,aA,BX] using h2
 exact(br.alloc lr _).alloc (by simp) _
theorem z5o(p b:Nat)(m:Mem)(a x:Int)(w:World)(h:oA w p b m)(j:m.has a)(t:0<=x/\x<18446744073709551616):
  Calls Tryz.prog 70 #[some p,a,.int .u64 x] w fun e w'=>e= .returned (.bool true)/\oA w' p b ⟨m.ws.set a.toNat x,m.st,m.la⟩/\Only (fun k=>k=b) w w':=by
 have h1:=hd' (oQ p b m a w h j);have o:=hd' (h.put j t);obtain⟨n,y,i⟩:=hidv m.ws.length;have B:w.cell? ⟨p,0,.none⟩=some (.slice (some ⟨b,0,.none⟩) n n):=by rw[i];exact iA h.blk 0
 have C:=h.cell j;have D:=DA h.row;have a0:(0:Int)<=a:=j.1;have a1:a<(n:Int):=by rw[i];exact j.2
 clear i h j;go_in;go_wp2_with (go_at_call 95;refine h1.out.mono ?_;rintro r z ⟨rfl,q⟩;obtain rfl:=q.symm);go_returns;exact⟨rfl,o.out,Only.setCell (F:=fun k=>k=b) (Only.refl _ _) (.inl rfl) _⟩
theorem WU(p b:Nat)(m:Mem)(w:World)(h:oA w p b m):
  Calls Tryz.prog 62 #[some p] w fun e w'=>e= .returned (.int .i64 m.st)/\w'=w:=by
 have i:w.cell? ⟨p,1,.none⟩=some (.int .i64 m.st):=iA h.blk 1;clear h;go_in;go_wp2_with fail;go_returns;exact⟨rfl,rfl⟩
theorem z4k(p b:Nat)(m:Mem)(w:World)(h:oA w p b m):
  Calls Tryz.prog 64 #[some p] w fun e w'=>e= .returned (accV m.la)/\Below w.heap.size w w':=by
 unfold accV;have B:=(Below.refl w.heap.size w).alloc lr (.cells #[.int .i64 0,.int .i64 0,.int .i64 0,.int .u64 0,.int .u64 0,.bool false] 126);have z:aA (w.alloc (.cells #[.int .i64 0,.int .i64 0,.int .i64 0,.int .u64 0,.int .u64 0,.bool false] 126)) w.heap.size #[.int .i64 0,.int .i64 0,.int .i64 0,.int .u64 0,.int .u64 0,.bool false] 126:=jA _ _;have y:=h.below B;have G:w.heap.size≠p:=fun e=>by have:=h.ltp;omega
 obtain⟨la,C⟩:∃ la,la=m.la:=⟨_,rfl⟩;have I:(w.alloc (.cells #[.int .i64 0,.int .i64 0,.int .i64 0,.int .u64 0,.int .u64 0,.bool false] 126)).cell? ⟨p,2,.none⟩=some (.int .i64 m.la.c):=iA y.blk 2;have J:(w.alloc (.cells #[.int .i64 0,.int .i64 0,.int .i64 0,.int .u64 0,.int .u64 0,.bool false] 126)).cell? ⟨p,3,.none⟩=some (.int .i64 m.la.k):=iA y.blk 3;have L:(w.alloc (.cells #[.int .i64 0,.int .i64 0,.int .i64 0,.int .u64 0,.int .u64 0,.bool false] 126)).cell? ⟨p,4,.none⟩=some (.int .i64 m.la.a):=iA y.blk 4;have M:(w.alloc (.cells #[.int .i64 0,.int .i64 0,.int .i64 0,.int .u64 0,.int .u64 0,.bool false] 126)).cell? ⟨p,5,.none⟩=some (.int .u64 m.la.was):=iA y.blk 5;have N:(w.alloc (.cells #[.int .i64 0,.int .i64 0,.int .i64 0,.int .u64 0,.int .u64 0,.bool false] 126)).cell? ⟨p,6,.none⟩=some (.int .u64 m.la.put):=iA y.blk 6;have O:(w.alloc (.cells #[.int .i64 0,.int .i64 0,.int .i64 0,.int .u64 0,.int .u64 0,.bool false] 126)).cell? ⟨p,7,.none⟩=some (.bool m.la.ok):=iA y.blk 7;rw[<-C]at I J L M N O ⊢;clear h y C;obtain⟨n,o,lp,r,q,lo⟩:=la;dsimp only at I J L M N O ⊢;go_in;go_upto_region 1 with fail;generalize w.alloc (.cells #[.int .i64 0,.int .i64 0,.int .i64 0,.int .u64 0,.int .u64 0,.bool false] 126)=X at *;obtain⟨E,S,j⟩:=hidv w.heap.size;rw[<-j]at z G ⊢;have i:w.heap.size<=E:=by omega
 clear j;have lE:=z.lt;have fE:=DA z;have R:=z.cell;go_wp2_with fail;have D:aA ((((((X.setCell ⟨E,0,.none⟩ (.int .i64 n)).setCell ⟨E,1,.none⟩ (.int .i64 o)).setCell ⟨E,2,.none⟩ (.int .i64 lp)).setCell ⟨E,3,.none⟩ (.int .u64 r)).setCell ⟨E,4,.none⟩ (.int .u64 q)).setCell ⟨E,5,.none⟩ (.bool lo)) E #[n,o,lp,.int .u64 r,.int .u64 q,lo] 126:=((((((z.set 0 (.int .i64 n)).set 1 (.int .i64 o)).set 2 (.int .i64 lp)).set 3 (.int .u64 r)).set 4 (.int .u64 q)).set 5 (.bool lo));have F:Below w.heap.size w ((((((X.setCell ⟨E,0,.none⟩ (.int .i64 n)).setCell ⟨E,1,.none⟩ (.int .i64 o)).setCell ⟨E,2,.none⟩ (.int .i64 lp)).setCell ⟨E,3,.none⟩ (.int .u64 r)).setCell ⟨E,4,.none⟩ (.int .u64 q)).setCell ⟨E,5,.none⟩ (.bool lo)):=((((((B.setCell (p:=⟨E,0,.none⟩) i (.int .i64 n)).setCell (p:=⟨E,1,.none⟩) i (.int .i64 o)).setCell (p:=⟨E,2,.none⟩) i (.int .i64 lp)).setCell (p:=⟨E,3,.none⟩) i (.int .u64 r)).setCell (p:=⟨E,4,.none⟩) i (.int .u64 q)).setCell (p:=⟨E,5,.none⟩) i (.bool lo));generalize (((((X.setCell ⟨E,0,.none⟩ (.int .i64 n)).setCell ⟨E,1,.none⟩ (.int .i64 o)).setCell ⟨E,2,.none⟩ (.int .i64 lp)).setCell ⟨E,3,.none⟩ (.int .u64 r)).setCell ⟨E,4,.none⟩ (.int .u64 q)).setCell ⟨E,5,.none⟩ (.bool lo)=U at *;obtain⟨r0,r1,T⟩:=ci3 n o lp D.cell;have V:=ce (.int .u64 r) (D.cell 3);have Y:=ce (.int .u64 q) (D.cell 4);have Z:=ce (.bool lo) (D.cell 5);exact bodyPost_ret (v:= .agg #[n,o,lp,.int .u64 r,.int .u64 q,lo]) (by simp[results,Tryz.results64,go_sem,r0,r1,T,V,Y,Z]) rfl ⟨rfl,F⟩
theorem oA.rd{w:World}{p b:Nat}{m:Mem}(h:oA w p b m):RdS w 1 (.slice (some ⟨b,0,.none⟩) m.ws.length m.ws.length) m.ws.length (m.ws.map (Value.int .u64)):=by
 have h2:=RdS.new (sz:=1) (n:=m.ws.length) h.row (by simp[rowW]) (by have:=h.few;omega);simpa[rowW] using h2
end

section

structure Wd where
 m:Mem
 l:List (Option Kl)
 tr:List Ev
 lg:List Acc
def Ch.op (x:Ch):Op3:=⟨x.ok,x.oa,x.on⟩
def BE (c:Int):Ev:=⟨0,c,0,0,0,0,0,0⟩
def NE (c:Int):Ev:=⟨1,c,0,0,0,0,0,0⟩
def Mem.put (m:Mem) (a x:Int):Mem:=⟨m.ws.set a.toNat x,m.st,m.la⟩
def uB (s:Sh):Wd:=⟨oF (EB s.p s.c s.m).toNat,List.replicate s.c.toNat none, [], []⟩
def Wd.kl (d:Wd) (c:Int):Option Kl:=if 0<=c then d.l.getD c.toNat none else none
def Wd.stat (d:Wd) (c:Int):Int:=ND (d.m.get c)
def Wd.begin (s:Sh) (d:Wd) (x:Ch):Wd × Int:=
 if d.stat x.client=0 then (⟨d.m.put x.client (YA 1 0),d.l.set x.client.toNat (some (SD x.client (Fl.TC x.bias s.p))),d.tr ++ [BE x.client],d.lg⟩,0) else (d,5)
def Wd.step (s:Sh) (d:Wd) (c:Int) (k:Kl):Wd × Int:=
 (⟨(k.step s d.m).2.1,d.l.set c.toNat (some (k.step s d.m).1),d.tr ++ (k.step s d.m).2.2.1,if d.m.st < (k.step s d.m).2.1.st then d.lg ++ [(k.step s d.m).2.1.la] else d.lg⟩,(k.step s d.m).2.2.2)
def Wd.ask (s:Sh) (d:Wd) (x:Ch) (k:Kl):Wd × Int:=
 (⟨d.m,d.l.set x.client.toNat (some (k.invoke s x.op).1),d.tr ++ (k.invoke s x.op).2.1,d.lg⟩,(k.invoke s x.op).2.2)
def Wd.kill (d:Wd) (c:Int):Wd × Int:=(⟨d.m.put c (YA 2 0),d.l.set c.toNat none,d.tr ++ [NE c],d.lg⟩,0)
def Ch.bad (s:Sh) (x:Ch):Prop:=x.kind < 1\/4 < x.kind\/x.client < 0\/s.c<=x.client
instance (s:Sh) (x:Ch):Decidable (x.bad s):=by unfold Ch.bad;infer_instance
def Wd.act (s:Sh) (d:Wd) (x:Ch):Wd × Int:=
 if x.bad s then (d,1)
 else if x.kind=1 then d.begin s x
 else match d.kl x.client with
  | none=> (d,2)
  | some k=> if x.kind=3 then d.step s x.client k else if x.kind=2 then d.ask s x k else d.kill x.client
structure wdOk (s:Sh) (d:Wd) (n:Nat):Prop where
 fi:Fits s d.m
 fit:d.m.fit
 len:d.l.length=s.c.toNat
 kl:∀ c k,d.kl c=some k->klOk s k/\k.c=c/\0<=c/\c < s.c
 st:0<=d.m.st/\d.m.st<=n
 tr:d.tr.length<=3 * n
 lg:d.lg.length=d.m.st
theorem Wd.gC{d:Wd}{c:Int}{k:Kl}(h:d.kl c=some k):0<=c/\c.toNat<d.l.length:=by
 unfold Wd.kl at h;split at h
 ·rename_i h0;by_cases hc:c.toNat<d.l.length
  ·exact⟨h0,hc⟩
  rw[List.getD_eq_getElem?_getD,List.getElem?_eq_none (by omega)]at h;simp at h
 cases h
theorem bM{b:Type}(l:List (Option b))(i j:Nat)(v:Option b)(hi:i<l.length):(l.set i v).getD j none=if i=j then v else l.getD j none:=by
 rw[List.getD_eq_getElem?_getD,List.getD_eq_getElem?_getD,List.getElem?_set];by_cases h:i=j
 ·subst h;simp[hi]
 simp[h]
theorem Wd.AB(d:Wd){x:Int}(b:0<=x)(hi:x.toNat<d.l.length)(v:Option Kl)(m:Mem)(tr:List Ev)(lg:List Acc)(c:Int):(⟨m,d.l.set x.toNat v,tr,lg⟩:Wd).kl c=if c=x then v else d.kl c:=by
 unfold Wd.kl;dsimp only;by_cases h0:0<=c
 ·rw[jP h0,jP h0,bM _ _ _ _ hi];by_cases h:c=x
  ·rw[jP (by omega),jP h]
  rw[jN (by omega),jN h]
 rw[jN h0,jN h0,jN (by omega)]
theorem Mem.NS{m:Mem}(h:m.fit)(a x:Int)(b:0<=x/\x<18446744073709551616):(m.put a x).fit:=cQ h b
theorem Kl.z0d(k:Kl)(j:Jb):(k.tells j).length<=3:=by
 unfold Kl.tells;rw[List.length_append];have h1:(if j.gave=true/\k.told=false then [LE k.c k.op.a] else []).length<=1:=by split<;>simp
 have h2:(if j.done=true then(match j.took with|some b=>[yE k.c b.at' b.len]|none=>[])++[RA k.c k.op (yB j.took) j.err] else []).length<=2:=by
  split
  ·rw[List.length_append];have:(match j.took with|some b=>[yE k.c b.at' b.len]|none=>[]).length<=1:=by cases j.took<;>simp
   simp;omega
  simp
 exact Nat.add_le_add h1 h2
theorem Kl.UW(s:Sh)(k:Kl)(m:Mem):(k.step s m).2.2.1.length<=3:=by
 unfold Kl.step;split
 ·simp
 exact Kl.z0d _ _
theorem Kl.PU(s:Sh)(k:Kl)(o:Op3):(k.invoke s o).2.1.length<=2:=by
 unfold Kl.invoke;split
 ·simp
 split
 ·simp
 split<;>simp
theorem OL{s:Sh}(h:mayB s.p s.c s.m=true):wdOk s (uB s) 0:=by
 have f:0<=EB s.p s.c s.m:=(z6x _ _ _).1;refine⟨⟨h,?_⟩,YU _,by simp[uB],fun c k b=>?_,⟨Int.le_refl _,Int.le_refl _⟩,by simp[uB],rfl⟩
 ·show (((List.replicate _ (0:Int)).length:Nat):Int)=_;rw[List.length_replicate];omega
 unfold Wd.kl uB at b;dsimp only at b;rw[List.getD_eq_getElem?_getD,List.getElem?_replicate]at b;split at b
 ·split at b<;>simp at b
 cases b
theorem sU{s:Sh}{k:Kl}{m:Mem}(h:klOk s k)(i:Fits s m)(b:m.fit):(k.job=none/\k.step s m=(k,m, [],2))\/(∃ j,k.job=some j/\Acts k.c m (k.step s m).2.1/\klOk s (k.step s m).1/\(k.step s m).2.2.2=0):=by
 rcases hj:k.job with _|j
 ·exact .inl ⟨rfl,by unfold Kl.step;rw[hj]⟩
 have f:=nW h hj i b;exact .inr ⟨j,rfl,f.1,f.2,by unfold Kl.step;rw[hj]⟩
theorem KF{s:Sh}{d:Wd}{n:Nat}(h:wdOk s d n)(x:Ch):wdOk s (d.act s x).1 (n+1):=by
 have D:=h.fi.may;have hb:=h.fi.bd;have h1:=h.st;have h2:=h.tr;have h3:=h.lg;have h0:wdOk s d (n+1):=⟨h.fi,h.fit,h.len,h.kl,⟨h1.1,by omega⟩,by omega,h3⟩;unfold Wd.act;split
 ·exact h0
 rename_i p;unfold Ch.bad at p;have hc:0<=x.client/\x.client<s.c:=by omega
 have hi:x.client.toNat<d.l.length:=by rw[h.len];omega
 have f:∀ (v:Option Kl),(∀ k,v=some k->klOk s k/\k.c=x.client)->∀ (m:Mem) tr lg c k,(⟨m,d.l.set x.client.toNat v,tr,lg⟩:Wd).kl c=some k->klOk s k/\k.c=c/\0<=c/\c<s.c:=fun v y m tr lg c k i=>by
  rw[d.AB hc.1 hi]at i;split at i
  ·rename_i e;subst e;exact⟨(y k i).1,(y k i).2,hc⟩
  exact h.kl c k i
 split
 ·unfold Wd.begin;split
  ·refine⟨h.fi.RF (by simp[Mem.put]),Mem.NS h.fit _ _ (BH _ _),by simpa using h.len,?_,⟨h1.1,by show d.m.st<=_;omega⟩,by simp;omega,h3⟩;exact f _ (fun k i=>by injection i with i;subst i;exact⟨z6w hc (Fl.z2u _ (by omega)),rfl⟩) _ _ _
  exact h0
 split
 ·exact h0
 rename_i k i;have o:=h.kl _ _ i;split
 ·have C:=Kl.UW s k d.m;have r:=(z6l s k d.m).1;unfold Wd.step;rcases sU o.1 h.fi h.fit with⟨B,e⟩|⟨j,B,q,t,F⟩
  ·rw[e];dsimp only;rw[jN (by omega)];exact⟨h.fi,h.fit,by simpa using h.len,f _ (fun z b=>by injection b with b;subst b;exact⟨o.1,o.2.1⟩) _ _ _,⟨h1.1,by show d.m.st<=_;omega⟩,by simp;omega,h3⟩
  have E:=q.st;rw[jP (by omega)];refine⟨q.fits h.fi,q.fit h.fit,by simpa using h.len,f _ (fun z b=>by injection b with b;subst b;exact⟨t,r.trans o.2.1⟩) _ _ _,⟨by dsimp only;omega,by dsimp only;omega⟩,by simp;omega,by simp;omega⟩
 split
 ·have C:=Kl.PU s k x.op;unfold Wd.ask;exact⟨h.fi,h.fit,by simpa using h.len,f _ (fun z b=>by injection b with b;subst b;exact⟨dX x.op D o.1,(NX s k x.op).1.trans o.2.1⟩) _ _ _,⟨h1.1,by dsimp only;omega⟩,by simp;omega,h3⟩
 unfold Wd.kill;exact⟨h.fi.RF (by simp[Mem.put]),Mem.NS h.fit _ _ (BH _ _),by simpa using h.len,f _ (fun k i=>by cases i) _ _ _,⟨h1.1,by show d.m.st<=_;omega⟩,by simp;omega,h3⟩
def Bl.at':Bl->Int
 | .lar p _=> p * 64
 | .sm p i k=> p * 64 + i * AA k
def Bl.len:Bl->Int
 | .lar _ n=> n * 64
 | .sm _ _ k=> AA k
variable {s:Sh} {σ:Ab}

theorem ZI{k:Int}(h:0<=k/\k<=3):(AA k=4/\mA k=16)\/(AA k=8/\mA k=8)\/(AA k=16/\mA k=4)\/(AA k=32/\mA k=2):=by
 have:k=0\/k=1\/k=2\/k=3:=by omega
 rcases this with rfl|rfl|rfl|rfl<;>decide
theorem iH{i k:Int}(j:0<=k/\k<=3)(hi:0<=i/\i<mA k):0<=i*AA k/\i*AA k+AA k<=64/\1<=AA k:=by
 rcases ZI j with⟨b,f⟩|⟨b,f⟩|⟨b,f⟩|⟨b,f⟩<;>rw[b]<;>rw[f]at hi<;>omega
theorem iM{i j k:Int}(m:0<=k/\k<=3)(h:i<j):i*AA k+AA k<=j*AA k:=by
 rcases ZI m with⟨b,f⟩|⟨b,f⟩|⟨b,f⟩|⟨b,f⟩<;>rw[b]<;>omega
theorem pH(f:GI s σ){p i k:Int}(h:σ.has (.sm p i k)):(∃ b,σ.pg p= .super k b)/\(0<=i/\i<mA k)/\(0<=k/\k<=3)/\0<=p/\p<s.p:=by
 obtain⟨⟨b,h1⟩,h2⟩:=zJ f (.inr h);have h3:=DJ f h1;exact⟨⟨b,h1⟩,h2,h3.2.1,h3.1⟩
theorem SJ(f:GI s σ){b:Bl}(h:σ.has b):0<=b.at'/\1<=b.len/\b.at'+b.len<=s.p*64:=by
 cases b with
 |lar p n=>have:=KH f h;simp only[Bl.at',Bl.len];omega
 |sm p i k=>obtain⟨_,h2,h3,h4⟩:=pH f h;have:=iH h3 h2;simp only[Bl.at',Bl.len];omega
theorem qW(f:GI s σ){a b:Bl}(t:σ.has a)(hb:σ.has b)(o:a≠b):¬ (a.at'<b.at'+b.len/\b.at'<a.at'+a.len):=by
 have lar:∀ p n q,σ.pg p= .large n->(∀ g,σ.pg q≠ .body g)->p<q->p+n<=q:=fun p n q h1 h2 h3=>by
  by_cases e:p+n<=q
  ·exact e
  have:=f.lg p n h1 (q-p) (by omega) (by omega);rw[show p+(q-p)=q by omega]at this;exact absurd this (h2 p)
 cases a with
 |lar p n=>
  cases b with
  |lar q m=>
   have h1:σ.pg p= .large n:=t
   have h2:σ.pg q= .large m:=hb
   have z:=KH f h1
   have L:=KH f h2
   simp only[Bl.at',Bl.len]
   rcases Int.lt_trichotomy p q with e|e|e
   ·have:=lar p n q h1 (fun g e=>by rw[h2]at e;cases e) e
    omega
   ·subst e
    rw[h1]at h2;injection h2 with h2;subst h2
    exact absurd rfl o
   ·have:=lar q m p h2 (fun g e=>by rw[h1]at e;cases e) e
    omega
  |sm q i k=>
   have h1:σ.pg p= .large n:=t
   obtain⟨⟨b,h2⟩,h3,h4,E⟩:=pH f hb
   have y:=iH h4 h3
   have z:=KH f h1
   simp only[Bl.at',Bl.len]
   rcases Int.lt_trichotomy p q with e|e|e
   ·have:=lar p n q h1 (fun g e=>by rw[h2]at e;cases e) e
    omega
   ·subst e;rw[h1]at h2;cases h2
   ·omega
 |sm p i k=>
  obtain⟨⟨F,h2⟩,h3,h4,E⟩:=pH f t
  have y:=iH h4 h3
  cases b with
  |lar q m=>
   have h1:σ.pg q= .large m:=hb
   have z:=KH f h1
   simp only[Bl.at',Bl.len]
   rcases Int.lt_trichotomy q p with e|e|e
   ·have:=lar q m p h1 (fun g e=>by rw[h2]at e;cases e) e
    omega
   ·subst e;rw[h1]at h2;cases h2
   ·omega
  |sm q j J=>
   obtain⟨⟨G,r⟩,B,C,I⟩:=pH f hb
   have D:=iH C B
   simp only[Bl.at',Bl.len]
   rcases Int.lt_trichotomy q p with e|e|e
   ·omega
   ·subst e
    rw[h2]at r;injection r with r _;subst r
    rcases Int.lt_trichotomy i j with e|e|e
    ·have:=iM (i:=i) (j:=j) h4 e;omega
    ·subst e;exact absurd rfl o
    ·have:=iM (i:=j) (j:=i) h4 e;omega
   ·omega
theorem KY(f:GI s σ){a b:Bl}(i:σ.has a)(hb:σ.has b)(h:a.at'=b.at'):a=b:=by
 by_cases e:a=b
 ·exact e
 have h1:=SJ f i;have h2:=SJ f hb;exact absurd ⟨by omega,by omega⟩ (qW f i hb e)
structure GD (W:Int) (H:Bl->Prop) (l:List Bk):Prop where
 ok:okK W 0 l
 mem:∀ a n,⟨a,n⟩ ∈ l↔∃ b,H b/\b.at'=a/\b.len=n
def wK (H:Bl->Prop):Prop:=∀ a b,H a->H b->a.at'=b.at'->a=b
variable {W:Int} {H H':Bl->Prop} {l:List Bk}

theorem GD.found(h:GD W H l)(a:Int):OA a l=true↔∃ b,H b/\b.at'=a:=by
 rw[NM h.ok];constructor
 ·rintro⟨⟨x,n⟩,hb,rfl⟩;obtain⟨b,h1,h2,h3⟩:=(h.mem x n).1 hb;exact⟨b,h1,h2⟩
 rintro⟨b,h1,h2⟩;exact⟨⟨a,b.len⟩,(h.mem _ _).2 ⟨b,h1,h2,rfl⟩,rfl⟩
theorem z90{a n:Int}{x:Bk}:x ∈ putB l a n↔x ∈ l\/x=⟨a,n⟩:=by
 unfold putB;rw[List.mem_append,List.mem_cons];have:x ∈ l↔x ∈ l.take (posB a l)\/x ∈ l.drop (posB a l):=by rw[<-List.mem_append,List.take_append_drop]
 rw[this];constructor
 ·rintro(h|h|h)
  ·exact .inl (.inl h)
  ·exact .inr h
  exact .inl (.inr h)
 rintro((h|h)|h)
 ·exact .inl h
 ·exact .inr (.inr h)
 exact .inr (.inl h)
theorem z7j{lo a:Int}(j:okK W lo l)(m:OA a l=true){x:Bk}:x ∈ YH l a↔x ∈ l/\x.a≠a:=by
 obtain⟨h1,h2⟩:=(uG a l).1 m;unfold YH;constructor
 ·intro h;have f:x ∈ l:=by
   rcases List.mem_append.1 h with h|h
   ·exact List.mem_of_mem_take h
   exact List.mem_of_mem_drop h
  refine⟨f,fun e=>?_⟩;rcases List.mem_append.1 h with h|h
  ·obtain⟨i,hi,rfl⟩:=List.getElem_of_mem h;rw[List.length_take]at hi;rw[List.getElem_take]at e;have:=wI a l i (by omega) (by omega);omega
  obtain⟨i,hi,rfl⟩:=List.getElem_of_mem h;rw[List.length_drop]at hi;rw[List.getElem_drop]at e;have:=j.lt (posB a l) (posB a l+1+i) (by omega) (by omega);have:=(j.mem _ (List.getElem_mem h1)).2.1;omega
 rintro⟨f,b⟩;have h3:l=l.take (posB a l)++l[posB a l]::l.drop (posB a l+1):=by rw[<-List.drop_eq_getElem_cons h1,List.take_append_drop]
 rw[h3]at f;rcases List.mem_append.1 f with h|h
 ·exact List.mem_append.2 (.inl h)
 rcases List.mem_cons.1 h with h|h
 ·rw[h]at b;exact absurd h2 b
 exact List.mem_append.2 (.inr h)
theorem GD.plus(h:GD W H l){b:Bl}(m:∀ x,H' x↔(H x\/x=b))(f:0<=b.at'/\1<=b.len/\b.at'+b.len<=W)(j:∀ x,H x->¬ (x.at'<b.at'+b.len/\b.at'<x.at'+x.len)):iB W l b.at' b.len=true/\GD W H' (putB l b.at' b.len):=by
 have i:∀ x ∈ l,¬ (x.a<b.at'+b.len/\b.at'<x.a+x.n):=fun x o=>by obtain⟨y,h1,h2,h3⟩:=(h.mem x.a x.n).1 o;have:=j y h1;rw[h2,h3]at this;exact this
 refine⟨?_,⟨uQ h.ok f.1 f.2.1 f.2.2 i,fun a n=>?_⟩⟩
 ·unfold iB xE;rw[jT (by omega:1<=b.len/\0<=b.at'/\b.at'<=W/\b.len<=W-b.at'),Bool.true_and];have:l.any (fun x=>meets x b.at' b.len)=false:=by rw[List.any_eq_false];intro x o;simp only[meets,decide_eq_true_eq];exact i x o
  rw[this];rfl
 rw[z90,h.mem a n];constructor
 ·rintro(⟨x,h1,h2,h3⟩|e)
  ·exact⟨x,(m x).2 (.inl h1),h2,h3⟩
  injection e with p q;exact⟨b,(m b).2 (.inr rfl),p.symm,q.symm⟩
 rintro⟨x,h1,h2,h3⟩;rcases(m x).1 h1 with e|e
 ·exact .inl ⟨x,e,h2,h3⟩
 subst e;exact .inr (by rw[h2,h3])
theorem GD.minus(h:GD W H l)(h1:wK H){b:Bl}(hb:H b)(q:∀ x,H' x↔(H x/\x≠b)):OA b.at' l=true/\GD W H' (UA l b.at'):=by
 have m:OA b.at' l=true:=(h.found _).2 ⟨b,hb,rfl⟩;refine⟨m,⟨yO h.ok,fun a n=>?_⟩⟩;unfold UA;rw[jP m,z7j h.ok m,h.mem a n];constructor
 ·rintro⟨⟨x,i,f,j⟩,o⟩;exact⟨x,(q x).2 ⟨i,fun e=>by subst e;exact o f.symm⟩,f,j⟩
 rintro⟨x,i,f,j⟩;obtain⟨p,r⟩:=(q x).1 i;exact⟨⟨x,p,f,j⟩,fun e=>r (h1 x b p hb (by rw[f];exact e))⟩
theorem GD.congr(h:GD W H l)(e:∀ x,H' x↔H x):GD W H' l:=⟨h.ok,fun a n=>(h.mem a n).trans ⟨fun ⟨b,h1,h2⟩=>⟨b,(e b).2 h1,h2⟩,fun ⟨b,h1,h2⟩=>⟨b,(e b).1 h1,h2⟩⟩⟩
end

section

def bB (c:Int):Ch:=⟨3,c,0,0,0,0⟩
def Wd.goS (s:Sh) (c:Int) (d:Wd):Wd:=match d.kl c with
 | some k=> if k.job.isSome=true then (d.act s (bB c)).1 else d
 | none=> d
def Wd.goN (s:Sh) (c:Int):Nat->Wd->Wd
 | 0,d=> d
 | n + 1,d=> (Wd.goN s c n d).goS s c
def WA (s:Sh):Nat:=(110 * s.p + 4 * s.m + 60).toNat
end

section

open Go.RowKit

attribute [local go_sem ↓] Go.wp_at_zero Go.wp_at_succ

def sT:Sh:=⟨2,1,1⟩
theorem tM:WA sT=284:=by decide
theorem MQ(a b c d:Value)(w:World):(Instr.field 98 (.agg #[a,b,c,d]) 0).run Tryz.prog w= .ok a w:=by kernel_rfl
attribute [local go_sem ↓] MQ

end

section

open Go.RowKit

attribute [local go_sem ↓] Go.wp_at_zero Go.wp_at_succ

theorem uN(k:Int)(w:World):
  Calls Tryz.prog 163 #[k] w fun e w'=>e= .returned (.int .i64 (AA k))/\w'=w:=by
 by_cases h:0<=k/\k<=3
 ·have:k=0\/k=1\/k=2\/k=3:=by omega
  rcases this with rfl|rfl|rfl|rfl <;>
  ·go_in;go_wp2;go_ret;exact⟨rfl,rfl⟩
 have b:AA k=0:=by rw[AA,jN (by omega),jN (by omega),jN (by omega),jN (by omega)]
 rw[b];have hc:k<0\/(0<=k/\4<=k):=by omega
 clear h b;rcases hc with hc|⟨hc,i⟩
 ·go_in;go_wp2;go_ret;exact⟨rfl,rfl⟩
 go_in;go_wp2;go_ret;exact⟨rfl,rfl⟩
theorem OQ(n:Int)(w:World):
  Calls Tryz.prog 162 #[n] w fun e w'=>e= .returned (.tuple #[.int .i64 (BB n),.bool (wi n 1 32)])/\w'=w:=by
 by_cases h:1<=n/\n<=32
 ·have h1:wi n 1 32=true:=IA.2 h;have j:=sQ n;have b:=fun k h0=>FX (k:=k) h h0;obtain⟨c,hc⟩:∃ c:Nat,BB n=c:=⟨(BB n).toNat,by omega⟩;rw[h1,hc];rw[hc]at j;simp only[hc]at b;clear hc;obtain⟨h2,h3⟩:=h;go_in;go_wp2_with fail;go_loopw [4] (fun q wr=>∃ k:Nat,k<=c/\q= .int .i64 k/\wr=w) (fun q _=>c-(intOf q).toNat);case atStart=>exact⟨0,Nat.zero_le _,rfl,by first|rfl|trivial⟩
  case round=>
   obtain⟨k,y,rfl,p⟩:=hrel;obtain rfl:=p.symm;have i:=b k (by omega) (by omega);clear b;by_cases t:k<c
   ·have hs:AA k<n:=i.2 (by omega);clear i;go_wp2_with (go_at_call 163;refine(uN _ _).mono ?_;rintro e w' ⟨rfl,o⟩;obtain rfl:=o.symm);exact⟨⟨k+1,by omega,by go_num,by first|rfl|trivial⟩,by simp[intOf];omega⟩
   have hs:¬ AA k<n:=fun h=>by have:=i.1 h;omega
   have m:k=c:=by omega
   subst m;clear i;go_wp2_with (go_at_call 163;refine(uN _ _).mono ?_;rintro e w' ⟨rfl,o⟩;obtain rfl:=o.symm);go_ret2;exact⟨rfl,rfl⟩
 have h1:wi n 1 32=false:=mG.2 h;have h2:BB n=0:=by unfold BB;rw[jN (by rw[h1];simp)]
 rw[h1,h2];have hc:n<1\/(1<=n/\32<n):=by omega
 clear h1 h2 h;rcases hc with hc|⟨hc,r⟩
 ·go_in;go_wp2;go_ret2;exact⟨rfl,rfl⟩
 go_in;go_wp2;go_ret2;exact⟨rfl,rfl⟩
theorem yim(n:Int)(w:World):
  Calls Tryz.prog 164 #[n] w fun e w'=>e= .returned (.tuple #[.int .i64 (runV n),.bool (wi n 33 512)])/\w'=w:=by
 by_cases h:33<=n/\n<=512
 ·have h1:wi n 33 512=true:=IA.2 h;have h2:runV n=(n+64-1)/64:=by unfold runV;rw[jP h1];omega
  have i:=wrp (n+64);have j:=wrp (n+64-1);have m:IntKind.i64.wrap ((n+64-1).tdiv 64)=(n+64-1)/64:=by rw[Int.tdiv_eq_ediv_of_nonneg (by omega)];exact IntWalk.i64_in _ ⟨by omega,by omega⟩
  rw[h1,h2];clear h2;obtain⟨h3,h4⟩:=h;go_in;go_wp2;go_ret2;exact⟨rfl,rfl⟩
 have h1:wi n 33 512=false:=mG.2 h;have h2:runV n=0:=by unfold runV;rw[jN (by rw[h1];simp)]
 rw[h1,h2];have hc:n<33\/(33<=n/\512<n):=by omega
 clear h1 h2 h;rcases hc with hc|⟨hc,b⟩
 ·go_in;go_wp2;go_ret2;exact⟨rfl,rfl⟩
 go_in;go_wp2;go_ret2;exact⟨rfl,rfl⟩
theorem RQ(n:Int)(w:World):
  Calls Tryz.prog 135 #[n] w fun e w'=>e= .returned (.tuple #[.int .i64 (lenV n),.bool (lenB n)])/\w'=w:=by
 by_cases h:1<=n/\n<=32
 ·have h1:wi n 1 32=true:=IA.2 h;have h2:lenV n=AA (BB n):=by unfold lenV;rw[jP h1]
  have h3:lenB n=true:=IA.2 (by omega);rw[h2,h3];clear h2;go_in;go_wp2_with (first|(go_at_call 162;refine(OQ _ _).mono ?_;rintro e w' ⟨rfl,rfl⟩)|(go_at_call 163;refine(uN _ _).mono ?_;rintro e w' ⟨rfl,rfl⟩));go_ret2;exact⟨rfl,rfl⟩
 have h1:wi n 1 32=false:=mG.2 h;have h2:lenV n=runV n*64:=by unfold lenV;rw[jN (by rw[h1];simp)]
 have h3:lenB n=wi n 33 512:=by rw[Bool.eq_iff_iff];unfold lenB;rw[IA,IA];omega
 have hb:=xQ n;have h4:=wrp (runV n*64);rw[h2,h3];clear h2 h3;go_in;go_wp2_with (first|(go_at_call 162;refine(OQ _ _).mono ?_;rintro e w' ⟨rfl,rfl⟩)|(go_at_call 164;refine(yim _ _).mono ?_;rintro e w' ⟨rfl,rfl⟩));go_ret2;exact⟨rfl,rfl⟩
end

end Go.Proofs.YtmmbicppdjgbmaaGreat
