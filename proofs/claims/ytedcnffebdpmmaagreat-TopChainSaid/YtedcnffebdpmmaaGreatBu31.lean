/- Texts bound together: WldY WldZ AudY AudV. -/
import Derived.Test.YtedcnffebdpmmaaGreatBu29

import Derived.Test.YtedcnffebdpmmaaGreatBu30

set_option linter.all false
set_option maxHeartbeats 8000000
set_option maxRecDepth 100000
namespace Go.Proofs.YtedcnffebdpmmaaGreat

attribute [local go_sem] zfd

section

open Go.RowKit

attribute [local go_sem ↓] Go.wp_at_zero Go.wp_at_succ

theorem z8u:(Tryz.prog.info? 116).map (fun i=>(i.zero,i.size,i.bytes))=some (some (.agg #[.int .i64 0,.int .i64 0,.int .i64 0,.int .u64 0,.int .u64 0,.bool false]),6,48):=by kernel_rfl
theorem zic{w w':World}{B:Nat}{E:TypeId}{size:Nat}{v:Value}{n:Nat}{xs:List Value}(h:w.ownsRow B E size v n xs)(hb:Below w.heap.size w w'):w'.ownsRow B E size v n xs:=
 zas h fun k b=>hb.block k (h.lt k b).2
def Wx.logd (x:Wx) (sv:Value) (N:Nat):Wx:= { x with sv:=sv,ow:=fun i=> if N<=i then 5 else x.ow i }
theorem WdP.logged{B:Nat}{F:Nat->Prop}{W W' W2:World}{g:Nat}{s:Sh}{d:Wd}{x:Wx}{v':Value}{es:List Acc}(h:WdP B F W g s d x)(J:B<=W.heap.size)(G:W.grownBy W' x.sv.ownBlock)
  (E:W'.ownsRow B 116 6 v' (d.lg.length+es.length) ((d.lg.flatMap fun e=>e.cells.toList)++es.flatMap fun e=>e.cells.toList))
  (j:v'.ownBlock=x.sv.ownBlock\/v'.ownBlock=some W.heap.size) (h2:W2=W'.setCell ⟨g,6,.none⟩ v'):
  WdP B (grow F W W2) W2 g s {d with lg:=d.lg++es} (x.logd v' W.heap.size)/\Only (fun i=>(x.ow i=5/\F i)\/i=g) W W2:=by
 have D:W2.heap.size=W'.heap.size:=by rw[h2];simp[World.setCell]
 have H:∀ i,x.sv.ownBlock=some i->F i:=fun i hi=>(h.fs i hi).1;have y:Only (fun i=>x.ow i=5/\F i) W W':=(Only.refl _ W).grown G fun k o=>.inl ⟨(h.fs k o).2,(h.fs k o).1⟩;have f:Only (fun i=>(x.ow i=5/\F i)\/i=g) W W2:=by rw[h2];exact Only.setCell (Only.weak y fun k o=>.inl o) (p:=⟨g,6,.none⟩) (.inl (.inr rfl)) v'
 have r:∀ i,F i->¬ W.heap.size<=i:=fun i hi=>by have:=(h.lt i hi).2;omega
 have b:∀ i,F i->(x.logd v' W.heap.size).ow i=x.ow i:=fun i hi=>if_neg (r i hi);have C:∀ i,x.ow i≠5->i≠g->¬ ((x.ow i=5/\F i)\/i=g):=fun i h1 h2 e=>e.elim (fun e=>h1 e.1) h2;have q:∀ i,x.ow i≠0->i≠g:=fun i hi e=>hi (e ▸ h.fg.2);have own:∀ i m,x.ow i=m->m≠5->m≠0->¬ ((x.ow i=5/\F i)\/i=g):=fun i m L h4 h0=>C i (by omega) (q i (by omega))
 refine⟨⟨?_,h.wds.only f (own _ 1 h.fp.2 (by decide) (by decide)) (own _ 2 h.fb.2 (by decide) (by decide)),h.lst.only f (own _ 3 h.fl.2 (by decide) (by decide)),h.pl,h.pe,fun c k o=>(h.cl c k o).only f (fun i hi=>own i (c+6) (h.fc c i hi).2 (by omega) (by omega)),
  zas h.tr fun i hi=>f.block i (h.tr.lt i hi).2 (own i 4 (h.ft i hi).2 (by decide) (by decide)),?_,fun i hi=>?_,⟨.inl h.fg.1,(b _ h.fg.1).trans h.fg.2⟩,⟨.inl h.fp.1,(b _ h.fp.1).trans h.fp.2⟩,⟨.inl h.fb.1,(b _ h.fb.1).trans h.fb.2⟩,⟨.inl h.fl.1,(b _ h.fl.1).trans h.fl.2⟩,fun i hi=>⟨.inl (h.ft i hi).1,(b _ (h.ft i hi).1).trans (h.ft i hi).2⟩,
  fun i hi=>?_,fun c i hi=>⟨.inl (h.fc c i hi).1,(b _ (h.fc c i hi).1).trans (h.fc c i hi).2⟩⟩,f⟩
 ·have I:zaa W' g (zfd s x.p x.lb d.l.length x.tv x.sv) 70:=h.top.only y (fun e=>by have:=h.fg.2;omega);rw[h2];exact I.set 6 v'
 ·rw[h2];refine zas (w:=W') ?_ fun i hi=>Below.heap_setCell _ ⟨g,6,.none⟩ _ i ?_
  ·simpa[Wx.logd] using E
  rcases j with j|j
  ·rw[show (x.logd v' W.heap.size).sv=v' from rfl,j]at hi;have:=(h.fs i hi).2;exact q i (by omega)
  rw[show (x.logd v' W.heap.size).sv=v' from rfl,j]at hi;injection hi with hi;have:=(h.lt _ h.fg.1).2;show i≠g;omega
 ·rcases hi with hi|hi
  ·exact⟨(h.lt i hi).1,by have:=(h.lt i hi).2;have:=f.size;omega⟩
  exact⟨by omega,hi.2⟩
 rw[show (x.logd v' W.heap.size).sv=v' from rfl]at hi;rcases j with j|j
 ·rw[j]at hi;exact⟨.inl (h.fs i hi).1,(b _ (h.fs i hi).1).trans (h.fs i hi).2⟩
 have z:=E.lt i hi;rw[j]at hi;injection hi with hi;subst hi;exact⟨.inr ⟨Nat.le_refl _,by rw[D];exact z.2⟩,if_pos lr⟩
section

variable {B:Nat} {F:Nat->Prop} {W:World} {g:Nat} {s:Sh} {d:Wd} {x:Wx} {n:Nat}

theorem z2w(h:WdP B F W g s d x)(hB:B<=W.heap.size)(ho:wdOk s d n)(hn:n<=10000000)(c:Int)(k:Kl)(hk:d.kl c=some k):
  Calls Tryz.prog 24 #[some g,.pointer (some ⟨x.qs c.toNat,0,.none⟩)] W fun e w'=>e= .returned (.int .i64 (d.step s c k).2)/\WdTq (fun q=>q=x.qs) B F W w' g s (d.step s c k).1:=by
 obtain⟨c9,ch,bz⟩:=ho.kl c k hk;have bx:=(Wd.zfs hk).2;have bj:d.l.getD c.toNat none=some k:=by have h1:=hk;unfold Wd.kl at h1;rw[if_pos bz.1]at h1;exact h1
 have cv:=ho.st;have bi:=h.cw (n:=0) bj c9 ho.fi;have cj:=Kl.zw4 s k d.m;have b5:=ho.lg;have cx:=ho.tr;have L:=ybc bi hB (by omega);have b8:=zoh x.p x.b d.m W h.wds;have U:d.step s c k=(⟨(k.step s d.m).2.1,d.l.set c.toNat (some (k.step s d.m).1),d.tr++(k.step s d.m).2.2.1,if d.m.st<(k.step s d.m).2.1.st then d.lg++[(k.step s d.m).2.1.la] else d.lg⟩,(k.step s d.m).2.2.2):=rfl
 have b3:∀ r w',z2r B (x.Fc c.toNat) W w' (x.qs c.toNat) x.p x.b s k d.m r->∃ v,r= .returned (.tuple #[v,.int .i64 (k.step s d.m).2.2.2])/\w'.ownsRow W.heap.size 77 8 v (k.step s d.m).2.2.1.length ((k.step s d.m).2.2.1.flatMap fun e=>e.cells.toList)/\
   WdP B (grow F W w') w' g s {d with m:=(k.step s d.m).2.1,l:=d.l.set c.toNat (some (k.step s d.m).1)} (x.mine c.toNat W.heap.size w'.heap.size)/\Only F W w':=fun r w' hS=>by
  obtain⟨v,h1,h2⟩:=hS.ret
  have h3:=h.stepped hB bj bx hS.cw.kl hS.cw.wd hS.only
  exact⟨v,h1,h2,h3.1,h3.2⟩
 have ck:=(h.lt _ h.fg.1).2;have c3:=ce (.pointer (some ⟨x.p,0,.none⟩)) (h.top.cell 3);have lg:=h.top.lt;have cp:∀ w',grow F W w' g:=fun w'=>.inl h.fg.1;clear bi h;generalize (k.step s d.m).1=k' at *;generalize (k.step s d.m).2.2.2=er at *;generalize (k.step s d.m).2.2.1=es at *;generalize (k.step s d.m).2.1=I at *;obtain⟨R,cg,Z⟩:∃ R:Wd × Int,Hid (R=d.step s c k)/\R=d.step s c k:=⟨_,hd' rfl,rfl⟩;rw[<-Z]at U ⊢;clear Z;replace U:=hd' U;replace b8:=hd' b8;replace L:=hd' L;replace b3:=hd' b3;replace b5:=hd' b5;go_in;go_upto_region 3 with(first|(go_at_call 51;(with_reducible refine b8.out.mono ?_);rintro r w1 ⟨rfl,ca⟩;obtain rfl:=ca.symm)|(go_at_call 52;(with_reducible refine L.out.mono ?_);rintro r C hS;obtain⟨v,rfl,H,j,bm⟩:=b3.out _ _ hS;clear hS;have f3:=ce (.pointer (some ⟨x.p,0,.none⟩)) (j.top.cell 3);have l3:=j.top.lt));have b2:B<=C.heap.size:=by have:=bm.size;omega
 have bg:WdTo B F W C g s {d with m:=I,l:=d.l.set c.toNat (some k')}:=⟨⟨_,j⟩,bm,b2⟩;have bq:zaq C x.p x.b I:=j.wds;have bn:=hd' (zoh x.p x.b I C bq);by_cases bk:d.m.st<I.st
 ·replace U:=hd' (U.out.trans (by rw[if_pos bk]:_=((⟨I,d.l.set c.toNat (some k'),d.tr++es,d.lg++[I.la]⟩:Wd),er)));have y:=fun Y (hY:zaq Y x.p x.b I)=>z4k x.p x.b I Y hY;unfold accV at y;have bc:=fun Y (hb:Below C.heap.size C Y)=>bq.below hb;have E:C.ownsRow B 116 6 x.sv d.lg.length (d.lg.flatMap fun e=>e.cells.toList):=j.lg;have c6:=ce x.sv (j.top.cell 6);obtain⟨i0,c7,cc,cd,cf⟩:=info_parts z8u;obtain⟨O,S,X,h0⟩:=RdS.zew E;clear h0;have G:=fun Y W' v' W2 (hb:Below C.heap.size C Y)=>WdP.logged (W:=Y) (W':=W') (W2:=W2) (v':=v') (es:= [I.la]) (j.below hb) (by have:=hb.size;omega);have c4:=j.fg.2;rw[X]at c6;have T:∀ Y:World,Below C.heap.size C Y->Y.ownsRow B 116 6 (.slice O d.lg.length S) d.lg.length (d.lg.flatMap fun e=>e.cells.toList)/\zaa Y g (zfd s x.p x.lb (d.l.set c.toNat (some k')).length x.tv x.sv) 70/\Y.cell? ⟨g,3,.none⟩=some (.pointer (some ⟨x.p,0,.none⟩))/\Y.cell? ⟨g,6,.none⟩=some (.slice O d.lg.length S):=fun Y hb=>⟨X ▸ zic E hb,j.top.below hb,(j.below hb).top.cell 3,X ▸ (j.below hb).top.cell 6⟩;have b4:∀ i,x.sv.ownBlock=some i->i≠g:=fun i hi e=>by have:=(j.fs i hi).2;rw[e,c4]at this;cases this
  have cm:d.lg.length<=10000000:=by have:=b5.out;omega
  replace y:=hd' y;replace bc:=hd' bc;replace T:=hd' T;replace G:=hd' G;replace b4:=hd' b4;replace X:=hd' X;replace E:=hd' E;have c8:(Value.slice O d.lg.length S).ownBlock≠some g:=fun e=>b4.out g (by rw[X.out];exact e) rfl;have b9:∀ Y w5:World,zaa Y g (zfd s x.p x.lb (d.l.set c.toNat (some k')).length x.tv x.sv) 70->∀ o,(Y.alloc o).grownBy w5 (Value.slice O d.lg.length S).ownBlock->zaa w5 g (zfd s x.p x.lb (d.l.set c.toNat (some k')).length x.tv x.sv) 70:=fun Y w5 h1 o h2=>(h2.block g (h1.alloc o).lt (fun e=>c8 e.symm)).trans (h1.alloc o);replace b9:=hd' (fun Y w5 h1 {o} h2=>b9 Y w5 h1 o h2);generalize cl:I.la=la at *;obtain⟨ac,ak,aa,aw,ap,ao⟩:=la;dsimp only at y;have b6:∀ u ∈ ([.int .i64 ac,.int .i64 ak,.int .i64 aa,.int .u64 aw,.int .u64 ap,.bool ao]:List Value),u.oneCell'=true:=fun u hu=>by simp only[List.mem_cons,List.not_mem_nil,or_false]at hu;rcases hu with rfl|rfl|rfl|rfl|rfl|rfl<;>rfl
  replace b6:=hd' b6;go_upto_region 4 with(first|(go_at_call 51;(with_reducible refine bn.out.mono ?_);rintro r w4 ⟨rfl,bb⟩;obtain rfl:=bb.symm));have dd:=(Below.refl C.heap.size C).drew;have d6:=(T.out _ dd).2.2.2;have bf:=hd' dd;clear dd
  go_region_law
   (first|(refine zbg (by rfl) (.tmp 33) (.tmp 39) 68 (by rfl) B 116 i0 _ 6 48 Tryz.underlying68 c7 cc cd cf rfl (by omega) _ d.lg.length _ (by rfl) (k4.1.alloc _) _ 1 [.int .i64 ac,.int .i64 ak,.int .i64 aa,.int .u64 aw,.int .u64 ap,.bool ao] (by rfl) (RdS.new (cs:= #[ac,ak,aa,.int .u64 aw,.int .u64 ap,ao]) (t:=116) (sz:=6) (n:=1) (heap_alloc_new w4 _) rfl (by omega)) b6.out (by simp only[maxLen];omega) (by omega) (by simp;omega) ?_;intro v1 w5 D z b1;obtain⟨a5,c5,e5,_⟩:=RdS.zew D;subst e5;have t5:=b9.out _ _ k4.2.1 z;have l5:=t5.lt;have q5:=ce x.sv (t5.cell 6);have z5:=zax t5)|(go_simp;go_at_call 53;(with_reducible refine(y.out _ (bc.out _ bf.out)).mono ?_);rintro r w4 ⟨rfl,bw⟩;have J:=bf.out.trans bw;have k4:=T.out _ J;have y6:=k4.2.2.2;have l4:=k4.2.1.lt;have cq:=J.size))
  all_goals
   have V:Below C.heap.size C (w4.alloc (.cells #[ac,ak,aa,.int .u64 aw,.int .u64 ap,ao] 116)):=zab J ((Below.refl w4.heap.size w4).alloc lr _);have M:=G.out _ _ _ _ V (show World.grownBy _ _ x.sv.ownBlock from (by rw[X.out];exact z)) D (show Value.ownBlock _=x.sv.ownBlock\/_ from (by rw[X.out];exact b1)) rfl;generalize World.setCell w5 ⟨g,6,.none⟩ _=w6 at *;have cu:=V.size;have cr:=M.2.size;have b0:WdTq (fun q=>q=x.qs) B (grow F W C) C w6 g s ⟨I,d.l.set c.toNat (some k'),d.tr,d.lg++[⟨ac,ak,aa,aw,ap,ao⟩]⟩:=WdTq.from j b2 V ⟨⟨_,M.1,rfl⟩,Only.weak M.2 (fun i hi=>hi.elim (fun e=>e.2) (fun e=>e ▸ j.fg.1)),by omega⟩
   have bp:w6.ownsRow W.heap.size 77 8 v es.length (es.flatMap fun e=>e.cells.toList):=zas (zic H V) fun i hi=>M.2.block i (by have:=(H.lt i hi).2;omega) (fun e=>by
    have h8:=(H.lt i hi).1
    rcases e with e|e
    ·have h9:(x.mine c.toNat W.heap.size C.heap.size).ow i=c.toNat+6:=if_pos h8
     omega
    ·omega)
   have bh:=WdTq.trans bg b0;obtain⟨⟨x6,cb,b7⟩,_,bs⟩:=id bh;replace b7:=hd' b7;have ba:=hd' (zqf cb bs es v (zut bp) (by show d.tr.length+es.length<=_;omega));clear M b0 bp D z b1 t5 q5 z5 l5 G;go_wp2_with (first|(go_at_call 26;(with_reducible refine ba.out.mono ?_);rintro r w7 ⟨rfl,bv⟩));go_returns;rw[U.out];exact⟨rfl,WdTq.trans bh.to (bv.imp fun q e=>e.trans b7.out)⟩
 replace U:=hd' (U.out.trans (by rw[if_neg bk]:_=((⟨I,d.l.set c.toNat (some k'),d.tr++es,d.lg⟩:Wd),er)));have ba:=hd' (zqf j b2 es v (zut H) (by show d.tr.length+es.length<=_;omega));go_wp2_with (first|(go_at_call 51;(with_reducible refine bn.out.mono ?_);rintro r w4 ⟨rfl,bb⟩;obtain rfl:=bb.symm)|(go_at_call 26;(with_reducible refine ba.out.mono ?_);rintro r w5 ⟨rfl,bu⟩));go_returns;rw[U.out];exact⟨rfl,WdTq.trans bg (bu.imp fun q e=>e)⟩
end

end

section

open Go.RowKit

attribute [local go_sem ↓] Go.wp_at_zero Go.wp_at_succ

theorem zrm(i cl a b d:Int)(j:Nat)(w:World):Calls Tryz.prog 21 #[.agg #[i,cl,a,b,d,.float .f64 j]] w fun e w'=>e= .returned (.bool (decide (1<=i/\i<=4)))/\Below w.heap.size w w':=by
 by_cases h1:1<=i
 ·by_cases h2:i<=4
  ·rw[decide_eq_true (And.intro h1 h2)];have d1:decide (i>=1)=true:=decide_eq_true h1;have d2:decide (i<=4)=true:=decide_eq_true h2;go_in;go_wp2;go_ret;exact⟨rfl,br.alloc lr _⟩
  rw[decide_eq_false (fun h:1<=i/\i<=4=>h2 h.2)];have d1:decide (i>=1)=true:=decide_eq_true h1;have d2:decide (i<=4)=false:=decide_eq_false h2;go_in;go_wp2;go_ret;exact⟨rfl,br.alloc lr _⟩
 rw[decide_eq_false (fun h:1<=i/\i<=4=>h1 h.1)];have d1:decide (i>=1)=false:=decide_eq_false h1;go_in;go_wp2;go_ret;exact⟨rfl,br.alloc lr _⟩
section

variable {B:Nat} {F:Nat->Prop} {W:World} {g:Nat} {s:Sh} {d:Wd} {x:Wx} {n:Nat}

theorem ybl(h:WdP B F W g s d x)(y:B<=W.heap.size)(z:wdOk s d n)(c:Int)(k:Kl)(q:d.kl c=some k)(o:Op3):
  Calls Tryz.prog 25 #[.pointer (some ⟨x.qs c.toNat,0,.none⟩),.agg #[o.k,o.a,o.n]] W fun r w'=>∃ v D,r= .returned (.tuple #[v,.int .i64 (k.invoke s o).2.2])/\RdE w' v (k.invoke s o).2.1/\
   WdP B (grow F W w') w' g s {d with l:=d.l.set c.toNat (some (k.invoke s o).1)} D/\Only F W w':=by
 obtain⟨t,C,m⟩:=z.kl c k q;have j:=(Wd.zfs q).2;have b:d.l.getD c.toNat none=some k:=by have h1:=q;unfold Wd.kl at h1;rw[if_pos m.1]at h1;exact h1
 have p:=h.cw (n:=0) b t z.fi;refine(yfi o p y).mono fun r w' hS=>?_;obtain⟨v,h1,h2⟩:=hS.ret;have h3:=h.stepped y b j hS.cw.kl hS.cw.wd (Only.weak hS.only fun i hi=>.inl hi);exact⟨v,_,h1,zut h2,h3.1,h3.2⟩
theorem yaq(h:WdP B F W g s d x)(S:B<=W.heap.size)(R:wdOk s d n)(c:Ch)(q:c.bad s):
  Calls Tryz.prog 7 #[some g,.agg c.cells.toArray] W fun e w'=>e= .returned (.int .i64 1)/\WdTo B F W w' g s d:=by
 have U:=R.fi.bd;have hm:=R.fi.may;obtain⟨y,o,D,z,cn,C⟩:=c;show Calls Tryz.prog 7 #[some g,.agg #[y,o,D,z,cn,.float .f64 C]] W _;have b:=(Below.refl W.heap.size W).alloc lr (.cells #[y,o,D,z,cn,.float .f64 C] 39);have G:zaa (W.alloc (.cells #[y,o,D,z,cn,.float .f64 C] 39)) W.heap.size #[y,o,D,z,cn,.float .f64 C] 39:=heap_alloc_new _ _;have j:=fun Y=>zrm y o D z cn C Y;have r:=fun Y=>zau s.p s.c s.m o Y;have O:∀ (p:Nat) (W:World),(binOp .eql 28 (.pointer (some ⟨p,0,.none⟩)) (.pointer none)).run Tryz.prog W= .ok (.bool false) W:=fun p W=>by kernel_rfl
 have i:=fun W1 (hb:Below W.heap.size W W1)=>WdTo.start (W1:=W1) h S hb;have g0:(W.alloc (.cells #[y,o,D,z,cn,.float .f64 C] 39)).cell? ⟨g,0,.none⟩=some (.int .i64 s.p):=(h.below b).top.cell 0;have g1:(W.alloc (.cells #[y,o,D,z,cn,.float .f64 C] 39)).cell? ⟨g,1,.none⟩=some (.int .i64 s.c):=(h.below b).top.cell 1;have g2:(W.alloc (.cells #[y,o,D,z,cn,.float .f64 C] 39)).cell? ⟨g,2,.none⟩=some (.int .i64 s.m):=(h.below b).top.cell 2;have b0:=(h.below b).top.lt;replace i:=hd' i;unfold Ch.bad at q;dsimp only at q;clear h;by_cases I:1<=y/\y<=4
 ·have V:zae s.p s.c s.m o<0:=by
   rcases Int.lt_or_le (zae s.p s.c s.m o) 0 with e|e
   ·exact e
   have:=(zbe e).2;omega
  rw[decide_eq_true I]at j;generalize zae s.p s.c s.m o=sx at *;replace j:=hd' j;replace r:=hd' r;clear q I;go_in;go_upto_region 1 with fail;generalize W.alloc (.cells #[y,o,D,z,cn,.float .f64 C] 39)=X at *;obtain⟨H,T,l⟩:=hidv W.heap.size;rw[<-l]at G ⊢;try rw[<-l]at hFH hHl
  clear l;replace b:=hd' b;have Z:=G.lt;have J:=G.cell;refine wre ?_;repeat (go_big_quiet_step ((first|(go_at_call 21;exact zam (j.out _))|(go_at_call 22;exact zam (r.out _)))))
  refine wqn fun Y E=>?_;have M:=E;clear J;go_wp2_with fail;go_returns;exact⟨rfl,i.out _ (zab b.out M)⟩
 rw[decide_eq_false I]at j;replace j:=hd' j;replace r:=hd' r;clear q I;go_in;go_upto_region 1 with fail;generalize W.alloc (.cells #[y,o,D,z,cn,.float .f64 C] 39)=X at *;obtain⟨H,T,l⟩:=hidv W.heap.size;rw[<-l]at G ⊢;try rw[<-l]at hFH hHl
 clear l;replace b:=hd' b;have Z:=G.lt;have L:=G.cell;refine wre ?_;repeat (go_big_quiet_step ((first|(go_at_call 21;exact zam (j.out _))|(go_at_call 22;exact zam (r.out _)))))
 refine wqn fun Y E=>?_;have M:=E;clear L;go_wp2_with fail;go_returns;exact⟨rfl,i.out _ (zab b.out M)⟩
theorem z0t(h:WdP B F W g s d x)(hB:B<=W.heap.size)(ho:wdOk s d n)(hn:n<=10000000)(c:Ch)(G:¬ c.bad s):
  Calls Tryz.prog 7 #[some g,.agg c.cells.toArray] W fun e w'=>e= .returned (.int .i64 (d.act s c).2)/\WdTq (fun q=>c.kind=3->q=x.qs) B F W w' g s (d.act s c).1:=by
 have ec:=ho.fi.bd;have hm:=ho.fi.may;obtain⟨j,b,C,z,cn,U⟩:=c;show Calls Tryz.prog 7 #[some g,.agg #[j,b,C,z,cn,.float .f64 U]] W _;have b7:=(Below.refl W.heap.size W).alloc lr (.cells #[j,b,C,z,cn,.float .f64 U] 39);have t0:zaa (W.alloc (.cells #[j,b,C,z,cn,.float .f64 U] 39)) W.heap.size #[j,b,C,z,cn,.float .f64 U] 39:=heap_alloc_new _ _;have ba:=fun Y=>zrm j b C z cn U Y;have b8:=fun Y=>zau s.p s.c s.m b Y;have e8:∀ (p:Nat) (W:World),(binOp .eql 28 (.pointer (some ⟨p,0,.none⟩)) (.pointer none)).run Tryz.prog W= .ok (.bool false) W:=fun p W=>by kernel_rfl
 have ei:∀ (p:Nat) (W:World),(binOp .eql 43 (.pointer (some ⟨p,0,.none⟩)) (.pointer none)).run Tryz.prog W= .ok (.bool false) W:=fun p W=>by kernel_rfl
 have M:1<=j/\j<=4/\0<=b/\b<s.c:=by unfold Ch.bad at G;dsimp only at G;omega
 have hc:0<=b/\b<s.c:=⟨M.2.2.1,M.2.2.2⟩;have ed:¬ b<0:=by omega
 have ef:=hc.1;rw[zeu hm hc]at b8;rw[decide_eq_true (And.intro M.1 M.2.1)]at ba;have hi:b.toNat<d.l.length:=by rw[ho.len];omega
 have eg:b<(d.l.length:Int):=by omega
 have bj:=ho.tr
 have bn:d.act s ⟨j,b,C,z,cn,U⟩=if j=1 then d.begin s ⟨j,b,C,z,cn,U⟩ else match d.kl b with
  |none=>(d,2)
  |some k=>if j=3 then d.step s b k else if j=2 then d.ask s ⟨j,b,C,z,cn,U⟩ k else d.kill b:=if_neg G
 have S:∀ Z,Below W.heap.size W Z->Calls Tryz.prog 23 #[some g,.agg #[j,b,C,z,cn,.float .f64 U]] Z fun e w'=>e= .returned (.int .i64 (d.begin s ⟨j,b,C,z,cn,U⟩).2)/\WdTo B F Z w' g s (d.begin s ⟨j,b,C,z,cn,U⟩).1:=fun Z hb=>zyt (h.below hb) (by have:=hb.size;omega) ho hn ⟨j,b,C,z,cn,U⟩ hc;have V:=fun k (hk:d.kl b=some k) Z (hb:Below W.heap.size W Z)=>z2w (h.below hb) (by have:=hb.size;omega) ho hn b k hk;have b6:=fun k (hk:d.kl b=some k) Z (hb:Below W.heap.size W Z)=>ybl (h.below hb) (by have:=hb.size;omega) ho b k hk ⟨C,z,cn⟩;have E:=fun W1 W2 d2 (hb:Below W.heap.size W W1)=>WdTo.from (W1:=W1) (W2:=W2) (d2:=d2) h hB hb;have bc:=fun W1 (hb:Below W.heap.size W W1)=>WdTo.start (W1:=W1) h hB hb;have D:=fun W1 W2 d2 (hb:Below W.heap.size W W1)=>WdTq.from (R:=fun q=>q=x.qs) (W1:=W1) (W2:=W2) (d2:=d2) h hB hb;have T:=fun W1 (hb:Below W.heap.size W W1)=>WdTq.start (R:=fun q=>j=3->q=x.qs) (W1:=W1) h hB hb (fun _=>rfl);have bw:=fun F' Y L x' (hY:WdP B F' Y g s {d with l:=L} x')=>zlc hY ho.fi b 2 hc;have O:=fun Z Y (hb:Below W.heap.size W Z) (cu:Below Z.heap.size Z Y)=>WdP.place (W:=Z) (W':=Y) (c:=b.toNat) (q:=0) (o:=none) (Fq:=fun _=>False) (h.below hb) (by have:=hb.size;omega) hi cu (fun k e=>by cases e) (fun i e=>e.elim) rfl;have bz:¬ F W.heap.size:=fun e=>by have:=(h.lt _ e).2;omega
 have bs:W.heap.size≠x.lb:=fun e=>by have:=(h.lt _ h.fl.1).2;omega
 have cv:g≠x.lb:=fun e=>by have:=h.fg.2;have:=h.fl.2;rw[e]at *;omega
 have b0:∀ Y:World,Below W.heap.size W Y->zaa Y g (zfd s x.p x.lb d.l.length x.tv x.sv) 70/\Y.cell? ⟨x.lb,b.toNat,.none⟩=some (ptrK (d.kl b) (x.qs b.toNat))/\(∀ i,Y.frozen? ⟨x.lb,i,.none⟩=false)/\x.lb<Y.heap.size:=fun Y hb=>⟨(h.below hb).top,(h.below hb).ptr hc.1 hi,zax (h.below hb).lst,(h.below hb).lst.lt⟩;have k0:=b0 _ b7;have cf:=k0.1.cell;have e3:=k0.1.lt;obtain⟨R,hR,c4⟩:∃ R:Wd × Int,Hid (R=d.act s ⟨j,b,C,z,cn,U⟩)/\R=d.act s ⟨j,b,C,z,cn,U⟩:=⟨_,hd' rfl,rfl⟩;rw[<-c4];clear c4 k0 h;replace hR:=hd' (hR.out.trans bn);replace S:=hd' S;replace V:=hd' V;replace b6:=hd' b6;replace E:=hd' E;replace bc:=hd' bc;replace D:=hd' D;replace T:=hd' T;replace bw:=hd' bw;replace O:=hd' O;replace b0:=hd' b0;replace ba:=hd' ba;replace b8:=hd' b8;replace bj:=hd' bj;replace G:=hd' G;clear bn;go_in;go_upto_region 1 with fail;generalize W.alloc (.cells #[j,b,C,z,cn,.float .f64 U] 39)=X at *;obtain⟨H,hH,bq⟩:=hidv W.heap.size;rw[<-bq]at t0 ⊢;try rw[<-bq]at bz bs
 clear bq;replace b7:=hd' b7;have lH:=t0.lt;obtain⟨x0,x1,x2,x3,x4⟩:=ci5 j b C z cn t0.cell;have x5:=ce (.float .f64 U) (t0.cell 5);refine wre ?_;repeat (go_big_quiet_step ((first|(go_at_call 21;exact zam (ba.out _))|(go_at_call 22;exact zam (b8.out _)))))
 refine wqn fun Y cs=>?_;have hX:=cs;clear x0 x1 x2 x3 x4 x5;have bv:=zab b7.out hX;have tY:=t0.below hX;have kY:=b0.out _ bv;clear t0 b7 b8 ba cf e3 lH;have cq:=hX.size;have cm:H<Y.heap.size:=tY.lt;have e4:=kY.1.lt;have cg:=tY.cell;have ch:=kY.1.cell;have yl:=kY.2.1;have e6:=kY.2.2.2;clear kY hX;go_upto_region 3 with fail;go_quiet (fail);have c5:=below_drewN (Below.refl Y.heap.size Y) nq;have tZ:zaa (Y.drewN nq) H _ _:=tY.drewN nq;generalize Y.drewN nq=Z at *;have y:=zab bv c5;have kZ:=b0.out _ y;have e2:=tZ.lt;have e5:=kZ.1.lt;obtain⟨z0,z1,z2,z3,z4⟩:=ci5 j b C z cn tZ.cell;have cj:=tZ.cell;have bx:=ce (.slice (some ⟨x.lb,0,.none⟩) d.l.length d.l.length) (kZ.1.cell 4);have zl:=kZ.2.1;have zf:=kZ.2.2.1;have e7:=kZ.2.2.2;clear cg ch yl e6 tY e4 cm kZ cq c5 bv;obtain⟨pv,c7,bp⟩:∃ pv,Hid (pv=ptrK (d.kl b) (x.qs b.toNat))/\pv=ptrK (d.kl b) (x.qs b.toNat):=⟨_,hd' rfl,rfl⟩;rw[<-bp]at zl ⊢;clear bp;by_cases b9:j=1
 ·have I:=hd' (hR.out.trans (if_pos b9));clear hR M;subst b9;go_wp2_with (first|(go_at_call 23;(with_reducible refine(S.out _ y).mono ?_);rintro r w5 ⟨rfl,hT⟩));go_returns;rw[I.out];exact⟨rfl,(E.out _ _ _ y hT).q fun q e=>absurd e (show ¬ (1:Int)=3 by decide)⟩
 have b1:(j==1)=false:=by rw[beq_eq_false_iff_ne];exact b9
 rcases hkl:d.kl b with _|k
 ·have I:=hd' (hR.out.trans ((if_neg b9).trans (by rw[hkl])):R=(d,2));obtain rfl:pv= .pointer none:=by rw[c7.out,hkl];rfl
  clear hR M;go_wp2_with fail;go_returns;rw[I.out];exact⟨rfl,T.out _ y⟩
 have I:=hd' (hR.out.trans ((if_neg b9).trans (by rw[hkl])):R=if j=3 then d.step s b k else if j=2 then d.ask s ⟨j,b,C,z,cn,U⟩ k else d.kill b);obtain rfl:pv= .pointer (some ⟨x.qs b.toNat,0,.none⟩):=by rw[c7.out,hkl];rfl
 clear hR;by_cases b4:j=3
 ·have J:=hd' (I.out.trans (if_pos b4));have cz:=hd' (V.out k hkl Z y);clear I M;subst b4;go_wp2_with (first|(go_at_call 24;(with_reducible refine cz.out.mono ?_);rintro r w5 ⟨rfl,hT⟩));go_returns;rw[J.out];first|exact⟨rfl,D.out _ _ _ y hT⟩|exact⟨rfl,(D.out _ _ _ y hT).imp fun q e _=>e⟩
 have b3:(j==3)=false:=by rw[beq_eq_false_iff_ne];exact b4
 by_cases bi:j=2
 ·have J:=hd' (I.out.trans ((if_neg b4).trans (if_pos bi)));have cr:=hd' (b6.out k hkl Z y);have eh:=Kl.zo3 s k ⟨C,z,cn⟩;have b5:d.ask s ⟨j,b,C,z,cn,U⟩ k=(⟨d.m,d.l.set b.toNat (some (k.invoke s ⟨C,z,cn⟩).1),d.tr++(k.invoke s ⟨C,z,cn⟩).2.1,d.lg⟩,(k.invoke s ⟨C,z,cn⟩).2.2):=rfl;replace J:=hd' (J.out.trans b5);clear I M b5;generalize (k.invoke s ⟨C,z,cn⟩).1=k' at *;generalize (k.invoke s ⟨C,z,cn⟩).2.1=es at *;generalize (k.invoke s ⟨C,z,cn⟩).2.2=er at *;subst bi;have eb:B<=Z.heap.size:=by have:=y.size;omega
  go_wp2_with (first|(go_at_call 25;(with_reducible refine cr.out.mono ?_);rintro r w5 ⟨v,x5,rfl,cy,bm,bb⟩;have ej:=bb.size;have bg:B<=w5.heap.size:=(by omega);have e1:=hd' (zwm bm bg es v cy (by show d.tr.length+es.length<=_;have:=bj.out;omega));have bh:=hd' ((⟨⟨x5,bm⟩,bb,bg⟩:WdTo B F Z w5 g s {d with l:=d.l.set b.toNat (some k')})))|(go_at_call 26;(with_reducible refine e1.out.mono ?_);rintro r w6 ⟨rfl,bu⟩));go_returns;rw[J.out];exact⟨rfl,(E.out _ _ _ y (WdTo.trans bh.out bu)).q fun q e=>absurd e (show ¬ (2:Int)=3 by decide)⟩
 have b2:(j==2)=false:=by rw[beq_eq_false_iff_ne];exact bi
 have J:=hd' (I.out.trans ((if_neg b4).trans (if_neg bi)));clear I M;go_upto_region 14 with fail;have c9:=(b0.out _ y).1
 go_region_held3 (fun Y=>Y.cell? ⟨H,1,.none⟩=some (.int .i64 b)/\Y.cell? ⟨g,4,.none⟩=some (.slice (some ⟨x.lb,0,.none⟩) d.l.length d.l.length))
  (first|exact⟨z1,bx⟩|exact⟨(tZ.drew.other bs _ _).cell 1,(c9.drew.other cv _ _).cell 4⟩)
  (fail)
 obtain⟨x',bk,c6,_,_⟩:=O.out Z Z.drew y br.drew;have tK:=tZ.drew.other bs b.toNat (ptrK none 0);have ek:=c6.size;have cp:=hd' (⟨⟨x',bk⟩,c6,by have:=y.size;omega⟩:WdTo B F Z _ g s {d with l:=d.l.set b.toNat none});change Exit.then _ _ _ _ (Z.drew.setCell ⟨x.lb,b.toNat,.none⟩ (ptrK none 0));generalize Z.drew.setCell ⟨x.lb,b.toNat,.none⟩ (ptrK none 0)=K1 at *;have e9:=tK.cell;have lK:=tK.lt;have cx:¬ grow F Z K1 H:=fun e=>by rcases e with e|e;exact bz e;omega
 have cl:B<=K1.heap.size:=by have:=y.size;omega
 have em:=bk.top.lt;have bf:d.tr.length+1<=100000000:=by have:=bj.out;omega
 have b5:d.kill b=(⟨d.m.put b (za8 2 0),d.l.set b.toNat none,d.tr++[⟨1,b,0,0,0,0,0,0⟩],d.lg⟩,0):=rfl;replace J:=hd' (J.out.trans b5);replace bf:=hd' bf;clear b5 c9 z0 z1 z2 z3 z4 cj bx zl zf e7 e2 e5;go_wp2_with (first|(go_at_call 27;(with_reducible refine(bw.out _ _ _ _ bk).mono ?_);rintro r w5 ⟨rfl,bm,bb⟩;have cd:=tK.only bb cx;have ea:=cd.cell;have l5:=cd.lt;have bh:=hd' (WdTo.trans cp.out (WdTo.set bk cl bm bb));obtain⟨⟨x2,c8⟩,_,bg⟩:=id bh.out;have el:=c8.top.lt;have e0:=zq0 c8 bg 1 b bf.out)|(go_at_call 26;(with_reducible refine e0.mono ?_);rintro r w6 ⟨rfl,bu⟩));go_returns;rw[J.out];exact⟨rfl,(E.out _ _ _ y (WdTo.trans bh.out bu)).q fun q e=>absurd e b4⟩
theorem z7b(h:WdP B F W g s d x)(i:B<=W.heap.size)(l:wdOk s d n)(j:n<=10000000)(c:Ch)(b:¬ c.bad s):
  Calls Tryz.prog 7 #[some g,.agg c.cells.toArray] W fun e w'=>e= .returned (.int .i64 (d.act s c).2)/\WdTo B F W w' g s (d.act s c).1:=
 (z0t h i l j c b).mono fun e w' h=>⟨h.1,h.2.to⟩
theorem zkm(h:WdP B F W g s d x)(b:B<=W.heap.size)(i:wdOk s d n)(j:n<=10000000)(c:Ch):
  Calls Tryz.prog 7 #[some g,.agg c.cells.toArray] W fun e w'=>e= .returned (.int .i64 (d.act s c).2)/\WdTo B F W w' g s (d.act s c).1:=by
 by_cases hb:c.bad s
 ·have e:d.act s c=(d,1):=if_pos hb;rw[e];exact yaq h b i c hb
 exact z7b h b i j c hb
end

end

section

open Go.RowKit

attribute [local go_sem ↓] Go.wp_at_zero Go.wp_at_succ

attribute [local go_sem ↓] zhk zh6

def zco (w:World) (N:Nat) (c:Cn):Prop:=w.heap[N]?=some (.cells #[c.f,c.t,c.l,c.o] 49 (0,0))
section

variable {w:World} {N:Nat} {c:Cn}

theorem zco.set0(h:zco w N c)(x:Int):zco (w.setCell ⟨N,0,.none⟩ (.int .i64 x)) N ⟨x,c.t,c.l,c.o⟩:=by unfold zco at *;rw[heap_setCell_same w N 0 _ _ _ h];rfl
theorem zco.set1(h:zco w N c)(x:Int):zco (w.setCell ⟨N,1,.none⟩ (.int .i64 x)) N ⟨c.f,x,c.l,c.o⟩:=by unfold zco at *;rw[heap_setCell_same w N 1 _ _ _ h];rfl
theorem zco.set2(h:zco w N c)(x:Int):zco (w.setCell ⟨N,2,.none⟩ (.int .i64 x)) N ⟨c.f,c.t,x,c.o⟩:=by unfold zco at *;rw[heap_setCell_same w N 2 _ _ _ h];rfl
theorem zco.set3(h:zco w N c)(x:Int):zco (w.setCell ⟨N,3,.none⟩ (.int .i64 x)) N ⟨c.f,c.t,c.l,x⟩:=by unfold zco at *;rw[heap_setCell_same w N 3 _ _ _ h];rfl
theorem zco.c0(h:zco w N c):w.cell? ⟨N,0,.none⟩=some (.int .i64 c.f):=zac h 0
theorem zco.c1(h:zco w N c):w.cell? ⟨N,1,.none⟩=some (.int .i64 c.t):=zac h 1
theorem zco.c2(h:zco w N c):w.cell? ⟨N,2,.none⟩=some (.int .i64 c.l):=zac h 2
theorem zco.c3(h:zco w N c):w.cell? ⟨N,3,.none⟩=some (.int .i64 c.o):=zac h 3
theorem zco.fr(h:zco w N c)(i:Nat):w.frozen? ⟨N,i,.none⟩=false:=zax h i
theorem zco.lt(h:zco w N c):N<w.heap.size:=(Array.getElem?_eq_some_iff.1 h).1
theorem zco.below{w':World}(h:zco w N c)(hb:Below w.heap.size w w'):zco w' N c:=(hb.block N h.lt).trans h
end

abbrev atN (N:Nat):Nat->Prop:=fun k=> k=N
theorem zpz(w:World)(N:Nat)(c:Cn)(b:Bool)(k:Int)(hc:zco w N c)(i:c.nn)(hs:c.sum<=100000)(q:0<=k/\k<=100000):
  Calls Tryz.prog 35 #[some N,b,k] w fun e w'=>e= .returned (.tuple #[])/\Only (atN N) w w'/\zco w' N (c.add (zj7 b k)):=by
 have hb:=Cn.bd i hs;have c2:=hc.c2;have c3:=hc.c3;have j:=hc.fr 2;have m:=hc.fr 3;have r:=wrp (c.l+k);have t:=wrp (c.o+k);rcases Bool.eq_false_or_eq_true b with rfl|rfl
 ·go_in;go_wp2;go_end0;refine⟨rfl,(Only.refl (atN N) w).setCell (p:=⟨N,2,.none⟩) (.inl rfl) _,?_⟩;have:=hc.set2 (c.l+k);simpa[Cn.add,zj7] using this
 go_in;go_wp2;go_end0;refine⟨rfl,(Only.refl (atN N) w).setCell (p:=⟨N,3,.none⟩) (.inl rfl) _,?_⟩;have:=hc.set3 (c.o+k);simpa[Cn.add,zj7] using this
theorem Only.zgk{N:Nat}{w w':World}(o:Only (atN N) w w'){b:Nat}(hb:b<w.heap.size)(f:b≠N)(i:Nat):w'.cell? ⟨b,i,.none⟩=w.cell? ⟨b,i,.none⟩:=by
 have:=o.block b hb f;simp only[World.cell?];rw[this]
theorem Only.zs3{N B:Nat}{b w w':World}(h:Below B b w)(o:Only (atN N) w w')(f:B<=w.heap.size)(i:B<=N):Below B b w':=h.trans (o.below f fun k j=>by rw[j];exact i)
theorem z2f(k:Int)(i:Nat)(h:(i:Int)<=zah k):zbj k*i<=512/\0<=zbj k*i:=by
 have h1:=znt k;have h2:=zcy k;have:=zk3 (c:=zbj k) (m:=(i:Int)) (C:=32) (M:=16) (by omega) (by omega);omega
theorem zyk(h:Hp)(v:Value)(a k:Int)(w0 w:World)(N:Nat)(c:Cn)(b:Bok w0 v h)(ha:0<=a/\a<h.p)(hB:Below w0.heap.size w0 w)(hN:w0.heap.size<=N)(hc:zco w N c)(hn:c.nn)(hs:c.sum<=5000):
  Calls Tryz.prog 37 #[zzu h v,a,k,some N] w fun e w'=>e= .returned (.tuple #[])/\Only (atN N) w w'/\zco w' N (c.add (h.slS a (zbj k) (zah k).toNat)):=by
 have b5:=fun i X (hX:Below w0.heap.size w0 X) hi=>z7y h v a i X (b.below hX) ha hi;have b3:=fun x X (hX:Below w0.heap.size w0 X)=>zth h v x X (b.below hX);have Y:=slots_any k;have b6:=zgq k;have bn:=zcy k;have bp:=znt k;have b1:=fun i=>z2f k i;obtain⟨q,hq⟩:∃ q:Nat,zah k=q:=⟨(zah k).toNat,by omega⟩;rw[hq]at Y bn b1 ⊢;rw[Int.toNat_natCast];generalize zbj k=z at *;have O:c.add (h.slS a z 0)=c:=Cn.add_zero c;have R:∀ i,c.add (h.slS a z (i+1))=(c.add (h.slS a z i)).add (h.slC a z i):=fun i=>(Cn.add_assoc _ _ _).symm;have S:∀ i,(c.add (h.slS a z i)).nn:=fun i=>Cn.z3s hn (h.z9d a bp.1 i);have U:∀ i:Nat,i<=q->(c.add (h.slS a z i)).sum<=6000:=fun i hi=>by have:=b1 i (by omega);rw[Cn.zt6,h.z2x];omega
 have b0:∀ i,h.slC a z i=if h.sk a i=1 then⟨z,0,0,0⟩ else if h.sk a i=3 then⟨0,z,0,0⟩ else zj7 (h.sk a i==2&&h.lv (h.sa a i)) z:=fun _=>rfl;generalize b8:(fun i=>c.add (h.slS a z i))=T at *;have b9:∀ i,c.add (h.slS a z i)=T i:=fun i=>by rw[<-b8]
 simp only[b9]at O R S U ⊢;clear b8 b9;replace b5:=hd' b5;replace b3:=hd' b3;replace Y:=hd' Y;replace b6:=hd' b6;replace O:=hd' O;replace R:=hd' R;replace S:=hd' S;replace U:=hd' U;replace b0:=hd' b0;have bs:=hc.lt;clear hq b1 b;go_in;go_wp2_with fail;refine(b6.out _).mono ?_;rintro e w2 ⟨rfl,hw⟩;obtain rfl:=hw.symm;clear hw;go_wp2_with fail;refine(Y.out _).mono ?_;rintro e w2 ⟨rfl,hw⟩;obtain rfl:=hw.symm;clear hw;obtain⟨H,hH,b7⟩:=hidv w.heap.size;have y:H≠N:=by omega
 have g0:=heap_alloc_new w (.cells #[h.p,h.c,h.m,v] 84);have hW:Only (atN N) w (w.alloc (.cells #[h.p,h.c,h.m,v] 84)):=(Only.refl _ _).alloc _;have M:=hB.alloc hB.size (.cells #[h.p,h.c,h.m,v] 84);have bi:zco (w.alloc (.cells #[h.p,h.c,h.m,v] 84)) N c:=hc.below (br.alloc lr _);have C:H<(w.alloc (.cells #[h.p,h.c,h.m,v] 84)).heap.size:=by simp;omega
 have bq:N<(w.alloc (.cells #[h.p,h.c,h.m,v] 84)).heap.size:=by simp;omega
 rw[<-b7]at g0 ⊢;clear b7;generalize w.alloc (.cells #[h.p,h.c,h.m,v] 84)=W at *;have c0:W.cell? ⟨H,0,.none⟩=some (.int .i64 h.p):=zac g0 0;have c1:W.cell? ⟨H,1,.none⟩=some (.int .i64 h.c):=zac g0 1;have c2:W.cell? ⟨H,2,.none⟩=some (.int .i64 h.m):=zac g0 2;have c3:W.cell? ⟨H,3,.none⟩=some v:=zac g0 3;clear g0;go_wp2_with fail;go_loopw [15] (fun vi wr=>∃ i:Nat,i<=q/\vi= .int .i64 i/\Only (atN N) W wr/\zco wr N (T i)) (fun vi _=>q-(intOf vi).toNat);case atStart=>exact⟨0,Nat.zero_le _,rfl,Only.refl _ _,by rw[O.out];exact bi⟩
 case round=>
  obtain⟨i,hi,rfl,r,J⟩:=hrel;have d0:=(r.zgk C y 0).trans c0;have d1:=(r.zgk C y 1).trans c1;have d2:=(r.zgk C y 2).trans c2;have d3:=(r.zgk C y 3).trans c3;have bh:=Only.zs3 M r M.size hN;by_cases bm:i<q
  ·have G:=b5.out i wr bh (by omega);have j:=R.out i;rw[b0.out i]at j;have b4:=S.out i;have bf:=U.out i hi;have bw:=Cn.bd b4 bf;have V:=b3.out (h.sa a i);generalize h.sk a i=k4 at *;generalize h.sa a i=Z at *;generalize h.lv Z=lb at *;generalize T i=D at *;replace G:=hd' G;replace V:=hd' V;by_cases E:k4=1
   ·rw[if_pos E]at j;subst E;replace j:=hd' j;go_wp2_with fail;refine G.out.mono ?_;rintro e w3 ⟨rfl,l⟩;have o:=(J.below l).below (br.alloc lr (.cells #[.int .i64 1,Z] 135));have I:Only (atN N) W (w3.alloc (.cells #[.int .i64 1,Z] 135)):=(r.trans (Only.of_below l) (fun _ _ h=>h)).alloc _;have q0:=o.c0;have q1:=o.fr 0;have w4:=wrp (D.f+z);go_wp2;refine⟨⟨i+1,by omega,by go_num,I.setCell (p:=⟨N,0,.none⟩) (.inl rfl) _,?_⟩,by simp[intOf];omega⟩;have:=o.set0 (D.f+z);rw[j.out];simpa[Cn.add] using this
   by_cases L:k4=3
   ·rw[if_neg E,if_pos L]at j;subst L;replace j:=hd' j;clear E;go_wp2_with fail;refine G.out.mono ?_;rintro e w3 ⟨rfl,l⟩;have o:=(J.below l).below (br.alloc lr (.cells #[.int .i64 3,Z] 135));have I:Only (atN N) W (w3.alloc (.cells #[.int .i64 3,Z] 135)):=(r.trans (Only.of_below l) (fun _ _ h=>h)).alloc _;have q0:=o.c1;have q1:=o.fr 1;have w4:=wrp (D.t+z);go_wp2;refine⟨⟨i+1,by omega,by go_num,I.setCell (p:=⟨N,1,.none⟩) (.inl rfl) _,?_⟩,by simp[intOf];omega⟩;have:=o.set1 (D.t+z);rw[j.out];simpa[Cn.add] using this
   rw[if_neg E,if_neg L]at j;have bu:(k4==1)=false:=by rw[beq_eq_false_iff_ne];exact E
   have bv:(k4==3)=false:=by rw[beq_eq_false_iff_ne];exact L
   by_cases bb:k4=2
   ·subst bb;replace j:T (i+1)=D.add (zj7 lb z):=j;replace j:=hd' j;clear E L;go_wp2_with fail;refine G.out.mono ?_;rintro e w3 ⟨rfl,l⟩;have o:=(J.below l).below (br.alloc lr (.cells #[.int .i64 2,Z] 135));have I:Only (atN N) W (w3.alloc (.cells #[.int .i64 2,Z] 135)):=(r.trans (Only.of_below l) (fun _ _ h=>h)).alloc _;have e0:=(I.zgk C y 0).trans c0;have e1:=(I.zgk C y 1).trans c1;have e2:=(I.zgk C y 2).trans c2;have e3:=(I.zgk C y 3).trans c3;have bg:=Only.zs3 M I M.size hN;go_wp2_with fail;refine(V.out _ bg).mono ?_;rintro e w4 ⟨rfl,ba⟩;have bj:=o.below ba;have o4:=I.trans (Only.of_below ba) (fun _ _ h=>h);go_wp2_with fail;refine(zpz _ N D lb z bj b4 (by omega) (by omega)).mono ?_;rintro e w5 ⟨rfl,o5,b2⟩;go_wp2;exact⟨⟨i+1,by omega,by go_num,o4.trans o5 (fun _ _ h=>h),by rw[j.out];exact b2⟩,by simp[intOf];omega⟩
   have bc:(k4==2)=false:=by rw[beq_eq_false_iff_ne];exact bb
   rw[bc,Bool.false_and]at j;replace j:=hd' j;clear V;go_wp2_with fail;refine G.out.mono ?_;rintro e w3 ⟨rfl,l⟩;have o:=(J.below l).below (br.alloc lr (.cells #[k4,Z] 135));have I:Only (atN N) W (w3.alloc (.cells #[k4,Z] 135)):=(r.trans (Only.of_below l) (fun _ _ h=>h)).alloc _;go_wp2_with fail;refine(zpz _ N D false z o b4 (by omega) (by omega)).mono ?_;rintro e w5 ⟨rfl,o5,b2⟩;go_wp2;exact⟨⟨i+1,by omega,by go_num,I.trans o5 (fun _ _ h=>h),by rw[j.out];exact b2⟩,by simp[intOf];omega⟩
  have bk:i=q:=by omega
  subst bk;clear bm;have bx:¬ ((i:Int)<(i:Int)):=by omega
  go_wp2;go_end0;exact⟨rfl,hW.trans r (fun _ _ h=>h),J⟩
end

section

open Go.RowKit

attribute [local go_sem ↓] Go.wp_at_zero Go.wp_at_succ

theorem ycv(h:Hp)(v:Value)(w:World)(hr:RdZ .u64 w v h.xs)(hf:h.fit):
  Calls Tryz.prog 14 #[shV h,v] w fun e w'=>e= .returned (.agg #[h.count.f,h.count.t,h.count.l,h.count.o])/\Below w.heap.size w w':=by
 obtain⟨ao,cap,hv,_,_,_⟩:=hr.cells;generalize h.xs.length=n at hv;subst hv;have I:=fun X T=>z5c h (.slice ao n cap) X (hr.below (w':=X) T);have c7:h.count=if h.ok=true then h.cn h.p.toNat else Cn.zero:=rfl;obtain⟨S,hS⟩:∃ S:Obj,S= .cells #[h.p,h.c,h.m] 23:=⟨_,rfl⟩;obtain⟨Z,hZ⟩:∃ Z:Obj,Z= .cells #[.int .i64 0,.int .i64 0,.int .i64 0,.int .i64 0] 49:=⟨_,rfl⟩;obtain⟨t1,t2,t3,t4,t5⟩:=zh5 w S Z Z;rcases Bool.eq_false_or_eq_true h.ok with E|E;case inr=>
  rw[E]at I;rw[c7,E,if_neg Bool.false_ne_true];replace I:=hd' I;subst hS hZ;go_in;go_wp2_with fail;refine(I.out _ t5).mono ?_;rintro e w1 ⟨rfl,C⟩;have y:=C.alloc C.size (.cells #[h.p,h.c,h.m,.slice ao n cap] 84);have r1:=(y.block _ (by rw[t4];omega)).trans t2;have r2:=(y.block _ (by rw[t4];omega)).trans t3;have hB:=t5.trans (y.mono t5.size);have a0:=(zac r1 0).trans (show _=some (.int .i64 0) from rfl);have a1:=(zac r1 1).trans (show _=some (.int .i64 0) from rfl);have a2:=(zac r1 2).trans (show _=some (.int .i64 0) from rfl);have a3:=(zac r1 3).trans (show _=some (.int .i64 0) from rfl);have aF:=zax r1;have b0:=(zac r2 0).trans (show _=some (.int .i64 0) from rfl);have b1:=(zac r2 1).trans (show _=some (.int .i64 0) from rfl);have b2:=(zac r2 2).trans (show _=some (.int .i64 0) from rfl);have b3:=(zac r2 3).trans (show _=some (.int .i64 0) from rfl);go_upto_region 3 with fail;generalize w1.alloc (.cells #[h.p,h.c,h.m,.slice ao n cap] 84)=W at *;obtain⟨H,hH,O⟩:=hidv w.heap.size;rw[<-O]at a0 a1 a2 a3 b0 b1 b2 b3 aF hB ⊢;clear O t1 t2 t3 t4 t5 r1 r2 C y;have b6:H<=H+1:=by omega
  have c4:H+1≠H+1+1:=by omega
  generalize H+1+1=N at *;generalize H+1=R at *;go_wp2;exact bodyPost_ret (v:= .agg #[.int .i64 0,.int .i64 0,.int .i64 0,.int .i64 0]) (by simp[results,Tryz.results14,go_sem,a0,a1,a2,a3]) rfl ⟨rfl,by rw[<-hH.out];exact((((hB.setCell b6 _).setCell b6 _).setCell b6 _).setCell b6 _)⟩
 case inl=>
  have b:Bok w (.slice ao n cap) h:=⟨E,hr,hf⟩;obtain⟨bp,_,_,_⟩:=b.bd;rw[E]at I;rw[c7,E,if_pos rfl];have bq:=fun a X (T:Below w.heap.size w X) ha=>zpo h (.slice ao n cap) a X (b.below T) ha;have bi:=fun a X (T:Below w.heap.size w X) ha=>zy8 h (.slice ao n cap) a X (b.below T) ha;have bk:=fun x X (T:Below w.heap.size w X)=>zth h (.slice ao n cap) x X (b.below T);obtain⟨P,hP⟩:∃ P:Nat,Hid (h.p=P):=⟨h.p.toNat,hd' (by omega)⟩;have bz:h.p.toNat=P:=by have:=hP.out;omega
  rw[bz];clear bz;have Y:∀ k:Nat,h.cn (k+1)=(h.cn k).add (h.pgC k):=fun _=>rfl;have V:∀ k:Nat,k<=64->(h.cn k).nn/\(h.cn k).sum<=4096:=fun k hk=>⟨h.ygi k,by rw[h.ydp];omega⟩;have bm:∀ a:Int,h.pgC a=if (h.hb a || !h.pb a)=true then zj7 (h.hb a&&h.lv (h.hc a)) 64 else if h.pk a=0 then⟨64,0,0,0⟩ else if h.pk a=2 then h.slS a (zbj (h.pa a)) (zah (h.pa a)).toNat else⟨0,64,0,0⟩:=fun _=>rfl;replace I:=hd' I;replace bq:=hd' bq;replace bi:=hd' bi;replace bk:=hd' bk;replace Y:=hd' Y;replace V:=hd' V;replace bm:=hd' bm;replace E:=hd' E;subst hS hZ;go_in;go_wp2_with fail;refine(I.out _ t5).mono ?_;rintro e w1 ⟨rfl,C⟩;have y:=C.alloc C.size (.cells #[h.p,h.c,h.m,.slice ao n cap] 84);have r0:=(y.block _ (by rw[t4];omega)).trans t1;have r1:=(y.block _ (by rw[t4];omega)).trans t2;have r2:=(y.block _ (by rw[t4];omega)).trans t3;have r3:=heap_alloc_new w1 (.cells #[h.p,h.c,h.m,.slice ao n cap] 84);have hB:=t5.trans (y.mono t5.size);have bg:=C.size;go_upto_region 3 with fail;obtain⟨H,hH,O⟩:=hidv w.heap.size;obtain⟨K,hK,bx⟩:=hidv w1.heap.size;rw[<-bx]at r3 ⊢;rw[<-O]at r0 r1 r2 ⊢;have cp:H+2<K:=by rw[t4]at bg;omega
  have lS:=(Array.getElem?_eq_some_iff.1 r0).1;have lR:=(Array.getElem?_eq_some_iff.1 r1).1;have M:=(Array.getElem?_eq_some_iff.1 r3).1;have bc:w.heap.size<=H+1+1:=by omega
  have c9:zco (w1.alloc (.cells #[h.p,h.c,h.m,.slice ao n cap] 84)) (H+1+1) Cn.zero:=r2;clear bx O t1 t2 t3 t4 t5 C y bg r2;generalize w1.alloc (.cells #[h.p,h.c,h.m,.slice ao n cap] 84)=W at *;have s0:W.cell? ⟨H,0,.none⟩=some (.int .i64 h.p):=zac r0 0;have k0:W.cell? ⟨K,0,.none⟩=some (.int .i64 h.p):=zac r3 0;have k1:W.cell? ⟨K,1,.none⟩=some (.int .i64 h.c):=zac r3 1;have k2:W.cell? ⟨K,2,.none⟩=some (.int .i64 h.m):=zac r3 2;have k3:W.cell? ⟨K,3,.none⟩=some (.slice ao n cap):=zac r3 3;have r:K≠H+1+1:=by omega
  have cm:H≠H+1+1:=by omega
  have c4:H+1≠H+1+1:=by omega
  rw[hP.out]at s0;clear r0 r3;have bf:w.heap.size<=H+1:=by have:=hH.out;omega
  have ch:K<H+1+1\/H+1+1<K:=by omega
  generalize H+1+1=N at *;generalize H+1=R at *;go_wp2_with fail;go_loopw [24] (fun vi wr=>∃ i:Nat,i<=P/\vi= .int .i64 i/\Only (atN N) W wr/\zco wr N (h.cn i)) (fun vi _=>P-(intOf vi).toNat);case atStart=>exact⟨0,Nat.zero_le _,rfl,Only.refl _ _,c9⟩
  case round=>
   obtain⟨i,hi,rfl,J,L⟩:=hrel;have bw:=Only.zs3 hB J hB.size bc;have d0:=(J.zgk M r 0).trans k0;have d1:=(J.zgk M r 1).trans k1;have d2:=(J.zgk M r 2).trans k2;have d3:=(J.zgk M r 3).trans k3;by_cases cd:i<P
   ·have b4:0<=(i:Int)/\(i:Int)<h.p:=by have:=hP.out;omega
    have c8:i<=64:=by have:=hP.out;omega
    obtain⟨ba,cf⟩:=V.out i c8;have cq:=Cn.bd ba cf;have q:=Y.out i;rw[bm.out]at q;have bb:=bq.out i wr bw b4;have b9:=fun X T=>bi.out i X T b4;have bj:=bk.out (h.hc i);have bs:=fun X N c T hN hc hn hs=>zyk h (.slice ao n cap) i (h.pa i) w X N c b b4 T hN hc hn hs;generalize h.pk i=pk at *;generalize h.pa i=pa at *;generalize h.pn i=pn at *;generalize h.pb i=pb at *;generalize h.hb i=hb at *;generalize h.hc i=hc at *;generalize h.lv hc=lb at *;generalize h.cn i=z at *;replace bb:=hd' bb;replace b9:=hd' b9;replace bj:=hd' bj;replace bs:=hd' bs;replace b4:=hd' b4
    have fin:Hid (∀ X c,Only (atN N) W X->zco X N c->h.cn (i+1)=c->∃ j:Nat,j<=P/\Value.int .i64 ((i:Int)+1)= .int .i64 j/\Only (atN N) W X/\zco X N (h.cn j)):=
     hd' fun X c ho hc e=>⟨i+1,by omega,by go_num,ho,by rw[e];exact hc⟩
    go_wp2_with fail;refine bb.out.mono ?_;rintro e w3 ⟨rfl,b7⟩;have o3:Only (atN N) W (w3.alloc (.cells #[pk,pa,pn] 88)):=(J.trans (Only.of_below b7) (fun _ _ h=>h)).alloc _;have c6:=(L.below b7).below (br.alloc lr (.cells #[pk,pa,pn] 88));have g3:=heap_alloc_new w3 (.cells #[pk,pa,pn] 88);have cb:w3.heap.size≠N:=by have:=(L.below b7).lt;omega
    go_upto_region 9 with fail;generalize w3.heap.size=G at g3 cb ⊢;generalize w3.alloc (.cells #[pk,pa,pn] 88)=W3 at *;have lG:=(Array.getElem?_eq_some_iff.1 g3).1;have bu:=Only.zs3 hB o3 hB.size bc;have d0:=(o3.zgk M r 0).trans k0;have d1:=(o3.zgk M r 1).trans k1;have d2:=(o3.zgk M r 2).trans k2;have d3:=(o3.zgk M r 3).trans k3;go_wp2_with fail;refine(b9.out _ bu).mono ?_;rintro e w4 ⟨rfl,b8⟩;have o4:=o3.trans (Only.of_below b8) (fun _ _ h=>h);have D:=c6.below b8;have bv:=Only.zs3 hB o4 hB.size bc;have d0:=(o4.zgk M r 0).trans k0;have d1:=(o4.zgk M r 1).trans k1;have d2:=(o4.zgk M r 2).trans k2;have d3:=(o4.zgk M r 3).trans k3;have g4:=(b8.block _ lG).trans g3;have cj:=zac g4;have n0:=D.c0;have n1:=D.c1;have nF:=D.fr;clear bb b9 b7 b8 g3 g4 o3 c6 bu;rcases Bool.eq_false_or_eq_true hb with bh|bh
    ·subst bh;replace q:h.cn (i+1)=z.add (zj7 lb 64):=q;replace q:=hd' q;go_wp2_with fail;refine(bj.out _ bv).mono ?_;rintro e w5 ⟨rfl,c5⟩;have o5:=o4.trans (Only.of_below c5) (fun _ _ h=>h);have ca:=D.below c5;go_wp2_with fail;refine(zpz _ _ z lb 64 ca ba (by omega) (by omega)).mono ?_;rintro e w6 ⟨rfl,o6,U⟩;go_wp2;exact⟨fin.out _ _ (o5.trans o6 (fun _ _ h=>h)) U q.out,by simp[intOf];omega⟩
    subst bh;rcases Bool.eq_false_or_eq_true pb with bn|bn
    ·subst bn;rw[if_neg (by simp)]at q;by_cases h0:pk=0
     ·rw[if_pos h0]at q;subst h0;replace q:=hd' q;have cg:=wrp (z.f+64);go_wp2;refine⟨fin.out _ _ (o4.setCell (p:=⟨N,0,.none⟩) (.inl rfl) _) (D.set0 (z.f+64)) ?_,by simp[intOf];omega⟩;rw[q.out];simp[Cn.add]
     rw[if_neg h0]at q;have ck:(pk==0)=false:=by rw[beq_eq_false_iff_ne];exact h0
     by_cases h2:pk=2
     ·rw[if_pos h2]at q;subst h2;replace q:=hd' q;go_wp2_with fail;refine(bs.out _ _ z bv bc D ba (by omega)).mono ?_;rintro e w6 ⟨rfl,o6,U⟩;go_wp2;exact⟨fin.out _ _ (o4.trans o6 (fun _ _ h=>h)) U q.out,by simp[intOf];omega⟩
     rw[if_neg h2]at q;have cl:(pk==2)=false:=by rw[beq_eq_false_iff_ne];exact h2
     replace q:=hd' q;have cg:=wrp (z.t+64);go_wp2;refine⟨fin.out _ _ (o4.setCell (p:=⟨N,1,.none⟩) (.inl rfl) _) (D.set1 (z.t+64)) ?_,by simp[intOf];omega⟩;rw[q.out];simp[Cn.add]
    subst bn;replace q:h.cn (i+1)=z.add (zj7 false 64):=q;replace q:=hd' q;go_wp2_with fail;refine(zpz _ _ z false 64 D ba (by omega) (by omega)).mono ?_;rintro e w6 ⟨rfl,o6,U⟩;go_wp2;exact⟨fin.out _ _ (o4.trans o6 (fun _ _ h=>h)) U q.out,by simp[intOf];omega⟩
   have cc:i=P:=by omega
   subst cc;clear cd;have cr:¬ ((i:Int)<(i:Int)):=by omega
   have n0:=L.c0;have n1:=L.c1;have n2:=L.c2;have n3:=L.c3;have b5:=(J.block _ lR c4).trans r1;have a0:=(zac b5 0).trans (show _=some (.int .i64 0) from rfl);have a1:=(zac b5 1).trans (show _=some (.int .i64 0) from rfl);have a2:=(zac b5 2).trans (show _=some (.int .i64 0) from rfl);have a3:=(zac b5 3).trans (show _=some (.int .i64 0) from rfl);have aF:=zax b5;go_wp2;exact bodyPost_ret (v:= .agg #[.int .i64 (h.cn i).f,.int .i64 (h.cn i).t,.int .i64 (h.cn i).l,.int .i64 (h.cn i).o]) (by simp[results,Tryz.results14,go_sem,a0,a1,a2,a3]) rfl ⟨rfl,((((bw.setCell bf _).setCell bf _).setCell bf _).setCell bf _)⟩
end

end Go.Proofs.YtedcnffebdpmmaaGreat
