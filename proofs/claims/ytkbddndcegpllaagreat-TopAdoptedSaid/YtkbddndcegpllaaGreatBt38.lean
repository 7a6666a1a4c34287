/- Texts bound together: WldY WldZ WNew. -/
import Derived.Test.YtkbddndcegpllaaGreatBt37

set_option linter.all false
set_option maxHeartbeats 8000000
set_option maxRecDepth 100000
namespace Go.Proofs.YtkbddndcegpllaaGreat

attribute [local go_sem] zfd

section

open Go.RowKit

attribute [local go_sem ↓] Go.wp_at_zero Go.wp_at_succ

theorem z8u:(Tryz.prog.info? 172).map (fun i=>(i.zero,i.size,i.bytes))=some (some (.agg #[.int .i64 0,.int .i64 0,.int .i64 0,.int .u64 0,.int .u64 0,.bool false]),6,48):=by kernel_rfl
theorem zic{w w':World}{B:Nat}{E:TypeId}{size:Nat}{v:Value}{n:Nat}{xs:List Value}(h:w.ownsRow B E size v n xs)(hb:Below w.heap.size w w'):w'.ownsRow B E size v n xs:=
 zas h fun k b=>hb.block k (h.lt k b).2
def Wx.logd (x:Wx) (sv:Value) (N:Nat):Wx:= { x with sv:=sv,ow:=fun i=> if N<=i then 5 else x.ow i }
theorem WdP.logged{B:Nat}{F:Nat->Prop}{W W' W2:World}{g:Nat}{s:Sh}{d:Wd}{x:Wx}{v':Value}{es:List Acc}(h:WdP B F W g s d x)(O:B<=W.heap.size)(I:W.grownBy W' x.sv.ownBlock)
  (G:W'.ownsRow B 172 6 v' (d.lg.length+es.length) ((d.lg.flatMap fun e=>e.cells.toList)++es.flatMap fun e=>e.cells.toList))
  (j:v'.ownBlock=x.sv.ownBlock\/v'.ownBlock=some W.heap.size) (o:W2=W'.setCell ⟨g,6,.none⟩ v'):
  WdP B (grow F W W2) W2 g s {d with lg:=d.lg++es} (x.logd v' W.heap.size)/\Only (fun i=>(x.ow i=5/\F i)\/i=g) W W2:=by
 have E:W2.heap.size=W'.heap.size:=by rw[o];simp[World.setCell]
 have J:∀ i,x.sv.ownBlock=some i->F i:=fun i hi=>(h.fs i hi).1;have z:Only (fun i=>x.ow i=5/\F i) W W':=(Only.refl _ W).grown I fun k q=>.inl ⟨(h.fs k q).2,(h.fs k q).1⟩;have f:Only (fun i=>(x.ow i=5/\F i)\/i=g) W W2:=by rw[o];exact Only.setCell (Only.weak z fun k q=>.inl q) (p:=⟨g,6,.none⟩) (.inl (.inr rfl)) v'
 have y:∀ i,F i->¬ W.heap.size<=i:=fun i hi=>by have:=(h.lt i hi).2;omega
 have b:∀ i,F i->(x.logd v' W.heap.size).ow i=x.ow i:=fun i hi=>if_neg (y i hi);have D:∀ i,x.ow i≠5->i≠g->¬ ((x.ow i=5/\F i)\/i=g):=fun i H o e=>e.elim (fun e=>H e.1) o;have r:∀ i,x.ow i≠0->i≠g:=fun i hi e=>hi (e ▸ h.fg.2);have own:∀ i m,x.ow i=m->m≠5->m≠0->¬ ((x.ow i=5/\F i)\/i=g):=fun i m R N M=>D i (by omega) (r i (by omega))
 refine⟨⟨?_,h.wds.only f (own _ 1 h.fp.2 (by decide) (by decide)) (own _ 2 h.fb.2 (by decide) (by decide)),h.lst.only f (own _ 3 h.fl.2 (by decide) (by decide)),h.pl,h.pe,fun c k q=>(h.cl c k q).only f (fun i hi=>own i (c+6) (h.fc c i hi).2 (by omega) (by omega)),
  zas h.tr fun i hi=>f.block i (h.tr.lt i hi).2 (own i 4 (h.ft i hi).2 (by decide) (by decide)),?_,fun i hi=>?_,⟨.inl h.fg.1,(b _ h.fg.1).trans h.fg.2⟩,⟨.inl h.fp.1,(b _ h.fp.1).trans h.fp.2⟩,⟨.inl h.fb.1,(b _ h.fb.1).trans h.fb.2⟩,⟨.inl h.fl.1,(b _ h.fl.1).trans h.fl.2⟩,fun i hi=>⟨.inl (h.ft i hi).1,(b _ (h.ft i hi).1).trans (h.ft i hi).2⟩,
  fun i hi=>?_,fun c i hi=>⟨.inl (h.fc c i hi).1,(b _ (h.fc c i hi).1).trans (h.fc c i hi).2⟩⟩,f⟩
 ·have L:zaa W' g (zfd s x.p x.lb d.l.length x.tv x.sv) 117:=h.top.only z (fun e=>by have:=h.fg.2;omega);rw[o];exact L.set 6 v'
 ·rw[o];refine zas (w:=W') ?_ fun i hi=>Below.heap_setCell _ ⟨g,6,.none⟩ _ i ?_
  ·simpa[Wx.logd] using G
  rcases j with j|j
  ·rw[show (x.logd v' W.heap.size).sv=v' from rfl,j]at hi;have:=(h.fs i hi).2;exact r i (by omega)
  rw[show (x.logd v' W.heap.size).sv=v' from rfl,j]at hi;injection hi with hi;have:=(h.lt _ h.fg.1).2;show i≠g;omega
 ·rcases hi with hi|hi
  ·exact⟨(h.lt i hi).1,by have:=(h.lt i hi).2;have:=f.size;omega⟩
  exact⟨by omega,hi.2⟩
 rw[show (x.logd v' W.heap.size).sv=v' from rfl]at hi;rcases j with j|j
 ·rw[j]at hi;exact⟨.inl (h.fs i hi).1,(b _ (h.fs i hi).1).trans (h.fs i hi).2⟩
 have C:=G.lt i hi;rw[j]at hi;injection hi with hi;subst hi;exact⟨.inr ⟨Nat.le_refl _,by rw[E];exact C.2⟩,if_pos lr⟩
section

variable {B:Nat} {F:Nat->Prop} {W:World} {g:Nat} {s:Sh} {d:Wd} {x:Wx} {n:Nat}

theorem z2w(h:WdP B F W g s d x)(hB:B<=W.heap.size)(ho:wdOk s d n)(hn:n<=10000000)(c:Int)(k:Kl)(hk:d.kl c=some k):
  Calls Tryz.prog 59 #[some g,.pointer (some ⟨x.qs c.toNat,0,.none⟩)] W fun e w'=>e= .returned (.int .i64 (d.step s c k).2)/\WdTq (fun q=>q=x.qs) B F W w' g s (d.step s c k).1:=by
 obtain⟨c9,ch,bz⟩:=ho.kl c k hk;have bx:=(Wd.zfs hk).2;have bj:d.l.getD c.toNat none=some k:=by have N:=hk;unfold Wd.kl at N;rw[if_pos bz.1]at N;exact N
 have cv:=ho.st;have bi:=h.cw (n:=0) bj c9 ho.fi;have cj:=Kl.zw4 s k d.m;have b5:=ho.lg;have cx:=ho.tr;have L:=ybc bi hB (by omega);have b8:=zoh x.p x.b d.m W h.wds;have U:d.step s c k=(⟨(k.step s d.m).2.1,d.l.set c.toNat (some (k.step s d.m).1),d.tr++(k.step s d.m).2.2.1,if d.m.st<(k.step s d.m).2.1.st then d.lg++[(k.step s d.m).2.1.la] else d.lg⟩,(k.step s d.m).2.2.2):=rfl
 have b3:∀ r w',z2r B (x.Fc c.toNat) W w' (x.qs c.toNat) x.p x.b s k d.m r->∃ v,r= .returned (.tuple #[v,.int .i64 (k.step s d.m).2.2.2])/\w'.ownsRow W.heap.size 66 8 v (k.step s d.m).2.2.1.length ((k.step s d.m).2.2.1.flatMap fun e=>e.cells.toList)/\
   WdP B (grow F W w') w' g s {d with m:=(k.step s d.m).2.1,l:=d.l.set c.toNat (some (k.step s d.m).1)} (x.mine c.toNat W.heap.size w'.heap.size)/\Only F W w':=fun r w' hS=>by
  obtain⟨v,N,h2⟩:=hS.ret
  have h3:=h.stepped hB bj bx hS.cw.kl hS.cw.wd hS.only
  exact⟨v,N,h2,h3.1,h3.2⟩
 have ck:=(h.lt _ h.fg.1).2;have c3:=ce (.pointer (some ⟨x.p,0,.none⟩)) (h.top.cell 3);have lg:=h.top.lt;have cp:∀ w',grow F W w' g:=fun w'=>.inl h.fg.1;clear bi h;generalize (k.step s d.m).1=k' at *;generalize (k.step s d.m).2.2.2=er at *;generalize (k.step s d.m).2.2.1=es at *;generalize (k.step s d.m).2.1=I at *;obtain⟨R,cg,Z⟩:∃ R:Wd × Int,Hid (R=d.step s c k)/\R=d.step s c k:=⟨_,hd' rfl,rfl⟩;rw[<-Z]at U ⊢;clear Z;replace U:=hd' U;replace b8:=hd' b8;replace L:=hd' L;replace b3:=hd' b3;replace b5:=hd' b5;go_in;go_upto_region 3 with(first|(go_at_call 109;(with_reducible refine b8.out.mono ?_);rintro r w1 ⟨rfl,ca⟩;obtain rfl:=ca.symm)|(go_at_call 110;(with_reducible refine L.out.mono ?_);rintro r C hS;obtain⟨v,rfl,H,j,bm⟩:=b3.out _ _ hS;clear hS;have f3:=ce (.pointer (some ⟨x.p,0,.none⟩)) (j.top.cell 3);have l3:=j.top.lt));have b2:B<=C.heap.size:=by have:=bm.size;omega
 have bg:WdTo B F W C g s {d with m:=I,l:=d.l.set c.toNat (some k')}:=⟨⟨_,j⟩,bm,b2⟩;have bq:zaq C x.p x.b I:=j.wds;have bn:=hd' (zoh x.p x.b I C bq);by_cases bk:d.m.st<I.st
 ·replace U:=hd' (U.out.trans (by rw[if_pos bk]:_=((⟨I,d.l.set c.toNat (some k'),d.tr++es,d.lg++[I.la]⟩:Wd),er)));have y:=fun Y (hY:zaq Y x.p x.b I)=>z4k x.p x.b I Y hY;unfold accV at y;have bc:=fun Y (hb:Below C.heap.size C Y)=>bq.below hb;have E:C.ownsRow B 172 6 x.sv d.lg.length (d.lg.flatMap fun e=>e.cells.toList):=j.lg;have c6:=ce x.sv (j.top.cell 6);obtain⟨i0,c7,cc,cd,cf⟩:=info_parts z8u;obtain⟨O,S,X,h0⟩:=RdS.zew E;clear h0;have G:=fun Y W' v' W2 (hb:Below C.heap.size C Y)=>WdP.logged (W:=Y) (W':=W') (W2:=W2) (v':=v') (es:= [I.la]) (j.below hb) (by have:=hb.size;omega);have c4:=j.fg.2;rw[X]at c6;have T:∀ Y:World,Below C.heap.size C Y->Y.ownsRow B 172 6 (.slice O d.lg.length S) d.lg.length (d.lg.flatMap fun e=>e.cells.toList)/\zaa Y g (zfd s x.p x.lb (d.l.set c.toNat (some k')).length x.tv x.sv) 117/\Y.cell? ⟨g,3,.none⟩=some (.pointer (some ⟨x.p,0,.none⟩))/\Y.cell? ⟨g,6,.none⟩=some (.slice O d.lg.length S):=fun Y hb=>⟨X ▸ zic E hb,j.top.below hb,(j.below hb).top.cell 3,X ▸ (j.below hb).top.cell 6⟩;have b4:∀ i,x.sv.ownBlock=some i->i≠g:=fun i hi e=>by have:=(j.fs i hi).2;rw[e,c4]at this;cases this
  have cm:d.lg.length<=10000000:=by have:=b5.out;omega
  replace y:=hd' y;replace bc:=hd' bc;replace T:=hd' T;replace G:=hd' G;replace b4:=hd' b4;replace X:=hd' X;replace E:=hd' E;have c8:(Value.slice O d.lg.length S).ownBlock≠some g:=fun e=>b4.out g (by rw[X.out];exact e) rfl;have b9:∀ Y w5:World,zaa Y g (zfd s x.p x.lb (d.l.set c.toNat (some k')).length x.tv x.sv) 117->∀ o,(Y.alloc o).grownBy w5 (Value.slice O d.lg.length S).ownBlock->zaa w5 g (zfd s x.p x.lb (d.l.set c.toNat (some k')).length x.tv x.sv) 117:=fun Y w5 N o h2=>(h2.block g (N.alloc o).lt (fun e=>c8 e.symm)).trans (N.alloc o);replace b9:=hd' (fun Y w5 N {o} h2=>b9 Y w5 N o h2);generalize cl:I.la=la at *;obtain⟨ac,ak,aa,aw,ap,ao⟩:=la;dsimp only at y;have b6:∀ u ∈ ([.int .i64 ac,.int .i64 ak,.int .i64 aa,.int .u64 aw,.int .u64 ap,.bool ao]:List Value),u.oneCell'=true:=fun u hu=>by simp only[List.mem_cons,List.not_mem_nil,or_false]at hu;rcases hu with rfl|rfl|rfl|rfl|rfl|rfl<;>rfl
  replace b6:=hd' b6;go_upto_region 4 with(first|(go_at_call 109;(with_reducible refine bn.out.mono ?_);rintro r w4 ⟨rfl,bb⟩;obtain rfl:=bb.symm));have dd:=(Below.refl C.heap.size C).drew;have d6:=(T.out _ dd).2.2.2;have bf:=hd' dd;clear dd
  go_region_law
   (first|(refine zbg (by rfl) (.tmp 33) (.tmp 39) 115 (by rfl) B 172 i0 _ 6 48 Tryz.underlying115 c7 cc cd cf rfl (by omega) _ d.lg.length _ (by rfl) (k4.1.alloc _) _ 1 [.int .i64 ac,.int .i64 ak,.int .i64 aa,.int .u64 aw,.int .u64 ap,.bool ao] (by rfl) (RdS.new (cs:= #[ac,ak,aa,.int .u64 aw,.int .u64 ap,ao]) (t:=172) (sz:=6) (n:=1) (heap_alloc_new w4 _) rfl (by omega)) b6.out (by simp only[maxLen];omega) (by omega) (by simp;omega) ?_;intro v1 w5 D z b1;obtain⟨a5,c5,e5,_⟩:=RdS.zew D;subst e5;have t5:=b9.out _ _ k4.2.1 z;have l5:=t5.lt;have q5:=ce x.sv (t5.cell 6);have z5:=zax t5)|(go_simp;go_at_call 111;(with_reducible refine(y.out _ (bc.out _ bf.out)).mono ?_);rintro r w4 ⟨rfl,bw⟩;have J:=bf.out.trans bw;have k4:=T.out _ J;have y6:=k4.2.2.2;have l4:=k4.2.1.lt;have cq:=J.size))
  all_goals
   have V:Below C.heap.size C (w4.alloc (.cells #[ac,ak,aa,.int .u64 aw,.int .u64 ap,ao] 172)):=zab J ((Below.refl w4.heap.size w4).alloc lr _);have M:=G.out _ _ _ _ V (show World.grownBy _ _ x.sv.ownBlock from (by rw[X.out];exact z)) D (show Value.ownBlock _=x.sv.ownBlock\/_ from (by rw[X.out];exact b1)) rfl;generalize World.setCell w5 ⟨g,6,.none⟩ _=w6 at *;have cu:=V.size;have cr:=M.2.size;have b0:WdTq (fun q=>q=x.qs) B (grow F W C) C w6 g s ⟨I,d.l.set c.toNat (some k'),d.tr,d.lg++[⟨ac,ak,aa,aw,ap,ao⟩]⟩:=WdTq.from j b2 V ⟨⟨_,M.1,rfl⟩,Only.weak M.2 (fun i hi=>hi.elim (fun e=>e.2) (fun e=>e ▸ j.fg.1)),by omega⟩
   have bp:w6.ownsRow W.heap.size 66 8 v es.length (es.flatMap fun e=>e.cells.toList):=zas (zic H V) fun i hi=>M.2.block i (by have:=(H.lt i hi).2;omega) (fun e=>by
    have h8:=(H.lt i hi).1
    rcases e with e|e
    ·have h9:(x.mine c.toNat W.heap.size C.heap.size).ow i=c.toNat+6:=if_pos h8
     omega
    ·omega)
   have bh:=WdTq.trans bg b0;obtain⟨⟨x6,cb,b7⟩,_,bs⟩:=id bh;replace b7:=hd' b7;have ba:=hd' (zqf cb bs es v (zut bp) (by show d.tr.length+es.length<=_;omega));clear M b0 bp D z b1 t5 q5 z5 l5 G;go_wp2_with (first|(go_at_call 61;(with_reducible refine ba.out.mono ?_);rintro r w7 ⟨rfl,bv⟩));go_returns;rw[U.out];exact⟨rfl,WdTq.trans bh.to (bv.imp fun q e=>e.trans b7.out)⟩
 replace U:=hd' (U.out.trans (by rw[if_neg bk]:_=((⟨I,d.l.set c.toNat (some k'),d.tr++es,d.lg⟩:Wd),er)));have ba:=hd' (zqf j b2 es v (zut H) (by show d.tr.length+es.length<=_;omega));go_wp2_with (first|(go_at_call 109;(with_reducible refine bn.out.mono ?_);rintro r w4 ⟨rfl,bb⟩;obtain rfl:=bb.symm)|(go_at_call 61;(with_reducible refine ba.out.mono ?_);rintro r w5 ⟨rfl,bu⟩));go_returns;rw[U.out];exact⟨rfl,WdTq.trans bg (bu.imp fun q e=>e)⟩
end

end

section

open Go.RowKit

attribute [local go_sem ↓] Go.wp_at_zero Go.wp_at_succ

theorem zrm(i cl a b d:Int)(m:Nat)(w:World):Calls Tryz.prog 56 #[.agg #[i,cl,a,b,d,.float .f64 m]] w fun e w'=>e= .returned (.bool (decide (1<=i/\i<=4)))/\Below w.heap.size w w':=by
 by_cases j:1<=i
 ·by_cases l:i<=4
  ·rw[decide_eq_true (And.intro j l)];have d1:decide (i>=1)=true:=decide_eq_true j;have d2:decide (i<=4)=true:=decide_eq_true l;go_in;go_wp2;go_ret;exact⟨rfl,br.alloc lr _⟩
  rw[decide_eq_false (fun h:1<=i/\i<=4=>l h.2)];have d1:decide (i>=1)=true:=decide_eq_true j;have d2:decide (i<=4)=false:=decide_eq_false l;go_in;go_wp2;go_ret;exact⟨rfl,br.alloc lr _⟩
 rw[decide_eq_false (fun h:1<=i/\i<=4=>j h.1)];have d1:decide (i>=1)=false:=decide_eq_false j;go_in;go_wp2;go_ret;exact⟨rfl,br.alloc lr _⟩
section

variable {B:Nat} {F:Nat->Prop} {W:World} {g:Nat} {s:Sh} {d:Wd} {x:Wx} {n:Nat}

theorem ybl(h:WdP B F W g s d x)(C:B<=W.heap.size)(D:wdOk s d n)(c:Int)(k:Kl)(t:d.kl c=some k)(o:Op3):
  Calls Tryz.prog 60 #[.pointer (some ⟨x.qs c.toNat,0,.none⟩),.agg #[o.k,o.a,o.n]] W fun r w'=>∃ v H,r= .returned (.tuple #[v,.int .i64 (k.invoke s o).2.2])/\RdE w' v (k.invoke s o).2.1/\
   WdP B (grow F W w') w' g s {d with l:=d.l.set c.toNat (some (k.invoke s o).1)} H/\Only F W w':=by
 obtain⟨y,G,p⟩:=D.kl c k t;have m:=(Wd.zfs t).2;have j:d.l.getD c.toNat none=some k:=by have b:=t;unfold Wd.kl at b;rw[if_pos p.1]at b;exact b
 have q:=h.cw (n:=0) j y D.fi;refine(yfi o q C).mono fun r w' hS=>?_;obtain⟨v,b,E⟩:=hS.ret;have z:=h.stepped C j m hS.cw.kl hS.cw.wd (Only.weak hS.only fun i hi=>.inl hi);exact⟨v,_,b,zut E,z.1,z.2⟩
theorem yaq(h:WdP B F W g s d x)(O:B<=W.heap.size)(N:wdOk s d n)(c:Ch)(q:c.bad s):
  Calls Tryz.prog 17 #[some g,.agg c.cells.toArray] W fun e w'=>e= .returned (.int .i64 1)/\WdTo B F W w' g s d:=by
 have S:=N.fi.bd;have hm:=N.fi.may;obtain⟨y,o,D,z,cn,C⟩:=c;show Calls Tryz.prog 17 #[some g,.agg #[y,o,D,z,cn,.float .f64 C]] W _;have b:=(Below.refl W.heap.size W).alloc lr (.cells #[y,o,D,z,cn,.float .f64 C] 38);have t0:zaa (W.alloc (.cells #[y,o,D,z,cn,.float .f64 C] 38)) W.heap.size #[y,o,D,z,cn,.float .f64 C] 38:=heap_alloc_new _ _;have j:=fun Y=>zrm y o D z cn C Y;have r:=fun Y=>zau s.p s.c s.m o Y;have M:∀ (p:Nat) (W:World),(binOp .eql 27 (.pointer (some ⟨p,0,.none⟩)) (.pointer none)).run Tryz.prog W= .ok (.bool false) W:=fun p W=>by kernel_rfl
 have i:=fun W1 (hb:Below W.heap.size W W1)=>WdTo.start (W1:=W1) h O hb;have g0:(W.alloc (.cells #[y,o,D,z,cn,.float .f64 C] 38)).cell? ⟨g,0,.none⟩=some (.int .i64 s.p):=(h.below b).top.cell 0;have Z:(W.alloc (.cells #[y,o,D,z,cn,.float .f64 C] 38)).cell? ⟨g,1,.none⟩=some (.int .i64 s.c):=(h.below b).top.cell 1;have g2:(W.alloc (.cells #[y,o,D,z,cn,.float .f64 C] 38)).cell? ⟨g,2,.none⟩=some (.int .i64 s.m):=(h.below b).top.cell 2;have V:=(h.below b).top.lt;replace i:=hd' i;unfold Ch.bad at q;dsimp only at q;clear h;by_cases G:1<=y/\y<=4
 ·have T:zae s.p s.c s.m o<0:=by
   rcases Int.lt_or_le (zae s.p s.c s.m o) 0 with e|e
   ·exact e
   have:=(zbe e).2;omega
  rw[decide_eq_true G]at j;generalize zae s.p s.c s.m o=sx at *;replace j:=hd' j;replace r:=hd' r;clear q G;go_in;go_upto_region 1 with fail;generalize W.alloc (.cells #[y,o,D,z,cn,.float .f64 C] 38)=X at *;obtain⟨H,R,l⟩:=hidv W.heap.size;rw[<-l]at t0 ⊢;try rw[<-l]at hFH hHl
  clear l;replace b:=hd' b;have U:=t0.lt;have I:=t0.cell;refine zaj (by kernel_rfl) (by kernel_rfl) ?_;repeat (go_big_quiet_step ((first|(go_at_call 56;exact zam (j.out _))|(go_at_call 57;exact zam (r.out _)))))
  refine wpQuiet_nil ?_;rintro _ ⟨E,rfl⟩;have L:=E.below;generalize E.w=Y at *;clear I;go_wp2_with fail;go_returns;exact⟨rfl,i.out _ (zab b.out L)⟩
 rw[decide_eq_false G]at j;replace j:=hd' j;replace r:=hd' r;clear q G;go_in;go_upto_region 1 with fail;generalize W.alloc (.cells #[y,o,D,z,cn,.float .f64 C] 38)=X at *;obtain⟨H,R,l⟩:=hidv W.heap.size;rw[<-l]at t0 ⊢;try rw[<-l]at hFH hHl
 clear l;replace b:=hd' b;have U:=t0.lt;have J:=t0.cell;refine zaj (by kernel_rfl) (by kernel_rfl) ?_;repeat (go_big_quiet_step ((first|(go_at_call 56;exact zam (j.out _))|(go_at_call 57;exact zam (r.out _)))))
 refine wpQuiet_nil ?_;rintro _ ⟨E,rfl⟩;have L:=E.below;generalize E.w=Y at *;clear J;go_wp2_with fail;go_returns;exact⟨rfl,i.out _ (zab b.out L)⟩
theorem z0t(h:WdP B F W g s d x)(hB:B<=W.heap.size)(ho:wdOk s d n)(hn:n<=10000000)(c:Ch)(G:¬ c.bad s):
  Calls Tryz.prog 17 #[some g,.agg c.cells.toArray] W fun e w'=>e= .returned (.int .i64 (d.act s c).2)/\WdTq (fun q=>c.kind=3->q=x.qs) B F W w' g s (d.act s c).1:=by
 have ea:=ho.fi.bd;have hm:=ho.fi.may;obtain⟨j,b,C,z,cn,T⟩:=c;show Calls Tryz.prog 17 #[some g,.agg #[j,b,C,z,cn,.float .f64 T]] W _;have b6:=(Below.refl W.heap.size W).alloc lr (.cells #[j,b,C,z,cn,.float .f64 T] 38);have t0:zaa (W.alloc (.cells #[j,b,C,z,cn,.float .f64 T] 38)) W.heap.size #[j,b,C,z,cn,.float .f64 T] 38:=heap_alloc_new _ _;have b9:=fun Y=>zrm j b C z cn T Y;have b7:=fun Y=>zau s.p s.c s.m b Y;have e6:∀ (p:Nat) (W:World),(binOp .eql 27 (.pointer (some ⟨p,0,.none⟩)) (.pointer none)).run Tryz.prog W= .ok (.bool false) W:=fun p W=>by kernel_rfl
 have eg:∀ (p:Nat) (W:World),(binOp .eql 61 (.pointer (some ⟨p,0,.none⟩)) (.pointer none)).run Tryz.prog W= .ok (.bool false) W:=fun p W=>by kernel_rfl
 have M:1<=j/\j<=4/\0<=b/\b<s.c:=by unfold Ch.bad at G;dsimp only at G;omega
 have hc:0<=b/\b<s.c:=⟨M.2.2.1,M.2.2.2⟩;have eb:¬ b<0:=by omega
 have ec:=hc.1;rw[zeu hm hc]at b7;rw[decide_eq_true (And.intro M.1 M.2.1)]at b9;have hi:b.toNat<d.l.length:=by rw[ho.len];omega
 have ed:b<(d.l.length:Int):=by omega
 have bi:=ho.tr
 have bm:d.act s ⟨j,b,C,z,cn,T⟩=if j=1 then d.begin s ⟨j,b,C,z,cn,T⟩ else match d.kl b with
  |none=>(d,2)
  |some k=>if j=3 then d.step s b k else if j=2 then d.ask s ⟨j,b,C,z,cn,T⟩ k else d.kill b:=if_neg G
 have O:∀ Z,Below W.heap.size W Z->Calls Tryz.prog 58 #[some g,.agg #[j,b,C,z,cn,.float .f64 T]] Z fun e w'=>e= .returned (.int .i64 (d.begin s ⟨j,b,C,z,cn,T⟩).2)/\WdTo B F Z w' g s (d.begin s ⟨j,b,C,z,cn,T⟩).1:=fun Z hb=>zyt (h.below hb) (by have:=hb.size;omega) ho hn ⟨j,b,C,z,cn,T⟩ hc;have U:=fun k (hk:d.kl b=some k) Z (hb:Below W.heap.size W Z)=>z2w (h.below hb) (by have:=hb.size;omega) ho hn b k hk;have b5:=fun k (hk:d.kl b=some k) Z (hb:Below W.heap.size W Z)=>ybl (h.below hb) (by have:=hb.size;omega) ho b k hk ⟨C,z,cn⟩;have E:=fun W1 W2 d2 (hb:Below W.heap.size W W1)=>WdTo.from (W1:=W1) (W2:=W2) (d2:=d2) h hB hb;have bb:=fun W1 (hb:Below W.heap.size W W1)=>WdTo.start (W1:=W1) h hB hb;have D:=fun W1 W2 d2 (hb:Below W.heap.size W W1)=>WdTq.from (R:=fun q=>q=x.qs) (W1:=W1) (W2:=W2) (d2:=d2) h hB hb;have S:=fun W1 (hb:Below W.heap.size W W1)=>WdTq.start (R:=fun q=>j=3->q=x.qs) (W1:=W1) h hB hb (fun _=>rfl);have bv:=fun F' Y L x' (hY:WdP B F' Y g s {d with l:=L} x')=>zlc hY ho.fi b 2 hc;have N:=fun Z Y (hb:Below W.heap.size W Z) (cr:Below Z.heap.size Z Y)=>WdP.place (W:=Z) (W':=Y) (c:=b.toNat) (q:=0) (o:=none) (Fq:=fun _=>False) (h.below hb) (by have:=hb.size;omega) hi cr (fun k e=>by cases e) (fun i e=>e.elim) rfl;have bx:¬ F W.heap.size:=fun e=>by have:=(h.lt _ e).2;omega
 have bq:W.heap.size≠x.lb:=fun e=>by have:=(h.lt _ h.fl.1).2;omega
 have cs:g≠x.lb:=fun e=>by have:=h.fg.2;have:=h.fl.2;rw[e]at *;omega
 have V:∀ Y:World,Below W.heap.size W Y->zaa Y g (zfd s x.p x.lb d.l.length x.tv x.sv) 117/\Y.cell? ⟨x.lb,b.toNat,.none⟩=some (ptrK (d.kl b) (x.qs b.toNat))/\(∀ i,Y.frozen? ⟨x.lb,i,.none⟩=false)/\x.lb<Y.heap.size:=fun Y hb=>⟨(h.below hb).top,(h.below hb).ptr hc.1 hi,zax (h.below hb).lst,(h.below hb).lst.lt⟩;have k0:=V _ b6;have cd:=k0.1.cell;have e1:=k0.1.lt;obtain⟨R,hR,bz⟩:∃ R:Wd × Int,Hid (R=d.act s ⟨j,b,C,z,cn,T⟩)/\R=d.act s ⟨j,b,C,z,cn,T⟩:=⟨_,hd' rfl,rfl⟩;rw[<-bz];clear bz k0 h;replace hR:=hd' (hR.out.trans bm);replace O:=hd' O;replace U:=hd' U;replace b5:=hd' b5;replace E:=hd' E;replace bb:=hd' bb;replace D:=hd' D;replace S:=hd' S;replace bv:=hd' bv;replace N:=hd' N;replace V:=hd' V;replace b9:=hd' b9;replace b7:=hd' b7;replace bi:=hd' bi;replace G:=hd' G;clear bm;go_in;go_upto_region 1 with fail;generalize W.alloc (.cells #[j,b,C,z,cn,.float .f64 T] 38)=X at *;obtain⟨H,hH,bp⟩:=hidv W.heap.size;rw[<-bp]at t0 ⊢;try rw[<-bp]at bx bq
 clear bp;replace b6:=hd' b6;have lH:=t0.lt;obtain⟨x0,x1,x2,x3,x4⟩:=ci5 j b C z cn t0.cell;have x5:=ce (.float .f64 T) (t0.cell 5);refine zaj (by kernel_rfl) (by kernel_rfl) ?_;repeat (go_big_quiet_step ((first|(go_at_call 56;exact zam (b9.out _))|(go_at_call 57;exact zam (b7.out _)))))
 refine wpQuiet_nil ?_;rintro _ ⟨e',rfl⟩;have hX:=e'.below;generalize e'.w=Y at *;clear x0 x1 x2 x3 x4 x5;have bu:=zab b6.out hX;have tY:=t0.below hX;have kY:=V.out _ bu;clear t0 b6 b7 b9 cd e1 lH;have cp:=hX.size;have cl:H<Y.heap.size:=tY.lt;have e2:=kY.1.lt;have cf:=tY.cell;have cg:=kY.1.cell;have yl:=kY.2.1;have e4:=kY.2.2.2;clear kY hX;go_upto_region 3 with fail;go_quiet (fail);have c4:=below_drewN (Below.refl Y.heap.size Y) nq;have tZ:zaa (Y.drewN nq) H _ _:=tY.drewN nq;generalize Y.drewN nq=Z at *;have y:=zab bu c4;have kZ:=V.out _ y;have e0:=tZ.lt;have e3:=kZ.1.lt;obtain⟨z0,z1,z2,z3,z4⟩:=ci5 j b C z cn tZ.cell;have ch:=tZ.cell;have bw:=ce (.slice (some ⟨x.lb,0,.none⟩) d.l.length d.l.length) (kZ.1.cell 4);have zl:=kZ.2.1;have zf:=kZ.2.2.1;have e5:=kZ.2.2.2;clear cf cg yl e4 tY e2 cl kZ cp c4 bu;obtain⟨pv,c6,bn⟩:∃ pv,Hid (pv=ptrK (d.kl b) (x.qs b.toNat))/\pv=ptrK (d.kl b) (x.qs b.toNat):=⟨_,hd' rfl,rfl⟩;rw[<-bn]at zl ⊢;clear bn;by_cases b8:j=1
 ·have I:=hd' (hR.out.trans (if_pos b8));clear hR M;subst b8;go_wp2_with (first|(go_at_call 58;(with_reducible refine(O.out _ y).mono ?_);rintro r w5 ⟨rfl,hT⟩));go_returns;rw[I.out];exact⟨rfl,(E.out _ _ _ y hT).q fun q e=>absurd e (show ¬ (1:Int)=3 by decide)⟩
 have b1:(j==1)=false:=by rw[beq_eq_false_iff_ne];exact b8
 rcases hkl:d.kl b with _|k
 ·have I:=hd' (hR.out.trans ((if_neg b8).trans (by rw[hkl])):R=(d,2));obtain rfl:pv= .pointer none:=by rw[c6.out,hkl];rfl
  clear hR M;go_wp2_with fail;go_returns;rw[I.out];exact⟨rfl,S.out _ y⟩
 have I:=hd' (hR.out.trans ((if_neg b8).trans (by rw[hkl])):R=if j=3 then d.step s b k else if j=2 then d.ask s ⟨j,b,C,z,cn,T⟩ k else d.kill b);obtain rfl:pv= .pointer (some ⟨x.qs b.toNat,0,.none⟩):=by rw[c6.out,hkl];rfl
 clear hR;by_cases b0:j=3
 ·have J:=hd' (I.out.trans (if_pos b0));have cx:=hd' (U.out k hkl Z y);clear I M;subst b0;go_wp2_with (first|(go_at_call 59;(with_reducible refine cx.out.mono ?_);rintro r w5 ⟨rfl,hT⟩));go_returns;rw[J.out];first|exact⟨rfl,D.out _ _ _ y hT⟩|exact⟨rfl,(D.out _ _ _ y hT).imp fun q e _=>e⟩
 have b3:(j==3)=false:=by rw[beq_eq_false_iff_ne];exact b0
 by_cases bh:j=2
 ·have J:=hd' (I.out.trans ((if_neg b0).trans (if_pos bh)));have cq:=hd' (b5.out k hkl Z y);have ef:=Kl.zo3 s k ⟨C,z,cn⟩;have b4:d.ask s ⟨j,b,C,z,cn,T⟩ k=(⟨d.m,d.l.set b.toNat (some (k.invoke s ⟨C,z,cn⟩).1),d.tr++(k.invoke s ⟨C,z,cn⟩).2.1,d.lg⟩,(k.invoke s ⟨C,z,cn⟩).2.2):=rfl;replace J:=hd' (J.out.trans b4);clear I M b4;generalize (k.invoke s ⟨C,z,cn⟩).1=k' at *;generalize (k.invoke s ⟨C,z,cn⟩).2.1=es at *;generalize (k.invoke s ⟨C,z,cn⟩).2.2=er at *;subst bh;have e9:B<=Z.heap.size:=by have:=y.size;omega
  go_wp2_with (first|(go_at_call 60;(with_reducible refine cq.out.mono ?_);rintro r w5 ⟨v,x5,rfl,cv,bk,ba⟩;have eh:=ba.size;have bf:B<=w5.heap.size:=(by omega);have cz:=hd' (zwm bk bf es v cv (by show d.tr.length+es.length<=_;have:=bi.out;omega));have bg:=hd' ((⟨⟨x5,bk⟩,ba,bf⟩:WdTo B F Z w5 g s {d with l:=d.l.set b.toNat (some k')})))|(go_at_call 61;(with_reducible refine cz.out.mono ?_);rintro r w6 ⟨rfl,bs⟩));go_returns;rw[J.out];exact⟨rfl,(E.out _ _ _ y (WdTo.trans bg.out bs)).q fun q e=>absurd e (show ¬ (2:Int)=3 by decide)⟩
 have b2:(j==2)=false:=by rw[beq_eq_false_iff_ne];exact bh
 have J:=hd' (I.out.trans ((if_neg b0).trans (if_neg bh)));clear I M;go_upto_region 14 with fail;have c8:=(V.out _ y).1
 go_region_held3 (fun Y=>Y.cell? ⟨H,1,.none⟩=some (.int .i64 b)/\Y.cell? ⟨g,4,.none⟩=some (.slice (some ⟨x.lb,0,.none⟩) d.l.length d.l.length))
  (first|exact⟨z1,bw⟩|exact⟨(tZ.drew.other bq _ _).cell 1,(c8.drew.other cs _ _).cell 4⟩)
  (fail)
 obtain⟨x',bj,c5,_,_⟩:=N.out Z Z.drew y br.drew;have tK:=tZ.drew.other bq b.toNat (ptrK none 0);have ei:=c5.size;have cm:=hd' (⟨⟨x',bj⟩,c5,by have:=y.size;omega⟩:WdTo B F Z _ g s {d with l:=d.l.set b.toNat none});change Exit.then _ _ _ _ (Z.drew.setCell ⟨x.lb,b.toNat,.none⟩ (ptrK none 0));generalize Z.drew.setCell ⟨x.lb,b.toNat,.none⟩ (ptrK none 0)=K1 at *;have e7:=tK.cell;have lK:=tK.lt;have cu:¬ grow F Z K1 H:=fun e=>by rcases e with e|e;exact bx e;omega
 have cj:B<=K1.heap.size:=by have:=y.size;omega
 have ek:=bj.top.lt;have bc:d.tr.length+1<=100000000:=by have:=bi.out;omega
 have b4:d.kill b=(⟨d.m.put b (za8 2 0),d.l.set b.toNat none,d.tr++[⟨1,b,0,0,0,0,0,0⟩],d.lg⟩,0):=rfl;replace J:=hd' (J.out.trans b4);replace bc:=hd' bc;clear b4 c8 z0 z1 z2 z3 z4 ch bw zl zf e5 e0 e3;go_wp2_with (first|(go_at_call 62;(with_reducible refine(bv.out _ _ _ _ bj).mono ?_);rintro r w5 ⟨rfl,bk,ba⟩;have c9:=tK.only ba cu;have e8:=c9.cell;have l5:=c9.lt;have bg:=hd' (WdTo.trans cm.out (WdTo.set bj cj bk ba));obtain⟨⟨x2,c7⟩,_,bf⟩:=id bg.out;have ej:=c7.top.lt;have cy:=zq0 c7 bf 1 b bc.out)|(go_at_call 61;(with_reducible refine cy.mono ?_);rintro r w6 ⟨rfl,bs⟩));go_returns;rw[J.out];exact⟨rfl,(E.out _ _ _ y (WdTo.trans bg.out bs)).q fun q e=>absurd e b0⟩
theorem z7b(h:WdP B F W g s d x)(i:B<=W.heap.size)(l:wdOk s d n)(j:n<=10000000)(c:Ch)(b:¬ c.bad s):
  Calls Tryz.prog 17 #[some g,.agg c.cells.toArray] W fun e w'=>e= .returned (.int .i64 (d.act s c).2)/\WdTo B F W w' g s (d.act s c).1:=
 (z0t h i l j c b).mono fun e w' h=>⟨h.1,h.2.to⟩
theorem zkm(h:WdP B F W g s d x)(b:B<=W.heap.size)(i:wdOk s d n)(j:n<=10000000)(c:Ch):
  Calls Tryz.prog 17 #[some g,.agg c.cells.toArray] W fun e w'=>e= .returned (.int .i64 (d.act s c).2)/\WdTo B F W w' g s (d.act s c).1:=by
 by_cases hb:c.bad s
 ·have e:d.act s c=(d,1):=if_pos hb;rw[e];exact yaq h b i c hb
 exact z7b h b i j c hb
end

end

section

open Go.RowKit

attribute [local go_sem ↓] Go.wp_at_zero Go.wp_at_succ

theorem yfd:(Tryz.prog.info? 61).map (fun i=>(i.zero,i.size,i.bytes))=some (some (.pointer none),1,8):=by kernel_rfl
theorem z8e(n:Nat)(l:n<=100):∀ u:World,(Instr.makeSlice 114 (.int .i64 (n:Int)) (.int .i64 (n:Int))).run Tryz.prog u= .ok (.slice (some ⟨u.heap.size,0,.none⟩) n n) (u.alloc (.cells (madeCells #[.pointer none] n) 61)):=fun u=>by
 obtain⟨j,hi,b,f,i⟩:=info_parts yfd
 have h:=run_make (P:=Tryz.prog) u 114 61 j (.pointer none) Tryz.underlying114 hi b .i64 .i64 (n:Int) (n:Int) (by omega) (Int.le_refl _) (by rw[i];omega) (by omega)
 rw[Int.toNat_natCast]at h
 simpa[f,Value.cells] using h
theorem z6e(n:Nat):madeCells #[.pointer none] n=(List.replicate n (.pointer none)).toArray:=by
 apply Array.toList_inj.1;rw[toList_madeCells_one]
theorem z0c{W Z:World}{s:Sh}{p b lb:Nat}(L:mayB s.p s.c s.m=true)(z:W.heap.size<=p/\W.heap.size<=b/\W.heap.size<=lb)(o:lb≠p/\lb≠b)
  (y:zaq Z p b (zgj (zb6 s.p s.c s.m).toNat)) (H:zaa Z lb (madeCells #[.pointer none] s.c.toNat) 61) (E:Below W.heap.size W Z):
  Below W.heap.size W (Z.alloc (.cells #[s.p,s.c,s.m,some p,.slice (some ⟨lb,0,.none⟩) s.c.toNat s.c.toNat,.slice none 0 0,.slice none 0 0] 117))/\
  ∃ x,WdP W.heap.size (fun i=>W.heap.size<=i/\i<(Z.alloc (.cells #[s.p,s.c,s.m,some p,.slice (some ⟨lb,0,.none⟩) s.c.toNat s.c.toNat,.slice none 0 0,.slice none 0 0] 117)).heap.size)
   (Z.alloc (.cells #[s.p,s.c,s.m,some p,.slice (some ⟨lb,0,.none⟩) s.c.toNat s.c.toNat,.slice none 0 0,.slice none 0 0] 117)) Z.heap.size s (zde s) x:=by
 have hb:=zar.1 L;have hs:=E.size;have j:=(Below.refl Z.heap.size Z).alloc lr (.cells #[s.p,s.c,s.m,some p,.slice (some ⟨lb,0,.none⟩) s.c.toNat s.c.toNat,.slice none 0 0,.slice none 0 0] 117);have r:zaa (Z.alloc (.cells #[s.p,s.c,s.m,some p,.slice (some ⟨lb,0,.none⟩) s.c.toNat s.c.toNat,.slice none 0 0,.slice none 0 0] 117)) Z.heap.size #[s.p,s.c,s.m,some p,.slice (some ⟨lb,0,.none⟩) s.c.toNat s.c.toNat,.slice none 0 0,.slice none 0 0] 117:=heap_alloc_new _ _;have N:=y.ltp;have I:=y.ltb;have J:=H.lt;have C:=y.ne;have f:(zde s).l.length=s.c.toNat:=by simp[zde]
 have q:∀ c,(zde s).l.getD c none=none:=fun c=>by unfold zde;rw[List.getD_eq_getElem?_getD,List.getElem?_replicate];split<;>rfl
 have M:(Z.alloc (.cells #[s.p,s.c,s.m,some p,.slice (some ⟨lb,0,.none⟩) s.c.toNat s.c.toNat,.slice none 0 0,.slice none 0 0] 117)).heap.size=Z.heap.size+1:=by simp
 refine⟨E.alloc (by omega) _,⟨p,b,lb,.slice none 0 0,.slice none 0 0,List.replicate s.c.toNat (.pointer none),fun _=>0,fun i=>if i=Z.heap.size then 0 else if i=p then 1 else if i=b then 2 else 3,fun _ _=>False⟩,
  ?_,y.below j,?_,by simp[f],fun c hc=>?_,fun c k G=>?_,⟨by simp[zde],.inl ⟨rfl,rfl⟩⟩,⟨by simp[zde],.inl ⟨rfl,rfl⟩⟩,fun i hi=>hi,⟨⟨hs,by omega⟩,if_pos rfl⟩,⟨⟨z.1,by dsimp only;omega⟩,?_⟩,⟨⟨z.2.1,by dsimp only;omega⟩,?_⟩,⟨⟨z.2.2,by dsimp only;omega⟩,?_⟩,fun i e=>(by cases e),fun i e=>(by cases e),fun c i e=>e.elim⟩
 ·rw[f];exact r
 ·have D:=H.below j;rw[z6e]at D;exact D
 ·rw[q];show (List.replicate s.c.toNat (Value.pointer none))[c]?=some (.pointer none);rw[List.getElem?_replicate,if_pos (by omega)]
 ·rw[q]at G;cases G
 ·show (if p=Z.heap.size then 0 else if p=p then 1 else if p=b then 2 else 3)=1;rw[if_neg (by omega),if_pos rfl]
 ·show (if b=Z.heap.size then 0 else if b=p then 1 else if b=b then 2 else 3)=2;rw[if_neg (by omega),if_neg (fun e=>C e.symm),if_pos rfl]
 show (if lb=Z.heap.size then 0 else if lb=p then 1 else if lb=b then 2 else 3)=3;rw[if_neg (by omega),if_neg o.1,if_neg o.2]
theorem zzx(s:Sh)(W:World)(U:mayB s.p s.c s.m=true):
  Calls Tryz.prog 54 #[.agg #[s.p,s.c,s.m]] W fun e w'=>Below W.heap.size W w'/\∃ g x,e= .returned (.tuple #[.pointer (some ⟨g,0,.none⟩),.int .i64 0])/\WdP W.heap.size (fun i=>W.heap.size<=i/\i<w'.heap.size) w' g s (zde s) x:=by
 have D:=fun Y=>zcc s.p s.c s.m Y;rw[U]at D;have hb:=zar.1 U;have hT:=(zoy U).2;have j:=fun Z p b lb=>z0c (W:=W) (Z:=Z) (p:=p) (b:=b) (lb:=lb) U;obtain⟨sp,sc,l⟩:=s;dsimp only at *;obtain⟨n,rfl⟩:∃ n:Nat,sc=(n:Int):=⟨sc.toNat,by omega⟩;rw[Int.toNat_natCast]at j;have E:=fun Y=>zro sp (n:Int) l Y;obtain⟨N,hN,R⟩:∃ N:Nat,zb6 sp (n:Int) l=(N:Int)/\N<=2000:=⟨(zb6 sp (n:Int) l).toNat,by omega,by omega⟩;rw[hN]at E j;rw[Int.toNat_natCast]at j;have J:=fun Y=>z7s N R Y;have b7:=z8e n (by omega);replace D:=hd' D;replace E:=hd' E;replace J:=hd' J;replace j:=hd' j;have b8:(n:Int)<=12:=by omega
 have hH:=heap_alloc_new W (.cells #[sp,.int .i64 (n:Int),l] 23);have t0:zaa (W.alloc (.cells #[sp,.int .i64 (n:Int),l] 23)) W.heap.size #[sp,.int .i64 (n:Int),l] 23:=hH;have t1:=t0.alloc (.cells #[sp,.int .i64 (n:Int),l] 23);have z:Below W.heap.size W ((W.alloc (.cells #[sp,.int .i64 (n:Int),l] 23)).alloc (.cells #[sp,.int .i64 (n:Int),l] 23)):=by go_grown
 clear U hb hT hN R hH t0;go_in;go_upto_region 3 with(first|(go_at_call 96;(with_reducible refine(D.out _).mono ?_);rintro r w1 ⟨rfl,b2⟩;obtain rfl:=b2.symm));generalize (W.alloc (.cells #[sp,.int .i64 (n:Int),l] 23)).alloc (.cells #[sp,.int .i64 (n:Int),l] 23)=X at *;have b4:=z.size;obtain⟨H,hH,O⟩:=hidv W.heap.size;rw[<-O]at t1 ⊢;clear O;have lH:=t1.lt;have y:∀ Y,zaa Y H #[sp,.int .i64 (n:Int),l] 23->Y.cell? ⟨H,0,.none⟩=some (.int .i64 sp)/\Y.cell? ⟨H,1,.none⟩=some (.int .i64 (n:Int))/\Y.cell? ⟨H,2,.none⟩=some (.int .i64 l):=fun Y h=>⟨h.cell 0,h.cell 1,h.cell 2⟩;replace y:=hd' y
 go_region_held3 (fun Y=>Y.cell? ⟨H,0,.none⟩=some (.int .i64 sp)/\Y.cell? ⟨H,1,.none⟩=some (.int .i64 (n:Int))/\Y.cell? ⟨H,2,.none⟩=some (.int .i64 l))
  (first|exact y.out _ t1.drew|exact y.out _ (t1.drew.alloc _)|exact y.out _ ((t5.alloc _).alloc _)|exact y.out _ (t5.alloc _)|exact y.out _ t5|exact y.out _ (t4.alloc _)|exact y.out _ t4)
  (first|(go_at_call 105;(with_reducible refine(E.out _).mono ?_);rintro r L ⟨rfl,G⟩;have M:Below X.heap.size X L:=(by first|exact zab br.drew G|exact zab (br.drew.alloc lr _) G);have t4:=t1.below M;try (have T:zaa L X.heap.size (madeCells #[.pointer none] n) 61:=zaa.below (heap_alloc_new X.drew _) G))|(go_at_call 104;(with_reducible refine(J.out _).mono ?_);rintro r o ⟨p,b,rfl,q,b0,S,C⟩;have V:Below X.heap.size X o:=(by first|exact zab M C|exact zab (M.alloc M.size _) C);have t5:=t1.below V;(try (have I:zaa o X.heap.size (madeCells #[.pointer none] n) 61:=zaa.below T C));(try (have I:zaa o L.heap.size (madeCells #[.pointer none] n) 61:=zaa.below (heap_alloc_new L _) C))))
 ·have b1:=M.size;have b6:=q.ltp;have b5:=q.ltb;have ha:=(Below.refl o.heap.size o).alloc lr (.cells (madeCells #[.pointer none] n) 61);obtain⟨f1,x,f2⟩:=j.out (o.alloc (.cells (madeCells #[.pointer none] n) 61)) p b o.heap.size ⟨by omega,by omega,by omega⟩ ⟨by omega,by omega⟩ (q.below ha) (heap_alloc_new o _) (zab (zab z V) ha);have hz:(o.alloc (.cells (madeCells #[.pointer none] n) 61)).heap.size=o.heap.size+1:=by simp
  rw[hz]at f2;go_wp2_with fail;go_returns;exact⟨f1,_,x,rfl,f2⟩
 ·have b1:=M.size;have hz:(L.alloc (.cells (madeCells #[.pointer none] n) 61)).heap.size=L.heap.size+1:=by simp
  rw[hz]at b0 S;obtain⟨f1,x,f2⟩:=j.out o p b L.heap.size ⟨by omega,by omega,by omega⟩ ⟨by omega,by omega⟩ q I (zab z V);go_wp2_with fail;go_returns;exact⟨f1,_,x,rfl,f2⟩
 have b3:=T.lt;obtain⟨f1,x,f2⟩:=j.out o p b X.heap.size ⟨by omega,by omega,by omega⟩ ⟨by omega,by omega⟩ q I (zab z V);go_wp2_with fail;go_returns;exact⟨f1,_,x,rfl,f2⟩
theorem z8i(s:Sh)(W:World)(l:¬ mayB s.p s.c s.m=true):
  Calls Tryz.prog 54 #[.agg #[s.p,s.c,s.m]] W fun e w'=>Below W.heap.size W w'/\e= .returned (.tuple #[.pointer none,.int .i64 1]):=by
 have b:=fun Y=>zcc s.p s.c s.m Y;have i:mayB s.p s.c s.m=false:=by simpa using l
 rw[i]at b;obtain⟨sp,o,q⟩:=s;dsimp only at *;replace b:=hd' b;clear l i;go_in;go_wp2_with (first|(go_at_call 96;(with_reducible refine(b.out _).mono ?_);rintro r t ⟨rfl,j⟩;obtain rfl:=j.symm));go_returns;exact⟨by go_grown,rfl⟩
end

end Go.Proofs.YtkbddndcegpllaaGreat
