/- Texts bound together: AudW AudX. -/
import Derived.Test.YtkbddndcegpllaaGreatBt20

set_option linter.all false
set_option maxHeartbeats 8000000
set_option maxRecDepth 100000
namespace Go.Proofs.YtkbddndcegpllaaGreat

section

open Go.RowKit

abbrev shV (h:Hp):Value:= .agg #[h.p,h.c,h.m]
abbrev zzu (h:Hp) (v:Value):Value:= .agg #[h.p,h.c,h.m,v]
theorem z5c(h:Hp)(v:Value)(w:World)(hr:RdZ .u64 w v h.xs):
  Calls Tryz.prog 63 #[shV h,v] w fun e w'=>e= .returned (.tuple #[zzu h v,h.ok])/\Below w.heap.size w w':=by
 obtain⟨ao,cap,rfl,b3,b4,Z⟩:=hr.cells;clear Z hr;have B:h.ok=(mayB h.p h.c h.m&&decide (zb6 h.p h.c h.m<=(h.xs.length:Int))):=rfl;have E:=zcc h.p h.c h.m;have M:=zro h.p h.c h.m;generalize h.xs.length=n at *;generalize zb6 h.p h.c h.m=T at *;generalize mayB h.p h.c h.m=mb at *;replace E:=hd' E;replace M:=hd' M;rcases Bool.eq_false_or_eq_true mb with O|O;case inr=>
  subst O;rw[B];clear B;go_in;go_upto_region 1 with fail;obtain⟨y,j,F,s⟩:=zc5 w (.cells #[h.p,h.c,h.m] 23) (.cells #[.int .i64 0,.int .i64 0,.int .i64 0,.slice none 0 0] 124);generalize (w.alloc (.cells #[h.p,h.c,h.m] 23)).alloc (.cells #[.int .i64 0,.int .i64 0,.int .i64 0,.slice none 0 0] 124)=W at *;obtain⟨H,V,r⟩:=hidv w.heap.size;rw[<-r]at y j F s ⊢;clear r;have c0:=zac y 0;have c1:=zac y 1;have c2:=zac y 2;have r0:=zac j 0;have r1:=zac j 1;have r2:=zac j 2;have r3:=zac j 3;have f0:=zax j 0;have f1:=zax j 1;have f2:=zax j 2;have f3:=zax j 3;have l0:H<W.heap.size:=by omega
  have l1:H+1<W.heap.size:=by omega
  refine wp_region_held_drew (S:=fun X=>X.cell? ⟨H,0,.none⟩=some (.int .i64 h.p)/\X.cell? ⟨H,1,.none⟩=some (.int .i64 h.c)/\X.cell? ⟨H,2,.none⟩=some (.int .i64 h.m)) (by kernel_rfl) ⟨c0,c1,c2⟩ (fun hHeld=>?_);refine wpAnyH_take (i:=0) (v:= .agg #[h.p,h.c,h.m]) rfl (by kernel_rfl) (by kernel_rfl) (by kernel_rfl) (fun _ _ _ h=>h) (Or.inl ⟨by rfl,fun N ⟨R,q1,q2⟩=>by go_simp⟩) (by assumption) ?_;dsimp only[Act.put,List.getElem_toArray,List.getElem_cons_succ,List.getElem_cons_zero];simp only[List.setIfInBounds_toArray,List.set_cons_zero,List.set_cons_succ];refine wpAnyH_take (i:=1) (v:= .slice ao n cap) rfl (by kernel_rfl) (by kernel_rfl) (by kernel_rfl) (fun _ _ _ h=>h) (Or.inl ⟨by rfl,fun N ⟨R,q1,q2⟩=>by go_simp⟩) (by assumption) ?_;dsimp only[Act.put,List.getElem_toArray,List.getElem_cons_succ,List.getElem_cons_zero];simp only[List.setIfInBounds_toArray,List.set_cons_zero,List.set_cons_succ];refine wpAnyH_take (i:=2) (v:= .agg #[h.p,h.c,h.m,.slice ao n cap]) rfl (by kernel_rfl) (by kernel_rfl) (by kernel_rfl) (fun _ _ _ h=>h) (Or.inl ⟨by rfl,fun N ⟨R,q1,q2⟩=>by go_simp⟩) (by assumption) ?_;dsimp only[Act.put,List.getElem_toArray,List.getElem_cons_succ,List.getElem_cons_zero];simp only[List.setIfInBounds_toArray,List.set_cons_zero,List.set_cons_succ];refine wpAnyH_take (i:=3) (v:= .agg #[h.p,h.c,h.m]) rfl (by kernel_rfl) (by kernel_rfl) (by kernel_rfl) (fun _ _ _ h=>h) (Or.inl ⟨by rfl,fun N ⟨R,q1,q2⟩=>by go_simp⟩) (by assumption) ?_;dsimp only[Act.put,List.getElem_toArray,List.getElem_cons_succ,List.getElem_cons_zero];simp only[List.setIfInBounds_toArray,List.set_cons_zero,List.set_cons_succ];refine wpAnyH_ready (rs:= [4]) (by kernel_rfl) (by simp) ?_;refine AllReadyH.cons rfl (fun K z=>?_) AllReadyH.nil;rw[if_pos (by rfl)];go_simp;refine(E.out _).mono ?_;rintro e w1 ⟨rfl,rfl⟩;dsimp only;have l:Below W.heap.size W (W.drew.alloc (.cells #[h.p,h.c,h.m] 23)):=(br.drew).alloc lr _;have C:=s.trans (l.mono (by omega));have b0:=zai l _ _ _ c0;have b1:=zai l _ _ _ c1;have b2:=zai l _ _ _ c2;have G:=zai l _ _ _ r0;have I:=zai l _ _ _ r1;have J:=zai l _ _ _ r2;have L:=zai l _ _ _ r3;have U:=fun o=>(zgi l (H+1) o l1).trans (zax j o);generalize W.drew.alloc (.cells #[h.p,h.c,h.m] 23)=W2 at *;refine z.out _ _ ⟨b0,b1,b2⟩ (fun hHeld=>?_);clear z K;refine wpAnyH_take (i:=5) (v:= .bool false) rfl (by kernel_rfl) (by kernel_rfl) (by kernel_rfl) (fun _ _ _ h=>h) (Or.inl ⟨by rfl,fun N ⟨R,q1,q2⟩=>by go_simp⟩) (by assumption) ?_;dsimp only[Act.put,List.getElem_toArray,List.getElem_cons_succ,List.getElem_cons_zero];simp only[List.setIfInBounds_toArray,List.set_cons_zero,List.set_cons_succ];refine wpAnyH_take (i:=6) (v:=undef) rfl (by kernel_rfl) (by kernel_rfl) (by kernel_rfl) (fun _ _ _ h=>h) (Or.inr ⟨by rfl,rfl⟩) (by assumption) ?_;dsimp only[Act.put,List.getElem_toArray,List.getElem_cons_succ,List.getElem_cons_zero];simp only[List.setIfInBounds_toArray,List.set_cons_zero,List.set_cons_succ];refine wpAnyH_take (i:=7) (v:=undef) rfl (by kernel_rfl) (by kernel_rfl) (by kernel_rfl) (fun _ _ _ h=>h) (Or.inr ⟨by rfl,rfl⟩) (by assumption) ?_;dsimp only[Act.put,List.getElem_toArray,List.getElem_cons_succ,List.getElem_cons_zero];simp only[List.setIfInBounds_toArray,List.set_cons_zero,List.set_cons_succ];refine wpAnyH_take (i:=8) (v:=undef) rfl (by kernel_rfl) (by kernel_rfl) (by kernel_rfl) (fun _ _ _ h=>h) (Or.inr ⟨by rfl,rfl⟩) (by assumption) ?_;dsimp only[Act.put,List.getElem_toArray,List.getElem_cons_succ,List.getElem_cons_zero];simp only[List.setIfInBounds_toArray,List.set_cons_zero,List.set_cons_succ];refine wpAnyH_take (i:=9) (v:=undef) rfl (by kernel_rfl) (by kernel_rfl) (by kernel_rfl) (fun _ _ _ h=>h) (Or.inr ⟨by rfl,rfl⟩) (by assumption) ?_;dsimp only[Act.put,List.getElem_toArray,List.getElem_cons_succ,List.getElem_cons_zero];simp only[List.setIfInBounds_toArray,List.set_cons_zero,List.set_cons_succ];refine wpAnyH_take (i:=10) (v:=undef) rfl (by kernel_rfl) (by kernel_rfl) (by kernel_rfl) (fun _ _ _ h=>h) (Or.inr ⟨by rfl,rfl⟩) (by assumption) ?_;dsimp only[Act.put,List.getElem_toArray,List.getElem_cons_succ,List.getElem_cons_zero];simp only[List.setIfInBounds_toArray,List.set_cons_zero,List.set_cons_succ];refine wpAnyH_take (i:=11) (v:= .bool false) rfl (by kernel_rfl) (by kernel_rfl) (by kernel_rfl) (fun _ _ _ h=>h) (Or.inl ⟨by rfl,fun N ⟨R,q1,q2⟩=>by go_simp⟩) (by assumption) ?_;dsimp only[Act.put,List.getElem_toArray,List.getElem_cons_succ,List.getElem_cons_zero];simp only[List.setIfInBounds_toArray,List.set_cons_zero,List.set_cons_succ];refine wpAnyH_ready (rs:= [12]) (by kernel_rfl) (by simp) ?_;refine AllReadyH.cons rfl (fun K z=>?_) AllReadyH.nil;rw[if_pos (by rfl)];go_simp;refine z.out _ _ (by go_keep) (fun hHeld=>?_);clear z K;refine wpAnyH_take (i:=13) (v:= .bool false) rfl (by kernel_rfl) (by kernel_rfl) (by kernel_rfl) (fun _ _ _ h=>h) (Or.inl ⟨by rfl,fun N ⟨R,q1,q2⟩=>by go_simp⟩) (by assumption) ?_;dsimp only[Act.put,List.getElem_toArray,List.getElem_cons_succ,List.getElem_cons_zero];simp only[List.setIfInBounds_toArray,List.set_cons_zero,List.set_cons_succ];refine wpAnyH_done (by kernel_rfl) ?_ _;go_wp2;exact bodyPost_ret (v:= .tuple #[.agg #[h.p,h.c,h.m,.slice ao n cap],.bool false]) (by simp[results,Tryz.results63,go_sem,G,I,J,L]) rfl ⟨rfl,by rw[<-V.out];exact((((C.setCell (by simp) _).setCell (by simp) _).setCell (by simp) _).setCell (by simp) _)⟩
 case inl=>
  subst O;rcases Bool.eq_false_or_eq_true (decide (T<=(n:Int))) with hd|hd
  ·rw[B];clear B;go_in;go_upto_region 1 with fail;obtain⟨y,j,F,s⟩:=zc5 w (.cells #[h.p,h.c,h.m] 23) (.cells #[.int .i64 0,.int .i64 0,.int .i64 0,.slice none 0 0] 124);generalize (w.alloc (.cells #[h.p,h.c,h.m] 23)).alloc (.cells #[.int .i64 0,.int .i64 0,.int .i64 0,.slice none 0 0] 124)=W at *;obtain⟨H,V,r⟩:=hidv w.heap.size;rw[<-r]at y j F s ⊢;clear r;have c0:=zac y 0;have c1:=zac y 1;have c2:=zac y 2;have r0:=zac j 0;have r1:=zac j 1;have r2:=zac j 2;have r3:=zac j 3;have f0:=zax j 0;have f1:=zax j 1;have f2:=zax j 2;have f3:=zax j 3;have l0:H<W.heap.size:=by omega
   have l1:H+1<W.heap.size:=by omega
   have z:∀ X Y:World,(X.cell? ⟨H,0,.none⟩=some (.int .i64 h.p)/\X.cell? ⟨H,1,.none⟩=some (.int .i64 h.c)/\X.cell? ⟨H,2,.none⟩=some (.int .i64 h.m))->Below X.heap.size X Y->(Y.cell? ⟨H,0,.none⟩=some (.int .i64 h.p)/\Y.cell? ⟨H,1,.none⟩=some (.int .i64 h.c)/\Y.cell? ⟨H,2,.none⟩=some (.int .i64 h.m)):=fun X Y ⟨a,b,c⟩ hb=>⟨zai hb _ _ _ a,zai hb _ _ _ b,zai hb _ _ _ c⟩;replace z:=hd' z;have l:Below W.heap.size W (W.drew.alloc (.cells #[h.p,h.c,h.m] 23)):=(br.drew).alloc lr _
   go_region_held3 (fun X=>X.cell? ⟨H,0,.none⟩=some (.int .i64 h.p)/\X.cell? ⟨H,1,.none⟩=some (.int .i64 h.c)/\X.cell? ⟨H,2,.none⟩=some (.int .i64 h.m))
    (first|go_keep|exact z.out _ _ (by assumption) D)
    (first|(go_at_call 96;refine(E.out _).mono ?_;rintro e w1 ⟨rfl,rfl⟩)|(go_at_call 105;refine(M.out _).mono ?_;rintro e N ⟨rfl,D⟩;have q:=l.trans (D.mono (by simp));have G:=zai q _ _ _ r0;have I:=zai q _ _ _ r1;have J:=zai q _ _ _ r2;have L:=zai q _ _ _ r3;have U:=fun o=>(zgi q (H+1) o l1).trans (zax j o);have C:=s.trans (q.mono (by omega))))
   go_wp2;exact bodyPost_ret (v:= .tuple #[.agg #[h.p,h.c,h.m,.slice ao n cap],.bool true]) (by simp[results,Tryz.results63,go_sem,G,I,J,L]) rfl ⟨by rw[hd];rfl,by rw[<-V.out];exact((((C.setCell (by simp) _).setCell (by simp) _).setCell (by simp) _).setCell (by simp) _)⟩
  rw[B];clear B;go_in;go_upto_region 1 with fail;obtain⟨y,j,F,s⟩:=zc5 w (.cells #[h.p,h.c,h.m] 23) (.cells #[.int .i64 0,.int .i64 0,.int .i64 0,.slice none 0 0] 124);generalize (w.alloc (.cells #[h.p,h.c,h.m] 23)).alloc (.cells #[.int .i64 0,.int .i64 0,.int .i64 0,.slice none 0 0] 124)=W at *;obtain⟨H,V,r⟩:=hidv w.heap.size;rw[<-r]at y j F s ⊢;clear r;have c0:=zac y 0;have c1:=zac y 1;have c2:=zac y 2;have r0:=zac j 0;have r1:=zac j 1;have r2:=zac j 2;have r3:=zac j 3;have f0:=zax j 0;have f1:=zax j 1;have f2:=zax j 2;have f3:=zax j 3;have l0:H<W.heap.size:=by omega
  have l1:H+1<W.heap.size:=by omega
  have z:∀ X Y:World,(X.cell? ⟨H,0,.none⟩=some (.int .i64 h.p)/\X.cell? ⟨H,1,.none⟩=some (.int .i64 h.c)/\X.cell? ⟨H,2,.none⟩=some (.int .i64 h.m))->Below X.heap.size X Y->(Y.cell? ⟨H,0,.none⟩=some (.int .i64 h.p)/\Y.cell? ⟨H,1,.none⟩=some (.int .i64 h.c)/\Y.cell? ⟨H,2,.none⟩=some (.int .i64 h.m)):=fun X Y ⟨a,b,c⟩ hb=>⟨zai hb _ _ _ a,zai hb _ _ _ b,zai hb _ _ _ c⟩;replace z:=hd' z;have l:Below W.heap.size W (W.drew.alloc (.cells #[h.p,h.c,h.m] 23)):=(br.drew).alloc lr _
  go_region_held3 (fun X=>X.cell? ⟨H,0,.none⟩=some (.int .i64 h.p)/\X.cell? ⟨H,1,.none⟩=some (.int .i64 h.c)/\X.cell? ⟨H,2,.none⟩=some (.int .i64 h.m))
   (first|go_keep|exact z.out _ _ (by assumption) D)
   (first|(go_at_call 96;refine(E.out _).mono ?_;rintro e w1 ⟨rfl,rfl⟩)|(go_at_call 105;refine(M.out _).mono ?_;rintro e N ⟨rfl,D⟩;have q:=l.trans (D.mono (by simp));have G:=zai q _ _ _ r0;have I:=zai q _ _ _ r1;have J:=zai q _ _ _ r2;have L:=zai q _ _ _ r3;have U:=fun o=>(zgi q (H+1) o l1).trans (zax j o);have C:=s.trans (q.mono (by omega))))
  go_wp2;exact bodyPost_ret (v:= .tuple #[.agg #[h.p,h.c,h.m,.slice ao n cap],.bool false]) (by simp[results,Tryz.results63,go_sem,G,I,J,L]) rfl ⟨by rw[hd];rfl,by rw[<-V.out];exact((((C.setCell (by simp) _).setCell (by simp) _).setCell (by simp) _).setCell (by simp) _)⟩
structure Bok (w:World) (v:Value) (h:Hp):Prop where
 ok:h.ok=true
 rd:RdZ .u64 w v h.xs
 fit:h.fit
theorem Bok.below{w w':World}{v:Value}{h:Hp}(b:Bok w v h)(hb:Below w.heap.size w w'):Bok w' v h:=⟨b.ok,b.rd.below hb,b.fit⟩
theorem Bok.may{w:World}{v:Value}{h:Hp}(b:Bok w v h):mayB h.p h.c h.m=true:=by
 have:=b.ok;unfold Hp.ok at this;rw[Bool.and_eq_true]at this;exact this.1
theorem Bok.len{w:World}{v:Value}{h:Hp}(b:Bok w v h):zb6 h.p h.c h.m<=(h.xs.length:Int):=by
 have:=b.ok;unfold Hp.ok at this;rw[Bool.and_eq_true,decide_eq_true_eq]at this;exact this.2
theorem Bok.bd{w:World}{v:Value}{h:Hp}(b:Bok w v h):(1<=h.p/\h.p<=64)/\(1<=h.c/\h.c<=12)/\(0<=h.m/\h.m<=8)/\h.c+h.p+h.p*16+h.c*h.m<=(h.xs.length:Int):=by
 have i:=zar.1 b.may;have f:=b.len;unfold zb6 at f;rw[if_pos b.may]at f;omega
theorem Bok.word{w:World}{v:Value}{h:Hp}(b:Bok w v h)(i:Int)(n:0<=i)(m:i<(h.xs.length:Int)):∃ g f cap,∃ k:Nat,v= .slice (some ⟨g,f,.none⟩) h.xs.length cap/\h.xs.length<=cap/\g<w.heap.size/\i=(k:Int)/\k<h.xs.length/\w.cell? ⟨g,f+k,.none⟩=some (.int .u64 (wd h.xs i)):=by
 obtain⟨ao,cap,e,j,o,l⟩:=b.rd.cells;obtain⟨g,f,rfl,p,hc⟩:=l (fun e=>by rw[e]at m;simp at m;omega);refine⟨g,f,cap,i.toNat,e,j,p,by omega,by omega,?_⟩;rw[hc i.toNat (by omega),yc8 n m]
theorem zpo(h:Hp)(v:Value)(a:Int)(w:World)(b:Bok w v h)(ha:0<=a/\a<h.p):
  Calls Tryz.prog 64 #[zzu h v,a] w fun e w'=>e= .returned (.tuple #[.agg #[.int .i64 (h.pk a),.int .i64 (h.pa a),.int .i64 (h.pn a)],.bool (h.pb a)])/\Below w.heap.size w w':=by
 obtain⟨b1,b2,b3,b4⟩:=b.bd;have b0:=zk3 (c:=h.c) (m:=h.m) (C:=12) (M:=8) (by omega) (by omega);have F:zak h.p h.c h.m a=h.c+a:=by unfold zak;rw[if_pos ⟨b.may,zbc.2 (by omega)⟩]
 obtain⟨g,i,cap,k,rfl,T,hg,U,b8,hc⟩:=b.word (h.c+a) (by omega) (by omega);have N:=h.z95 b.fit (h.c+a);have q:=planPage_any h.p h.c h.m a;rw[F,U]at q;have j:=fun w=>zk2 h.p h.c h.m a (h.pw a) w N.1 N.2;have r:(if zal h.p h.c h.m a (h.pw a)=true then #[.int .i64 (zbx (h.pw a)),.int .i64 (za2 (h.pw a) 0),.int .i64 (za2 (h.pw a) 1)] else #[.int .i64 0,.int .i64 0,.int .i64 0]:Array Value)= #[.int .i64 (h.pk a),.int .i64 (h.pa a),.int .i64 (h.pn a)]:=by unfold Hp.pk Hp.pa Hp.pn;show (if h.pb a=true then _ else _)=_;cases h.pb a<;>rfl
 rw[r]at j;replace j:∀ w,Calls Tryz.prog 118 #[.agg #[h.p,h.c,h.m],a,.int .u64 (h.pw a)] w fun e w'=>Below w.heap.size w w'/\e= .returned (.tuple #[.agg #[.int .i64 (h.pk a),.int .i64 (h.pa a),.int .i64 (h.pn a)],.bool (h.pb a)]):=j;have V:wd h.xs (h.c+a)=h.pw a:=rfl;rw[V]at hc;generalize h.pw a=x at *;generalize h.pk a=k1 at *;generalize h.pa a=k2 at *;generalize h.pn a=k3 at *;generalize h.pb a=k4 at *;generalize h.xs.length=n at *;replace q:=hd' q;replace j:=hd' j;have b6:(0:Int)<=(k:Int):=by omega
 have b7:(k:Int)<(n:Int):=by omega
 clear r F U b N V;go_in;go_upto_region 1 with fail;obtain⟨z,y,L,s⟩:=zc5 w (.cells #[h.p,h.c,h.m,.slice (some ⟨g,i,.none⟩) n cap] 124) (.cells #[.int .i64 0,.int .i64 0,.int .i64 0] 128);replace hc:=zai s _ _ _ hc;generalize (w.alloc (.cells #[h.p,h.c,h.m,.slice (some ⟨g,i,.none⟩) n cap] 124)).alloc (.cells #[.int .i64 0,.int .i64 0,.int .i64 0] 128)=W at *;obtain⟨H,hH,B⟩:=hidv w.heap.size;rw[<-B]at z y L s ⊢;have b5:H+1≠g:=by omega
 clear B;have c0:W.cell? ⟨H,0,.none⟩=some (.int .i64 h.p):=zac z 0;have c1:W.cell? ⟨H,1,.none⟩=some (.int .i64 h.c):=zac z 1;have c2:W.cell? ⟨H,2,.none⟩=some (.int .i64 h.m):=zac z 2;have c3:W.cell? ⟨H,3,.none⟩=some (.slice (some ⟨g,i,.none⟩) n cap):=zac z 3;have r0:=zac y 0;have r1:=zac y 1;have r2:=zac y 2;have X:=zax y;have l0:H<W.heap.size:=by omega
 have l1:H+1<W.heap.size:=by omega
 have I:∀ Y,Below W.heap.size W Y->Y.cell? ⟨H,0,.none⟩=some (.int .i64 h.p)/\Y.cell? ⟨H,1,.none⟩=some (.int .i64 h.c)/\Y.cell? ⟨H,2,.none⟩=some (.int .i64 h.m)/\Y.cell? ⟨H,3,.none⟩=some (.slice (some ⟨g,i,.none⟩) n cap)/\Y.cell? ⟨g,i+k,.none⟩=some (.int .u64 x):=fun Y hb=>⟨zai hb _ _ _ c0,zai hb _ _ _ c1,zai hb _ _ _ c2,zai hb _ _ _ c3,zai hb _ _ _ hc⟩;replace I:=hd' I;have J:Below W.heap.size W W.drew:=br.drew
 go_region_held3 (fun Y=>Y.cell? ⟨H,0,.none⟩=some (.int .i64 h.p)/\Y.cell? ⟨H,1,.none⟩=some (.int .i64 h.c)/\Y.cell? ⟨H,2,.none⟩=some (.int .i64 h.m)/\Y.cell? ⟨H,3,.none⟩=some (.slice (some ⟨g,i,.none⟩) n cap)/\Y.cell? ⟨g,i+k,.none⟩=some (.int .u64 x))
  (first|go_keep|exact I.out _ (by assumption))
  (first|(go_at_call 119;refine(q.out _).mono ?_;rintro e w1 ⟨rfl,hb⟩;have D:=J.trans (hb.mono lr);have E:=D.size)|(go_at_call 118;refine(j.out _).mono ?_;rintro e w2 ⟨hb,rfl⟩;have l:=D.trans (hb.mono E);have O:=zai l _ _ _ r0;have R:=zai l _ _ _ r1;have S:=zai l _ _ _ r2;have Z:=fun o=>(zgi l (H+1) o l1).trans (X o);have G:=s.trans (l.mono (by omega))))
 go_wp2;exact bodyPost_ret (v:= .tuple #[.agg #[k1,k2,k3],k4]) (by simp[results,Tryz.results64,go_sem,O,R,S]) rfl ⟨rfl,by rw[<-hH.out];exact(((G.setCell (by simp) _).setCell (by simp) _).setCell (by simp) _)⟩
theorem z7y(h:Hp)(v:Value)(a i:Int)(w:World)(b:Bok w v h)(ha:0<=a/\a<h.p)(hi:0<=i/\i<16):
  Calls Tryz.prog 66 #[zzu h v,a,i] w fun e w'=>e= .returned (.agg #[.int .i64 (h.sk a i),.int .i64 (h.sa a i)])/\Below w.heap.size w w':=by
 obtain⟨b1,b2,b3,b4⟩:=b.bd;have b0:=zk3 (c:=h.c) (m:=h.m) (C:=12) (M:=8) (by omega) (by omega);have F:zbk h.p h.c h.m a i=h.c+h.p+a*16+i:=by unfold zbk;rw[if_pos ⟨b.may,zbc.2 (by omega),zbc.2 (by omega)⟩]
 obtain⟨g,j,cap,k,rfl,T,hg,U,b8,hc⟩:=b.word (h.c+h.p+a*16+i) (by omega) (by omega);have O:=h.z95 b.fit (h.c+h.p+a*16+i);have r:=zbm h.p h.c h.m a i;rw[F,U]at r;have l:=fun w=>zso (h.sw a i) w O.1 O.2;have s:(if zet (h.sw a i)=true then #[.int .i64 (zbx (h.sw a i)),.int .i64 (za2 (h.sw a i) 0)] else #[.int .i64 0,.int .i64 0]:Array Value)= #[.int .i64 (h.sk a i),.int .i64 (h.sa a i)]:=by unfold Hp.sk Hp.sa;cases zet (h.sw a i)<;>rfl
 rw[s]at l;replace l:∀ w,Calls Tryz.prog 120 #[.int .u64 (h.sw a i)] w fun e w'=>Below w.heap.size w w'/\e= .returned (.agg #[.int .i64 (h.sk a i),.int .i64 (h.sa a i)]):=l;have V:wd h.xs (h.c+h.p+a*16+i)=h.sw a i:=rfl;rw[V]at hc;generalize h.sw a i=x at *;generalize h.sk a i=k1 at *;generalize h.sa a i=k2 at *;generalize h.xs.length=n at *;replace r:=hd' r;replace l:=hd' l;have b6:(0:Int)<=(k:Int):=by omega
 have b7:(k:Int)<(n:Int):=by omega
 clear s F U b O V;go_in;go_upto_region 1 with fail;obtain⟨z,G,N,y⟩:=zc5 w (.cells #[h.p,h.c,h.m,.slice (some ⟨g,j,.none⟩) n cap] 124) (.cells #[.int .i64 0,.int .i64 0] 132);replace hc:=zai y _ _ _ hc;generalize (w.alloc (.cells #[h.p,h.c,h.m,.slice (some ⟨g,j,.none⟩) n cap] 124)).alloc (.cells #[.int .i64 0,.int .i64 0] 132)=W at *;obtain⟨H,hH,B⟩:=hidv w.heap.size;rw[<-B]at z G N y ⊢;have b5:H+1≠g:=by omega
 clear B;have c0:W.cell? ⟨H,0,.none⟩=some (.int .i64 h.p):=zac z 0;have c1:W.cell? ⟨H,1,.none⟩=some (.int .i64 h.c):=zac z 1;have c2:W.cell? ⟨H,2,.none⟩=some (.int .i64 h.m):=zac z 2;have c3:W.cell? ⟨H,3,.none⟩=some (.slice (some ⟨g,j,.none⟩) n cap):=zac z 3;have r0:=zac G 0;have r1:=zac G 1;have X:=zax G;have l0:H<W.heap.size:=by omega
 have l1:H+1<W.heap.size:=by omega
 have J:∀ Y,Below W.heap.size W Y->Y.cell? ⟨H,0,.none⟩=some (.int .i64 h.p)/\Y.cell? ⟨H,1,.none⟩=some (.int .i64 h.c)/\Y.cell? ⟨H,2,.none⟩=some (.int .i64 h.m)/\Y.cell? ⟨H,3,.none⟩=some (.slice (some ⟨g,j,.none⟩) n cap)/\Y.cell? ⟨g,j+k,.none⟩=some (.int .u64 x):=fun Y hb=>⟨zai hb _ _ _ c0,zai hb _ _ _ c1,zai hb _ _ _ c2,zai hb _ _ _ c3,zai hb _ _ _ hc⟩;replace J:=hd' J;have L:Below W.heap.size W W.drew:=br.drew
 go_region_held3 (fun Y=>Y.cell? ⟨H,0,.none⟩=some (.int .i64 h.p)/\Y.cell? ⟨H,1,.none⟩=some (.int .i64 h.c)/\Y.cell? ⟨H,2,.none⟩=some (.int .i64 h.m)/\Y.cell? ⟨H,3,.none⟩=some (.slice (some ⟨g,j,.none⟩) n cap)/\Y.cell? ⟨g,j+k,.none⟩=some (.int .u64 x))
  (first|go_keep|exact J.out _ (by assumption))
  (first|(go_at_call 121;refine(r.out _).mono ?_;rintro e w1 ⟨rfl,hb⟩;have D:=L.trans (hb.mono lr);have E:=D.size)|(go_at_call 120;refine(l.out _).mono ?_;rintro e w2 ⟨hb,rfl⟩;have q:=D.trans (hb.mono E);have R:=zai q _ _ _ r0;have S:=zai q _ _ _ r1;have Z:=fun o=>(zgi q (H+1) o l1).trans (X o);have I:=y.trans (q.mono (by omega))))
 go_wp2;exact bodyPost_ret (v:= .agg #[k1,k2]) (by simp[results,Tryz.results66,go_sem,R,S]) rfl ⟨rfl,by rw[<-hH.out];exact((I.setCell (by simp) _).setCell (by simp) _)⟩
end

section

open Go.RowKit

attribute [local go_sem ↓] Go.wp_at_zero Go.wp_at_succ

theorem zhk(a b:Int)(w:World):(Instr.field 132 (.agg #[a,b]) 0).run Tryz.prog w= .ok (.int .i64 a) w:=by kernel_rfl
theorem zh6(a b:Int)(w:World):(Instr.field 132 (.agg #[a,b]) 1).run Tryz.prog w= .ok (.int .i64 b) w:=by kernel_rfl
attribute [local go_sem ↓] zhk zh6

theorem zth(h:Hp)(v:Value)(x:Int)(w:World)(b:Bok w v h):
  Calls Tryz.prog 101 #[zzu h v,x] w fun e w'=>e= .returned (.bool (h.lv x))/\Below w.heap.size w w':=by
 obtain⟨V,X,Y,Z⟩:=b.bd;have J:=zk3 (c:=h.c) (m:=h.m) (C:=12) (M:=8) (by omega) (by omega);have j:=zau h.p h.c h.m x;by_cases H:0<=x/\x<=h.c-1
 ·have q:wi x 0 (h.c-1)=true:=zbc.2 H;have r:zae h.p h.c h.m x=x:=by unfold zae;rw[if_pos ⟨b.may,q⟩]
  have s:h.lv x=ycd (wd h.xs x):=by unfold Hp.lv;rw[b.may,q];rfl
  obtain⟨g,D,cap,k,rfl,G,hg,L,R,hc⟩:=b.word x (by omega) (by omega);have F:=h.z95 b.fit x;have i:=fun w=>zfz (wd h.xs x) w F.1 F.2;rw[s];rw[r]at j;unfold ycd;subst L;generalize wd h.xs (k:Int)=z at *;generalize zbx z=k1 at *;generalize za2 z 0=I at *;generalize h.xs.length=n at *;have N:(0:Int)<=(k:Int):=by omega
  have O:(k:Int)<(n:Int):=by omega
  have S:g≠w.heap.size:=by omega
  clear r s F b q;rcases Bool.eq_false_or_eq_true (za8 k1 I==z) with hs|hs
  ·rw[hs]at i ⊢;replace i:∀ w,Calls Tryz.prog 97 #[.int .u64 z] w fun e w'=>Below w.heap.size w w'/\e= .returned (.tuple #[k1,I]):=i;clear hs;replace i:=hd' i;replace j:=hd' j;go_in;go_wp2_with fail;refine(j.out _).mono ?_;rintro e E ⟨rfl,o⟩;have l:Below w.heap.size w E:=((Below.refl w.heap.size w).alloc lr _).trans (o.mono (by simp));have T:=zai o _ _ _ (zac (heap_alloc_new w (.cells #[h.p,h.c,h.m,.slice (some ⟨g,D,.none⟩) n cap] 124)) 3);have q1:=zai l _ _ _ hc;go_wp2_with fail;refine(i.out _).mono ?_;rintro e U ⟨B,rfl⟩;have y:=l.trans (B.mono l.size);go_wp2;go_ret;exact⟨by rw[Bool.true_and];rfl,y⟩
  rw[hs]at i ⊢;replace i:∀ w,Calls Tryz.prog 97 #[.int .u64 z] w fun e w'=>Below w.heap.size w w'/\e= .returned (.tuple #[.int .i64 0,.int .i64 0]):=i;clear hs;replace i:=hd' i;replace j:=hd' j;go_in;go_wp2_with fail;refine(j.out _).mono ?_;rintro e E ⟨rfl,o⟩;have l:Below w.heap.size w E:=((Below.refl w.heap.size w).alloc lr _).trans (o.mono (by simp));have T:=zai o _ _ _ (zac (heap_alloc_new w (.cells #[h.p,h.c,h.m,.slice (some ⟨g,D,.none⟩) n cap] 124)) 3);have q1:=zai l _ _ _ hc;go_wp2_with fail;refine(i.out _).mono ?_;rintro e U ⟨B,rfl⟩;have y:=l.trans (B.mono l.size);go_wp2;go_ret;exact⟨rfl,y⟩
 have q:wi x 0 (h.c-1)=false:=zgo.2 H;have r:zae h.p h.c h.m x= -1:=by unfold zae;rw[if_neg (fun h=>by rw[q]at h;exact Bool.false_ne_true h.2)]
 have s:h.lv x=false:=by unfold Hp.lv;rw[q,Bool.and_false];rfl
 rw[s];rw[r]at j;replace j:=hd' j;clear r s q;go_in;go_wp2_with fail;refine(j.out _).mono ?_;rintro e E ⟨rfl,o⟩;have l:Below w.heap.size w E:=((Below.refl w.heap.size w).alloc lr _).trans (o.mono (by simp));go_wp2;go_ret;exact⟨rfl,l⟩
theorem zy8(h:Hp)(v:Value)(a:Int)(w:World)(b:Bok w v h)(M:0<=a/\a<h.p):
  Calls Tryz.prog 99 #[zzu h v,a] w fun e w'=>e= .returned (.tuple #[.int .i64 (h.hc a),.bool (h.hb a)])/\Below w.heap.size w w':=by
 have z:=Hp.yfx (h:=h) M.1 M.2;have i:=fun X L=>zpo h v a X (b.below L) M;have s:=fun X L=>zpo h v (h.hd a) X (b.below L) z;have H:h.hc a=if h.hb a=true then h.pa (h.hd a) else 0:=rfl;have I:h.hb a=(h.pb (h.hd a)&&h.pk (h.hd a)==1):=rfl;by_cases E:(h.pb a&&h.pk a==4)=true
 ·have F:h.hd a=h.pa a:=by unfold Hp.hd;rw[if_pos E]
  rw[H,I];rw[F]at s ⊢;have o:=E;rw[Bool.and_eq_true,beq_iff_eq]at o;rw[o.1,o.2]at i;generalize h.pa a=q at *;generalize h.pn a=U at *;generalize h.pk q=k1 at *;generalize h.pa q=S at *;generalize h.pn q=T at *;generalize h.pb q=k4 at *;replace i:=hd' i;replace s:=hd' s;clear H I F E o z b;have N:=Bool.eq_false_or_eq_true k4;have C:=Decidable.em (k1=1);rcases N with rfl|rfl<;>rcases C with B|B <;>
  ·first
    |(have l:(k1==1)=true:=by rw[beq_iff_eq];exact B)
    |(have l:(k1==1)=false:=by rw[beq_eq_false_iff_ne];exact B)
   rw[l];replace l:=hd' l;go_in;go_wp2_with fail;refine(i.out _ (br.alloc lr _)).mono ?_;rintro e y ⟨rfl,n⟩;have j:Below w.heap.size w y:=((Below.refl w.heap.size w).alloc lr _).trans (n.mono (by simp));have g0:=(n.block _ (by simp)).trans (heap_alloc_new w (.cells #[h.p,h.c,h.m,v] 124));have r:Below w.heap.size w (y.alloc (.cells #[.int .i64 4,q,U] 128)):=j.alloc j.size _;have hz:=j.size;have O:=heap_alloc_new y (.cells #[.int .i64 4,q,U] 128);have Z:=(Array.getElem?_eq_some_iff.1 g0).1;have c0:=zac g0 0;have c1:=zac g0 1;have c2:=zac g0 2;have c3:=zac g0 3;go_wp2_with fail;refine(s.out _ r).mono ?_;rintro e w2 ⟨rfl,G⟩;have D:=(G.block _ (by simp)).trans O;have J:=r.trans (G.mono r.size);have R:y.heap.size<w2.heap.size:=(Array.getElem?_eq_some_iff.1 D).1;have p0:=zac D 0;have p1:=zac D 1;have p2:=zac D 2;have fP:=zax D;clear g0 O D;go_wp2;go_ret2;exact⟨rfl,((J.setCell (by simp;omega) _).setCell (by simp;omega) _).setCell (by simp;omega) _⟩
 have F:h.hd a=a:=by unfold Hp.hd;rw[if_neg E]
 rw[H,I];rw[F];have o:h.pb a=false\/(h.pb a=true/\h.pk a≠4):=by
  rcases Bool.eq_false_or_eq_true (h.pb a) with h|h
  ·right;refine⟨h,fun e=>E ?_⟩;rw[h,e];rfl
  exact .inl h
 clear H I F E z s b;generalize h.pk a=k1 at *;generalize h.pa a=S at *;generalize h.pn a=T at *;rcases o with o|⟨o,V⟩
 ·rw[o]at i ⊢;replace i:=hd' i;clear o;go_in;go_wp2_with fail;refine(i.out _ (br.alloc lr _)).mono ?_;rintro e y ⟨rfl,n⟩;have j:Below w.heap.size w y:=((Below.refl w.heap.size w).alloc lr _).trans (n.mono (by simp));have r:Below w.heap.size w (y.alloc (.cells #[k1,S,T] 128)):=j.alloc j.size _;go_wp2;go_ret2;exact⟨rfl,r⟩
 rw[o]at i ⊢;replace i:=hd' i;clear o;have Y:(k1==4)=false:=by rw[beq_eq_false_iff_ne];exact V
 have C:=Decidable.em (k1=1);rcases C with B|B <;>
 ·first
   |(have l:(k1==1)=true:=by rw[beq_iff_eq];exact B)
   |(have l:(k1==1)=false:=by rw[beq_eq_false_iff_ne];exact B)
  rw[l];replace l:=hd' l;go_in;go_wp2_with fail;refine(i.out _ (br.alloc lr _)).mono ?_;rintro e y ⟨rfl,n⟩;have j:Below w.heap.size w y:=((Below.refl w.heap.size w).alloc lr _).trans (n.mono (by simp));go_wp2;go_ret2;exact⟨rfl,j.alloc j.size _⟩
end

end Go.Proofs.YtkbddndcegpllaaGreat
