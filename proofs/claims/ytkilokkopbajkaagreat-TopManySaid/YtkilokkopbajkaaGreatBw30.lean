/- Lemmas for the claim. -/
import Derived.Test.YtkilokkopbajkaaGreatBw24

set_option linter.all false
set_option maxHeartbeats 8000000
set_option maxRecDepth 100000
namespace Go.Proofs.YtkilokkopbajkaaGreat

section

open Go.RowKit

abbrev shV (h:Hp):Value:= .agg #[h.p,h.c,h.m]
abbrev XE (h:Hp) (v:Value):Value:= .agg #[h.p,h.c,h.m,v]
theorem CK(h:Hp)(v:Value)(w:World)(hr:RdZ .u64 w v h.xs):
  Calls Tryz.prog 54 #[shV h,v] w fun e w'=>e= .returned (.tuple #[XE h v,h.ok])/\Below w.heap.size w w':=by
 obtain⟨ao,cap,rfl,b3,b4,Z⟩:=hr.cells;clear Z hr;have B:h.ok=(mayB h.p h.c h.m&&decide (oB h.p h.c h.m<=(h.xs.length:Int))):=rfl;have E:=tC h.p h.c h.m;have M:=UV h.p h.c h.m;generalize h.xs.length=n at *;generalize oB h.p h.c h.m=T at *;generalize mayB h.p h.c h.m=mb at *;replace E:=hd' E;replace M:=hd' M;rcases jB mb with O|O;case inr=>
  subst O;rw[B];clear B;go_in;go_upto_region 1 with fail;obtain⟨y,j,F,s⟩:=PD w (.cells #[h.p,h.c,h.m] 23) (.cells #[.int .i64 0,.int .i64 0,.int .i64 0,.slice none 0 0] 115);generalize (w.alloc (.cells #[h.p,h.c,h.m] 23)).alloc (.cells #[.int .i64 0,.int .i64 0,.int .i64 0,.slice none 0 0] 115)=W at *;obtain⟨H,V,r⟩:=hidv w.heap.size;rw[<-r]at y j F s ⊢;clear r;have c0:=kA y 0;have c1:=kA y 1;have c2:=kA y 2;have r0:=kA j 0;have r1:=kA j 1;have r2:=kA j 2;have r3:=kA j 3;have f0:=GA j 0;have f1:=GA j 1;have f2:=GA j 2;have f3:=GA j 3;have l0:H<W.heap.size:=by omega
  have l1:H+1<W.heap.size:=by omega
  refine wp_region_held_drew (S:=fun X=>X.cell? ⟨H,0,.none⟩=some (.int .i64 h.p)/\X.cell? ⟨H,1,.none⟩=some (.int .i64 h.c)/\X.cell? ⟨H,2,.none⟩=some (.int .i64 h.m)) (by kernel_rfl) ⟨c0,c1,c2⟩ (fun hHeld=>?_);refine wpAnyH_take (i:=0) (v:= .agg #[h.p,h.c,h.m]) rfl (by kernel_rfl) (by kernel_rfl) (by kernel_rfl) (fun _ _ _ h=>h) (Or.inl ⟨by rfl,fun N ⟨R,q1,q2⟩=>by go_simp⟩) (by assumption) ?_;dsimp only[Act.put,List.getElem_toArray,List.getElem_cons_succ,List.getElem_cons_zero];simp only[List.setIfInBounds_toArray,List.set_cons_zero,List.set_cons_succ];refine wpAnyH_take (i:=1) (v:= .slice ao n cap) rfl (by kernel_rfl) (by kernel_rfl) (by kernel_rfl) (fun _ _ _ h=>h) (Or.inl ⟨by rfl,fun N ⟨R,q1,q2⟩=>by go_simp⟩) (by assumption) ?_;dsimp only[Act.put,List.getElem_toArray,List.getElem_cons_succ,List.getElem_cons_zero];simp only[List.setIfInBounds_toArray,List.set_cons_zero,List.set_cons_succ];refine wpAnyH_take (i:=2) (v:= .agg #[h.p,h.c,h.m,.slice ao n cap]) rfl (by kernel_rfl) (by kernel_rfl) (by kernel_rfl) (fun _ _ _ h=>h) (Or.inl ⟨by rfl,fun N ⟨R,q1,q2⟩=>by go_simp⟩) (by assumption) ?_;dsimp only[Act.put,List.getElem_toArray,List.getElem_cons_succ,List.getElem_cons_zero];simp only[List.setIfInBounds_toArray,List.set_cons_zero,List.set_cons_succ];refine wpAnyH_take (i:=3) (v:= .agg #[h.p,h.c,h.m]) rfl (by kernel_rfl) (by kernel_rfl) (by kernel_rfl) (fun _ _ _ h=>h) (Or.inl ⟨by rfl,fun N ⟨R,q1,q2⟩=>by go_simp⟩) (by assumption) ?_;dsimp only[Act.put,List.getElem_toArray,List.getElem_cons_succ,List.getElem_cons_zero];simp only[List.setIfInBounds_toArray,List.set_cons_zero,List.set_cons_succ];refine wpAnyH_ready (rs:= [4]) (by kernel_rfl) (by simp) ?_;refine AllReadyH.cons rfl (fun K z=>?_) AllReadyH.nil;rw[jP (by rfl)];go_simp;refine(E _).mono ?_;rintro e w1 ⟨rfl,rfl⟩;dsimp only;have l:Below W.heap.size W (W.drew.alloc (.cells #[h.p,h.c,h.m] 23)):=(br.drew).alloc lr _;have C:=s.trans (l.mono (by omega));have b0:=iA l _ _ _ c0;have b1:=iA l _ _ _ c1;have b2:=iA l _ _ _ c2;have G:=iA l _ _ _ r0;have I:=iA l _ _ _ r1;have J:=iA l _ _ _ r2;have L:=iA l _ _ _ r3;have U:=fun o=>(VC l (H+1) o l1).trans (GA j o);generalize W.drew.alloc (.cells #[h.p,h.c,h.m] 23)=W2 at *;refine z _ _ ⟨b0,b1,b2⟩ (fun hHeld=>?_);clear z K;refine wpAnyH_take (i:=5) (v:= .bool false) rfl (by kernel_rfl) (by kernel_rfl) (by kernel_rfl) (fun _ _ _ h=>h) (Or.inl ⟨by rfl,fun N ⟨R,q1,q2⟩=>by go_simp⟩) (by assumption) ?_;dsimp only[Act.put,List.getElem_toArray,List.getElem_cons_succ,List.getElem_cons_zero];simp only[List.setIfInBounds_toArray,List.set_cons_zero,List.set_cons_succ];refine wpAnyH_take (i:=6) (v:=undef) rfl (by kernel_rfl) (by kernel_rfl) (by kernel_rfl) (fun _ _ _ h=>h) (Or.inr ⟨by rfl,rfl⟩) (by assumption) ?_;dsimp only[Act.put,List.getElem_toArray,List.getElem_cons_succ,List.getElem_cons_zero];simp only[List.setIfInBounds_toArray,List.set_cons_zero,List.set_cons_succ];refine wpAnyH_take (i:=7) (v:=undef) rfl (by kernel_rfl) (by kernel_rfl) (by kernel_rfl) (fun _ _ _ h=>h) (Or.inr ⟨by rfl,rfl⟩) (by assumption) ?_;dsimp only[Act.put,List.getElem_toArray,List.getElem_cons_succ,List.getElem_cons_zero];simp only[List.setIfInBounds_toArray,List.set_cons_zero,List.set_cons_succ];refine wpAnyH_take (i:=8) (v:=undef) rfl (by kernel_rfl) (by kernel_rfl) (by kernel_rfl) (fun _ _ _ h=>h) (Or.inr ⟨by rfl,rfl⟩) (by assumption) ?_;dsimp only[Act.put,List.getElem_toArray,List.getElem_cons_succ,List.getElem_cons_zero];simp only[List.setIfInBounds_toArray,List.set_cons_zero,List.set_cons_succ];refine wpAnyH_take (i:=9) (v:=undef) rfl (by kernel_rfl) (by kernel_rfl) (by kernel_rfl) (fun _ _ _ h=>h) (Or.inr ⟨by rfl,rfl⟩) (by assumption) ?_;dsimp only[Act.put,List.getElem_toArray,List.getElem_cons_succ,List.getElem_cons_zero];simp only[List.setIfInBounds_toArray,List.set_cons_zero,List.set_cons_succ];refine wpAnyH_take (i:=10) (v:=undef) rfl (by kernel_rfl) (by kernel_rfl) (by kernel_rfl) (fun _ _ _ h=>h) (Or.inr ⟨by rfl,rfl⟩) (by assumption) ?_;dsimp only[Act.put,List.getElem_toArray,List.getElem_cons_succ,List.getElem_cons_zero];simp only[List.setIfInBounds_toArray,List.set_cons_zero,List.set_cons_succ];refine wpAnyH_take (i:=11) (v:= .bool false) rfl (by kernel_rfl) (by kernel_rfl) (by kernel_rfl) (fun _ _ _ h=>h) (Or.inl ⟨by rfl,fun N ⟨R,q1,q2⟩=>by go_simp⟩) (by assumption) ?_;dsimp only[Act.put,List.getElem_toArray,List.getElem_cons_succ,List.getElem_cons_zero];simp only[List.setIfInBounds_toArray,List.set_cons_zero,List.set_cons_succ];refine wpAnyH_ready (rs:= [12]) (by kernel_rfl) (by simp) ?_;refine AllReadyH.cons rfl (fun K z=>?_) AllReadyH.nil;rw[jP (by rfl)];go_simp;refine z _ _ (by go_keep) (fun hHeld=>?_);clear z K;refine wpAnyH_take (i:=13) (v:= .bool false) rfl (by kernel_rfl) (by kernel_rfl) (by kernel_rfl) (fun _ _ _ h=>h) (Or.inl ⟨by rfl,fun N ⟨R,q1,q2⟩=>by go_simp⟩) (by assumption) ?_;dsimp only[Act.put,List.getElem_toArray,List.getElem_cons_succ,List.getElem_cons_zero];simp only[List.setIfInBounds_toArray,List.set_cons_zero,List.set_cons_succ];refine wpAnyH_done (by kernel_rfl) ?_ _;go_wp2;exact bodyPost_ret (v:= .tuple #[.agg #[h.p,h.c,h.m,.slice ao n cap],.bool false]) (by simp[results,Tryz.results54,go_sem,G,I,J,L]) rfl ⟨rfl,by rw[<-V];exact((((C.setCell (by simp) _).setCell (by simp) _).setCell (by simp) _).setCell (by simp) _)⟩
 case inl=>
  subst O;rcases jB (decide (T<=(n:Int))) with hd|hd
  ·rw[B];clear B;go_in;go_upto_region 1 with fail;obtain⟨y,j,F,s⟩:=PD w (.cells #[h.p,h.c,h.m] 23) (.cells #[.int .i64 0,.int .i64 0,.int .i64 0,.slice none 0 0] 115);generalize (w.alloc (.cells #[h.p,h.c,h.m] 23)).alloc (.cells #[.int .i64 0,.int .i64 0,.int .i64 0,.slice none 0 0] 115)=W at *;obtain⟨H,V,r⟩:=hidv w.heap.size;rw[<-r]at y j F s ⊢;clear r;have c0:=kA y 0;have c1:=kA y 1;have c2:=kA y 2;have r0:=kA j 0;have r1:=kA j 1;have r2:=kA j 2;have r3:=kA j 3;have f0:=GA j 0;have f1:=GA j 1;have f2:=GA j 2;have f3:=GA j 3;have l0:H<W.heap.size:=by omega
   have l1:H+1<W.heap.size:=by omega
   have z:∀ X Y:World,(X.cell? ⟨H,0,.none⟩=some (.int .i64 h.p)/\X.cell? ⟨H,1,.none⟩=some (.int .i64 h.c)/\X.cell? ⟨H,2,.none⟩=some (.int .i64 h.m))->jW X Y->(Y.cell? ⟨H,0,.none⟩=some (.int .i64 h.p)/\Y.cell? ⟨H,1,.none⟩=some (.int .i64 h.c)/\Y.cell? ⟨H,2,.none⟩=some (.int .i64 h.m)):=fun X Y ⟨a,b,c⟩ hb=>⟨iA hb _ _ _ a,iA hb _ _ _ b,iA hb _ _ _ c⟩;replace z:=hd' z;have l:Below W.heap.size W (W.drew.alloc (.cells #[h.p,h.c,h.m] 23)):=(br.drew).alloc lr _
   go_region_held3 (fun X=>X.cell? ⟨H,0,.none⟩=some (.int .i64 h.p)/\X.cell? ⟨H,1,.none⟩=some (.int .i64 h.c)/\X.cell? ⟨H,2,.none⟩=some (.int .i64 h.m))
    (first|go_keep|exact z _ _ (by assumption) D)
    (first|(go_at_call 86;refine(E _).mono ?_;rintro e w1 ⟨rfl,rfl⟩)|(go_at_call 88;refine(M _).mono ?_;rintro e N ⟨rfl,D⟩;have q:=l.trans (D.mono (by simp));have G:=iA q _ _ _ r0;have I:=iA q _ _ _ r1;have J:=iA q _ _ _ r2;have L:=iA q _ _ _ r3;have U:=fun o=>(VC q (H+1) o l1).trans (GA j o);have C:=s.trans (q.mono (by omega))))
   go_wp2;exact bodyPost_ret (v:= .tuple #[.agg #[h.p,h.c,h.m,.slice ao n cap],.bool true]) (by simp[results,Tryz.results54,go_sem,G,I,J,L]) rfl ⟨by rw[hd];rfl,by rw[<-V];exact((((C.setCell (by simp) _).setCell (by simp) _).setCell (by simp) _).setCell (by simp) _)⟩
  rw[B];clear B;go_in;go_upto_region 1 with fail;obtain⟨y,j,F,s⟩:=PD w (.cells #[h.p,h.c,h.m] 23) (.cells #[.int .i64 0,.int .i64 0,.int .i64 0,.slice none 0 0] 115);generalize (w.alloc (.cells #[h.p,h.c,h.m] 23)).alloc (.cells #[.int .i64 0,.int .i64 0,.int .i64 0,.slice none 0 0] 115)=W at *;obtain⟨H,V,r⟩:=hidv w.heap.size;rw[<-r]at y j F s ⊢;clear r;have c0:=kA y 0;have c1:=kA y 1;have c2:=kA y 2;have r0:=kA j 0;have r1:=kA j 1;have r2:=kA j 2;have r3:=kA j 3;have f0:=GA j 0;have f1:=GA j 1;have f2:=GA j 2;have f3:=GA j 3;have l0:H<W.heap.size:=by omega
  have l1:H+1<W.heap.size:=by omega
  have z:∀ X Y:World,(X.cell? ⟨H,0,.none⟩=some (.int .i64 h.p)/\X.cell? ⟨H,1,.none⟩=some (.int .i64 h.c)/\X.cell? ⟨H,2,.none⟩=some (.int .i64 h.m))->jW X Y->(Y.cell? ⟨H,0,.none⟩=some (.int .i64 h.p)/\Y.cell? ⟨H,1,.none⟩=some (.int .i64 h.c)/\Y.cell? ⟨H,2,.none⟩=some (.int .i64 h.m)):=fun X Y ⟨a,b,c⟩ hb=>⟨iA hb _ _ _ a,iA hb _ _ _ b,iA hb _ _ _ c⟩;replace z:=hd' z;have l:Below W.heap.size W (W.drew.alloc (.cells #[h.p,h.c,h.m] 23)):=(br.drew).alloc lr _
  go_region_held3 (fun X=>X.cell? ⟨H,0,.none⟩=some (.int .i64 h.p)/\X.cell? ⟨H,1,.none⟩=some (.int .i64 h.c)/\X.cell? ⟨H,2,.none⟩=some (.int .i64 h.m))
   (first|go_keep|exact z _ _ (by assumption) D)
   (first|(go_at_call 86;refine(E _).mono ?_;rintro e w1 ⟨rfl,rfl⟩)|(go_at_call 88;refine(M _).mono ?_;rintro e N ⟨rfl,D⟩;have q:=l.trans (D.mono (by simp));have G:=iA q _ _ _ r0;have I:=iA q _ _ _ r1;have J:=iA q _ _ _ r2;have L:=iA q _ _ _ r3;have U:=fun o=>(VC q (H+1) o l1).trans (GA j o);have C:=s.trans (q.mono (by omega))))
  go_wp2;exact bodyPost_ret (v:= .tuple #[.agg #[h.p,h.c,h.m,.slice ao n cap],.bool false]) (by simp[results,Tryz.results54,go_sem,G,I,J,L]) rfl ⟨by rw[hd];rfl,by rw[<-V];exact((((C.setCell (by simp) _).setCell (by simp) _).setCell (by simp) _).setCell (by simp) _)⟩
structure Bok (w:World) (v:Value) (h:Hp):Prop where
 ok:h.ok=true
 rd:RdZ .u64 w v h.xs
 fit:h.fit
theorem Bok.below{w w':World}{v:Value}{h:Hp}(b:Bok w v h)(hb:Below w.heap.size w w'):Bok w' v h:=⟨b.ok,b.rd.below hb,b.fit⟩
theorem Bok.may{w:World}{v:Value}{h:Hp}(b:Bok w v h):mayB h.p h.c h.m=true:=by
 have:=b.ok;unfold Hp.ok at this;rw[jC]at this;exact this.1
theorem Bok.len{w:World}{v:Value}{h:Hp}(b:Bok w v h):oB h.p h.c h.m<=(h.xs.length:Int):=by
 have:=b.ok;unfold Hp.ok at this;rw[jC,decide_eq_true_eq]at this;exact this.2
theorem Bok.bd{w:World}{v:Value}{h:Hp}(b:Bok w v h):(1<=h.p/\h.p<=64)/\(1<=h.c/\h.c<=12)/\(0<=h.m/\h.m<=8)/\h.c+h.p+h.p*16+h.c*h.m<=(h.xs.length:Int):=by
 have h1:=LA.1 b.may;have h2:=b.len;unfold oB at h2;rw[jP b.may]at h2;omega
theorem Bok.word{w:World}{v:Value}{h:Hp}(b:Bok w v h)(i:Int)(h0:0<=i)(h1:i<(h.xs.length:Int)):∃ g f cap,∃ k:Nat,v= .slice (some ⟨g,f,.none⟩) h.xs.length cap/\h.xs.length<=cap/\g<w.heap.size/\i=(k:Int)/\k<h.xs.length/\w.cell? ⟨g,f+k,.none⟩=some (.int .u64 (wd h.xs i)):=by
 obtain⟨ao,cap,e,j,m,l⟩:=b.rd.cells;obtain⟨g,f,rfl,n,hc⟩:=l (fun e=>by rw[e]at h1;simp at h1;omega);refine⟨g,f,cap,i.toNat,e,j,n,by omega,by omega,?_⟩;rw[hc i.toNat (by omega),ZY h0 h1]
theorem PG(h:Hp)(v:Value)(a:Int)(w:World)(b:Bok w v h)(ha:0<=a/\a<h.p):
  Calls Tryz.prog 74 #[XE h v,a] w fun e w'=>e= .returned (.tuple #[.agg #[.int .i64 (h.pk a),.int .i64 (h.pa a),.int .i64 (h.pn a)],.bool (h.pb a)])/\Below w.heap.size w w':=by
 obtain⟨b1,b2,b3,b4⟩:=b.bd;have b0:=NE (c:=h.c) (m:=h.m) (C:=12) (M:=8) (by omega) (by omega);have F:pA h.p h.c h.m a=h.c+a:=by unfold pA;rw[jP ⟨b.may,IA.2 (by omega)⟩]
 obtain⟨g,i,cap,k,rfl,T,hg,U,b8,hc⟩:=b.word (h.c+a) (by omega) (by omega);have N:=h.QK b.fit (h.c+a);have q:=EB h.p h.c h.m a;rw[F,U]at q;have j:=fun w=>oU h.p h.c h.m a (h.pw a) w N.1 N.2;have r:(if MA h.p h.c h.m a (h.pw a)=true then #[.int .i64 (PA (h.pw a)),.int .i64 (nA (h.pw a) 0),.int .i64 (nA (h.pw a) 1)] else #[.int .i64 0,.int .i64 0,.int .i64 0]:Array Value)= #[.int .i64 (h.pk a),.int .i64 (h.pa a),.int .i64 (h.pn a)]:=by unfold Hp.pk Hp.pa Hp.pn;show (if h.pb a=true then _ else _)=_;cases h.pb a<;>rfl
 rw[r]at j;replace j:∀ w,jK 111 #[.agg #[h.p,h.c,h.m],a,.int .u64 (h.pw a)] w fun e w'=>Below w.heap.size w w'/\e= .returned (.tuple #[.agg #[.int .i64 (h.pk a),.int .i64 (h.pa a),.int .i64 (h.pn a)],.bool (h.pb a)]):=j;have V:wd h.xs (h.c+a)=h.pw a:=rfl;rw[V]at hc;generalize h.pw a=x at *;generalize h.pk a=k1 at *;generalize h.pa a=k2 at *;generalize h.pn a=k3 at *;generalize h.pb a=k4 at *;generalize h.xs.length=n at *;replace q:=hd' q;replace j:=hd' j;have b6:(0:Int)<=(k:Int):=by omega
 have b7:(k:Int)<(n:Int):=by omega
 clear r F U b N V;go_in;go_upto_region 1 with fail;obtain⟨z,y,L,s⟩:=PD w (.cells #[h.p,h.c,h.m,.slice (some ⟨g,i,.none⟩) n cap] 115) (.cells #[.int .i64 0,.int .i64 0,.int .i64 0] 136);replace hc:=iA s _ _ _ hc;generalize (w.alloc (.cells #[h.p,h.c,h.m,.slice (some ⟨g,i,.none⟩) n cap] 115)).alloc (.cells #[.int .i64 0,.int .i64 0,.int .i64 0] 136)=W at *;obtain⟨H,hH,B⟩:=hidv w.heap.size;rw[<-B]at z y L s ⊢;have b5:H+1≠g:=by omega
 clear B;have c0:W.cell? ⟨H,0,.none⟩=some (.int .i64 h.p):=kA z 0;have c1:W.cell? ⟨H,1,.none⟩=some (.int .i64 h.c):=kA z 1;have c2:W.cell? ⟨H,2,.none⟩=some (.int .i64 h.m):=kA z 2;have c3:W.cell? ⟨H,3,.none⟩=some (.slice (some ⟨g,i,.none⟩) n cap):=kA z 3;have r0:=kA y 0;have r1:=kA y 1;have r2:=kA y 2;have X:=GA y;have l0:H<W.heap.size:=by omega
 have l1:H+1<W.heap.size:=by omega
 have I:∀ Y,jW W Y->Y.cell? ⟨H,0,.none⟩=some (.int .i64 h.p)/\Y.cell? ⟨H,1,.none⟩=some (.int .i64 h.c)/\Y.cell? ⟨H,2,.none⟩=some (.int .i64 h.m)/\Y.cell? ⟨H,3,.none⟩=some (.slice (some ⟨g,i,.none⟩) n cap)/\Y.cell? ⟨g,i+k,.none⟩=some (.int .u64 x):=fun Y hb=>⟨iA hb _ _ _ c0,iA hb _ _ _ c1,iA hb _ _ _ c2,iA hb _ _ _ c3,iA hb _ _ _ hc⟩;replace I:=hd' I;have J:Below W.heap.size W W.drew:=br.drew
 go_region_held3 (fun Y=>Y.cell? ⟨H,0,.none⟩=some (.int .i64 h.p)/\Y.cell? ⟨H,1,.none⟩=some (.int .i64 h.c)/\Y.cell? ⟨H,2,.none⟩=some (.int .i64 h.m)/\Y.cell? ⟨H,3,.none⟩=some (.slice (some ⟨g,i,.none⟩) n cap)/\Y.cell? ⟨g,i+k,.none⟩=some (.int .u64 x))
  (first|go_keep|exact I _ (by assumption))
  (first|(go_at_call 112;refine(q _).mono ?_;rintro e w1 ⟨rfl,hb⟩;have D:=J.trans (hb.mono lr);have E:=D.size)|(go_at_call 111;refine(j _).mono ?_;rintro e w2 ⟨hb,rfl⟩;have l:=D.trans (hb.mono E);have O:=iA l _ _ _ r0;have R:=iA l _ _ _ r1;have S:=iA l _ _ _ r2;have Z:=fun o=>(VC l (H+1) o l1).trans (X o);have G:=s.trans (l.mono (by omega))))
 go_wp2;exact bodyPost_ret (v:= .tuple #[.agg #[k1,k2,k3],k4]) (by simp[results,Tryz.results74,go_sem,O,R,S]) rfl ⟨rfl,by rw[<-hH];exact(((G.setCell (by simp) _).setCell (by simp) _).setCell (by simp) _)⟩
theorem lJ(h:Hp)(v:Value)(a i:Int)(w:World)(b:Bok w v h)(ha:0<=a/\a<h.p)(hi:0<=i/\i<16):
  Calls Tryz.prog 76 #[XE h v,a,i] w fun e w'=>e= .returned (.agg #[.int .i64 (h.sk a i),.int .i64 (h.sa a i)])/\Below w.heap.size w w':=by
 obtain⟨b1,b2,b3,b4⟩:=b.bd;have b0:=NE (c:=h.c) (m:=h.m) (C:=12) (M:=8) (by omega) (by omega);have F:XA h.p h.c h.m a i=h.c+h.p+a*16+i:=by unfold XA;rw[jP ⟨b.may,IA.2 (by omega),IA.2 (by omega)⟩]
 obtain⟨g,j,cap,k,rfl,T,hg,U,b8,hc⟩:=b.word (h.c+h.p+a*16+i) (by omega) (by omega);have O:=h.QK b.fit (h.c+h.p+a*16+i);have r:=oE h.p h.c h.m a i;rw[F,U]at r;have l:=fun w=>zso (h.sw a i) w O.1 O.2;have s:(if NF (h.sw a i)=true then #[.int .i64 (PA (h.sw a i)),.int .i64 (nA (h.sw a i) 0)] else #[.int .i64 0,.int .i64 0]:Array Value)= #[.int .i64 (h.sk a i),.int .i64 (h.sa a i)]:=by unfold Hp.sk Hp.sa;cases NF (h.sw a i)<;>rfl
 rw[s]at l;replace l:∀ w,jK 113 #[.int .u64 (h.sw a i)] w fun e w'=>Below w.heap.size w w'/\e= .returned (.agg #[.int .i64 (h.sk a i),.int .i64 (h.sa a i)]):=l;have V:wd h.xs (h.c+h.p+a*16+i)=h.sw a i:=rfl;rw[V]at hc;generalize h.sw a i=x at *;generalize h.sk a i=k1 at *;generalize h.sa a i=k2 at *;generalize h.xs.length=n at *;replace r:=hd' r;replace l:=hd' l;have b6:(0:Int)<=(k:Int):=by omega
 have b7:(k:Int)<(n:Int):=by omega
 clear s F U b O V;go_in;go_upto_region 1 with fail;obtain⟨z,G,N,y⟩:=PD w (.cells #[h.p,h.c,h.m,.slice (some ⟨g,j,.none⟩) n cap] 115) (.cells #[.int .i64 0,.int .i64 0] 139);replace hc:=iA y _ _ _ hc;generalize (w.alloc (.cells #[h.p,h.c,h.m,.slice (some ⟨g,j,.none⟩) n cap] 115)).alloc (.cells #[.int .i64 0,.int .i64 0] 139)=W at *;obtain⟨H,hH,B⟩:=hidv w.heap.size;rw[<-B]at z G N y ⊢;have b5:H+1≠g:=by omega
 clear B;have c0:W.cell? ⟨H,0,.none⟩=some (.int .i64 h.p):=kA z 0;have c1:W.cell? ⟨H,1,.none⟩=some (.int .i64 h.c):=kA z 1;have c2:W.cell? ⟨H,2,.none⟩=some (.int .i64 h.m):=kA z 2;have c3:W.cell? ⟨H,3,.none⟩=some (.slice (some ⟨g,j,.none⟩) n cap):=kA z 3;have r0:=kA G 0;have r1:=kA G 1;have X:=GA G;have l0:H<W.heap.size:=by omega
 have l1:H+1<W.heap.size:=by omega
 have J:∀ Y,jW W Y->Y.cell? ⟨H,0,.none⟩=some (.int .i64 h.p)/\Y.cell? ⟨H,1,.none⟩=some (.int .i64 h.c)/\Y.cell? ⟨H,2,.none⟩=some (.int .i64 h.m)/\Y.cell? ⟨H,3,.none⟩=some (.slice (some ⟨g,j,.none⟩) n cap)/\Y.cell? ⟨g,j+k,.none⟩=some (.int .u64 x):=fun Y hb=>⟨iA hb _ _ _ c0,iA hb _ _ _ c1,iA hb _ _ _ c2,iA hb _ _ _ c3,iA hb _ _ _ hc⟩;replace J:=hd' J;have L:Below W.heap.size W W.drew:=br.drew
 go_region_held3 (fun Y=>Y.cell? ⟨H,0,.none⟩=some (.int .i64 h.p)/\Y.cell? ⟨H,1,.none⟩=some (.int .i64 h.c)/\Y.cell? ⟨H,2,.none⟩=some (.int .i64 h.m)/\Y.cell? ⟨H,3,.none⟩=some (.slice (some ⟨g,j,.none⟩) n cap)/\Y.cell? ⟨g,j+k,.none⟩=some (.int .u64 x))
  (first|go_keep|exact J _ (by assumption))
  (first|(go_at_call 114;refine(r _).mono ?_;rintro e w1 ⟨rfl,hb⟩;have D:=L.trans (hb.mono lr);have E:=D.size)|(go_at_call 113;refine(l _).mono ?_;rintro e w2 ⟨hb,rfl⟩;have q:=D.trans (hb.mono E);have R:=iA q _ _ _ r0;have S:=iA q _ _ _ r1;have Z:=fun o=>(VC q (H+1) o l1).trans (X o);have I:=y.trans (q.mono (by omega))))
 go_wp2;exact bodyPost_ret (v:= .agg #[k1,k2]) (by simp[results,Tryz.results76,go_sem,R,S]) rfl ⟨rfl,by rw[<-hH];exact((I.setCell (by simp) _).setCell (by simp) _)⟩
end

section

open Go.RowKit

attribute [local go_sem ↓] Go.wp_at_zero Go.wp_at_succ

theorem iL(a b:Int)(w:World):(Instr.field 139 (.agg #[a,b]) 0).run Tryz.prog w= .ok (.int .i64 a) w:=by kernel_rfl
theorem fL(a b:Int)(w:World):(Instr.field 139 (.agg #[a,b]) 1).run Tryz.prog w= .ok (.int .i64 b) w:=by kernel_rfl
attribute [local go_sem ↓] iL fL

theorem GW(h:Hp)(v:Value)(x:Int)(w:World)(b:Bok w v h):
  Calls Tryz.prog 84 #[XE h v,x] w fun e w'=>e= .returned (.bool (h.lv x))/\Below w.heap.size w w':=by
 obtain⟨V,X,Y,Z⟩:=b.bd;have J:=NE (c:=h.c) (m:=h.m) (C:=12) (M:=8) (by omega) (by omega);have j:=kC h.p h.c h.m x;by_cases H:0<=x/\x<=h.c-1
 ·have q:wi x 0 (h.c-1)=true:=IA.2 H;have r:zA h.p h.c h.m x=x:=by unfold zA;rw[jP ⟨b.may,q⟩]
  have s:h.lv x=YM (wd h.xs x):=by unfold Hp.lv;rw[b.may,q];rfl
  obtain⟨g,D,cap,k,rfl,G,hg,L,R,hc⟩:=b.word x (by omega) (by omega);have F:=h.QK b.fit x;have i:=fun w=>AO (wd h.xs x) w F.1 F.2;rw[s];rw[r]at j;unfold YM;subst L;generalize wd h.xs (k:Int)=z at *;generalize PA z=k1 at *;generalize nA z 0=I at *;generalize h.xs.length=n at *;have N:(0:Int)<=(k:Int):=by omega
  have O:(k:Int)<(n:Int):=by omega
  have S:g≠w.heap.size:=by omega
  clear r s F b q;rcases jB (WA k1 I==z) with hs|hs
  ·rw[hs]at i ⊢;replace i:∀ w,jK 101 #[.int .u64 z] w fun e w'=>Below w.heap.size w w'/\e= .returned (.tuple #[k1,I]):=i;clear hs;replace i:=hd' i;replace j:=hd' j;go_in;go_wp2_with fail;refine(j _).mono ?_;rintro e E ⟨rfl,o⟩;have l:Below w.heap.size w E:=((Below.refl w.heap.size w).alloc lr _).trans (o.mono (by simp));have T:=iA o _ _ _ (kA (jA w (.cells #[h.p,h.c,h.m,.slice (some ⟨g,D,.none⟩) n cap] 115)) 3);have q1:=iA l _ _ _ hc;go_wp2_with fail;refine(i _).mono ?_;rintro e U ⟨B,rfl⟩;have y:=l.trans (B.mono l.size);go_wp2;go_ret;exact⟨by rw[Bool.true_and];rfl,y⟩
  rw[hs]at i ⊢;replace i:∀ w,jK 101 #[.int .u64 z] w fun e w'=>Below w.heap.size w w'/\e= .returned (.tuple #[.int .i64 0,.int .i64 0]):=i;clear hs;replace i:=hd' i;replace j:=hd' j;go_in;go_wp2_with fail;refine(j _).mono ?_;rintro e E ⟨rfl,o⟩;have l:Below w.heap.size w E:=((Below.refl w.heap.size w).alloc lr _).trans (o.mono (by simp));have T:=iA o _ _ _ (kA (jA w (.cells #[h.p,h.c,h.m,.slice (some ⟨g,D,.none⟩) n cap] 115)) 3);have q1:=iA l _ _ _ hc;go_wp2_with fail;refine(i _).mono ?_;rintro e U ⟨B,rfl⟩;have y:=l.trans (B.mono l.size);go_wp2;go_ret;exact⟨rfl,y⟩
 have q:wi x 0 (h.c-1)=false:=qG.2 H;have r:zA h.p h.c h.m x= -1:=by unfold zA;rw[jN (fun h=>by rw[q]at h;exact Bool.false_ne_true h.2)]
 have s:h.lv x=false:=by unfold Hp.lv;rw[q,Bool.and_false];rfl
 rw[s];rw[r]at j;replace j:=hd' j;clear r s q;go_in;go_wp2_with fail;refine(j _).mono ?_;rintro e E ⟨rfl,o⟩;have l:Below w.heap.size w E:=((Below.refl w.heap.size w).alloc lr _).trans (o.mono (by simp));go_wp2;go_ret;exact⟨rfl,l⟩
theorem zy8(h:Hp)(v:Value)(a:Int)(w:World)(b:Bok w v h)(L:0<=a/\a<h.p):
  Calls Tryz.prog 82 #[XE h v,a] w fun e w'=>e= .returned (.tuple #[.int .i64 (h.hc a),.bool (h.hb a)])/\Below w.heap.size w w':=by
 have z:=Hp.yfx (h:=h) L.1 L.2;have i:=fun X J=>PG h v a X (b.below J) L;have s:=fun X J=>PG h v (h.hd a) X (b.below J) z;have G:h.hc a=if h.hb a=true then h.pa (h.hd a) else 0:=rfl;have H:h.hb a=(h.pb (h.hd a)&&h.pk (h.hd a)==1):=rfl;by_cases h4:(h.pb a&&h.pk a==4)=true
 ·have E:h.hd a=h.pa a:=by unfold Hp.hd;rw[jP h4]
  rw[G,H];rw[E]at s ⊢;have o:=h4;rw[jC,beq_iff_eq]at o;rw[o.1,o.2]at i;generalize h.pa a=q at *;generalize h.pn a=q' at *;generalize h.pk q=k1 at *;generalize h.pa q=R at *;generalize h.pn q=S at *;generalize h.pb q=Y at *;replace i:=hd' i;replace s:=hd' s;clear G H E h4 o z b;have M:=jB Y;have C:=Decidable.em (k1=1);rcases M with rfl|rfl<;>rcases C with B|B <;>
  ·first
    |(have l:(k1==1)=true:=by rw[beq_iff_eq];exact B)
    |(have l:(k1==1)=false:=by rw[beq_eq_false_iff_ne];exact B)
   rw[l];replace l:=hd' l;go_in;go_wp2_with fail;refine(i _ (br.alloc lr _)).mono ?_;rintro e y ⟨rfl,n⟩;have j:Below w.heap.size w y:=((Below.refl w.heap.size w).alloc lr _).trans (n.mono (by simp));have g0:=(n.block _ (by simp)).trans (jA w (.cells #[h.p,h.c,h.m,v] 115));have r:Below w.heap.size w (y.alloc (.cells #[.int .i64 4,q,q'] 136)):=j.alloc j.size _;have hz:=j.size;have N:=jA y (.cells #[.int .i64 4,q,q'] 136);have V:=(jE g0);have c0:=kA g0 0;have c1:=kA g0 1;have c2:=kA g0 2;have c3:=kA g0 3;go_wp2_with fail;refine(s _ r).mono ?_;rintro e Z ⟨rfl,F⟩;have D:=(F.block _ (by simp)).trans N;have I:=r.trans (F.mono r.size);have O:y.heap.size<Z.heap.size:=(jE D);have p0:=kA D 0;have p1:=kA D 1;have p2:=kA D 2;have fP:=GA D;clear g0 N D;go_wp2;go_ret2;exact⟨rfl,((I.setCell (by simp;omega) _).setCell (by simp;omega) _).setCell (by simp;omega) _⟩
 have E:h.hd a=a:=by unfold Hp.hd;rw[jN h4]
 rw[G,H];rw[E];have o:h.pb a=false\/(h.pb a=true/\h.pk a≠4):=by
  rcases jB (h.pb a) with h|h
  ·right;refine⟨h,fun e=>h4 ?_⟩;rw[h,e];rfl
  exact .inl h
 clear G H E h4 z s b;generalize h.pk a=k1 at *;generalize h.pa a=R at *;generalize h.pn a=S at *;rcases o with o|⟨o,T⟩
 ·rw[o]at i ⊢;replace i:=hd' i;clear o;go_in;go_wp2_with fail;refine(i _ (br.alloc lr _)).mono ?_;rintro e y ⟨rfl,n⟩;have j:Below w.heap.size w y:=((Below.refl w.heap.size w).alloc lr _).trans (n.mono (by simp));have r:Below w.heap.size w (y.alloc (.cells #[k1,R,S] 136)):=j.alloc j.size _;go_wp2;go_ret2;exact⟨rfl,r⟩
 rw[o]at i ⊢;replace i:=hd' i;clear o;have U:(k1==4)=false:=by rw[beq_eq_false_iff_ne];exact T
 have C:=Decidable.em (k1=1);rcases C with B|B <;>
 ·first
   |(have l:(k1==1)=true:=by rw[beq_iff_eq];exact B)
   |(have l:(k1==1)=false:=by rw[beq_eq_false_iff_ne];exact B)
  rw[l];replace l:=hd' l;go_in;go_wp2_with fail;refine(i _ (br.alloc lr _)).mono ?_;rintro e y ⟨rfl,n⟩;have j:Below w.heap.size w y:=((Below.refl w.heap.size w).alloc lr _).trans (n.mono (by simp));go_wp2;go_ret2;exact⟨rfl,j.alloc j.size _⟩
end

section

open Go.RowKit

attribute [local go_sem ↓] Go.wp_at_zero Go.wp_at_succ

theorem yop(h:Hp)(v:Value)(c x:Int)(w:World)(b:Bok w v h)(b7:0<=x)(b8:x<18446744073709551616)(hr:JC h.p h.c h.m x=true)(gk:h.pk (nA x 0)=2)(ga:h.pa (nA x 0)=nA x 2)(gs:h.sk (nA x 0) (nA x 1)=2)(gc:h.sa (nA x 0) (nA x 1)=c):
  Calls Tryz.prog 119 #[XE h v,c,.int .u64 x] w fun e w'=>e= .returned (.tuple #[.agg #[.int .i64 (nA x 0),.int .i64 (nA x 1),.int .i64 (nA x 2)],.bool true])/\Below w.heap.size w w':=by
 obtain⟨b1,_,_,_⟩:=b.bd;obtain⟨ao,cap,hv,_,_,_⟩:=b.rd.cells;generalize h.xs.length=m at hv;subst hv;have o:=fun X=>wV h.p h.c h.m x X b7 b8;have G:=fun q X (L:Below w.heap.size w X) hq=>PG h (.slice ao m cap) q X (b.below L) hq;have I:=fun q i X (L:Below w.heap.size w X) hq hi=>lJ h (.slice ao m cap) q i X (b.below L) hq hi;have b6:(0<=nA x 0/\nA x 0<h.p)/\(0<=nA x 1/\nA x 1<16):=by unfold JC at hr;simp only[jC,decide_eq_true_eq]at hr;have h1:=IA.1 (OO hr.1.2).2;have h2:=CC (nA x 2);have h3:=nH x 1;omega
 rw[hr]at o;clear hr;generalize nA x 0=y at *;generalize nA x 1=J at *;generalize nA x 2=r at *;replace G:=hd' G;replace I:=hd' I;clear b;obtain⟨t1,t2,t3,t4⟩:=PD w (.cells #[h.p,h.c,h.m,.slice ao m cap] 115) (.cells #[.int .i64 0,.int .i64 0,.int .i64 0] 183);replace o:∀ X,jK 142 #[.agg #[h.p,h.c,h.m],.int .u64 x] X fun e w'=>Below X.heap.size X w'/\e= .returned (.tuple #[.agg #[y,J,r],.bool true]):=o;replace o:=hd' o;obtain⟨M,b5⟩:=b6;have z:=fun X L=>G y X L M;have B:=fun X L=>I y J X L M b5;rw[gk,ga]at z;rw[gs,gc]at B;clear gk ga gs gc;generalize h.pn y=pn at *;generalize h.pb y=pb at *;replace z:=hd' z;replace B:=hd' B;go_in;go_wp2_with fail;refine(o _).mono ?_;rintro e w1 ⟨D,rfl⟩;have l:=D.alloc D.size (.cells #[y,J,r] 183);have O:=(l.block _ (by rw[t3];omega)).trans t1;have s:=(l.block _ (by rw[t3];omega)).trans t2;have T:=t4.trans (l.mono t4.size);have N:=jA w1 (.cells #[y,J,r] 183);go_upto_region 2 with fail;obtain⟨H,hH,b0⟩:=hidv w.heap.size;rw[<-b0]at O s ⊢;have hR:w.heap.size<=H+1:=by omega
 have b3:H+1<w1.heap.size:=by have:=D.size;omega
 clear b0 t1 t2 t3 t4 D l;generalize w1.heap.size=E at N b3 ⊢;generalize w1.alloc (.cells #[y,J,r] 183)=W at *;generalize H+1=R at *;have lR:=(jE s);have lE:=(jE N);have c0:W.cell? ⟨H,0,.none⟩=some (.int .i64 h.p):=kA O 0;have c1:W.cell? ⟨H,1,.none⟩=some (.int .i64 h.c):=kA O 1;have c2:W.cell? ⟨H,2,.none⟩=some (.int .i64 h.m):=kA O 2;have c3:W.cell? ⟨H,3,.none⟩=some (.slice ao m cap):=kA O 3;have E0:W.cell? ⟨E,0,.none⟩=some (.int .i64 y):=kA N 0;have E1:W.cell? ⟨E,1,.none⟩=some (.int .i64 J):=kA N 1;have E2:W.cell? ⟨E,2,.none⟩=some (.int .i64 r):=kA N 2;clear O N;go_wp2_with fail;refine(z _ T).mono ?_;rintro e w2 ⟨rfl,l⟩;have j:=l.alloc l.size (.cells #[.int .i64 2,r,pn] 136);have S:=jA w2 (.cells #[.int .i64 2,r,pn] 136);have C:=T.trans (j.mono T.size);have s:=(j.block _ lR).trans s;have b2:R<w2.heap.size/\E<w2.heap.size:=by have:=l.size;omega
 have c0:=iA j _ _ _ c0;have c1:=iA j _ _ _ c1;have c2:=iA j _ _ _ c2;have c3:=iA j _ _ _ c3;have E0:=iA j _ _ _ E0;have E1:=iA j _ _ _ E1;have E2:=iA j _ _ _ E2;go_upto_region 5 with fail;generalize w2.heap.size=P at S b2 ⊢;generalize w2.alloc (.cells #[.int .i64 2,r,pn] 136)=V at *;have P0:V.cell? ⟨P,0,.none⟩=some (.int .i64 2):=kA S 0;have P1:V.cell? ⟨P,1,.none⟩=some (.int .i64 r):=kA S 1;have lP:=(jE S);clear l j S;go_wp2_with fail;refine(B _ C).mono ?_;rintro e w3 ⟨rfl,F⟩;have n:=F.alloc F.size (.cells #[.int .i64 2,c] 139);have g3:=jA w3 (.cells #[.int .i64 2,c] 139);have Z:=C.trans (n.mono C.size);have s:=(n.block _ (jE s)).trans s;have b4:R<w3.heap.size:=by have:=F.size;have:=(Array.getElem?_eq_some_iff.1 ‹V.heap[R]?=_›).1;omega
 have E0:=iA n _ _ _ E0;have E1:=iA n _ _ _ E1;have E2:=iA n _ _ _ E2;have P0:=iA n _ _ _ P0;have P1:=iA n _ _ _ P1;go_upto_region 6 with fail;generalize w3.heap.size=Y at g3 b4 ⊢;generalize w3.alloc (.cells #[.int .i64 2,c] 139)=U at *;have b9:=kA g3;have r0:U.cell? ⟨R,0,.none⟩=some (.int .i64 0):=kA s 0;have r1:U.cell? ⟨R,1,.none⟩=some (.int .i64 0):=kA s 1;have r2:U.cell? ⟨R,2,.none⟩=some (.int .i64 0):=kA s 2;have fR:=GA s;have nE:R≠E:=by omega
 have nP:R≠P:=by omega
 have nY:R≠Y:=by omega
 have T:=Z;clear F n g3 s C Z lR lE lP b3 b2 b4 c0 c1 c2 c3 G I z B o M b5;go_region_held3 (fun X=>X.cell? ⟨E,0,.none⟩=some (.int .i64 y)/\X.cell? ⟨E,1,.none⟩=some (.int .i64 J)/\X.cell? ⟨E,2,.none⟩=some (.int .i64 r)/\X.cell? ⟨P,0,.none⟩=some (.int .i64 2)/\X.cell? ⟨P,1,.none⟩=some (.int .i64 r)/\X.cell? ⟨Y,0,.none⟩=some (.int .i64 2)/\X.cell? ⟨Y,1,.none⟩=some (.int .i64 c)) (go_keep) (fail);go_wp2;exact bodyPost_ret (v:= .tuple #[.agg #[y,J,r],.bool true]) (by simp[results,Tryz.results119,go_sem,r0,r1,r2]) rfl ⟨rfl,(((T.setCell hR _).setCell hR _).setCell hR _).drew⟩
end

end Go.Proofs.YtkilokkopbajkaaGreat
