/- Lemmas for the claim. -/
import Derived.Test.YtmmbicppdjgbmaaGreatBw30

set_option linter.all false
set_option maxHeartbeats 8000000
set_option maxRecDepth 100000
namespace Go.Proofs.YtmmbicppdjgbmaaGreat

section

open Go.RowKit

theorem zso(x:Int)(w:World)(h0:0<=x)(h1:x<18446744073709551616):
  Calls Tryz.prog 121 #[.int .u64 x] w fun e w'=>Below w.heap.size w w'/\
   e= .returned (.agg (if LF x=true then #[.int .i64 (PA x),.int .i64 (nA x 0)] else #[.int .i64 0,.int .i64 0])):=by
 generalize y:PA x=k at *;generalize r:nA x 0=A at *;have j:LF x=(pB k A==x):=by rw[LF,y,r]
 have i:∀ w,jK 93 #[.int .u64 x] w fun e w'=>e= .returned (.int .i64 k)/\w'=w:=fun w=>y ▸ VP x w h0 h1;have n:∀ w,jK 94 #[.int .u64 x,.int .i64 0] w fun e w'=>e= .returned (.int .i64 A)/\w'=w:=fun w=>r ▸ BG x 0 w h0 h1 (by omega);clear y r;cases hrb:LF x;all_goals
  rw[hrb]at j;replace j:=j.symm;first|rw[jP rfl]|rw[jN Bool.false_ne_true]
  clear hrb;go_in;go_upto_region 2 with(first|(go_at_call 93;refine(i _).mono ?_;rintro e o ⟨rfl,rfl⟩)|(go_at_call 94;refine(n _).mono ?_;rintro e o ⟨rfl,rfl⟩));clear i n;obtain⟨p,z,F,l⟩:=MD w (.cells #[.int .i64 0,.int .i64 0] 168) (.cells #[k,A] 168);generalize ((w.alloc (.cells #[.int .i64 0,.int .i64 0] 168)).alloc (.cells #[k,A] 168))=W at *;generalize D:w.heap.size=H at *;have B:=iA p;have C:=DA p;have G:=iA z;have E:H<W.heap.size:=by omega
  have I:H+1<W.heap.size:=by omega
  clear p z
 ·have q:(pB k A !=x)=true:=by simpa using j
  clear j;go_wp2_with (go_at_call 148;refine(gE _ _ _).mono ?_;rintro e o ⟨rfl,hb⟩;have hc:=uE hb;have s:=VC hb);have b:Below H w o:=l.trans (hb.mono (by omega));have m:=b;rw[<-D]at b;refine bodyPost_ret (v:= .agg #[.int .i64 0,.int .i64 0]) (by simp[results,Tryz.results121,go_sem,hc,s,B,C,E]) rfl ⟨?_,rfl⟩;go_grown
 have q:(pB k A !=x)=false:=by simpa using j
 clear j;go_wp2_with (go_at_call 148;refine(gE _ _ _).mono ?_;rintro e o ⟨rfl,hb⟩;have hc:=uE hb;have s:=VC hb);have b:Below H w o:=l.trans (hb.mono (by omega));have m:=b;rw[<-D]at b;refine bodyPost_ret (v:= .agg #[k,A]) (by simp[results,Tryz.results121,go_sem,hc,s,B,C,E]) rfl ⟨?_,rfl⟩;go_grown
end

section

open Go.RowKit Go.ChangeShapes Go.WideShapes Go.ChangeAt

section

variable {H:Type} {enc:TypeId × Value->H} {P:Program} {w:World}

def RdZ (k:IntKind) (w:World) (v:Value) (zs:List Int):Prop:=RdS w 1 v zs.length (zs.map (.int k))
end

theorem RdZ.cells{k:IntKind}{w:World}{v:Value}{zs:List Int}(h:RdZ k w v zs):∃ ao cap,v= .slice ao zs.length cap/\zs.length<=cap/\(cap:Int)<=9223372036854775807/\(zs≠ []->∃ b off,ao=some ⟨b,off,.none⟩/\b<w.heap.size/\∀ i (hi:i<zs.length),w.cell? ⟨b,off+i,.none⟩=some (.int k zs[i])):=by
 obtain⟨ao,cap,e,h1,h2,_,h4⟩:=h;refine⟨ao,cap,e,h1,h2,fun l=>?_⟩;obtain⟨b,off,j,f,hc⟩:=h4 (fun h=>l (List.eq_nil_of_length_eq_zero h));refine⟨b,off,j,f,fun i hi=>(hc i (by omega)).trans ?_⟩;simp[hi]
theorem RdZ.below{k:IntKind}{w w':World}{v:Value}{zs:List Int}(h:RdZ k w v zs)(hb:Below w.heap.size w w'):RdZ k w' v zs:=RdS.below h hb
end

section

open Go.RowKit

attribute [local go_sem ↓] Go.wp_at_zero Go.wp_at_succ

theorem GX{F:Nat->Prop}{w:World}{q:Nat}{s:Sh}{k:Kl}(h:KlO F w q s k):Calls Tryz.prog 45 #[some q] w fun e w'=>e= .returned (.bool k.rests)/\w'=w:=by
 have b:=hd' h.rests;clear h;have j:∀ W:World,(binOp .neq 80 (.pointer (some ⟨q,0,.none⟩)) (.pointer none)).run Tryz.prog W= .ok (.bool true) W:=fun W=>by kernel_rfl
 generalize k.rests=r at *;go_in;go_wp2_with (go_at_call 65;(with_reducible refine b.out.mono ?_);rintro r l ⟨rfl,i⟩;obtain rfl:=i.symm);go_returns;exact⟨rfl,rfl⟩
end

section

structure Hp where
 p:Int
 c:Int
 m:Int
 xs:List Int
theorem XY{xs:List Int}{i:Int}(h0:0<=i)(h1:i<xs.length):wd xs i=xs[i.toNat]'(by omega):=by
 unfold wd;rw[List.getD_eq_getElem?_getD,List.getElem?_eq_getElem (by omega)];rfl
def Hp.ok (h:Hp):Bool:=mayB h.p h.c h.m && decide (EB h.p h.c h.m<=(h.xs.length:Int))
def Hp.pw (h:Hp) (a:Int):Int:=wd h.xs (h.c + a)
def Hp.pb (h:Hp) (a:Int):Bool:=MA h.p h.c h.m a (h.pw a)
def Hp.pk (h:Hp) (a:Int):Int:=if h.pb a=true then PA (h.pw a) else 0
def Hp.pa (h:Hp) (a:Int):Int:=if h.pb a=true then nA (h.pw a) 0 else 0
def Hp.pn (h:Hp) (a:Int):Int:=if h.pb a=true then nA (h.pw a) 1 else 0
def Hp.sw (h:Hp) (a i:Int):Int:=wd h.xs (h.c + h.p + a * 16 + i)
def Hp.sk (h:Hp) (a i:Int):Int:=if LF (h.sw a i)=true then PA (h.sw a i) else 0
def Hp.sa (h:Hp) (a i:Int):Int:=if LF (h.sw a i)=true then nA (h.sw a i) 0 else 0
def Hp.hd (h:Hp) (a:Int):Int:=if (h.pb a && h.pk a==4)=true then h.pa a else a
def Hp.hb (h:Hp) (a:Int):Bool:=h.pb (h.hd a) && h.pk (h.hd a)==1
def Hp.hc (h:Hp) (a:Int):Int:=if h.hb a=true then h.pa (h.hd a) else 0
def YM (x:Int):Bool:=YA (PA x) (nA x 0)==x && PA x==1
def Hp.lv (h:Hp) (x:Int):Bool:=mayB h.p h.c h.m && wi x 0 (h.c - 1) && YM (wd h.xs x)
def Hp.op (h:Hp) (a:Int):Nat->Bool
 | 0=> true
 | i + 1=> h.op a i && h.sk a i==1
def Hp.fr (h:Hp) (a:Int):Bool:=if (h.pb a && h.pk a==2)=true then h.op a (mA (h.pa a)).toNat else h.pb a && h.pk a==0
def Hp.rw (h:Hp):Nat->Nat
 | 0=> 0
 | k + 1=> if h.fr k=true then h.rw k + 1 else 0
def Hp.fit (h:Hp):Prop:=∀ x ∈ h.xs,0<=x/\x < 18446744073709551616
theorem Hp.JK{h:Hp}(b:h.fit)(i:Int):0<=wd h.xs i/\wd h.xs i<18446744073709551616:=by
 unfold wd;rw[List.getD_eq_getElem?_getD];rcases Nat.lt_or_ge i.toNat h.xs.length with h1|h1
 ·rw[List.getElem?_eq_getElem h1];exact b _ (List.getElem_mem h1)
 rw[List.getElem?_eq_none h1];exact⟨by decide,by decide⟩
theorem zpp{p c m a x:Int}(h:MA p c m a x=true):wE p c a (PA x) (nA x 0) (nA x 1)=true:=by
 unfold MA at h;simp only[jC]at h;exact h.2
theorem Hp.QP{h:Hp}{a:Int}(b:h.pb a=true):wE h.p h.c a (h.pk a) (h.pa a) (h.pn a)=true:=by
 unfold Hp.pk Hp.pa Hp.pn;rw[jP b,jP b,jP b];exact zpp b
theorem Hp.aJ(h:Hp)(a:Int):(0<=h.pk a/\h.pk a<=15)/\(0<=h.pa a/\h.pa a<=255)/\0<=h.pn a/\h.pn a<=255:=by
 unfold Hp.pk Hp.pa Hp.pn;have:=RW (h.pw a);have:=bH (h.pw a) 0;have:=bH (h.pw a) 1;split<;>simp_all
theorem Hp.KQ{h:Hp}{a:Int}(b:(h.pb a&&h.pk a==4)=true):h.pa a<a/\a-8<h.pa a/\0<=h.pa a:=by
 simp only[jC,beq_iff_eq]at b;have:=h.QP b.1;rw[b.2]at this;simp[wE]at this;exact⟨this.1,this.2,(h.aJ a).2.1.1⟩
theorem Hp.zN{h:Hp}{a:Int}(b:(h.pb a&&h.pk a==3)=true):1<=h.pa a/\h.pa a<=8/\h.pa a<=h.p-a:=by
 simp only[jC,beq_iff_eq]at b;have:=h.QP b.1;rw[b.2]at this;simp[wE]at this;omega
theorem Hp.pN{h:Hp}{a:Int}(b:(h.pb a&&h.pk a==2)=true):0<=h.pa a/\h.pa a<=3:=by
 simp only[jC,beq_iff_eq]at b;have:=h.QP b.1;rw[b.2]at this;simp[wE]at this;have:=(h.aJ a).2.1.1;omega
theorem Hp.yfx{h:Hp}{a:Int}(h0:0<=a)(h1:a<h.p):0<=h.hd a/\h.hd a<h.p:=by
 unfold Hp.hd;split
 ·rename_i b;have:=Hp.KQ b;omega
 exact⟨h0,h1⟩
end

section

open Go.RowKit

abbrev shV (h:Hp):Value:= .agg #[h.p,h.c,h.m]
abbrev DF (h:Hp) (v:Value):Value:= .agg #[h.p,h.c,h.m,v]
theorem vO(h:Hp)(v:Value)(w:World)(hr:RdZ .u64 w v h.xs):
  Calls Tryz.prog 50 #[shV h,v] w fun e w'=>e= .returned (.tuple #[DF h v,h.ok])/\Below w.heap.size w w':=by
 obtain⟨ao,cap,rfl,b3,b4,Z⟩:=hr.cells;clear Z hr;have B:h.ok=(mayB h.p h.c h.m&&decide (EB h.p h.c h.m<=(h.xs.length:Int))):=rfl;have E:=pC h.p h.c h.m;have M:=PV h.p h.c h.m;generalize h.xs.length=n at *;generalize EB h.p h.c h.m=T at *;generalize mayB h.p h.c h.m=mb at *;replace E:=hd' E;replace M:=hd' M;rcases jB mb with O|O;case inr=>
  subst O;rw[B];clear B;go_in;go_upto_region 1 with fail;obtain⟨y,j,F,s⟩:=MD w (.cells #[h.p,h.c,h.m] 23) (.cells #[.int .i64 0,.int .i64 0,.int .i64 0,.slice none 0 0] 107);generalize (w.alloc (.cells #[h.p,h.c,h.m] 23)).alloc (.cells #[.int .i64 0,.int .i64 0,.int .i64 0,.slice none 0 0] 107)=W at *;obtain⟨H,V,r⟩:=hidv w.heap.size;rw[<-r]at y j F s ⊢;clear r;have c0:=iA y 0;have c1:=iA y 1;have c2:=iA y 2;have r0:=iA j 0;have r1:=iA j 1;have r2:=iA j 2;have r3:=iA j 3;have f0:=DA j 0;have f1:=DA j 1;have f2:=DA j 2;have f3:=DA j 3;have l0:H<W.heap.size:=by omega
  have l1:H+1<W.heap.size:=by omega
  refine wp_region_held_drew (S:=fun X=>X.cell? ⟨H,0,.none⟩=some (.int .i64 h.p)/\X.cell? ⟨H,1,.none⟩=some (.int .i64 h.c)/\X.cell? ⟨H,2,.none⟩=some (.int .i64 h.m)) (by kernel_rfl) ⟨c0,c1,c2⟩ (fun hHeld=>?_);refine wpAnyH_take (i:=0) (v:= .agg #[h.p,h.c,h.m]) rfl (by kernel_rfl) (by kernel_rfl) (by kernel_rfl) (fun _ _ _ h=>h) (Or.inl ⟨by rfl,fun N ⟨R,q1,q2⟩=>by go_simp⟩) (by assumption) ?_;dsimp only[Act.put,List.getElem_toArray,List.getElem_cons_succ,List.getElem_cons_zero];simp only[List.setIfInBounds_toArray,List.set_cons_zero,List.set_cons_succ];refine wpAnyH_take (i:=1) (v:= .slice ao n cap) rfl (by kernel_rfl) (by kernel_rfl) (by kernel_rfl) (fun _ _ _ h=>h) (Or.inl ⟨by rfl,fun N ⟨R,q1,q2⟩=>by go_simp⟩) (by assumption) ?_;dsimp only[Act.put,List.getElem_toArray,List.getElem_cons_succ,List.getElem_cons_zero];simp only[List.setIfInBounds_toArray,List.set_cons_zero,List.set_cons_succ];refine wpAnyH_take (i:=2) (v:= .agg #[h.p,h.c,h.m,.slice ao n cap]) rfl (by kernel_rfl) (by kernel_rfl) (by kernel_rfl) (fun _ _ _ h=>h) (Or.inl ⟨by rfl,fun N ⟨R,q1,q2⟩=>by go_simp⟩) (by assumption) ?_;dsimp only[Act.put,List.getElem_toArray,List.getElem_cons_succ,List.getElem_cons_zero];simp only[List.setIfInBounds_toArray,List.set_cons_zero,List.set_cons_succ];refine wpAnyH_take (i:=3) (v:= .agg #[h.p,h.c,h.m]) rfl (by kernel_rfl) (by kernel_rfl) (by kernel_rfl) (fun _ _ _ h=>h) (Or.inl ⟨by rfl,fun N ⟨R,q1,q2⟩=>by go_simp⟩) (by assumption) ?_;dsimp only[Act.put,List.getElem_toArray,List.getElem_cons_succ,List.getElem_cons_zero];simp only[List.setIfInBounds_toArray,List.set_cons_zero,List.set_cons_succ];refine wpAnyH_ready (rs:= [4]) (by kernel_rfl) (by simp) ?_;refine AllReadyH.cons rfl (fun K z=>?_) AllReadyH.nil;rw[jP (by rfl)];go_simp;refine(E _).mono ?_;rintro e w1 ⟨rfl,rfl⟩;dsimp only;have l:Below W.heap.size W (W.drew.alloc (.cells #[h.p,h.c,h.m] 23)):=(br.drew).alloc lr _;have C:=s.trans (l.mono (by omega));have b0:=kA l _ _ _ c0;have b1:=kA l _ _ _ c1;have b2:=kA l _ _ _ c2;have G:=kA l _ _ _ r0;have I:=kA l _ _ _ r1;have J:=kA l _ _ _ r2;have L:=kA l _ _ _ r3;have U:=fun o=>(VC l (H+1) o l1).trans (DA j o);generalize W.drew.alloc (.cells #[h.p,h.c,h.m] 23)=W2 at *;refine z _ _ ⟨b0,b1,b2⟩ (fun hHeld=>?_);clear z K;refine wpAnyH_take (i:=5) (v:= .bool false) rfl (by kernel_rfl) (by kernel_rfl) (by kernel_rfl) (fun _ _ _ h=>h) (Or.inl ⟨by rfl,fun N ⟨R,q1,q2⟩=>by go_simp⟩) (by assumption) ?_;dsimp only[Act.put,List.getElem_toArray,List.getElem_cons_succ,List.getElem_cons_zero];simp only[List.setIfInBounds_toArray,List.set_cons_zero,List.set_cons_succ];refine wpAnyH_take (i:=6) (v:=undef) rfl (by kernel_rfl) (by kernel_rfl) (by kernel_rfl) (fun _ _ _ h=>h) (Or.inr ⟨by rfl,rfl⟩) (by assumption) ?_;dsimp only[Act.put,List.getElem_toArray,List.getElem_cons_succ,List.getElem_cons_zero];simp only[List.setIfInBounds_toArray,List.set_cons_zero,List.set_cons_succ];refine wpAnyH_take (i:=7) (v:=undef) rfl (by kernel_rfl) (by kernel_rfl) (by kernel_rfl) (fun _ _ _ h=>h) (Or.inr ⟨by rfl,rfl⟩) (by assumption) ?_;dsimp only[Act.put,List.getElem_toArray,List.getElem_cons_succ,List.getElem_cons_zero];simp only[List.setIfInBounds_toArray,List.set_cons_zero,List.set_cons_succ];refine wpAnyH_take (i:=8) (v:=undef) rfl (by kernel_rfl) (by kernel_rfl) (by kernel_rfl) (fun _ _ _ h=>h) (Or.inr ⟨by rfl,rfl⟩) (by assumption) ?_;dsimp only[Act.put,List.getElem_toArray,List.getElem_cons_succ,List.getElem_cons_zero];simp only[List.setIfInBounds_toArray,List.set_cons_zero,List.set_cons_succ];refine wpAnyH_take (i:=9) (v:=undef) rfl (by kernel_rfl) (by kernel_rfl) (by kernel_rfl) (fun _ _ _ h=>h) (Or.inr ⟨by rfl,rfl⟩) (by assumption) ?_;dsimp only[Act.put,List.getElem_toArray,List.getElem_cons_succ,List.getElem_cons_zero];simp only[List.setIfInBounds_toArray,List.set_cons_zero,List.set_cons_succ];refine wpAnyH_take (i:=10) (v:=undef) rfl (by kernel_rfl) (by kernel_rfl) (by kernel_rfl) (fun _ _ _ h=>h) (Or.inr ⟨by rfl,rfl⟩) (by assumption) ?_;dsimp only[Act.put,List.getElem_toArray,List.getElem_cons_succ,List.getElem_cons_zero];simp only[List.setIfInBounds_toArray,List.set_cons_zero,List.set_cons_succ];refine wpAnyH_take (i:=11) (v:= .bool false) rfl (by kernel_rfl) (by kernel_rfl) (by kernel_rfl) (fun _ _ _ h=>h) (Or.inl ⟨by rfl,fun N ⟨R,q1,q2⟩=>by go_simp⟩) (by assumption) ?_;dsimp only[Act.put,List.getElem_toArray,List.getElem_cons_succ,List.getElem_cons_zero];simp only[List.setIfInBounds_toArray,List.set_cons_zero,List.set_cons_succ];refine wpAnyH_ready (rs:= [12]) (by kernel_rfl) (by simp) ?_;refine AllReadyH.cons rfl (fun K z=>?_) AllReadyH.nil;rw[jP (by rfl)];go_simp;refine z _ _ (by go_keep) (fun hHeld=>?_);clear z K;refine wpAnyH_take (i:=13) (v:= .bool false) rfl (by kernel_rfl) (by kernel_rfl) (by kernel_rfl) (fun _ _ _ h=>h) (Or.inl ⟨by rfl,fun N ⟨R,q1,q2⟩=>by go_simp⟩) (by assumption) ?_;dsimp only[Act.put,List.getElem_toArray,List.getElem_cons_succ,List.getElem_cons_zero];simp only[List.setIfInBounds_toArray,List.set_cons_zero,List.set_cons_succ];refine wpAnyH_done (by kernel_rfl) ?_ _;go_wp2;exact bodyPost_ret (v:= .tuple #[.agg #[h.p,h.c,h.m,.slice ao n cap],.bool false]) (by simp[results,Tryz.results50,go_sem,G,I,J,L]) rfl ⟨rfl,by rw[<-V];exact((((C.setCell (by simp) _).setCell (by simp) _).setCell (by simp) _).setCell (by simp) _)⟩
 case inl=>
  subst O;rcases jB (decide (T<=(n:Int))) with hd|hd
  ·rw[B];clear B;go_in;go_upto_region 1 with fail;obtain⟨y,j,F,s⟩:=MD w (.cells #[h.p,h.c,h.m] 23) (.cells #[.int .i64 0,.int .i64 0,.int .i64 0,.slice none 0 0] 107);generalize (w.alloc (.cells #[h.p,h.c,h.m] 23)).alloc (.cells #[.int .i64 0,.int .i64 0,.int .i64 0,.slice none 0 0] 107)=W at *;obtain⟨H,V,r⟩:=hidv w.heap.size;rw[<-r]at y j F s ⊢;clear r;have c0:=iA y 0;have c1:=iA y 1;have c2:=iA y 2;have r0:=iA j 0;have r1:=iA j 1;have r2:=iA j 2;have r3:=iA j 3;have f0:=DA j 0;have f1:=DA j 1;have f2:=DA j 2;have f3:=DA j 3;have l0:H<W.heap.size:=by omega
   have l1:H+1<W.heap.size:=by omega
   have z:∀ X Y:World,(X.cell? ⟨H,0,.none⟩=some (.int .i64 h.p)/\X.cell? ⟨H,1,.none⟩=some (.int .i64 h.c)/\X.cell? ⟨H,2,.none⟩=some (.int .i64 h.m))->jW X Y->(Y.cell? ⟨H,0,.none⟩=some (.int .i64 h.p)/\Y.cell? ⟨H,1,.none⟩=some (.int .i64 h.c)/\Y.cell? ⟨H,2,.none⟩=some (.int .i64 h.m)):=fun X Y ⟨a,b,c⟩ hb=>⟨kA hb _ _ _ a,kA hb _ _ _ b,kA hb _ _ _ c⟩;replace z:=hd' z;have l:Below W.heap.size W (W.drew.alloc (.cells #[h.p,h.c,h.m] 23)):=(br.drew).alloc lr _
   go_region_held3 (fun X=>X.cell? ⟨H,0,.none⟩=some (.int .i64 h.p)/\X.cell? ⟨H,1,.none⟩=some (.int .i64 h.c)/\X.cell? ⟨H,2,.none⟩=some (.int .i64 h.m))
    (first|go_keep|exact z _ _ (by assumption) D)
    (first|(go_at_call 48;refine(E _).mono ?_;rintro e w1 ⟨rfl,rfl⟩)|(go_at_call 57;refine(M _).mono ?_;rintro e N ⟨rfl,D⟩;have q:=l.trans (D.mono (by simp));have G:=kA q _ _ _ r0;have I:=kA q _ _ _ r1;have J:=kA q _ _ _ r2;have L:=kA q _ _ _ r3;have U:=fun o=>(VC q (H+1) o l1).trans (DA j o);have C:=s.trans (q.mono (by omega))))
   go_wp2;exact bodyPost_ret (v:= .tuple #[.agg #[h.p,h.c,h.m,.slice ao n cap],.bool true]) (by simp[results,Tryz.results50,go_sem,G,I,J,L]) rfl ⟨by rw[hd];rfl,by rw[<-V];exact((((C.setCell (by simp) _).setCell (by simp) _).setCell (by simp) _).setCell (by simp) _)⟩
  rw[B];clear B;go_in;go_upto_region 1 with fail;obtain⟨y,j,F,s⟩:=MD w (.cells #[h.p,h.c,h.m] 23) (.cells #[.int .i64 0,.int .i64 0,.int .i64 0,.slice none 0 0] 107);generalize (w.alloc (.cells #[h.p,h.c,h.m] 23)).alloc (.cells #[.int .i64 0,.int .i64 0,.int .i64 0,.slice none 0 0] 107)=W at *;obtain⟨H,V,r⟩:=hidv w.heap.size;rw[<-r]at y j F s ⊢;clear r;have c0:=iA y 0;have c1:=iA y 1;have c2:=iA y 2;have r0:=iA j 0;have r1:=iA j 1;have r2:=iA j 2;have r3:=iA j 3;have f0:=DA j 0;have f1:=DA j 1;have f2:=DA j 2;have f3:=DA j 3;have l0:H<W.heap.size:=by omega
  have l1:H+1<W.heap.size:=by omega
  have z:∀ X Y:World,(X.cell? ⟨H,0,.none⟩=some (.int .i64 h.p)/\X.cell? ⟨H,1,.none⟩=some (.int .i64 h.c)/\X.cell? ⟨H,2,.none⟩=some (.int .i64 h.m))->jW X Y->(Y.cell? ⟨H,0,.none⟩=some (.int .i64 h.p)/\Y.cell? ⟨H,1,.none⟩=some (.int .i64 h.c)/\Y.cell? ⟨H,2,.none⟩=some (.int .i64 h.m)):=fun X Y ⟨a,b,c⟩ hb=>⟨kA hb _ _ _ a,kA hb _ _ _ b,kA hb _ _ _ c⟩;replace z:=hd' z;have l:Below W.heap.size W (W.drew.alloc (.cells #[h.p,h.c,h.m] 23)):=(br.drew).alloc lr _
  go_region_held3 (fun X=>X.cell? ⟨H,0,.none⟩=some (.int .i64 h.p)/\X.cell? ⟨H,1,.none⟩=some (.int .i64 h.c)/\X.cell? ⟨H,2,.none⟩=some (.int .i64 h.m))
   (first|go_keep|exact z _ _ (by assumption) D)
   (first|(go_at_call 48;refine(E _).mono ?_;rintro e w1 ⟨rfl,rfl⟩)|(go_at_call 57;refine(M _).mono ?_;rintro e N ⟨rfl,D⟩;have q:=l.trans (D.mono (by simp));have G:=kA q _ _ _ r0;have I:=kA q _ _ _ r1;have J:=kA q _ _ _ r2;have L:=kA q _ _ _ r3;have U:=fun o=>(VC q (H+1) o l1).trans (DA j o);have C:=s.trans (q.mono (by omega))))
  go_wp2;exact bodyPost_ret (v:= .tuple #[.agg #[h.p,h.c,h.m,.slice ao n cap],.bool false]) (by simp[results,Tryz.results50,go_sem,G,I,J,L]) rfl ⟨by rw[hd];rfl,by rw[<-V];exact((((C.setCell (by simp) _).setCell (by simp) _).setCell (by simp) _).setCell (by simp) _)⟩
structure Bok (w:World) (v:Value) (h:Hp):Prop where
 ok:h.ok=true
 rd:RdZ .u64 w v h.xs
 fit:h.fit
theorem Bok.below{w w':World}{v:Value}{h:Hp}(b:Bok w v h)(hb:Below w.heap.size w w'):Bok w' v h:=⟨b.ok,b.rd.below hb,b.fit⟩
theorem Bok.may{w:World}{v:Value}{h:Hp}(b:Bok w v h):mayB h.p h.c h.m=true:=by
 have:=b.ok;unfold Hp.ok at this;rw[jC]at this;exact this.1
theorem Bok.len{w:World}{v:Value}{h:Hp}(b:Bok w v h):EB h.p h.c h.m<=(h.xs.length:Int):=by
 have:=b.ok;unfold Hp.ok at this;rw[jC,decide_eq_true_eq]at this;exact this.2
theorem Bok.bd{w:World}{v:Value}{h:Hp}(b:Bok w v h):(1<=h.p/\h.p<=64)/\(1<=h.c/\h.c<=12)/\(0<=h.m/\h.m<=8)/\h.c+h.p+h.p*16+h.c*h.m<=(h.xs.length:Int):=by
 have h1:=LA.1 b.may;have h2:=b.len;unfold EB at h2;rw[jP b.may]at h2;omega
theorem Bok.word{w:World}{v:Value}{h:Hp}(b:Bok w v h)(i:Int)(h0:0<=i)(h1:i<(h.xs.length:Int)):∃ g off cap,∃ k:Nat,v= .slice (some ⟨g,off,.none⟩) h.xs.length cap/\h.xs.length<=cap/\g<w.heap.size/\i=(k:Int)/\k<h.xs.length/\w.cell? ⟨g,off+k,.none⟩=some (.int .u64 (wd h.xs i)):=by
 obtain⟨ao,cap,e,f,l,j⟩:=b.rd.cells;obtain⟨g,off,rfl,m,hc⟩:=j (fun e=>by rw[e]at h1;simp at h1;omega);refine⟨g,off,cap,i.toNat,e,f,m,by omega,by omega,?_⟩;rw[hc i.toNat (by omega),XY h0 h1]
theorem mH(h:Hp)(v:Value)(a:Int)(w:World)(b:Bok w v h)(ha:0<=a/\a<h.p):
  Calls Tryz.prog 78 #[DF h v,a] w fun e w'=>e= .returned (.tuple #[.agg #[.int .i64 (h.pk a),.int .i64 (h.pa a),.int .i64 (h.pn a)],.bool (h.pb a)])/\Below w.heap.size w w':=by
 obtain⟨b1,b2,b3,b4⟩:=b.bd;have b0:=WE (c:=h.c) (m:=h.m) (C:=12) (M:=8) (by omega) (by omega);have E:pA h.p h.c h.m a=h.c+a:=by unfold pA;rw[jP ⟨b.may,IA.2 (by omega)⟩]
 obtain⟨g,off,cap,k,rfl,S,hg,T,b8,hc⟩:=b.word (h.c+a) (by omega) (by omega);have L:=h.JK b.fit (h.c+a);have l:=DB h.p h.c h.m a;rw[E,T]at l;have i:=fun w=>mU h.p h.c h.m a (h.pw a) w L.1 L.2;have q:(if MA h.p h.c h.m a (h.pw a)=true then #[.int .i64 (PA (h.pw a)),.int .i64 (nA (h.pw a) 0),.int .i64 (nA (h.pw a) 1)] else #[.int .i64 0,.int .i64 0,.int .i64 0]:Array Value)= #[.int .i64 (h.pk a),.int .i64 (h.pa a),.int .i64 (h.pn a)]:=by unfold Hp.pk Hp.pa Hp.pn;show (if h.pb a=true then _ else _)=_;cases h.pb a<;>rfl
 rw[q]at i;replace i:∀ w,jK 119 #[.agg #[h.p,h.c,h.m],a,.int .u64 (h.pw a)] w fun e w'=>Below w.heap.size w w'/\e= .returned (.tuple #[.agg #[.int .i64 (h.pk a),.int .i64 (h.pa a),.int .i64 (h.pn a)],.bool (h.pb a)]):=i;have U:wd h.xs (h.c+a)=h.pw a:=rfl;rw[U]at hc;generalize h.pw a=x at *;generalize h.pk a=k1 at *;generalize h.pa a=k2 at *;generalize h.pn a=k3 at *;generalize h.pb a=k4 at *;generalize h.xs.length=n at *;replace l:=hd' l;replace i:=hd' i;have b6:(0:Int)<=(k:Int):=by omega
 have b7:(k:Int)<(n:Int):=by omega
 clear q E T b L U;go_in;go_upto_region 1 with fail;obtain⟨y,s,J,r⟩:=MD w (.cells #[h.p,h.c,h.m,.slice (some ⟨g,off,.none⟩) n cap] 107) (.cells #[.int .i64 0,.int .i64 0,.int .i64 0] 158);replace hc:=kA r _ _ _ hc;generalize (w.alloc (.cells #[h.p,h.c,h.m,.slice (some ⟨g,off,.none⟩) n cap] 107)).alloc (.cells #[.int .i64 0,.int .i64 0,.int .i64 0] 158)=W at *;obtain⟨H,Z,z⟩:=hidv w.heap.size;rw[<-z]at y s J r ⊢;have b5:H+1≠g:=by omega
 clear z;have c0:W.cell? ⟨H,0,.none⟩=some (.int .i64 h.p):=iA y 0;have c1:W.cell? ⟨H,1,.none⟩=some (.int .i64 h.c):=iA y 1;have c2:W.cell? ⟨H,2,.none⟩=some (.int .i64 h.m):=iA y 2;have c3:W.cell? ⟨H,3,.none⟩=some (.slice (some ⟨g,off,.none⟩) n cap):=iA y 3;have r0:=iA s 0;have r1:=iA s 1;have r2:=iA s 2;have V:=DA s;have l0:H<W.heap.size:=by omega
 have l1:H+1<W.heap.size:=by omega
 have G:∀ Y,jW W Y->Y.cell? ⟨H,0,.none⟩=some (.int .i64 h.p)/\Y.cell? ⟨H,1,.none⟩=some (.int .i64 h.c)/\Y.cell? ⟨H,2,.none⟩=some (.int .i64 h.m)/\Y.cell? ⟨H,3,.none⟩=some (.slice (some ⟨g,off,.none⟩) n cap)/\Y.cell? ⟨g,off+k,.none⟩=some (.int .u64 x):=fun Y hb=>⟨kA hb _ _ _ c0,kA hb _ _ _ c1,kA hb _ _ _ c2,kA hb _ _ _ c3,kA hb _ _ _ hc⟩;replace G:=hd' G;have I:Below W.heap.size W W.drew:=br.drew
 go_region_held3 (fun Y=>Y.cell? ⟨H,0,.none⟩=some (.int .i64 h.p)/\Y.cell? ⟨H,1,.none⟩=some (.int .i64 h.c)/\Y.cell? ⟨H,2,.none⟩=some (.int .i64 h.m)/\Y.cell? ⟨H,3,.none⟩=some (.slice (some ⟨g,off,.none⟩) n cap)/\Y.cell? ⟨g,off+k,.none⟩=some (.int .u64 x))
  (first|go_keep|exact G _ (by assumption))
  (first|(go_at_call 120;refine(l _).mono ?_;rintro e w1 ⟨rfl,hb⟩;have B:=I.trans (hb.mono lr);have D:=B.size)|(go_at_call 119;refine(i _).mono ?_;rintro e w2 ⟨hb,rfl⟩;have j:=B.trans (hb.mono D);have N:=kA j _ _ _ r0;have O:=kA j _ _ _ r1;have R:=kA j _ _ _ r2;have X:=fun o=>(VC j (H+1) o l1).trans (V o);have F:=r.trans (j.mono (by omega))))
 go_wp2;exact bodyPost_ret (v:= .tuple #[.agg #[k1,k2,k3],k4]) (by simp[results,Tryz.results78,go_sem,N,O,R]) rfl ⟨rfl,by rw[<-Z];exact(((F.setCell (by simp) _).setCell (by simp) _).setCell (by simp) _)⟩
theorem FK(h:Hp)(v:Value)(a i:Int)(w:World)(b:Bok w v h)(ha:0<=a/\a<h.p)(hi:0<=i/\i<16):
  Calls Tryz.prog 84 #[DF h v,a,i] w fun e w'=>e= .returned (.agg #[.int .i64 (h.sk a i),.int .i64 (h.sa a i)])/\Below w.heap.size w w':=by
 obtain⟨b1,b2,b3,b4⟩:=b.bd;have b0:=WE (c:=h.c) (m:=h.m) (C:=12) (M:=8) (by omega) (by omega);have E:XA h.p h.c h.m a i=h.c+h.p+a*16+i:=by unfold XA;rw[jP ⟨b.may,IA.2 (by omega),IA.2 (by omega)⟩]
 obtain⟨g,off,cap,k,rfl,S,hg,T,b8,hc⟩:=b.word (h.c+h.p+a*16+i) (by omega) (by omega);have N:=h.JK b.fit (h.c+h.p+a*16+i);have q:=iE h.p h.c h.m a i;rw[E,T]at q;have j:=fun w=>zso (h.sw a i) w N.1 N.2;have r:(if LF (h.sw a i)=true then #[.int .i64 (PA (h.sw a i)),.int .i64 (nA (h.sw a i) 0)] else #[.int .i64 0,.int .i64 0]:Array Value)= #[.int .i64 (h.sk a i),.int .i64 (h.sa a i)]:=by unfold Hp.sk Hp.sa;cases LF (h.sw a i)<;>rfl
 rw[r]at j;replace j:∀ w,jK 121 #[.int .u64 (h.sw a i)] w fun e w'=>Below w.heap.size w w'/\e= .returned (.agg #[.int .i64 (h.sk a i),.int .i64 (h.sa a i)]):=j;have U:wd h.xs (h.c+h.p+a*16+i)=h.sw a i:=rfl;rw[U]at hc;generalize h.sw a i=x at *;generalize h.sk a i=k1 at *;generalize h.sa a i=k2 at *;generalize h.xs.length=n at *;replace q:=hd' q;replace j:=hd' j;have b6:(0:Int)<=(k:Int):=by omega
 have b7:(k:Int)<(n:Int):=by omega
 clear r E T b N U;go_in;go_upto_region 1 with fail;obtain⟨y,F,L,s⟩:=MD w (.cells #[h.p,h.c,h.m,.slice (some ⟨g,off,.none⟩) n cap] 107) (.cells #[.int .i64 0,.int .i64 0] 168);replace hc:=kA s _ _ _ hc;generalize (w.alloc (.cells #[h.p,h.c,h.m,.slice (some ⟨g,off,.none⟩) n cap] 107)).alloc (.cells #[.int .i64 0,.int .i64 0] 168)=W at *;obtain⟨H,Z,z⟩:=hidv w.heap.size;rw[<-z]at y F L s ⊢;have b5:H+1≠g:=by omega
 clear z;have c0:W.cell? ⟨H,0,.none⟩=some (.int .i64 h.p):=iA y 0;have c1:W.cell? ⟨H,1,.none⟩=some (.int .i64 h.c):=iA y 1;have c2:W.cell? ⟨H,2,.none⟩=some (.int .i64 h.m):=iA y 2;have c3:W.cell? ⟨H,3,.none⟩=some (.slice (some ⟨g,off,.none⟩) n cap):=iA y 3;have r0:=iA F 0;have r1:=iA F 1;have V:=DA F;have l0:H<W.heap.size:=by omega
 have l1:H+1<W.heap.size:=by omega
 have I:∀ Y,jW W Y->Y.cell? ⟨H,0,.none⟩=some (.int .i64 h.p)/\Y.cell? ⟨H,1,.none⟩=some (.int .i64 h.c)/\Y.cell? ⟨H,2,.none⟩=some (.int .i64 h.m)/\Y.cell? ⟨H,3,.none⟩=some (.slice (some ⟨g,off,.none⟩) n cap)/\Y.cell? ⟨g,off+k,.none⟩=some (.int .u64 x):=fun Y hb=>⟨kA hb _ _ _ c0,kA hb _ _ _ c1,kA hb _ _ _ c2,kA hb _ _ _ c3,kA hb _ _ _ hc⟩;replace I:=hd' I;have J:Below W.heap.size W W.drew:=br.drew
 go_region_held3 (fun Y=>Y.cell? ⟨H,0,.none⟩=some (.int .i64 h.p)/\Y.cell? ⟨H,1,.none⟩=some (.int .i64 h.c)/\Y.cell? ⟨H,2,.none⟩=some (.int .i64 h.m)/\Y.cell? ⟨H,3,.none⟩=some (.slice (some ⟨g,off,.none⟩) n cap)/\Y.cell? ⟨g,off+k,.none⟩=some (.int .u64 x))
  (first|go_keep|exact I _ (by assumption))
  (first|(go_at_call 122;refine(q _).mono ?_;rintro e w1 ⟨rfl,hb⟩;have B:=J.trans (hb.mono lr);have D:=B.size)|(go_at_call 121;refine(j _).mono ?_;rintro e w2 ⟨hb,rfl⟩;have l:=B.trans (hb.mono D);have O:=kA l _ _ _ r0;have R:=kA l _ _ _ r1;have X:=fun o=>(VC l (H+1) o l1).trans (V o);have G:=s.trans (l.mono (by omega))))
 go_wp2;exact bodyPost_ret (v:= .agg #[k1,k2]) (by simp[results,Tryz.results84,go_sem,O,R]) rfl ⟨rfl,by rw[<-Z];exact((G.setCell (by simp) _).setCell (by simp) _)⟩
end

section

open Go.RowKit

attribute [local go_sem ↓] Go.wp_at_zero Go.wp_at_succ

theorem YK(a b:Int)(w:World):(Instr.field 168 (.agg #[a,b]) 0).run Tryz.prog w= .ok (.int .i64 a) w:=by kernel_rfl
theorem WK(a b:Int)(w:World):(Instr.field 168 (.agg #[a,b]) 1).run Tryz.prog w= .ok (.int .i64 b) w:=by kernel_rfl
attribute [local go_sem ↓] YK WK

theorem BW(h:Hp)(v:Value)(x:Int)(w:World)(b:Bok w v h):
  Calls Tryz.prog 81 #[DF h v,x] w fun e w'=>e= .returned (.bool (h.lv x))/\Below w.heap.size w w':=by
 obtain⟨V,X,Y,Z⟩:=b.bd;have J:=WE (c:=h.c) (m:=h.m) (C:=12) (M:=8) (by omega) (by omega);have j:=lC h.p h.c h.m x;by_cases G:0<=x/\x<=h.c-1
 ·have q:wi x 0 (h.c-1)=true:=IA.2 G;have r:uA h.p h.c h.m x=x:=by unfold uA;rw[jP ⟨b.may,q⟩]
  have s:h.lv x=YM (wd h.xs x):=by unfold Hp.lv;rw[b.may,q];rfl
  obtain⟨g,off,cap,k,rfl,F,hg,L,R,hc⟩:=b.word x (by omega) (by omega);have E:=h.JK b.fit x;have i:=fun w=>HO (wd h.xs x) w E.1 E.2;rw[s];rw[r]at j;unfold YM;subst L;generalize wd h.xs (k:Int)=z at *;generalize PA z=k1 at *;generalize nA z 0=I at *;generalize h.xs.length=n at *;have N:(0:Int)<=(k:Int):=by omega
  have O:(k:Int)<(n:Int):=by omega
  have S:g≠w.heap.size:=by omega
  clear r s E b q;rcases jB (YA k1 I==z) with hs|hs
  ·rw[hs]at i ⊢;replace i:∀ w,jK 54 #[.int .u64 z] w fun e w'=>Below w.heap.size w w'/\e= .returned (.tuple #[k1,I]):=i;clear hs;replace i:=hd' i;replace j:=hd' j;go_in;go_wp2_with fail;refine(j _).mono ?_;rintro e D ⟨rfl,o⟩;have l:Below w.heap.size w D:=((Below.refl w.heap.size w).alloc lr _).trans (o.mono (by simp));have T:=kA o _ _ _ (iA (jA w (.cells #[h.p,h.c,h.m,.slice (some ⟨g,off,.none⟩) n cap] 107)) 3);have q1:=kA l _ _ _ hc;go_wp2_with fail;refine(i _).mono ?_;rintro e U ⟨B,rfl⟩;have y:=l.trans (B.mono l.size);go_wp2;go_ret;exact⟨by rw[Bool.true_and];rfl,y⟩
  rw[hs]at i ⊢;replace i:∀ w,jK 54 #[.int .u64 z] w fun e w'=>Below w.heap.size w w'/\e= .returned (.tuple #[.int .i64 0,.int .i64 0]):=i;clear hs;replace i:=hd' i;replace j:=hd' j;go_in;go_wp2_with fail;refine(j _).mono ?_;rintro e D ⟨rfl,o⟩;have l:Below w.heap.size w D:=((Below.refl w.heap.size w).alloc lr _).trans (o.mono (by simp));have T:=kA o _ _ _ (iA (jA w (.cells #[h.p,h.c,h.m,.slice (some ⟨g,off,.none⟩) n cap] 107)) 3);have q1:=kA l _ _ _ hc;go_wp2_with fail;refine(i _).mono ?_;rintro e U ⟨B,rfl⟩;have y:=l.trans (B.mono l.size);go_wp2;go_ret;exact⟨rfl,y⟩
 have q:wi x 0 (h.c-1)=false:=mG.2 G;have r:uA h.p h.c h.m x= -1:=by unfold uA;rw[jN (fun h=>by rw[q]at h;exact Bool.false_ne_true h.2)]
 have s:h.lv x=false:=by unfold Hp.lv;rw[q,Bool.and_false];rfl
 rw[s];rw[r]at j;replace j:=hd' j;clear r s q;go_in;go_wp2_with fail;refine(j _).mono ?_;rintro e D ⟨rfl,o⟩;have l:Below w.heap.size w D:=((Below.refl w.heap.size w).alloc lr _).trans (o.mono (by simp));go_wp2;go_ret;exact⟨rfl,l⟩
theorem zy8(h:Hp)(v:Value)(a:Int)(w:World)(b:Bok w v h)(M:0<=a/\a<h.p):
  Calls Tryz.prog 79 #[DF h v,a] w fun e w'=>e= .returned (.tuple #[.int .i64 (h.hc a),.bool (h.hb a)])/\Below w.heap.size w w':=by
 have z:=Hp.yfx (h:=h) M.1 M.2;have i:=fun X L=>mH h v a X (b.below L) M;have s:=fun X L=>mH h v (h.hd a) X (b.below L) z;have G:h.hc a=if h.hb a=true then h.pa (h.hd a) else 0:=rfl;have I:h.hb a=(h.pb (h.hd a)&&h.pk (h.hd a)==1):=rfl;by_cases h4:(h.pb a&&h.pk a==4)=true
 ·have E:h.hd a=h.pa a:=by unfold Hp.hd;rw[jP h4]
  rw[G,I];rw[E]at s ⊢;have o:=h4;rw[jC,beq_iff_eq]at o;rw[o.1,o.2]at i;generalize h.pa a=q at *;generalize h.pn a=q' at *;generalize h.pk q=k1 at *;generalize h.pa q=S at *;generalize h.pn q=T at *;generalize h.pb q=Z at *;replace i:=hd' i;replace s:=hd' s;clear G I E h4 o z b;have N:=jB Z;have C:=Decidable.em (k1=1);rcases N with rfl|rfl<;>rcases C with B|B <;>
  ·first
    |(have l:(k1==1)=true:=by rw[beq_iff_eq];exact B)
    |(have l:(k1==1)=false:=by rw[beq_eq_false_iff_ne];exact B)
   rw[l];replace l:=hd' l;go_in;go_wp2_with fail;refine(i _ (br.alloc lr _)).mono ?_;rintro e y ⟨rfl,n⟩;have j:Below w.heap.size w y:=((Below.refl w.heap.size w).alloc lr _).trans (n.mono (by simp));have g0:=(n.block _ (by simp)).trans (jA w (.cells #[h.p,h.c,h.m,v] 107));have r:Below w.heap.size w (y.alloc (.cells #[.int .i64 4,q,q'] 158)):=j.alloc j.size _;have hz:=j.size;have O:=jA y (.cells #[.int .i64 4,q,q'] 158);have Y:=(jE g0);have c0:=iA g0 0;have c1:=iA g0 1;have c2:=iA g0 2;have c3:=iA g0 3;go_wp2_with fail;refine(s _ r).mono ?_;rintro e w2 ⟨rfl,F⟩;have D:=(F.block _ (by simp)).trans O;have J:=r.trans (F.mono r.size);have R:y.heap.size<w2.heap.size:=(jE D);have p0:=iA D 0;have p1:=iA D 1;have p2:=iA D 2;have fP:=DA D;clear g0 O D;go_wp2;go_ret2;exact⟨rfl,((J.setCell (by simp;omega) _).setCell (by simp;omega) _).setCell (by simp;omega) _⟩
 have E:h.hd a=a:=by unfold Hp.hd;rw[jN h4]
 rw[G,I];rw[E];have o:h.pb a=false\/(h.pb a=true/\h.pk a≠4):=by
  rcases jB (h.pb a) with h|h
  ·right;refine⟨h,fun e=>h4 ?_⟩;rw[h,e];rfl
  exact .inl h
 clear G I E h4 z s b;generalize h.pk a=k1 at *;generalize h.pa a=S at *;generalize h.pn a=T at *;rcases o with o|⟨o,U⟩
 ·rw[o]at i ⊢;replace i:=hd' i;clear o;go_in;go_wp2_with fail;refine(i _ (br.alloc lr _)).mono ?_;rintro e y ⟨rfl,n⟩;have j:Below w.heap.size w y:=((Below.refl w.heap.size w).alloc lr _).trans (n.mono (by simp));have r:Below w.heap.size w (y.alloc (.cells #[k1,S,T] 158)):=j.alloc j.size _;go_wp2;go_ret2;exact⟨rfl,r⟩
 rw[o]at i ⊢;replace i:=hd' i;clear o;have V:(k1==4)=false:=by rw[beq_eq_false_iff_ne];exact U
 have C:=Decidable.em (k1=1);rcases C with B|B <;>
 ·first
   |(have l:(k1==1)=true:=by rw[beq_iff_eq];exact B)
   |(have l:(k1==1)=false:=by rw[beq_eq_false_iff_ne];exact B)
  rw[l];replace l:=hd' l;go_in;go_wp2_with fail;refine(i _ (br.alloc lr _)).mono ?_;rintro e y ⟨rfl,n⟩;have j:Below w.heap.size w y:=((Below.refl w.heap.size w).alloc lr _).trans (n.mono (by simp));go_wp2;go_ret2;exact⟨rfl,j.alloc j.size _⟩
end

section

open Go.RowKit

attribute [local go_sem ↓] Go.wp_at_zero Go.wp_at_succ

theorem yov(h:Hp)(v:Value)(c x:Int)(w:World)(b:Bok w v h)(b7:0<=x)(b8:x<18446744073709551616)(hr:HC h.p h.c h.m x=true)(gk:h.pk (nA x 0)=2)(ga:h.pa (nA x 0)=nA x 2)(gs:h.sk (nA x 0) (nA x 1)=2)(gc:h.sa (nA x 0) (nA x 1)=c):
  Calls Tryz.prog 91 #[DF h v,c,.int .u64 x] w fun e w'=>e= .returned (.tuple #[.agg #[.int .i64 (nA x 0),.int .i64 (nA x 1),.int .i64 (nA x 2)],.bool true])/\Below w.heap.size w w':=by
 obtain⟨b1,_,_,_⟩:=b.bd;obtain⟨ao,cap,hv,_,_,_⟩:=b.rd.cells;generalize h.xs.length=m at hv;subst hv;have o:=fun X=>qV h.p h.c h.m x X b7 b8;have G:=fun q X (L:Below w.heap.size w X) hq=>mH h (.slice ao m cap) q X (b.below L) hq;have I:=fun q i X (L:Below w.heap.size w X) hq hi=>FK h (.slice ao m cap) q i X (b.below L) hq hi;have b6:(0<=nA x 0/\nA x 0<h.p)/\(0<=nA x 1/\nA x 1<16):=by unfold HC at hr;simp only[jC,decide_eq_true_eq]at hr;have h1:=IA.1 (WO hr.1.2).2;have h2:=JC (nA x 2);have h3:=bH x 1;omega
 rw[hr]at o;clear hr;generalize nA x 0=y at *;generalize nA x 1=J at *;generalize nA x 2=r at *;replace G:=hd' G;replace I:=hd' I;clear b;obtain⟨t1,t2,t3,t4⟩:=MD w (.cells #[h.p,h.c,h.m,.slice ao m cap] 107) (.cells #[.int .i64 0,.int .i64 0,.int .i64 0] 175);replace o:∀ X,jK 123 #[.agg #[h.p,h.c,h.m],.int .u64 x] X fun e w'=>Below X.heap.size X w'/\e= .returned (.tuple #[.agg #[y,J,r],.bool true]):=o;replace o:=hd' o;obtain⟨M,b5⟩:=b6;have z:=fun X L=>G y X L M;have B:=fun X L=>I y J X L M b5;rw[gk,ga]at z;rw[gs,gc]at B;clear gk ga gs gc;generalize h.pn y=pn at *;generalize h.pb y=pb at *;replace z:=hd' z;replace B:=hd' B;go_in;go_wp2_with fail;refine(o _).mono ?_;rintro e w1 ⟨D,rfl⟩;have l:=D.alloc D.size (.cells #[y,J,r] 175);have O:=(l.block _ (by rw[t3];omega)).trans t1;have s:=(l.block _ (by rw[t3];omega)).trans t2;have T:=t4.trans (l.mono t4.size);have N:=jA w1 (.cells #[y,J,r] 175);go_upto_region 2 with fail;obtain⟨H,hH,b0⟩:=hidv w.heap.size;rw[<-b0]at O s ⊢;have hR:w.heap.size<=H+1:=by omega
 have b3:H+1<w1.heap.size:=by have:=D.size;omega
 clear b0 t1 t2 t3 t4 D l;generalize w1.heap.size=E at N b3 ⊢;generalize w1.alloc (.cells #[y,J,r] 175)=W at *;generalize H+1=R at *;have lR:=(jE s);have lE:=(jE N);have c0:W.cell? ⟨H,0,.none⟩=some (.int .i64 h.p):=iA O 0;have c1:W.cell? ⟨H,1,.none⟩=some (.int .i64 h.c):=iA O 1;have c2:W.cell? ⟨H,2,.none⟩=some (.int .i64 h.m):=iA O 2;have c3:W.cell? ⟨H,3,.none⟩=some (.slice ao m cap):=iA O 3;have E0:W.cell? ⟨E,0,.none⟩=some (.int .i64 y):=iA N 0;have E1:W.cell? ⟨E,1,.none⟩=some (.int .i64 J):=iA N 1;have E2:W.cell? ⟨E,2,.none⟩=some (.int .i64 r):=iA N 2;clear O N;go_wp2_with fail;refine(z _ T).mono ?_;rintro e w2 ⟨rfl,l⟩;have j:=l.alloc l.size (.cells #[.int .i64 2,r,pn] 158);have S:=jA w2 (.cells #[.int .i64 2,r,pn] 158);have C:=T.trans (j.mono T.size);have s:=(j.block _ lR).trans s;have b2:R<w2.heap.size/\E<w2.heap.size:=by have:=l.size;omega
 have c0:=kA j _ _ _ c0;have c1:=kA j _ _ _ c1;have c2:=kA j _ _ _ c2;have c3:=kA j _ _ _ c3;have E0:=kA j _ _ _ E0;have E1:=kA j _ _ _ E1;have E2:=kA j _ _ _ E2;go_upto_region 5 with fail;generalize w2.heap.size=P at S b2 ⊢;generalize w2.alloc (.cells #[.int .i64 2,r,pn] 158)=V at *;have P0:V.cell? ⟨P,0,.none⟩=some (.int .i64 2):=iA S 0;have P1:V.cell? ⟨P,1,.none⟩=some (.int .i64 r):=iA S 1;have lP:=(jE S);clear l j S;go_wp2_with fail;refine(B _ C).mono ?_;rintro e w3 ⟨rfl,F⟩;have n:=F.alloc F.size (.cells #[.int .i64 2,c] 168);have g3:=jA w3 (.cells #[.int .i64 2,c] 168);have Z:=C.trans (n.mono C.size);have s:=(n.block _ (jE s)).trans s;have b4:R<w3.heap.size:=by have:=F.size;have:=(Array.getElem?_eq_some_iff.1 ‹V.heap[R]?=_›).1;omega
 have E0:=kA n _ _ _ E0;have E1:=kA n _ _ _ E1;have E2:=kA n _ _ _ E2;have P0:=kA n _ _ _ P0;have P1:=kA n _ _ _ P1;go_upto_region 6 with fail;generalize w3.heap.size=Y at g3 b4 ⊢;generalize w3.alloc (.cells #[.int .i64 2,c] 168)=U at *;have b9:=iA g3;have r0:U.cell? ⟨R,0,.none⟩=some (.int .i64 0):=iA s 0;have r1:U.cell? ⟨R,1,.none⟩=some (.int .i64 0):=iA s 1;have r2:U.cell? ⟨R,2,.none⟩=some (.int .i64 0):=iA s 2;have fR:=DA s;have nE:R≠E:=by omega
 have nP:R≠P:=by omega
 have nY:R≠Y:=by omega
 have T:=Z;clear F n g3 s C Z lR lE lP b3 b2 b4 c0 c1 c2 c3 G I z B o M b5;go_region_held3 (fun X=>X.cell? ⟨E,0,.none⟩=some (.int .i64 y)/\X.cell? ⟨E,1,.none⟩=some (.int .i64 J)/\X.cell? ⟨E,2,.none⟩=some (.int .i64 r)/\X.cell? ⟨P,0,.none⟩=some (.int .i64 2)/\X.cell? ⟨P,1,.none⟩=some (.int .i64 r)/\X.cell? ⟨Y,0,.none⟩=some (.int .i64 2)/\X.cell? ⟨Y,1,.none⟩=some (.int .i64 c)) (go_keep) (fail);go_wp2;exact bodyPost_ret (v:= .tuple #[.agg #[y,J,r],.bool true]) (by simp[results,Tryz.results91,go_sem,r0,r1,r2]) rfl ⟨rfl,(((T.setCell hR _).setCell hR _).setCell hR _).drew⟩
end

end Go.Proofs.YtmmbicppdjgbmaaGreat
