
import Derived.ChangeKeysEq

import Derived.Maps.Own

import Derived.Test.YtkilokkopbajkaaGreatBw36

set_option linter.all false
set_option maxHeartbeats 8000000
set_option maxRecDepth 100000
namespace Go.Proofs.YtkilokkopbajkaaGreat

open RowKit

theorem zso(x:Int)(w:World)(h0:0<=x)(h1:x<18446744073709551616):
  Calls Tryz.prog 113 #[.int .u64 x] w λe w'=>Below w.heap.size w w'/\
   e=.returned (.agg (if cF x=true then #[.int .i64 (PA x),.int .i64 (nA x 0)] else #[.int .i64 0,.int .i64 0])):=by
 generalize D:PA x=k at*;generalize z:nA x 0=A at*;have j:cF x=(VA k A==x):=by rw[cF,D,z]
 have i:∀w,jK 134 #[.int .u64 x] w λe w'=>e=.returned (.int .i64 k)/\w'=w:=λw=>D▸rQ x w h0 h1;have p:∀w,jK 135 #[.int .u64 x,.int .i64 0] w λe w'=>e=.returned (.int .i64 A)/\w'=w:=λw=>z▸PG x 0 w h0 h1 (by omega);clear D z;cases hrb:cF x;all_goals
  rw[hrb]at j;replace j:=j.symm;first|rw[jP rfl]|rw[jN Bool.false_ne_true]
  clear hrb;go_in;go_upto_region 2 with(first|(go_at_call 134;refine(i _).mono ?_;rintro e q ⟨rfl,rfl⟩)|(go_at_call 135;refine(p _).mono ?_;rintro e q ⟨rfl,rfl⟩));clear i p;obtain⟨r,E,M,l⟩:=vE w (.cells #[.int .i64 0,.int .i64 0] 139) (.cells #[k,A] 139);generalize ((w.alloc (.cells #[.int .i64 0,.int .i64 0] 139)).alloc (.cells #[k,A] 139))=W at*;generalize J:w.heap.size=H at*;have G:=iA r;have I:=KA r;have O:=iA E;have L:H<W.heap.size:=by omega
  have R:H+1<W.heap.size:=by omega
  clear r E
 .have y:(VA k A !=x)=true:=by simpa using j
  clear j;go_wp2_with (go_at_call 141;refine(tE _ _ _).mono ?_;rintro e q ⟨rfl,hb⟩;have hc:=iB hb;have C:=XA hb);have b:Below H w q:=l.trans (hb.mono (by omega));have o:=b;rw[<-J]at b;refine bodyPost_ret (v:=.agg #[.int .i64 0,.int .i64 0]) (by simp[results,Tryz.results113,go_sem,hc,C,G,I,L]) rfl ⟨?_,rfl⟩;go_grown
 have y:(VA k A !=x)=false:=by simpa using j
 clear j;go_wp2_with (go_at_call 141;refine(tE _ _ _).mono ?_;rintro e q ⟨rfl,hb⟩;have hc:=iB hb;have C:=XA hb);have b:Below H w q:=l.trans (hb.mono (by omega));have o:=b;rw[<-J]at b;refine bodyPost_ret (v:=.agg #[k,A]) (by simp[results,Tryz.results113,go_sem,hc,C,G,I,L]) rfl ⟨?_,rfl⟩;go_grown
theorem bO{s:Sh}{d:Wd}{n:Nat}{c:Int}{o:Op3}(b:wdOk s d n):wdOk s (askW s d c o) (n+1+GA s):=QD (bF b _) _
section

attribute [local go_sem ↓] wp_at_zero wp_at_succ

theorem BT:(Tryz.prog.info? 3).map (λi=>(i.zero,i.size,i.bytes))=some (some (.int .i64 0),1,8):=by kernel_rfl
def whoB (P:Kl->Bool) (l:List (Option Kl)) (c:Nat):Bool:=match l.getD c none with
 |some k=>P k
 |none=>false
def whoL (P:Kl->Bool) (l:List (Option Kl)) (n:Nat):List Int:=((List.range n).filter (whoB P l)).map (λc:Nat=>(c:Int))
theorem gX(P:Kl->Bool)(l:List (Option Kl))(n:Nat):whoL P l (n+1)=whoL P l n++if whoB P l n=true then [(n:Int)] else []:=by
 unfold whoL;rw[List.range_succ,List.filter_append,List.map_append];congr 1;by_cases h:whoB P l n=true
 .rw[jP h];simp[h]
 rw[jN h];simp[h]
theorem pN(P:Kl->Bool)(l:List (Option Kl))(n:Nat):(whoL P l n).length<=n:=by
 unfold whoL;rw[List.length_map];have h:=List.length_filter_le (whoB P l) (List.range n);rw[List.length_range]at h;exact h
section

variable {B:Nat}{F:Nat->Prop}{W:World}{g:Nat}{s:Sh}{d:Wd}{x:Wx}

theorem z06(h:WdP B F W g s d x)(hn:d.l.length<=100)(P:Kl->Bool)(S:∀c k X,d.l.getD c none=some k->jW W X->Calls Tryz.prog 81 #[.pointer (some ⟨x.qs c,0,.none⟩)] X λe w'=>e=.returned (.bool (P k))/\Below X.heap.size X w'):
  Calls Tryz.prog 51 #[some g,.func (.func 81) #[] #[]] W λe w'=>∃v,e=.returned v/\Below W.heap.size W w'/\w'.ownsRow W.heap.size 3 1 v (whoL P d.l d.l.length).length ((whoL P d.l d.l.length).map (Value.int .i64)):=by
 have b1:∀(p:Nat) (W:World),(binOp .eql 27 (.pointer (some ⟨p,0,.none⟩)) (.pointer none)).run Tryz.prog W=.ok (.bool false) W:=λp W=>by kernel_rfl
 have b2:∀(W:World),(binOp .neq 57 (.pointer none) (.pointer none)).run Tryz.prog W=.ok (.bool false) W:=λW=>by kernel_rfl
 have b3:∀(p:Nat) (W:World),(binOp .neq 57 (.pointer (some ⟨p,0,.none⟩)) (.pointer none)).run Tryz.prog W=.ok (.bool true) W:=λp W=>by kernel_rfl
 have c4:=ce (.slice (some ⟨x.lb,0,.none⟩) d.l.length d.l.length) (h.top.cell 4);have lg:=h.top.lt;have i:∀c X,c<d.l.length->jW W X->X.cell? ⟨x.lb,c,.none⟩=some (ptrK (d.l.getD c none) (x.qs c))/\x.lb<X.heap.size:=λc X hc hb=>⟨((h.below hb).lst.cell c).trans (by simpa using(h.below hb).pe c hc),(h.below hb).lst.lt⟩;obtain⟨i0,T,U,V,Y⟩:=info_parts BT;have I:=λc=>gX P d.l c;have G:=λc=>pN P d.l c
 have C:∀c o,d.l.getD c none=o->whoB P d.l c=match o with
  |some k=>P k
  |none=>false:=λc o e=>by subst e;rfl
 generalize Z:d.l.length=n at*;replace S:=hd' S;replace i:=hd' i;replace I:=hd' I;replace G:=hd' G;replace C:=hd' C;replace Z:=hd' Z;clear h;go_in;go_wp2;go_loopw [5,15] (λv5 J wr=>∃c:Nat,c<=n/\J=.int .i64 c/\Below W.heap.size W wr/\wr.ownsRow W.heap.size 3 1 v5 (whoL P d.l c).length ((whoL P d.l c).map (Value.int .i64))) (λ_ J _=>n-(intOf J).toNat);case atStart=>exact⟨0,Nat.zero_le _,rfl,Below.refl _ _,⟨by simp[whoL],.inl ⟨rfl,by simp[whoL]⟩⟩⟩
 case round=>
  obtain⟨c,b7,rfl,b,j⟩:=hrel;have b5:(0:Int)<=(c:Int):=by omega
  by_cases hc:c<n
  .have b6:(c:Int)<(n:Int):=by omega
   have bb:IntKind.i64.wrap ((c:Int)+1)=(c:Int)+1:=IntWalk.i64_in _ ⟨by omega,by omega⟩;have z:=i c wr hc b;have M:=z.1;have z2:=z.2;have hs:=I c;have b8:=G c;cases hk:d.l.getD c none with
   |none=>have y:whoB P d.l c=false:=C c _ hk;rw[hk]at M;rw[jN (by rw[y];decide),List.append_nil]at hs;replace M:wr.cell? ⟨x.lb,c,.none⟩=some (.pointer none):=M;replace hs:=hd' hs;clear y hk z;go_wp2_with fail;exact⟨⟨c+1,by omega,by go_num,b,by rw[hs];exact j⟩,by simp only[intOf];omega⟩
   |some k=>
    have y:whoB P d.l c=P k:=C c _ hk
    rw[hk]at M
    replace M:wr.cell? ⟨x.lb,c,.none⟩=some (.pointer (some ⟨x.qs c,0,.none⟩)):=M
    have O:=S c k wr hk b
    have b4:=b.size
    rw[y]at hs
    generalize P k=pk at*
    generalize whoL P d.l c=L at*
    replace O:=hd' O
    clear y hk z
    cases pk with
    |false=>
     rw[jN (by decide),List.append_nil]at hs
     replace hs:=hd' hs
     go_wp2_with (first|(go_at_call 81;(with_reducible refine O.out.mono ?_);rintro r w6 ⟨rfl,q⟩))
     have R:=qA b q
     exact⟨⟨c+1,by omega,by go_num,R,by rw[hs];exact SI j q⟩,by simp only[intOf];omega⟩
    |true=>
     rw[jP rfl]at hs
     replace hs:=hd' hs
     go_wp2_with (first|(go_at_call 81;(with_reducible refine O.out.mono ?_);rintro r w6 ⟨rfl,q⟩;have R:=qA b q;have ba:=q.size;have E:=SI j q)|(refine nH rfl (.tmp 27) (.tmp 29) 41 rfl W.heap.size 3 i0 _ 1 8 Tryz.underlying41 T U V Y rfl (by omega) _ L.length _ rfl (E.alloc _) _ 1 [.int .i64 c] rfl (RdS.new (cs:=#[c]) (t:=3) (sz:=1) (n:=1) (jA w6 _) rfl (by omega)) (by intro u hu;simp at hu;subst hu;rfl) (by simp only[maxLen];omega) (by omega) (by simp;omega) ?_;intro v7 w7 H D b0;have h7:=sE (R.alloc (by omega) _) (E.alloc _) (by simp;omega) D))
     exact⟨⟨c+1,by omega,by go_num,h7,by rw[hs,List.length_append,List.map_append];exact H⟩,by simp only[intOf];omega⟩
  obtain rfl:c=n:=by omega
  have b9:¬(c:Int)<(c:Int):=by omega
  go_wp2_with fail;go_returns;exact⟨_,rfl,b,j⟩
theorem TQ(h:WdP B F W g s d x)(b:d.l.length<=100):
  Calls Tryz.prog 36 #[some g] W λe w'=>∃v,e=.returned v/\Below W.heap.size W w'/\w'.ownsRow W.heap.size 3 1 v (whoL (λ_=>true) d.l d.l.length).length ((whoL (λ_=>true) d.l d.l.length).map (Value.int .i64)):=by
 have j:=hd' (z06 h b (λ_=>true) (λc k X _ _=>by
  go_in
  go_wp2_with fail
  go_returns
  exact⟨rfl,Below.refl _ _⟩))
 clear h;go_in;go_wp2_with (first|(go_at_call 51;(with_reducible refine j.out.mono ?_);rintro r o ⟨v,rfl,hb,i⟩));go_returns;exact⟨_,rfl,hb,i⟩
end

end

def nC (s:Sh) (l:List Int) (d:Wd):Wd:=l.foldl (λd c=>d.rest s c) d
def adS (s:Sh) (c:Int) (d:Wd) (x:Int):Wd:=if x≠c/\1<aH s d x then (if (d.act s ⟨2,c,4,x,0,0⟩).2=0 then askW s d c ⟨4,x,0⟩ else (d.act s ⟨2,c,4,x,0,0⟩).1) else d
def adN (s:Sh) (c:Int) (d:Wd):Nat->Wd
 | 0=>d
 |n+1=>adS s c (adN s c d n) n
def rG (s:Sh) (c:Int) (d:Wd):Wd:=adN s c (nC s (whoL (λ_=>true) d.l d.l.length) d) s.c.toNat
theorem ym5(s:Sh)(l:List Int)(c:Int)(d:Wd):nC s (l++[c]) d=(nC s l d).rest s c:=by unfold nC;rw[List.foldl_append];rfl
theorem BS{s:Sh}(h:mayB s.p s.c s.m=true):GA s<=8000:=by
 have hb:=JA.1 h;unfold GA;omega
section

variable {s:Sh}{d:Wd}{n:Nat}{c:Int}

theorem vS(l:List Int)(h:AI s d n):AI s (nC s l d) (n+l.length*GA s):=by
 induction l generalizing d n with
 |nil=>exact RD (show AI s (nC s [] d) n from h) (by simp);|cons a l b=>have h1:=b (BI (c:=a) h (GA s));rw[List.length_cons,Nat.add_mul,Nat.one_mul,show n+(l.length*GA s+GA s)=n+GA s+l.length*GA s by omega];exact h1
theorem SS(h:AI s d n)(x:Int):AI s (adS s c d x) (n+1+GA s):=by
 unfold adS;split
 .split
  .exact BI (SD h ⟨2,c,4,x,0,0⟩) (GA s)
  exact RD (SD h ⟨2,c,4,x,0,0⟩) (by omega)
 exact RD h (by omega)
theorem yO(h:AI s d n)(i:Nat):AI s (adN s c d i) (n+i*(1+GA s)):=by
 induction i with
 |zero=>exact RD (show AI s (adN s c d 0) n from h) (by simp);|succ i b=>have h1:=SS (c:=c) b i;rw[Nat.add_mul,Nat.one_mul,<- Nat.add_assoc,<- Nat.add_assoc];exact h1
theorem ynx{x:Int}(h:wdOk s d n)(f:x≠c):(d.goS s c).kl x=d.kl x:=by
 unfold Wd.goS;cases hk:d.kl c with
 |none=>rfl;|some k=>
  dsimp only;split
  .obtain⟨_,_,b⟩:=h.kl _ _ hk;have hi:c.toNat<d.l.length:=by rw[h.len];omega
   rw[OH hk b];unfold Wd.step;dsimp only;rw[d.IB b.1 hi,jN f]
  rfl
theorem UK{x:Int}(h:wdOk s d n)(b:x≠c)(i:Nat):(d.goN s c i).kl x=d.kl x:=by
 induction i with
 |zero=>rfl
 |succ i f=>exact(ynx (QD h i) b).trans f
theorem eS{x:Int}(h:wdOk s d n)(b:Rest d x)(c:Int):Rest (d.rest s c) x:=by
 obtain⟨k,h1,h2⟩:=b;by_cases e:x=c
 .subst e;refine⟨k,?_,h2⟩;have:=xI (s:=s) (d:=d) (c:=x) (i:=0) h1 h2 (GA s);unfold Wd.rest;rw[Nat.zero_add]at this;rw[this];exact h1
 exact⟨k,(UK h e _).trans h1,h2⟩
theorem TR(h:wdOk s d n){k:Kl}(b:d.kl c=some k):Rest (d.rest s c) c:=by
 rcases hj:k.job with _|j
 .exact eS h ⟨k,b,hj⟩ c
 have f:Due d c k.steps:=⟨k,b,.inl ⟨by rw[hj];exact λe=>(by cases e),rfl⟩⟩;have hs:=(h.kl _ _ b).1.st;have hb:=h.fi.bd;obtain⟨i,h1,h2,_⟩:=CN (QD h (GA s)) (lJ h f (GA s)) (by unfold GA;omega);exact⟨i,h1,h2⟩
theorem YR{x:Int}(h:wdOk s d n)(f:∃k,d.kl x=some k)(c:Int):∃k,(d.rest s c).kl x=some k:=by
 obtain⟨k,b⟩:=f;by_cases e:x=c
 .subst e;obtain⟨i,h1,_⟩:=TR h b;exact⟨i,h1⟩
 exact⟨k,(UK h e _).trans b⟩
theorem uO(h:wdOk s d n)(b:Rest d c)(x:Int):Rest (adS s c d x) c:=by
 unfold adS;split
 .rw[jP (yI (o:=⟨4,x,0⟩) h b ⟨show (1:Int)<=4 by decide,Int.le_refl _⟩)];exact PK (o:=⟨4,x,0⟩) h b ⟨show (1:Int)<=4 by decide,Int.le_refl _⟩
 exact b
end

theorem uZ{xs:List Int}{i:Int}(h0:0<=i)(h1:i<xs.length):wd xs i=xs[i.toNat]'(by omega):=by
 unfold wd;rw[List.getD_eq_getElem?_getD,List.getElem?_eq_getElem (by omega)];rfl
theorem Hp.EL{h:Hp}(b:h.fit)(i:Int):0<=wd h.xs i/\wd h.xs i<18446744073709551616:=by
 unfold wd;rw[List.getD_eq_getElem?_getD];rcases Nat.lt_or_ge i.toNat h.xs.length with h1|h1
 .rw[List.getElem?_eq_getElem h1];exact b _ (List.getElem_mem h1)
 rw[List.getElem?_eq_none h1];exact⟨by decide,by decide⟩
theorem Hp.mR{h:Hp}{a:Int}(b:(h.pb a&&h.pk a==4)=true):h.pa a<a/\a-8<h.pa a/\0<=h.pa a:=by
 simp only[jC,beq_iff_eq]at b;have:=h.nQ b.1;rw[b.2]at this;simp[qB]at this;exact⟨this.1,this.2,(h.EJ a).2.1.1⟩
theorem Hp.yfx{h:Hp}{a:Int}(h0:0<=a)(h1:a<h.p):0<=h.hd a/\h.hd a<h.p:=by
 unfold Hp.hd;split
 .rename_i b;have:=Hp.mR b;omega
 exact⟨h0,h1⟩
abbrev shV (h:Hp):Value:=.agg #[h.p,h.c,h.m]
abbrev mF (h:Hp) (v:Value):Value:=.agg #[h.p,h.c,h.m,v]
theorem jL(h:Hp)(v:Value)(w:World)(hr:RdZ .u64 w v h.xs):
  Calls Tryz.prog 54 #[shV h,v] w λe w'=>e=.returned (.tuple #[mF h v,h.ok])/\Below w.heap.size w w':=by
 obtain⟨ao,cap,rfl,b5,b6,b1⟩:=hr.cells;clear b1 hr;have D:h.ok=(mayB h.p h.c h.m&&decide (xB h.p h.c h.m<=(h.xs.length:Int))):=rfl;have I:=BC h.p h.c h.m;have U:=pW h.p h.c h.m;generalize h.xs.length=n at*;generalize xB h.p h.c h.m=T at*;generalize mayB h.p h.c h.m=mb at*;replace I:=hd' I;replace U:=hd' U;rcases jB mb with Z|Z;case inr=>
  subst Z;rw[D];clear D;go_in;go_upto_region 1 with fail;obtain⟨z,j,J,y⟩:=vE w (.cells #[h.p,h.c,h.m] 23) (.cells #[.int .i64 0,.int .i64 0,.int .i64 0,.slice none 0 0] 115);generalize (w.alloc (.cells #[h.p,h.c,h.m] 23)).alloc (.cells #[.int .i64 0,.int .i64 0,.int .i64 0,.slice none 0 0] 115)=W at*;obtain⟨H,hH,r⟩:=hidv w.heap.size;rw[<-r]at z j J y|-;clear r;have c0:=iA z 0;have c1:=iA z 1;have c2:=iA z 2;have r0:=iA j 0;have r1:=iA j 1;have r2:=iA j 2;have r3:=iA j 3;have f0:=KA j 0;have f1:=KA j 1;have f2:=KA j 2;have f3:=KA j 3;have l0:H<W.heap.size:=by omega
  have l1:H+1<W.heap.size:=by omega
  refine wp_region_held_drew (S:=λX=>X.cell? ⟨H,0,.none⟩=some (.int .i64 h.p)/\X.cell? ⟨H,1,.none⟩=some (.int .i64 h.c)/\X.cell? ⟨H,2,.none⟩=some (.int .i64 h.m)) (by kernel_rfl) ⟨c0,c1,c2⟩ (λhHeld=>?_);refine wpAnyH_take (i:=0) (v:=.agg #[h.p,h.c,h.m]) rfl (by kernel_rfl) (by kernel_rfl) (by kernel_rfl) (λ_ _ _ h=>h) (Or.inl ⟨by rfl,λV ⟨q0,q1,q2⟩=>by go_simp⟩) (by assumption) ?_;dsimp only[Act.put,List.getElem_toArray,List.getElem_cons_succ,List.getElem_cons_zero];simp only[List.setIfInBounds_toArray,List.set_cons_zero,List.set_cons_succ];refine wpAnyH_take (i:=1) (v:=.slice ao n cap) rfl (by kernel_rfl) (by kernel_rfl) (by kernel_rfl) (λ_ _ _ h=>h) (Or.inl ⟨by rfl,λV ⟨q0,q1,q2⟩=>by go_simp⟩) (by assumption) ?_;dsimp only[Act.put,List.getElem_toArray,List.getElem_cons_succ,List.getElem_cons_zero];simp only[List.setIfInBounds_toArray,List.set_cons_zero,List.set_cons_succ];refine wpAnyH_take (i:=2) (v:=.agg #[h.p,h.c,h.m,.slice ao n cap]) rfl (by kernel_rfl) (by kernel_rfl) (by kernel_rfl) (λ_ _ _ h=>h) (Or.inl ⟨by rfl,λV ⟨q0,q1,q2⟩=>by go_simp⟩) (by assumption) ?_;dsimp only[Act.put,List.getElem_toArray,List.getElem_cons_succ,List.getElem_cons_zero];simp only[List.setIfInBounds_toArray,List.set_cons_zero,List.set_cons_succ];refine wpAnyH_take (i:=3) (v:=.agg #[h.p,h.c,h.m]) rfl (by kernel_rfl) (by kernel_rfl) (by kernel_rfl) (λ_ _ _ h=>h) (Or.inl ⟨by rfl,λV ⟨q0,q1,q2⟩=>by go_simp⟩) (by assumption) ?_;dsimp only[Act.put,List.getElem_toArray,List.getElem_cons_succ,List.getElem_cons_zero];simp only[List.setIfInBounds_toArray,List.set_cons_zero,List.set_cons_succ];refine wpAnyH_ready (rs:=[4]) (by kernel_rfl) (by simp) ?_;refine AllReadyH.cons rfl (λK C=>?_) AllReadyH.nil;rw[jP (by rfl)];go_simp;refine(I _).mono ?_;rintro e w1 ⟨rfl,rfl⟩;dsimp only;have l:Below W.heap.size W (W.drew.alloc (.cells #[h.p,h.c,h.m] 23)):=(br.drew).alloc lr _;have E:=y.trans (l.mono (by omega));have b2:=kA l _ _ _ c0;have b3:=kA l _ _ _ c1;have b4:=kA l _ _ _ c2;have L:=kA l _ _ _ r0;have M:=kA l _ _ _ r1;have O:=kA l _ _ _ r2;have R:=kA l _ _ _ r3;have b0:=λo=>(XA l (H+1) o l1).trans (KA j o);generalize W.drew.alloc (.cells #[h.p,h.c,h.m] 23)=W2 at*;refine C _ _ ⟨b2,b3,b4⟩ (λhHeld=>?_);clear C K;refine wpAnyH_take (i:=5) (v:=.bool false) rfl (by kernel_rfl) (by kernel_rfl) (by kernel_rfl) (λ_ _ _ h=>h) (Or.inl ⟨by rfl,λV ⟨q0,q1,q2⟩=>by go_simp⟩) (by assumption) ?_;dsimp only[Act.put,List.getElem_toArray,List.getElem_cons_succ,List.getElem_cons_zero];simp only[List.setIfInBounds_toArray,List.set_cons_zero,List.set_cons_succ];refine wpAnyH_take (i:=6) (v:=undef) rfl (by kernel_rfl) (by kernel_rfl) (by kernel_rfl) (λ_ _ _ h=>h) (Or.inr ⟨by rfl,rfl⟩) (by assumption) ?_;dsimp only[Act.put,List.getElem_toArray,List.getElem_cons_succ,List.getElem_cons_zero];simp only[List.setIfInBounds_toArray,List.set_cons_zero,List.set_cons_succ];refine wpAnyH_take (i:=7) (v:=undef) rfl (by kernel_rfl) (by kernel_rfl) (by kernel_rfl) (λ_ _ _ h=>h) (Or.inr ⟨by rfl,rfl⟩) (by assumption) ?_;dsimp only[Act.put,List.getElem_toArray,List.getElem_cons_succ,List.getElem_cons_zero];simp only[List.setIfInBounds_toArray,List.set_cons_zero,List.set_cons_succ];refine wpAnyH_take (i:=8) (v:=undef) rfl (by kernel_rfl) (by kernel_rfl) (by kernel_rfl) (λ_ _ _ h=>h) (Or.inr ⟨by rfl,rfl⟩) (by assumption) ?_;dsimp only[Act.put,List.getElem_toArray,List.getElem_cons_succ,List.getElem_cons_zero];simp only[List.setIfInBounds_toArray,List.set_cons_zero,List.set_cons_succ];refine wpAnyH_take (i:=9) (v:=undef) rfl (by kernel_rfl) (by kernel_rfl) (by kernel_rfl) (λ_ _ _ h=>h) (Or.inr ⟨by rfl,rfl⟩) (by assumption) ?_;dsimp only[Act.put,List.getElem_toArray,List.getElem_cons_succ,List.getElem_cons_zero];simp only[List.setIfInBounds_toArray,List.set_cons_zero,List.set_cons_succ];refine wpAnyH_take (i:=10) (v:=undef) rfl (by kernel_rfl) (by kernel_rfl) (by kernel_rfl) (λ_ _ _ h=>h) (Or.inr ⟨by rfl,rfl⟩) (by assumption) ?_;dsimp only[Act.put,List.getElem_toArray,List.getElem_cons_succ,List.getElem_cons_zero];simp only[List.setIfInBounds_toArray,List.set_cons_zero,List.set_cons_succ];refine wpAnyH_take (i:=11) (v:=.bool false) rfl (by kernel_rfl) (by kernel_rfl) (by kernel_rfl) (λ_ _ _ h=>h) (Or.inl ⟨by rfl,λV ⟨q0,q1,q2⟩=>by go_simp⟩) (by assumption) ?_;dsimp only[Act.put,List.getElem_toArray,List.getElem_cons_succ,List.getElem_cons_zero];simp only[List.setIfInBounds_toArray,List.set_cons_zero,List.set_cons_succ];refine wpAnyH_ready (rs:=[12]) (by kernel_rfl) (by simp) ?_;refine AllReadyH.cons rfl (λK C=>?_) AllReadyH.nil;rw[jP (by rfl)];go_simp;refine C _ _ (by go_keep) (λhHeld=>?_);clear C K;refine wpAnyH_take (i:=13) (v:=.bool false) rfl (by kernel_rfl) (by kernel_rfl) (by kernel_rfl) (λ_ _ _ h=>h) (Or.inl ⟨by rfl,λV ⟨q0,q1,q2⟩=>by go_simp⟩) (by assumption) ?_;dsimp only[Act.put,List.getElem_toArray,List.getElem_cons_succ,List.getElem_cons_zero];simp only[List.setIfInBounds_toArray,List.set_cons_zero,List.set_cons_succ];refine wpAnyH_done (by kernel_rfl) ?_ _;go_wp2;exact bodyPost_ret (v:=.tuple #[.agg #[h.p,h.c,h.m,.slice ao n cap],.bool false]) (by simp[results,Tryz.results54,go_sem,L,M,O,R]) rfl ⟨rfl,by rw[<-hH];exact((((E.setCell (by simp) _).setCell (by simp) _).setCell (by simp) _).setCell (by simp) _)⟩
 case inl=>
  subst Z;rcases jB (decide (T<=(n:Int))) with hd|hd
  .rw[D];clear D;go_in;go_upto_region 1 with fail;obtain⟨z,j,J,y⟩:=vE w (.cells #[h.p,h.c,h.m] 23) (.cells #[.int .i64 0,.int .i64 0,.int .i64 0,.slice none 0 0] 115);generalize (w.alloc (.cells #[h.p,h.c,h.m] 23)).alloc (.cells #[.int .i64 0,.int .i64 0,.int .i64 0,.slice none 0 0] 115)=W at*;obtain⟨H,hH,r⟩:=hidv w.heap.size;rw[<-r]at z j J y|-;clear r;have c0:=iA z 0;have c1:=iA z 1;have c2:=iA z 2;have r0:=iA j 0;have r1:=iA j 1;have r2:=iA j 2;have r3:=iA j 3;have f0:=KA j 0;have f1:=KA j 1;have f2:=KA j 2;have f3:=KA j 3;have l0:H<W.heap.size:=by omega
   have l1:H+1<W.heap.size:=by omega
   have C:∀X Y:World,(X.cell? ⟨H,0,.none⟩=some (.int .i64 h.p)/\X.cell? ⟨H,1,.none⟩=some (.int .i64 h.c)/\X.cell? ⟨H,2,.none⟩=some (.int .i64 h.m))->jW X Y->(Y.cell? ⟨H,0,.none⟩=some (.int .i64 h.p)/\Y.cell? ⟨H,1,.none⟩=some (.int .i64 h.c)/\Y.cell? ⟨H,2,.none⟩=some (.int .i64 h.m)):=λX Y ⟨a,b,c⟩ hb=>⟨kA hb _ _ _ a,kA hb _ _ _ b,kA hb _ _ _ c⟩;replace C:=hd' C;have l:Below W.heap.size W (W.drew.alloc (.cells #[h.p,h.c,h.m] 23)):=(br.drew).alloc lr _
   go_region_held3 (λX=>X.cell? ⟨H,0,.none⟩=some (.int .i64 h.p)/\X.cell? ⟨H,1,.none⟩=some (.int .i64 h.c)/\X.cell? ⟨H,2,.none⟩=some (.int .i64 h.m))
    (first|go_keep|exact C _ _ (by assumption) G)
    (first|(go_at_call 86;refine(I _).mono ?_;rintro e w1 ⟨rfl,rfl⟩)|(go_at_call 88;refine(U _).mono ?_;rintro e V ⟨rfl,G⟩;have q:=l.trans (G.mono (by simp));have L:=kA q _ _ _ r0;have M:=kA q _ _ _ r1;have O:=kA q _ _ _ r2;have R:=kA q _ _ _ r3;have b0:=λo=>(XA q (H+1) o l1).trans (KA j o);have E:=y.trans (q.mono (by omega))))
   go_wp2;exact bodyPost_ret (v:=.tuple #[.agg #[h.p,h.c,h.m,.slice ao n cap],.bool true]) (by simp[results,Tryz.results54,go_sem,L,M,O,R]) rfl ⟨by rw[hd];rfl,by rw[<-hH];exact((((E.setCell (by simp) _).setCell (by simp) _).setCell (by simp) _).setCell (by simp) _)⟩
  rw[D];clear D;go_in;go_upto_region 1 with fail;obtain⟨z,j,J,y⟩:=vE w (.cells #[h.p,h.c,h.m] 23) (.cells #[.int .i64 0,.int .i64 0,.int .i64 0,.slice none 0 0] 115);generalize (w.alloc (.cells #[h.p,h.c,h.m] 23)).alloc (.cells #[.int .i64 0,.int .i64 0,.int .i64 0,.slice none 0 0] 115)=W at*;obtain⟨H,hH,r⟩:=hidv w.heap.size;rw[<-r]at z j J y|-;clear r;have c0:=iA z 0;have c1:=iA z 1;have c2:=iA z 2;have r0:=iA j 0;have r1:=iA j 1;have r2:=iA j 2;have r3:=iA j 3;have f0:=KA j 0;have f1:=KA j 1;have f2:=KA j 2;have f3:=KA j 3;have l0:H<W.heap.size:=by omega
  have l1:H+1<W.heap.size:=by omega
  have C:∀X Y:World,(X.cell? ⟨H,0,.none⟩=some (.int .i64 h.p)/\X.cell? ⟨H,1,.none⟩=some (.int .i64 h.c)/\X.cell? ⟨H,2,.none⟩=some (.int .i64 h.m))->jW X Y->(Y.cell? ⟨H,0,.none⟩=some (.int .i64 h.p)/\Y.cell? ⟨H,1,.none⟩=some (.int .i64 h.c)/\Y.cell? ⟨H,2,.none⟩=some (.int .i64 h.m)):=λX Y ⟨a,b,c⟩ hb=>⟨kA hb _ _ _ a,kA hb _ _ _ b,kA hb _ _ _ c⟩;replace C:=hd' C;have l:Below W.heap.size W (W.drew.alloc (.cells #[h.p,h.c,h.m] 23)):=(br.drew).alloc lr _
  go_region_held3 (λX=>X.cell? ⟨H,0,.none⟩=some (.int .i64 h.p)/\X.cell? ⟨H,1,.none⟩=some (.int .i64 h.c)/\X.cell? ⟨H,2,.none⟩=some (.int .i64 h.m))
   (first|go_keep|exact C _ _ (by assumption) G)
   (first|(go_at_call 86;refine(I _).mono ?_;rintro e w1 ⟨rfl,rfl⟩)|(go_at_call 88;refine(U _).mono ?_;rintro e V ⟨rfl,G⟩;have q:=l.trans (G.mono (by simp));have L:=kA q _ _ _ r0;have M:=kA q _ _ _ r1;have O:=kA q _ _ _ r2;have R:=kA q _ _ _ r3;have b0:=λo=>(XA q (H+1) o l1).trans (KA j o);have E:=y.trans (q.mono (by omega))))
  go_wp2;exact bodyPost_ret (v:=.tuple #[.agg #[h.p,h.c,h.m,.slice ao n cap],.bool false]) (by simp[results,Tryz.results54,go_sem,L,M,O,R]) rfl ⟨by rw[hd];rfl,by rw[<-hH];exact((((E.setCell (by simp) _).setCell (by simp) _).setCell (by simp) _).setCell (by simp) _)⟩
structure Bok (w:World) (v:Value) (h:Hp):Prop where
 ok:h.ok=true
 rd:RdZ .u64 w v h.xs
 fit:h.fit
theorem Bok.below{w w':World}{v:Value}{h:Hp}(b:Bok w v h)(hb:Below w.heap.size w w'):Bok w' v h:=⟨b.ok,b.rd.below hb,b.fit⟩
theorem Bok.may{w:World}{v:Value}{h:Hp}(b:Bok w v h):mayB h.p h.c h.m=true:=by
 have:=b.ok;unfold Hp.ok at this;rw[jC]at this;exact this.1
theorem Bok.len{w:World}{v:Value}{h:Hp}(b:Bok w v h):xB h.p h.c h.m<=(h.xs.length:Int):=by
 have:=b.ok;unfold Hp.ok at this;rw[jC,decide_eq_true_eq]at this;exact this.2
theorem Bok.bd{w:World}{v:Value}{h:Hp}(b:Bok w v h):(1<=h.p/\h.p<=64)/\(1<=h.c/\h.c<=12)/\(0<=h.m/\h.m<=8)/\h.c+h.p+h.p*16+h.c*h.m<=(h.xs.length:Int):=by
 have h1:=JA.1 b.may;have h2:=b.len;unfold xB at h2;rw[jP b.may]at h2;omega
theorem Bok.word{w:World}{v:Value}{h:Hp}(b:Bok w v h)(i:Int)(h0:0<=i)(h1:i<(h.xs.length:Int)):∃g f cap,∃k:Nat,v=.slice (some ⟨g,f,.none⟩) h.xs.length cap/\h.xs.length<=cap/\g<w.heap.size/\i=(k:Int)/\k<h.xs.length/\w.cell? ⟨g,f+k,.none⟩=some (.int .u64 (wd h.xs i)):=by
 obtain⟨ao,cap,e,j,o,l⟩:=b.rd.cells;obtain⟨g,f,rfl,p,hc⟩:=l (λe=>by rw[e]at h1;simp at h1;omega);refine⟨g,f,cap,i.toNat,e,j,p,by omega,by omega,?_⟩;rw[hc i.toNat (by omega),uZ h0 h1]
theorem WG(h:Hp)(v:Value)(a:Int)(w:World)(b:Bok w v h)(ha:0<=a/\a<h.p):
  Calls Tryz.prog 74 #[mF h v,a] w λe w'=>e=.returned (.tuple #[.agg #[.int .i64 (h.pk a),.int .i64 (h.pa a),.int .i64 (h.pn a)],.bool (h.pb a)])/\Below w.heap.size w w':=by
 obtain⟨b1,b2,b3,b4⟩:=b.bd;have b5:=TE (c:=h.c) (m:=h.m) (C:=12) (M:=8) (by omega) (by omega);have J:pA h.p h.c h.m a=h.c+a:=by unfold pA;rw[jP ⟨b.may,BA.2 (by omega)⟩]
 obtain⟨g,i,cap,k,rfl,Z,hg,hk,b9,hc⟩:=b.word (h.c+a) (by omega) (by omega);have T:=h.EL b.fit (h.c+a);have q:=JB h.p h.c h.m a;rw[J,hk]at q;have j:=λw=>GU h.p h.c h.m a (h.pw a) w T.1 T.2;have r:(if LA h.p h.c h.m a (h.pw a)=true then #[.int .i64 (PA (h.pw a)),.int .i64 (nA (h.pw a) 0),.int .i64 (nA (h.pw a) 1)] else #[.int .i64 0,.int .i64 0,.int .i64 0]:Array Value)=#[.int .i64 (h.pk a),.int .i64 (h.pa a),.int .i64 (h.pn a)]:=by unfold Hp.pk Hp.pa Hp.pn;show (if h.pb a=true then _ else _)=_;cases h.pb a<;>rfl
 rw[r]at j;replace j:∀w,jK 111 #[.agg #[h.p,h.c,h.m],a,.int .u64 (h.pw a)] w λe w'=>Below w.heap.size w w'/\e=.returned (.tuple #[.agg #[.int .i64 (h.pk a),.int .i64 (h.pa a),.int .i64 (h.pn a)],.bool (h.pb a)]):=j;have hx:wd h.xs (h.c+a)=h.pw a:=rfl;rw[hx]at hc;generalize h.pw a=x at*;generalize h.pk a=k1 at*;generalize h.pa a=k2 at*;generalize h.pn a=k3 at*;generalize h.pb a=k4 at*;generalize h.xs.length=n at*;replace q:=hd' q;replace j:=hd' j;have b7:(0:Int)<=(k:Int):=by omega
 have b8:(k:Int)<(n:Int):=by omega
 clear r J hk b T hx;go_in;go_upto_region 1 with fail;obtain⟨D,z,S,y⟩:=vE w (.cells #[h.p,h.c,h.m,.slice (some ⟨g,i,.none⟩) n cap] 115) (.cells #[.int .i64 0,.int .i64 0,.int .i64 0] 136);replace hc:=kA y _ _ _ hc;generalize (w.alloc (.cells #[h.p,h.c,h.m,.slice (some ⟨g,i,.none⟩) n cap] 115)).alloc (.cells #[.int .i64 0,.int .i64 0,.int .i64 0] 136)=W at*;obtain⟨H,hH,E⟩:=hidv w.heap.size;rw[<-E]at D z S y|-;have b6:H+1≠g:=by omega
 clear E;have c0:W.cell? ⟨H,0,.none⟩=some (.int .i64 h.p):=iA D 0;have c1:W.cell? ⟨H,1,.none⟩=some (.int .i64 h.c):=iA D 1;have c2:W.cell? ⟨H,2,.none⟩=some (.int .i64 h.m):=iA D 2;have c3:W.cell? ⟨H,3,.none⟩=some (.slice (some ⟨g,i,.none⟩) n cap):=iA D 3;have r0:=iA z 0;have r1:=iA z 1;have r2:=iA z 2;have fR:=KA z;have l0:H<W.heap.size:=by omega
 have l1:H+1<W.heap.size:=by omega
 have O:∀Y,jW W Y->Y.cell? ⟨H,0,.none⟩=some (.int .i64 h.p)/\Y.cell? ⟨H,1,.none⟩=some (.int .i64 h.c)/\Y.cell? ⟨H,2,.none⟩=some (.int .i64 h.m)/\Y.cell? ⟨H,3,.none⟩=some (.slice (some ⟨g,i,.none⟩) n cap)/\Y.cell? ⟨g,i+k,.none⟩=some (.int .u64 x):=λY hb=>⟨kA hb _ _ _ c0,kA hb _ _ _ c1,kA hb _ _ _ c2,kA hb _ _ _ c3,kA hb _ _ _ hc⟩;replace O:=hd' O;have R:Below W.heap.size W W.drew:=br.drew
 go_region_held3 (λY=>Y.cell? ⟨H,0,.none⟩=some (.int .i64 h.p)/\Y.cell? ⟨H,1,.none⟩=some (.int .i64 h.c)/\Y.cell? ⟨H,2,.none⟩=some (.int .i64 h.m)/\Y.cell? ⟨H,3,.none⟩=some (.slice (some ⟨g,i,.none⟩) n cap)/\Y.cell? ⟨g,i+k,.none⟩=some (.int .u64 x))
  (first|go_keep|exact O _ (by assumption))
  (first|(go_at_call 112;refine(q _).mono ?_;rintro e w1 ⟨rfl,hb⟩;have G:=R.trans (hb.mono lr);have I:=G.size)|(go_at_call 111;refine(j _).mono ?_;rintro e w2 ⟨hb,rfl⟩;have l:=G.trans (hb.mono I);have U:=kA l _ _ _ r0;have V:=kA l _ _ _ r1;have X:=kA l _ _ _ r2;have b0:=λo=>(XA l (H+1) o l1).trans (fR o);have L:=y.trans (l.mono (by omega))))
 go_wp2;exact bodyPost_ret (v:=.tuple #[.agg #[k1,k2,k3],k4]) (by simp[results,Tryz.results74,go_sem,U,V,X]) rfl ⟨rfl,by rw[<-hH];exact(((L.setCell (by simp) _).setCell (by simp) _).setCell (by simp) _)⟩
theorem NJ(h:Hp)(v:Value)(a i:Int)(w:World)(b:Bok w v h)(ha:0<=a/\a<h.p)(hi:0<=i/\i<16):
  Calls Tryz.prog 76 #[mF h v,a,i] w λe w'=>e=.returned (.agg #[.int .i64 (h.sk a i),.int .i64 (h.sa a i)])/\Below w.heap.size w w':=by
 obtain⟨b1,b2,b3,b4⟩:=b.bd;have b5:=TE (c:=h.c) (m:=h.m) (C:=12) (M:=8) (by omega) (by omega);have J:bB h.p h.c h.m a i=h.c+h.p+a*16+i:=by unfold bB;rw[jP ⟨b.may,BA.2 (by omega),BA.2 (by omega)⟩]
 obtain⟨g,j,cap,k,rfl,Z,hg,hk,b9,hc⟩:=b.word (h.c+h.p+a*16+i) (by omega) (by omega);have U:=h.EL b.fit (h.c+h.p+a*16+i);have r:=uE h.p h.c h.m a i;rw[J,hk]at r;have l:=λw=>zso (h.sw a i) w U.1 U.2;have y:(if cF (h.sw a i)=true then #[.int .i64 (PA (h.sw a i)),.int .i64 (nA (h.sw a i) 0)] else #[.int .i64 0,.int .i64 0]:Array Value)=#[.int .i64 (h.sk a i),.int .i64 (h.sa a i)]:=by unfold Hp.sk Hp.sa;cases cF (h.sw a i)<;>rfl
 rw[y]at l;replace l:∀w,jK 113 #[.int .u64 (h.sw a i)] w λe w'=>Below w.heap.size w w'/\e=.returned (.agg #[.int .i64 (h.sk a i),.int .i64 (h.sa a i)]):=l;have hx:wd h.xs (h.c+h.p+a*16+i)=h.sw a i:=rfl;rw[hx]at hc;generalize h.sw a i=x at*;generalize h.sk a i=k1 at*;generalize h.sa a i=k2 at*;generalize h.xs.length=n at*;replace r:=hd' r;replace l:=hd' l;have b7:(0:Int)<=(k:Int):=by omega
 have b8:(k:Int)<(n:Int):=by omega
 clear y J hk b U hx;go_in;go_upto_region 1 with fail;obtain⟨D,L,T,z⟩:=vE w (.cells #[h.p,h.c,h.m,.slice (some ⟨g,j,.none⟩) n cap] 115) (.cells #[.int .i64 0,.int .i64 0] 139);replace hc:=kA z _ _ _ hc;generalize (w.alloc (.cells #[h.p,h.c,h.m,.slice (some ⟨g,j,.none⟩) n cap] 115)).alloc (.cells #[.int .i64 0,.int .i64 0] 139)=W at*;obtain⟨H,hH,E⟩:=hidv w.heap.size;rw[<-E]at D L T z|-;have b6:H+1≠g:=by omega
 clear E;have c0:W.cell? ⟨H,0,.none⟩=some (.int .i64 h.p):=iA D 0;have c1:W.cell? ⟨H,1,.none⟩=some (.int .i64 h.c):=iA D 1;have c2:W.cell? ⟨H,2,.none⟩=some (.int .i64 h.m):=iA D 2;have c3:W.cell? ⟨H,3,.none⟩=some (.slice (some ⟨g,j,.none⟩) n cap):=iA D 3;have r0:=iA L 0;have r1:=iA L 1;have fR:=KA L;have l0:H<W.heap.size:=by omega
 have l1:H+1<W.heap.size:=by omega
 have R:∀Y,jW W Y->Y.cell? ⟨H,0,.none⟩=some (.int .i64 h.p)/\Y.cell? ⟨H,1,.none⟩=some (.int .i64 h.c)/\Y.cell? ⟨H,2,.none⟩=some (.int .i64 h.m)/\Y.cell? ⟨H,3,.none⟩=some (.slice (some ⟨g,j,.none⟩) n cap)/\Y.cell? ⟨g,j+k,.none⟩=some (.int .u64 x):=λY hb=>⟨kA hb _ _ _ c0,kA hb _ _ _ c1,kA hb _ _ _ c2,kA hb _ _ _ c3,kA hb _ _ _ hc⟩;replace R:=hd' R;have S:Below W.heap.size W W.drew:=br.drew
 go_region_held3 (λY=>Y.cell? ⟨H,0,.none⟩=some (.int .i64 h.p)/\Y.cell? ⟨H,1,.none⟩=some (.int .i64 h.c)/\Y.cell? ⟨H,2,.none⟩=some (.int .i64 h.m)/\Y.cell? ⟨H,3,.none⟩=some (.slice (some ⟨g,j,.none⟩) n cap)/\Y.cell? ⟨g,j+k,.none⟩=some (.int .u64 x))
  (first|go_keep|exact R _ (by assumption))
  (first|(go_at_call 114;refine(r _).mono ?_;rintro e w1 ⟨rfl,hb⟩;have G:=S.trans (hb.mono lr);have I:=G.size)|(go_at_call 113;refine(l _).mono ?_;rintro e w2 ⟨hb,rfl⟩;have q:=G.trans (hb.mono I);have V:=kA q _ _ _ r0;have X:=kA q _ _ _ r1;have b0:=λo=>(XA q (H+1) o l1).trans (fR o);have O:=z.trans (q.mono (by omega))))
 go_wp2;exact bodyPost_ret (v:=.agg #[k1,k2]) (by simp[results,Tryz.results76,go_sem,V,X]) rfl ⟨rfl,by rw[<-hH];exact((O.setCell (by simp) _).setCell (by simp) _)⟩
section

attribute [local go_sem ↓] wp_at_zero wp_at_succ

attribute [local go_sem ↓] fI eI

theorem cX(h:Hp)(v:Value)(x:Int)(w:World)(b:Bok w v h):
  Calls Tryz.prog 84 #[mF h v,x] w λe w'=>e=.returned (.bool (h.lv x))/\Below w.heap.size w w':=by
 obtain⟨b1,b2,b3,b4⟩:=b.bd;have R:=TE (c:=h.c) (m:=h.m) (C:=12) (M:=8) (by omega) (by omega);have j:=pC h.p h.c h.m x;by_cases L:0<=x/\x<=h.c-1
 .have q:wi x 0 (h.c-1)=true:=BA.2 L;have r:uA h.p h.c h.m x=x:=by unfold uA;rw[jP ⟨b.may,q⟩]
  have y:h.lv x=KN (wd h.xs x):=by unfold Hp.lv;rw[b.may,q];rfl
  obtain⟨g,G,cap,k,rfl,J,hg,S,V,hc⟩:=b.word x (by omega) (by omega);have I:=h.EL b.fit x;have i:=λw=>gP (wd h.xs x) w I.1 I.2;rw[y];rw[r]at j;unfold KN;subst S;generalize wd h.xs (k:Int)=z at*;generalize PA z=k1 at*;generalize nA z 0=O at*;generalize h.xs.length=n at*;have T:(0:Int)<=(k:Int):=by omega
  have U:(k:Int)<(n:Int):=by omega
  have X:g≠w.heap.size:=by omega
  clear r y I b q;rcases jB (ZA k1 O==z) with hs|hs
  .rw[hs]at i|-;replace i:∀w,jK 101 #[.int .u64 z] w λe w'=>Below w.heap.size w w'/\e=.returned (.tuple #[k1,O]):=i;clear hs;replace i:=hd' i;replace j:=hd' j;go_in;go_wp2_with fail;refine(j _).mono ?_;rintro e H ⟨rfl,o⟩;have l:Below w.heap.size w H:=((Below.refl w.heap.size w).alloc lr _).trans (o.mono (by simp));have Y:=kA o _ _ _ (iA (jA w (.cells #[h.p,h.c,h.m,.slice (some ⟨g,G,.none⟩) n cap] 115)) 3);have q1:=kA l _ _ _ hc;go_wp2_with fail;refine(i _).mono ?_;rintro e Z ⟨E,rfl⟩;have D:=l.trans (E.mono l.size);go_wp2;go_ret;exact⟨by rw[Bool.true_and];rfl,D⟩
  rw[hs]at i|-;replace i:∀w,jK 101 #[.int .u64 z] w λe w'=>Below w.heap.size w w'/\e=.returned (.tuple #[.int .i64 0,.int .i64 0]):=i;clear hs;replace i:=hd' i;replace j:=hd' j;go_in;go_wp2_with fail;refine(j _).mono ?_;rintro e H ⟨rfl,o⟩;have l:Below w.heap.size w H:=((Below.refl w.heap.size w).alloc lr _).trans (o.mono (by simp));have Y:=kA o _ _ _ (iA (jA w (.cells #[h.p,h.c,h.m,.slice (some ⟨g,G,.none⟩) n cap] 115)) 3);have q1:=kA l _ _ _ hc;go_wp2_with fail;refine(i _).mono ?_;rintro e Z ⟨E,rfl⟩;have D:=l.trans (E.mono l.size);go_wp2;go_ret;exact⟨rfl,D⟩
 have q:wi x 0 (h.c-1)=false:=zG.2 L;have r:uA h.p h.c h.m x= -1:=by unfold uA;rw[jN (λh=>by rw[q]at h;exact Bool.false_ne_true h.2)]
 have y:h.lv x=false:=by unfold Hp.lv;rw[q,Bool.and_false];rfl
 rw[y];rw[r]at j;replace j:=hd' j;clear r y q;go_in;go_wp2_with fail;refine(j _).mono ?_;rintro e H ⟨rfl,o⟩;have l:Below w.heap.size w H:=((Below.refl w.heap.size w).alloc lr _).trans (o.mono (by simp));go_wp2;go_ret;exact⟨rfl,l⟩
theorem zy8(h:Hp)(v:Value)(a:Int)(w:World)(b:Bok w v h)(S:0<=a/\a<h.p):
  Calls Tryz.prog 82 #[mF h v,a] w λe w'=>e=.returned (.tuple #[.int .i64 (h.hc a),.bool (h.hb a)])/\Below w.heap.size w w':=by
 have D:=Hp.yfx (h:=h) S.1 S.2;have i:=λX R=>WG h v a X (b.below R) S;have z:=λX R=>WG h v (h.hd a) X (b.below R) D;have L:h.hc a=if h.hb a=true then h.pa (h.hd a) else 0:=rfl;have M:h.hb a=(h.pb (h.hd a)&&h.pk (h.hd a)==1):=rfl;by_cases h4:(h.pb a&&h.pk a==4)=true
 .have I:h.hd a=h.pa a:=by unfold Hp.hd;rw[jP h4]
  rw[L,M];rw[I]at z|-;have r:=h4;rw[jC,beq_iff_eq]at r;rw[r.1,r.2]at i;generalize h.pa a=q at*;generalize h.pn a=q' at*;generalize h.pk q=k1 at*;generalize h.pa q=Y at*;generalize h.pn q=Z at*;generalize h.pb q=k4 at*;replace i:=hd' i;replace z:=hd' z;clear L M I h4 r D b;have T:=jB k4;have G:=Decidable.em (k1=1);rcases T with rfl|rfl<;>rcases G with E|E <;>
  .first
    |(have l:(k1==1)=true:=by rw[beq_iff_eq];exact E)
    |(have l:(k1==1)=false:=by rw[beq_eq_false_iff_ne];exact E)
   rw[l];replace l:=hd' l;go_in;go_wp2_with fail;refine(i _ (br.alloc lr _)).mono ?_;rintro e C ⟨rfl,o⟩;have j:Below w.heap.size w C:=((Below.refl w.heap.size w).alloc lr _).trans (o.mono (by simp));have g0:=(o.block _ (by simp)).trans (jA w (.cells #[h.p,h.c,h.m,v] 115));have y:Below w.heap.size w (C.alloc (.cells #[.int .i64 4,q,q'] 136)):=j.alloc j.size _;have hz:=j.size;have U:=jA C (.cells #[.int .i64 4,q,q'] 136);have b1:=(jE g0);have c0:=iA g0 0;have c1:=iA g0 1;have c2:=iA g0 2;have c3:=iA g0 3;go_wp2_with fail;refine(z _ y).mono ?_;rintro e w2 ⟨rfl,J⟩;have H:=(J.block _ (by simp)).trans U;have O:=y.trans (J.mono y.size);have V:C.heap.size<w2.heap.size:=(jE H);have p0:=iA H 0;have p1:=iA H 1;have p2:=iA H 2;have fP:=KA H;clear g0 U H;go_wp2;go_ret2;exact⟨rfl,((O.setCell (by simp;omega) _).setCell (by simp;omega) _).setCell (by simp;omega) _⟩
 have I:h.hd a=a:=by unfold Hp.hd;rw[jN h4]
 rw[L,M];rw[I];have r:h.pb a=false\/(h.pb a=true/\h.pk a≠4):=by
  rcases jB (h.pb a) with h|h
  .right;refine⟨h,λe=>h4 ?_⟩;rw[h,e];rfl
  exact .inl h
 clear L M I h4 D z b;generalize h.pk a=k1 at*;generalize h.pa a=Y at*;generalize h.pn a=Z at*;rcases r with r|⟨r,h6⟩
 .rw[r]at i|-;replace i:=hd' i;clear r;go_in;go_wp2_with fail;refine(i _ (br.alloc lr _)).mono ?_;rintro e C ⟨rfl,o⟩;have j:Below w.heap.size w C:=((Below.refl w.heap.size w).alloc lr _).trans (o.mono (by simp));have y:Below w.heap.size w (C.alloc (.cells #[k1,Y,Z] 136)):=j.alloc j.size _;go_wp2;go_ret2;exact⟨rfl,y⟩
 rw[r]at i|-;replace i:=hd' i;clear r;have b0:(k1==4)=false:=by rw[beq_eq_false_iff_ne];exact h6
 have G:=Decidable.em (k1=1);rcases G with E|E <;>
 .first
   |(have l:(k1==1)=true:=by rw[beq_iff_eq];exact E)
   |(have l:(k1==1)=false:=by rw[beq_eq_false_iff_ne];exact E)
  rw[l];replace l:=hd' l;go_in;go_wp2_with fail;refine(i _ (br.alloc lr _)).mono ?_;rintro e C ⟨rfl,o⟩;have j:Below w.heap.size w C:=((Below.refl w.heap.size w).alloc lr _).trans (o.mono (by simp));go_wp2;go_ret2;exact⟨rfl,j.alloc j.size _⟩
end

theorem Cn.vQ(x y:Cn):(x.add y).sum=x.sum+y.sum:=by simp only[Cn.sum,Cn.add];omega
theorem Cn.NO{x y:Cn}(h:x.nn)(k:y.nn):(x.add y).nn:=by unfold Cn.nn Cn.add at*;simp only;omega
theorem mW(b:Bool)(k:Int):(SE b k).sum=k:=by unfold SE Cn.sum;split<;>simp
theorem MX(b:Bool){k:Int}(h:0<=k):(SE b k).nn:=by unfold SE Cn.nn;split<;>simp[h]
theorem Hp.XY(h:Hp)(a z i:Int):(h.slC a z i).sum=z:=by
 unfold Hp.slC;split
 .simp[Cn.sum]
 split
 .simp[Cn.sum]
 exact mW _ _
theorem Hp.OZ(h:Hp)(a i:Int){z:Int}(b:0<=z):(h.slC a z i).nn:=by
 unfold Hp.slC;split
 .simp[Cn.nn,b]
 split
 .simp[Cn.nn,b]
 exact MX _ b
theorem Hp.JT(h:Hp)(a z:Int)(i:Nat):(h.slS a z i).sum=z*i:=by
 induction i with
 |zero=>simp[Hp.slS,Cn.zero,Cn.sum];|succ i b=>show ((h.slS a z i).add (h.slC a z i)).sum=_;rw[Cn.vQ,b,Hp.XY,Int.natCast_add,Int.mul_add];simp
theorem Hp.iU(h:Hp)(a:Int){z:Int}(b:0<=z)(i:Nat):(h.slS a z i).nn:=by
 induction i with
 |zero=>simp[Hp.slS,Cn.zero,Cn.nn]
 |succ i f=>exact Cn.NO f (h.OZ a i b)
def Hp.count (h:Hp):Cn:=if h.ok=true then h.cn h.p.toNat else Cn.zero
theorem Hp.iZ(h:Hp)(a:Int):(h.pgC a).sum=64:=by
 unfold Hp.pgC;split
 .exact mW _ _
 rename_i h1;simp only[Bool.or_eq_true,Bool.not_eq_true',not_or,Bool.not_eq_false]at h1;split
 .simp[Cn.sum]
 split
 .rename_i h2;have:=Hp.aO (h:=h) (a:=a) (by rw[h1.2,h2];rfl);have hb:=CC (h.pa a);rw[Hp.JT,Int.toNat_of_nonneg hb.1];exact mY this
 simp[Cn.sum]
theorem Hp.sZ(h:Hp)(a:Int):(h.pgC a).nn:=by
 unfold Hp.pgC;split
 .exact MX _ (by decide)
 split
 .simp[Cn.nn]
 split
 .exact h.iU a (GH _).1 _
 simp[Cn.nn]
theorem Hp.SQ(h:Hp)(k:Nat):(h.cn k).sum=64*k:=by
 induction k with
 |zero=>simp[Hp.cn,Cn.zero,Cn.sum];|succ k b=>show ((h.cn k).add (h.pgC k)).sum=_;rw[Cn.vQ,b,Hp.iZ];omega
theorem Hp.jR(h:Hp)(k:Nat):(h.cn k).nn:=by
 induction k with
 |zero=>simp[Hp.cn,Cn.zero,Cn.nn]
 |succ k b=>exact Cn.NO b (h.sZ k)
section

attribute [local go_sem ↓] wp_at_zero wp_at_succ

attribute [local go_sem ↓] fI eI

def oB (w:World) (N:Nat) (c:Cn):Prop:=w.heap[N]?=some (.cells #[c.f,c.t,c.l,c.o] 87 (0,0))
section

variable {w:World}{N:Nat}{c:Cn}

theorem oB.set0(h:oB w N c)(x:Int):oB (w.setCell ⟨N,0,.none⟩ (.int .i64 x)) N ⟨x,c.t,c.l,c.o⟩:=by unfold oB at*;rw[heap_setCell_same w N 0 _ _ _ h];rfl
theorem oB.set1(h:oB w N c)(x:Int):oB (w.setCell ⟨N,1,.none⟩ (.int .i64 x)) N ⟨c.f,x,c.l,c.o⟩:=by unfold oB at*;rw[heap_setCell_same w N 1 _ _ _ h];rfl
theorem oB.set2(h:oB w N c)(x:Int):oB (w.setCell ⟨N,2,.none⟩ (.int .i64 x)) N ⟨c.f,c.t,x,c.o⟩:=by unfold oB at*;rw[heap_setCell_same w N 2 _ _ _ h];rfl
theorem oB.set3(h:oB w N c)(x:Int):oB (w.setCell ⟨N,3,.none⟩ (.int .i64 x)) N ⟨c.f,c.t,c.l,x⟩:=by unfold oB at*;rw[heap_setCell_same w N 3 _ _ _ h];rfl
theorem oB.c0(h:oB w N c):w.cell? ⟨N,0,.none⟩=some (.int .i64 c.f):=iA h 0
theorem oB.c1(h:oB w N c):w.cell? ⟨N,1,.none⟩=some (.int .i64 c.t):=iA h 1
theorem oB.c2(h:oB w N c):w.cell? ⟨N,2,.none⟩=some (.int .i64 c.l):=iA h 2
theorem oB.c3(h:oB w N c):w.cell? ⟨N,3,.none⟩=some (.int .i64 c.o):=iA h 3
theorem oB.fr(h:oB w N c)(i:Nat):w.frozen? ⟨N,i,.none⟩=false:=KA h i
theorem oB.lt(h:oB w N c):N<w.heap.size:=(jE h)
theorem oB.below{w':World}(h:oB w N c)(hb:Below w.heap.size w w'):oB w' N c:=(hb.block N h.lt).trans h
end

abbrev atN (N:Nat):Nat->Prop:=λk=>k=N
theorem XM(w:World)(N:Nat)(c:Cn)(b:Bool)(k:Int)(hc:oB w N c)(i:c.nn)(hs:c.sum<=100000)(q:0<=k/\k<=100000):
  Calls Tryz.prog 83 #[some N,b,k] w λe w'=>e=.returned (.tuple #[])/\Only (atN N) w w'/\oB w' N (c.add (SE b k)):=by
 have hb:=Cn.bd i hs;have c2:=hc.c2;have c3:=hc.c3;have f2:=hc.fr 2;have j:=hc.fr 3;have r:=wrp (c.l+k);have t:=wrp (c.o+k);rcases jB b with rfl|rfl
 .go_in;go_wp2;go_end0;refine⟨rfl,(Only.refl (atN N) w).setCell (p:=⟨N,2,.none⟩) (.inl rfl) _,?_⟩;have:=hc.set2 (c.l+k);simpa[Cn.add,SE] using this
 go_in;go_wp2;go_end0;refine⟨rfl,(Only.refl (atN N) w).setCell (p:=⟨N,3,.none⟩) (.inl rfl) _,?_⟩;have:=hc.set3 (c.o+k);simpa[Cn.add,SE] using this
theorem Only.xC{N:Nat}{w w':World}(o:Only (atN N) w w'){b:Nat}(hb:b<w.heap.size)(f:b≠N)(i:Nat):w'.cell? ⟨b,i,.none⟩=w.cell? ⟨b,i,.none⟩:=by
 have:=o.block b hb f;simp only[World.cell?];rw[this]
theorem Only.cJ{N B:Nat}{b w w':World}(h:Below B b w)(o:Only (atN N) w w')(f:B<=w.heap.size)(i:B<=N):Below B b w':=h.trans (o.below f λk j=>by rw[j];exact i)
theorem z2f(k:Int)(i:Nat)(h:(i:Int)<=mA k):zA k*i<=512/\0<=zA k*i:=by
 have h1:=GH k;have h2:=CC k;have:=TE (c:=zA k) (m:=(i:Int)) (C:=32) (M:=16) (by omega) (by omega);omega
theorem zyk(h:Hp)(v:Value)(a k:Int)(w0 w:World)(N:Nat)(c:Cn)(b:Bok w0 v h)(ha:0<=a/\a<h.p)(hB:Below w0.heap.size w0 w)(hN:w0.heap.size<=N)(hc:oB w N c)(hn:c.nn)(hs:c.sum<=5000):
  Calls Tryz.prog 85 #[mF h v,a,k,some N] w λe w'=>e=.returned (.tuple #[])/\Only (atN N) w w'/\oB w' N (c.add (h.slS a (zA k) (mA k).toNat)):=by
 have b5:=λi X (hX:Below w0.heap.size w0 X) hi=>NJ h v a i X (b.below hX) ha hi;have b3:=λx X (hX:Below w0.heap.size w0 X)=>cX h v x X (b.below hX);have Y:=gD k;have b6:=vH k;have bn:=CC k;have bp:=GH k;have b1:=λi=>z2f k i;obtain⟨q,hq⟩:∃q:Nat,mA k=q:=⟨(mA k).toNat,by omega⟩;rw[hq]at Y bn b1|-;rw[Int.toNat_natCast];generalize zA k=z at*;have O:c.add (h.slS a z 0)=c:=Cn.add_zero c;have R:∀i,c.add (h.slS a z (i+1))=(c.add (h.slS a z i)).add (h.slC a z i):=λi=>(Cn.add_assoc _ _ _).symm;have S:∀i,(c.add (h.slS a z i)).nn:=λi=>Cn.NO hn (h.iU a bp.1 i);have U:∀i:Nat,i<=q->(c.add (h.slS a z i)).sum<=6000:=λi hi=>by have:=b1 i (by omega);rw[Cn.vQ,h.JT];omega
 have b0:∀i,h.slC a z i=if h.sk a i=1 then⟨z,0,0,0⟩ else if h.sk a i=3 then⟨0,z,0,0⟩ else SE (h.sk a i==2&&h.lv (h.sa a i)) z:=λ_=>rfl;generalize b8:(λi=>c.add (h.slS a z i))=T at*;have b9:∀i,c.add (h.slS a z i)=T i:=λi=>by rw[<-b8]
 simp only[b9]at O R S U|-;clear b8 b9;replace b5:=hd' b5;replace b3:=hd' b3;replace Y:=hd' Y;replace b6:=hd' b6;replace O:=hd' O;replace R:=hd' R;replace S:=hd' S;replace U:=hd' U;replace b0:=hd' b0;have bs:=hc.lt;clear hq b1 b;go_in;go_wp2_with fail;refine(b6 _).mono ?_;rintro e w2 ⟨rfl,hw⟩;obtain rfl:=hw.symm;clear hw;go_wp2_with fail;refine(Y _).mono ?_;rintro e w2 ⟨rfl,hw⟩;obtain rfl:=hw.symm;clear hw;obtain⟨H,hH,b7⟩:=hidv w.heap.size;have y:H≠N:=by omega
 have g0:=jA w (.cells #[h.p,h.c,h.m,v] 115);have hW:Only (atN N) w (w.alloc (.cells #[h.p,h.c,h.m,v] 115)):=(Only.refl _ _).alloc _;have M:=hB.alloc hB.size (.cells #[h.p,h.c,h.m,v] 115);have bi:oB (w.alloc (.cells #[h.p,h.c,h.m,v] 115)) N c:=hc.below (br.alloc lr _);have C:H<(w.alloc (.cells #[h.p,h.c,h.m,v] 115)).heap.size:=by simp;omega
 have bq:N<(w.alloc (.cells #[h.p,h.c,h.m,v] 115)).heap.size:=by simp;omega
 rw[<-b7]at g0|-;clear b7;generalize w.alloc (.cells #[h.p,h.c,h.m,v] 115)=W at*;have c0:W.cell? ⟨H,0,.none⟩=some (.int .i64 h.p):=iA g0 0;have c1:W.cell? ⟨H,1,.none⟩=some (.int .i64 h.c):=iA g0 1;have c2:W.cell? ⟨H,2,.none⟩=some (.int .i64 h.m):=iA g0 2;have c3:W.cell? ⟨H,3,.none⟩=some v:=iA g0 3;clear g0;go_wp2_with fail;go_loopw [15] (λvi wr=>∃i:Nat,i<=q/\vi=.int .i64 i/\Only (atN N) W wr/\oB wr N (T i)) (λvi _=>q-(intOf vi).toNat);case atStart=>exact⟨0,Nat.zero_le _,rfl,Only.refl _ _,by rw[O];exact bi⟩
 case round=>
  obtain⟨i,hi,rfl,r,J⟩:=hrel;have d0:=(r.xC C y 0).trans c0;have d1:=(r.xC C y 1).trans c1;have d2:=(r.xC C y 2).trans c2;have d3:=(r.xC C y 3).trans c3;have bh:=Only.cJ M r M.size hN;by_cases bm:i<q
  .have G:=b5 i wr bh (by omega);have j:=R i;rw[b0 i]at j;have b4:=S i;have bf:=U i hi;have bw:=Cn.bd b4 bf;have V:=b3 (h.sa a i);generalize h.sk a i=k4 at*;generalize h.sa a i=Z at*;generalize h.lv Z=lb at*;generalize T i=D at*;replace G:=hd' G;replace V:=hd' V;by_cases E:k4=1
   .rw[jP E]at j;subst E;replace j:=hd' j;go_wp2_with fail;refine G.out.mono ?_;rintro e w3 ⟨rfl,l⟩;have o:=(J.below l).below (br.alloc lr (.cells #[.int .i64 1,Z] 139));have I:Only (atN N) W (w3.alloc (.cells #[.int .i64 1,Z] 139)):=(r.trans (Only.of_below l) (λ_ _ h=>h)).alloc _;have q0:=o.c0;have q1:=o.fr 0;have w4:=wrp (D.f+z);go_wp2;refine⟨⟨i+1,by omega,by go_num,I.setCell (p:=⟨N,0,.none⟩) (.inl rfl) _,?_⟩,by simp[intOf];omega⟩;have:=o.set0 (D.f+z);rw[j];simpa[Cn.add] using this
   by_cases L:k4=3
   .rw[jN E,jP L]at j;subst L;replace j:=hd' j;clear E;go_wp2_with fail;refine G.out.mono ?_;rintro e w3 ⟨rfl,l⟩;have o:=(J.below l).below (br.alloc lr (.cells #[.int .i64 3,Z] 139));have I:Only (atN N) W (w3.alloc (.cells #[.int .i64 3,Z] 139)):=(r.trans (Only.of_below l) (λ_ _ h=>h)).alloc _;have q0:=o.c1;have q1:=o.fr 1;have w4:=wrp (D.t+z);go_wp2;refine⟨⟨i+1,by omega,by go_num,I.setCell (p:=⟨N,1,.none⟩) (.inl rfl) _,?_⟩,by simp[intOf];omega⟩;have:=o.set1 (D.t+z);rw[j];simpa[Cn.add] using this
   rw[jN E,jN L]at j;have bu:(k4==1)=false:=by rw[beq_eq_false_iff_ne];exact E
   have bv:(k4==3)=false:=by rw[beq_eq_false_iff_ne];exact L
   by_cases bb:k4=2
   .subst bb;replace j:T (i+1)=D.add (SE lb z):=j;replace j:=hd' j;clear E L;go_wp2_with fail;refine G.out.mono ?_;rintro e w3 ⟨rfl,l⟩;have o:=(J.below l).below (br.alloc lr (.cells #[.int .i64 2,Z] 139));have I:Only (atN N) W (w3.alloc (.cells #[.int .i64 2,Z] 139)):=(r.trans (Only.of_below l) (λ_ _ h=>h)).alloc _;have e0:=(I.xC C y 0).trans c0;have e1:=(I.xC C y 1).trans c1;have e2:=(I.xC C y 2).trans c2;have e3:=(I.xC C y 3).trans c3;have bg:=Only.cJ M I M.size hN;go_wp2_with fail;refine(V _ bg).mono ?_;rintro e w4 ⟨rfl,ba⟩;have bj:=o.below ba;have o4:=I.trans (Only.of_below ba) (λ_ _ h=>h);go_wp2_with fail;refine(XM _ N D lb z bj b4 (by omega) (by omega)).mono ?_;rintro e w5 ⟨rfl,o5,b2⟩;go_wp2;exact⟨⟨i+1,by omega,by go_num,o4.trans o5 (λ_ _ h=>h),by rw[j];exact b2⟩,by simp[intOf];omega⟩
   have bc:(k4==2)=false:=by rw[beq_eq_false_iff_ne];exact bb
   rw[bc,Bool.false_and]at j;replace j:=hd' j;clear V;go_wp2_with fail;refine G.out.mono ?_;rintro e w3 ⟨rfl,l⟩;have o:=(J.below l).below (br.alloc lr (.cells #[k4,Z] 139));have I:Only (atN N) W (w3.alloc (.cells #[k4,Z] 139)):=(r.trans (Only.of_below l) (λ_ _ h=>h)).alloc _;go_wp2_with fail;refine(XM _ N D false z o b4 (by omega) (by omega)).mono ?_;rintro e w5 ⟨rfl,o5,b2⟩;go_wp2;exact⟨⟨i+1,by omega,by go_num,I.trans o5 (λ_ _ h=>h),by rw[j];exact b2⟩,by simp[intOf];omega⟩
  have bk:i=q:=by omega
  subst bk;clear bm;have bx:¬((i:Int)<(i:Int)):=by omega
  go_wp2;go_end0;exact⟨rfl,hW.trans r (λ_ _ h=>h),J⟩
end

section

attribute [local go_sem ↓] wp_at_zero wp_at_succ

theorem PQ(h:Hp)(v:Value)(w:World)(hr:RdZ .u64 w v h.xs)(hf:h.fit):
  Calls Tryz.prog 37 #[shV h,v] w λe w'=>e=.returned (.agg #[h.count.f,h.count.t,h.count.l,h.count.o])/\Below w.heap.size w w':=by
 obtain⟨ao,cap,hv,_,_,_⟩:=hr.cells;generalize h.xs.length=n at hv;subst hv;have I:=λX T=>jL h (.slice ao n cap) X (hr.below (w':=X) T);have c7:h.count=if h.ok=true then h.cn h.p.toNat else Cn.zero:=rfl;obtain⟨S,hS⟩:∃S:Obj,S=.cells #[h.p,h.c,h.m] 23:=⟨_,rfl⟩;obtain⟨Z,hZ⟩:∃Z:Obj,Z=.cells #[.int .i64 0,.int .i64 0,.int .i64 0,.int .i64 0] 87:=⟨_,rfl⟩;obtain⟨t1,t2,t3,t4,t5⟩:=SL w S Z Z;rcases jB h.ok with E|E;case inr=>
  rw[E]at I;rw[c7,E,jN Bool.false_ne_true];replace I:=hd' I;subst hS hZ;go_in;go_wp2_with fail;refine(I _ t5).mono ?_;rintro e w1 ⟨rfl,C⟩;have y:=C.alloc C.size (.cells #[h.p,h.c,h.m,.slice ao n cap] 115);have r1:=(y.block _ (by rw[t4];omega)).trans t2;have r2:=(y.block _ (by rw[t4];omega)).trans t3;have hB:=t5.trans (y.mono t5.size);have a0:=(iA r1 0).trans (show _=some (.int .i64 0) from rfl);have a1:=(iA r1 1).trans (show _=some (.int .i64 0) from rfl);have a2:=(iA r1 2).trans (show _=some (.int .i64 0) from rfl);have a3:=(iA r1 3).trans (show _=some (.int .i64 0) from rfl);have aF:=KA r1;have b0:=(iA r2 0).trans (show _=some (.int .i64 0) from rfl);have b1:=(iA r2 1).trans (show _=some (.int .i64 0) from rfl);have b2:=(iA r2 2).trans (show _=some (.int .i64 0) from rfl);have b3:=(iA r2 3).trans (show _=some (.int .i64 0) from rfl);go_upto_region 3 with fail;generalize w1.alloc (.cells #[h.p,h.c,h.m,.slice ao n cap] 115)=W at*;obtain⟨H,hH,O⟩:=hidv w.heap.size;rw[<-O]at a0 a1 a2 a3 b0 b1 b2 b3 aF hB|-;clear O t1 t2 t3 t4 t5 r1 r2 C y;have b6:H<=H+1:=by omega
  have c4:H+1≠H+1+1:=by omega
  generalize H+1+1=N at*;generalize H+1=R at*;go_wp2;exact bodyPost_ret (v:=.agg #[.int .i64 0,.int .i64 0,.int .i64 0,.int .i64 0]) (by simp[results,Tryz.results37,go_sem,a0,a1,a2,a3]) rfl ⟨rfl,by rw[<-hH];exact((((hB.setCell b6 _).setCell b6 _).setCell b6 _).setCell b6 _)⟩
 case inl=>
  have b:Bok w (.slice ao n cap) h:=⟨E,hr,hf⟩;obtain⟨bp,_,_,_⟩:=b.bd;rw[E]at I;rw[c7,E,jP rfl];have bq:=λa X (T:Below w.heap.size w X) ha=>WG h (.slice ao n cap) a X (b.below T) ha;have bi:=λa X (T:Below w.heap.size w X) ha=>zy8 h (.slice ao n cap) a X (b.below T) ha;have bk:=λx X (T:Below w.heap.size w X)=>cX h (.slice ao n cap) x X (b.below T);obtain⟨P,hP⟩:∃P:Nat,Hid (h.p=P):=⟨h.p.toNat,hd' (by omega)⟩;have bz:h.p.toNat=P:=by have:=hP.out;omega
  rw[bz];clear bz;have Y:∀k:Nat,h.cn (k+1)=(h.cn k).add (h.pgC k):=λ_=>rfl;have V:∀k:Nat,k<=64->(h.cn k).nn/\(h.cn k).sum<=4096:=λk hk=>⟨h.jR k,by rw[h.SQ];omega⟩;have bm:∀a:Int,h.pgC a=if (h.hb a || !h.pb a)=true then SE (h.hb a&&h.lv (h.hc a)) 64 else if h.pk a=0 then⟨64,0,0,0⟩ else if h.pk a=2 then h.slS a (zA (h.pa a)) (mA (h.pa a)).toNat else⟨0,64,0,0⟩:=λ_=>rfl;replace I:=hd' I;replace bq:=hd' bq;replace bi:=hd' bi;replace bk:=hd' bk;replace Y:=hd' Y;replace V:=hd' V;replace bm:=hd' bm;replace E:=hd' E;subst hS hZ;go_in;go_wp2_with fail;refine(I _ t5).mono ?_;rintro e w1 ⟨rfl,C⟩;have y:=C.alloc C.size (.cells #[h.p,h.c,h.m,.slice ao n cap] 115);have r0:=(y.block _ (by rw[t4];omega)).trans t1;have r1:=(y.block _ (by rw[t4];omega)).trans t2;have r2:=(y.block _ (by rw[t4];omega)).trans t3;have r3:=jA w1 (.cells #[h.p,h.c,h.m,.slice ao n cap] 115);have hB:=t5.trans (y.mono t5.size);have bg:=C.size;go_upto_region 3 with fail;obtain⟨H,hH,O⟩:=hidv w.heap.size;obtain⟨K,hK,bx⟩:=hidv w1.heap.size;rw[<-bx]at r3|-;rw[<-O]at r0 r1 r2|-;have cp:H+2<K:=by rw[t4]at bg;omega
  have lS:=(jE r0);have lR:=(jE r1);have M:=(jE r3);have bc:w.heap.size<=H+1+1:=by omega
  have c9:oB (w1.alloc (.cells #[h.p,h.c,h.m,.slice ao n cap] 115)) (H+1+1) Cn.zero:=r2;clear bx O t1 t2 t3 t4 t5 C y bg r2;generalize w1.alloc (.cells #[h.p,h.c,h.m,.slice ao n cap] 115)=W at*;have s0:W.cell? ⟨H,0,.none⟩=some (.int .i64 h.p):=iA r0 0;have k0:W.cell? ⟨K,0,.none⟩=some (.int .i64 h.p):=iA r3 0;have k1:W.cell? ⟨K,1,.none⟩=some (.int .i64 h.c):=iA r3 1;have k2:W.cell? ⟨K,2,.none⟩=some (.int .i64 h.m):=iA r3 2;have k3:W.cell? ⟨K,3,.none⟩=some (.slice ao n cap):=iA r3 3;have r:K≠H+1+1:=by omega
  have cm:H≠H+1+1:=by omega
  have c4:H+1≠H+1+1:=by omega
  rw[hP]at s0;clear r0 r3;have bf:w.heap.size<=H+1:=by have:=hH.out;omega
  have ch:K<H+1+1\/H+1+1<K:=by omega
  generalize H+1+1=N at*;generalize H+1=R at*;go_wp2_with fail;go_loopw [24] (λvi wr=>∃i:Nat,i<=P/\vi=.int .i64 i/\Only (atN N) W wr/\oB wr N (h.cn i)) (λvi _=>P-(intOf vi).toNat);case atStart=>exact⟨0,Nat.zero_le _,rfl,Only.refl _ _,c9⟩
  case round=>
   obtain⟨i,hi,rfl,J,L⟩:=hrel;have bw:=Only.cJ hB J hB.size bc;have d0:=(J.xC M r 0).trans k0;have d1:=(J.xC M r 1).trans k1;have d2:=(J.xC M r 2).trans k2;have d3:=(J.xC M r 3).trans k3;by_cases cd:i<P
   .have b4:0<=(i:Int)/\(i:Int)<h.p:=by have:=hP.out;omega
    have c8:i<=64:=by have:=hP.out;omega
    obtain⟨ba,cf⟩:=V i c8;have cq:=Cn.bd ba cf;have q:=Y i;rw[bm]at q;have bb:=bq i wr bw b4;have b9:=λX T=>bi i X T b4;have bj:=bk (h.hc i);have bs:=λX N c T hN hc hn hs=>zyk h (.slice ao n cap) i (h.pa i) w X N c b b4 T hN hc hn hs;generalize h.pk i=pk at*;generalize h.pa i=pa at*;generalize h.pn i=pn at*;generalize h.pb i=pb at*;generalize h.hb i=hb at*;generalize h.hc i=hc at*;generalize h.lv hc=lb at*;generalize h.cn i=z at*;replace bb:=hd' bb;replace b9:=hd' b9;replace bj:=hd' bj;replace bs:=hd' bs;replace b4:=hd' b4
    have fin:Hid (∀X c,Only (atN N) W X->oB X N c->h.cn (i+1)=c->∃j:Nat,j<=P/\Value.int .i64 ((i:Int)+1)=.int .i64 j/\Only (atN N) W X/\oB X N (h.cn j)):=
     hd' λX c ho hc e=>⟨i+1,by omega,by go_num,ho,by rw[e];exact hc⟩
    go_wp2_with fail;refine bb.out.mono ?_;rintro e w3 ⟨rfl,b7⟩;have o3:Only (atN N) W (w3.alloc (.cells #[pk,pa,pn] 136)):=(J.trans (Only.of_below b7) (λ_ _ h=>h)).alloc _;have c6:=(L.below b7).below (br.alloc lr (.cells #[pk,pa,pn] 136));have g3:=jA w3 (.cells #[pk,pa,pn] 136);have cb:w3.heap.size≠N:=by have:=(L.below b7).lt;omega
    go_upto_region 9 with fail;generalize w3.heap.size=G at g3 cb|-;generalize w3.alloc (.cells #[pk,pa,pn] 136)=W3 at*;have lG:=(jE g3);have bu:=Only.cJ hB o3 hB.size bc;have d0:=(o3.xC M r 0).trans k0;have d1:=(o3.xC M r 1).trans k1;have d2:=(o3.xC M r 2).trans k2;have d3:=(o3.xC M r 3).trans k3;go_wp2_with fail;refine(b9 _ bu).mono ?_;rintro e w4 ⟨rfl,b8⟩;have o4:=o3.trans (Only.of_below b8) (λ_ _ h=>h);have D:=c6.below b8;have bv:=Only.cJ hB o4 hB.size bc;have d0:=(o4.xC M r 0).trans k0;have d1:=(o4.xC M r 1).trans k1;have d2:=(o4.xC M r 2).trans k2;have d3:=(o4.xC M r 3).trans k3;have g4:=(b8.block _ lG).trans g3;have cj:=iA g4;have n0:=D.c0;have n1:=D.c1;have nF:=D.fr;clear bb b9 b7 b8 g3 g4 o3 c6 bu;rcases jB hb with bh|bh
    .subst bh;replace q:h.cn (i+1)=z.add (SE lb 64):=q;replace q:=hd' q;go_wp2_with fail;refine(bj _ bv).mono ?_;rintro e w5 ⟨rfl,c5⟩;have o5:=o4.trans (Only.of_below c5) (λ_ _ h=>h);have ca:=D.below c5;go_wp2_with fail;refine(XM _ _ z lb 64 ca ba (by omega) (by omega)).mono ?_;rintro e w6 ⟨rfl,o6,U⟩;go_wp2;exact⟨fin _ _ (o5.trans o6 (λ_ _ h=>h)) U q.out,by simp[intOf];omega⟩
    subst bh;rcases jB pb with bn|bn
    .subst bn;rw[jN (by simp)]at q;by_cases h0:pk=0
     .rw[jP h0]at q;subst h0;replace q:=hd' q;have cg:=wrp (z.f+64);go_wp2;refine⟨fin _ _ (o4.setCell (p:=⟨N,0,.none⟩) (.inl rfl) _) (D.set0 (z.f+64)) ?_,by simp[intOf];omega⟩;rw[q];simp[Cn.add]
     rw[jN h0]at q;have ck:(pk==0)=false:=by rw[beq_eq_false_iff_ne];exact h0
     by_cases h2:pk=2
     .rw[jP h2]at q;subst h2;replace q:=hd' q;go_wp2_with fail;refine(bs _ _ z bv bc D ba (by omega)).mono ?_;rintro e w6 ⟨rfl,o6,U⟩;go_wp2;exact⟨fin _ _ (o4.trans o6 (λ_ _ h=>h)) U q.out,by simp[intOf];omega⟩
     rw[jN h2]at q;have cl:(pk==2)=false:=by rw[beq_eq_false_iff_ne];exact h2
     replace q:=hd' q;have cg:=wrp (z.t+64);go_wp2;refine⟨fin _ _ (o4.setCell (p:=⟨N,1,.none⟩) (.inl rfl) _) (D.set1 (z.t+64)) ?_,by simp[intOf];omega⟩;rw[q];simp[Cn.add]
    subst bn;replace q:h.cn (i+1)=z.add (SE false 64):=q;replace q:=hd' q;go_wp2_with fail;refine(XM _ _ z false 64 D ba (by omega) (by omega)).mono ?_;rintro e w6 ⟨rfl,o6,U⟩;go_wp2;exact⟨fin _ _ (o4.trans o6 (λ_ _ h=>h)) U q.out,by simp[intOf];omega⟩
   have cc:i=P:=by omega
   subst cc;clear cd;have cr:¬((i:Int)<(i:Int)):=by omega
   have n0:=L.c0;have n1:=L.c1;have n2:=L.c2;have n3:=L.c3;have b5:=(J.block _ lR c4).trans r1;have a0:=(iA b5 0).trans (show _=some (.int .i64 0) from rfl);have a1:=(iA b5 1).trans (show _=some (.int .i64 0) from rfl);have a2:=(iA b5 2).trans (show _=some (.int .i64 0) from rfl);have a3:=(iA b5 3).trans (show _=some (.int .i64 0) from rfl);have aF:=KA b5;go_wp2;exact bodyPost_ret (v:=.agg #[.int .i64 (h.cn i).f,.int .i64 (h.cn i).t,.int .i64 (h.cn i).l,.int .i64 (h.cn i).o]) (by simp[results,Tryz.results37,go_sem,a0,a1,a2,a3]) rfl ⟨rfl,((((bw.setCell bf _).setCell bf _).setCell bf _).setCell bf _)⟩
theorem Bok.slots{w:World}{v:Value}{h:Hp}(b:Bok w v h){a:Int}(R:0<=a/\a<h.p):∃g f cap,v=.slice (some ⟨g,f,.none⟩) h.xs.length cap/\g<w.heap.size/\
  ∀i:Nat,i<16->∃k:Nat,bB h.p h.c h.m a i=(k:Int)/\k<h.xs.length/\w.cell? ⟨g,f+k,.none⟩=some (.int .u64 (h.sw a i)):=by
 obtain⟨H,I,J,L⟩:=b.bd;have D:=TE (c:=h.c) (m:=h.m) (C:=12) (M:=8) (by omega) (by omega);obtain⟨g,f,cap,k0,t,r,E,_,_,_⟩:=b.word 0 (by omega) (by omega);refine⟨g,f,cap,t,E,λi hi=>?_⟩;obtain⟨O,y,q,k,l,_,_,G,o,hc⟩:=b.word (h.c+h.p+a*16+i) (by omega) (by omega);rw[t]at l;injection l with j _ _;injection j with j;injection j with j z;subst j z;refine⟨k,?_,o,hc⟩;unfold bB;rw[jP ⟨b.may,BA.2 (by omega),BA.2 (by omega)⟩,G]
def Hp.mx (h:Hp) (c i:Int):Int:=wd h.xs (h.c+h.p+h.p*16+c*h.m+i)
end

section

variable {s:Sh}{m:Mem}{σ:Ab}

theorem yr3(b:Rep s m σ){c i:Int}(hc:0<=c/\c<s.c)(hi:0<=i/\i<s.m):(hpOf s m).mx c i=(σ.mg c i).enc:=by
 have:=b.mg c i hc hi;rw[(ixs b.fi).2.2.1 c i hc hi]at this;exact this
theorem XK(b:Rep s m σ){c i:Int}(hc:0<=c/\c<s.c)(hi:0<=i/\i<s.m)(h0:(hpOf s m).mx c i≠0):∃p q k,σ.mg c i=.entry p q k/\(hpOf s m).mx c i=(MW.entry p q k).enc:=by
 rw[yr3 b hc hi]at h0|-;cases e:σ.mg c i with
 |none=>rw[e]at h0;exact absurd rfl h0
 |entry p q k=>exact⟨p,q,k,rfl,rfl⟩
end

section

variable {s:Sh}{d:Wd}{n:Nat}{c:Int}

theorem okK.drop{W lo:Int}{l:List Bk}(h:okK W lo l)(k:Nat):∃f,okK W f (l.drop k):=by
 induction l generalizing lo k with
 |nil=>exact⟨lo,by simpa using h⟩
 |cons b l i=>
  cases k with
  |zero=>exact⟨lo,h⟩
  |succ k=>exact i h.2.2 k
end

end Go.Proofs.YtkilokkopbajkaaGreat
