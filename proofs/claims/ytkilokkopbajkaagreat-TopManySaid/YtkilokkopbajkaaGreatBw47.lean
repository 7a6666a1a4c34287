/- Lemmas for the claim. -/
import Derived.Test.YtkilokkopbajkaaGreatBw43

set_option linter.all false
set_option maxHeartbeats 4000000
set_option maxRecDepth 100000
namespace Go.Proofs.YtkilokkopbajkaaGreat

section

section

variable {J:Jd} {e:Ev} {W:Int} {L:List Bk} {o:Op3} {c:Int}

theorem run2{a b:List Ev}(h:(runJ J (a++b)).why=0):(runJ J a).why=0:=by
 rw[YE]at h;exact ZE h
end

end

section

open Go.RowKit

attribute [local go_sem ↓] Go.wp_at_zero Go.wp_at_succ

theorem Hp.yr0{h:Hp}{a:Int}(b:h.pk a≠0):h.pb a=true:=by
 unfold Hp.pk at b;split at b
 ·assumption
 exact absurd rfl b
theorem Hp.yqn{h:Hp}{a:Int}(hs:h.snd a=true)(b:h.pk a=4):(h.pa a<a/\a-8<h.pa a/\0<=h.pa a)/\(h.pk (h.pa a)=1\/(h.pk (h.pa a)=3/\a<h.pa a+h.pa (h.pa a))):=by
 have f:=Hp.CH hs;refine⟨Hp.sN (by rw[f,b];rfl),?_⟩;unfold Hp.snd at hs;rw[jP f,jN (by rw[b];decide),jN (by rw[b];decide),jP b]at hs;simp only[jC,Bool.or_eq_true,beq_iff_eq,decide_eq_true_eq]at hs;exact hs.2
section

variable {B:Nat} {F:Nat->Prop} {W:World} {g:Nat} {s:Sh} {d:Wd} {x:Wx}

theorem z2d(h:WdP B F W g s d x)(hn:d.l.length<=100)(P:Kl->Bool)(T:∀ c k X,d.l.getD c none=some k->Below W.heap.size W X->Calls Tryz.prog 52 #[.pointer (some ⟨x.qs c,0,.none⟩)] X fun e w'=>e= .returned (.bool (P k))/\Below X.heap.size X w'):
  Calls Tryz.prog 51 #[some g,.func (.func 52) #[] #[]] W fun e w'=>∃ v,e= .returned v/\Below W.heap.size W w'/\w'.ownsRow W.heap.size 3 1 v (whoL P d.l d.l.length).length ((whoL P d.l d.l.length).map (Value.int .i64)):=by
 have b1:∀ (p:Nat) (W:World),(binOp .eql 27 (.pointer (some ⟨p,0,.none⟩)) (.pointer none)).run Tryz.prog W= .ok (.bool false) W:=fun p W=>by kernel_rfl
 have b2:∀ (W:World),(binOp .neq 57 (.pointer none) (.pointer none)).run Tryz.prog W= .ok (.bool false) W:=fun W=>by kernel_rfl
 have b3:∀ (p:Nat) (W:World),(binOp .neq 57 (.pointer (some ⟨p,0,.none⟩)) (.pointer none)).run Tryz.prog W= .ok (.bool true) W:=fun p W=>by kernel_rfl
 have c4:=ce (.slice (some ⟨x.lb,0,.none⟩) d.l.length d.l.length) (h.top.cell 4);have lg:=h.top.lt;have j:∀ c X,c<d.l.length->Below W.heap.size W X->X.cell? ⟨x.lb,c,.none⟩=some (ptrK (d.l.getD c none) (x.qs c))/\x.lb<X.heap.size:=fun c X hc hb=>⟨((h.below hb).lst.cell c).trans (by simpa using(h.below hb).pe c hc),(h.below hb).lst.lt⟩;obtain⟨i0,U,V,Y,Z⟩:=info_parts SS;have M:=fun c=>HW P d.l c;have G:=fun c=>VJ P d.l c
 have C:∀ c o,d.l.getD c none=o->whoB P d.l c=match o with
  |some k=>P k
  |none=>false:=fun c o e=>by subst e;rfl
 generalize hL:d.l.length=n at *;replace T:=hd' T;replace j:=hd' j;replace M:=hd' M;replace G:=hd' G;replace C:=hd' C;replace hL:=hd' hL;clear h;go_in;go_wp2;go_loopw [5,15] (fun v5 N wr=>∃ c:Nat,c<=n/\N= .int .i64 c/\Below W.heap.size W wr/\wr.ownsRow W.heap.size 3 1 v5 (whoL P d.l c).length ((whoL P d.l c).map (Value.int .i64))) (fun _ N _=>n-(intOf N).toNat);case atStart=>exact⟨0,Nat.zero_le _,rfl,Below.refl _ _,⟨by simp[whoL],.inl ⟨rfl,by simp[whoL]⟩⟩⟩
 case round=>
  obtain⟨c,b7,rfl,b,m⟩:=hrel;have b5:(0:Int)<=(c:Int):=by omega
  by_cases hc:c<n
  ·have b6:(c:Int)<(n:Int):=by omega
   have bb:IntKind.i64.wrap ((c:Int)+1)=(c:Int)+1:=IntWalk.i64_in _ ⟨by omega,by omega⟩;have z:=j.out c wr hc b;have O:=z.1;have z2:=z.2;have hs:=M.out c;have b8:=G.out c;cases hk:d.l.getD c none with
   |none=>have y:whoB P d.l c=false:=C.out c _ hk;rw[hk]at O;rw[if_neg (by rw[y];decide),List.append_nil]at hs;replace O:wr.cell? ⟨x.lb,c,.none⟩=some (.pointer none):=O;replace hs:=hd' hs;clear y hk z;go_wp2_with fail;exact⟨⟨c+1,by omega,by go_num,b,by rw[hs.out];exact m⟩,by simp only[intOf];omega⟩
   |some k=>
    have y:whoB P d.l c=P k:=C.out c _ hk
    rw[hk]at O
    replace O:wr.cell? ⟨x.lb,c,.none⟩=some (.pointer (some ⟨x.qs c,0,.none⟩)):=O
    have R:=T.out c k wr hk b
    have b4:=b.size
    rw[y]at hs
    generalize P k=pk at *
    generalize whoL P d.l c=L at *
    replace R:=hd' R
    clear y hk z
    cases pk with
    |false=>
     rw[if_neg (by decide),List.append_nil]at hs
     replace hs:=hd' hs
     go_wp2_with (first|(go_at_call 52;(with_reducible refine R.out.mono ?_);rintro r w6 ⟨rfl,q⟩))
     have S:=xA b q
     exact⟨⟨c+1,by omega,by go_num,S,by rw[hs.out];exact vI m q⟩,by simp only[intOf];omega⟩
    |true=>
     rw[if_pos rfl]at hs
     replace hs:=hd' hs
     go_wp2_with (first|(go_at_call 52;(with_reducible refine R.out.mono ?_);rintro r w6 ⟨rfl,q⟩;have S:=xA b q;have ba:=q.size;have E:=vI m q)|(refine cH rfl (.tmp 27) (.tmp 29) 41 rfl W.heap.size 3 i0 _ 1 8 Tryz.underlying41 U V Y Z rfl (by omega) _ L.length _ rfl (E.alloc _) _ 1 [.int .i64 c] rfl (RdS.new (cs:= #[c]) (t:=3) (sz:=1) (n:=1) (heap_alloc_new w6 _) rfl (by omega)) (by intro u hu;simp at hu;subst hu;rfl) (by simp only[maxLen];omega) (by omega) (by simp;omega) ?_;intro v7 w7 I D b0;have h7:=iE (S.alloc (by omega) _) (E.alloc _) (by simp;omega) D))
     exact⟨⟨c+1,by omega,by go_num,h7,by rw[hs.out,List.length_append,List.map_append];exact I⟩,by simp only[intOf];omega⟩
  obtain rfl:c=n:=by omega
  have b9:¬ (c:Int)<(c:Int):=by omega
  go_wp2_with fail;go_returns;exact⟨_,rfl,b,m⟩
theorem jZ(h:WdP B F W g s d x)(p:d.l.length<=100):
  Calls Tryz.prog 14 #[some g] W fun e w'=>∃ v,e= .returned v/\Below W.heap.size W w'/\w'.ownsRow W.heap.size 3 1 v (whoL (fun k=>!k.rests) d.l d.l.length).length ((whoL (fun k=>!k.rests) d.l d.l.length).map (Value.int .i64)):=by
 have y:=hd' (z2d h p (fun k=>!k.rests) (fun c k X m hb=>by
  have hi:=hd' (sQ ((h.below hb).cl c k m))
  generalize k.rests=b at *
  go_in
  go_wp2_with (first
   |(go_at_call 25;(with_reducible refine hi.out.mono ?_);rintro r z ⟨rfl,j⟩;obtain rfl:=j.symm))
  go_returns
  exact⟨rfl,Below.refl _ _⟩))
 clear h;go_in;go_wp2_with (first|(go_at_call 51;(with_reducible refine y.out.mono ?_);rintro r z ⟨v,rfl,hb,q⟩));go_returns;exact⟨_,rfl,hb,q⟩
end

end

section

open Go.RowKit

theorem uAt{W:World}{k:IntKind}{m:List Int}{y:Option Addr}{f:Nat}(hu:RdZ k W (.slice y m.length f) m){j:Nat}(G:j<m.length):∃ q l,y=some ⟨q,l,.none⟩/\∀ X,jW W X->X.cell? ⟨q,l+j,.none⟩=some (.int k m[j])/\q<X.heap.size:=by
 obtain⟨ao,cap,e,h1,h2,h3,h4⟩:=hu;injection e with z I M;subst z;obtain⟨b,p,C,D,E⟩:=h4 (by omega);refine⟨b,p,C,fun X t=>⟨?_,Nat.lt_of_lt_of_le D t.size⟩⟩;have r:=E j (by omega);rw[List.getElem?_map,List.getElem?_eq_getElem G]at r;exact iA t _ _ _ r
section

variable {W0 W W' X:World} {g:Nat} {s:Sh} {Kp:Nat->Obj->Prop} {d d':Wd} {n:Nat}

theorem NR(h:BA W0 g s Kp d W)(b:d.l.length<=100):
  Calls Tryz.prog 14 #[some g] W fun e w'=>∃ v,e= .returned v/\Below W.heap.size W w'/\w'.ownsRow W.heap.size 3 1 v (whoL (fun k=>!k.rests) d.l d.l.length).length ((whoL (fun k=>!k.rests) d.l d.l.length).map (Value.int .i64)):=by
 obtain⟨⟨F,x,h1,h2⟩,h3⟩:=h;exact jZ h1 b
end

end

section

open Go.RowKit

def MB (l:List Bk):Int:=(l.map (·.n)).sum
theorem yiw{W lo:Int}{l:List Bk}(h:okK W lo l):0<=MB l/\MB l<=W-lo:=by
 induction l generalizing lo with
 |nil=>have:=h.le;simp[MB];omega;|cons b l j=>have f:=j h.2.2;have:=h.1;have:=h.2.1;simp only[MB,List.map_cons,List.sum_cons]at f ⊢;omega
theorem BR(l k:List Bk):MB (l++k)=MB l+MB k:=by simp[MB]
end

section

open Go.RowKit

attribute [local go_sem ↓] Go.wp_at_zero Go.wp_at_succ

attribute [local go_sem high] gP mP YO

theorem yic(l:List Bk)(b:Bk):MB (l++[b])=MB l+b.n:=by simp[MB]
theorem SQ{W:Int}{l:List Bk}(h:okK W 0 l)(k:Nat):0<=MB (l.take k)/\MB (l.take k)<=W:=by
 have:=yiw (h.take k);omega
theorem yjl{B s:Nat}{w:World}{sl:Value}{W:Int}{l:List Bk}(h:RM B w s sl W l):
  Calls Tryz.prog 40 #[some s] w fun e w'=>e= .returned (.int .i64 (MB l))/\Below w.heap.size w w':=by
 have c0:=h.cell0;obtain⟨ao,cap,rfl,r,N,q⟩:=h.rd.nth;have hs:=h.small;have y:=h.len;obtain⟨n,I,C⟩:=hidv l.length;rw[<-C]at c0 r y;clear C;go_in;go_wp2;go_loopw [3,4] (fun S G wr=>∃ i:Nat,i<=n/\G= .int .i64 i/\S= .int .i64 (MB (l.take i))/\Below w.heap.size w wr) (fun _ G _=>n-(intOf G).toNat);case atStart=>exact⟨0,Nat.zero_le _,rfl,by simp[MB],Below.refl _ _⟩
 case round=>
  obtain⟨i,hi,rfl,rfl,j⟩:=hrel;have Y:=iA j _ _ _ c0;by_cases z:i<n
  ·have m:i<l.length:=I.out ▸ z;obtain⟨b,R,rfl,hb,hc⟩:=q (fun e=>by rw[e]at m;simp at m);obtain⟨T,M⟩:=hc i m;replace M:=iA j _ _ _ M;have hu:=SQ h.ok i;have E:=SQ h.ok (i+1);have p:MB (l.take (i+1))=MB (l.take i)+l[i].n:=by rw[List.take_succ_eq_append_getElem m,yic]
   rw[p]at E;replace p:=hd' p;generalize l[i].n=V at *;generalize MB (l.take i)=U at *;clear hc q T;go_wp2;exact⟨⟨i+1,by omega,by go_num,by rw[p],j⟩,by simp[intOf];omega⟩
  have D:i=n:=by omega
  subst D;have O:¬ ((i:Int)<(i:Int)):=by omega
  have t:Hid (MB l=MB (l.take i)):=by show _=_;rw[List.take_of_length_le (by rw[<-I];exact Nat.le_refl _)]
  clear z;go_wp2;go_ret;exact⟨OF t.out.symm,j⟩
end

section

def apB (x y:Bk):Prop:=x.a + x.n<=y.a\/y.a + y.n<=x.a
theorem yrb{W lo:Int}{l:List Bk}(h:okK W lo l):l.Pairwise apB:=
 List.pairwise_iff_getElem.2 fun i j hi f b=>.inl (h.lt i j b f)
theorem ER(l:List Bk)(a n:Int):(putB l a n).Perm (⟨a,n⟩::l):=by
 unfold putB;have h:=(List.perm_middle (a:=(⟨a,n⟩:Bk)) (l₁:=l.take (posB a l)) (l₂:=l.drop (posB a l)));rwa [List.take_append_drop]at h
def pf (p:Pt):List Bk:=if p.asks=true/\p.took=true then [⟨p.at',lenV p.n⟩] else []
def aH (J:Jd) (N:Nat):List Bk:=(List.range N).flatMap fun i:Nat=> pf (J.pt (i:Int))
theorem FS(l:List Bk)(p:Pt):pf (abP l p)=pf p:=by
 unfold abP;split<;>rfl
theorem ymp(f g:Nat->List Bk)(N c:Nat)(hc:c<N)(b:∀ i,i<N->i≠c->f i=g i):∃ R,((List.range N).flatMap f).Perm (f c++R)/\((List.range N).flatMap g).Perm (g c++R):=by
 induction N with
 |zero=>omega;|succ N l=>
  rw[List.range_succ,List.flatMap_append,List.flatMap_append,List.flatMap_singleton,List.flatMap_singleton];by_cases e:c=N
  ·subst e;have h:(List.range c).flatMap g=(List.range c).flatMap f:=by
    have:∀ M,M<=c->(List.range M).flatMap g=(List.range M).flatMap f:=by
     intro M
     induction M with
     |zero=>intro _;rfl
     |succ M j=>
      intro m
      rw[List.range_succ,List.flatMap_append,List.flatMap_append,List.flatMap_singleton,List.flatMap_singleton,j (by omega),b M (by omega) (by omega)]
    exact this c lr
   rw[h];exact⟨_,List.perm_append_comm,List.perm_append_comm⟩
  obtain⟨R,h1,h2⟩:=l (by omega) (fun i hi=>b i (by omega));refine⟨R++f N,?_,?_⟩
  ·rw[<-List.append_assoc];exact h1.append_right _
  rw[<-List.append_assoc,b N (by omega) (fun h=>e h.symm)];exact h2.append_right _
theorem EN{J J':Jd}{c N:Nat}{l':List Bk}{v:Pt}(hc:c<N)(j:N=J.ps.length)(h:yG J J' c l' v):∃ R,(aH J N).Perm (pf (J.pt c)++R)/\(aH J' N).Perm (pf v++R):=by
 have h1:=ymp (fun i:Nat=>pf (J.pt (i:Int))) (fun i:Nat=>pf (J'.pt (i:Int))) N c hc (fun i hi b=>by
  show pf _=pf _
  rw[h.other (i:Int) (by omega) (by rw[Int.toNat_natCast];omega) (by omega),FS])
 obtain⟨R,r1,f⟩:=h1;refine⟨R,r1,?_⟩;have e:pf (J'.pt (c:Int))=pf v:=by rw[h.mine,FS]
 rw[<-e];exact f
def manM (M:List Bk) (e:Ev):List Bk:=if e.k=5/\e.er=0 then putB M e.at' (lenV e.on) else M
structure ManI (J:Jd) (M:List Bk) (N:Nat):Prop where
 wy:J.why=0
 nn:N=J.ps.length
 ok:okK J.W 0 J.l
 pm:J.l.Perm (M ++ aH J N)
 mal:∀ i:Nat,i < N->(J.pt i).asks=true->(J.pt i).k=1
 m0:okK J.W 0 M
theorem MN{J J':Jd}{M:List Bk}{N c:Nat}{v:Pt}(h:ManI J M N)(f:yG J J' c J.l v)(hc:c<N)(m:pf v=pf (J.pt c))(j:v.asks=true->v.k=1):ManI J' M N:=by
 obtain⟨R,r1,p⟩:=EN hc h.nn f;refine⟨f.why,by rw[f.pl];exact h.nn,by rw[f.W,f.l];exact h.ok,?_,fun i hi b=>?_,by rw[f.W];exact h.m0⟩
 ·rw[f.l];refine h.pm.trans (List.Perm.append_left _ (r1.trans ?_));rw[<-m];exact p.symm
 by_cases e:i=c
 ·subst e;rw[f.mine]at b ⊢;unfold abP at b ⊢;split at b
  ·rename_i h1;rw[jP h1];exact j b
  rename_i h1;rw[jN h1];exact j b
 have h1:=f.other (i:Int) (by omega) (by rw[Int.toNat_natCast];have:=h.nn;omega) (by omega);rw[h1]at b ⊢;have h2:=h.mal i hi;unfold abP at b ⊢;split at b
 ·rename_i h3;rw[jP h3];exact h2 b
 rename_i h3;rw[jN h3];exact h2 b
theorem mS{J J':Jd}{M:List Bk}{N c:Nat}{l':List Bk}{v:Pt}(h:ManI J M N)(f:yG J J' c l' v)(j:v.asks=true->v.k=1):∀ i:Nat,i<N->(J'.pt i).asks=true->(J'.pt i).k=1:=fun i hi b=>by
 by_cases e:i=c
 ·subst e
  rw[f.mine]at b ⊢
  unfold abP at b ⊢
  split at b
  ·rename_i h1;rw[jP h1];exact j b
  ·rename_i h1;rw[jN h1];exact j b
 ·have h1:=f.other (i:Int) (by omega) (by rw[Int.toNat_natCast];have:=h.nn;omega) (by omega)
  rw[h1]at b ⊢
  have h2:=h.mal i hi
  unfold abP at b ⊢
  split at b
  ·rename_i h3;rw[jP h3];exact h2 b
  ·rename_i h3;rw[jN h3];exact h2 b
theorem yo3{J:Jd}{M:List Bk}{N:Nat}{e:Ev}(h:ManI J M N)(hh:(CA J e).why=0)(b7:e.k≠1)(b3:e.k=2->e.ok=1)(b4:e.k=5->e.on=(J.pt e.c).n):
  ManI (CA J e) (manM M e) N/\(e.k=5->e.er=0->AB J.W M e.at' (lenV e.on)=true):=by
 have h0:=XG h.wy hh;have U:=iI h0;have hN:=h.nn;obtain⟨c,hc⟩:∃ c:Nat,e.c=(c:Int):=⟨e.c.toNat,by omega⟩;have f:c<N:=by omega
 have C:e.k=0\/e.k=2\/e.k=3\/e.k=4\/e.k=5:=by omega
 rcases C with k0|k2|k3|k4|k5
 ·have E:whyJ J.W J.l J.ps e=⟨rD (J.pt e.c) e,J.l,J.ps.set e.c.toNat (LD (J.pt e.c) e)⟩:=by unfold whyJ;rw[jN U,jP (by omega)];rfl
  rw[E]at h0;have j:rD (J.pt e.c) e=0:=h0;have e2:LD (J.pt e.c) e= { J.pt e.c with was:=true,lives:=true}:=by unfold LD;rw[jN (by omega),jP k0]
  rw[j,e2]at E;have hd:=JE h.wy (e:=e) ⟨by omega,by omega⟩ E;rw[hc]at hd;have z:manM M e=M:=by unfold manM;rw[jN (by omega)]
  rw[z];exact⟨MN h hd f rfl (fun t=>h.mal c f t),fun e=>by omega⟩
 ·have E:whyJ J.W J.l J.ps e=⟨rD (J.pt e.c) e,J.l,J.ps.set e.c.toNat (LD (J.pt e.c) e)⟩:=by unfold whyJ;rw[jN U,jP (by omega)];rfl
  rw[E]at h0;have j:rD (J.pt e.c) e=0:=h0;have e2:LD (J.pt e.c) e=⟨true,true,true,e.ok,e.oa,e.on,false,false,0,false⟩:=by unfold LD;rw[jN (by omega),jN (by omega),jN (by omega)]
  have Y:(J.pt e.c).asks=false:=by
   unfold rD at j
   rw[jN (by omega),jN (by omega)]at j
   cases t:(J.pt e.c).asks with
   |false=>rfl
   |true=>rw[jP (.inr (.inl t))]at j;cases j
  rw[j,e2]at E;have hd:=JE h.wy (e:=e) ⟨by omega,by omega⟩ E;rw[hc]at hd Y;have z:manM M e=M:=by unfold manM;rw[jN (by omega)]
  rw[z];refine⟨MN h hd f ?_ (fun _=>b3 k2),fun e=>by omega⟩;unfold pf;rw[jN (show ¬ ((true=true)/\false=true) from (by simp)),jN (show ¬ ((J.pt c).asks=true/\(J.pt c).took=true) by rw[Y];simp)]
 ·obtain⟨I,hd⟩:=DN h.wy hh k3;obtain⟨_,has⟩:=fI h0 (by omega);rw[hc]at hd I has;have b6:¬ (mayT (J.pt c)=false\/(J.pt c).took=true\/lenB (J.pt c).n=false\/lenV (J.pt c).n≠e.n)/\AB J.W J.l e.at' e.n=true:=by
   unfold HF at I;split at I
   ·cases I
   rename_i h1;split at I
   ·rename_i h2;exact⟨h1,h2⟩
   cases I
  obtain⟨V,q⟩:=b6;have G:(J.pt c).took=false:=by cases r:(J.pt c).took with|false=>rfl|true=>exact absurd (.inr (.inl r)) V
  have b0:lenV (J.pt c).n=e.n:=Decidable.byContradiction fun r=>V (.inr (.inr (.inr r)));have z:manM M e=M:=by unfold manM;rw[jN (by omega)]
  rw[z];unfold AB DF at q;obtain⟨T,y⟩:=Bool.and_eq_true_iff.1 q;have hf:=of_decide_eq_true T;have b2:∀ b ∈ J.l,¬ (b.a<e.at'+e.n/\e.at'<b.a+b.n):=fun b hb r=>by have:J.l.any (fun b=>meets b e.at' e.n)=true:=List.any_eq_true.2 ⟨b,hb,jT r⟩;rw[this]at y;cases y
  obtain⟨R,r1,Z⟩:=EN f hN hd;have p1:pf (J.pt c)= []:=by unfold pf;rw[jN (by rw[G];simp)]
  have p2:pf { J.pt c with took:=true,at':=e.at'}= [⟨e.at',e.n⟩]:=by unfold pf;rw[jP ⟨has,rfl⟩];show [(⟨e.at',lenV (J.pt c).n⟩:Bk)]=_;rw[b0]
  rw[p1]at r1;rw[p2]at Z;refine⟨⟨hd.why,by rw[hd.pl];exact hN,by rw[hd.W,hd.l];exact bK h.ok hf.2.1 hf.1 (by omega) b2,?_,mS h hd (fun _=>h.mal c f has),by rw[hd.W];exact h.m0⟩,fun e=>by omega⟩;rw[hd.l];refine(ER _ _ _).trans ?_;have h1:J.l.Perm (M++R):=h.pm.trans (List.Perm.append_left _ r1);refine(List.Perm.cons _ h1).trans ?_;refine(List.perm_middle (l₁:=M) (l₂:=R)).symm.trans (List.Perm.append_left _ Z.symm)
 ·obtain⟨hg,_⟩:=CN h.wy hh k4;obtain⟨_,has⟩:=fI h0 (by omega);rw[hc]at hg has;have hk:=h.mal c f has;unfold IF mayG at hg;rw[jP (.inl (by rw[hk];decide))]at hg;cases hg
 obtain⟨t,hd⟩:=AR h.wy hh k5;obtain⟨_,has⟩:=fI h0 (by omega);have D:=b4 k5;rw[hc]at t hd has D;have hk:=h.mal c f has;obtain⟨R,r1,Z⟩:=EN f hN hd;have p2:pf { J.pt c with asks:=false}= []:=by unfold pf;rw[jN (by simp)]
 rw[p2]at Z;have b1:=mS h hd (fun h=>by cases h);by_cases S:e.er=0
 ·have O:(J.pt c).took=true/\e.at'=(J.pt c).at':=by unfold DC CE at t;rw[jP S,jP (.inl hk)]at t;obtain⟨h1,h2⟩:=Bool.and_eq_true_iff.1 t;exact⟨h1,by simpa using h2⟩
  have p1:pf (J.pt c)= [⟨e.at',lenV e.on⟩]:=by unfold pf;rw[jP ⟨has,O.1⟩,O.2,D]
  rw[p1]at r1;have hl:J.l.Perm (⟨e.at',lenV e.on⟩::(M++R)):=(h.pm.trans (List.Perm.append_left _ r1)).trans (List.perm_middle (l₁:=M) (l₂:=R));have b5:=((hl.pairwise_iff (R:=apB) (fun r=>r.symm)).1 (yrb h.ok));have p:=h.ok.mem ⟨e.at',lenV e.on⟩ (hl.mem_iff.2 List.mem_cons_self);dsimp only at p;have m:∀ b ∈ M,¬ (b.a<e.at'+lenV e.on/\e.at'<b.a+b.n):=fun b hb r=>by have h1:=(List.pairwise_cons.1 b5).1 b (List.mem_append_left _ hb);unfold apB at h1;dsimp only at h1;omega
  have q:AB J.W M e.at' (lenV e.on)=true:=by
   unfold AB DF
   rw[jT (show 1<=lenV e.on/\0<=e.at'/\e.at'<=J.W/\lenV e.on<=J.W-e.at' by omega),Bool.true_and]
   cases r:M.any (fun b=>meets b e.at' (lenV e.on)) with
   |false=>rfl
   |true=>
    obtain⟨b,hb,hm⟩:=List.any_eq_true.1 r
    exact absurd (of_decide_eq_true hm) (m b hb)
  have z:manM M e=putB M e.at' (lenV e.on):=by unfold manM;rw[jP ⟨k5,S⟩]
  rw[z];refine⟨⟨hd.why,by rw[hd.pl];exact hN,by rw[hd.W,hd.l];exact h.ok,?_,b1,by rw[hd.W];exact bK h.m0 p.1 p.2.1 p.2.2 m⟩,fun _ _=>q⟩;rw[hd.l];refine hl.trans ?_;have h2:(⟨e.at',lenV e.on⟩::(M++R):List Bk).Perm (putB M e.at' (lenV e.on)++R):=((ER M e.at' (lenV e.on)).append_right R).symm;exact h2.trans (List.Perm.append_left _ Z.symm)
 have G:(J.pt c).took=false:=by
  cases r:(J.pt c).took with
  |false=>rfl
  |true=>
   unfold DC at t
   rw[jN S,jP (.inl r)]at t
   cases t
 have z:manM M e=M:=by unfold manM;rw[jN (fun r=>S r.2)]
 rw[z];refine⟨MN h hd f ?_ (fun h=>by cases h),fun _ h=>absurd h S⟩;rw[p2];unfold pf;rw[jN (by rw[G];simp)]
variable {s:Sh} {d:Wd} {n:Nat} {c x:Int} {i:Int}

def Bd (d:Wd) (i:Int) (c:Int):Prop:=∀ k,d.kl c=some k->k.job≠none->i<=k.steps
theorem IN(h:wdOk s d n)(c:Int):(∀ x,x≠c->(d.act s (VA c)).1.kl x=d.kl x)/\((∀ k,d.kl c=some k->k.job=none)->(d.act s (VA c)).1.kl c=d.kl c)/\(∀ k,d.kl c=some k->k.job≠none->∃ f,(d.act s (VA c)).1.kl c=some f/\f.steps=k.steps+1):=by
 by_cases hb:0<=c/\c<s.c
 ·cases hk:d.kl c with
  |none=>
   have e:(d.act s (VA c)).1=d:=by unfold Wd.act;rw[jN (by unfold Ch.bad VA;dsimp only;omega),jN (show ¬ (VA c).kind=1 from (by decide:¬ (3:Int)=1))];have:d.kl (VA c).client=none:=hk;rw[this]
   rw[e];exact⟨fun _ _=>rfl,fun _=>hk,fun k h1=>by cases h1⟩
  |some k=>
   have hi:c.toNat<d.l.length:=by rw[h.len];omega
   rw[FH hk hb];have hs:∀ x,(d.step s c k).1.kl x=if x=c then some (k.step s d.m).1 else d.kl x:=fun x=>by unfold Wd.step;rw[d.TB hb.1 hi]
   refine⟨fun x p=>by rw[hs,jN p],fun h1=>?_,fun k1 h1 h2=>?_⟩
   ·rw[hs,jP rfl];have:k.step s d.m=(k,d.m, [],2):=by unfold Kl.step;rw[h1 k rfl]
    rw[this]
   injection h1 with h1;subst h1;rw[hs,jP rfl];refine⟨_,rfl,?_⟩;cases hj:k.job with
   |none=>exact absurd hj h2
   |some j=>unfold Kl.step;rw[hj];rfl
 have e:(d.act s (VA c)).1=d:=by unfold Wd.act;rw[jP (by unfold Ch.bad VA;dsimp only;omega)]
 rw[e];refine⟨fun _ _=>rfl,fun _=>rfl,fun k h1=>?_⟩;obtain⟨_,_,b⟩:=h.kl _ _ h1;exact absurd b hb
theorem eS(h:wdOk s d n)(hb:Bd d i x)(b:x≠c):Bd (d.act s (VA c)).1 i x:=fun k h1=>hb k (by rw[<-(IN h c).1 x b];exact h1)
theorem nS(h:wdOk s d n)(hb:Bd d i c):Bd (d.act s (VA c)).1 (i+1) c:=fun k h1 h2=>by
 obtain⟨_,q,r⟩:=IN h c
 by_cases j:∀ k,d.kl c=some k->k.job=none
 ·rw[q j]at h1
  exact absurd (j k h1) h2
 ·have:∃ k0,d.kl c=some k0/\k0.job≠none:=by
   refine Classical.byContradiction fun p=>j fun k0 b=>?_
   refine Classical.byContradiction fun m=>p ⟨k0,b,m⟩
  obtain⟨k0,b,f⟩:=this
  obtain⟨y,l,t⟩:=r k0 b f
  rw[l]at h1
  injection h1 with h1
  subst h1
  have:=hb k0 b f
  omega
theorem kS{j:Int}(hb:Bd d i c)(h:j<=i):Bd d j c:=fun k h1 h2=>Int.le_trans h (hb k h1 h2)
theorem ymn(h:wdOk s d n)(b:∀ k,d.kl x=some k->k.job=none)(c:Int):∀ k,(d.act s (VA c)).1.kl x=some k->k.job=none:=fun k h1=>by
 obtain⟨f,j,_⟩:=IN h c
 by_cases e:x=c
 ·subst e;rw[j b]at h1;exact b k h1
 ·rw[f x e]at h1;exact b k h1
def yC (s:Sh) (d:Wd) (l:List Int):Wd:=l.foldl (fun d c=> (d.act s (VA c)).1) d
theorem tR{l:List Int}{i:Nat}(h:i<l.length):yC s d (l.take (i+1))=((yC s d (l.take i)).act s (VA l[i])).1:=by
 unfold yC;rw[List.take_succ,List.foldl_append,List.getElem?_eq_getElem h];rfl
theorem uK(h:AI s d n)(l:List Int):AI s (yC s d l) (n+l.length):=by
 induction l generalizing d n with
 |nil=>exact h;|cons x l b=>show AI s (yC s (d.act s (VA x)).1 l) (n+(l.length+1));rw[show n+(l.length+1)=n+1+l.length by omega];exact b (mC h _)
theorem yok(h:AI s d n)(hb:Bd d i x)(l:List Int):Bd (yC s d l) i x:=by
 induction l generalizing d n with
 |nil=>exact hb;|cons y l b=>
  refine b (mC h (VA y)) ?_;by_cases e:x=y
  ·subst e;exact kS (nS h.1 hb) (by omega)
  exact eS h.1 hb e
theorem yl0(h:AI s d n)(b:∀ k,d.kl x=some k->k.job=none)(l:List Int):∀ k,(yC s d l).kl x=some k->k.job=none:=by
 induction l generalizing d n with
 |nil=>exact b
 |cons y l f=>exact f (mC h (VA y)) (ymn h.1 b y)
theorem yo0(h:AI s d n)(hb:Bd d i x){l:List Int}(b:x ∈ l):Bd (yC s d l) (i+1) x:=by
 induction l generalizing d n with
 |nil=>cases b;|cons y l f=>
  by_cases e:x=y
  ·subst e;exact yok (mC h (VA x)) (nS h.1 hb) l
  refine f (mC h (VA y)) (eS h.1 hb e) ?_;rcases List.mem_cons.1 b with h1|h1
  ·exact absurd h1 e
  exact h1
theorem yq4(h:wdOk s d n)(hb:Bd d (JA s) c):∀ k,d.kl c=some k->k.job=none:=fun k j=>by
 refine Classical.byContradiction fun f=>?_
 have h1:=hb k j f
 have h2:(110*s.p+4*s.m+60:Int)<=k.steps:=by unfold JA at h1;omega
 obtain⟨q,b,l,_⟩:=ZJ h (⟨k,j,.inl ⟨f,rfl⟩⟩:Due d c k.steps) h2
 rw[j]at b
 injection b with b
 subst b
 exact f l
end

section

theorem ym1{d:Wd}(h:∀ x k,d.kl x=some k->k.job=none):whoL (fun k=>!k.rests) d.l d.l.length= []:=by
 unfold whoL;rw[List.map_eq_nil_iff,List.filter_eq_nil_iff];intro c _;unfold whoB;cases hk:d.l.getD c none with
 |none=>simp;|some k=>have b:=h (c:Int) k (by unfold Wd.kl;rw[jP (by omega)];exact hk);simp only[Kl.rests,b];simp
theorem Hp.GS{h:Hp}{a:Int}(hs:h.snd a=true)(f:h.pk a=0\/h.pk a=1\/(h.pk a=4/\h.pk (h.pa a)=1)):(h.pgC a).t=0:=by
 have l:=Hp.CH hs;have m:∀ b:Bool,(JD b 64).t=0:=fun b=>by unfold JD;split<;>rfl
 have hd:h.pk a≠4->h.hb a=(h.pk a==1):=fun p=>by unfold Hp.hb Hp.hd;rw[jN (by simp[p]),l,Bool.true_and]
 unfold Hp.pgC;rcases f with f|f|⟨f,j⟩
 ·rw[hd (by omega),l,f];rfl
 ·rw[hd (by omega),l,f];exact m _
 have e:h.hb a=true:=by unfold Hp.hb Hp.hd;rw[jP (by rw[l,f];rfl),Hp.yr0 (h:=h) (a:=h.pa a) (by rw[j];decide),j];rfl
 rw[e];exact m _
theorem Hp.vS{h:Hp}{a:Int}(hs:h.snd a=true)(b:h.pk a=3\/(h.pk a=4/\h.pk (h.pa a)=3)):(h.pgC a).t=64:=by
 have j:=Hp.CH hs;have e:h.hb a=false:=by
  unfold Hp.hb Hp.hd;rcases b with b|⟨b,f⟩
  ·rw[jN (by simp[b]),b];simp
  rw[jP (by rw[j,b];rfl),f];simp
 unfold Hp.pgC;rw[e,j,jN (by decide),jN (by omega),jN (by omega)]
theorem Hp.yrr{h:Hp}{a:Int}(hs:h.snd a=true)(b:h.pk a=2):(h.pgC a).t=MB (h.pgB a):=by
 have f:=Hp.CH hs;have e:h.hb a=false:=by unfold Hp.hb Hp.hd;rw[jN (by simp[b]),b];simp
 unfold Hp.pgC Hp.pgB;rw[e,f,jN (by decide),jN (by omega),jP b,jN (by omega),jP b];generalize (mA (h.pa a)).toNat=q;induction q with
 |zero=>rfl;|succ q j=>
  show ((h.slS a (qA (h.pa a)) q).add (h.slC a (qA (h.pa a)) q)).t=MB (h.slB a q++if h.sk a q=3 then [⟨a*64+q*qA (h.pa a),qA (h.pa a)⟩] else []);rw[BR,<- j];show _+(h.slC a (qA (h.pa a)) q).t=_;congr 1;unfold Hp.slC;by_cases h1:h.sk a q=1
  ·rw[jP h1,jN (by omega)];rfl
  rw[jN h1];by_cases h3:h.sk a q=3
  ·rw[jP h3,jP h3];show qA (h.pa a)=qA (h.pa a)+0;omega
  rw[jN h3,jN h3];unfold JD;split<;>rfl
theorem Hp.yrv{h:Hp}{P:Nat}(T:h.p=P)(hs:∀ i:Nat,i<P->h.snd i=true)(k:Nat)(hk:k<=P):
  MB (h.blT k)=(h.cn k).t+64*(h.en k-k)/\(∀ j:Nat,j<k->h.pk j=3->(j:Int)+h.pa j<=h.en k)/\∀ q:Nat,k<=q->(q:Int)<h.en k->(h.pgC q).t=64:=by
 induction k with
 |zero=>exact⟨rfl,fun j I=>by omega,fun q _ h2=>by have:h.en 0=0:=rfl;omega⟩;|succ k Y=>
  obtain⟨V,E,M⟩:=Y (by omega);obtain⟨_,Z,b3,N⟩:=Hp.TN T hs k (by omega);have b:=hs k (by omega);have l:h.pk k≠4->h.en k=k:=fun U=>by false_or_by_contra;exact U (N k (Int.le_refl _) (by omega))
  have O:h.blT (k+1)=h.blT k++h.pgB k:=rfl;have R:(h.cn (k+1)).t=(h.cn k).t+(h.pgC k).t:=rfl;have S:h.en (k+1)=if h.pk k=3 then k+h.pa k else max (h.en k) (k+1):=rfl;rw[O,R,S,BR,V];have z:=Hp.kinds (Hp.CH b);by_cases h3:h.pk k=3
  ·obtain⟨r1,y⟩:=Hp.row_of b h3;rw[jP h3,l (by omega),Hp.vS b (.inl h3)];have C:MB (h.pgB k)=h.pa k*64:=by unfold Hp.pgB;rw[jP h3];show h.pa k*64+0=_;omega
   rw[C];refine⟨by omega,fun j I f=>?_,fun q h1 h2=>?_⟩
   ·by_cases e:j=k
    ·subst e;exact Int.le_refl _
    have:=E j (by omega) f;rw[l (by omega)]at this;omega
   obtain⟨q1,q2⟩:=y q (by omega) (by omega);exact Hp.vS (hs q (by omega)) (.inr ⟨q1,by rw[q2];exact h3⟩)
  rw[jN h3];have r:∀ j:Nat,j<k+1->h.pk j=3->(j:Int)+h.pa j<=max (h.en k) (k+1):=fun j I f=>by have:j≠k:=fun e=>h3 (by rw[<-e];exact f);have:=E j (by omega) f;omega
  have m:∀ q:Nat,k+1<=q->(q:Int)<max (h.en k) (k+1)->(h.pgC q).t=64:=fun q h1 h2=>M q (by omega) (by omega);refine⟨?_,r,m⟩;by_cases h2:h.pk k=2
  ·rw[Hp.yrr b h2,l (by omega)];omega
  have C:MB (h.pgB k)=0:=by unfold Hp.pgB;rw[jN h3,jN h2];rfl
  rw[C];by_cases h4:h.pk k=4
  ·obtain⟨r1,y⟩:=Hp.yqn b h4;by_cases D:(k:Int)<h.en k
   ·rw[M k lr D];omega
   rcases y with y|⟨y,r3⟩
   ·rw[Hp.GS b (.inr (.inr ⟨h4,y⟩))];omega
   have G:((h.pa k).toNat:Int)=h.pa k:=by omega
   have:=E (h.pa k).toNat (by omega) (by rw[G];exact y);rw[G]at this;omega
  rw[Hp.GS b (by omega),l h4];omega
theorem Hp.yoy{h:Hp}(hs:h.sound=true):MB h.bl=h.count.t:=by
 obtain⟨l,P,j,f,_,b⟩:=Hp.MR hs;unfold Hp.bl Hp.count;rw[jP l,jP l,f];obtain⟨h1,_,_⟩:=Hp.yrv j b P lr;obtain⟨_,m,p,_⟩:=Hp.TN j b P lr;rw[h1];omega
end

section

open Go.RowKit

theorem z03{b:Type}(f:b->Value)(xs:List b):xs.flatMap (fun a=>[f a])=xs.map f:=by
 induction xs with
 |nil=>rfl
 |cons x xs j=>rw[List.flatMap_cons,j];rfl
section

variable {H:Type} {enc:TypeId × Value->H} {P:Program} {w:World}

theorem HQ{t e:TypeId}{k:IntKind}{v:Value}(l:P.underlying t=some (.slice e))(f:P.underlying e=some (.int k))(ce:P.cellsOf e=1){r:Reach} {b:Nat} {d:DataW H} {ps:List MemPlace} (m:Value.okWide P w r b t v) (h0:DataW.Trod enc P w 0 (fun _=>true) true t v d ps):∃ zs:List Int,RdZ k w v zs/\∀ z ∈ zs,(Lit.int k z).wf=true:=by
 obtain⟨xs,h1,h2⟩:=open_list (fun z:Int=>[Value.int k z]) (fun z=>(Lit.int k z).wf=true) l ce (by omega) (fun _=>rfl) (fun es h1 h2=>by
  obtain⟨n,rfl,j⟩:=KG f h2
  exact⟨n,rfl,j⟩) m h0
 rw[z03]at h1;exact⟨xs,h1,h2⟩
end

theorem yrj{a:Int}(h:(Lit.int .u16 a).wf=true):0<=a/\a<=65535:=by
 simp[Lit.wf,IntKind.min,IntKind.max,IntKind.bits,IntKind.signed]at h;omega
theorem yrs{a:Int}(h:(Lit.int .u8 a).wf=true):0<=a/\a<=255:=by
 simp[Lit.wf,IntKind.min,IntKind.max,IntKind.bits,IntKind.signed]at h;omega
end

end Go.Proofs.YtkilokkopbajkaaGreat
