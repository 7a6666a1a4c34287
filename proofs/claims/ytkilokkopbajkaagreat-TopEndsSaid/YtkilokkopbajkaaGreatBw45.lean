
import Derived.Test.YtkilokkopbajkaaGreatBw38

import Derived.Test.YtkilokkopbajkaaGreatBw42

import Derived.Test.YtkilokkopbajkaaGreatBw43

import Derived.Test.YtkilokkopbajkaaGreatBw44

set_option linter.all false
set_option maxHeartbeats 4000000
set_option maxRecDepth 100000
namespace Go.Proofs.YtkilokkopbajkaaGreat

open RowKit

attribute [local go_sem ↓] wp_at_zero wp_at_succ

section

attribute [local go_sem] SU

theorem znm(c:Ch)(W:World):Calls Tryz.prog 12 #[.agg c.cells.toArray] W λe w'=>e=.returned (.agg c.cells.toArray)/\Below W.heap.size W w':=by
 obtain⟨l,j,o,b,cn,i⟩:=c;show Calls Tryz.prog 12 #[.agg #[l,j,o,b,cn,.float .f64 i]] W λe w'=>e=.returned (.agg #[l,j,o,b,cn,.float .f64 i])/\Below W.heap.size W w';go_in;go_wp2_with fail;have p:(W.alloc (.cells #[l,j,o,b,cn,.float .f64 i] 35)).heap.size=W.heap.size+1:=by simp
 have t:aA ((W.alloc (.cells #[l,j,o,b,cn,.float .f64 i] 35)).alloc (.cells #[l,j,o,b,cn,.float .f64 i] 38)) (W.heap.size+1) #[l,j,o,b,cn,.float .f64 i] 38:=by have h:=heap_alloc_new (W.alloc (.cells #[l,j,o,b,cn,.float .f64 i] 35)) (.cells #[l,j,o,b,cn,.float .f64 i] 38);rw[p]at h;exact h
 have hb:Below W.heap.size W ((W.alloc (.cells #[l,j,o,b,cn,.float .f64 i] 35)).alloc (.cells #[l,j,o,b,cn,.float .f64 i] 38)):=by go_grown
 generalize (W.alloc (.cells #[l,j,o,b,cn,.float .f64 i] 35)).alloc (.cells #[l,j,o,b,cn,.float .f64 i] 38)=X at*;generalize W.heap.size+1=H at*;obtain⟨r0,r1,q,r,y⟩:=ci5 l j o b cn t.cell;have z:=ce (.float .f64 i) (t.cell 5);exact bodyPost_ret (v:=.agg #[l,j,o,b,cn,.float .f64 i]) (by simp[results,Tryz.results12,go_sem,r0,r1,q,r,y,z]) rfl ⟨rfl,hb⟩
end

section

variable {s:Sh}{d:Wd}{n:Nat}{c:Int}

theorem yp2{l:List (Option Kl)}{c:Nat}{k:Kl}(hc:c<l.length)(b:l.getD c none=some k):(c:Int)∈whoL (λ_=>true) l l.length:=by
 unfold whoL;rw[List.mem_map];refine⟨c,?_,rfl⟩;rw[List.mem_filter];refine⟨List.mem_range.2 hc,?_⟩;unfold whoB;rw[b]
end

def oF (s:Sh) (c:Int) (d:Wd) (l:List Ch):Wd:=l.foldl (λd x=>if x.client≠c then (d.act s x).1 else d) d
theorem ymy{s:Sh}{c:Int}{d:Wd}{l:List Ch}{i:Nat}(h:i<l.length):oF s c d (l.take (i+1))=if l[i].client≠c then((oF s c d (l.take i)).act s l[i]).1 else oF s c d (l.take i):=by
 unfold oF;rw[List.take_succ_eq_append_getElem h,List.foldl_append];rfl
section

variable {s:Sh}{d:Wd}{n:Nat}{c:Int}

theorem ypg(h:AI s d n)(l:List Ch):AI s (oF s c d l) (n+l.length):=by
 induction l generalizing d n with
 |nil=>exact h;|cons x l b=>
  have h1:AI s (if x.client≠c then(d.act s x).1 else d) (n+1):=by
   split
   .exact SD h x
   exact RD h (by omega)
  have h2:=b h1;rw[List.length_cons,show n+(l.length+1)=n+1+l.length by omega];exact h2
theorem yn6(b:mayB s.p s.c s.m=true)(c:Int):iH s (sB s) c:=⟨PH,PN b,rfl⟩
theorem yni(h:iH s d c)(hd:wdOk s d n){x:Ch}(i:x.client≠c):iH s (d.act s x).1 c:=by
 obtain⟨σ,b,hu⟩:=h;have f:∀v,(σ.stat x.client v).st c=.unused:=λv=>by show up σ.st x.client v c=_;rw[OG _ (Ne.symm i)];exact hu
 unfold Wd.act;split
 .exact⟨σ,b,hu⟩
 rename_i hb;unfold Ch.bad at hb;split
 .by_cases h0:d.stat x.client=0
  .exact⟨_,fN b hd x (by omega) h0,f _⟩
  unfold Wd.begin;rw[jN h0];exact⟨σ,b,hu⟩
 cases hk:d.kl x.client with
 |none=>exact⟨σ,b,hu⟩;|some k=>
  dsimp only;split
  .cases hj:k.job with
   |none=>
    have:k.step s d.m=(k,d.m,[],2):=by unfold Kl.step;rw[hj]
    unfold Wd.step;rw[this];dsimp only;exact⟨σ,IQ b hk (b.li _ k hk).2 (.inl rfl) _ _,hu⟩
   |some j=>have h1:=fJ b hd hk hj;exact⟨_,h1.1,(h1.2.1.st c).2 hu⟩
  split
  .exact⟨σ,LH b hd x hk,hu⟩
  exact⟨_,cQ b hd hk,f _⟩
theorem ymb(h:iH s d c)(b:AI s d n)(l:List Ch):iH s (oF s c d l) c:=by
 induction l generalizing d n with
 |nil=>exact h;|cons x l i=>
  refine i (d:=if x.client≠c then(d.act s x).1 else d) (n:=n+1) ?_ ?_
  .split
   .rename_i f;exact yni h b.1 f
   exact h
  split
  .exact SD b x
  exact RD b (by omega)
end

theorem Hp.kinds{h:Hp}{a:Int}(b:h.pb a=true):h.pk a=0\/h.pk a=1\/h.pk a=2\/h.pk a=3\/h.pk a=4:=by
 have hb:=(h.EJ a).1;have:h.pk a<=4:=by
  unfold Hp.pk;rw[jP b];unfold Hp.pb LA at b;simp only[jC,beq_iff_eq]at b;have h1:=b.1.1;generalize h.pw a=x at*;false_or_by_contra;rename_i hc;have:bD (PA x) (nA x 0) (nA x 1)=true:=by unfold bD;simp only[Bool.or_eq_true,decide_eq_true_eq];left;left;right;omega
  unfold QA at h1;rw[jP this]at h1;subst h1;exact hc (by decide)
 omega
theorem yqy(ao:Option Addr)(n cap:Nat)(m:Nat)(i:(n:Int)<=9223372036854775807)(w:World):Calls Tryz.prog 9 #[.slice ao n cap,.int .i64 (m:Int)] w λe w'=>e=.returned (.bool (decide (n<=m)))/\w'=w:=by
 by_cases h:n<=m
 .rw[jT h];have b:(n:Int)<=(m:Int):=by omega
  go_in;go_wp2_with fail;go_returns;exact⟨rfl,rfl⟩
 rw[jF h];have b:¬(n:Int)<=(m:Int):=by omega
 go_in;go_wp2_with fail;go_returns;exact⟨rfl,rfl⟩
theorem chAt{W:World}{xs:List Ch}{ao:Option Addr}{n cap:Nat}(I:n=xs.length)(C:RdS W 6 (.slice ao n cap) n (xs.flatMap Ch.cells)){i:Nat}(hi:i<xs.length):∃f b,ao=some ⟨f,b,.none⟩/\∀H X,W.heap.size<=H->Below H W X->(∀k,k<6->X.cell? ⟨f,b+i*6+k,.none⟩=xs[i].cells[k]?)/\f<X.heap.size:=by
 obtain⟨r,o,e,q,y,G,l⟩:=C;injection e with t D E;subst t;obtain⟨f,b,rfl,z,j⟩:=l (by omega);refine⟨f,b,rfl,λH X F hb=>⟨λk B=>?_,by have:=hb.size;omega⟩⟩;have h1:X.cell? ⟨f,b+i*6+k,.none⟩=W.cell? ⟨f,b+i*6+k,.none⟩:=hb.cell (p:=⟨f,_,.none⟩) (show f<H by omega);rw[h1,Nat.add_assoc,j _ (by omega)];exact CY xs i hi k B
theorem MR{s:Sh}{d:Wd}{n:Nat}(h:AI s d n)(v:Value)(w:World)(z:RdZ .u64 w v d.m.ws):
  Calls Tryz.prog 34 #[.agg #[s.p,s.c,s.m],v] w λe w'=>Below w.heap.size w w'/\∃ao cap,e=.returned (.slice ao (jdOf s d).l.length cap)/\(jdOf s d).l.length<=cap/\(cap:Int)<=9223372036854775807/\
   Hid (∀k (j:k<(jdOf s d).l.length),∃b i,ao=some ⟨b,i,.none⟩/\(w.heap.size<=b/\b<w'.heap.size)/\w'.cell? ⟨b,i+k*2,.none⟩=some (.int .i64 ((jdOf s d).l[k]).a)/\w'.cell? ⟨b,i+k*2+1,.none⟩=some (.int .i64 ((jdOf s d).l[k]).n)):=by
 refine(yjc (hpOf s d.m) v w z h.1.fit).mono λe w' ⟨v',h1,h2,h3⟩=>⟨h2,?_⟩;rw[yJ h]at h3;obtain⟨ao,cap,rfl,q,r,_,t⟩:=RdS.lD h3;refine⟨ao,cap,h1,q,r,hd' λk j=>?_⟩;obtain⟨b,i,o,hb,hc⟩:=t (by omega);have y:=(h3.lt b (by rw[o];rfl)).1;refine⟨b,i,o,⟨y,hb⟩,?_,?_⟩
 .refine(hc (k*2) (by omega)).trans ?_;exact HK _ _ 0 j (by omega)
 rw[Nat.add_assoc];refine(hc (k*2+1) (by omega)).trans ?_;exact HK _ _ 1 j (by omega)
section

variable {W0 W W' X:World}{g:Nat}{s:Sh}{Kp:Nat->Obj->Prop}{d d':Wd}{n:Nat}

theorem IA.WS(h:IA W0 g s (kpN Kp W W') d X){b o:Nat}(h1:W.heap.size<=b)(h2:b<W'.heap.size):X.cell? ⟨b,o,.none⟩=W'.cell? ⟨b,o,.none⟩/\b<X.heap.size:=by
 obtain⟨v,f⟩:∃v,W'.heap[b]?=some v:=⟨_,Array.getElem?_eq_getElem h2⟩;have h3:=h.keep (.inr ⟨h1,f⟩);exact⟨World.cell?_of_block (h3.trans f.symm),(jE h3)⟩
theorem yoz(h:IA W0 g s Kp d W)(b:d.l.length<=100):
  Calls Tryz.prog 36 #[some g] W λe w'=>∃v,e=.returned v/\Below W.heap.size W w'/\w'.ownsRow W.heap.size 3 1 v (whoL (λ_=>true) d.l d.l.length).length ((whoL (λ_=>true) d.l d.l.length).map (Value.int .i64)):=by
 obtain⟨⟨F,x,h1,h2⟩,h3⟩:=h;exact TQ h1 b
end

section

variable {s:Sh}{m:Mem}{σ:Ab}

theorem yrl(j:Rep s m σ)(f:GI s σ):(hpOf s m).dL:=by
 refine⟨λc i hc hi h0=>?_,λc i c' i' hc hi G I h0 F N O=>?_⟩
 .obtain⟨p,q,k,r,B⟩:=XK j (c:=c) (i:=i) ⟨by omega,hc⟩ ⟨by omega,hi⟩ h0;have o:=f.mf c i;rw[r]at o;obtain⟨a1,D,U⟩:=MW.read j.may o;rw[B,a1,D,U];obtain⟨⟨b,M⟩,T⟩:=f.mv c i p q k r;obtain⟨_,b1,b2,b3,b4,_⟩:=MW.OE j.may o;have z:=f.pf p;rw[M]at z;have R:0<=p/\p<s.p:=z.1;obtain⟨_,V,Y⟩:=SF j f R;obtain⟨Z,s3⟩:=MG j f R (i:=q) (by omega);exact⟨MW.MH j.may o,by rw[V,M];rfl,by rw[Y,M];rfl,by rw[Z,T];rfl,by rw[s3,T];rfl⟩
 obtain⟨p,q,k,r,B⟩:=XK j (c:=c) (i:=i) ⟨by omega,hc⟩ ⟨by omega,hi⟩ h0;obtain⟨p',q',S,l,t⟩:=XK j (c:=c') (i:=i') ⟨by omega,G⟩ ⟨by omega,I⟩ F;have o:=f.mf c i;have y:=f.mf c' i';rw[r]at o;rw[l]at y;obtain⟨a1,D,_⟩:=MW.read j.may o;obtain⟨C,E,_⟩:=MW.read j.may y;rw[B,t,a1,C]at N;rw[B,t,D,E]at O;subst N O;have v:=(f.mv c i p q k r).2;have v':=(f.mv c' i' p q S l).2;rw[v]at v';injection v' with v';have H:c=c':=by omega
 subst H;have:=f.mi c i i' p q k S r l;exact⟨rfl,by omega⟩
end

def NG (s:Sh) (c:Int) (d:Wd) (y:Int):Wd:=if y≠c then (d.act s ⟨4,y,0,0,0,0⟩).1 else d
def pE (s:Sh) (c:Int) (d:Wd) (l:List Int):Wd:=l.foldl (NG s c) d
theorem ymu{s:Sh}{c:Int}{d:Wd}{l:List Int}{i:Nat}(h:i<l.length):pE s c d (l.take (i+1))=NG s c (pE s c d (l.take i)) l[i]:=by
 unfold pE;rw[List.take_succ_eq_append_getElem h,List.foldl_append];rfl
section

variable {s:Sh}{d:Wd}{n:Nat}{c:Int}

theorem CS(y:Int):(d.act s ⟨4,y,0,0,0,0⟩).1=d/\((0<=y/\y<s.c)->d.kl y=none)\/∃k,d.kl y=some k/\(d.act s ⟨4,y,0,0,0,0⟩).1=(d.kill y).1:=by
 unfold Wd.act;by_cases hb:(⟨4,y,0,0,0,0⟩:Ch).bad s
 .rw[jP hb];refine .inl ⟨rfl,λb=>?_⟩;unfold Ch.bad at hb;dsimp only at hb;omega
 rw[jN hb,jN (show ¬(4:Int)=1 by decide)];dsimp only;cases hk:d.kl y with
 |none=>exact .inl ⟨rfl,λ_=>rfl⟩;|some k=>refine .inr ⟨k,rfl,?_⟩;dsimp only;rw[jN (show ¬(4:Int)=3 by decide),jN (show ¬(4:Int)=2 by decide)]
theorem yp8(hd:wdOk s d n){y:Int}{k:Kl}(b:d.kl y=some k)(z:Int):(d.kill y).1.kl z=if z=y then none else d.kl z:=by
 obtain⟨_,_,hc⟩:=hd.kl _ k b;have hi:y.toNat<d.l.length:=by rw[hd.len];omega
 unfold Wd.kill;exact d.IB hc.1 hi _ _ _ _ _
theorem yod(h:One s d c)(hd:wdOk s d n)(y:Int):One s (NG s c d y) c/\(y≠c->(NG s c d y).kl y=none)/\∀z,d.kl z=none->(NG s c d y).kl z=none:=by
 unfold NG;by_cases e:y≠c
 .rw[jP e];rcases CS (s:=s) (d:=d) y with⟨j,l⟩|⟨k,f,j⟩
  .rw[j];refine⟨h,λ_=>?_,λz i=>i⟩;cases f:d.kl y with
   |none=>rfl
   |some k=>rw[l (hd.kl _ k f).2.2]at f;cases f
  rw[j];have b:=yp8 hd f;obtain⟨⟨q,h1,h2⟩,σ,p,o⟩:=h;refine⟨⟨⟨q,?_,h2⟩,_,cQ p hd f,o⟩,λ_=>?_,λz i=>?_⟩
  .rw[b,jN (Ne.symm e)];exact h1
  .rw[b,jP rfl]
  rw[b];split
  .rfl
  exact i
 rw[jN e];exact⟨h,λh1=>absurd h1 e,λz i=>i⟩
theorem rS(l:List Int)(h:AI s d n):AI s (pE s c d l) (n+l.length):=by
 induction l generalizing d n with
 |nil=>exact h;|cons y l b=>
  have h1:AI s (NG s c d y) (n+1):=by
   unfold NG;split
   .exact SD h _
   exact RD h (by omega)
  have h2:=b h1;rw[List.length_cons,show n+(l.length+1)=n+1+l.length by omega];exact h2
theorem ym8(l:List Int)(h:One s d c)(j:AI s d n):One s (pE s c d l) c/\(∀y∈l,y≠c->(pE s c d l).kl y=none)/\∀z,d.kl z=none->(pE s c d l).kl z=none:=by
 induction l generalizing d n with
 |nil=>exact⟨h,λy q=>absurd q (by simp),λz b=>b⟩;|cons y l r=>
  obtain⟨h1,h2,h3⟩:=yod h j.1 y;obtain⟨o,p,i⟩:=r h1 (rS (c:=c) [y] j);refine⟨o,λz b f=>?_,λz b=>i z (h3 z b)⟩;rcases List.mem_cons.1 b with rfl|b
  .exact i _ (h2 f)
  exact p z b f
theorem ymt(h:One s d c)(b:AI s d n):One s (pE s c d (whoL (λ_=>true) d.l d.l.length)) c/\∀z,z≠c->(pE s c d (whoL (λ_=>true) d.l d.l.length)).kl z=none:=by
 obtain⟨j,o,p⟩:=ym8 (whoL (λ_=>true) d.l d.l.length) h b;refine⟨j,λz q=>?_⟩;cases hk:d.kl z with
 |none=>exact p z hk;|some k=>
  obtain⟨_,_,f⟩:=b.1.kl _ _ hk;have r:=b.1.len;have i:d.l.getD z.toNat none=some k:=by unfold Wd.kl at hk;rw[jP f.1]at hk;exact hk
  have h1:=yp2 (l:=d.l) (c:=z.toNat) (by omega) i;rw[show ((z.toNat:Nat):Int)=z by omega]at h1;exact o z h1 q
end

section

variable {s:Sh}{d:Wd}{n:Nat}{c a:Int}{J:Jd}{L:List Bk}

theorem yql(k:Kl)(j:Jb):∀e∈k.tells j,e.c=k.c/\3<=e.k:=λe b=>by
 unfold Kl.tells at b
 rcases List.mem_append.1 b with b|b
 .split at b
  .rw[List.mem_singleton]at b;subst b;exact⟨rfl,show (3:Int)<=4 by decide⟩
  .cases b
 .split at b
  .rcases List.mem_append.1 b with b|b
   .split at b
    .rw[List.mem_singleton]at b;subst b;exact⟨rfl,Int.le_refl _⟩
    .cases b
   .rw[List.mem_singleton]at b;subst b;exact⟨rfl,show (3:Int)<=5 by decide⟩
  .cases b
theorem yrs(hd:wdOk s d n)(i:Nat):∃es,(d.goN s c i).tr=d.tr++es/\∀e∈es,e.c=c/\3<=e.k:=by
 induction i with
 |zero=>exact⟨[],(List.append_nil _).symm,λe p=>by cases p⟩
 |succ i q=>
  obtain⟨es,h1,h2⟩:=q
  have o:=QD hd i (c:=c)
  show ∃es,((d.goN s c i).goS s c).tr=_/\_
  generalize d.goN s c i=x at*
  cases hk:x.kl c with
  |none=>
   have:x.goS s c=x:=by unfold Wd.goS;rw[hk]
   rw[this];exact⟨es,h1,h2⟩
  |some k=>
   cases hj:k.job with
   |none=>rw[uI hk hj];exact⟨es,h1,h2⟩
   |some j=>
    obtain⟨_,l,f⟩:=o.kl _ _ hk
    rw[mH hk (by rw[hj];exact λe=>by cases e),OH hk f]
    have e:k.step s x.m=(k.after (j.step s k.c x.m).1,(j.step s k.c x.m).2,k.tells (j.step s k.c x.m).1,0):=by unfold Kl.step;rw[hj]
    refine⟨es++k.tells (j.step s k.c x.m).1,?_,λy b=>?_⟩
    .unfold Wd.step
     rw[e]
     dsimp only
     rw[h1,List.append_assoc]
    .rcases List.mem_append.1 b with b|b
     .exact h2 y b
     .have:=yql k _ y b
      rw[l]at this;exact this
def GvI (L:List Bk) (a c:Int) (J:Jd):Prop:=J.why=0/\(J.pt c).k=2/\(J.pt c).a=a/\(((J.pt c).gave=false/\J.l=L/\((J.pt c).ab=true->WA a L=false))\/((J.pt c).gave=true/\WA a L=true/\J.l=nB L a))
theorem yro{l:List Ev}{e:Ev}(h:GvI L a c J)(D:(runJ J (l++[e])).why=0)(hc:∀y∈l++[e],y.c=c/\3<=y.k)(h5:e.k=5):(e.er=0↔WA a L=true)/\(e.er≠0->e.er=1)/\(runJ J (l++[e])).l=if WA a L=true then nB L a else L:=by
 induction l generalizing J with
 |nil=>
  obtain⟨h1,h2,h3,h4⟩:=h;have D:(DA J e).why=0:=D;have H:=(hc e (by simp)).1;obtain⟨b,hH⟩:=iO h1 D h5;have hl:(runJ J ([]++[e])).l=J.l:=hH.l;rw[hl];rw[H]at b;rcases h4 with⟨g,f,G⟩|⟨g,I,f⟩
  .have j:e.er≠0:=λh0=>by rw[nJ h0]at b;unfold FE at b;rw[h2,jN (by decide),jP rfl,g]at b;cases b
   unfold JC at b;rw[jN j]at b;split at b
   .cases b
   have B:e.er=1:=by
    refine Decidable.byContradiction λN=>?_;rw[jN N,h2]at b;repeat' split at b
    all_goals simp at b
   rw[jP B]at b;unfold GF at b;rw[h2,jN (by decide),jP rfl]at b;have O:=G b;rw[O,jN (by decide)];exact⟨⟨λh0=>absurd h0 j,λh=>by cases h⟩,λ_=>B,f⟩
  have h0:e.er=0:=by refine Decidable.byContradiction λj=>?_;unfold JC at b;rw[jN j,jP (.inr (.inl g))]at b;cases b
  rw[I,jP rfl];exact⟨⟨λ_=>rfl,λ_=>h0⟩,λC=>absurd h0 C,f⟩
 |cons y l ih=>
  have o:(runJ (DA J y) (l++[e])).why=0:=D;have i:(DA J y).why=0:=qG o;obtain⟨h1,h2,h3,h4⟩:=h;obtain⟨p,b1⟩:=hc y (by simp);have h0:=KG h1 i;have b0:=zI h0;have q:y.k=3\/y.k=4\/y.k=5:=by omega
  refine ih (J:=DA J y) ?_ o (λz E=>hc z (List.mem_cons_of_mem _ E));rcases q with q|q|q
  .obtain⟨R,_⟩:=fS h1 i q;unfold TF mayT at R;rw[p,h2,jP (.inl rfl)]at R;cases R
  .obtain⟨t,hd⟩:=VR h1 i q;rw[p]at t;have M:¬((J.pt c).gave=true)/\y.at'=(J.pt c).a/\WA y.at' J.l=true:=by
    unfold UF at t;split at t
    .cases t
    rename_i C;split at t
    .rename_i I;refine⟨λe=>C (.inr (.inl e)),Decidable.byContradiction λe=>C (.inr (.inr e)),I⟩
    cases t
   obtain⟨g1,F,V⟩:=M;rw[h3]at F;rcases h4 with⟨g,f,_⟩|⟨g,_,_⟩
   .have r:=hd.mine;rw[p]at r;obtain⟨_,_,_,Y,Z,_,_,a8,_⟩:=DD (nB J.l y.at') {J.pt c with gave:=true};rw[f,F]at V;refine⟨i,by rw[r];exact Y.trans h2,by rw[r];exact Z.trans h3,.inr ⟨by rw[r];exact a8,V,?_⟩⟩;rw[hd.l,f,F]
   exact absurd g g1
  exfalso;obtain⟨_,hd⟩:=iO h1 i q;have r:=hd.mine;rw[p]at r;have b:((DA J y).pt c).asks=false:=by rw[r];exact(DD _ _).2.2.1
  obtain⟨z,l',E⟩:∃z l',l++[e]=z::l':=by cases l with
   |nil=>exact⟨e,[],rfl⟩
   |cons z l=>exact⟨z,l++[e],rfl⟩
  rw[E]at o;obtain⟨T,U⟩:=hc z (by rw[List.cons_append,E];simp);have S:(DA (DA J y) z).why=0:=qG (es:=l') o;have:=(VK (KG i S) U).2;rw[T,b]at this;cases this
theorem yoe(h:AI s d n)(h0:(d.act s ⟨2,c,2,a,0,0⟩).2=0)(hr:Rest d c):(PB (askW s d c ⟨2,a,0⟩)=0↔WA a (jdOf s d).l=true)/\(PB (askW s d c ⟨2,a,0⟩)≠0->PB (askW s d c ⟨2,a,0⟩)=1)/\(jdOf s (askW s d c ⟨2,a,0⟩)).l=if WA a (jdOf s d).l=true then nB (jdOf s d).l a else(jdOf s d).l:=by
 have B:=SD h ⟨2,c,2,a,0,0⟩;have M:AI s (askW s d c ⟨2,a,0⟩) _:=BI B (GA s);obtain⟨_,_,_,l',e,t,r,Y⟩:=WN (o:=⟨2,a,0⟩) h.1 h0;obtain⟨k0,U,D⟩:=hr;obtain⟨_,O,V⟩:=h.1.kl _ _ U;have C:∃f,(d.act s ⟨2,c,2,a,0,0⟩).1.tr=d.tr++NA c ⟨2,a,0⟩::f/\∀e∈f,e.c=c/\3<=e.k:=by
  unfold Wd.act;rw[jN (by unfold Ch.bad;dsimp only;omega),jN (show ¬(2:Int)=1 by decide)];dsimp only;rw[U];dsimp only;rw[jN (show ¬(2:Int)=3 by decide),jP rfl];have S:k0.rests=true:=by unfold Kl.rests;rw[D];rfl
  show ∃f,d.tr++(k0.invoke s ⟨2,a,0⟩).2.1=_/\_;unfold Kl.invoke;rw[jN (by rw[S];decide),jN (show ¬((2:Int)<1\/(4:Int)<2) by decide),O];split
  .exact⟨[_],rfl,λe F=>by rw[List.mem_singleton]at F;subst F;exact⟨rfl,show (3:Int)<=5 by decide⟩⟩
  exact⟨[],rfl,λe F=>by cases F⟩
 obtain⟨f,h1,h2⟩:=C;obtain⟨p,h3,h4⟩:=yrs (c:=c) B.1 (GA s);have b:(askW s d c ⟨2,a,0⟩).tr=d.tr++NA c ⟨2,a,0⟩::(f++p):=by show ((d.act s ⟨2,c,2,a,0,0⟩).1.goN s c (GA s)).tr=_;rw[h3,h1];simp
 have q:∀y∈f++p,y.c=c/\3<=y.k:=λy G=>(List.mem_append.1 G).elim (h2 y) (h4 y);have R:PB (askW s d c ⟨2,a,0⟩)=e.er:=by unfold PB;rw[t];simp
 rw[R];obtain⟨i,N⟩:∃i,f++p=i++[e]:=by
  rcases List.eq_nil_or_concat (f++p) with hn|⟨i,y,G⟩
  .rw[hn,t]at b;have:=(List.append_inj' b rfl).2;injection this with this;rw[this]at r;exact absurd r (by decide:¬(2:Int)=5)
  refine⟨i,?_⟩;rw[G,t]at b;have:l'++[e]=(d.tr++NA c ⟨2,a,0⟩::i)++[y]:=by rw[b];simp
  have I:=(List.append_inj' this rfl).2;injection I with I;rw[G,List.concat_eq_append,I]
 rw[N]at b q;have H:jdOf s (askW s d c ⟨2,a,0⟩)=runJ (DA (jdOf s d) (NA c ⟨2,a,0⟩)) (i++[e]):=by unfold jdOf;rw[b,bH,rJ]
 have z:(jdOf s (askW s d c ⟨2,a,0⟩)).why=0:=by obtain⟨_,_,_,D⟩:=M;exact D.why
 have T:(jdOf s d).why=0:=by obtain⟨_,_,_,D⟩:=h;exact D.why
 rw[H]at z|-;have E:(DA (jdOf s d) (NA c ⟨2,a,0⟩)).why=0:=qG z;have hd:=KR T E;refine yro ⟨E,?_,?_,.inl ⟨?_,hd.l,λj=>?_⟩⟩ z q r
 .rw[hd.mine];exact(DD (jdOf s d).l ⟨true,true,true,2,a,0,false,false,0,false⟩).2.2.2.1
 .rw[hd.mine];exact(DD (jdOf s d).l ⟨true,true,true,2,a,0,false,false,0,false⟩).2.2.2.2.1
 .rw[hd.mine];exact(DD (jdOf s d).l ⟨true,true,true,2,a,0,false,false,0,false⟩).2.2.2.2.2.2.2.1
 rw[hd.mine]at j;unfold abP at j;dsimp only at j;split at j
 .rename_i Z;exact Z.1
 cases j
end

section

variable {s:Sh}{d:Wd}{n:Nat}{c:Int}

def twS (s:Sh) (c:Int) (d:Wd) (a:Int):Wd:=askW s (askW s d c ⟨2,a,0⟩) c ⟨2,a,0⟩
def twL (s:Sh) (c:Int) (d:Wd) (l:List Bk):Wd:=l.foldl (λd b=>twS s c d b.a) d
theorem AS{l:List Bk}{i:Nat}(h:i<l.length):twL s c d (l.take (i+1))=twS s c (twL s c d (l.take i)) (l[i]).a:=by
 unfold twL;rw[List.take_succ_eq_append_getElem h,List.foldl_append];rfl
theorem FS(h:EnI s d n c)(a:Int):EnI s (askW s d c ⟨2,a,0⟩) (n+(1+GA s)) c/\(d.act s ⟨2,c,2,a,0,0⟩).2=0/\(PB (askW s d c ⟨2,a,0⟩)=0↔WA a (jdOf s d).l=true)/\(PB (askW s d c ⟨2,a,0⟩)≠0->PB (askW s d c ⟨2,a,0⟩)=1)/\(jdOf s (askW s d c ⟨2,a,0⟩)).l=if WA a (jdOf s d).l=true then nB (jdOf s d).l a else(jdOf s d).l:=by
 obtain⟨b,f,σ,p,i⟩:=h;have h0:=yI (o:=⟨2,a,0⟩) b.1 f ⟨show (1:Int)<=2 by decide,show (2:Int)<=4 by decide⟩;obtain⟨f1,f2,j⟩:=yoe (a:=a) b h0 f;obtain⟨σ',r,t,_⟩:=WK (st0:=σ.st) b.1 f p (λ_=>rfl) (k:=2) (a:=a) (m:=0) ⟨show (1:Int)<=2 by decide,show (2:Int)<=3 by decide⟩;exact⟨⟨by rw[<-Nat.add_assoc];exact BI (SD b ⟨2,c,2,a,0,0⟩) (GA s),PK (o:=⟨2,a,0⟩) b.1 f ⟨show (1:Int)<=2 by decide,show (2:Int)<=4 by decide⟩,σ',r,λy q=>by rw[t];exact i y q⟩,h0,f1,f2,j⟩
structure TwI (s:Sh) (d:Wd) (n:Nat) (c:Int) (i:Nat):Prop where
 en:EnI s (twL s c d ((jdOf s d).l.take i)) (n+i*(2*(1+GA s))) c
 bl:(jdOf s (twL s c d ((jdOf s d).l.take i))).l=(jdOf s d).l.drop i
theorem HS{i:Nat}(G:AI s d n)(h:TwI s d n c i)(hi:i<(jdOf s d).l.length):TwI s d n c (i+1)/\((twL s c d ((jdOf s d).l.take i)).act s ⟨2,c,2,((jdOf s d).l[i]).a,0,0⟩).2=0/\PB (askW s (twL s c d ((jdOf s d).l.take i)) c ⟨2,((jdOf s d).l[i]).a,0⟩)=0/\((askW s (twL s c d ((jdOf s d).l.take i)) c ⟨2,((jdOf s d).l[i]).a,0⟩).act s ⟨2,c,2,((jdOf s d).l[i]).a,0,0⟩).2=0/\PB (twL s c d ((jdOf s d).l.take (i+1)))=1/\AI s (askW s (twL s c d ((jdOf s d).l.take i)) c ⟨2,((jdOf s d).l[i]).a,0⟩) (n+(i+1)*(2*(1+GA s))):=by
 obtain⟨H,hb⟩:=h;have F:=yr7 G;have j:=AS (s:=s) (c:=c) (d:=d) hi;have o:(jdOf s d).l.drop i=(jdOf s d).l[i]::(jdOf s d).l.drop (i+1):=List.drop_eq_getElem_cons hi;unfold twS at j;rw[j];generalize (jdOf s d).l[i]=b at*;generalize twL s c d ((jdOf s d).l.take i)=x at*;obtain⟨B,E,C,_,q⟩:=FS H b.a;rw[hb,o]at C q;obtain⟨lo,f⟩:=F.drop i;rw[o]at f;have r:WA b.a (b::(jdOf s d).l.drop (i+1))=true:=(vI f).2 ⟨b,List.mem_cons_self,rfl⟩;rw[jP r,ynw rfl r]at q;obtain⟨k1,N,D,O,z⟩:=FS B b.a;rw[q]at D z;have p:¬WA b.a ((jdOf s d).l.drop (i+1))=true:=λt=>by obtain⟨y,M,e⟩:=(vI f.2.2).1 t;have h2:=okK.mem f.2.2 y M;have h4:=f.2.1;omega
 rw[jN p]at z;have I:n+(i+1)*(2*(1+GA s))=n+i*(2*(1+GA s))+(1+GA s)+(1+GA s):=by rw[Nat.add_mul];omega
 exact⟨⟨by rw[j,I];exact k1,by rw[j];exact z⟩,E,C.2 r,N,O (λh=>p (D.1 h)),RD B.ai (by omega)⟩
theorem tw_0(h:EnI s d n c):TwI s d n c 0:=⟨by simpa[twL] using h,rfl⟩
theorem yrh(h:EnI s d n c):∀i,i<=(jdOf s d).l.length->TwI s d n c i:=by
 intro i;induction i with
 |zero=>exact λ_=>tw_0 h
 |succ i b=>exact λhi=>(HS h.ai (b (by omega)) (by omega)).1
end

theorem ynz{J:Jd}{e:Ev}(b:J.why=0)(h:(DA J e).why=0)(f:e.k<3):(DA J e).l=J.l:=by
 rw[FL ((dJ _ _).2 ⟨b,KG b h⟩)];show (whyJ J.W J.l J.ps e).l=J.l;unfold whyJ;repeat' split
 all_goals first|rfl|omega
section

variable {s:Sh}{d:Wd}{n:Nat}{c:Int}

theorem yqo(h:EnI s d n c)(hb:(jdOf s d).l=[]):∃ σ,Rep s d.m σ/\GI s σ/\Last s σ c:=by
 obtain⟨q,⟨k,r,y⟩,σ,i,j⟩:=h;have o:=(q.1.kl _ _ r).2.2;obtain⟨p,f⟩:=i.li c k r;unfold KlAt at f;rw[y]at f;have t:=yJ q;rw[hb]at t;refine⟨σ,i.rep,i.gi,o,p,λz _=>?_,λz B=>(i.un z (j z B)).2,λb hb=>?_⟩
 .by_cases e:z=c
  .subst e;exact f
  exact(i.un z (j z e)).1
 have h1:=(IS i.rep i.gi ⟨b.at',b.len⟩).2 ⟨b,hb,rfl,rfl⟩;rw[t]at h1;cases h1
theorem yp5(h:AI s d n)(hb:(jdOf s d).l=[])(y:Int):(jdOf s (d.act s ⟨4,y,0,0,0,0⟩).1).l=[]:=by
 have h2:=SD h ⟨4,y,0,0,0,0⟩;rcases CS (s:=s) (d:=d) y with⟨e,_⟩|⟨k,_,e⟩
 .rw[e];exact hb
 rw[e]at h2|-;have i:jdOf s (d.kill y).1=DA (jdOf s d) (YE y):=by unfold jdOf Wd.kill;dsimp only;rw[bH];rfl
 obtain⟨_,_,_,f⟩:=h;obtain⟨_,_,_,b⟩:=h2;rw[i]at b|-;rw[ynz f.why b.why (show (YE y).k<3 from (show (1:Int)<3 by decide))];exact hb
end

theorem ypc(h:Hp)(v:Value)(w:World)(hr:RdZ .u64 w v h.xs)(hf:h.fit)(S:h.sound=true)(R:h.dL):
  Calls Tryz.prog 35 #[shV h,v] w λe w'=>e=.returned (.bool true)/\Below w.heap.size w w':=by
 obtain⟨ao,cap,hv,_,_,_⟩:=hr.cells;generalize h.xs.length=m at hv;subst hv;have r:=λX N=>jL h (.slice ao m cap) X (hr.below (w':=X) N);have T:=(Below.refl w.heap.size w).alloc lr (.cells #[h.p,h.c,h.m] 23);have l:h.sound=(h.ok&&h.sndT h.p.toNat):=rfl;rw[S,eq_comm,jC]at l;obtain⟨D,l⟩:=l;have b:Bok w (.slice ao m cap) h:=⟨D,hr,hf⟩;obtain⟨bp,_,_,_⟩:=b.bd;rw[D]at r;have E:=λa X (N:Below w.heap.size w X) ha=>yik h (.slice ao m cap) a X (b.below N) ha;have C:=λX (N:Below w.heap.size w X)=>ynm h (.slice ao m cap) X (b.below N) R;obtain⟨P,U⟩:∃P:Nat,Hid (h.p=P):=⟨h.p.toNat,hd' (by omega)⟩;have M:h.p.toNat=P:=by have:=U.out;omega
 rw[M]at l;have V:Hid (∀i:Nat,i<P->h.snd i=true):=hd' λi hi=>h.HR l i hi;replace r:=hd' r;replace E:=hd' E;replace C:=hd' C;clear D M b l S R;go_in;go_wp2_with fail;refine(r _ T).mono ?_;rintro e w1 ⟨rfl,q⟩;have z:=T.trans (q.mono T.size);have hB:=z.alloc z.size (.cells #[h.p,h.c,h.m,.slice ao m cap] 115);have O:=q.alloc q.size (.cells #[h.p,h.c,h.m,.slice ao m cap] 115);have r0:=(O.block _ (by simp)).trans (jA w (.cells #[h.p,h.c,h.m] 23));have F:=jA w1 (.cells #[h.p,h.c,h.m,.slice ao m cap] 115);go_upto_region 2 with fail;obtain⟨H,hH,G⟩:=hidv w.heap.size;obtain⟨K,hK,I⟩:=hidv w1.heap.size;rw[<-I]at F|-;rw[<-G]at r0|-;clear I G q O z;generalize w1.alloc (.cells #[h.p,h.c,h.m,.slice ao m cap] 115)=W at*;have b0:=iA r0;have k0:W.cell? ⟨K,0,.none⟩=some (.int .i64 h.p):=iA F 0;have k1:W.cell? ⟨K,1,.none⟩=some (.int .i64 h.c):=iA F 1;have k2:W.cell? ⟨K,2,.none⟩=some (.int .i64 h.m):=iA F 2;have k3:W.cell? ⟨K,3,.none⟩=some (.slice ao m cap):=iA F 3;clear r0 F;go_wp2_with fail;go_loopw [18] (λvi wr=>∃i:Nat,i<=P/\vi=.int .i64 i/\Below W.heap.size W wr) (λvi _=>P-(intOf vi).toNat);case atStart=>exact⟨0,Nat.zero_le _,rfl,Below.refl _ _⟩
 case round=>
  obtain⟨i,hi,rfl,j⟩:=hrel;have d0:=kA j _ _ _ k0;have d1:=kA j _ _ _ k1;have d2:=kA j _ _ _ k2;have d3:=kA j _ _ _ k3;have o:=hB.trans (j.mono hB.size);by_cases b2:(i:Int)<h.p
  .have Y:i<P:=by have:=U.out;omega
   have y:=E i wr o (by omega);rw[V i Y]at y;replace y:=hd' y;go_wp2_with fail;refine y.out.mono ?_;rintro e w3 ⟨rfl,B⟩;go_wp2;exact⟨⟨i+1,by omega,by go_num,j.trans (B.mono j.size)⟩,by simp[intOf];omega⟩
  have Z:i=P:=by have:=U.out;omega
  subst Z;go_wp2_with fail;refine(C _ o).mono ?_;rintro e w3 ⟨rfl,B⟩;go_wp2;go_ret;exact⟨rfl,o.trans (B.mono o.size)⟩
end Go.Proofs.YtkilokkopbajkaaGreat
