/- Texts bound together: QuiP FreP TAwk GivA ChO. -/
import Derived.Test.YtkbddndcegpllaaGreatBt36

import Derived.Test.YtkbddndcegpllaaGreatBt39

import Derived.Test.YtkbddndcegpllaaGreatBt40

set_option linter.all false
set_option maxHeartbeats 8000000
set_option maxRecDepth 100000
namespace Go.Proofs.YtkbddndcegpllaaGreat

section

def Wd.rest (s:Sh) (d:Wd) (c:Int):Wd:=d.goN s c (z5k s)
def restL (s:Sh) (l:List Int) (d:Wd):Wd:=l.foldl (fun d c=> d.rest s c) d
def adS (s:Sh) (c:Int) (d:Wd) (x:Int):Wd:=if x≠c/\1 < zrl s d x then (if (d.act s ⟨2,c,4,x,0,0⟩).2=0 then askW s d c ⟨4,x,0⟩ else (d.act s ⟨2,c,4,x,0,0⟩).1) else d
def adN (s:Sh) (c:Int) (d:Wd):Nat->Wd
 | 0=> d
 | n + 1=> adS s c (adN s c d n) n
def quietW (s:Sh) (c:Int) (d:Wd):Wd:=adN s c (restL s (whoL (fun _=> true) d.l d.l.length) d) s.c.toNat
theorem restL_snoc(s:Sh)(l:List Int)(c:Int)(d:Wd):restL s (l++[c]) d=(restL s l d).rest s c:=by unfold restL;rw[List.foldl_append];rfl
theorem mostV_le{s:Sh}(h:mayB s.p s.c s.m=true):z5k s<=8000:=by
 have hb:=zar.1 h;unfold z5k;omega
section

variable {s:Sh} {d:Wd} {n:Nat} {c:Int}

theorem ai_weak{m:Nat}(h:AI s d n)(b:n<=m):AI s d m:=⟨⟨h.1.fi,h.1.fit,h.1.len,h.1.kl,⟨h.1.st.1,by have:=h.1.st.2;omega⟩,by have:=h.1.tr;omega,h.1.lg⟩,h.2⟩
theorem ai_restL(l:List Int)(h:AI s d n):AI s (restL s l d) (n+l.length*z5k s):=by
 induction l generalizing d n with
 |nil=>exact ai_weak (show AI s (restL s [] d) n from h) (by simp);|cons a l f=>have b:=f (ai_goN (c:=a) h (z5k s));rw[List.length_cons,Nat.add_mul,Nat.one_mul,show n+(l.length*z5k s+z5k s)=n+z5k s+l.length*z5k s by omega];exact b
theorem ai_adS(h:AI s d n)(x:Int):AI s (adS s c d x) (n+1+z5k s):=by
 unfold adS;split
 ·split
  ·rename_i b;exact(ask_fin (o:=⟨4,x,0⟩) h b).1
  exact ai_weak (ai_act h ⟨2,c,4,x,0,0⟩) (by omega)
 exact ai_weak h (by omega)
theorem ai_adN(h:AI s d n)(i:Nat):AI s (adN s c d i) (n+i*(1+z5k s)):=by
 induction i with
 |zero=>exact ai_weak (show AI s (adN s c d 0) n from h) (by simp);|succ i f=>have b:=ai_adS (c:=c) f i;rw[Nat.add_mul,Nat.one_mul,<- Nat.add_assoc,<- Nat.add_assoc];exact b
theorem ai_quiet(h:AI s d n):AI s (quietW s c d) (n+12*z5k s+12*(1+z5k s)):=by
 have hb:=h.1.fi.bd;have f:(whoL (fun _=>true) d.l d.l.length).length<=12:=by have b:=zwg (fun _=>true) d.l d.l.length;have i:=h.1.len;omega
 have b:=ai_adN (c:=c) (ai_restL (whoL (fun _=>true) d.l d.l.length) h) s.c.toNat;refine ai_weak b ?_;have:=Nat.mul_le_mul_right (z5k s) f;have:=Nat.mul_le_mul_right (1+z5k s) (show s.c.toNat<=12 by omega);omega
def Rest (d:Wd) (c:Int):Prop:=∃ k,d.kl c=some k/\k.job=none
theorem goS_other{x:Int}(h:wdOk s d n)(f:x≠c):(d.goS s c).kl x=d.kl x:=by
 unfold Wd.goS;cases hk:d.kl c with
 |none=>rfl;|some k=>
  dsimp only;split
  ·obtain⟨_,_,b⟩:=h.kl _ _ hk;have hi:c.toNat<d.l.length:=by rw[h.len];omega
   rw[z5q hk b];unfold Wd.step;dsimp only;rw[d.zdk b.1 hi,if_neg f]
  rfl
theorem goN_other{x:Int}(h:wdOk s d n)(b:x≠c)(i:Nat):(d.goN s c i).kl x=d.kl x:=by
 induction i with
 |zero=>rfl
 |succ i f=>exact(goS_other (zz6 h i) b).trans f
theorem rest_keeps{x:Int}(h:wdOk s d n)(j:Rest d x)(c:Int):Rest (d.rest s c) x:=by
 obtain⟨k,b,f⟩:=j;by_cases e:x=c
 ·subst e;refine⟨k,?_,f⟩;have:=yfl (s:=s) (d:=d) (c:=x) (i:=0) b f (z5k s);unfold Wd.rest;rw[Nat.zero_add]at this;rw[this];exact b
 exact⟨k,(goN_other h e _).trans b,f⟩
theorem rest_mine(h:wdOk s d n){k:Kl}(b:d.kl c=some k):Rest (d.rest s c) c:=by
 rcases hj:k.job with _|j
 ·exact rest_keeps h ⟨k,b,hj⟩ c
 have l:Due d c k.steps:=⟨k,b,.inl ⟨by rw[hj];exact fun e=>(by cases e),rfl⟩⟩;have hs:=(h.kl _ _ b).1.st;have hb:=h.fi.bd;obtain⟨m,f,i,_⟩:=ya0 (zz6 h (z5k s)) (yav h l (z5k s)) (by unfold z5k;omega);exact⟨m,f,i⟩
theorem live_keeps{x:Int}(h:wdOk s d n)(i:∃ k,d.kl x=some k)(c:Int):∃ k,(d.rest s c).kl x=some k:=by
 obtain⟨k,b⟩:=i;by_cases e:x=c
 ·subst e;obtain⟨j,f,_⟩:=rest_mine h b;exact⟨j,f⟩
 exact⟨k,(goN_other h e _).trans b⟩
theorem restL_keeps{x:Int}(l:List Int)(h:wdOk s d n)(b:Rest d x):Rest (restL s l d) x:=by
 induction l generalizing d n with
 |nil=>exact b
 |cons a l f=>exact f (zz6 h (z5k s)) (rest_keeps h b a)
theorem restL_rests{x:Int}(l:List Int)(h:wdOk s d n)(b:∃ k,d.kl x=some k)(f:x ∈ l):Rest (restL s l d) x:=by
 induction l generalizing d n with
 |nil=>exact absurd f (by simp);|cons a l j=>
  rcases List.mem_cons.1 f with e|e
  ·subst e;obtain⟨k,i⟩:=b;exact restL_keeps l (zz6 h (z5k s)) (rest_mine h i)
  exact j (zz6 h (z5k s)) (live_keeps h b a) e
theorem rest_asks{o:Op3}(h:wdOk s d n)(l:Rest d c)(m:1<=o.k/\o.k<=4):(d.act s ⟨2,c,o.k,o.a,o.n,0⟩).2=0:=by
 obtain⟨k,f,i⟩:=l;obtain⟨_,_,j⟩:=h.kl _ _ f;unfold Wd.act;rw[if_neg (by unfold Ch.bad;dsimp only;omega),if_neg (show ¬ (2:Int)=1 by decide)];dsimp only;rw[f];dsimp only;rw[if_neg (show ¬ (2:Int)=3 by decide),if_pos rfl];unfold Wd.ask Kl.invoke;dsimp only;have b:k.rests=true:=by unfold Kl.rests;rw[i];rfl
 rw[if_neg (by rw[b];decide),if_neg (show ¬ ((⟨2,c,o.k,o.a,o.n,0⟩:Ch).op.k<1\/4<(⟨2,c,o.k,o.a,o.n,0⟩:Ch).op.k) from (show ¬ (o.k<1\/4<o.k) by omega))];split<;>rfl
theorem rest_ask{o:Op3}(h:wdOk s d n)(j:Rest d c)(i:1<=o.k/\o.k<=4):Rest (askW s d c o) c:=by
 obtain⟨k,b,f,_⟩:=yfn h (rest_asks h j i);exact⟨k,b,f⟩
theorem rest_adS(h:wdOk s d n)(b:Rest d c)(x:Int):Rest (adS s c d x) c:=by
 unfold adS;split
 ·rw[if_pos (rest_asks (o:=⟨4,x,0⟩) h b ⟨show (1:Int)<=4 by decide,Int.le_refl _⟩)];exact rest_ask (o:=⟨4,x,0⟩) h b ⟨show (1:Int)<=4 by decide,Int.le_refl _⟩
 exact b
theorem rest_adN(h:AI s d n)(b:Rest d c)(i:Nat):Rest (adN s c d i) c:=by
 induction i with
 |zero=>exact b
 |succ i f=>exact rest_adS (ai_adN h i).1 f i
theorem mem_who{l:List (Option Kl)}{c:Nat}{k:Kl}(hc:c<l.length)(b:l.getD c none=some k):(c:Int) ∈ whoL (fun _=>true) l l.length:=by
 unfold whoL;rw[List.mem_map];refine⟨c,?_,rfl⟩;rw[List.mem_filter];refine⟨List.mem_range.2 hc,?_⟩;unfold whoB;rw[b]
theorem rest_quiet(h:AI s d n){k:Kl}(b:d.kl c=some k):Rest (quietW s c d) c:=by
 obtain⟨_,_,f⟩:=h.1.kl _ _ b;have m:=h.1.len;have i:d.l.getD c.toNat none=some k:=by unfold Wd.kl at b;rw[if_pos f.1]at b;exact b
 have j:=mem_who (l:=d.l) (c:=c.toNat) (by omega) i;rw[show ((c.toNat:Nat):Int)=c by omega]at j;exact rest_adN (ai_restL _ h) (restL_rests _ h.1 ⟨k,b⟩ j) s.c.toNat
end

end

section

def actsF (s:Sh) (c:Int) (d:Wd) (l:List Ch):Wd:=l.foldl (fun d x=> if x.client≠c then (d.act s x).1 else d) d
theorem actsF_take{s:Sh}{c:Int}{d:Wd}{l:List Ch}{i:Nat}(h:i<l.length):actsF s c d (l.take (i+1))=if l[i].client≠c then((actsF s c d (l.take i)).act s l[i]).1 else actsF s c d (l.take i):=by
 unfold actsF;rw[List.take_succ_eq_append_getElem h,List.foldl_append];rfl
section

variable {s:Sh} {d:Wd} {n:Nat} {c:Int}

theorem ai_actsF(h:AI s d n)(l:List Ch):AI s (actsF s c d l) (n+l.length):=by
 induction l generalizing d n with
 |nil=>exact h;|cons x l i=>
  have b:AI s (if x.client≠c then(d.act s x).1 else d) (n+1):=by
   split
   ·exact ai_act h x
   exact ai_weak h (by omega)
  have f:=i b;rw[List.length_cons,show n+(l.length+1)=n+1+l.length by omega];exact f
def Fresh (s:Sh) (d:Wd) (c:Int):Prop:=∃ σ,WI s σ d/\σ.st c= .unused
theorem fresh_new(b:mayB s.p s.c s.m=true)(c:Int):Fresh s (zde s) c:=⟨z9x,ydc b,rfl⟩
theorem fresh_act(h:Fresh s d c)(hd:wdOk s d n){x:Ch}(o:x.client≠c):Fresh s (d.act s x).1 c:=by
 obtain⟨σ,b,hu⟩:=h;have f:∀ v,(σ.stat x.client v).st c= .unused:=fun v=>by show up σ.st x.client v c=_;rw[z6r _ (Ne.symm o)];exact hu
 unfold Wd.act;split
 ·exact⟨σ,b,hu⟩
 rename_i hb;unfold Ch.bad at hb;split
 ·by_cases i:d.stat x.client=0
  ·exact⟨_,zqr b hd x (by omega) i,f _⟩
  unfold Wd.begin;rw[if_neg i];exact⟨σ,b,hu⟩
 cases hk:d.kl x.client with
 |none=>exact⟨σ,b,hu⟩;|some k=>
  dsimp only;split
  ·cases hj:k.job with
   |none=>
    have:k.step s d.m=(k,d.m, [],2):=by unfold Kl.step;rw[hj]
    unfold Wd.step;rw[this];dsimp only;exact⟨σ,zw8 b hk (b.li _ k hk).2 (.inl rfl) _ _,hu⟩
   |some j=>have l:=zt5 b hd hk hj;exact⟨_,l.1,(l.2.1.st c).2 hu⟩
  split
  ·exact⟨σ,zwb b hd x hk,hu⟩
  exact⟨_,zp4 b hd hk,f _⟩
theorem fresh_actsF(h:Fresh s d c)(b:AI s d n)(l:List Ch):Fresh s (actsF s c d l) c:=by
 induction l generalizing d n with
 |nil=>exact h;|cons x l i=>
  refine i (d:=if x.client≠c then(d.act s x).1 else d) (n:=n+1) ?_ ?_
  ·split
   ·rename_i f;exact fresh_act h b.1 f
   exact h
  split
  ·exact ai_act b x
  exact ai_weak b (by omega)
theorem fresh_stat(h:Fresh s d c)(hc:0<=c/\c<s.c):d.stat c=0:=by
 obtain⟨σ,f,hu⟩:=h;have b:=f.rep.st c hc;rw[(ixs f.rep.fi).2.2.2 _ hc,hu]at b;unfold Wd.stat;rw[b];rfl
theorem fresh_start(h:Fresh s d c)(hd:wdOk s d n)(hc:0<=c/\c<s.c):(d.act s ⟨1,c,0,0,0,0⟩).2=0/\∃ k,(d.act s ⟨1,c,0,0,0,0⟩).1.kl c=some k:=by
 have b:=fresh_stat h hc;have hi:c.toNat<d.l.length:=by rw[hd.len];omega
 unfold Wd.act;rw[if_neg (by unfold Ch.bad;dsimp only;omega),if_pos rfl];unfold Wd.begin;dsimp only;rw[if_pos b];exact⟨rfl,_,by rw[d.zdk hc.1 hi,if_pos rfl]⟩
end

end

section

open Go.RowKit

attribute [local go_sem ↓] Go.wp_at_zero Go.wp_at_succ

def sT:Sh:=⟨2,1,1⟩
def tA0:Wd:=zde sT
def tA1:Wd:=(tA0.act sT ⟨1,0,0,0,0,0⟩).1
def tA2:Wd:=askW sT tA1 0 ⟨1,0,100⟩
def tA3:Wd:=askW sT tA2 0 ⟨1,0,1⟩
def tA4:Wd:=askW sT tA3 0 ⟨2,0,0⟩
theorem tE1:(tA0.act sT ⟨1,0,0,0,0,0⟩).2=0:=by decide +kernel
theorem tE2:(tA1.act sT ⟨2,0,1,0,100,0⟩).2=0:=by decide +kernel
theorem tL2:ygv tA2=0:=by decide +kernel
theorem tE3:(tA2.act sT ⟨2,0,1,0,1,0⟩).2=0:=by decide +kernel
theorem tL3:ygv tA3=3:=by decide +kernel
theorem tE4:(tA3.act sT ⟨2,0,2,0,0,0⟩).2=0:=by decide +kernel
theorem tL4:ygv tA4=0:=by decide +kernel
theorem tF4:(⟨2,1,1,tA4.m.ws⟩:Hp).count.f=128:=by decide +kernel
theorem tM:z5k sT=284:=by decide
theorem audT(ws:List Int)(hc:(⟨2,1,1,ws⟩:Hp).count.f=128)(l:∀ x ∈ ws,0<=x/\x<18446744073709551616)(v:Value)(Y:World)(h:RdZ .u64 Y v ws):
  Calls Tryz.prog 47 #[.agg #[.int .i64 2,.int .i64 1,.int .i64 1],v] Y fun e w'=>(∃ a b c:Value,e= .returned (.agg #[.int .i64 128,a,b,c]))/\Below Y.heap.size Y w':=by
 refine(ycv ⟨2,1,1,ws⟩ v Y h l).mono fun e w' j=>?_;have i:=j.1;rw[hc]at i;exact⟨⟨_,_,_,i⟩,j.2⟩
theorem yjk{s:Sh}{d:Wd}{n:Nat}(h:wdOk s d n):∀ x ∈ d.m.ws,0<=x/\x<18446744073709551616:=h.fit
theorem yhd(a b c d:Value)(w:World):(Instr.field 94 (.agg #[a,b,c,d]) 0).run Tryz.prog w= .ok a w:=by kernel_rfl
attribute [local go_sem ↓] yhd

theorem yhf(W:World):Calls Tryz.prog 14 #[] W fun e w'=>e= .returned (.bool true)/\Below W.heap.size W w':=by
 have o0:=zl9 (s:=sT) (by decide);have o1:wdOk sT tA1 1:=zeo o0 _;have o2:wdOk sT tA2 286:=by have h:=yhe (c:=0) (o:=⟨1,0,100⟩) o1;rw[tM]at h;exact h
 have o3:wdOk sT tA3 571:=by have h:=yhe (c:=0) (o:=⟨1,0,1⟩) o2;rw[tM]at h;exact h
 have o4:wdOk sT tA4 856:=by have h:=yhe (c:=0) (o:=⟨2,0,0⟩) o3;rw[tM]at h;exact h
 have l:∀ Y,Calls Tryz.prog 16 #[.agg #[.int .i64 2,.int .i64 1,.int .i64 1]] Y fun e w'=>Below Y.heap.size Y w'/\∃ g v x,e= .returned (.tuple #[.pointer (some ⟨g,0,.none⟩),.pointer (some ⟨v,0,.none⟩)])/\WdP Y.heap.size (fun i=>Y.heap.size<=i/\i<w'.heap.size) w' g sT tA0 x:=fun Y=>znk sT Y (by decide);have bj:∀ (p:Nat) (W:World),(binOp .eql 27 (.pointer (some ⟨p,0,.none⟩)) (.pointer none)).run Tryz.prog W= .ok (.bool false) W:=fun p W=>by kernel_rfl
 have I:∀ (B:Nat) (F:Nat->Prop) X g x,WdP B F X g sT tA0 x->B<=X.heap.size->Calls Tryz.prog 17 #[some g,.agg #[.int .i64 1,.int .i64 0,.int .i64 0,.int .i64 0,.int .i64 0,.float .f64 0]] X fun e w'=>e= .returned (.int .i64 0)/\WdTo B F X w' g sT tA1:=fun B F X g x C E=>by have h:=zkm C E o0 (by omega) ⟨1,0,0,0,0,0⟩;rw[tE1]at h;exact h
 have J:∀ (B:Nat) (F:Nat->Prop) X g x,WdP B F X g sT tA1 x->B<=X.heap.size->Calls Tryz.prog 22 #[some g,.agg #[.int .i64 2,.int .i64 1,.int .i64 1],.int .i64 0,.agg #[.int .i64 1,.int .i64 0,.int .i64 100]] X fun e w'=>e= .returned (.tuple #[.int .i64 0,.bool true])/\WdTo B F X w' g sT tA2:=fun B F X g x C E=>by refine(yha C E o1 (by rw[tM];omega) 0 ⟨1,0,100⟩).mono fun e w' q=>?_;dsimp only at q;rw[if_pos tE2]at q;rw[<-tL2];exact q
 have L:∀ (B:Nat) (F:Nat->Prop) X g x,WdP B F X g sT tA2 x->B<=X.heap.size->Calls Tryz.prog 22 #[some g,.agg #[.int .i64 2,.int .i64 1,.int .i64 1],.int .i64 0,.agg #[.int .i64 1,.int .i64 0,.int .i64 1]] X fun e w'=>e= .returned (.tuple #[.int .i64 3,.bool true])/\WdTo B F X w' g sT tA3:=fun B F X g x C E=>by refine(yha C E o2 (by rw[tM];omega) 0 ⟨1,0,1⟩).mono fun e w' q=>?_;dsimp only at q;rw[if_pos tE3]at q;rw[<-tL3];exact q
 have M:∀ (B:Nat) (F:Nat->Prop) X g x,WdP B F X g sT tA3 x->B<=X.heap.size->Calls Tryz.prog 22 #[some g,.agg #[.int .i64 2,.int .i64 1,.int .i64 1],.int .i64 0,.agg #[.int .i64 2,.int .i64 0,.int .i64 0]] X fun e w'=>e= .returned (.tuple #[.int .i64 0,.bool true])/\WdTo B F X w' g sT tA4:=fun B F X g x C E=>by refine(yha C E o3 (by rw[tM];omega) 0 ⟨2,0,0⟩).mono fun e w' q=>?_;dsimp only at q;rw[if_pos tE4]at q;rw[<-tL4];exact q
 have N:∀ (B:Nat) (F:Nat->Prop) X g x,WdP B F X g sT tA4 x->Calls Tryz.prog 21 #[some g] X fun e w'=>∃ v',e= .returned v'/\Below X.heap.size X w'/\RdZ .u64 w' v' tA4.m.ws:=fun B F X g x C=>(ycw C).mono fun e w' ⟨v,h1,h2,h3⟩=>⟨v,h1,h2,RdS.zew h3⟩
 have j:∀ Y v,RdZ .u64 Y v tA4.m.ws->Calls Tryz.prog 47 #[.agg #[.int .i64 2,.int .i64 1,.int .i64 1],v] Y fun e w'=>(∃ a b c:Value,e= .returned (.agg #[.int .i64 128,a,b,c]))/\Below Y.heap.size Y w':=fun Y v h=>audT _ tF4 (yjk o4) v Y h;have b0:=(Below.refl W.heap.size W).alloc lr (.cells #[.int .i64 2,.int .i64 1,.int .i64 1] 23);have t0:zaa (W.alloc (.cells #[.int .i64 2,.int .i64 1,.int .i64 1] 23)) W.heap.size #[.int .i64 2,.int .i64 1,.int .i64 1] 23:=heap_alloc_new _ _;replace l:=hd' l;replace I:=hd' I;replace J:=hd' J;replace L:=hd' L;replace M:=hd' M;replace N:=hd' N;replace j:=hd' j;clear o0 o1 o2 o3 o4;go_in;go_upto_region 2 with fail;generalize W.alloc (.cells #[.int .i64 2,.int .i64 1,.int .i64 1] 23)=X at *;obtain⟨H,hH,V⟩:=hidv W.heap.size;rw[<-V]at t0 ⊢;clear V;have D:=t0.lt;obtain⟨c0,c1,c2⟩:=ci3 2 1 1 t0.cell;go_upto_region 6 with(first|(go_at_call 16;(with_reducible refine(l.out _).mono ?_);rintro r w1 ⟨G,g,vv,x0,rfl,b7⟩;have R:=G.size)|(go_at_call 17;(with_reducible refine(I.out _ _ _ _ _ b7 R).mono ?_);rintro r w2 ⟨rfl,⟨x1,b8⟩,b3,S⟩));have t1:=t0.below G;have bb:¬ (X.heap.size<=H/\H<w1.heap.size):=fun e=>by omega
 have t2:=t1.only b3 bb;have bc:=zif (F:=fun i=>X.heap.size<=i/\i<w1.heap.size) (W':=w2) bb t1.lt;clear c0 c1 c2 D;have D:=t2.lt;obtain⟨c0,c1,c2⟩:=ci3 2 1 1 t2.cell;go_upto_region 7 with(first|(go_at_call 22;(with_reducible refine(J.out _ _ _ _ _ b8 S).mono ?_);rintro r w3 ⟨rfl,⟨x2,b9⟩,b4,T⟩));have t3:=t2.only b4 bc;have bf:=zif (W':=w3) bc t2.lt;clear c0 c1 c2 D;have D:=t3.lt;obtain⟨c0,c1,c2⟩:=ci3 2 1 1 t3.cell;go_upto_region 8 with(first|(go_at_call 22;(with_reducible refine(L.out _ _ _ _ _ b9 T).mono ?_);rintro r w4 ⟨rfl,⟨x3,ba⟩,b5,U⟩));have t4:=t3.only b5 bf;have bi:=zif (W':=w4) bf t3.lt;clear c0 c1 c2 D;have D:=t4.lt;obtain⟨c0,c1,c2⟩:=ci3 2 1 1 t4.cell;go_upto_region 9 with(first|(go_at_call 22;(with_reducible refine(M.out _ _ _ _ _ ba U).mono ?_);rintro r O ⟨rfl,⟨x4,bh⟩,b6,bk⟩));have t5:=t4.only b6 bi;clear c0 c1 c2 D;have D:=t5.lt;obtain⟨c0,c1,c2⟩:=ci3 2 1 1 t5.cell;have b2:Below W.heap.size W O:=b0.trans ((G.trans ((b3.below R (fun i hi=>(b7.lt i hi).1)).trans ((b4.below S (fun i hi=>(b8.lt i hi).1)).trans ((b5.below T (fun i hi=>(b9.lt i hi).1)).trans (b6.below U (fun i hi=>(ba.lt i hi).1)))))).mono b0.size);have bg:=b2.size;have y:∀ Z,Below O.heap.size O Z->Calls Tryz.prog 21 #[some g] Z fun e w'=>∃ v',e= .returned v'/\Below Z.heap.size Z w'/\RdZ .u64 w' v' tA4.m.ws:=fun Z hZ=>N.out _ _ _ _ _ (bh.below hZ);have hk:∀ Z,Below O.heap.size O Z->Z.cell? ⟨H,0,.none⟩=some (.int .i64 2)/\Z.cell? ⟨H,1,.none⟩=some (.int .i64 1)/\Z.cell? ⟨H,2,.none⟩=some (.int .i64 1):=fun Z hZ=>⟨zai hZ _ _ _ c0,zai hZ _ _ _ c1,zai hZ _ _ _ c2⟩;replace y:=hd' y;replace hk:=hd' hk;have dd:=hd' (Below.refl O.heap.size O).drew
 go_region_held3 (fun Y=>Y.cell? ⟨H,0,.none⟩=some (.int .i64 2)/\Y.cell? ⟨H,1,.none⟩=some (.int .i64 1)/\Y.cell? ⟨H,2,.none⟩=some (.int .i64 1))
  (first|exact hk.out _ dd.out|exact hk.out _ (dd.out.trans (z.mono dd.out.size))|exact hk.out _ ((dd.out.trans (z.mono dd.out.size)).trans (b1.mono (by have:=dd.out.size;have:=z.size;omega))))
  (first|(go_at_call 21;(with_reducible refine(y.out _ dd.out).mono ?_);rintro r w6 ⟨v,rfl,z,hv⟩)|(go_at_call 47;(with_reducible refine(j.out _ _ hv).mono ?_);rintro r w7 ⟨⟨a,b,c,rfl⟩,b1⟩))
 go_wp2_with fail;go_returns;have h6:=dd.out.trans (z.mono dd.out.size);exact⟨rfl,b2.trans ((h6.trans (b1.mono h6.size)).mono bg)⟩
end

section

open Go.RowKit

attribute [local go_sem ↓] Go.wp_at_zero Go.wp_at_succ

theorem room22(ao:Option Addr)(n cap:Nat)(m:Nat)(i:(n:Int)<=9223372036854775807)(w:World):Calls Tryz.prog 15 #[.slice ao n cap,.int .i64 (m:Int)] w fun e w'=>e= .returned (.bool (decide (n<=m)))/\w'=w:=by
 by_cases h:n<=m
 ·rw[decide_eq_true h];have b:(n:Int)<=(m:Int):=by omega
  go_in;go_wp2_with fail;go_returns;exact⟨rfl,rfl⟩
 rw[decide_eq_false h];have b:¬ (n:Int)<=(m:Int):=by omega
 go_in;go_wp2_with fail;go_returns;exact⟨rfl,rfl⟩
theorem chAt{W:World}{xs:List Ch}{ao:Option Addr}{n cap:Nat}(I:n=xs.length)(C:RdS W 6 (.slice ao n cap) n (xs.flatMap Ch.cells)){i:Nat}(hi:i<xs.length):∃ f b,ao=some ⟨f,b,.none⟩/\∀ H X,W.heap.size<=H->Below H W X->(∀ k,k<6->X.cell? ⟨f,b+i*6+k,.none⟩=xs[i].cells[k]?)/\f<X.heap.size:=by
 obtain⟨q,m,e,o,y,G,l⟩:=C;injection e with r D E;subst r;obtain⟨f,b,rfl,z,j⟩:=l (by omega);refine⟨f,b,rfl,fun H X F hb=>⟨fun k B=>?_,by have:=hb.size;omega⟩⟩;have t:X.cell? ⟨f,b+i*6+k,.none⟩=W.cell? ⟨f,b+i*6+k,.none⟩:=hb.cell (p:=⟨f,_,.none⟩) (show f<H by omega);rw[t,Nat.add_assoc,j _ (by omega)];exact yan xs i hi k B
theorem ai_bl{s:Sh}{d:Wd}{n:Nat}(h:AI s d n):(hpOf s d.m).bl=(jdOf s d).l:=by
 obtain⟨_,σ,f,b⟩:=h;have:=b.bl;rw[b.W]at this;exact hp_bl f.rep f.gi this
theorem wblocks_any{s:Sh}{d:Wd}{n:Nat}(h:AI s d n)(v:Value)(w:World)(D:RdZ .u64 w v d.m.ws):
  Calls Tryz.prog 20 #[.agg #[s.p,s.c,s.m],v] w fun e w'=>Below w.heap.size w w'/\∃ ao cap,e= .returned (.slice ao (jdOf s d).l.length cap)/\(jdOf s d).l.length<=cap/\(cap:Int)<=9223372036854775807/\
   Hid (∀ k (o:k<(jdOf s d).l.length),∃ b i,ao=some ⟨b,i,.none⟩/\(w.heap.size<=b/\b<w'.heap.size)/\w'.cell? ⟨b,i+k*2,.none⟩=some (.int .i64 ((jdOf s d).l[k]).a)/\w'.cell? ⟨b,i+k*2+1,.none⟩=some (.int .i64 ((jdOf s d).l[k]).n)):=by
 refine(yjc (hpOf s d.m) v w D h.1.fit).mono fun e w' ⟨v',r,t,j⟩=>⟨t,?_⟩;rw[ai_bl h]at j;obtain⟨ao,cap,rfl,y,z,_,B⟩:=RdS.zew j;refine⟨ao,cap,r,y,z,hd' fun k o=>?_⟩;obtain⟨b,i,q,hb,hc⟩:=B (by omega);have C:=(j.lt b (by rw[q];rfl)).1;refine⟨b,i,q,⟨C,hb⟩,?_,?_⟩
 ·refine(hc (k*2) (by omega)).trans ?_;exact yh1 _ _ 0 o (by omega)
 rw[Nat.add_assoc];refine(hc (k*2+1) (by omega)).trans ?_;exact yh1 _ _ 1 o (by omega)
end

section

open Go.RowKit Go.ChangeShapes Go.WideShapes Go.ChangeAt

section

variable {H:Type} {enc:TypeId × Value->H} {w:World}

theorem ygg{es:List Value}(h:Rd enc Tryz.prog w 32 es):∃ a b c:Int,es= [.int .i64 a,.int .i64 b,.int .i64 c]:=by
 obtain⟨m,i⟩:=zmz Tryz.underlying32 h;have o:Tryz.prog.cellsOf 32=3:=by kernel_rfl
 have k1:Tryz.prog.cellsOf 3=1:=by kernel_rfl
 rw[o]at m;obtain⟨x,y,z,rfl⟩:=ye6 m;have g0:Rd enc Tryz.prog w 3 (([x,y,z].drop 0).take (Tryz.prog.cellsOf 3)):=i 0 _ rfl;have j:Rd enc Tryz.prog w 3 (([x,y,z].drop 1).take (Tryz.prog.cellsOf 3)):=i 1 _ rfl;have l:Rd enc Tryz.prog w 3 (([x,y,z].drop 2).take (Tryz.prog.cellsOf 3)):=i 2 _ rfl;rw[k1]at g0 j l;obtain⟨a,f,_⟩:=zj9 Tryz.underlying3 g0;obtain⟨b,hb,_⟩:=zj9 Tryz.underlying3 j;obtain⟨c,hc,_⟩:=zj9 Tryz.underlying3 l;injection f with f;injection hb with hb;injection hc with hc;subst f hb hc;exact⟨a,b,c,rfl⟩
theorem yf3{es:List Value}(y:es.length=6)(h:Rd enc Tryz.prog w 35 es):∃ c:Ch,c.cells=es/\True:=by
 obtain⟨_,i⟩:=zmz Tryz.underlying35 h;match es,y with
 | [x0,x1,x2,x3,x4,x5],_=>
  have k1:Tryz.prog.cellsOf 3=1:=by kernel_rfl
  have z:Tryz.prog.cellsOf 32=3:=by kernel_rfl
  have B:Tryz.prog.cellsOf 33=1:=by kernel_rfl
  have g0:Rd enc Tryz.prog w 3 (([x0,x1,x2,x3,x4,x5].drop 0).take (Tryz.prog.cellsOf 3)):=i 0 _ rfl;have l:Rd enc Tryz.prog w 3 (([x0,x1,x2,x3,x4,x5].drop 1).take (Tryz.prog.cellsOf 3)):=i 1 _ rfl;have m:Rd enc Tryz.prog w 32 (([x0,x1,x2,x3,x4,x5].drop 2).take (Tryz.prog.cellsOf 32)):=i 2 _ rfl;have o:Rd enc Tryz.prog w 33 (([x0,x1,x2,x3,x4,x5].drop 5).take (Tryz.prog.cellsOf 33)):=i 3 _ rfl;rw[k1]at g0 l;rw[z]at m;rw[B]at o;obtain⟨a,j,_⟩:=zj9 Tryz.underlying3 g0;obtain⟨b,hb,_⟩:=zj9 Tryz.underlying3 l;obtain⟨c,d,e,hc⟩:=ygg m;obtain⟨f,hd,C⟩:=z7d Tryz.underlying33 o;injection j with j;injection hb with hb;injection hd with hd;injection hc with p hc;injection hc with q hc;injection hc with r hc;subst j hb p q r hd;exact⟨⟨a,b,c,d,e,f⟩,rfl,trivial⟩
theorem z6m{v:Value}{r:Reach}{i:Nat}{d:DataW H}{ps:List MemPlace}(l:Value.okWide Tryz.prog w r i 24 v)(j:DataW.Trod enc Tryz.prog w 0 (fun _=>true) true 24 v d ps):
  ∃ xs:List Ch,RdS w 6 v xs.length (xs.flatMap Ch.cells):=by
 obtain⟨xs,b,f⟩:=open_list Ch.cells (fun _=>True) Tryz.underlying24 (sz:=6) (by kernel_rfl) (by omega) (fun _=>rfl) (fun es b f=>yf3 b f) l j;exact⟨xs,b⟩
end

end

end Go.Proofs.YtkbddndcegpllaaGreat
