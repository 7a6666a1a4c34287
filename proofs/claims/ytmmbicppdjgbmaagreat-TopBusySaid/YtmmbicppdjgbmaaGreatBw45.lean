/- Lemmas for the claim. -/
import Derived.Test.YtmmbicppdjgbmaaGreatBw38

import Derived.Test.YtmmbicppdjgbmaaGreatBw41

import Derived.Test.YtmmbicppdjgbmaaGreatBw43

set_option linter.all false
set_option maxHeartbeats 4000000
set_option maxRecDepth 100000
namespace Go.Proofs.YtmmbicppdjgbmaaGreat

section

open Go.RowKit Fl

def TB (xs:List Ch):List Value:=xs.flatMap Ch.cells
theorem AU(xs:List Ch):(TB xs).length=xs.length*6:=by
 induction xs with
 |nil=>rfl;|cons x xs b=>have:(TB (x::xs))=x.cells++TB xs:=rfl;rw[this,List.length_append,b,List.length_cons];show 6+_=_;omega
theorem zla(xs b:List Ch):TB (xs++b)=TB xs++TB b:=by simp[TB]
theorem qP(xs:List Ch)(i j:Nat)(hi:i<xs.length)(l:j<6):(TB xs)[i*6+j]?=(xs[i].cells)[j]?:=by
 induction xs generalizing i with
 |nil=>simp at hi
 |cons x xs f=>
  have b:x.cells.length=6:=rfl
  show (x.cells++TB xs)[i*6+j]?=_
  cases i with
  |zero=>rw[List.getElem?_append_left (by omega)];simp
  |succ i=>
   rw[List.getElem?_append_right (by omega),b,show (i+1)*6+j-6=i*6+j from by omega]
   simpa using f i (by simpa using hi)
def RdC (w:World) (v:Value) (xs:List Ch):Prop:=∃ ao cap,v= .slice ao xs.length cap/\xs.length<=cap/\(cap:Int)<=9223372036854775807/\
 (xs≠ []->∃ b off,ao=some ⟨b,off,.none⟩/\b < w.heap.size/\∀ i j,(hi:i < xs.length)->j < 6->w.cell? ⟨b,off + i * 6 + j,.none⟩=(xs[i].cells)[j]?)
theorem RdC.below{w w':World}{v:Value}{xs:List Ch}(h:RdC w v xs)(hb:Below w.heap.size w w'):RdC w' v xs:=
 let ⟨ao,cap,e,h1,h2,h3⟩:=h
 ⟨ao,cap,e,h1,h2,fun l=>let ⟨b,off,ea,hlt,hc⟩:=h3 l;⟨b,off,ea,Nat.lt_of_lt_of_le hlt hb.size,fun i j hi f=>(hb.cell (p:=⟨b,_,.none⟩) hlt).trans (hc i j hi f)⟩⟩
abbrev OwnC (E:TypeId) (B:Nat) (w:World) (v:Value) (xs:List Ch):Prop:=w.ownsRow B E 6 v xs.length (TB xs)
theorem OwnC.rd{E:TypeId}{B:Nat}{w:World}{v:Value}{xs:List Ch}(h:OwnC E B w v xs):RdC w v xs:=by
 rcases h.2 with⟨h1,h2⟩|⟨g,cap,b,rfl,h1,h2,h3,h4,o,f⟩
 ·have:xs= []:=List.eq_nil_of_length_eq_zero h2;subst this;exact⟨none,0,h1,Nat.le_refl _,by omega,fun h=>absurd rfl h⟩
 refine⟨_,cap,rfl,h3,by simp only[maxLen]at h4;omega,fun _=>⟨g,0,rfl,(jE h2),fun i j hi l=>?_⟩⟩;rw[cell_of_row w g _ b E (0,0) h2,<- qP xs i j hi l,<- f,List.getElem?_take,jP (by omega)];simp
theorem OwnC.nil(E:TypeId)(B:Nat)(w:World):OwnC E B w (.slice none 0 0) []:=⟨rfl,.inl ⟨rfl,rfl⟩⟩
end

section

def Wd.play (s:Sh) (d:Wd):List Ch->Wd × Int
 | []=> (d,0)
 | x::xs=> (((d.act s x).1.play s xs).1,(if (d.act s x).2=0 then 1 else 0) + ((d.act s x).1.play s xs).2)
end

section

open Go.RowKit

attribute [local go_sem ↓] Go.wp_at_zero Go.wp_at_succ

theorem z1o:(Tryz.prog.info? 3).map (fun i=>(i.zero,i.size,i.bytes))=some (some (.int .i64 0),1,8):=by kernel_rfl
def whoB (P:Kl->Bool) (l:List (Option Kl)) (c:Nat):Bool:=match l.getD c none with
 | some k=> P k
 | none=> false
def whoL (P:Kl->Bool) (l:List (Option Kl)) (n:Nat):List Int:=((List.range n).filter (whoB P l)).map (fun c:Nat=> (c:Int))
theorem ztj(P:Kl->Bool)(l:List (Option Kl))(n:Nat):whoL P l (n+1)=whoL P l n++if whoB P l n=true then [(n:Int)] else []:=by
 unfold whoL;rw[List.range_succ,List.filter_append,List.map_append];congr 1;by_cases h:whoB P l n=true
 ·rw[jP h];simp[h]
 rw[jN h];simp[h]
theorem cX(P:Kl->Bool)(l:List (Option Kl))(n:Nat):(whoL P l n).length<=n:=by
 unfold whoL;rw[List.length_map];have h:=List.length_filter_le (whoB P l) (List.range n);rw[List.length_range]at h;exact h
section

variable {B:Nat} {F:Nat->Prop} {W:World} {g:Nat} {s:Sh} {d:Wd} {x:Wx}

theorem z06(h:WdP B F W g s d x)(hn:d.l.length<=100)(P:Kl->Bool)(T:∀ c k X,d.l.getD c none=some k->jW W X->Calls Tryz.prog 47 #[.pointer (some ⟨x.qs c,0,.none⟩)] X fun e w'=>e= .returned (.bool (P k))/\Below X.heap.size X w'):
  Calls Tryz.prog 46 #[some g,.func (.func 47) #[] #[]] W fun e w'=>∃ v,e= .returned v/\Below W.heap.size W w'/\w'.ownsRow W.heap.size 3 1 v (whoL P d.l d.l.length).length ((whoL P d.l d.l.length).map (Value.int .i64)):=by
 have b1:∀ (p:Nat) (W:World),(binOp .eql 27 (.pointer (some ⟨p,0,.none⟩)) (.pointer none)).run Tryz.prog W= .ok (.bool false) W:=fun p W=>by kernel_rfl
 have b2:∀ (W:World),(binOp .neq 80 (.pointer none) (.pointer none)).run Tryz.prog W= .ok (.bool false) W:=fun W=>by kernel_rfl
 have b3:∀ (p:Nat) (W:World),(binOp .neq 80 (.pointer (some ⟨p,0,.none⟩)) (.pointer none)).run Tryz.prog W= .ok (.bool true) W:=fun p W=>by kernel_rfl
 have c4:=ce (.slice (some ⟨x.lb,0,.none⟩) d.l.length d.l.length) (h.top.cell 4);have lg:=h.top.lt;have j:∀ c X,c<d.l.length->jW W X->X.cell? ⟨x.lb,c,.none⟩=some (ptrK (d.l.getD c none) (x.qs c))/\x.lb<X.heap.size:=fun c X hc hb=>⟨((h.below hb).lst.cell c).trans (by simpa using(h.below hb).pe c hc),(h.below hb).lst.lt⟩;obtain⟨i0,U,V,Y,Z⟩:=info_parts z1o;have M:=fun c=>ztj P d.l c;have I:=fun c=>cX P d.l c
 have D:∀ c o,d.l.getD c none=o->whoB P d.l c=match o with
  |some k=>P k
  |none=>false:=fun c o e=>by subst e;rfl
 generalize hL:d.l.length=n at *;replace T:=hd' T;replace j:=hd' j;replace M:=hd' M;replace I:=hd' I;replace D:=hd' D;replace hL:=hd' hL;clear h;go_in;go_wp2;go_loopw [5,15] (fun v5 N wr=>∃ c:Nat,c<=n/\N= .int .i64 c/\Below W.heap.size W wr/\wr.ownsRow W.heap.size 3 1 v5 (whoL P d.l c).length ((whoL P d.l c).map (Value.int .i64))) (fun _ N _=>n-(intOf N).toNat);case atStart=>exact⟨0,Nat.zero_le _,rfl,Below.refl _ _,⟨by simp[whoL],.inl ⟨rfl,by simp[whoL]⟩⟩⟩
 case round=>
  obtain⟨c,b7,rfl,b,q⟩:=hrel;have b5:(0:Int)<=(c:Int):=by omega
  by_cases hc:c<n
  ·have b6:(c:Int)<(n:Int):=by omega
   have bb:IntKind.i64.wrap ((c:Int)+1)=(c:Int)+1:=IntWalk.i64_in _ ⟨by omega,by omega⟩;have z:=j c wr hc b;have O:=z.1;have z2:=z.2;have hs:=M c;have b8:=I c;cases hk:d.l.getD c none with
   |none=>have C:whoB P d.l c=false:=D c _ hk;rw[hk]at O;rw[jN (by rw[C];decide),List.append_nil]at hs;replace O:wr.cell? ⟨x.lb,c,.none⟩=some (.pointer none):=O;replace hs:=hd' hs;clear C hk z;go_wp2_with fail;exact⟨⟨c+1,by omega,by go_num,b,by rw[hs];exact q⟩,by simp only[intOf];omega⟩
   |some k=>
    have C:whoB P d.l c=P k:=D c _ hk
    rw[hk]at O
    replace O:wr.cell? ⟨x.lb,c,.none⟩=some (.pointer (some ⟨x.qs c,0,.none⟩)):=O
    have R:=T c k wr hk b
    have b4:=b.size
    rw[C]at hs
    generalize P k=pk at *
    generalize whoL P d.l c=L at *
    replace R:=hd' R
    clear C hk z
    cases pk with
    |false=>
     rw[jN (by decide),List.append_nil]at hs
     replace hs:=hd' hs
     go_wp2_with (first|(go_at_call 47;(with_reducible refine R.out.mono ?_);rintro r w6 ⟨rfl,y⟩))
     have S:=zA b y
     exact⟨⟨c+1,by omega,by go_num,S,by rw[hs];exact dL q y⟩,by simp only[intOf];omega⟩
    |true=>
     rw[jP rfl]at hs
     replace hs:=hd' hs
     go_wp2_with (first|(go_at_call 47;(with_reducible refine R.out.mono ?_);rintro r w6 ⟨rfl,y⟩;have S:=zA b y;have ba:=y.size;have G:=dL q y)|(refine AG rfl (.tmp 27) (.tmp 29) 57 rfl W.heap.size 3 i0 _ 1 8 Tryz.underlying57 U V Y Z rfl (by omega) _ L.length _ rfl (G.alloc _) _ 1 [.int .i64 c] rfl (RdS.new (cs:= #[c]) (t:=3) (sz:=1) (n:=1) (jA w6 _) rfl (by omega)) (by intro u hu;simp at hu;subst hu;rfl) (by simp only[maxLen];omega) (by omega) (by simp;omega) ?_;intro v7 w7 J E b0;have h7:=bE (S.alloc (by omega) _) (G.alloc _) (by simp;omega) E))
     exact⟨⟨c+1,by omega,by go_num,h7,by rw[hs,List.length_append,List.map_append];exact J⟩,by simp only[intOf];omega⟩
  obtain rfl:c=n:=by omega
  have b9:¬ (c:Int)<(c:Int):=by omega
  go_wp2_with fail;go_returns;exact⟨_,rfl,b,q⟩
theorem EZ(h:WdP B F W g s d x)(b:d.l.length<=100):
  Calls Tryz.prog 19 #[some g] W fun e w'=>∃ v,e= .returned v/\Below W.heap.size W w'/\w'.ownsRow W.heap.size 3 1 v (whoL (fun _=>true) d.l d.l.length).length ((whoL (fun _=>true) d.l d.l.length).map (Value.int .i64)):=by
 have o:=hd' (z06 h b (fun _=>true) (fun c k X _ _=>by
  go_in
  go_wp2_with fail
  go_returns
  exact⟨rfl,Below.refl _ _⟩))
 clear h;go_in;go_wp2_with (first|(go_at_call 46;(with_reducible refine o.out.mono ?_);rintro r p ⟨v,rfl,hb,j⟩));go_returns;exact⟨_,rfl,hb,j⟩
end

end

section

section

variable {s:Sh} {d:Wd} {n:Nat} {c:Int}

theorem yoq{x:Int}(h:wdOk s d n)(b:x≠c)(i:Nat):(d.goN s c i).kl x=d.kl x:=by
 induction i with
 |zero=>rfl
 |succ i f=>exact(NR (OG h i) b).trans f
theorem yqq{l:List (Option Kl)}{c:Nat}{k:Kl}(hc:c<l.length)(b:l.getD c none=some k):(c:Int) ∈ whoL (fun _=>true) l l.length:=by
 unfold whoL;rw[List.mem_map];refine⟨c,?_,rfl⟩;rw[List.mem_filter];refine⟨List.mem_range.2 hc,?_⟩;unfold whoB;rw[b]
end

end

section

open Go.RowKit

section

variable {W0 W W':World} {g:Nat} {s:Sh} {Kp Kq:Nat->Obj->Prop} {d d':Wd} {n:Nat}

theorem ypi(h:KA W0 g s Kp d W)(b:wdOk s d n)(c:Int):
  Calls Tryz.prog 25 #[some g,c] W fun e w'=>e= .returned (.int .i64 (YF s d c))/\Below W.heap.size W w':=by
 obtain⟨⟨F,x,h1,h2⟩,h3⟩:=h;exact vP h1 b.fi b.fit c
end

end

section

open Go.RowKit

theorem zm0{s:Sh}{d:Wd}{l:List Ch}{i:Nat}(h:i<l.length):d.acts s (l.take (i+1))=((d.acts s (l.take i)).act s l[i]).1:=by
 unfold Wd.acts;rw[List.take_succ,List.foldl_append,List.getElem?_eq_getElem h];rfl
theorem zv6{s:Sh}{d:Wd}{n:Nat}(h:wdOk s d n)(l:List Ch):wdOk s (d.acts s l) (n+l.length):=by
 induction l generalizing d n with
 |nil=>exact h;|cons x l b=>have h1:=b (KF h x);rw[show n+1+l.length=n+(x::l).length by simp;omega]at h1;exact h1
end

section

theorem bY(k:Kl)(j:Jb):∀ e ∈ k.tells j,e.c=k.c:=fun e f=>by
 unfold Kl.tells at f
 rcases List.mem_append.1 f with h|h
 ·split at h
  ·rw[List.mem_singleton.1 h];rfl
  ·cases h
 ·split at h
  ·rcases List.mem_append.1 h with h|h
   ·cases ht:j.took with
    |none=>rw[ht]at h;cases h
    |some b=>rw[ht]at h;rw[List.mem_singleton.1 h];rfl
   ·rw[List.mem_singleton.1 h];rfl
  ·cases h
theorem z5u(s:Sh)(k:Kl)(o:Op3):∀ e ∈ (k.invoke s o).2.1,e.c=k.c:=fun e b=>by
 unfold Kl.invoke at b
 split at b
 ·cases b
 ·split at b
  ·cases b
  ·split at b
   ·rcases List.mem_cons.1 b with h|h
    ·rw[h];rfl
    ·rw[List.mem_singleton.1 h];rfl
   ·rw[List.mem_singleton.1 b];rfl
theorem nZ(s:Sh)(k:Kl)(m:Mem):∀ e ∈ (k.step s m).2.2.1,e.c=k.c:=fun e b=>by
 unfold Kl.step at b
 split at b
 ·cases b
 ·exact bY _ _ e b
theorem mZ{c:Int}{m b:Mem}(h:Acts c m b):b.la.c=c:=by cases h<;>rfl
def Gone (s:Sh) (d:Wd) (c:Int):Prop:=∃ σ,WI s σ d/\d.kl c=none/\σ.st c≠ .unused
theorem YV{s:Sh}{d:Wd}{c:Int}(h:Gone s d c)(hc:0<=c/\c<s.c):d.stat c≠0/\d.stat c≠1:=by
 obtain⟨σ,h1,h2,h3⟩:=h;have l:=h1.rep.may;have b:=(ixs h1.rep.fi).2.2.2 _ hc;have h4:=h1.rep.st _ hc;rw[b]at h4;have j:=(TW.read l (h1.gi.tf c)).1;unfold Wd.stat;rw[h4,j];cases hx:σ.st c with
 |unused=>exact absurd hx h3
 |live=>obtain⟨k,f⟩:=h1.nl c hx;rw[h2]at f;cases f
 |dead=>exact⟨by decide,by decide⟩
 |owned a=>exact⟨show (3:Int)≠0 by decide,show (3:Int)≠1 by decide⟩
 |done=>exact⟨by decide,by decide⟩
structure Still (s:Sh) (c:Int) (d d':Wd):Prop where
 gone:Gone s d' c
 tr:∃ es,d'.tr=d.tr ++ es/\∀ e ∈ es,e.c≠c
 lg:∃ l,d'.lg=d.lg ++ l/\∀ a ∈ l,a.c≠c
theorem z7i{s:Sh}{d:Wd}{n:Nat}{c:Int}(h:Gone s d c)(hd:wdOk s d n)(hc:0<=c/\c<s.c)(x:Ch):Still s c d (d.act s x).1/\(x.client=c->(d.act s x).2≠0):=by
 have I:=YV h hc;have same:Still s c d d:=⟨h,⟨[],by simp,fun e o=>by cases o⟩,⟨[],by simp,fun e o=>by cases o⟩⟩;obtain⟨σ,h1,h2,h3⟩:=h;unfold Wd.act;split
 ·exact⟨same,fun _=>(show (1:Int)≠0 by decide)⟩
 rename_i hb;unfold Ch.bad at hb;have q:0<=x.client/\x.client<s.c:=by omega
 have hi:x.client.toNat<d.l.length:=by rw[hd.len];omega
 split
 ·by_cases hu:d.stat x.client=0
  ·have b:c≠x.client:=fun e=>I.1 (e ▸ hu);have D:=BM h1 hd x q hu;have f:∀ y,(d.begin s x).1.kl y=if y=x.client then some (SD x.client (Fl.TC x.bias s.p)) else d.kl y:=fun y=>by unfold Wd.begin;rw[jP hu];exact d.AB q.1 hi _ _ _ _ _
   refine⟨⟨⟨_,D,by rw[f,jN b];exact h2,by rw[ZA _ _ b];exact h3⟩,⟨[BE x.client],by unfold Wd.begin;rw[jP hu],fun e o=>by rw[List.mem_singleton.1 o];exact fun e=>b e.symm⟩,⟨[],by unfold Wd.begin;rw[jP hu];simp,fun e o=>by cases o⟩⟩,fun e=>absurd e.symm b⟩
  have e:d.begin s x=(d,5):=jN hu;rw[e];exact⟨same,fun _=>(show (5:Int)≠0 by decide)⟩
 cases hk:d.kl x.client with
 |none=>exact⟨same,fun _=>(show (2:Int)≠0 by decide)⟩;|some k=>
  dsimp only;have b:c≠x.client:=fun e=>by rw[<-e,h2]at hk;cases hk
  obtain⟨G,E,_⟩:=hd.kl _ k hk;have r:k.c≠c:=fun e=>b (by rw[<-e,E]);split
  ·have f:∀ y,(d.step s x.client k).1.kl y=if y=x.client then some (k.step s d.m).1 else d.kl y:=fun y=>by unfold Wd.step;exact d.AB q.1 hi _ _ _ _ _
   have C:∃ es,(d.step s x.client k).1.tr=d.tr++es/\∀ e ∈ es,e.c≠c:=⟨_,rfl,fun e o=>by rw[nZ s k d.m e o];exact r⟩;rcases hj:k.job with _|j
   ·have e:k.step s d.m=(k,d.m, [],2):=by unfold Kl.step;rw[hj]
    refine⟨⟨⟨σ,?_,by rw[f,jN b];exact h2,h3⟩,C,⟨[],?_,fun a t=>by cases t⟩⟩,fun e=>absurd e.symm b⟩
    ·unfold Wd.step;rw[e];exact EM h1 hk (h1.li _ k hk).2 (.inl rfl) _ _
    unfold Wd.step;rw[e];dsimp only;rw[jN (by omega),List.append_nil]
   have D:=EI h1 hd hk hj;refine⟨⟨⟨_,D.1,by rw[f,jN b];exact h2,fun e=>h3 ((D.2.1.st c).1 e)⟩,C,?_⟩,fun e=>absurd e.symm b⟩;rcases sU G hd.fi hd.fit with⟨z,_⟩|⟨_,_,t,_,_⟩
   ·rw[hj]at z;cases z
   have hs:=t.st;refine⟨[(k.step s d.m).2.1.la],?_,fun a J=>by rw[List.mem_singleton.1 J,mZ t];exact r⟩;unfold Wd.step;dsimp only;rw[jP (by omega)]
  split
  ·have f:∀ y,(d.ask s x k).1.kl y=if y=x.client then some (k.invoke s x.op).1 else d.kl y:=fun y=>by unfold Wd.ask;exact d.AB q.1 hi _ _ _ _ _
   exact⟨⟨⟨σ,FI h1 hd x hk,by rw[f,jN b];exact h2,h3⟩,⟨_,rfl,fun e o=>by rw[z5u s k x.op e o];exact r⟩,⟨[],by unfold Wd.ask;simp,fun a t=>by cases t⟩⟩,fun e=>absurd e.symm b⟩
  have f:∀ y,(d.kill x.client).1.kl y=if y=x.client then none else d.kl y:=fun y=>by unfold Wd.kill;exact d.AB q.1 hi _ _ _ _ _
  exact⟨⟨⟨_,JJ h1 hd hk,by rw[f,jN b];exact h2,by rw[ZA _ _ b];exact h3⟩,⟨[NE x.client],rfl,fun e o=>by rw[List.mem_singleton.1 o];exact fun e=>b e.symm⟩,⟨[],by unfold Wd.kill;simp,fun a t=>by cases t⟩⟩,fun e=>absurd e.symm b⟩
theorem z2e{s:Sh}{σ:Ab}{d:Wd}{n:Nat}{c:Int}(h:WI s σ d)(hd:wdOk s d n)(hc:0<=c/\c<s.c)(h0:(d.act s ⟨4,c,0,0,0,0⟩).2=0):Gone s (d.act s ⟨4,c,0,0,0,0⟩).1 c:=by
 have hb:¬ (⟨4,c,0,0,0,0⟩:Ch).bad s:=by unfold Ch.bad;dsimp only;omega
 have hi:c.toNat<d.l.length:=by rw[hd.len];omega
 have e:d.act s ⟨4,c,0,0,0,0⟩=match d.kl c with
  |none=>(d,2)
  |some _=>d.kill c:=by
  unfold Wd.act
  rw[jN hb,jN (show ¬ (4:Int)=1 by decide)]
  cases hk:d.kl c with
  |none=>simp only[hk]
  |some k=>simp only[hk];rw[jN (show ¬ (4:Int)=3 by decide),jN (show ¬ (4:Int)=2 by decide)]
 rw[e]at h0 ⊢;cases hk:d.kl c with
 |none=>rw[hk]at h0;exact absurd h0 (show ¬ (2:Int)=0 by decide);|some k=>refine⟨_,JJ h hd hk,?_,by rw[eE];simp⟩;unfold Wd.kill;exact(d.AB hc.1 hi _ _ _ _ _).trans (jP rfl)
section

variable {s:Sh} {d:Wd} {n:Nat} {c:Int}

theorem mK(h:Gone s d c)(hd:wdOk s d n)(hc:0<=c/\c<s.c)(x:Ch):Gone s (d.act s x).1 c:=(z7i h hd hc x).1.gone
theorem ypf(h:Gone s d c)(hd:wdOk s d n)(hc:0<=c/\c<s.c)(x:Int)(i:Nat):Gone s (d.goN s x i) c:=by
 induction i with
 |zero=>exact h;|succ i b=>
  show Gone s ((d.goN s x i).goS s x) c;unfold Wd.goS;split
  ·split
   ·exact mK b (OG hd i) hc (bB x)
   exact b
  exact b
end

end

section

open Go.RowKit

theorem z03{b:Type}(f:b->Value)(xs:List b):xs.flatMap (fun a=>[f a])=xs.map f:=by
 induction xs with
 |nil=>rfl
 |cons x xs j=>rw[List.flatMap_cons,j];rfl
section

variable {H:Type} {enc:TypeId × Value->H} {P:Program} {w:World}

theorem yf7{t e:TypeId}{k:IntKind}{v:Value}(l:P.underlying t=some (.slice e))(f:P.underlying e=some (.int k))(ce:P.cellsOf e=1){r:Reach} {b:Nat} {d:DataW H} {ps:List MemPlace} (o:Value.okWide P w r b t v) (h0:DataW.Trod enc P w 0 (fun _=>true) true t v d ps):∃ zs:List Int,RdZ k w v zs/\∀ z ∈ zs,(Lit.int k z).wf=true:=by
 obtain⟨xs,h1,h2⟩:=open_list (fun z:Int=>[Value.int k z]) (fun z=>(Lit.int k z).wf=true) l ce (by omega) (fun _=>rfl) (fun es h1 h2=>by
  obtain⟨n,rfl,j⟩:=GG f h2
  exact⟨n,rfl,j⟩) o h0
 rw[z03]at h1;exact⟨xs,h1,h2⟩
end

theorem yru{a:Int}(h:(Lit.int .u8 a).wf=true):0<=a/\a<=255:=by
 simp[Lit.wf,IntKind.min,IntKind.max,IntKind.bits,IntKind.signed]at h;omega
end

section

open Go.RowKit

attribute [local go_sem ↓] Go.wp_at_zero Go.wp_at_succ

attribute [local go_sem] QL

theorem ZP(s:Sh)(l:List Ch):∀ d:Wd,(d.play s l).1=d.acts s l:=by
 induction l with
 |nil=>exact fun d=>rfl
 |cons x l b=>exact fun d=>b _
theorem z6g(s:Sh)(a b:List Ch):∀ d:Wd,(d.play s (a++b)).2=(d.play s a).2+((d.play s a).1.play s b).2:=by
 induction a with
 |nil=>intro d;show _=0+_;rw[Int.zero_add];rfl;|cons x a f=>intro d;show (if (d.act s x).2=0 then 1 else 0)+((d.act s x).1.play s (a++b)).2=((if (d.act s x).2=0 then 1 else 0)+((d.act s x).1.play s a).2)+_;rw[f,Int.add_assoc];rfl
theorem zz5(s:Sh)(d:Wd)(l:List Ch){i:Nat}(h:i<l.length):(d.play s (l.take (i+1))).2=(d.play s (l.take i)).2+if ((d.acts s (l.take i)).act s l[i]).2=0 then 1 else 0:=by
 rw[List.take_succ,List.getElem?_eq_getElem h,z6g,ZP];show _+((if _ then 1 else 0)+(0:Int))=_;rw[Int.add_zero]
theorem FY(s:Sh)(l:List Ch):∀ d:Wd,0<=(d.play s l).2/\(d.play s l).2<=l.length:=by
 induction l with
 |nil=>exact fun d=>⟨Int.le_refl _,by show (0:Int)<=_;simp⟩;|cons x l b=>intro d;have h:=b (d.act s x).1;have e:(d.play s (x::l)).2=(if (d.act s x).2=0 then 1 else 0)+((d.act s x).1.play s l).2:=rfl;rw[e,List.length_cons];split<;>omega
section

variable {B:Nat} {F:Nat->Prop} {W:World} {g:Nat} {s:Sh} {d:Wd} {x:Wx} {m:Nat}

theorem FZ(h:WdP B F W g s d x)(hB:B<=W.heap.size)(ho:wdOk s d m)(xs:List Ch)(hn:m+xs.length<=10000000)(v:Value)(hr:RdS W 6 v xs.length (xs.flatMap Ch.cells))(hv:∀ b off cap,v= .slice (some ⟨b,off,.none⟩) xs.length cap->¬ F b):
  Calls Tryz.prog 17 #[some g,v] W fun e w'=>e= .returned (.int .i64 (d.play s xs).2)/\WdTo B F W w' g s (d.play s xs).1:=by
 obtain⟨ao,cap,rfl,b3,bj,hl,y⟩:=id hr;obtain⟨n,bg,o⟩:=hidv xs.length;rw[<-o]at b3 y hl hn hv ⊢;have Y:∀ i,i<=n->wdOk s (d.acts s (xs.take i)) (m+i):=fun i hi=>by have h1:=zv6 ho (xs.take i);rw[List.length_take,<- o,Nat.min_eq_left hi]at h1;exact h1
 have U:∀ i,i<=n->0<=(d.play s (xs.take i)).2/\(d.play s (xs.take i)).2<=(i:Int):=fun i hi=>by have h1:=FY s (xs.take i) d;rw[List.length_take,<- o,Nat.min_eq_left hi]at h1;exact h1
 have J:xs.take n=xs:=by rw[o];exact List.take_length
 have R:(d.play s xs).1=d.acts s xs:=ZP s xs d;rw[R];have b0:WdTo B F W W g s d:=WdTo.start h hB br;have b6:=h.lt;replace y:=hd' y;replace hl:=hd' hl;replace Y:=hd' Y;replace U:=hd' U;replace J:=hd' J;replace hv:=hd' hv;replace b6:=hd' b6;replace b0:=hd' b0;clear o hr R h ho;go_in;go_wp2;go_loopw [5,10] (fun v5 b1 wr=>∃ i:Nat,i<=n/\b1= .int .i64 i/\v5= .int .i64 (d.play s (xs.take i)).2/\WdTo B F W wr g s (d.acts s (xs.take i))) (fun _ b1 _=>n-(intOf b1).toNat);case atStart=>exact⟨0,Nat.zero_le _,rfl,rfl,b0.out⟩
 case round=>
  obtain⟨i,b5,rfl,rfl,hT⟩:=hrel;have O:=Y i b5;have bm:(0:Int)<=(i:Int):=by omega
  have bi:=U i b5;by_cases hi:i<n
  ·have bn:(i:Int)<(n:Int):=by omega
   have bs:IntKind.i64.wrap ((i:Int)+1)=(i:Int)+1:=IntWalk.i64_in _ ⟨by omega,by omega⟩;have bu:IntKind.i64.wrap ((d.play s (xs.take i)).2+1)=(d.play s (xs.take i)).2+1:=IntWalk.i64_in _ ⟨by omega,by omega⟩;have V:i<xs.length:=bg.out ▸ hi;have b2:=zm0 (s:=s) (d:=d) V;have M:=zz5 s d xs V;obtain⟨p,j,rfl,bb,I⟩:=y (by omega);have ba:¬ F p:=hv p j cap rfl;have b4:=fun k hk=>UM xs i V k hk;obtain⟨⟨x1,b8⟩,b7,b9⟩:=id hT;have bk:p<wr.heap.size:=by have:=b7.size;omega
   generalize bq:xs[i]=xc at *;generalize d.acts s (xs.take i)=d1 at *;generalize (d.play s (xs.take i)).2=pc at *;obtain⟨E,D,G,z,cn,C⟩:=xc;have Z:∀ k,k<6->wr.cell? ⟨p,j+i*6+k,.none⟩=(Ch.cells ⟨E,D,G,z,cn,C⟩)[k]?:=fun k bf=>by
    have hk:wr.heap[p]?=W.heap[p]?:=b7.block p bb ba;have bc:wr.cell? ⟨p,j+i*6+k,.none⟩=W.cell? ⟨p,j+i*6+k,.none⟩:=by simp only[World.cell?,hk]
    rw[bc,Nat.add_assoc,I _ (by omega)];exact b4 k bf
   have z0:wr.cell? ⟨p,j+i*6,.none⟩=some (.int .i64 E):=Z 0 (by omega);have z1:wr.cell? ⟨p,j+i*6+1,.none⟩=some (.int .i64 D):=Z 1 (by omega);have z2:wr.cell? ⟨p,j+i*6+2,.none⟩=some (.int .i64 G):=Z 2 (by omega);have z3:wr.cell? ⟨p,j+i*6+3,.none⟩=some (.int .i64 z):=Z 3 (by omega);have z4:wr.cell? ⟨p,j+i*6+4,.none⟩=some (.int .i64 cn):=Z 4 (by omega);have z5:wr.cell? ⟨p,j+i*6+5,.none⟩=some (.float .f64 C):=Z 5 (by omega);clear Z I b4;go_upto_region 5 with fail;have T:=(Below.refl wr.heap.size wr).alloc lr (.cells #[E,D,G,z,cn,.float .f64 C] 37);have tX:aA (wr.alloc (.cells #[E,D,G,z,cn,.float .f64 C] 37)) wr.heap.size #[E,D,G,z,cn,.float .f64 C] 37:=jA _ _;clear z0 z1 z2 z3 z4 z5;generalize wr.alloc (.cells #[E,D,G,z,cn,.float .f64 C] 37)=X at *;obtain⟨N7,bh,N⟩:=hidv wr.heap.size;rw[<-N]at tX ⊢;clear N;obtain⟨z0,z1,z2,z3,z4⟩:=ci5 E D G z cn tX.cell;have z5:=ce (.float .f64 C) (tX.cell 5);have L:jK 9 #[some g,.agg #[E,D,G,z,cn,.float .f64 C]] X fun e w'=>e= .returned (.int .i64 (d1.act s ⟨E,D,G,z,cn,C⟩).2)/\WdTo B (grow F W wr) X w' g s (d1.act s ⟨E,D,G,z,cn,C⟩).1:=qI (b8.below T) (by have:=T.size;omega) O (by omega) _;have q:∀ w',WdTo B (grow F W wr) X w' g s (d1.act s ⟨E,D,G,z,cn,C⟩).1->WdTo B F W w' g s (d.acts s (xs.take (i+1))):=fun w' hk=>by rw[b2];exact WdTo.trans hT (WdTo.from b8 b9 T hk)
   generalize (d1.act s ⟨E,D,G,z,cn,C⟩).1=d2 at *;generalize (d1.act s ⟨E,D,G,z,cn,C⟩).2=er at *;replace L:=hd' L;replace q:=hd' q;replace M:=hd' M;clear b2 O hT;by_cases h0:er=0
   ·subst h0;have l:=M.out;rw[jP rfl]at l;replace l:=hd' l;go_wp2_with (first|(go_at_call 9;(with_reducible refine L.out.mono ?_);rintro r w7 ⟨rfl,S⟩));exact⟨⟨i+1,by omega,by go_num,by rw[l],q _ S⟩,by simp only[intOf];omega⟩
   have be:(er==0)=false:=by rw[beq_eq_false_iff_ne];exact h0
   have l:=M.out;rw[jN h0,Int.add_zero]at l;replace l:=hd' l;go_wp2_with (first|(go_at_call 9;(with_reducible refine L.out.mono ?_);rintro r w7 ⟨rfl,S⟩));exact⟨⟨i+1,by omega,by go_num,by rw[l],q _ S⟩,by simp only[intOf];omega⟩
  obtain rfl:i=n:=by omega
  have bp:¬ (i:Int)<(i:Int):=by omega
  rw[J]at hT ⊢;go_wp2_with fail;go_returns;exact⟨rfl,hT⟩
end

end

section

variable {s:Sh} {d:Wd} {n:Nat} {c x:Int} {i:Int}

def Bd (d:Wd) (i:Int) (c:Int):Prop:=∀ k,d.kl c=some k->k.job≠none->i<=k.steps
theorem XN(h:wdOk s d n)(c:Int):(∀ x,x≠c->(d.act s (bB c)).1.kl x=d.kl x)/\((∀ k,d.kl c=some k->k.job=none)->(d.act s (bB c)).1.kl c=d.kl c)/\(∀ k,d.kl c=some k->k.job≠none->∃ f,(d.act s (bB c)).1.kl c=some f/\f.steps=k.steps+1):=by
 by_cases hb:0<=c/\c<s.c
 ·cases hk:d.kl c with
  |none=>
   have e:(d.act s (bB c)).1=d:=by unfold Wd.act;rw[jN (by unfold Ch.bad bB;dsimp only;omega),jN (show ¬ (bB c).kind=1 from (by decide:¬ (3:Int)=1))];have:d.kl (bB c).client=none:=hk;rw[this]
   rw[e];exact⟨fun _ _=>rfl,fun _=>hk,fun k h1=>by cases h1⟩
  |some k=>
   have hi:c.toNat<d.l.length:=by rw[h.len];omega
   rw[zH hk hb];have hs:∀ x,(d.step s c k).1.kl x=if x=c then some (k.step s d.m).1 else d.kl x:=fun x=>by unfold Wd.step;rw[d.AB hb.1 hi]
   refine⟨fun x o=>by rw[hs,jN o],fun h1=>?_,fun k1 h1 h2=>?_⟩
   ·rw[hs,jP rfl];have:k.step s d.m=(k,d.m, [],2):=by unfold Kl.step;rw[h1 k rfl]
    rw[this]
   injection h1 with h1;subst h1;rw[hs,jP rfl];refine⟨_,rfl,?_⟩;cases hj:k.job with
   |none=>exact absurd hj h2
   |some j=>unfold Kl.step;rw[hj];rfl
 have e:(d.act s (bB c)).1=d:=by unfold Wd.act;rw[jP (by unfold Ch.bad bB;dsimp only;omega)]
 rw[e];refine⟨fun _ _=>rfl,fun _=>rfl,fun k h1=>?_⟩;obtain⟨_,_,b⟩:=h.kl _ _ h1;exact absurd b hb
theorem QR(h:wdOk s d n)(hb:Bd d i x)(b:x≠c):Bd (d.act s (bB c)).1 i x:=fun k h1=>hb k (by rw[<-(XN h c).1 x b];exact h1)
theorem oS(h:wdOk s d n)(hb:Bd d i c):Bd (d.act s (bB c)).1 (i+1) c:=fun k h1 h2=>by
 obtain⟨_,q,r⟩:=XN h c
 by_cases j:∀ k,d.kl c=some k->k.job=none
 ·rw[q j]at h1
  exact absurd (j k h1) h2
 ·have:∃ k0,d.kl c=some k0/\k0.job≠none:=by
   refine Classical.byContradiction fun p=>j fun k0 b=>?_
   refine Classical.byContradiction fun o=>p ⟨k0,b,o⟩
  obtain⟨k0,b,f⟩:=this
  obtain⟨y,l,t⟩:=r k0 b f
  rw[l]at h1
  injection h1 with h1
  subst h1
  have:=hb k0 b f
  omega
theorem aS{j:Int}(hb:Bd d i c)(h:j<=i):Bd d j c:=fun k h1 h2=>Int.le_trans h (hb k h1 h2)
def mC (s:Sh) (d:Wd) (l:List Int):Wd:=l.foldl (fun d c=> (d.act s (bB c)).1) d
theorem IR{l:List Int}{i:Nat}(h:i<l.length):mC s d (l.take (i+1))=((mC s d (l.take i)).act s (bB l[i])).1:=by
 unfold mC;rw[List.take_succ,List.foldl_append,List.getElem?_eq_getElem h];rfl
theorem vH(h:AI s d n)(l:List Int):AI s (mC s d l) (n+l.length):=by
 induction l generalizing d n with
 |nil=>exact h;|cons x l b=>show AI s (mC s (d.act s (bB x)).1 l) (n+(l.length+1));rw[show n+(l.length+1)=n+1+l.length by omega];exact b (kC h _)
theorem yos(h:AI s d n)(hb:Bd d i x)(l:List Int):Bd (mC s d l) i x:=by
 induction l generalizing d n with
 |nil=>exact hb;|cons y l b=>
  refine b (kC h (bB y)) ?_;by_cases e:x=y
  ·subst e;exact aS (oS h.1 hb) (by omega)
  exact QR h.1 hb e
theorem yo8(h:AI s d n)(hb:Bd d i x){l:List Int}(b:x ∈ l):Bd (mC s d l) (i+1) x:=by
 induction l generalizing d n with
 |nil=>cases b;|cons y l f=>
  by_cases e:x=y
  ·subst e;exact yos (kC h (bB x)) (oS h.1 hb) l
  refine f (kC h (bB y)) (QR h.1 hb e) ?_;rcases List.mem_cons.1 b with h1|h1
  ·exact absurd h1 e
  exact h1
theorem yrs(h:wdOk s d n)(hb:Bd d (WA s) c):∀ k,d.kl c=some k->k.job=none:=fun k j=>by
 refine Classical.byContradiction fun f=>?_
 have h1:=hb k j f
 have h2:(110*s.p+4*s.m+60:Int)<=k.steps:=by unfold WA at h1;omega
 obtain⟨o,b,l,_⟩:=OM h (⟨k,j,.inl ⟨f,rfl⟩⟩:Due d c k.steps) h2
 rw[j]at b
 injection b with b
 subst b
 exact f l
end

section

section

variable {s:Sh} {d:Wd} {n:Nat} {c x:Int}

theorem zS(h:wdOk s d n)(c k a m:Int):(∀ x,x≠c->(d.act s ⟨2,c,k,a,m,0⟩).1.kl x=d.kl x)/\((∃ y,(d.act s ⟨2,c,k,a,m,0⟩).1.kl c=some y)↔∃ y,d.kl c=some y):=by
 unfold Wd.act;split
 ·exact⟨fun _ _=>rfl,.rfl⟩
 rename_i hb;rw[jN (show ¬ (2:Int)=1 by decide)];dsimp only;cases hk:d.kl c with
 |none=>exact⟨fun _ _=>rfl,by dsimp only;rw[hk]⟩;|some f=>
  dsimp only;rw[jN (show ¬ (2:Int)=3 by decide),jP rfl];obtain⟨_,_,b⟩:=h.kl _ _ hk;have hs:∀ x,(d.ask s ⟨2,c,k,a,m,0⟩ f).1.kl x=if x=c then some (f.invoke s (Ch.op ⟨2,c,k,a,m,0⟩)).1 else d.kl x:=fun x=>by unfold Wd.ask;rw[d.AB b.1 (by rw[h.len];omega)]
  exact⟨fun x j=>by rw[hs,jN j],⟨fun _=>⟨_,rfl⟩,fun _=>⟨_,by rw[hs,jP rfl]⟩⟩⟩
theorem yrf(h:wdOk s d n)(c k a m x:Int):(∃ y,(d.act s ⟨2,c,k,a,m,0⟩).1.kl x=some y)↔∃ y,d.kl x=some y:=by
 obtain⟨h1,h2⟩:=zS h c k a m;by_cases e:x=c
 ·subst e;exact h2
 rw[h1 x e]
theorem yqw(h:wdOk s d n)(c x:Int):(∃ y,(d.act s (bB c)).1.kl x=some y)↔∃ y,d.kl x=some y:=by
 obtain⟨r,t,z⟩:=XN h c;by_cases e:x=c
 ·subst e;by_cases j:∀ k,d.kl x=some k->k.job=none
  ·rw[t j]
  have:∃ k0,d.kl x=some k0/\k0.job≠none:=by refine Classical.byContradiction fun p=>j fun k0 b=>?_;refine Classical.byContradiction fun o=>p ⟨k0,b,o⟩
  obtain⟨k0,b,f⟩:=this;obtain⟨q,l,_⟩:=z k0 b f;exact⟨fun _=>⟨k0,b⟩,fun _=>⟨q,l⟩⟩
 rw[r x e]
theorem TN(h:AI s d n)(l:List Int)(x:Int):(∃ y,(mC s d l).kl x=some y)↔∃ y,d.kl x=some y:=by
 induction l generalizing d n with
 |nil=>exact .rfl
 |cons y l b=>exact(b (kC h (bB y))).trans (yqw h.1 y x)
theorem FR(h:Gone s d x)(b:AI s d n)(f:0<=x/\x<s.c)(l:List Int):Gone s (mC s d l) x:=by
 induction l generalizing d n with
 |nil=>exact h
 |cons y l j=>exact j (mK h b.1 f (bB y)) (kC b (bB y))
def invL (s:Sh) (d:Wd) (l:List Int):Wd:=l.foldl (fun d c=> (d.act s ⟨2,c,4,0,0,0⟩).1) d
theorem yn4{l:List Int}{i:Nat}(h:i<l.length):invL s d (l.take (i+1))=((invL s d (l.take i)).act s ⟨2,l[i],4,0,0,0⟩).1:=by
 unfold invL;rw[List.take_succ,List.foldl_append,List.getElem?_eq_getElem h];rfl
theorem yH(h:AI s d n)(l:List Int):AI s (invL s d l) (n+l.length):=by
 induction l generalizing d n with
 |nil=>exact h;|cons x l b=>show AI s (invL s (d.act s ⟨2,x,4,0,0,0⟩).1 l) (n+(l.length+1));rw[show n+(l.length+1)=n+1+l.length by omega];exact b (kC h _)
theorem pS(h:AI s d n)(l:List Int)(x:Int):(∃ y,(invL s d l).kl x=some y)↔∃ y,d.kl x=some y:=by
 induction l generalizing d n with
 |nil=>exact .rfl
 |cons y l b=>exact(b (kC h ⟨2,y,4,0,0,0⟩)).trans (yrf h.1 y 4 0 0 x)
theorem ynr(h:Gone s d x)(b:AI s d n)(f:0<=x/\x<s.c)(l:List Int):Gone s (invL s d l) x:=by
 induction l generalizing d n with
 |nil=>exact h
 |cons y l j=>exact j (mK h b.1 f ⟨2,y,4,0,0,0⟩) (kC b ⟨2,y,4,0,0,0⟩)
def rndN (s:Sh) (l:List Int) (d:Wd):Nat->Wd
 | 0=> d
 | i + 1=> mC s (rndN s l d i) l
theorem PI(h:AI s d n)(l:List Int)(i:Nat):AI s (rndN s l d i) (n+i*l.length):=by
 induction i with
 |zero=>simpa[rndN] using h;|succ i b=>have:=vH b l;rw[Nat.add_assoc]at this;rw[Nat.succ_mul];exact this
theorem kS(h:AI s d n)(l:List Int)(i:Nat)(x:Int):(∃ y,(rndN s l d i).kl x=some y)↔∃ y,d.kl x=some y:=by
 induction i with
 |zero=>exact .rfl
 |succ i b=>exact(TN (PI h l i) l x).trans b
theorem yn0(h:Gone s d x)(b:AI s d n)(f:0<=x/\x<s.c)(l:List Int)(i:Nat):Gone s (rndN s l d i) x:=by
 induction i with
 |zero=>exact h
 |succ i j=>exact FR j (PI b l i) f l
theorem yqo(h:AI s d n)(hb:Bd d 0 x){l:List Int}(b:x ∈ l)(i:Nat):Bd (rndN s l d i) i x:=by
 induction i with
 |zero=>exact hb
 |succ i f=>exact_mod_cast yo8 (PI h l i) f b
theorem yqi(h:wdOk s d n)(x:Int):Bd d 0 x:=fun k b _=>((h.kl x k b).1).st
theorem ynt(h:AI s d n){l:List Int}(f:∀ x,(∃ k,d.kl x=some k)->x ∈ l){i:Nat}(hi:WA s<=i):∀ x k,(rndN s l d i).kl x=some k->k.job=none:=fun x k b=>by
 have h1:=f x ((kS h l i x).1 ⟨k,b⟩)
 exact yrs (PI h l i).1 (aS (yqo h (yqi h.1 x) h1 i) (by omega)) k b
def askX (s:Sh) (d:Wd) (y:Int):Wd:=if (d.act s ⟨2,y,4,0,0,0⟩).2=0 then askW s d y ⟨4,0,0⟩ else (d.act s ⟨2,y,4,0,0,0⟩).1
def askL (s:Sh) (d:Wd) (l:List Int):Wd:=l.foldl (askX s) d
theorem ynz{l:List Int}{i:Nat}(h:i<l.length):askL s d (l.take (i+1))=askX s (askL s d (l.take i)) l[i]:=by
 unfold askL;rw[List.take_succ,List.foldl_append,List.getElem?_eq_getElem h];rfl
theorem yp7(t:AI s d n)(hi:∀ x k,d.kl x=some k->k.job=none){y:Int}(U:∃ k,d.kl y=some k):
  AI s (askX s d y) (n+1+WA s)/\(∀ x k,(askX s d y).kl x=some k->k.job=none)/\(∀ x,(∃ k,(askX s d y).kl x=some k)↔∃ k,d.kl x=some k)/\
  (0<s.c->Gone s d 0->Gone s (askX s d y) 0/\YF s (askX s d y) 0=4):=by
 obtain⟨S,j⟩:=U;have N:Rest d y:=⟨S,j,hi y S j⟩;have h0:=QI (o:=⟨4,0,0⟩) t.1 N ⟨show (1:Int)<=4 by decide,Int.le_refl _⟩;have e:askX s d y=askW s d y ⟨4,0,0⟩:=jP h0;have r:=kC t ⟨2,y,4,0,0,0⟩;have J:AI s (askW s d y ⟨4,0,0⟩) (n+1+WA s):=QG r _;have D:=fK (o:=⟨4,0,0⟩) t.1 N ⟨show (1:Int)<=4 by decide,Int.le_refl _⟩;have C:∀ x,x≠y->(askW s d y ⟨4,0,0⟩).kl x=d.kl x:=fun x q=>(yoq r.1 q _).trans ((zS t.1 y 4 0 0).1 x q);rw[e];refine⟨J,fun x k p=>?_,fun x=>?_,fun hc E=>?_⟩
 ·by_cases q:x=y
  ·obtain⟨T,h1,h2⟩:=D;rw[q,h1]at p;injection p with p;rw[<-p];exact h2
  rw[C x q]at p;exact hi x k p
 ·by_cases q:x=y
  ·rw[q];obtain⟨T,h1,_⟩:=D;exact⟨fun _=>⟨S,j⟩,fun _=>⟨T,h1⟩⟩
  rw[C x q]
 have b:(0:Int)<=0/\(0:Int)<s.c:=⟨Int.le_refl _,hc⟩;have R:(0:Int)≠y:=fun e=>by obtain⟨_,_,g,_⟩:=E;rw[<-e,g]at j;cases j
 have M:Gone s (askW s d y ⟨4,0,0⟩) 0:=ypf (mK E t.1 b _) r.1 b _ _;refine⟨M,?_⟩;obtain⟨_,σ0,f,_⟩:=t;obtain⟨σ,G,_,_,z⟩:=mR ‹wdOk s d n› N b R f hi;have O:σ.st 0= .done:=by
  rcases z with⟨_,_,h2⟩|⟨h1,_,h2⟩
  ·exact h2
  have L:=YV E b;obtain⟨_,_,gk,_⟩:=E;rw[h2];cases e0:σ0.st 0 with
  |unused=>exact absurd (by
    have l:=(ixs f.rep.fi).2.2.2 _ b
    have h4:=f.rep.st _ b
    rw[l]at h4
    have I:=(TW.read f.rep.may (f.gi.tf 0)).1
    unfold Wd.stat;rw[h4,I,e0];rfl) L.1
  |live=>obtain⟨k,p⟩:=f.nl 0 e0;rw[gk]at p;cases p
  |dead=>rw[e0]at h1;exact absurd trivial h1
  |owned a=>rw[e0]at h1;exact absurd trivial h1
  |done=>rfl
 have l:=(ixs G.rep.fi).2.2.2 _ b;have h4:=G.rep.st _ b;rw[l]at h4;have I:=(TW.read G.rep.may (G.gi.tf 0)).1;unfold YF;rw[l,jP (Int.le_refl _)];unfold Wd.stat;rw[h4,I,O];rfl
theorem yqh(b:AI s d n)(hi:∀ x k,d.kl x=some k->k.job=none)(l:List Int)(f:∀ y ∈ l,∃ k,d.kl y=some k)(hc:0<s.c):
  AI s (askL s d l) (n+l.length*(1+WA s))/\(∀ x k,(askL s d l).kl x=some k->k.job=none)/\(Gone s d 0->l≠ []->YF s (askL s d l) 0=4):=by
 suffices h:∀ (l:List Int) (d:Wd) (n:Nat),AI s d n->(∀ x k,d.kl x=some k->k.job=none)->(∀ y ∈ l,∃ k,d.kl y=some k)->
   AI s (askL s d l) (n+l.length*(1+WA s))/\(∀ x k,(askL s d l).kl x=some k->k.job=none)/\(Gone s d 0->(l≠ []\/YF s d 0=4)->YF s (askL s d l) 0=4) by
  obtain⟨h1,h2,h3⟩:=h l d n b hi f
  exact⟨h1,h2,fun j G=>h3 j (.inl G)⟩
 intro l;induction l with
 |nil=>intro d n b hi _;exact⟨by simpa[askL] using b,hi,fun _ h=>h.elim (fun h=>absurd rfl h) id⟩;|cons y l J=>
  intro d n b hi f;obtain⟨a1,p,q,r⟩:=yp7 b hi (f y List.mem_cons_self);obtain⟨o,t,C⟩:=J _ _ a1 p (fun z I=>(q z).2 (f z (List.mem_cons_of_mem _ I)));refine⟨?_,t,fun j _=>?_⟩
  ·have e:n+1+WA s+l.length*(1+WA s)=n+(l.length+1)*(1+WA s):=by rw[Nat.succ_mul];omega
   rw[e]at o;exact o
  obtain⟨D,E⟩:=r hc j;exact C D (.inr E)
end

theorem ym1{d:Wd}(h:∀ x k,d.kl x=some k->k.job=none):whoL (fun k=>!k.rests) d.l d.l.length= []:=by
 unfold whoL;rw[List.map_eq_nil_iff,List.filter_eq_nil_iff];intro c _;unfold whoB;cases hk:d.l.getD c none with
 |none=>simp;|some k=>have b:=h (c:Int) k (by unfold Wd.kl;rw[jP (by omega)];exact hk);simp only[Kl.rests,b];simp
end

section

open Go.RowKit

def z88:Value:= .agg #[.int .i64 0,.int .i64 0,.int .i64 0,.int .i64 0,.int .i64 0,.float .f64 0]
theorem YZ:(Tryz.prog.info? 37).map (fun i=>(i.zero,i.size,i.bytes))=some (some z88,6,48):=by kernel_rfl
theorem Ch.one(c:Ch):∀ u ∈ c.cells,u.oneCell'=true:=by
 intro u hu;simp only[Ch.cells,List.mem_cons,List.not_mem_nil,or_false]at hu;rcases hu with rfl|rfl|rfl|rfl|rfl|rfl<;>rfl
def Ch.fit (c:Ch):Prop:=c.bias < 18446744073709551616
end

section

open Go.RowKit

attribute [local go_sem ↓] Go.wp_at_zero Go.wp_at_succ

attribute [local go_sem high] FJ gM CL

theorem RdC.s{w:World}{v:Value}{xs:List Ch}(h:RdC w v xs):RdS w 6 v xs.length (TB xs):=by
 obtain⟨ao,cap,e,h1,h2,h3⟩:=h;refine⟨ao,cap,e,h1,h2,AU xs,fun o=>?_⟩;obtain⟨b,off,l,f,hc⟩:=h3 (fun h=>by subst h;simp at o);refine⟨b,off,l,f,fun i hi=>?_⟩;have j:i=i/6*6+i%6:=by omega
 rw[j,<- Nat.add_assoc,hc (i/6) (i%6) (by omega) (by omega),qP xs _ _ (by omega) (by omega)]
theorem RdS.c{w:World}{v:Value}{n:Nat}{xs:List Ch}(h:RdS w 6 v n (TB xs)):RdC w v xs:=by
 obtain⟨ao,cap,e,h1,h2,h3,h4⟩:=h;have p:n=xs.length:=by rw[AU]at h3;omega
 subst p;refine⟨ao,cap,e,h1,h2,fun q=>?_⟩;obtain⟨b,off,l,f,hc⟩:=h4 (fun h=>q (List.eq_nil_of_length_eq_zero h));refine⟨b,off,l,f,fun i j hi o=>?_⟩;rw[<-qP xs i j hi o,Nat.add_assoc];exact hc _ (by omega)
theorem zxt(xs:List Ch)(k:Nat):(TB xs).drop (k*6)=TB (xs.drop k):=by
 induction k generalizing xs with
 |zero=>simp
 |succ k b=>
  cases xs with
  |nil=>simp[TB]
  |cons x xs=>
   show (x.cells++TB xs).drop _=TB (xs.drop k)
   rw[<-b,List.drop_append,show x.cells.length=6 from rfl,show (k+1)*6-6=k*6 from by omega,List.drop_of_length_le (by show 6<=_;omega)]
   rfl
theorem zy5(xs:List Ch)(k:Nat):(TB xs).take (k*6)=TB (xs.take k):=by
 induction k generalizing xs with
 |zero=>simp[TB]
 |succ k b=>
  cases xs with
  |nil=>simp[TB]
  |cons x xs=>
   show (x.cells++TB xs).take _=x.cells++TB (xs.take k)
   rw[<-b,List.take_append,show x.cells.length=6 from rfl,show (k+1)*6-6=k*6 from by omega,List.take_of_length_le (by show 6<=_;omega)]
theorem RdC.cut{w:World}{ao:Option Addr}{n cap l h:Nat}{xs:List Ch}(r:RdC w (.slice ao n cap) xs)(f:l<=h)(b:h<=n):RdC w (cutV ao l h cap 6) ((xs.drop l).take (h-l)):=by
 have j:n=xs.length:=by obtain⟨_,_,e,_⟩:=r;injection e
 subst j;have:=r.s.cut f b;rw[zxt,zy5]at this;exact this.c
theorem RdC.first{w:World}{v:Value}{x:Ch}{xs:List Ch}(r:RdC w v (x::xs)):∃ b off cap,v= .slice (some ⟨b,off,.none⟩) (xs.length+1) cap/\xs.length+1<=cap/\(cap:Int)<=9223372036854775807/\b<w.heap.size/\
  w.cell? ⟨b,off,.none⟩=some (.int .i64 x.kind)/\w.cell? ⟨b,off+1,.none⟩=some (.int .i64 x.client)/\w.cell? ⟨b,off+2,.none⟩=some (.int .i64 x.ok)/\w.cell? ⟨b,off+3,.none⟩=some (.int .i64 x.oa)/\
  w.cell? ⟨b,off+4,.none⟩=some (.int .i64 x.on)/\w.cell? ⟨b,off+5,.none⟩=some (.float .f64 x.bias):=by
 obtain⟨ao,cap,e,h1,h2,h3⟩:=r;obtain⟨b,off,rfl,l,hc⟩:=h3 (by simp);have f:=fun j o=>hc 0 j (by simp) o;simp only[Nat.zero_mul,Nat.add_zero,List.getElem_cons_zero]at f;exact⟨b,off,cap,e,h1,h2,l,f 0 (by omega),f 1 (by omega),f 2 (by omega),f 3 (by omega),f 4 (by omega),f 5 (by omega)⟩
theorem nm(k:Nat):∃ n,Hid (n=k)/\n=k:=⟨k,hd' rfl,rfl⟩
end

section

open Go.RowKit

attribute [local go_sem ↓] Go.wp_at_zero Go.wp_at_succ

attribute [local go_sem high] FJ gM CL

theorem RdC.nth{w:World}{ao:Option Addr}{n cap:Nat}{xs:List Ch}(r:RdC w (.slice ao n cap) xs)(i:Nat)(hi:i<xs.length):∃ b off,ao=some ⟨b,off,.none⟩/\b<w.heap.size/\
  w.cell? ⟨b,off+i*6,.none⟩=some (.int .i64 xs[i].kind)/\w.cell? ⟨b,off+i*6+1,.none⟩=some (.int .i64 xs[i].client)/\w.cell? ⟨b,off+i*6+2,.none⟩=some (.int .i64 xs[i].ok)/\w.cell? ⟨b,off+i*6+3,.none⟩=some (.int .i64 xs[i].oa)/\
  w.cell? ⟨b,off+i*6+4,.none⟩=some (.int .i64 xs[i].on)/\w.cell? ⟨b,off+i*6+5,.none⟩=some (.float .f64 xs[i].bias):=by
 obtain⟨l,j,e,h1,h2,h3⟩:=r;injection e with o _ _;subst o;obtain⟨b,off,rfl,f,hc⟩:=h3 (fun h=>by subst h;simp at hi);exact⟨b,off,rfl,f,hc i 0 hi (by omega),hc i 1 hi (by omega),hc i 2 hi (by omega),hc i 3 hi (by omega),hc i 4 hi (by omega),hc i 5 hi (by omega)⟩
end

section

open Go.RowKit

attribute [local go_sem ↓] Go.wp_at_zero Go.wp_at_succ

theorem gZ(xs:List Ch)(v:Value)(w:World)(V:RdC w v xs)(M:xs.length<=100000):
  Calls Tryz.prog 18 #[v] w fun e w'=>∃ v',e= .returned v'/\Below w.heap.size w w'/\OwnC 37 w.heap.size w' v' xs:=by
 obtain⟨ao,cap,e,q,b1,_⟩:=id V;subst e;obtain⟨n,L,y⟩:=nm xs.length;have z:=V;rw[<-y]at z q M ⊢;clear y;obtain⟨i0,G,N,O,R⟩:=info_parts YZ;go_in;go_wp2;go_loopw [3,4] (fun vo S wr=>∃ i:Nat,i<=n/\S= .int .i64 i/\wr.ownsRow w.heap.size 37 6 vo i (TB (xs.take i))/\Below w.heap.size w wr) (fun _ S _=>n-(intOf S).toNat);case atStart=>exact⟨0,Nat.zero_le _,rfl,OwnC.nil _ _ _,Below.refl _ _⟩
 case round=>
  obtain⟨i,hi,rfl,E,l⟩:=hrel;have b0:=l.size;by_cases J:i<n
  ·have r:i<xs.length:=L.out ▸ J;obtain⟨b,off,rfl,hb,X,Y,Z,y3,y4,y5⟩:=z.nth i r;have C:TB (xs.take (i+1))=TB (xs.take i)++(xs[i]).cells:=by rw[List.take_succ_eq_append_getElem r,zla];simp[TB]
   generalize xs[i]=c at *;have x0:=kA l _ _ _ X;have x1:=kA l _ _ _ Y;have x2:=kA l _ _ _ Z;have x3:=kA l _ _ _ y3;have x4:=kA l _ _ _ y4;have x5:=kA l _ _ _ y5;have D:=hd' C;have U:(0:Int)<=(i:Int):=by omega
   have b2:(i:Int)<(n:Int):=by omega
   clear C;go_wp2
   go_region_held3 (fun w'=>w'.cell? ⟨b,off+i*6,.none⟩=some (.int .i64 c.kind)/\w'.cell? ⟨b,off+i*6+1,.none⟩=some (.int .i64 c.client)/\w'.cell? ⟨b,off+i*6+2,.none⟩=some (.int .i64 c.ok)/\w'.cell? ⟨b,off+i*6+3,.none⟩=some (.int .i64 c.oa)/\w'.cell? ⟨b,off+i*6+4,.none⟩=some (.int .i64 c.on)/\w'.cell? ⟨b,off+i*6+5,.none⟩=some (.float .f64 c.bias)) (first|go_keep|exact⟨kA j _ _ _ X,kA j _ _ _ Y,kA j _ _ _ Z,kA j _ _ _ y3,kA j _ _ _ y4,kA j _ _ _ y5⟩)
    ((refine cG (by rfl) (.tmp 11) (.tmp 33) 55 (by rfl) w.heap.size 37 i0 _ 6 48 Tryz.underlying55 G N O R rfl (by omega) _ i (TB (xs.take i)) (by rfl) ((E.alloc _).drew) _ 1 c.cells (by rfl) (RdS.new (cs:=c.cells.toArray) (t:=37) (sz:=6) (n:=1) (jA wr _) rfl (by omega)) (Ch.one _) (by simp only[maxLen];omega) (by omega) (by simp;omega) ?_;intro v1 w1 p o T;have j:=bE (((l.alloc l.size _).drew)) ((E.alloc _).drew) (by simp;omega) o))
   go_wp2;refine⟨⟨i+1,by omega,by go_num,?_,j⟩,by simp[intOf];omega⟩;rw[D];exact p
  have I:i=n:=by omega
  subst I;have b3:¬ ((i:Int)<(i:Int)):=by omega
  go_wp2;go_ret;refine⟨_,rfl,l,?_⟩;rw[List.take_of_length_le (by rw[<-L];exact Nat.le_refl _)]at E;show wr.ownsRow _ _ 6 _ xs.length _;rw[<-L];exact E
end

end Go.Proofs.YtmmbicppdjgbmaaGreat
