/- Texts bound together: ResW FreeW FreeT. -/
import Derived.Test.YtedcnffebdpmmaaGreatBu16

import Derived.Test.YtedcnffebdpmmaaGreatBu10

set_option linter.all false
set_option maxHeartbeats 2000000
set_option maxRecDepth 100000
namespace Go.Proofs.YtedcnffebdpmmaaGreat

attribute [local go_sem] za3 zeh zg0

open Go.RowKit

attribute [local go_sem ↓] Go.wp_at_zero Go.wp_at_succ

def grow (F:Nat->Prop) (w w':World):Nat->Prop:=fun k=> F k\/(w.heap.size<=k/\k < w'.heap.size)
theorem z2p{F G:Nat->Prop}{w w':World}(h:∀ k,F k->G k):∀ k,grow F w w' k->grow G w w' k:=fun k e=>e.imp (h k) id
def SkO (F:Nat->Prop) (w:World) (q:Nat) (s:Sh) (t:Sk):Prop:=F q/\∃ q2,SkAt w q q2 s t/\(t.now≠none->F q2)
def RnO (F:Nat->Prop) (w:World) (q:Nat) (s:Sh) (t:Rn):Prop:=F q/\∃ q2,RnAt w q q2 s t/\(t.strip≠none->F q2)
theorem RnAt.znz{w w':World}{q q2:Nat}{s:Sh}{t:Rn}{G:Nat->Prop}(h:RnAt w q q2 s t)(f:Only G w w')(h1:¬ G q)(h2:t.strip≠none->¬ G q2):RnAt w' q q2 s t:=
 ⟨h.row.only f h1,fun x b=>⟨(h.inn x b).1.only f (h2 (by rw[b];exact fun e=>by cases e)),(h.inn x b).2⟩⟩
theorem SkAt.znz{w w':World}{q q2:Nat}{s:Sh}{t:Sk}{G:Nat->Prop}(h:SkAt w q q2 s t)(f:Only G w w')(h1:¬ G q)(h2:t.now≠none->¬ G q2):SkAt w' q q2 s t:=
 ⟨h.row.only f h1,fun x b=>⟨(h.inn x b).1.only f (h2 (by rw[b];exact fun e=>by cases e)),(h.inn x b).2⟩⟩
theorem SkO.only{F G:Nat->Prop}{w w':World}{q:Nat}{s:Sh}{t:Sk}(h:SkO F w q s t)(b:Only G w w')(hd:∀ k,F k->¬ G k):SkO F w' q s t:=by
 obtain⟨h1,q2,h2,h3⟩:=h;exact⟨h1,q2,h2.znz b (hd q h1) (fun e=>hd q2 (h3 e)),h3⟩
theorem RnO.only{F G:Nat->Prop}{w w':World}{q:Nat}{s:Sh}{t:Rn}(h:RnO F w q s t)(b:Only G w w')(hd:∀ k,F k->¬ G k):RnO F w' q s t:=by
 obtain⟨h1,q2,h2,h3⟩:=h;exact⟨h1,q2,h2.znz b (hd q h1) (fun e=>hd q2 (h3 e)),h3⟩
structure zef (F:Nat->Prop) (p b:Nat) (w w':World) (e:Ending) (m:Mem):Prop where
 ret:e= .returned (.tuple #[])
 wds:zaq w' p b m
 only:Only (fun k=> F k\/k=p\/k=b) w w'
theorem z5m{F:Nat->Prop}{q p b:Nat}{s:Sh}{t:Sk}{m:Mem}{w:World}(h:SkO F w q s t)(n:zaq w p b m)(o:¬ F p)(hb:¬ F b)(r:Fits s m)(z:skOk s t)(hs:m.st<1000000000):
  Calls Tryz.prog 183 #[some q,some p] w fun e w'=>zef F p b w w' e (zbv s t m).2/\SkO (grow F w w') w' q s (zbv s t m).1:=by
 obtain⟨h1,q2,h2,h3⟩:=h;have key:∀ now e w',(now=true->F q2)->zez q q2 p b now w w' e s (zbv s t m).1 (zbv s t m).2->zef F p b w w' e (zbv s t m).2/\SkO (grow F w w') w' q s (zbv s t m).1:=fun now e w' y hS=>by
  obtain⟨q3,h4,i⟩:=hS.at';refine⟨⟨hS.ret,hS.wds,hS.only.weak fun k j=>?_⟩,.inl h1,q3,h4,fun l=>?_⟩
  ·rcases j with rfl|⟨e,rfl⟩|j|j
   ·exact .inl h1
   ·exact .inl (y e)
   ·exact .inr (.inl j)
   exact .inr (.inr j)
  rcases i with⟨rfl,i⟩|i
  ·cases now
   ·exact absurd (i rfl) l
   exact .inl (y rfl)
  rcases hq:(zbv s t m).1.now with _|x
  ·exact absurd hq l
  exact .inr ⟨i,(h4.inn x hq).1.lt⟩
 rcases Bool.eq_false_or_eq_true t.done with hd|hd
 ·rcases hx:t.now with _|x
  ·exact(zns q q2 p b s t m w h2 n hd false (fun _=>hx)).mono fun e w' hS=>key false e w' (fun e=>by cases e) hS
  exact(zns q q2 p b s t m w h2 n hd true (fun e=>by cases e)).mono fun e w' hS=>key true e w' (fun _=>h3 (by rw[hx];exact fun e=>by cases e)) hS
 rcases hx:t.now with _|x
 ·exact(zuy q q2 p b s t m w h2 hx n (fun e=>o (e ▸ h1)) (fun e=>hb (e ▸ h1)) r z hs hd).mono fun e w' hS=>key false e w' (fun e=>by cases e) hS
 have h4:=h3 (by rw[hx];exact fun e=>by cases e);exact(zzl q q2 p b s t x m w h2 hx n ⟨fun e=>o (e ▸ h1),fun e=>o (e ▸ h4)⟩ ⟨fun e=>hb (e ▸ h1),fun e=>hb (e ▸ h4)⟩ r z hs hd).mono fun e w' hS=>key true e w' (fun _=>h4) hS
theorem z7o{F:Nat->Prop}{q p b:Nat}{s:Sh}{t:Rn}{m:Mem}{w:World}(h:RnO F w q s t)(B:zaq w p b m)(o:¬ F p)(hb:¬ F b)(y:Fits s m)(z:rnOk s t)(hs:m.st<1000000000):
  Calls Tryz.prog 184 #[some q,some p] w fun e w'=>zef F p b w w' e (zcr s t m).2/\RnO (grow F w w') w' q s (zcr s t m).1:=by
 obtain⟨h1,q2,h2,h3⟩:=h;refine(zyl q q2 p b s t m w h2 B (fun e=>o (e ▸ h1)) (fun e=>hb (e ▸ h1)) (fun l=>⟨fun e=>o (e ▸ h3 l),fun e=>hb (e ▸ h3 l)⟩) y z hs).mono fun e w' hS=>?_;have l:t.strip.isSome=true->F q2:=fun e=>h3 (fun r=>by rw[r]at e;cases e);obtain⟨q3,h4,i⟩:=hS.at';refine⟨⟨hS.ret,hS.wds,hS.only.weak fun k j=>?_⟩,.inl h1,q3,h4,fun n=>?_⟩
 ·rcases j with rfl|⟨e,rfl⟩|j|j
  ·exact .inl h1
  ·exact .inl (l e)
  ·exact .inr (.inl j)
  exact .inr (.inr j)
 rcases i with⟨rfl,i⟩|i
 ·cases hi:t.strip.isSome
  ·exact absurd (i hi) n
  exact .inl (l hi)
 rcases hq:(zcr s t m).1.strip with _|x
 ·exact absurd hq n
 exact .inr ⟨i,(h4.inn x hq).1.lt⟩
def ptrV {α:Type} (o:Option α) (q:Nat):Value:=match o with
 | none=> .pointer none
 | some _=> .pointer (some ⟨q,0,.none⟩)
def zjd (t:Rs) (v1 v2:Value):Array Value:= #[t.k,t.pages,v1,v2]
attribute [local go_sem] zjd

def RsO (F:Nat->Prop) (w:World) (q:Nat) (s:Sh) (t:Rs):Prop:=
 F q/\∃ q1 G,(∀ k,G k->F k/\k≠q)/\zaa w q (zjd t (ptrV t.seeker q1) (ptrV t.runner q1)) 212/\(t.seeker=none\/t.runner=none)/\(∀ x,t.seeker=some x->SkO G w q1 s x)/\(∀ x,t.runner=some x->RnO G w q1 s x)
theorem RsO.only{F G:Nat->Prop}{w w':World}{q:Nat}{s:Sh}{t:Rs}(h:RsO F w q s t)(f:Only G w w')(hd:∀ k,F k->¬ G k):RsO F w' q s t:=by
 obtain⟨h1,q1,H,h2,h3,h4,j,l⟩:=h;exact⟨h1,q1,H,h2,h3.only f (hd q h1),h4,fun x i=>(j x i).only f (fun k b=>hd k (h2 k b).1),fun x i=>(l x i).only f (fun k b=>hd k (h2 k b).1)⟩
theorem RsO.weak{F G:Nat->Prop}{w:World}{q:Nat}{s:Sh}{t:Rs}(h:RsO F w q s t)(b:∀ k,F k->G k):RsO G w q s t:=by
 obtain⟨h1,q1,H,h2,h⟩:=h;exact⟨b q h1,q1,H,fun k f=>⟨b k (h2 k f).1,(h2 k f).2⟩,h⟩
theorem zpx(t:Rs)(h:t.seeker=none\/t.runner=none):(∃ x,t.seeker=some x/\t.runner=none)\/(∃ x,t.seeker=none/\t.runner=some x)\/(t.seeker=none/\t.runner=none):=by
 rcases h1:t.seeker with _|x<;>rcases h2:t.runner with _|y
 ·exact .inr (.inr ⟨rfl,rfl⟩)
 ·exact .inr (.inl ⟨y,rfl,rfl⟩)
 ·exact .inl ⟨x,rfl,rfl⟩
 rcases h with h|h
 ·rw[h1]at h;cases h
 rw[h2]at h;cases h
theorem zil{F:Nat->Prop}{q:Nat}{s:Sh}{t:Rs}{w:World}(h:RsO F w q s t):
  Calls Tryz.prog 124 #[some q] w fun e w'=>e= .returned (.bool t.done)/\w'=w:=by
 obtain⟨h1,q1,H,h2,h3,h4,o,p⟩:=h;have c2:=ce (ptrV t.seeker q1) (h3.cell 2);have c3:=ce (ptrV t.runner q1) (h3.cell 3);rcases zpx t h4 with⟨x,b,i⟩|⟨x,b,i⟩|⟨b,i⟩
 ·obtain⟨_,q2,n,_⟩:=o x b;have hd:=hd' (zzq q1 _ x.done w n.row rfl);have j:t.done=x.done:=by unfold Rs.done;rw[b]
  rw[j];rw[b]at c2;replace c2:w.cell? ⟨q,2,.none⟩=some (.pointer (some ⟨q1,0,.none⟩)):=c2;clear h1 h2 h3 h4 o p c3 j b i n;go_in;go_wp2_with (go_at_call 137;(with_reducible refine hd.out.mono ?_);rintro r y ⟨rfl,l⟩;obtain rfl:=l.symm);go_returns;exact⟨rfl,rfl⟩
 ·obtain⟨_,q2,m,_⟩:=p x i;have hd:=hd' (zy1 q1 _ x.done w m.row rfl);have j:t.done=x.done:=by unfold Rs.done;rw[b,i]
  rw[j];rw[b]at c2;rw[i]at c3;replace c2:w.cell? ⟨q,2,.none⟩=some (.pointer none):=c2;replace c3:w.cell? ⟨q,3,.none⟩=some (.pointer (some ⟨q1,0,.none⟩)):=c3;clear h1 h2 h3 h4 o p j b i m;go_in;go_wp2_with (go_at_call 138;(with_reducible refine hd.out.mono ?_);rintro r y ⟨rfl,l⟩;obtain rfl:=l.symm);go_returns;exact⟨rfl,rfl⟩
 have j:t.done=true:=by unfold Rs.done;rw[b,i]
 rw[j];rw[b]at c2;rw[i]at c3;replace c2:w.cell? ⟨q,2,.none⟩=some (.pointer none):=c2;replace c3:w.cell? ⟨q,3,.none⟩=some (.pointer none):=c3;clear h1 h2 h3 h4 o p j b i;go_in;go_wp2_with fail;go_returns;exact⟨rfl,rfl⟩
theorem zo5{F:Nat->Prop}{q p b:Nat}{s:Sh}{t:Rs}{m:Mem}{w:World}(h:RsO F w q s t)(O:zaq w p b m)(X:¬ F p)(hb:¬ F b)(T:Fits s m)(V:(∀ x,t.seeker=some x->skOk s x)/\(∀ x,t.runner=some x->rnOk s x))(hs:m.st<1000000000):
  Calls Tryz.prog 181 #[some q,some p] w fun e w'=>zef F p b w w' e (zb0 s t m).2/\RsO (grow F w w') w' q s (zb0 s t m).1:=by
 obtain⟨h1,q1,H,h2,h3,h4,R,S⟩:=h;have c2:=ce (ptrV t.seeker q1) (h3.cell 2);have c3:=ce (ptrV t.runner q1) (h3.cell 3);have I:¬ H p:=fun e=>X (h2 p e).1;have G:¬ H b:=fun e=>hb (h2 b e).1;have D:q≠p:=fun e=>X (e ▸ h1);have C:q≠b:=fun e=>hb (e ▸ h1);have b1:=h3.lt;have B:∀ k,H k->k≠q:=fun k L=>(h2 k L).2;have E:∀ w' k,grow H w w' k->grow F w w' k/\k≠q:=fun w' k L=>⟨z2p (fun k e=>(h2 k e).1) k L,by rcases L with e|e;exact(h2 k e).2;omega⟩;rcases zpx t h4 with⟨x,i,l⟩|⟨x,i,l⟩|⟨i,l⟩
 ·have o:=z5m (R x i) O I G T (V.1 x i) hs;have N:zb0 s t m=({t with seeker:=some (zbv s x m).1},(zbv s x m).2):=by unfold zb0;rw[i]
  rw[N];dsimp only;have j:Hid (∀ e w',zef H p b w w' e (zbv s x m).2/\SkO (grow H w w') w' q1 s (zbv s x m).1->zef F p b w w' (.returned (.tuple #[])) (zbv s x m).2/\RsO (grow F w w') w' q s {t with seeker:=some (zbv s x m).1}):=hd' fun e w' hS=>by
   refine⟨⟨rfl,hS.1.wds,hS.1.only.weak fun k L=>L.imp (fun e=>(h2 k e).1) id⟩,.inl h1,q1,grow H w w',E w',?_,.inr l,fun z y=>?_,fun z y=>?_⟩
   ·have M:=h3.only hS.1.only (by rintro(e|e|e);exact B q e rfl;exact D e;exact C e);rw[i]at M;exact M
   ·simp only[Option.some.injEq]at y;subst y;exact hS.2
   have y:t.runner=some z:=y;rw[l]at y;cases y
  rw[i]at c2;rw[l]at c3;replace c2:w.cell? ⟨q,2,.none⟩=some (.pointer (some ⟨q1,0,.none⟩)):=c2;replace c3:w.cell? ⟨q,3,.none⟩=some (.pointer none):=c3;have U:Hid (∀ e w',zef H p b w w' e (zbv s x m).2->w'.cell? ⟨q,3,.none⟩=some (.pointer none)):=hd' fun e w' hS=>by have M:=h3.only hS.only (by rintro(e|e|e);exact B q e rfl;exact D e;exact C e);rw[i,l]at M;exact M.cell 3
  have n:=hd' (fun w=>zpd p w);replace o:=hd' o;clear N h1 h2 h3 h4 R S I G D C B E i l O X hb T V hs;go_in;go_wp2_with (first|(go_at_call 183;(with_reducible refine o.out.mono ?_);rintro r Z hS;obtain rfl:=hS.1.ret;have b0:=U.out _ _ hS.1)|(go_at_call 184;(with_reducible refine(n.out _).mono ?_);rintro r w2 ⟨rfl,J⟩;obtain rfl:=J.symm));go_returns;exact j.out _ _ hS
 ·have n:=z7o (S x l) O I G T (V.2 x l) hs;have N:zb0 s t m=({t with runner:=some (zcr s x m).1},(zcr s x m).2):=by unfold zb0;rw[i,l]
  rw[N];dsimp only;have j:Hid (∀ e w',zef H p b w w' e (zcr s x m).2/\RnO (grow H w w') w' q1 s (zcr s x m).1->zef F p b w w' (.returned (.tuple #[])) (zcr s x m).2/\RsO (grow F w w') w' q s {t with runner:=some (zcr s x m).1}):=hd' fun e w' hS=>by
   refine⟨⟨rfl,hS.1.wds,hS.1.only.weak fun k L=>L.imp (fun e=>(h2 k e).1) id⟩,.inl h1,q1,grow H w w',E w',?_,.inl i,fun z y=>?_,fun z y=>?_⟩
   ·have M:=h3.only hS.1.only (by rintro(e|e|e);exact B q e rfl;exact D e;exact C e);rw[l]at M;exact M
   ·have y:t.seeker=some z:=y;rw[i]at y;cases y
   simp only[Option.some.injEq]at y;subst y;exact hS.2
  rw[i]at c2;rw[l]at c3;replace c2:w.cell? ⟨q,2,.none⟩=some (.pointer none):=c2;replace c3:w.cell? ⟨q,3,.none⟩=some (.pointer (some ⟨q1,0,.none⟩)):=c3;have o:=hd' (fun w=>zos p w);replace n:=hd' n;clear N h1 h2 h3 h4 R S I G D C B E i l O X hb T V hs;go_in;go_wp2_with (first|(go_at_call 183;(with_reducible refine(o.out _).mono ?_);rintro r w2 ⟨rfl,J⟩;obtain rfl:=J.symm)|(go_at_call 184;(with_reducible refine n.out.mono ?_);rintro r Z hS;obtain rfl:=hS.1.ret));go_returns;exact j.out _ _ hS
 have N:zb0 s t m=(t,m):=by unfold zb0;rw[i,l]
 rw[N];dsimp only;have j:Hid (zef F p b w w (.returned (.tuple #[])) m/\RsO (grow F w w) w q s t):=hd' ⟨⟨rfl,O,Only.refl _ _⟩,RsO.weak ⟨h1,q1,H,h2,h3,h4,R,S⟩ fun k L=>.inl L⟩;rw[i]at c2;rw[l]at c3;replace c2:w.cell? ⟨q,2,.none⟩=some (.pointer none):=c2;replace c3:w.cell? ⟨q,3,.none⟩=some (.pointer none):=c3;have o:=hd' (fun w=>zos p w);have n:=hd' (fun w=>zpd p w);clear N h1 h2 h3 h4 R S I G D C B E i l O X hb T V hs;go_in;go_wp2_with (first|(go_at_call 183;(with_reducible refine(o.out _).mono ?_);rintro r Z ⟨rfl,Y⟩;obtain rfl:=Y.symm)|(go_at_call 184;(with_reducible refine(n.out _).mono ?_);rintro r w2 ⟨rfl,J⟩;obtain rfl:=J.symm));go_returns;exact j.out
def zww (w w':World) (e:Ending) (s:Sh) (t:Rs):Prop:=∃ q,e= .returned (.pointer (some ⟨q,0,.none⟩))/\RsO (fun k=> w.heap.size<=k/\k < w'.heap.size) w' q s t/\Below w.heap.size w w'
theorem ztd(s:Sh)(c n f:Int)(w:World):
  Calls Tryz.prog 88 #[.agg #[s.p,s.c,s.m],c,n,f] w fun e w'=>zww w w' e s (zdh s c n f):=by
 have b:=fun W=>zmu n W;have j:=fun W=>zur n W;have D:=fun W=>z1m s c (zcn n) f W;have C:=fun W=>z07 s c (runV n) W;obtain⟨O,U,G⟩:=hidv (zdh s c n f);rw[<-G];clear G;have B:=(Below.refl w.heap.size w).alloc lr (.cells #[s.p,s.c,s.m] 23);have H:=heap_alloc_new w (.cells #[s.p,s.c,s.m] 23);have I:(wi n 1 32=true/\O=⟨zcn n,0,some (zhb s c (zcn n) f),none⟩)\/(wi n 1 32=false/\wi n 33 512=true/\O=⟨0,runV n,none,some (zf8 s c (runV n))⟩)\/(wi n 1 32=false/\wi n 33 512=false/\O=⟨0,0,none,none⟩):=by
  rw[U.out];unfold zdh;cases h1:wi n 1 32
  ·cases h2:wi n 33 512
   ·exact .inr (.inr ⟨rfl,rfl,rfl⟩)
   exact .inr (.inl ⟨rfl,rfl,rfl⟩)
  exact .inl ⟨rfl,rfl⟩
 clear U;generalize hx:zhb s c (zcn n) f=x at *;generalize hy:zf8 s c (runV n)=y at *;have E:y.strip=none:=by rw[<-hy];rfl
 generalize zcn n=k at *;generalize runV n=pg at *;clear hx hy;rcases I with⟨h1,h2⟩|⟨h1,h2,h3⟩|⟨h1,h2,h3⟩
 ·rw[h1]at b;clear h1 j C E;have i:Hid (∀ W Y e,Below w.heap.size w W->z02 W Y e s x->∀ q1,e= .returned (.pointer (some ⟨q1,0,.none⟩))->zww w (Y.alloc (.cells (zjd ⟨k,0,some x,none⟩ (.pointer (some ⟨q1,0,.none⟩)) (.pointer none)) 212)) (.returned (.pointer (some ⟨Y.heap.size,0,.none⟩))) s O):=hd' fun W Y e hb hS q1 o=>by
   obtain⟨⟨q,q2,Z,h4,L,h6⟩,R⟩:=hS;rw[Z]at o;obtain rfl:q=q1:=by injection o with o;injection o with o;injection o with o;injection o
   have T:=hb.size;have b0:=R.size;have l:(Y.alloc (.cells (zjd ⟨k,0,some x,none⟩ (.pointer (some ⟨q,0,.none⟩)) (.pointer none)) 212)).heap.size=Y.heap.size+1:=by simp
   have F:=zab hb R;rw[h2];refine⟨Y.heap.size,rfl,⟨⟨by omega,by omega⟩,q,fun k=>w.heap.size<=k/\k<Y.heap.size,fun k S=>⟨⟨S.1,by omega⟩,by omega⟩,heap_alloc_new _ _,.inr rfl,fun z l=>?_,fun z l=>(by cases l)⟩,F.trans (br.alloc F.size _)⟩;simp only[Option.some.injEq]at l;subst l;have J:=L.row.lt;refine⟨⟨by omega,J⟩,q2,L.below (br.alloc lr _),fun V=>?_⟩;rcases hq:x.now with _|u
   ·exact absurd hq V
   have:=(L.inn u hq).1.lt;exact⟨by have:=h6 V;omega,this⟩
  clear h2;obtain⟨sp,M,N⟩:=s;dsimp only at D B H ⊢;replace b:=hd' b;replace D:=hd' D;go_in;go_upto_region 1 with fail;generalize w.alloc (.cells #[sp,M,N] 23)=W at *;have b1:=zac H;clear H;go_wp2_with (first|(go_at_call 104;(with_reducible refine(b.out _).mono ?_);rintro r X ⟨rfl,rfl⟩)|(go_at_call 105;(with_reducible refine(D.out _).mono ?_);rintro r w2 hS;obtain⟨q1,q2,rfl,_⟩:=id hS.at'));go_returns;exact i.out _ _ _ B hS _ rfl
 ·rw[h1]at b;rw[h2]at j;clear h1 h2 D;have i:Hid (∀ W Y e,Below w.heap.size w W->Born W Y e (za3 s y (.pointer none)) 238->∀ q1,e= .returned (.pointer (some ⟨q1,0,.none⟩))->zww w (Y.alloc (.cells (zjd ⟨0,pg,none,some y⟩ (.pointer none) (.pointer (some ⟨q1,0,.none⟩))) 212)) (.returned (.pointer (some ⟨Y.heap.size,0,.none⟩))) s O):=hd' fun W Y e hb hS q1 o=>by
   obtain⟨q,Z,h4,L,R⟩:=hS;rw[Z]at o;obtain rfl:q=q1:=by injection o with o;injection o with o;injection o with o;injection o
   have T:=hb.size;have b0:=R.size;have l:(Y.alloc (.cells (zjd ⟨0,pg,none,some y⟩ (.pointer none) (.pointer (some ⟨q,0,.none⟩))) 212)).heap.size=Y.heap.size+1:=by simp
   have F:=zab hb R;rw[h3];refine⟨Y.heap.size,rfl,⟨⟨by omega,by omega⟩,q,fun k=>w.heap.size<=k/\k<Y.heap.size,fun k S=>⟨⟨S.1,by omega⟩,by omega⟩,heap_alloc_new _ _,.inl rfl,fun z l=>(by cases l),fun z l=>?_⟩,F.trans (br.alloc F.size _)⟩;simp only[Option.some.injEq]at l;subst l;have J:=L.lt;refine⟨⟨by omega,J⟩,0,⟨by rw[E];exact L.below (br.alloc lr _),fun z l=>by rw[E]at l;cases l⟩,fun V=>absurd E V⟩
  clear h3 E;obtain⟨sp,M,N⟩:=s;dsimp only at C B H i ⊢;generalize za3 ⟨sp,M,N⟩ y (.pointer none)=b3 at *;replace b:=hd' b;replace j:=hd' j;replace C:=hd' C;go_in;go_upto_region 1 with fail;generalize w.alloc (.cells #[sp,M,N] 23)=W at *;have b2:=zac H;clear H;go_wp2_with (first|(go_at_call 104;(with_reducible refine(b.out _).mono ?_);rintro r X ⟨rfl,rfl⟩)|(go_at_call 86;(with_reducible refine(j.out _).mono ?_);rintro r X ⟨rfl,rfl⟩)|(go_at_call 106;(with_reducible refine(C.out _).mono ?_);rintro r w2 hS;obtain⟨q1,rfl,_⟩:=id hS));go_returns;exact i.out _ _ _ B hS _ rfl
 rw[h1]at b;rw[h2]at j;clear h1 h2 D C E;have i:Hid (∀ Y,Below w.heap.size w Y->zww w (Y.alloc (.cells (zjd ⟨0,0,none,none⟩ (.pointer none) (.pointer none)) 212)) (.returned (.pointer (some ⟨Y.heap.size,0,.none⟩))) s O):=hd' fun Y hb=>by
  have T:=hb.size;have l:(Y.alloc (.cells (zjd ⟨0,0,none,none⟩ (.pointer none) (.pointer none)) 212)).heap.size=Y.heap.size+1:=by simp
  rw[h3];exact⟨Y.heap.size,rfl,⟨⟨by omega,by omega⟩,0,fun k=>False,fun k S=>S.elim,heap_alloc_new _ _,.inl rfl,fun z l=>(by cases l),fun z l=>(by cases l)⟩,hb.trans (br.alloc hb.size _)⟩
 clear h3;obtain⟨sp,M,N⟩:=s;dsimp only at B H i ⊢;replace b:=hd' b;replace j:=hd' j;go_in;go_upto_region 1 with fail;generalize w.alloc (.cells #[sp,M,N] 23)=W at *;clear H;go_wp2_with (first|(go_at_call 104;(with_reducible refine(b.out _).mono ?_);rintro r X ⟨rfl,rfl⟩)|(go_at_call 86;(with_reducible refine(j.out _).mono ?_);rintro r X ⟨rfl,rfl⟩));go_returns;exact i.out _ B
def gotV (o:Option Blk):Value:= .tuple #[.agg (zg0 (o.getD Blk.zero)),o.isSome]
theorem five_set{n:Nat}{w X:World}{E:Nat}{c0 c1 c2 c3 c4:Value}{y:TypeId}(o:zaa X E #[c0,c1,c2,c3,c4] y)(hb:Below n w X)(b:n<=E)(f i j l m:Value):
  ∃ U,U=((((X.setCell ⟨E,0,.none⟩ f).setCell ⟨E,1,.none⟩ i).setCell ⟨E,2,.none⟩ j).setCell ⟨E,3,.none⟩ l).setCell ⟨E,4,.none⟩ m/\zaa U E #[f,i,j,l,m] y/\Below n w U:=
 ⟨_,rfl,((((o.set 0 f).set 1 i).set 2 j).set 3 l).set 4 m,((((hb.setCell (p:=⟨E,0,.none⟩) b f).setCell (p:=⟨E,1,.none⟩) b i).setCell (p:=⟨E,2,.none⟩) b j).setCell (p:=⟨E,3,.none⟩) b l).setCell (p:=⟨E,4,.none⟩) b m⟩
def foundO (f g:Bool) (a c k h n:Int):Option Blk:=if f=true then some ⟨false,a,c,k,0⟩ else if g=true then some ⟨true,h,0,0,n⟩ else none
theorem rsf_any{w:World}{q:Nat}{u v:Option Addr}(k n a c h:Int)(f g:Bool)(V:q<w.heap.size)
  (hc:∀ X,Below w.heap.size w X->X.cell? ⟨q,0,.none⟩=some (.int .i64 k)/\X.cell? ⟨q,1,.none⟩=some (.int .i64 n)/\X.cell? ⟨q,2,.none⟩=some (.pointer u)/\X.cell? ⟨q,3,.none⟩=some (.pointer v))
  (l:∀ X,Below w.heap.size w X->Calls Tryz.prog 135 #[.pointer u] X fun e w'=>e= .returned (.tuple #[.int .i64 (if f=true then a else 0),.int .i64 (if f=true then c else 0),f])/\Below X.heap.size X w')
  (j:∀ X,Below w.heap.size w X->Calls Tryz.prog 136 #[.pointer v] X fun e w'=>e= .returned (.tuple #[.int .i64 (if g=true then h else 0),g])/\w'=X):
  Calls Tryz.prog 121 #[some q] w fun e w'=>e= .returned (gotV (foundO f g a c k h n))/\Below w.heap.size w w':=by
 have i:=(Below.refl w.heap.size w).alloc lr (.cells #[.bool false,.int .i64 0,.int .i64 0,.int .i64 0,.int .i64 0] 203);have F:zaa (w.alloc (.cells #[.bool false,.int .i64 0,.int .i64 0,.int .i64 0,.int .i64 0] 203)) w.heap.size #[.bool false,.int .i64 0,.int .i64 0,.int .i64 0,.int .i64 0] 203:=heap_alloc_new _ _;have I:=F.lt;have J:q≠w.heap.size:=by omega
 obtain⟨L,s,y,z,B,b,R,N,h1,h2,h3,h4,hb⟩:∃ (L:Bool) (s y z B:Int) (b:Bool),Hid (gotV (foundO f g a c k h n)= .tuple #[.agg #[L,s,y,z,B],b])/\Hid (L=(!f&&g))/\Hid (s=if f=true then a else if g=true then h else 0)/\Hid (y=if f=true then c else 0)/\Hid (z=if f=true then k else 0)/\Hid (B=if f=true then 0 else if g=true then n else 0)/\Hid (b=(f||g)):=by refine⟨_,_,_,_,_,_,hd' ?_,hd' rfl,hd' rfl,hd' rfl,hd' rfl,hd' rfl,hd' rfl⟩;cases f<;>cases g<;>rfl
 rw[R.out];obtain⟨k0,k1,k2,Y⟩:=hc _ i;clear R V k0 k1 Y;replace hc:=hd' hc;replace l:=hd' l;replace j:=hd' j;rcases f with _|_<;>rcases g with _|_;all_goals
  simp only[Bool.false_eq_true,if_false,if_true,Bool.not_false,Bool.not_true,Bool.true_and,Bool.false_and,Bool.or_false,Bool.or_true,Bool.false_or,Bool.true_or]at l j N h1 h2 h3 h4 hb;go_in;go_upto_region 1 with fail;generalize w.alloc (.cells #[.bool false,.int .i64 0,.int .i64 0,.int .i64 0,.int .i64 0] 203)=X at *;obtain⟨E,T,m⟩:=hidv w.heap.size;simp only[<-m]at F I J ⊢;have G:w.heap.size<=E:=by omega
  clear m;go_wp2_with (first|(go_at_call 135;(with_reducible refine(l.out _ i).mono ?_);rintro r w1 ⟨rfl,D⟩;have p:=i.trans (D.mono i.size);have o:=F.below D;obtain⟨z0,z1,z2,z3⟩:=hc.out _ p;have S:=o.cell;have ef:=zax o)|(go_at_call 136;(with_reducible refine(j.out _ p).mono ?_);rintro r w2 ⟨rfl,M⟩;obtain rfl:=M.symm));obtain⟨U,O,C,H⟩:=five_set o p G (.bool L) (.int .i64 s) (.int .i64 y) (.int .i64 z) (.int .i64 B);rw[N.out,h1.out,h2.out,h3.out,h4.out]at O;rw[<-O];have r0:=ce (.bool L) (C.cell 0);have Z:=ci s (C.cell 1);have r2:=ci y (C.cell 2);have r3:=ci z (C.cell 3);have r4:=ci B (C.cell 4);exact bodyPost_ret (v:= .tuple #[.agg #[L,s,y,z,B],b]) (by simp[results,Tryz.results121,go_sem,r0,Z,r2,r3,r4,hb.out]) rfl ⟨rfl,H⟩
theorem zei{F:Nat->Prop}{q:Nat}{s:Sh}{t:Rs}{w:World}(h:RsO F w q s t):
  Calls Tryz.prog 121 #[some q] w fun e w'=>e= .returned (gotV t.got)/\Below w.heap.size w w':=by
 obtain⟨h1,q1,H,h2,h3,h4,n,o⟩:=h;have hc:=fun X (b:Below w.heap.size w X)=>h3.below b;rcases zpx t h4 with⟨x,i,j⟩|⟨x,i,j⟩|⟨i,j⟩
 ·obtain⟨_,q2,hs,_⟩:=n x i;have m:t.got=foundO x.found false x.page x.slot t.k 0 t.pages:=by unfold Rs.got foundO;rw[i];simp only[Bool.false_eq_true,if_false]
  rw[m];refine rsf_any (u:=some ⟨q1,0,.none⟩) (v:=none) _ _ _ _ _ _ _ h3.lt (fun X b=>⟨(hc X b).cell 0,(hc X b).cell 1,?_,?_⟩) (fun X b=>(zt7 q1 s x _ X (hs.row.below b))) (fun X _=>znf X)
  ·exact((hc X b).cell 2).trans (by rw[i];rfl)
  exact((hc X b).cell 3).trans (by rw[j];rfl)
 ·obtain⟨_,q2,hs,_⟩:=o x j;have m:t.got=foundO false x.found 0 0 t.k x.head t.pages:=by unfold Rs.got foundO;rw[i,j];simp only[Bool.false_eq_true,if_false]
  rw[m];refine rsf_any (u:=none) (v:=some ⟨q1,0,.none⟩) _ _ _ _ _ _ _ h3.lt (fun X b=>⟨(hc X b).cell 0,(hc X b).cell 1,?_,?_⟩) (fun X _=>(zmh X).mono fun _ _ l=>⟨l.1,l.2 ▸ Below.refl _ _⟩) (fun X b=>zvi q1 s x _ X (hs.row.below b))
  ·exact((hc X b).cell 2).trans (by rw[i];rfl)
  exact((hc X b).cell 3).trans (by rw[j];rfl)
 have m:t.got=foundO false false 0 0 t.k 0 t.pages:=by unfold Rs.got foundO;rw[i,j];simp only[Bool.false_eq_true,if_false]
 rw[m];refine rsf_any (u:=none) (v:=none) _ _ _ _ _ _ _ h3.lt (fun X b=>⟨(hc X b).cell 0,(hc X b).cell 1,?_,?_⟩) (fun X _=>(zmh X).mono fun _ _ l=>⟨l.1,l.2 ▸ Below.refl _ _⟩) (fun X _=>znf X)
 ·exact((hc X b).cell 2).trans (by rw[i];rfl)
 exact((hc X b).cell 3).trans (by rw[j];rfl)
def za7 (s:Sh) (t:Fe) (pv:Value):Array Value:= #[s.p,s.c,s.m,t.c,t.a,t.page,t.slot,.int .u64 t.word,t.pk,t.pa,t.pb,t.next,t.i,pv,t.gave,t.done]
attribute [local go_sem] za7

structure FeAt (w:World) (q q2:Nat) (s:Sh) (t:Fe):Prop where
 row:zaa w q (za7 s t (ptrV t.put q2)) 216
 inn:∀ x,t.put=some x->zaa w q2 (zeh s x) 292/\q≠q2
theorem zkw(q:Nat)(cs:Array Value)(v:Bool)(w:World)(h:zaa w q cs 216)(b:cs[15]?=some (.bool v)):Calls Tryz.prog 125 #[some q] w fun e w'=>e= .returned (.bool v)/\w'=w:=by
 have c:=(h.cell 15).trans b;clear h b;go_in;go_wp2_with fail;go_returns;exact⟨rfl,rfl⟩
theorem zh8(q:Nat)(cs:Array Value)(v:Bool)(w:World)(h:zaa w q cs 216)(b:cs[14]?=some (.bool v)):Calls Tryz.prog 126 #[some q] w fun e w'=>e= .returned (.bool v)/\w'=w:=by
 have c:=(h.cell 14).trans b;clear h b;go_in;go_wp2_with fail;go_returns;exact⟨rfl,rfl⟩
theorem zoc(w:World):Calls Tryz.prog 126 #[.pointer none] w fun e w'=>e= .returned (.bool false)/\w'=w:=by
 go_in;go_wp2_with fail;go_returns;exact⟨rfl,rfl⟩
theorem zxk(s:Sh)(a:Int)(w:World):Calls Tryz.prog 85 #[.agg #[s.p,s.c,s.m],a] w fun e w'=>e= .returned (.tuple #[.int .i64 (if spB s a=true then a/64 else 0),.int .i64 (if spB s a=true then a%64 else 0),.bool (spB s a)])/\Below w.heap.size w w':=by
 refine(z0r s.p s.c s.m a w).mono ?_;rintro e w' ⟨rfl,hb⟩;refine⟨?_,hb⟩;have h:splitB s.p s.c s.m a=spB s a:=rfl;rw[h];cases spB s a<;>rfl
theorem zq9(s:Sh)(c a:Int)(w:World):
  Calls Tryz.prog 89 #[.agg #[s.p,s.c,s.m],c,a] w fun e w'=>Born w w' e (za7 s (zc2 s c a) (.pointer none)) 216:=by
 have q:=fun W=>zau s.p s.c s.m c W;have i:=fun W=>zxk s a W;have C:za7 s (zc2 s c a) (.pointer none)= #[.int .i64 s.p,.int .i64 s.c,.int .i64 s.m,.int .i64 c,.int .i64 a,.int .i64 (if spB s a=true then a/64 else 0),.int .i64 0,.int .u64 0,.int .i64 0,.int .i64 0,.int .i64 0,.int .i64 0,.int .i64 0,.pointer none,.bool false,.bool (!spB s a||decide (zae s.p s.c s.m c<0))]:=rfl;rw[C];clear C;generalize zae s.p s.c s.m c=D at *;generalize (if spB s a=true then a/64 else 0)=d at *;generalize (if spB s a=true then a%64 else 0)=f at *;generalize spB s a=g at *;obtain⟨sp,y,z⟩:=s;dsimp only at q i ⊢;replace q:=hd' q;replace i:=hd' i;have j:=(Below.refl w.heap.size w).alloc lr (.cells #[sp,y,z] 23);have n:=heap_alloc_new w (.cells #[sp,y,z] 23);go_in;go_upto_region 1 with fail;generalize w.alloc (.cells #[sp,y,z] 23)=W at *;obtain⟨H,G,o⟩:=hidv w.heap.size;rw[<-o]at n ⊢;have I:H<W.heap.size:=(Array.getElem?_eq_some_iff.1 n).1;have c0:W.cell? ⟨H,0,.none⟩=some (.int .i64 sp):=zac n 0;have c1:W.cell? ⟨H,1,.none⟩=some (.int .i64 y):=zac n 1;have c2:W.cell? ⟨H,2,.none⟩=some (.int .i64 z):=zac n 2;clear o n;go_upto_region 2 with(first|(go_at_call 85;(with_reducible refine(i.out _).mono ?_);rintro r J ⟨rfl,b⟩;have E:=zai b _ _ _ c0;have d1:=zai b _ _ _ c1;have d2:=zai b _ _ _ c2;have F:=zqe E));clear c0 c1 c2;rcases(by cases g<;>simp<;>omega:g=false\/(g=true/\D<0)\/(g=true/\¬ D<0)) with rfl|⟨rfl,h1⟩|⟨rfl,h1⟩;all_goals
  try have q1:=decide_eq_false h1
  refine wret 13 ?_;repeat (go_big_quiet_step (((go_at_call 22;exact zam (q.out _)))))
  refine wqn fun X B=>?_;have l:=B;go_wp2_with fail;go_returns
 ·exact za6 j (zab b l) rfl
 ·exact za6 j (zab b l) (by simp[h1])
 exact za6 j (zab b l) (by simp[h1])
theorem zoz(q q2:Nat)(s:Sh)(t:Fe)(x:Pu)(w:World)(h:FeAt w q q2 s t)(m:t.put=some x):
  Calls Tryz.prog 200 #[some q] w fun e w'=>Turned q w w' e (za7 s t.kept (.pointer (some ⟨q2,0,.none⟩))) 216:=by
 obtain⟨l,E⟩:=h.inn x m;have j:=z4h q2 (zeh s x) x.put w l rfl;have i:=zxw q2 (zeh s x) x.done w l rfl;have h0:At1 q w w (za7 s t (.pointer (some ⟨q2,0,.none⟩))) 216:=At1.start (by have:=h.row;rw[m]at this;exact this);have n:=zcv t x m;obtain⟨B,b⟩:∃ B,B=t.kept:=⟨_,rfl⟩;rw[<-b]at n ⊢;clear b h m l;generalize zeh s x=F at *;generalize x.put=g at *;generalize x.done=d at *;obtain⟨sp,G,H⟩:=s;obtain⟨J,I,L,N,R,pk,pa,pb,O,M,C,z,y⟩:=t;dsimp only at n;replace j:=hd' j;replace i:=hd' i;have D:=h0.cell;have U:=h0.free;rcases n with⟨rfl,b⟩|⟨rfl,rfl,b⟩|⟨rfl,rfl,b⟩;all_goals replace b:=hd' b;go_in;go_wp2_with (first|(go_at_call 205;(with_reducible refine j.out.mono ?_);rintro r S ⟨rfl,o⟩;obtain rfl:=o.symm)|(go_at_call 206;(with_reducible refine i.out.mono ?_);rintro r T ⟨rfl,p⟩;obtain rfl:=p.symm));go_returns
 ·exact(h0.set 15 _).fin (by rw[b.out];rfl)
 ·exact(h0.set 11 _).fin (by rw[b.out];rfl)
 exact h0.fin (by rw[b.out])
theorem zvp(q p b:Nat)(s:Sh)(t:Fe)(pv:Value)(m:Mem)(w:World)(h0:At3 q p b w w (za7 s t pv) 216 m)(M:Fits s m)(hs:m.st<1000000000)(F:0<=t.page/\t.page<s.p)(N:1<=t.pa/\t.pa<=8/\t.pa<=s.p-t.page)(hi:0<=t.i/\t.i<t.pa):
  Calls Tryz.prog 204 #[some q,some p] w fun e w'=>e= .returned (.tuple #[])/\At3 q p b w w' (za7 s (if t.i=t.pa-1 then {t with done:=true} else {t with i:=t.i+1}) pv) 216 (if t.i=t.pa-1 then m.store t.c (zak s.p s.c s.m t.page) 0 else m.store t.c (zak s.p s.c s.m (t.page+t.i+1)) 0):=by
 have L:=M.bd;have w1:=wrp (t.pa-1);have R:=wrp (t.i+1);have w3:=wrp (t.page+t.i);have w4:=wrp (t.page+t.i+1);by_cases n:t.i=t.pa-1
 ·rw[if_pos n,if_pos n];have D:(t.i==t.pa-1)=true:=by simpa using n
  obtain⟨z,y⟩:=M.page F;have j:=fun Y=>planPage_any s.p s.c s.m t.page Y;rw[z]at j ⊢;have l:=fun Y (hY:zaq Y p b m)=>zba p b m t.c (s.c+t.page) 0 Y hY y (by decide) hs;generalize s.c+t.page=pg at *;clear z y F N hi L M R w3 w4 n;obtain⟨sp,sc,sm⟩:=s;obtain⟨tc,ta,tg,tl,tw,pk,pa,pb,tn,ti,O,I,H⟩:=t;dsimp only at j l w1 D ⊢;replace j:=hd' j;replace l:=hd' l;have lq:=h0.lt;have S:=h0.cell;go_in;go_upto_region 0 with fail;refine wre ?_;repeat (go_big_quiet_step (fail))
  refine wqn fun X o=>?_;have B:=h0.below o;clear S lq;have T:=B.cell;go_upto_region 1 with fail;have lX:=B.lt;refine wret 14 ?_;repeat (go_big_quiet_step (((go_at_call 65;exact zam (j.out _)))))
  refine wqn fun Z o=>?_;have J:=B.below o;clear T B lX;go_wp2_with (go_at_call 185;(with_reducible refine(l.out _ J.wds).mono ?_);rintro r R ⟨rfl,G,E⟩;have C:=J.access G E;have b0:=C.cell;have zf:=C.free);go_returns;exact⟨rfl,C.set 15 _⟩
 rw[if_neg n,if_neg n];have D:(t.i==t.pa-1)=false:=by simpa using n
 obtain⟨z,y⟩:=M.page (x:=t.page+t.i+1) (by omega);have j:=fun Y=>planPage_any s.p s.c s.m (t.page+t.i+1) Y;rw[z]at j ⊢;have l:=fun Y (hY:zaq Y p b m)=>zba p b m t.c (s.c+(t.page+t.i+1)) 0 Y hY y (by decide) hs;generalize s.c+(t.page+t.i+1)=pg at *;clear z y F N hi L M n;obtain⟨sp,sc,sm⟩:=s;obtain⟨tc,ta,tg,tl,tw,pk,pa,pb,tn,ti,O,I,H⟩:=t;dsimp only at j l w1 R w3 w4 D ⊢;replace j:=hd' j;replace l:=hd' l;have lq:=h0.lt;have U:=h0.cell;go_in;go_upto_region 0 with fail;refine wre ?_;repeat (go_big_quiet_step (fail))
 refine wqn fun X o=>?_;have B:=h0.below o;clear U lq;have V:=B.cell;go_upto_region 3 with fail;have lX:=B.lt;refine wret 20 ?_;repeat (go_big_quiet_step (((go_at_call 65;exact zam (j.out _)))))
 refine wqn fun Z o=>?_;have J:=B.below o;clear V B lX;go_wp2_with (go_at_call 185;(with_reducible refine(l.out _ J.wds).mono ?_);rintro r R ⟨rfl,G,E⟩;have C:=J.access G E;have b1:=C.cell;have zf:=C.free);go_returns;exact⟨rfl,C.set 12 _⟩
theorem zy7(q p b:Nat)(s:Sh)(t:Fe)(pv:Value)(m:Mem)(w:World)(h0:At3 q p b w w (za7 s t pv) 216 m)(hf:Fits s m)(hs:m.st<1000000000)(b6:0<=t.page/\t.page<s.p)(ba:spB s t.a=true):
  Calls Tryz.prog 201 #[some q,some p] w fun e w'=>e= .returned (.tuple #[])/\At3 q p b w w' (za7 s (t.look s m).1 pv) 216 (t.look s m).2:=by
 have bj:=hf.bd;have j:=fun Y=>zxk s t.a Y;rw[ba,if_pos rfl,if_pos rfl]at j;have U:0<=t.a%64/\t.a%64<64:=by omega
 obtain⟨b3,b7⟩:=hf.page b6;have C:=fun Y=>planPage_any s.p s.c s.m t.page Y;rw[b3]at C;have N:=fun Y (hY:zaq Y p b m)=>zc1 p b m t.c (s.c+t.page) Y hY b7 hs;have R:=fun Y=>zh3 s t.page (m.get (s.c+t.page)) Y (Mem.ze4 h0.wds.fit _);have L:=fun k Y=>zgq k Y
 have hr:t.look s m=(if zal s.p s.c s.m t.page (m.get (s.c+t.page))=true/\pgK s t.page (m.get (s.c+t.page))=3/\t.a%64=0 then {t with word:=m.get (s.c+t.page),pk:=pgK s t.page (m.get (s.c+t.page)),pa:=pgP s t.page (m.get (s.c+t.page)) 0,pb:=pgP s t.page (m.get (s.c+t.page)) 1,next:=1}
   else if zal s.p s.c s.m t.page (m.get (s.c+t.page))=true/\pgK s t.page (m.get (s.c+t.page))=2/\t.a%64%zbj (pgP s t.page (m.get (s.c+t.page)) 0)=0 then {t with word:=m.get (s.c+t.page),pk:=pgK s t.page (m.get (s.c+t.page)),pa:=pgP s t.page (m.get (s.c+t.page)) 0,pb:=pgP s t.page (m.get (s.c+t.page)) 1,next:=1,slot:=t.a%64/zbj (pgP s t.page (m.get (s.c+t.page)) 0)}
   else {t with word:=m.get (s.c+t.page),pk:=pgK s t.page (m.get (s.c+t.page)),pa:=pgP s t.page (m.get (s.c+t.page)) 0,pb:=pgP s t.page (m.get (s.c+t.page)) 1,next:=1,done:=true},m.load t.c (s.c+t.page)):=by
  unfold Fe.look pgK pgP
  dsimp only
  rw[b3]
  by_cases hB:zal s.p s.c s.m t.page (m.get (s.c+t.page))=true<;>simp[hB]
 have n:zal s.p s.c s.m t.page (m.get (s.c+t.page))=true/\pgK s t.page (m.get (s.c+t.page))=2->0<zbj (pgP s t.page (m.get (s.c+t.page)) 0):=fun h=>by have h2:=h.2;unfold pgK at h2;rw[if_pos h.1]at h2;unfold pgP;rw[if_pos h.1];exact(zwy U (zdq h.1 h2).2.2).1
 rw[hr];clear hr ba b3 b7 b6 bj hf;generalize s.c+t.page=b4 at *;generalize m.get b4=x at *;generalize zal s.p s.c s.m t.page x=B at *;generalize pgK s t.page x=D at *;generalize pgP s t.page x 0=S at *;generalize pgP s t.page x 1=e2 at *;replace L:=fun Y=>L S Y;have bb:=znt S;generalize zbj S=z at *;generalize t.a%64=i at *;generalize t.a/64=qu at *;dsimp only;obtain⟨t2,F,b0⟩:∃ t2:Fe,Hid (t2=if B=true/\D=3/\i=0 then {t with word:=x,pk:=D,pa:=S,pb:=e2,next:=1} else if B=true/\D=2/\i%z=0 then {t with word:=x,pk:=D,pa:=S,pb:=e2,next:=1,slot:=i/z} else {t with word:=x,pk:=D,pa:=S,pb:=e2,next:=1,done:=true})/\t2=_:=⟨_,hd' rfl,rfl⟩;rw[<-b0];clear b0;obtain⟨sp,sc,sm⟩:=s;obtain⟨tc,ta,tg,tl,tw,pk,pa,pb,tn,ti,I,o,G⟩:=t;dsimp only at j C N R F ⊢;replace j:=hd' j;replace C:=hd' C;replace N:=hd' N;replace R:=hd' R;replace L:=hd' L;replace n:=hd' n;have lq:=h0.lt;have bc:=h0.cell;go_in;go_upto_region 0 with fail;refine wre ?_;repeat (go_big_quiet_step (((go_at_call 85;exact zam (j.out _)))))
 refine wqn fun X bi=>?_;have hX:=h0.below bi;clear bc lq;go_upto_region 1 with fail;go_cut [5] (fun s5 wx=>s5= .int .i64 i/\At3 q p b w wx (za7 ⟨sp,sc,sm⟩ ⟨tc,ta,tg,tl,x,pk,pa,pb,tn,ti,I,o,G⟩ pv) 216 (m.load tc b4));case first=>
  refine zcx 18 (last:= { dst:=none,op:=Op.store 81 (Operand.tmp 39) (Operand.tmp 37),type:=0,pos:=_,after:=_,guard:=none}) (x:=zbb 60) (ld:=15) (v:= .int .u64 x) (ts:= [23,27,36])
   (K0:=fun Y=>At3 q p b w Y (za7 ⟨sp,sc,sm⟩ ⟨tc,ta,tg,tl,tw,pk,pa,pb,tn,ti,I,o,G⟩ pv) 216 m) (K1:=fun Y=>At3 q p b w Y (za7 ⟨sp,sc,sm⟩ ⟨tc,ta,tg,tl,tw,pk,pa,pb,tn,ti,I,o,G⟩ pv) 216 (m.load tc b4))
   (by kernel_rfl) rfl (by kernel_rfl) (by simp only[List.take,zbb,zfq,zej,nopO,nopC,Nat.reduceBEq,Bool.or_false,Bool.or_true,Bool.false_eq_true,↓reduceIte,Nat.reduceAdd];exact rfl) (by kernel_rfl) (by kernel_rfl) (by kernel_rfl) (by simp[zbb]) (by simp[zbb]) (by simp[zbb]) (by simp[zbb]) (by kernel_rfl) (by simp[zbb]) (by simp[zbb])
   ⟨⟨fun Y Y' h1 h2 h3=>h1.far h2 h3 hX.only.size⟩,⟨fun Y Y' h1 h2 h3=>h1.far h2 h3 hX.only.size⟩⟩ hX.drew ?_
  apply Exists.intro;refine⟨fun B hb hs=>?_,fun h=>(by simp[zbb]at h),fun Q0=>?_,?_⟩;case refine_1=>
   have O:zaa B q (za7 ⟨sp,sc,sm⟩ ⟨tc,ta,tg,tl,tw,pk,pa,pb,tn,ti,I,o,G⟩ pv) 216:=hb.elim (fun h=>h.row) (fun h=>h.row);have lB:=O.lt;have bq:=O.cell;repeat (go_big_quiet_step (((go_at_call 65;exact zam (C.out _)))))
   exact wpQuiet_nil rfl
  case refine_2=>exact zcz rfl (fun _ _=>by simp[go_sem]) fun Y b1 hs=>(N.out Y b1.wds).mono fun r Y' ⟨h1,h2,h3⟩=>⟨h1,b1.load h2 h3,h3.weak fun k hk=>hk ▸ Nat.lt_of_lt_of_le b1.ls.2.1 hX.only.size⟩
  case refine_3=>intro a w4 M hf;obtain⟨rfl,bm,b2,_⟩:=hf;have bs:=b2.cell;have zf:=b2.free;have hB:=b2.set 7 (.int .u64 x);simp only[zbb,vput,List.take,List.size_toArray,List.length_cons,List.length_nil,Nat.reduceAdd,Nat.reduceLT,decide_false,Bool.false_eq_true,if_false];go_wp2;go_meet;exact⟨rfl,hB⟩
 case rest=>
  obtain⟨rfl,hA⟩:=hcut;clear hX N C j;obtain⟨Y,rfl⟩:∃ V:World,V=wc:=⟨_,rfl⟩;have lY:=hA.lt;have bf:=hA.cell;go_upto_region 2 with fail;go_cut [7,8] (fun s7 s8 wx=>∃ E,s7= .pointer (some ⟨E,0,.none⟩)/\s8= .bool B/\Y.heap.size<=E/\zaa wx E #[D,S,e2] 88/\Below Y.heap.size Y wx);case first=>
   refine zkt (x:=⟨16,17,14,7,54,88, #[.int .i64 0,.int .i64 0,.int .i64 0], #[D,S,e2]⟩) (y:=⟨1000,1001,0,98,97,0, #[], #[]⟩) (by kernel_rfl) (by simp only[nopF,nopO,ownB,Nat.reduceBEq,Bool.or_false,Bool.or_true,Bool.false_eq_true,↓reduceIte,Nat.reduceAdd];exact rfl) (by kernel_rfl) (by kernel_rfl) (by kernel_rfl) (by constructor<;>(dsimp only;decide)) (by refine⟨?_,?_,?_,?_⟩<;>(dsimp only;decide)) rfl (by constructor<;>simp) ?_;apply Exists.intro;refine⟨fun B hb=>?_,?_,?_⟩;case refine_1=>
    have O:=hA.row.below hb;have lB:=O.lt;have bu:=O.cell;repeat (go_big_quiet_step (((go_at_call 64;exact zam (R.out _)))))
    exact wpQuiet_nil rfl
   case refine_2=>exact zqa rfl rfl rfl rfl rfl rfl rfl rfl (by dsimp only;decide +kernel) (by dsimp only;decide +kernel)
   case refine_3=>intro a w4 M hf;obtain⟨rfl,hb,bh,hM⟩:=hf;simp only[Act.put,vptr];go_wp2;go_meet;exact⟨_,rfl,rfl,bh,hM,hb⟩
  case rest=>
   obtain⟨E,rfl,rfl,hE,bg,b5⟩:=hcut;have hC:=hA.below b5;clear hA bf R;have bx:E≠q:=fun e=>by rw[e]at hE;omega
   obtain⟨Z,rfl⟩:∃ V:World,V=wc:=⟨_,rfl⟩;clear b5;have bv:=bg.cell;have bw:=hC.cell;have zf:=hC.free;have hD:=(((hC.set 8 (.int .i64 D)).set 9 (.int .i64 S)).set 10 (.int .i64 e2)).set 11 (.int .i64 1);obtain⟨o1,o2⟩:=U;obtain⟨z1,z2⟩:=bb;have l:∀ (h1:¬ (B=true/\D=3/\i=0)) (h2:¬ (B=true/\D=2/\i%z=0)),t2=⟨tc,ta,tg,tl,x,D,S,e2,1,ti,I,o,true⟩:=fun h1 h2=>(F.out.trans (if_neg h1)).trans (if_neg h2);replace l:=hd' l;by_cases J:B=true/\D=3/\i=0
   ·replace F:=hd' (F.out.trans (if_pos J));obtain⟨rfl,rfl,rfl⟩:=J;clear l n;go_wp2_with fail;go_returns;exact⟨rfl,by rw[F.out];exact hD⟩
   by_cases H:B=true/\D=2/\i%z=0
   ·replace F:=hd' ((F.out.trans (if_neg J)).trans (if_pos H));have hz:0<z:=n.out ⟨H.1,H.2.1⟩;have b9:i.tmod z=0:=by rw[Int.tmod_eq_emod_of_nonneg o1];exact H.2.2
    have bp:i.tdiv z=i/z:=Int.tdiv_eq_ediv_of_nonneg o1;have bk:(z==0)=false:=by simp;omega
    have bz:IntKind.i64.wrap (i/z)=i/z:=by have h1:0<=i/z:=Int.ediv_nonneg o1 (by omega);have h2:i/z<=i:=Int.ediv_le_self _ o1;exact IntWalk.i64_in _ ⟨by omega,by omega⟩
    obtain⟨rfl,rfl,b8⟩:=H;clear l n J;replace b8:=hd' b8;go_wp2_with (go_at_call 66;(with_reducible refine(L.out _).mono ?_);rintro r w1 ⟨rfl,rfl⟩);go_returns;exact⟨rfl,by rw[F.out];exact hD.set 6 _⟩
   have T:B=false\/(B=true/\D=3/\(i==0)=false)\/(B=true/\D=2/\(i%z==0)=false/\0<z)\/(B=true/\(D==3)=false/\(D==2)=false):=by
    rcases Bool.eq_false_or_eq_true B with h|h
    ·by_cases h1:D=3
     ·exact .inr (.inl ⟨h,h1,by simpa[h,h1] using J⟩)
     by_cases h2:D=2
     ·exact .inr (.inr (.inl ⟨h,h2,by simpa[h,h2] using H,n.out ⟨h,h2⟩⟩))
     exact .inr (.inr (.inr ⟨h,by simpa using h1,by simpa using h2⟩))
    exact .inl h
   replace l:=hd' (l.out J H);clear J H n F;rcases T with rfl|⟨rfl,rfl,T⟩|⟨rfl,rfl,T,hz⟩|⟨rfl,T,bn⟩
   ·go_wp2_with fail;go_returns;exact⟨rfl,by rw[l.out];exact hD.set 15 _⟩
   ·go_wp2_with fail;go_returns;exact⟨rfl,by rw[l.out];exact hD.set 15 _⟩
   ·have b9:i.tmod z=i%z:=Int.tmod_eq_emod_of_nonneg o1;have bk:(z==0)=false:=by simp;omega
    go_wp2_with (go_at_call 66;(with_reducible refine(L.out _).mono ?_);rintro r w1 ⟨rfl,rfl⟩);go_returns;exact⟨rfl,by rw[l.out];exact hD.set 15 _⟩
   go_wp2_with fail;go_returns;exact⟨rfl,by rw[l.out];exact hD.set 15 _⟩
end Go.Proofs.YtedcnffebdpmmaaGreat
