/- Texts bound together: ResW QLast. -/
import Derived.Test.YtkbddndcegpllaaGreatBt15

set_option linter.all false
set_option maxHeartbeats 1000000
namespace Go.Proofs.YtkbddndcegpllaaGreat

attribute [local go_sem] za1 za3 zg0

section

open Go.RowKit

attribute [local go_sem ↓] Go.wp_at_zero Go.wp_at_succ

def grow (F:Nat->Prop) (w w':World):Nat->Prop:=fun k=> F k\/(w.heap.size<=k/\k < w'.heap.size)
theorem z2p{F G:Nat->Prop}{w w':World}(h:∀ k,F k->G k):∀ k,grow F w w' k->grow G w w' k:=fun k e=>e.imp (h k) id
def SkO (F:Nat->Prop) (w:World) (q:Nat) (s:Sh) (t:Sk):Prop:=F q/\∃ q2,SkAt w q q2 s t/\(t.now≠none->F q2)
def RnO (F:Nat->Prop) (w:World) (q:Nat) (s:Sh) (t:Rn):Prop:=F q/\∃ q2,RnAt w q q2 s t/\(t.strip≠none->F q2)
theorem RnAt.znz{w w':World}{q q2:Nat}{s:Sh}{t:Rn}{G:Nat->Prop}(h:RnAt w q q2 s t)(f:Only G w w')(i:¬ G q)(j:t.strip≠none->¬ G q2):RnAt w' q q2 s t:=
 ⟨h.row.only f i,fun x b=>⟨(h.inn x b).1.only f (j (by rw[b];exact fun e=>by cases e)),(h.inn x b).2⟩⟩
theorem SkAt.znz{w w':World}{q q2:Nat}{s:Sh}{t:Sk}{G:Nat->Prop}(h:SkAt w q q2 s t)(f:Only G w w')(i:¬ G q)(j:t.now≠none->¬ G q2):SkAt w' q q2 s t:=
 ⟨h.row.only f i,fun x b=>⟨(h.inn x b).1.only f (j (by rw[b];exact fun e=>by cases e)),(h.inn x b).2⟩⟩
theorem SkO.only{F G:Nat->Prop}{w w':World}{q:Nat}{s:Sh}{t:Sk}(h:SkO F w q s t)(j:Only G w w')(hd:∀ k,F k->¬ G k):SkO F w' q s t:=by
 obtain⟨b,q2,i,f⟩:=h;exact⟨b,q2,i.znz j (hd q b) (fun e=>hd q2 (f e)),f⟩
theorem RnO.only{F G:Nat->Prop}{w w':World}{q:Nat}{s:Sh}{t:Rn}(h:RnO F w q s t)(j:Only G w w')(hd:∀ k,F k->¬ G k):RnO F w' q s t:=by
 obtain⟨b,q2,i,f⟩:=h;exact⟨b,q2,i.znz j (hd q b) (fun e=>hd q2 (f e)),f⟩
structure zef (F:Nat->Prop) (p b:Nat) (w w':World) (e:Ending) (m:Mem):Prop where
 ret:e= .returned (.tuple #[])
 wds:zaq w' p b m
 only:Only (fun k=> F k\/k=p\/k=b) w w'
theorem z5m{F:Nat->Prop}{q p b:Nat}{s:Sh}{t:Sk}{m:Mem}{w:World}(h:SkO F w q s t)(y:zaq w p b m)(z:¬ F p)(hb:¬ F b)(C:Fits s m)(E:skOk s t)(hs:m.st<1000000000):
  Calls Tryz.prog 255 #[some q,some p] w fun e w'=>zef F p b w w' e (zbv s t m).2/\SkO (grow F w w') w' q s (zbv s t m).1:=by
 obtain⟨i,q2,r,B⟩:=h;have key:∀ now e w',(now=true->F q2)->zez q q2 p b now w w' e s (zbv s t m).1 (zbv s t m).2->zef F p b w w' e (zbv s t m).2/\SkO (grow F w w') w' q s (zbv s t m).1:=fun now e w' D hS=>by
  obtain⟨q3,j,l⟩:=hS.at';refine⟨⟨hS.ret,hS.wds,hS.only.weak fun k n=>?_⟩,.inl i,q3,j,fun o=>?_⟩
  ·rcases n with rfl|⟨e,rfl⟩|n|n
   ·exact .inl i
   ·exact .inl (D e)
   ·exact .inr (.inl n)
   exact .inr (.inr n)
  rcases l with⟨rfl,l⟩|l
  ·cases now
   ·exact absurd (l rfl) o
   exact .inl (D rfl)
  rcases hq:(zbv s t m).1.now with _|x
  ·exact absurd hq o
  exact .inr ⟨l,(j.inn x hq).1.lt⟩
 rcases Bool.eq_false_or_eq_true t.done with hd|hd
 ·rcases hx:t.now with _|x
  ·exact(zns q q2 p b s t m w r y hd false (fun _=>hx)).mono fun e w' hS=>key false e w' (fun e=>by cases e) hS
  exact(zns q q2 p b s t m w r y hd true (fun e=>by cases e)).mono fun e w' hS=>key true e w' (fun _=>B (by rw[hx];exact fun e=>by cases e)) hS
 rcases hx:t.now with _|x
 ·exact(zuy q q2 p b s t m w r hx y (fun e=>z (e ▸ i)) (fun e=>hb (e ▸ i)) C E hs hd).mono fun e w' hS=>key false e w' (fun e=>by cases e) hS
 have j:=B (by rw[hx];exact fun e=>by cases e);exact(zzl q q2 p b s t x m w r hx y ⟨fun e=>z (e ▸ i),fun e=>z (e ▸ j)⟩ ⟨fun e=>hb (e ▸ i),fun e=>hb (e ▸ j)⟩ C E hs hd).mono fun e w' hS=>key true e w' (fun _=>j) hS
theorem z7o{F:Nat->Prop}{q p b:Nat}{s:Sh}{t:Rn}{m:Mem}{w:World}(h:RnO F w q s t)(G:zaq w p b m)(z:¬ F p)(hb:¬ F b)(D:Fits s m)(E:rnOk s t)(hs:m.st<1000000000):
  Calls Tryz.prog 256 #[some q,some p] w fun e w'=>zef F p b w w' e (zcr s t m).2/\RnO (grow F w w') w' q s (zcr s t m).1:=by
 obtain⟨o,q2,C,r⟩:=h;refine(zyl q q2 p b s t m w C G (fun e=>z (e ▸ o)) (fun e=>hb (e ▸ o)) (fun l=>⟨fun e=>z (e ▸ r l),fun e=>hb (e ▸ r l)⟩) D E hs).mono fun e w' hS=>?_;have l:t.strip.isSome=true->F q2:=fun e=>r (fun B=>by rw[B]at e;cases e);obtain⟨q3,y,i⟩:=hS.at';refine⟨⟨hS.ret,hS.wds,hS.only.weak fun k j=>?_⟩,.inl o,q3,y,fun n=>?_⟩
 ·rcases j with rfl|⟨e,rfl⟩|j|j
  ·exact .inl o
  ·exact .inl (l e)
  ·exact .inr (.inl j)
  exact .inr (.inr j)
 rcases i with⟨rfl,i⟩|i
 ·cases hi:t.strip.isSome
  ·exact absurd (i hi) n
  exact .inl (l hi)
 rcases hq:(zcr s t m).1.strip with _|x
 ·exact absurd hq n
 exact .inr ⟨i,(y.inn x hq).1.lt⟩
def ptrV {α:Type} (o:Option α) (q:Nat):Value:=match o with
 | none=> .pointer none
 | some _=> .pointer (some ⟨q,0,.none⟩)
def zjd (t:Rs) (v1 v2:Value):Array Value:= #[t.k,t.pages,v1,v2]
attribute [local go_sem] zjd

def RsO (F:Nat->Prop) (w:World) (q:Nat) (s:Sh) (t:Rs):Prop:=
 F q/\∃ q1 G,(∀ k,G k->F k/\k≠q)/\zaa w q (zjd t (ptrV t.seeker q1) (ptrV t.runner q1)) 272/\(t.seeker=none\/t.runner=none)/\(∀ x,t.seeker=some x->SkO G w q1 s x)/\(∀ x,t.runner=some x->RnO G w q1 s x)
theorem RsO.only{F G:Nat->Prop}{w w':World}{q:Nat}{s:Sh}{t:Rs}(h:RsO F w q s t)(i:Only G w w')(hd:∀ k,F k->¬ G k):RsO F w' q s t:=by
 obtain⟨l,q1,H,b,m,n,o,p⟩:=h;exact⟨l,q1,H,b,m.only i (hd q l),n,fun x j=>(o x j).only i (fun k f=>hd k (b k f).1),fun x j=>(p x j).only i (fun k f=>hd k (b k f).1)⟩
theorem RsO.weak{F G:Nat->Prop}{w:World}{q:Nat}{s:Sh}{t:Rs}(h:RsO F w q s t)(f:∀ k,F k->G k):RsO G w q s t:=by
 obtain⟨j,q1,H,b,h⟩:=h;exact⟨f q j,q1,H,fun k i=>⟨f k (b k i).1,(b k i).2⟩,h⟩
theorem zpx(t:Rs)(h:t.seeker=none\/t.runner=none):(∃ x,t.seeker=some x/\t.runner=none)\/(∃ x,t.seeker=none/\t.runner=some x)\/(t.seeker=none/\t.runner=none):=by
 rcases h1:t.seeker with _|x<;>rcases h2:t.runner with _|y
 ·exact .inr (.inr ⟨rfl,rfl⟩)
 ·exact .inr (.inl ⟨y,rfl,rfl⟩)
 ·exact .inl ⟨x,rfl,rfl⟩
 rcases h with h|h
 ·rw[h1]at h;cases h
 rw[h2]at h;cases h
theorem zil{F:Nat->Prop}{q:Nat}{s:Sh}{t:Rs}{w:World}(h:RsO F w q s t):
  Calls Tryz.prog 192 #[some q] w fun e w'=>e= .returned (.bool t.done)/\w'=w:=by
 obtain⟨B,q1,H,C,m,p,y,z⟩:=h;have c2:=ce (ptrV t.seeker q1) (m.cell 2);have c3:=ce (ptrV t.runner q1) (m.cell 3);rcases zpx t p with⟨x,b,i⟩|⟨x,b,i⟩|⟨b,i⟩
 ·obtain⟨_,q2,o,_⟩:=y x b;have hd:=hd' (zzq q1 _ x.done w o.row rfl);have j:t.done=x.done:=by unfold Rs.done;rw[b]
  rw[j];rw[b]at c2;replace c2:w.cell? ⟨q,2,.none⟩=some (.pointer (some ⟨q1,0,.none⟩)):=c2;clear B C m p y z c3 j b i o;go_in;go_wp2_with (go_at_call 205;(with_reducible refine hd.out.mono ?_);rintro r D ⟨rfl,l⟩;obtain rfl:=l.symm);go_returns;exact⟨rfl,rfl⟩
 ·obtain⟨_,q2,n,_⟩:=z x i;have hd:=hd' (zy1 q1 _ x.done w n.row rfl);have j:t.done=x.done:=by unfold Rs.done;rw[b,i]
  rw[j];rw[b]at c2;rw[i]at c3;replace c2:w.cell? ⟨q,2,.none⟩=some (.pointer none):=c2;replace c3:w.cell? ⟨q,3,.none⟩=some (.pointer (some ⟨q1,0,.none⟩)):=c3;clear B C m p y z j b i n;go_in;go_wp2_with (go_at_call 206;(with_reducible refine hd.out.mono ?_);rintro r D ⟨rfl,l⟩;obtain rfl:=l.symm);go_returns;exact⟨rfl,rfl⟩
 have j:t.done=true:=by unfold Rs.done;rw[b,i]
 rw[j];rw[b]at c2;rw[i]at c3;replace c2:w.cell? ⟨q,2,.none⟩=some (.pointer none):=c2;replace c3:w.cell? ⟨q,3,.none⟩=some (.pointer none):=c3;clear B C m p y z j b i;go_in;go_wp2_with fail;go_returns;exact⟨rfl,rfl⟩
theorem zo5{F:Nat->Prop}{q p b:Nat}{s:Sh}{t:Rs}{m:Mem}{w:World}(h:RsO F w q s t)(T:zaq w p b m)(hp:¬ F p)(hb:¬ F b)(Y:Fits s m)(ho:(∀ x,t.seeker=some x->skOk s x)/\(∀ x,t.runner=some x->rnOk s x))(hs:m.st<1000000000):
  Calls Tryz.prog 253 #[some q,some p] w fun e w'=>zef F p b w w' e (zb0 s t m).2/\RsO (grow F w w') w' q s (zb0 s t m).1:=by
 obtain⟨O,q1,H,E,M,U,V,X⟩:=h;have c2:=ce (ptrV t.seeker q1) (M.cell 2);have c3:=ce (ptrV t.runner q1) (M.cell 3);have J:¬ H p:=fun e=>hp (E p e).1;have I:¬ H b:=fun e=>hb (E b e).1;have D:q≠p:=fun e=>hp (e ▸ O);have C:q≠b:=fun e=>hb (e ▸ O);have b2:=M.lt;have B:∀ k,H k->k≠q:=fun k N=>(E k N).2;have G:∀ w' k,grow H w w' k->grow F w w' k/\k≠q:=fun w' k N=>⟨z2p (fun k e=>(E k e).1) k N,by rcases N with e|e;exact(E k e).2;omega⟩;rcases zpx t U with⟨x,i,l⟩|⟨x,i,l⟩|⟨i,l⟩
 ·have o:=z5m (V x i) T J I Y (ho.1 x i) hs;have S:zb0 s t m=({t with seeker:=some (zbv s x m).1},(zbv s x m).2):=by unfold zb0;rw[i]
  rw[S];dsimp only;have j:Hid (∀ e w',zef H p b w w' e (zbv s x m).2/\SkO (grow H w w') w' q1 s (zbv s x m).1->zef F p b w w' (.returned (.tuple #[])) (zbv s x m).2/\RsO (grow F w w') w' q s {t with seeker:=some (zbv s x m).1}):=hd' fun e w' hS=>by
   refine⟨⟨rfl,hS.1.wds,hS.1.only.weak fun k N=>N.imp (fun e=>(E k e).1) id⟩,.inl O,q1,grow H w w',G w',?_,.inr l,fun z y=>?_,fun z y=>?_⟩
   ·have R:=M.only hS.1.only (by rintro(e|e|e);exact B q e rfl;exact D e;exact C e);rw[i]at R;exact R
   ·simp only[Option.some.injEq]at y;subst y;exact hS.2
   have y:t.runner=some z:=y;rw[l]at y;cases y
  rw[i]at c2;rw[l]at c3;replace c2:w.cell? ⟨q,2,.none⟩=some (.pointer (some ⟨q1,0,.none⟩)):=c2;replace c3:w.cell? ⟨q,3,.none⟩=some (.pointer none):=c3;have Z:Hid (∀ e w',zef H p b w w' e (zbv s x m).2->w'.cell? ⟨q,3,.none⟩=some (.pointer none)):=hd' fun e w' hS=>by have R:=M.only hS.only (by rintro(e|e|e);exact B q e rfl;exact D e;exact C e);rw[i,l]at R;exact R.cell 3
  have n:=hd' (fun w=>zpd p w);replace o:=hd' o;clear S O E M U V X J I D C B G i l T hp hb Y ho hs;go_in;go_wp2_with (first|(go_at_call 255;(with_reducible refine o.out.mono ?_);rintro r w1 hS;obtain rfl:=hS.1.ret;have b1:=Z.out _ _ hS.1)|(go_at_call 256;(with_reducible refine(n.out _).mono ?_);rintro r w2 ⟨rfl,L⟩;obtain rfl:=L.symm));go_returns;exact j.out _ _ hS
 ·have n:=z7o (X x l) T J I Y (ho.2 x l) hs;have S:zb0 s t m=({t with runner:=some (zcr s x m).1},(zcr s x m).2):=by unfold zb0;rw[i,l]
  rw[S];dsimp only;have j:Hid (∀ e w',zef H p b w w' e (zcr s x m).2/\RnO (grow H w w') w' q1 s (zcr s x m).1->zef F p b w w' (.returned (.tuple #[])) (zcr s x m).2/\RsO (grow F w w') w' q s {t with runner:=some (zcr s x m).1}):=hd' fun e w' hS=>by
   refine⟨⟨rfl,hS.1.wds,hS.1.only.weak fun k N=>N.imp (fun e=>(E k e).1) id⟩,.inl O,q1,grow H w w',G w',?_,.inl i,fun z y=>?_,fun z y=>?_⟩
   ·have R:=M.only hS.1.only (by rintro(e|e|e);exact B q e rfl;exact D e;exact C e);rw[l]at R;exact R
   ·have y:t.seeker=some z:=y;rw[i]at y;cases y
   simp only[Option.some.injEq]at y;subst y;exact hS.2
  rw[i]at c2;rw[l]at c3;replace c2:w.cell? ⟨q,2,.none⟩=some (.pointer none):=c2;replace c3:w.cell? ⟨q,3,.none⟩=some (.pointer (some ⟨q1,0,.none⟩)):=c3;have o:=hd' (fun w=>zos p w);replace n:=hd' n;clear S O E M U V X J I D C B G i l T hp hb Y ho hs;go_in;go_wp2_with (first|(go_at_call 255;(with_reducible refine(o.out _).mono ?_);rintro r w2 ⟨rfl,L⟩;obtain rfl:=L.symm)|(go_at_call 256;(with_reducible refine n.out.mono ?_);rintro r w1 hS;obtain rfl:=hS.1.ret));go_returns;exact j.out _ _ hS
 have S:zb0 s t m=(t,m):=by unfold zb0;rw[i,l]
 rw[S];dsimp only;have j:Hid (zef F p b w w (.returned (.tuple #[])) m/\RsO (grow F w w) w q s t):=hd' ⟨⟨rfl,T,Only.refl _ _⟩,RsO.weak ⟨O,q1,H,E,M,U,V,X⟩ fun k N=>.inl N⟩;rw[i]at c2;rw[l]at c3;replace c2:w.cell? ⟨q,2,.none⟩=some (.pointer none):=c2;replace c3:w.cell? ⟨q,3,.none⟩=some (.pointer none):=c3;have o:=hd' (fun w=>zos p w);have n:=hd' (fun w=>zpd p w);clear S O E M U V X J I D C B G i l T hp hb Y ho hs;go_in;go_wp2_with (first|(go_at_call 255;(with_reducible refine(o.out _).mono ?_);rintro r w1 ⟨rfl,b0⟩;obtain rfl:=b0.symm)|(go_at_call 256;(with_reducible refine(n.out _).mono ?_);rintro r w2 ⟨rfl,L⟩;obtain rfl:=L.symm));go_returns;exact j.out
def zww (w w':World) (e:Ending) (s:Sh) (t:Rs):Prop:=∃ q,e= .returned (.pointer (some ⟨q,0,.none⟩))/\RsO (fun k=> w.heap.size<=k/\k < w'.heap.size) w' q s t/\Below w.heap.size w w'
theorem ztd(s:Sh)(c n f:Int)(w:World):
  Calls Tryz.prog 149 #[.agg #[s.p,s.c,s.m],c,n,f] w fun e w'=>zww w w' e s (zdh s c n f):=by
 have b:=fun W=>zmu n W;have j:=fun W=>zur n W;have D:=fun W=>z1m s c (zcn n) f W;have C:=fun W=>z07 s c (runV n) W;obtain⟨R,X,I⟩:=hidv (zdh s c n f);rw[<-I];clear I;have B:=(Below.refl w.heap.size w).alloc lr (.cells #[s.p,s.c,s.m] 23);have t0:=heap_alloc_new w (.cells #[s.p,s.c,s.m] 23);have J:(wi n 1 32=true/\R=⟨zcn n,0,some (zhb s c (zcn n) f),none⟩)\/(wi n 1 32=false/\wi n 33 512=true/\R=⟨0,runV n,none,some (zf8 s c (runV n))⟩)\/(wi n 1 32=false/\wi n 33 512=false/\R=⟨0,0,none,none⟩):=by
  rw[X.out];unfold zdh;cases G:wi n 1 32
  ·cases H:wi n 33 512
   ·exact .inr (.inr ⟨rfl,rfl,rfl⟩)
   exact .inr (.inl ⟨rfl,rfl,rfl⟩)
  exact .inl ⟨rfl,rfl⟩
 clear X;generalize hx:zhb s c (zcn n) f=x at *;generalize hy:zf8 s c (runV n)=y at *;have E:y.strip=none:=by rw[<-hy];rfl
 generalize zcn n=k at *;generalize runV n=pg at *;clear hx hy;rcases J with⟨G,H⟩|⟨G,H,S⟩|⟨G,H,S⟩
 ·rw[G]at b;clear G j C E;have i:Hid (∀ W Y e,Below w.heap.size w W->z02 W Y e s x->∀ q1,e= .returned (.pointer (some ⟨q1,0,.none⟩))->zww w (Y.alloc (.cells (zjd ⟨k,0,some x,none⟩ (.pointer (some ⟨q1,0,.none⟩)) (.pointer none)) 272)) (.returned (.pointer (some ⟨Y.heap.size,0,.none⟩))) s R):=hd' fun W Y e hb hS q1 o=>by
   obtain⟨⟨q,q2,e3,h4,M,h6⟩,T⟩:=hS;rw[e3]at o;obtain rfl:q=q1:=by injection o with o;injection o with o;injection o with o;injection o
   have V:=hb.size;have b0:=T.size;have l:(Y.alloc (.cells (zjd ⟨k,0,some x,none⟩ (.pointer (some ⟨q,0,.none⟩)) (.pointer none)) 272)).heap.size=Y.heap.size+1:=by simp
   have F:=zab hb T;rw[H];refine⟨Y.heap.size,rfl,⟨⟨by omega,by omega⟩,q,fun k=>w.heap.size<=k/\k<Y.heap.size,fun k U=>⟨⟨U.1,by omega⟩,by omega⟩,heap_alloc_new _ _,.inr rfl,fun z l=>?_,fun z l=>(by cases l)⟩,F.trans (br.alloc F.size _)⟩;simp only[Option.some.injEq]at l;subst l;have L:=M.row.lt;refine⟨⟨by omega,L⟩,q2,M.below (br.alloc lr _),fun Z=>?_⟩;rcases hq:x.now with _|u
   ·exact absurd hq Z
   have:=(M.inn u hq).1.lt;exact⟨by have:=h6 Z;omega,this⟩
  clear H;obtain⟨sp,N,O⟩:=s;dsimp only at D B t0 ⊢;replace b:=hd' b;replace D:=hd' D;go_in;go_upto_region 1 with fail;generalize w.alloc (.cells #[sp,N,O] 23)=W at *;have b1:=zac t0;clear t0;go_wp2_with (first|(go_at_call 123;(with_reducible refine(b.out _).mono ?_);rintro r w1 ⟨rfl,rfl⟩)|(go_at_call 172;(with_reducible refine(D.out _).mono ?_);rintro r w2 hS;obtain⟨q1,q2,rfl,_⟩:=id hS.at'));go_returns;exact i.out _ _ _ B hS _ rfl
 ·rw[G]at b;rw[H]at j;clear G H D;have i:Hid (∀ W Y e,Below w.heap.size w W->Born W Y e (za3 s y (.pointer none)) 297->∀ q1,e= .returned (.pointer (some ⟨q1,0,.none⟩))->zww w (Y.alloc (.cells (zjd ⟨0,pg,none,some y⟩ (.pointer none) (.pointer (some ⟨q1,0,.none⟩))) 272)) (.returned (.pointer (some ⟨Y.heap.size,0,.none⟩))) s R):=hd' fun W Y e hb hS q1 o=>by
   obtain⟨q,e3,h4,M,T⟩:=hS;rw[e3]at o;obtain rfl:q=q1:=by injection o with o;injection o with o;injection o with o;injection o
   have V:=hb.size;have b0:=T.size;have l:(Y.alloc (.cells (zjd ⟨0,pg,none,some y⟩ (.pointer none) (.pointer (some ⟨q,0,.none⟩))) 272)).heap.size=Y.heap.size+1:=by simp
   have F:=zab hb T;rw[S];refine⟨Y.heap.size,rfl,⟨⟨by omega,by omega⟩,q,fun k=>w.heap.size<=k/\k<Y.heap.size,fun k U=>⟨⟨U.1,by omega⟩,by omega⟩,heap_alloc_new _ _,.inl rfl,fun z l=>(by cases l),fun z l=>?_⟩,F.trans (br.alloc F.size _)⟩;simp only[Option.some.injEq]at l;subst l;have L:=M.lt;refine⟨⟨by omega,L⟩,0,⟨by rw[E];exact M.below (br.alloc lr _),fun z l=>by rw[E]at l;cases l⟩,fun Z=>absurd E Z⟩
  clear S E;obtain⟨sp,N,O⟩:=s;dsimp only at C B t0 i ⊢;generalize za3 ⟨sp,N,O⟩ y (.pointer none)=b3 at *;replace b:=hd' b;replace j:=hd' j;replace C:=hd' C;go_in;go_upto_region 1 with fail;generalize w.alloc (.cells #[sp,N,O] 23)=W at *;have b2:=zac t0;clear t0;go_wp2_with (first|(go_at_call 123;(with_reducible refine(b.out _).mono ?_);rintro r w1 ⟨rfl,rfl⟩)|(go_at_call 73;(with_reducible refine(j.out _).mono ?_);rintro r w1 ⟨rfl,rfl⟩)|(go_at_call 173;(with_reducible refine(C.out _).mono ?_);rintro r w2 hS;obtain⟨q1,rfl,_⟩:=id hS));go_returns;exact i.out _ _ _ B hS _ rfl
 rw[G]at b;rw[H]at j;clear G H D C E;have i:Hid (∀ Y,Below w.heap.size w Y->zww w (Y.alloc (.cells (zjd ⟨0,0,none,none⟩ (.pointer none) (.pointer none)) 272)) (.returned (.pointer (some ⟨Y.heap.size,0,.none⟩))) s R):=hd' fun Y hb=>by
  have V:=hb.size;have l:(Y.alloc (.cells (zjd ⟨0,0,none,none⟩ (.pointer none) (.pointer none)) 272)).heap.size=Y.heap.size+1:=by simp
  rw[S];exact⟨Y.heap.size,rfl,⟨⟨by omega,by omega⟩,0,fun k=>False,fun k U=>U.elim,heap_alloc_new _ _,.inl rfl,fun z l=>(by cases l),fun z l=>(by cases l)⟩,hb.trans (br.alloc hb.size _)⟩
 clear S;obtain⟨sp,N,O⟩:=s;dsimp only at B t0 i ⊢;replace b:=hd' b;replace j:=hd' j;go_in;go_upto_region 1 with fail;generalize w.alloc (.cells #[sp,N,O] 23)=W at *;clear t0;go_wp2_with (first|(go_at_call 123;(with_reducible refine(b.out _).mono ?_);rintro r w1 ⟨rfl,rfl⟩)|(go_at_call 73;(with_reducible refine(j.out _).mono ?_);rintro r w1 ⟨rfl,rfl⟩));go_returns;exact i.out _ B
def gotV (o:Option Blk):Value:= .tuple #[.agg (zg0 (o.getD Blk.zero)),o.isSome]
theorem zei{F:Nat->Prop}{q:Nat}{s:Sh}{t:Rs}{w:World}(h:RsO F w q s t):
  Calls Tryz.prog 189 #[some q] w fun e w'=>e= .returned (gotV t.got)/\Below w.heap.size w w':=by
 obtain⟨h1,q1,H,h2,V,h4,h5,h6⟩:=h;have c0:=ci t.k (V.cell 0);have c1:=ci t.pages (V.cell 1);have c2:=ce (ptrV t.seeker q1) (V.cell 2);have c3:=ce (ptrV t.runner q1) (V.cell 3);have b4:=V.lt;have j:Hid (∀ X,Below w.heap.size w X->X.cell? ⟨q,0,.none⟩=some (.int .i64 t.k)/\X.cell? ⟨q,1,.none⟩=some (.int .i64 t.pages)/\X.cell? ⟨q,3,.none⟩=some (ptrV t.runner q1)):=hd' fun X M=>⟨zai M _ _ _ c0,zai M _ _ _ c1,zai M _ _ _ c3⟩;clear c0 c1 b4;have o:=(Below.refl w.heap.size w).alloc lr (.cells #[.bool false,.int .i64 0,.int .i64 0,.int .i64 0,.int .i64 0] 264);have y:zaa (w.alloc (.cells #[.bool false,.int .i64 0,.int .i64 0,.int .i64 0,.int .i64 0] 264)) w.heap.size #[.bool false,.int .i64 0,.int .i64 0,.int .i64 0,.int .i64 0] 264:=heap_alloc_new _ _;have S:=y.lt;have T:q≠w.heap.size:=by have:=V.lt;omega
 have Z:=zai o _ _ _ c2;have k3:=zai o _ _ _ c3;clear c2 c3;rcases zpx t h4 with⟨x,I,L⟩|⟨x,I,L⟩|⟨I,L⟩
 ·obtain⟨_,q2,b1,_⟩:=h5 x I;have C:=hd' (fun X (M:zaa X q1 (za1 s x (nowV x.now q2)) 292)=>zt7 q1 s x (nowV x.now q2) X M);have J:Hid (∀ X,Below w.heap.size w X->zaa X q1 (za1 s x (nowV x.now q2)) 292):=hd' fun X M=>b1.row.below M;have D:t.got=if x.found=true then some ⟨false,x.page,x.slot,t.k,0⟩ else none:=by unfold Rs.got;rw[I]
  rw[I]at Z;rw[L]at k3 j;replace Z:_=some (Value.pointer (some ⟨q1,0,.none⟩)):=Z;replace k3:_=some (Value.pointer none):=k3;have b3:Hid (∀ X,Below w.heap.size w X->X.cell? ⟨q,0,.none⟩=some (.int .i64 t.k)/\X.cell? ⟨q,3,.none⟩=some (.pointer none)):=hd' fun X M=>⟨(j.out X M).1,(j.out X M).2.2⟩;have B:=hd' (fun w=>znf w);clear h1 h2 V h4 h5 h6 b1 I L j;obtain⟨g,hg,z⟩:=hidv t.got;rw[<-z];replace D:=hd' (z.trans D);clear hg z;rcases Bool.eq_false_or_eq_true x.found with R|R
  ·replace D:=hd' (D.out.trans (if_pos R));rw[R]at C;simp only[zgd,if_true]at C;generalize x.page=a at *;generalize x.slot=c at *;generalize t.k=k at *;generalize za1 s x (nowV x.now q2)=b2 at *;go_in;go_upto_region 1 with fail;generalize w.alloc (.cells #[.bool false,.int .i64 0,.int .i64 0,.int .i64 0,.int .i64 0] 264)=X at *;obtain⟨E,Y,i⟩:=hidv w.heap.size;simp only[<-i]at y S T ⊢;have b:w.heap.size<=E:=by omega
   clear i;go_wp2_with (first|(go_at_call 203;(with_reducible refine(C.out _ (J.out _ o)).mono ?_);rintro r w1 ⟨rfl,N⟩;have O:=o.trans (N.mono o.size);have n:=y.below N;obtain⟨z0,z3⟩:=b3.out _ O;have b6:=n.cell;have I:=ci 0 (n.cell 1);have L:=ci 0 (n.cell 2);have b7:=n.cell;have ef:=zax n)|(go_at_call 204;(with_reducible refine(B.out _).mono ?_);rintro r w2 ⟨rfl,l⟩;obtain rfl:=l.symm));have m:zaa (((((w1.setCell ⟨E,0,.none⟩ (.bool false)).setCell ⟨E,1,.none⟩ (.int .i64 a)).setCell ⟨E,2,.none⟩ (.int .i64 c)).setCell ⟨E,3,.none⟩ (.int .i64 k)).setCell ⟨E,4,.none⟩ (.int .i64 0)) E #[.bool false,a,c,k,.int .i64 0] 264:=(((((n.set 0 (.bool false)).set 1 (.int .i64 a)).set 2 (.int .i64 c)).set 3 (.int .i64 k)).set 4 (.int .i64 0));have G:Below w.heap.size w (((((w1.setCell ⟨E,0,.none⟩ (.bool false)).setCell ⟨E,1,.none⟩ (.int .i64 a)).setCell ⟨E,2,.none⟩ (.int .i64 c)).setCell ⟨E,3,.none⟩ (.int .i64 k)).setCell ⟨E,4,.none⟩ (.int .i64 0)):=(((((O.setCell (p:=⟨E,0,.none⟩) b (.bool false)).setCell (p:=⟨E,1,.none⟩) b (.int .i64 a)).setCell (p:=⟨E,2,.none⟩) b (.int .i64 c)).setCell (p:=⟨E,3,.none⟩) b (.int .i64 k)).setCell (p:=⟨E,4,.none⟩) b (.int .i64 0));generalize ((((w1.setCell ⟨E,0,.none⟩ (.bool false)).setCell ⟨E,1,.none⟩ (.int .i64 a)).setCell ⟨E,2,.none⟩ (.int .i64 c)).setCell ⟨E,3,.none⟩ (.int .i64 k)).setCell ⟨E,4,.none⟩ (.int .i64 0)=U at *;have r0:=ce (.bool false) (m.cell 0);have r1:=ci a (m.cell 1);have r2:=ci c (m.cell 2);have r3:=ci k (m.cell 3);have r4:=ci 0 (m.cell 4);exact bodyPost_ret (v:= .tuple #[.agg #[.bool false,a,c,k,.int .i64 0],.bool true]) (by simp[results,Tryz.results189,go_sem,r0,r1,r2,r3,r4]) rfl ⟨by rw[D.out];rfl,G⟩
  replace D:=hd' (D.out.trans (if_neg (by rw[R];decide)));rw[R]at C;simp only[zgd,Bool.false_eq_true,if_false]at C;generalize za1 s x (nowV x.now q2)=b2 at *;go_in;go_upto_region 1 with fail;generalize w.alloc (.cells #[.bool false,.int .i64 0,.int .i64 0,.int .i64 0,.int .i64 0] 264)=X at *;obtain⟨E,Y,i⟩:=hidv w.heap.size;simp only[<-i]at y S T ⊢;have b:w.heap.size<=E:=by omega
  clear i;go_wp2_with (first|(go_at_call 203;(with_reducible refine(C.out _ (J.out _ o)).mono ?_);rintro r w1 ⟨rfl,N⟩;have O:=o.trans (N.mono o.size);have n:=y.below N;obtain⟨z0,z3⟩:=b3.out _ O;have b8:=n.cell;have I:=ci 0 (n.cell 1);have L:=ci 0 (n.cell 2);have b9:=n.cell;have ef:=zax n)|(go_at_call 204;(with_reducible refine(B.out _).mono ?_);rintro r w2 ⟨rfl,l⟩;obtain rfl:=l.symm));have m:zaa (((((w1.setCell ⟨E,0,.none⟩ (.bool false)).setCell ⟨E,1,.none⟩ (.int .i64 0)).setCell ⟨E,2,.none⟩ (.int .i64 0)).setCell ⟨E,3,.none⟩ (.int .i64 0)).setCell ⟨E,4,.none⟩ (.int .i64 0)) E #[.bool false,.int .i64 0,.int .i64 0,.int .i64 0,.int .i64 0] 264:=(((((n.set 0 (.bool false)).set 1 (.int .i64 0)).set 2 (.int .i64 0)).set 3 (.int .i64 0)).set 4 (.int .i64 0));have G:Below w.heap.size w (((((w1.setCell ⟨E,0,.none⟩ (.bool false)).setCell ⟨E,1,.none⟩ (.int .i64 0)).setCell ⟨E,2,.none⟩ (.int .i64 0)).setCell ⟨E,3,.none⟩ (.int .i64 0)).setCell ⟨E,4,.none⟩ (.int .i64 0)):=(((((O.setCell (p:=⟨E,0,.none⟩) b (.bool false)).setCell (p:=⟨E,1,.none⟩) b (.int .i64 0)).setCell (p:=⟨E,2,.none⟩) b (.int .i64 0)).setCell (p:=⟨E,3,.none⟩) b (.int .i64 0)).setCell (p:=⟨E,4,.none⟩) b (.int .i64 0));generalize ((((w1.setCell ⟨E,0,.none⟩ (.bool false)).setCell ⟨E,1,.none⟩ (.int .i64 0)).setCell ⟨E,2,.none⟩ (.int .i64 0)).setCell ⟨E,3,.none⟩ (.int .i64 0)).setCell ⟨E,4,.none⟩ (.int .i64 0)=U at *;have r0:=ce (.bool false) (m.cell 0);have r1:=ci 0 (m.cell 1);have r2:=ci 0 (m.cell 2);have r3:=ci 0 (m.cell 3);have r4:=ci 0 (m.cell 4);exact bodyPost_ret (v:= .tuple #[.agg #[.bool false,.int .i64 0,.int .i64 0,.int .i64 0,.int .i64 0],.bool false]) (by simp[results,Tryz.results189,go_sem,r0,r1,r2,r3,r4]) rfl ⟨by rw[D.out];rfl,G⟩
 ·obtain⟨_,q2,b0,_⟩:=h6 x L;have B:=hd' (fun X (M:zaa X q1 (za3 s x (zbz x.strip q2)) 297)=>zvi q1 s x (zbz x.strip q2) X M);have J:=b0.row.below o;have D:t.got=if x.found=true then some ⟨true,x.head,0,0,t.pages⟩ else none:=by unfold Rs.got;rw[I,L]
  rw[I]at Z;rw[L]at k3;replace Z:_=some (Value.pointer none):=Z;replace k3:_=some (Value.pointer (some ⟨q1,0,.none⟩)):=k3;have k1:=(j.out _ o).2.1;have C:Hid (∀ W:World,Calls Tryz.prog 203 #[.pointer none] W fun e w'=>e= .returned (.tuple #[.int .i64 0,.int .i64 0,.bool false])/\w'=W):=hd' (fun W=>zmh W);clear h1 h2 V h4 h5 h6 b0 I L j;obtain⟨g,hg,z⟩:=hidv t.got;rw[<-z];replace D:=hd' (z.trans D);clear hg z;rcases Bool.eq_false_or_eq_true x.found with R|R
  ·replace D:=hd' (D.out.trans (if_pos R));rw[R]at B;simp only[if_true]at B;generalize x.head=a at *;generalize t.pages=pg at *;generalize za3 s x (zbz x.strip q2)=b2 at *;go_in;go_upto_region 1 with fail;generalize w.alloc (.cells #[.bool false,.int .i64 0,.int .i64 0,.int .i64 0,.int .i64 0] 264)=X at *;obtain⟨E,Y,i⟩:=hidv w.heap.size;simp only[<-i]at y S T ⊢;have b:w.heap.size<=E:=by omega
   clear i;have ba:=y.cell;have I:=ci 0 (y.cell 1);have L:=ci 0 (y.cell 2);have bb:=y.cell;have ef:=zax y;go_wp2_with (first|(go_at_call 203;(with_reducible refine(C.out _).mono ?_);rintro r w2 ⟨rfl,l⟩;obtain rfl:=l.symm)|(go_at_call 204;(with_reducible refine(B.out _ J).mono ?_);rintro r w2 ⟨rfl,l⟩;obtain rfl:=l.symm));have m:zaa (((((X.setCell ⟨E,0,.none⟩ (.bool true)).setCell ⟨E,1,.none⟩ (.int .i64 a)).setCell ⟨E,2,.none⟩ (.int .i64 0)).setCell ⟨E,3,.none⟩ (.int .i64 0)).setCell ⟨E,4,.none⟩ (.int .i64 pg)) E #[.bool true,a,.int .i64 0,.int .i64 0,pg] 264:=(((((y.set 0 (.bool true)).set 1 (.int .i64 a)).set 2 (.int .i64 0)).set 3 (.int .i64 0)).set 4 (.int .i64 pg));have G:Below w.heap.size w (((((X.setCell ⟨E,0,.none⟩ (.bool true)).setCell ⟨E,1,.none⟩ (.int .i64 a)).setCell ⟨E,2,.none⟩ (.int .i64 0)).setCell ⟨E,3,.none⟩ (.int .i64 0)).setCell ⟨E,4,.none⟩ (.int .i64 pg)):=(((((o.setCell (p:=⟨E,0,.none⟩) b (.bool true)).setCell (p:=⟨E,1,.none⟩) b (.int .i64 a)).setCell (p:=⟨E,2,.none⟩) b (.int .i64 0)).setCell (p:=⟨E,3,.none⟩) b (.int .i64 0)).setCell (p:=⟨E,4,.none⟩) b (.int .i64 pg));generalize ((((X.setCell ⟨E,0,.none⟩ (.bool true)).setCell ⟨E,1,.none⟩ (.int .i64 a)).setCell ⟨E,2,.none⟩ (.int .i64 0)).setCell ⟨E,3,.none⟩ (.int .i64 0)).setCell ⟨E,4,.none⟩ (.int .i64 pg)=U at *;have r0:=ce (.bool true) (m.cell 0);have r1:=ci a (m.cell 1);have r2:=ci 0 (m.cell 2);have r3:=ci 0 (m.cell 3);have r4:=ci pg (m.cell 4);exact bodyPost_ret (v:= .tuple #[.agg #[.bool true,a,.int .i64 0,.int .i64 0,pg],.bool true]) (by simp[results,Tryz.results189,go_sem,r0,r1,r2,r3,r4]) rfl ⟨by rw[D.out];rfl,G⟩
  replace D:=hd' (D.out.trans (if_neg (by rw[R];decide)));rw[R]at B;simp only[Bool.false_eq_true,if_false]at B;generalize za3 s x (zbz x.strip q2)=b2 at *;go_in;go_upto_region 1 with fail;generalize w.alloc (.cells #[.bool false,.int .i64 0,.int .i64 0,.int .i64 0,.int .i64 0] 264)=X at *;obtain⟨E,Y,i⟩:=hidv w.heap.size;simp only[<-i]at y S T ⊢;have b:w.heap.size<=E:=by omega
  clear i;have bc:=y.cell;have I:=ci 0 (y.cell 1);have L:=ci 0 (y.cell 2);have bf:=y.cell;have ef:=zax y;go_wp2_with (first|(go_at_call 203;(with_reducible refine(C.out _).mono ?_);rintro r w2 ⟨rfl,l⟩;obtain rfl:=l.symm)|(go_at_call 204;(with_reducible refine(B.out _ J).mono ?_);rintro r w2 ⟨rfl,l⟩;obtain rfl:=l.symm));have m:zaa (((((X.setCell ⟨E,0,.none⟩ (.bool false)).setCell ⟨E,1,.none⟩ (.int .i64 0)).setCell ⟨E,2,.none⟩ (.int .i64 0)).setCell ⟨E,3,.none⟩ (.int .i64 0)).setCell ⟨E,4,.none⟩ (.int .i64 0)) E #[.bool false,.int .i64 0,.int .i64 0,.int .i64 0,.int .i64 0] 264:=(((((y.set 0 (.bool false)).set 1 (.int .i64 0)).set 2 (.int .i64 0)).set 3 (.int .i64 0)).set 4 (.int .i64 0));have G:Below w.heap.size w (((((X.setCell ⟨E,0,.none⟩ (.bool false)).setCell ⟨E,1,.none⟩ (.int .i64 0)).setCell ⟨E,2,.none⟩ (.int .i64 0)).setCell ⟨E,3,.none⟩ (.int .i64 0)).setCell ⟨E,4,.none⟩ (.int .i64 0)):=(((((o.setCell (p:=⟨E,0,.none⟩) b (.bool false)).setCell (p:=⟨E,1,.none⟩) b (.int .i64 0)).setCell (p:=⟨E,2,.none⟩) b (.int .i64 0)).setCell (p:=⟨E,3,.none⟩) b (.int .i64 0)).setCell (p:=⟨E,4,.none⟩) b (.int .i64 0));generalize ((((X.setCell ⟨E,0,.none⟩ (.bool false)).setCell ⟨E,1,.none⟩ (.int .i64 0)).setCell ⟨E,2,.none⟩ (.int .i64 0)).setCell ⟨E,3,.none⟩ (.int .i64 0)).setCell ⟨E,4,.none⟩ (.int .i64 0)=U at *;have r0:=ce (.bool false) (m.cell 0);have r1:=ci 0 (m.cell 1);have r2:=ci 0 (m.cell 2);have r3:=ci 0 (m.cell 3);have r4:=ci 0 (m.cell 4);exact bodyPost_ret (v:= .tuple #[.agg #[.bool false,.int .i64 0,.int .i64 0,.int .i64 0,.int .i64 0],.bool false]) (by simp[results,Tryz.results189,go_sem,r0,r1,r2,r3,r4]) rfl ⟨by rw[D.out];rfl,G⟩
 have D:t.got=none:=by unfold Rs.got;rw[I,L]
 rw[I]at Z;rw[L]at k3;replace Z:_=some (Value.pointer none):=Z;replace k3:_=some (Value.pointer none):=k3;have C:Hid (∀ W:World,Calls Tryz.prog 203 #[.pointer none] W fun e w'=>e= .returned (.tuple #[.int .i64 0,.int .i64 0,.bool false])/\w'=W):=hd' (fun W=>zmh W);have B:=hd' (fun w=>znf w);clear h1 h2 V h4 h5 h6 I L j;obtain⟨g,hg,z⟩:=hidv t.got;rw[<-z];replace D:=hd' (z.trans D);clear hg z;skip;go_in;go_upto_region 1 with fail;generalize w.alloc (.cells #[.bool false,.int .i64 0,.int .i64 0,.int .i64 0,.int .i64 0] 264)=X at *;obtain⟨E,Y,i⟩:=hidv w.heap.size;simp only[<-i]at y S T ⊢;have b:w.heap.size<=E:=by omega
 clear i;have bg:=y.cell;have I:=ci 0 (y.cell 1);have L:=ci 0 (y.cell 2);have b5:=y.cell;have ef:=zax y;go_wp2_with (first|(go_at_call 203;(with_reducible refine(C.out _).mono ?_);rintro r w2 ⟨rfl,l⟩;obtain rfl:=l.symm)|(go_at_call 204;(with_reducible refine(B.out _).mono ?_);rintro r w2 ⟨rfl,l⟩;obtain rfl:=l.symm));have m:zaa (((((X.setCell ⟨E,0,.none⟩ (.bool false)).setCell ⟨E,1,.none⟩ (.int .i64 0)).setCell ⟨E,2,.none⟩ (.int .i64 0)).setCell ⟨E,3,.none⟩ (.int .i64 0)).setCell ⟨E,4,.none⟩ (.int .i64 0)) E #[.bool false,.int .i64 0,.int .i64 0,.int .i64 0,.int .i64 0] 264:=(((((y.set 0 (.bool false)).set 1 (.int .i64 0)).set 2 (.int .i64 0)).set 3 (.int .i64 0)).set 4 (.int .i64 0));have G:Below w.heap.size w (((((X.setCell ⟨E,0,.none⟩ (.bool false)).setCell ⟨E,1,.none⟩ (.int .i64 0)).setCell ⟨E,2,.none⟩ (.int .i64 0)).setCell ⟨E,3,.none⟩ (.int .i64 0)).setCell ⟨E,4,.none⟩ (.int .i64 0)):=(((((o.setCell (p:=⟨E,0,.none⟩) b (.bool false)).setCell (p:=⟨E,1,.none⟩) b (.int .i64 0)).setCell (p:=⟨E,2,.none⟩) b (.int .i64 0)).setCell (p:=⟨E,3,.none⟩) b (.int .i64 0)).setCell (p:=⟨E,4,.none⟩) b (.int .i64 0));generalize ((((X.setCell ⟨E,0,.none⟩ (.bool false)).setCell ⟨E,1,.none⟩ (.int .i64 0)).setCell ⟨E,2,.none⟩ (.int .i64 0)).setCell ⟨E,3,.none⟩ (.int .i64 0)).setCell ⟨E,4,.none⟩ (.int .i64 0)=U at *;have r0:=ce (.bool false) (m.cell 0);have r1:=ci 0 (m.cell 1);have r2:=ci 0 (m.cell 2);have r3:=ci 0 (m.cell 3);have r4:=ci 0 (m.cell 4);exact bodyPost_ret (v:= .tuple #[.agg #[.bool false,.int .i64 0,.int .i64 0,.int .i64 0,.int .i64 0],.bool false]) (by simp[results,Tryz.results189,go_sem,r0,r1,r2,r3,r4]) rfl ⟨by rw[D.out];rfl,G⟩
end

section

attribute [local go_sem] zjd

open Go.RowKit

theorem zpf{P:Program}{o:Oper}{a:Act}{K:Act->World->Prop}{Q0 Q:Exit->Act->World->Prop}{r:Result Next}(h:o.upon P a K Q0 r)(j:∀ e a w,e≠ .normal->Q0 e a w->Q e a w):o.upon P a K Q r:=by
 match r,h with
 | .ok (.value v) w',h=>exact h
 | .ok .skip w',h=>exact h
 | .ok (.defer d) w',h=>exact h
 | .ok (.enter f args) w',h=>
  refine Calls.mono h fun e l i=>?_
  match e,i with
  | .returned v,i=>exact i
  | .panicked chain,i=>exact j _ _ _ (fun e=>by cases e) i
  | .outgrown,⟨b,u,hb⟩=>exact⟨b,u,j _ _ _ (fun e=>by cases e) hb⟩
 | .ok (.row row args) w',h=>exact h
 | .halt (.panic v) w',h=>exact j _ _ _ (fun e=>by cases e) h
def lastB (l0:List Oper) (last:Oper):Bool:=
 (l0.all fun o=> o.guard.isNone && o.after.all fun e=> !Region.binds .any e || decide (e.on < l0.length)) && ((List.range l0.length).all fun i=> match l0[i]? with | some o=> o.after.all fun e=> !Region.binds .any e || decide (e.on < i) | none=> true) &&
  ((List.range l0.length).all fun j=> (last.after.any fun e=> Region.binds .any e && e.on==j) || (List.range l0.length).any fun k=> decide (j < k) && match l0[k]? with | some o=> o.after.any fun e=> Region.binds .any e && e.on==j | none=> false) && (last.after.all fun e=> !Region.binds .any e || decide (e.on < l0.length))
section

attribute [local go_sem] zjd

variable {P:Program} {l0:List Oper} {last:Oper} {Q Q0:Exit->Act->World->Prop}

theorem zp6{i:Nat}(h:i<l0.length):(l0++[last]).toArray[i]?=l0.toArray[i]?:=by simp[h,List.getElem?_append_left]
theorem zhz:(l0++[last]).toArray[l0.length]?=some last:=by simp
theorem zgp{listed:Array Bool}{i:Nat}{d:Bool}(h:i<listed.size):(listed.push false).getD i d=listed.getD i d:=by
 have b:i<(listed.push false).size:=by simp;omega
 simp only[Array.getD_eq_getD_getElem?,Array.getElem?_eq_getElem h,Array.getElem?_eq_getElem b,Option.getD_some];rw[Array.getElem_push_lt h]
def z5j (l0:List Oper) (listed:Array Bool):Prop:=∀ k o,l0[k]?=some o->listed.getD k false=true->∀ e ∈ o.after,Region.binds .any e=true->listed.getD e.on false=true
theorem z4m{listed:Array Bool}{i:Nat}(hs:z5j l0 listed)(hi:i ∈ Region.ready .any l0.toArray listed):z5j l0 (listed.setIfInBounds i true):=by
 intro k o p f e n hb;have j:=zfh (mem_ready.1 hi).1;rw[gset j]at f ⊢;by_cases m:k=i
 ·subst m;obtain⟨_,q,l,b⟩:=mem_ready.1 hi;have:l0[k]?=some q:=by simpa using l
  rw[p]at this;obtain rfl:=Option.some.inj this;rw[b e n hb,Bool.or_true]
 rw[decide_eq_false m,Bool.false_or]at f;rw[hs k o p f e n hb,Bool.or_true]
theorem zgf(E:lastB l0 last=true){listed:Array Bool}(G:listed.size=l0.length)(D:z5j l0 listed)(i:Nat):
  i ∈ Region.ready .any (l0++[last]).toArray (listed.push false)↔(i ∈ Region.ready .any l0.toArray listed)\/(i=l0.length/\∀ j,j<l0.length->listed.getD j false=true):=by
 simp only[lastB,Bool.and_eq_true]at E;obtain⟨⟨⟨t,F⟩,B⟩,C⟩:=E;rw[mem_ready,mem_ready];constructor
 ·rintro⟨hu,o,m,b⟩;rcases Nat.lt_trichotomy i l0.length with hi|hi|hi
  ·rw[zp6 hi]at m;refine .inl ⟨by rw[zgp (by omega)]at hu;exact hu,o,m,fun e p hb=>?_⟩;have:=b e p hb;have q:o ∈ l0:=by
    have:l0[i]?=some o:=by simpa using m
    exact List.mem_of_getElem? this
   have l:=List.all_eq_true.1 t o q;simp only[Bool.and_eq_true]at l;have n:=(Array.all_eq_true_iff_forall_mem.1 l.2) e p;have r:e.on<l0.length:=by simpa[hb] using n
   rwa [zgp (by omega)]at this
  ·subst hi;rw[zhz]at m;obtain rfl:=Option.some.inj m;refine .inr ⟨rfl,?_⟩
   have key:∀ d j,j<l0.length->l0.length<=j+d->listed.getD j false=true:=by
    intro d
    induction d with
    |zero=>intro j z hd;omega
    |succ d H=>
     intro j z hd
     have l:=List.all_eq_true.1 B j (List.mem_range.2 z)
     simp only[Bool.or_eq_true]at l
     rcases l with l|l
     ·obtain⟨k,s,f⟩:=Array.any_eq_true.1 l
      simp only[Bool.and_eq_true,beq_iff_eq]at f
      have:=b _ (Array.getElem_mem s) f.1
      rw[f.2,zgp (by omega)]at this
      exact this
     ·obtain⟨k,s,n⟩:=List.any_eq_true.1 l
      have s:=List.mem_range.1 s
      simp only[Bool.and_eq_true,decide_eq_true_eq]at n
      have r:=n.2
      have y:l0[k]?=some l0[k]:=List.getElem?_eq_getElem s
      rw[y]at r
      obtain⟨u,hu,f⟩:=Array.any_eq_true.1 r
      simp only[Bool.and_eq_true,beq_iff_eq]at f
      have:=D k _ y (H k s (by omega)) _ (Array.getElem_mem hu) f.1
      rw[f.2]at this
      exact this
   exact fun j z=>key l0.length j z (by omega)
  have:(l0++[last]).toArray[i]?=none:=by simp;omega
  rw[this]at m;cases m
 rintro(⟨hu,o,m,b⟩|⟨rfl,b⟩)
 ·have hi:i<l0.length:=by have:=(Array.getElem?_eq_some_iff.1 m).1;simpa using this
  refine⟨by rw[zgp (by omega)];exact hu,o,by rw[zp6 hi];exact m,fun e p hb=>?_⟩;have q:o ∈ l0:=by
   have:l0[i]?=some o:=by simpa using m
   exact List.mem_of_getElem? this
  have l:=List.all_eq_true.1 t o q;simp only[Bool.and_eq_true]at l;have n:=(Array.all_eq_true_iff_forall_mem.1 l.2) e p;have r:e.on<l0.length:=by simpa[hb] using n
  rw[zgp (by omega)];exact b e p hb
 refine⟨?_,last,zhz,fun e p hb=>?_⟩
 ·rw[<-G,Array.getD_eq_getD_getElem?,Array.getElem?_push_size];rfl
 have n:=(Array.all_eq_true_iff_forall_mem.1 C) e p;have r:e.on<l0.length:=by simpa[hb] using n
 rw[zgp (by omega)];exact b _ r
theorem zje(q:lastB l0 last=true){listed:Array Bool}(F:listed.size=l0.length)(h:Region.ready .any l0.toArray listed= []):∀ n i,i<n->i<l0.length->listed.getD i false=true:=by
 simp only[lastB,Bool.and_eq_true]at q;obtain⟨⟨⟨y,l⟩,z⟩,B⟩:=q;intro n;induction n with
 |zero=>intro i hi;omega;|succ n D=>
  intro i hi b;rcases Bool.eq_false_or_eq_true (listed.getD i true) with e|e
  ·have m:i<listed.size:=by omega
   simp only[Array.getD_eq_getD_getElem?,Array.getElem?_eq_getElem m,Option.getD_some]at e ⊢;exact e
  have C:l0.toArray[i]?=some l0.toArray[i]:=Array.getElem?_eq_getElem (by rw[List.size_toArray];exact b)
  have r:i ∈ Region.ready .any l0.toArray listed:=mem_ready.2 ⟨e,_,C,fun f t j=>by
   have p:=List.all_eq_true.1 l i (List.mem_range.2 b)
   have o:l0[i]?=some l0.toArray[i]:=by simp
   rw[o]at p
   have s:=(Array.all_eq_true_iff_forall_mem.1 p) f t
   have E:f.on<i:=by simpa[j] using s
   exact D f.on (by omega) (by omega)⟩
  rw[h]at r;cases r
theorem z7e{listed:Array Bool}{i:Nat}(h:i<listed.size):(listed.push false).setIfInBounds i true=(listed.setIfInBounds i true).push false:=by
 apply Array.ext
 ·simp
 intro j l m;simp only[Array.size_setIfInBounds,Array.size_push]at l;rw[Array.getElem_setIfInBounds (by simpa using l)];by_cases b:j<listed.size
 ·rw[Array.getElem_push_lt b,Array.getElem_push_lt (by simpa using b),Array.getElem_setIfInBounds b]
 have:j=listed.size:=by omega
 subst this;have f:¬ i=listed.size:=by omega
 rw[if_neg f,Array.getElem_push_eq];have:=Array.getElem_push_eq (xs:=listed.setIfInBounds i true) (x:=false);simp[Array.getElem_push]
theorem z01{listed:Array Bool}(s:listed.size=l0.length)(b:∀ j,j<l0.length->listed.getD j false=true):Region.ready .any (l0++[last]).toArray ((listed.push false).setIfInBounds l0.length true)= []:=by
 apply List.eq_nil_iff_forall_not_mem.2;intro i hi;obtain⟨hu,o,q,_⟩:=mem_ready.1 hi;have p:i<l0.length+1:=by have:=(Array.getElem?_eq_some_iff.1 q).1;simpa using this
 by_cases e:i=l0.length
 ·subst e;have r:l0.length<((listed.push false).setIfInBounds l0.length true).size:=by simp;omega
  simp only[Array.getD_eq_getD_getElem?,Array.getElem?_eq_getElem r,Option.getD_some]at hu;rw[Array.getElem_setIfInBounds_self]at hu;cases hu
 have f:i<l0.length:=by omega
 have n:=b i f;have l:l0.length≠i:=fun m=>e m.symm;rw[Array.getD_eq_getD_getElem?,Array.getElem?_setIfInBounds_ne l,<- Array.getD_eq_getD_getElem?,zgp (by omega)]at hu;have:=getD_both hu;rw[n]at this;cases this
theorem zkz(p:lastB l0 last=true)(H:∀ e a w,e≠ .normal->Q0 e a w->Q e a w)(O:∀ a w,Q0 .normal a w->wpOp P (l0++[last]).toArray Q l0.length (fun C w'=>Q .normal C w') a w)(l:Nat):
  ∀ (listed:Array Bool) (a:Act) (w:World),listed.size=l0.length->z5j l0 listed->wpAny P .any l0.toArray Q0 l listed a w->wpAny P .any (l0++[last]).toArray Q (l+1) (listed.push false) a w:=by
 have s:∀ (f:Nat) (listed:Array Bool) (a:Act) (w:World),listed.size=l0.length->Region.ready .any l0.toArray listed= []->Q0 .normal a w->
   wpOp P (l0++[last]).toArray Q l0.length (wpAny P .any (l0++[last]).toArray Q f ((listed.push false).setIfInBounds l0.length true)) a w:=fun f listed a w n q J=>by
  refine wpOp_mono (fun C w' B=>?_) (O a w J)
  have hd:=z01 (last:=last) n (fun j z=>zje p n q (j+1) j (by omega) z)
  cases f with
  |zero=>exact⟨hd,B⟩
  |succ f=>exact⟨fun _=>B,fun i hi=>by rw[hd]at hi;cases hi⟩
 induction l with
 |zero=>
  intro listed a w n m h;refine⟨fun q=>?_,fun i hi=>?_⟩
  ·have:l0.length ∈ Region.ready .any (l0++[last]).toArray (listed.push false):=(zgf p n m _).2 (.inr ⟨rfl,fun j z=>zje p n h.1 (j+1) j (by omega) z⟩);rw[q]at this;cases this
  rcases(zgf p n m i).1 hi with hi|⟨rfl,_⟩
  ·rw[h.1]at hi;cases hi
  exact s 0 listed a w n h.1 h.2
 |succ l S=>
  intro listed a w n m h;refine⟨fun q=>?_,fun i hi=>?_⟩
  ·rcases hr:Region.ready .any l0.toArray listed with _|⟨j,T⟩
   ·have:l0.length ∈ Region.ready .any (l0++[last]).toArray (listed.push false):=(zgf p n m _).2 (.inr ⟨rfl,fun j z=>zje p n hr (j+1) j (by omega) z⟩);rw[q]at this;cases this
   have:j ∈ Region.ready .any (l0++[last]).toArray (listed.push false):=(zgf p n m _).2 (.inl (by rw[hr];exact List.mem_cons_self ..));rw[q]at this;cases this
  rcases(zgf p n m i).1 hi with hi|⟨rfl,y⟩
  ·have D:=h.2 i hi;obtain⟨hu,o,t,_⟩:=mem_ready.1 hi;have E:i<l0.length:=by have:=(Array.getElem?_eq_some_iff.1 t).1;simpa using this
   have L:o.guard=none:=by simp only[lastB,Bool.and_eq_true]at p;have G:o ∈ l0:=List.mem_of_getElem? (by simpa using t:l0[i]?=some o);have:=List.all_eq_true.1 p.1.1.1 o G;simp only[Bool.and_eq_true,Option.isNone_iff_eq_none]at this;exact this.1
   have R:∀ k,Region.wanted o k=true:=fun k=>by unfold Region.wanted;rw[L]
   rw[z7e (by omega)];have r:=wpOp_mono (fun C w' M=>S (listed.setIfInBounds i true) C w' (by simpa using n) (z4m m hi) M) D;unfold wpOp at r ⊢;rw[t]at r;rw[zp6 E,t];simp only[R,if_true]at r ⊢;rcases r with r|⟨r,b,u,I⟩
   ·exact .inl (zpf r H)
   exact .inr ⟨r,b,u,H _ _ _ (fun e=>by cases e) I⟩
  have q:Region.ready .any l0.toArray listed= []:=by
   apply List.eq_nil_iff_forall_not_mem.2;intro k N;obtain⟨hu,o,t,_⟩:=mem_ready.1 N;have F:k<l0.length:=by have:=(Array.getElem?_eq_some_iff.1 t).1;simpa using this
   have D:=y k F;have:=getD_both hu;rw[D]at this;cases this
  exact s (l+1) listed a w n q (h.1 q)
theorem zcx{Z:Nat}{a:Act}{W:World}{x:zd0}{ld:Nat}{v:Value}{K0 K1:World->Prop}{l l':List Oper}{ts:List Nat}(n:Nat)(S:P.follows .mixedOrders=true)(hd:l.drop n= [last])(m:lastB (l.take n) last=true)
  (O:zfq x ld v 0 (l.take n)=l') (L:Region.lexB .any l'.toArray=true) (N:zrg (l.take n).toArray x ld=true) (i:Region.noSelect (l.take n).toArray=true)
  (T:x.al≠x.st/\x.al≠ld/\x.st≠ld/\x.src≠x.d) (j:ld<(l.take n).toArray.size/\(x.al<(l.take n).toArray.size↔x.st<(l.take n).toArray.size)) (t:x.so≠x.al/\x.so≠x.st) (s:x.al<(l.take n).toArray.size->x.so≠ld) (V:zsq (l.take n).toArray x ld ts=true) (y:x.d ∉ ts) (f:x.d<a.tmps.size)
  (hc:zn6 W K0/\zn6 W K1) (D:K0 W.drew)
  (b:∃ aF,(∀ B,K0 B\/K1 B->W.heap.size<=B.heap.size->wpQuiet P l'.toArray (fun w'=>∃ e:Ext B,w'=e.w) (fun C=>C=aF) l' a)/\(x.al<(l.take n).toArray.size->∀ Q0,ze2 P (l.take n) Q0 aF x)/\(∀ Q0,zij P (l.take n) Q0 aF W ld v ts K0 K1)/\
   ∀ a w M,zni W x K1 (l.take n).toArray.size aF a w M->wpList P l.toArray Q [last] a w):(Code.region Z l.toArray true).wp P Q a W:=by
 have p:l=l.take n++[last]:=by rw[<-hd,List.take_append_drop]
 obtain⟨aF,E,F,G,H⟩:=b;generalize R:l.take n=l0 at *;subst p;have Y:(l0++[last]).toArray.size=l0.toArray.size+1:=by simp
 have hg:last.guard=none\/True:= .inr trivial;have I:=zqg (P:=P) (Q:=fun e a w=>match e with | .normal=>wpList P (l0++[last]).toArray Q [last] a w|e=>Q e a w) O L N i T j t s V y f hc D ⟨aF,E,fun X=>F X _,G _,H⟩;have J:=zkz (P:=P) (Q:=Q) m (fun e a w q r=>by cases e<;>first|exact absurd rfl q|exact r) (fun a w r=>?_) l0.toArray.size (Array.replicate l0.toArray.size false) a W.drew (by simp) (fun k o _ z=>by rw[getD_replicate_false]at z;cases z) I
 ·refine wp_region_any S ?_;rw[Y];have U:(Array.replicate l0.toArray.size false).push false=Array.replicate (l0.toArray.size+1) false:=by rw[Array.replicate_succ]
  rw[<-U];exact J
 unfold wpOp;rw[zhz];exact r
end

end

end Go.Proofs.YtkbddndcegpllaaGreat
