/- Lemmas for the claim. -/
import Derived.Test.YtkilokkopbajkaaGreatBw17

import Derived.Test.YtkilokkopbajkaaGreatBw18

import Derived.Test.YtkilokkopbajkaaGreatBw19

set_option linter.all false
set_option maxHeartbeats 1000000
set_option maxRecDepth 100000
namespace Go.Proofs.YtkilokkopbajkaaGreat

attribute [local go_sem] TA UD QF

section

open Go.RowKit

attribute [local go_sem ↓] Go.wp_at_zero Go.wp_at_succ

def grow (F:Nat->Prop) (w w':World):Nat->Prop:=fun k=> F k\/(w.heap.size<=k/\k < w'.heap.size)
theorem z2p{F G:Nat->Prop}{w w':World}(h:∀ k,F k->G k):∀ k,grow F w w' k->grow G w w' k:=fun k e=>e.imp (h k) id
def SkO (F:Nat->Prop) (w:World) (q:Nat) (s:Sh) (t:Sk):Prop:=F q/\∃ q2,SkAt w q q2 s t/\(t.now≠none->F q2)
def RnO (F:Nat->Prop) (w:World) (q:Nat) (s:Sh) (t:Rn):Prop:=F q/\∃ q2,RnAt w q q2 s t/\(t.strip≠none->F q2)
theorem RnAt.KJ{w w':World}{q q2:Nat}{s:Sh}{t:Rn}{G:Nat->Prop}(h:RnAt w q q2 s t)(f:Only G w w')(h1:¬ G q)(h2:t.strip≠none->¬ G q2):RnAt w' q q2 s t:=
 ⟨h.row.only f h1,fun x b=>⟨(h.inn x b).1.only f (h2 (by rw[b];exact fun e=>by cases e)),(h.inn x b).2⟩⟩
theorem SkAt.KJ{w w':World}{q q2:Nat}{s:Sh}{t:Sk}{G:Nat->Prop}(h:SkAt w q q2 s t)(f:Only G w w')(h1:¬ G q)(h2:t.now≠none->¬ G q2):SkAt w' q q2 s t:=
 ⟨h.row.only f h1,fun x b=>⟨(h.inn x b).1.only f (h2 (by rw[b];exact fun e=>by cases e)),(h.inn x b).2⟩⟩
theorem SkO.only{F G:Nat->Prop}{w w':World}{q:Nat}{s:Sh}{t:Sk}(h:SkO F w q s t)(b:Only G w w')(hd:∀ k,F k->¬ G k):SkO F w' q s t:=by
 obtain⟨h1,q2,h2,h3⟩:=h;exact⟨h1,q2,h2.KJ b (hd q h1) (fun e=>hd q2 (h3 e)),h3⟩
theorem RnO.only{F G:Nat->Prop}{w w':World}{q:Nat}{s:Sh}{t:Rn}(h:RnO F w q s t)(b:Only G w w')(hd:∀ k,F k->¬ G k):RnO F w' q s t:=by
 obtain⟨h1,q2,h2,h3⟩:=h;exact⟨h1,q2,h2.KJ b (hd q h1) (fun e=>hd q2 (h3 e)),h3⟩
structure YB (F:Nat->Prop) (p b:Nat) (w w':World) (e:Ending) (m:Mem):Prop where
 ret:e= .returned (.tuple #[])
 wds:oA w' p b m
 only:Only (fun k=> F k\/k=p\/k=b) w w'
theorem z5m{F:Nat->Prop}{q p b:Nat}{s:Sh}{t:Sk}{m:Mem}{w:World}(h:SkO F w q s t)(o:oA w p b m)(r:¬ F p)(hb:¬ F b)(z:Fits s m)(C:skOk s t)(hs:m.st<1000000000):
  Calls Tryz.prog 216 #[some q,some p] w fun e w'=>YB F p b w w' e (uB s t m).2/\SkO (grow F w w') w' q s (uB s t m).1:=by
 obtain⟨h1,q2,h2,h3⟩:=h;have key:∀ now e w',(now=true->F q2)->iH q q2 p b now w w' e s (uB s t m).1 (uB s t m).2->YB F p b w w' e (uB s t m).2/\SkO (grow F w w') w' q s (uB s t m).1:=fun now e w' B hS=>by
  obtain⟨q3,h4,i⟩:=hS.at';refine⟨⟨hS.ret,hS.wds,hS.only.weak fun k j=>?_⟩,.inl h1,q3,h4,fun n=>?_⟩
  ·rcases j with rfl|⟨e,rfl⟩|j|j
   ·exact .inl h1
   ·exact .inl (B e)
   ·exact .inr (.inl j)
   exact .inr (.inr j)
  rcases i with⟨rfl,i⟩|i
  ·cases now
   ·exact absurd (i rfl) n
   exact .inl (B rfl)
  rcases hq:(uB s t m).1.now with _|x
  ·exact absurd hq n
  exact .inr ⟨i,(h4.inn x hq).1.lt⟩
 rcases jB t.done with hd|hd
 ·rcases hx:t.now with _|x
  ·exact(QU q q2 p b s t m w h2 o hd false (fun _=>hx)).mono fun e w' hS=>key false e w' (fun e=>by cases e) hS
  exact(QU q q2 p b s t m w h2 o hd true (fun e=>by cases e)).mono fun e w' hS=>key true e w' (fun _=>h3 (by rw[hx];exact fun e=>by cases e)) hS
 rcases hx:t.now with _|x
 ·exact(zuy q q2 p b s t m w h2 hx o (fun e=>r (e ▸ h1)) (fun e=>hb (e ▸ h1)) z C hs hd).mono fun e w' hS=>key false e w' (fun e=>by cases e) hS
 have h4:=h3 (by rw[hx];exact fun e=>by cases e);exact(zzl q q2 p b s t x m w h2 hx o ⟨fun e=>r (e ▸ h1),fun e=>r (e ▸ h4)⟩ ⟨fun e=>hb (e ▸ h1),fun e=>hb (e ▸ h4)⟩ z C hs hd).mono fun e w' hS=>key true e w' (fun _=>h4) hS
theorem z7o{F:Nat->Prop}{q p b:Nat}{s:Sh}{t:Rn}{m:Mem}{w:World}(h:RnO F w q s t)(D:oA w p b m)(r:¬ F p)(hb:¬ F b)(B:Fits s m)(C:rnOk s t)(hs:m.st<1000000000):
  Calls Tryz.prog 217 #[some q,some p] w fun e w'=>YB F p b w w' e (VB s t m).2/\RnO (grow F w w') w' q s (VB s t m).1:=by
 obtain⟨h1,q2,h2,h3⟩:=h;refine(zyl q q2 p b s t m w h2 D (fun e=>r (e ▸ h1)) (fun e=>hb (e ▸ h1)) (fun n=>⟨fun e=>r (e ▸ h3 n),fun e=>hb (e ▸ h3 n)⟩) B C hs).mono fun e w' hS=>?_;have n:t.strip.isSome=true->F q2:=fun e=>h3 (fun z=>by rw[z]at e;cases e);obtain⟨q3,h4,i⟩:=hS.at';refine⟨⟨hS.ret,hS.wds,hS.only.weak fun k j=>?_⟩,.inl h1,q3,h4,fun o=>?_⟩
 ·rcases j with rfl|⟨e,rfl⟩|j|j
  ·exact .inl h1
  ·exact .inl (n e)
  ·exact .inr (.inl j)
  exact .inr (.inr j)
 rcases i with⟨rfl,i⟩|i
 ·cases hi:t.strip.isSome
  ·exact absurd (i hi) o
  exact .inl (n hi)
 rcases hq:(VB s t m).1.strip with _|x
 ·exact absurd hq o
 exact .inr ⟨i,(h4.inn x hq).1.lt⟩
def ptrV {α:Type} (o:Option α) (q:Nat):Value:=match o with
 | none=> .pointer none
 | some _=> .pointer (some ⟨q,0,.none⟩)
def YF (t:Rs) (v1 v2:Value):Array Value:= #[t.k,t.pages,v1,v2]
attribute [local go_sem] YF

def RsO (F:Nat->Prop) (w:World) (q:Nat) (s:Sh) (t:Rs):Prop:=
 F q/\∃ q1 G,(∀ k,G k->F k/\k≠q)/\aA w q (YF t (ptrV t.seeker q1) (ptrV t.runner q1)) 242/\(t.seeker=none\/t.runner=none)/\(∀ x,t.seeker=some x->SkO G w q1 s x)/\(∀ x,t.runner=some x->RnO G w q1 s x)
theorem RsO.only{F G:Nat->Prop}{w w':World}{q:Nat}{s:Sh}{t:Rs}(h:RsO F w q s t)(f:Only G w w')(hd:∀ k,F k->¬ G k):RsO F w' q s t:=by
 obtain⟨h1,q1,H,h2,h3,h4,j,m⟩:=h;exact⟨h1,q1,H,h2,h3.only f (hd q h1),h4,fun x i=>(j x i).only f (fun k b=>hd k (h2 k b).1),fun x i=>(m x i).only f (fun k b=>hd k (h2 k b).1)⟩
theorem RsO.weak{F G:Nat->Prop}{w:World}{q:Nat}{s:Sh}{t:Rs}(h:RsO F w q s t)(b:∀ k,F k->G k):RsO G w q s t:=by
 obtain⟨h1,q1,H,h2,h⟩:=h;exact⟨b q h1,q1,H,fun k f=>⟨b k (h2 k f).1,(h2 k f).2⟩,h⟩
theorem MP(t:Rs)(h:t.seeker=none\/t.runner=none):(∃ x,t.seeker=some x/\t.runner=none)\/(∃ x,t.seeker=none/\t.runner=some x)\/(t.seeker=none/\t.runner=none):=by
 rcases h1:t.seeker with _|x<;>rcases h2:t.runner with _|y
 ·exact .inr (.inr ⟨rfl,rfl⟩)
 ·exact .inr (.inl ⟨y,rfl,rfl⟩)
 ·exact .inl ⟨x,rfl,rfl⟩
 rcases h with h|h
 ·rw[h1]at h;cases h
 rw[h2]at h;cases h
theorem pL{F:Nat->Prop}{q:Nat}{s:Sh}{t:Rs}{w:World}(h:RsO F w q s t):
  Calls Tryz.prog 161 #[some q] w fun e w'=>e= .returned (.bool t.done)/\w'=w:=by
 obtain⟨h1,q1,H,h2,h3,h4,p,z⟩:=h;have c2:=ce (ptrV t.seeker q1) (h3.cell 2);have c3:=ce (ptrV t.runner q1) (h3.cell 3);rcases MP t h4 with⟨x,b,i⟩|⟨x,b,i⟩|⟨b,i⟩
 ·obtain⟨_,q2,o,_⟩:=p x b;have hd:=hd' (zzq q1 _ x.done w o.row rfl);have j:t.done=x.done:=by unfold Rs.done;rw[b]
  rw[j];rw[b]at c2;replace c2:w.cell? ⟨q,2,.none⟩=some (.pointer (some ⟨q1,0,.none⟩)):=c2;clear h1 h2 h3 h4 p z c3 j b i o;go_in;go_wp2_with (go_at_call 171;(with_reducible refine hd.out.mono ?_);rintro r B ⟨rfl,m⟩;obtain rfl:=m.symm);go_returns;exact⟨rfl,rfl⟩
 ·obtain⟨_,q2,n,_⟩:=z x i;have hd:=hd' (zy1 q1 _ x.done w n.row rfl);have j:t.done=x.done:=by unfold Rs.done;rw[b,i]
  rw[j];rw[b]at c2;rw[i]at c3;replace c2:w.cell? ⟨q,2,.none⟩=some (.pointer none):=c2;replace c3:w.cell? ⟨q,3,.none⟩=some (.pointer (some ⟨q1,0,.none⟩)):=c3;clear h1 h2 h3 h4 p z j b i n;go_in;go_wp2_with (go_at_call 172;(with_reducible refine hd.out.mono ?_);rintro r B ⟨rfl,m⟩;obtain rfl:=m.symm);go_returns;exact⟨rfl,rfl⟩
 have j:t.done=true:=by unfold Rs.done;rw[b,i]
 rw[j];rw[b]at c2;rw[i]at c3;replace c2:w.cell? ⟨q,2,.none⟩=some (.pointer none):=c2;replace c3:w.cell? ⟨q,3,.none⟩=some (.pointer none):=c3;clear h1 h2 h3 h4 p z j b i;go_in;go_wp2_with fail;go_returns;exact⟨rfl,rfl⟩
theorem UU{F:Nat->Prop}{q p b:Nat}{s:Sh}{t:Rs}{m:Mem}{w:World}(h:RsO F w q s t)(S:oA w p b m)(Z:¬ F p)(hb:¬ F b)(V:Fits s m)(Y:(∀ x,t.seeker=some x->skOk s x)/\(∀ x,t.runner=some x->rnOk s x))(hs:m.st<1000000000):
  Calls Tryz.prog 214 #[some q,some p] w fun e w'=>YB F p b w w' e (yB s t m).2/\RsO (grow F w w') w' q s (yB s t m).1:=by
 obtain⟨h1,q1,H,h2,h3,h4,T,U⟩:=h;have c2:=ce (ptrV t.seeker q1) (h3.cell 2);have c3:=ce (ptrV t.runner q1) (h3.cell 3);have L:¬ H p:=fun e=>Z (h2 p e).1;have J:¬ H b:=fun e=>hb (h2 b e).1;have G:q≠p:=fun e=>Z (e ▸ h1);have E:q≠b:=fun e=>hb (e ▸ h1);have b2:=h3.lt;have D:∀ k,H k->k≠q:=fun k N=>(h2 k N).2;have I:∀ w' k,grow H w w' k->grow F w w' k/\k≠q:=fun w' k N=>⟨z2p (fun k e=>(h2 k e).1) k N,by rcases N with e|e;exact(h2 k e).2;omega⟩;rcases MP t h4 with⟨x,i,n⟩|⟨x,i,n⟩|⟨i,n⟩
 ·have B:=z5m (T x i) S L J V (Y.1 x i) hs;have R:yB s t m=({t with seeker:=some (uB s x m).1},(uB s x m).2):=by unfold yB;rw[i]
  rw[R];dsimp only;have j:Hid (∀ e w',YB H p b w w' e (uB s x m).2/\SkO (grow H w w') w' q1 s (uB s x m).1->YB F p b w w' (.returned (.tuple #[])) (uB s x m).2/\RsO (grow F w w') w' q s {t with seeker:=some (uB s x m).1}):=hd' fun e w' hS=>by
   refine⟨⟨rfl,hS.1.wds,hS.1.only.weak fun k N=>N.imp (fun e=>(h2 k e).1) id⟩,.inl h1,q1,grow H w w',I w',?_,.inr n,fun z C=>?_,fun z C=>?_⟩
   ·have O:=h3.only hS.1.only (by rintro(e|e|e);exact D q e rfl;exact G e;exact E e);rw[i]at O;exact O
   ·simp only[Option.some.injEq]at C;subst C;exact hS.2
   have C:t.runner=some z:=C;rw[n]at C;cases C
  rw[i]at c2;rw[n]at c3;replace c2:w.cell? ⟨q,2,.none⟩=some (.pointer (some ⟨q1,0,.none⟩)):=c2;replace c3:w.cell? ⟨q,3,.none⟩=some (.pointer none):=c3;have X:Hid (∀ e w',YB H p b w w' e (uB s x m).2->w'.cell? ⟨q,3,.none⟩=some (.pointer none)):=hd' fun e w' hS=>by have O:=h3.only hS.only (by rintro(e|e|e);exact D q e rfl;exact G e;exact E e);rw[i,n]at O;exact O.cell 3
  have o:=hd' (fun w=>BV p w);replace B:=hd' B;clear R h1 h2 h3 h4 T U L J G E D I i n S Z hb V Y hs;go_in;go_wp2_with (first|(go_at_call 216;(with_reducible refine B.out.mono ?_);rintro r w1 hS;obtain rfl:=hS.1.ret;have b1:=X _ _ hS.1)|(go_at_call 217;(with_reducible refine(o _).mono ?_);rintro r w2 ⟨rfl,M⟩;obtain rfl:=M.symm));go_returns;exact j _ _ hS
 ·have o:=z7o (U x n) S L J V (Y.2 x n) hs;have R:yB s t m=({t with runner:=some (VB s x m).1},(VB s x m).2):=by unfold yB;rw[i,n]
  rw[R];dsimp only;have j:Hid (∀ e w',YB H p b w w' e (VB s x m).2/\RnO (grow H w w') w' q1 s (VB s x m).1->YB F p b w w' (.returned (.tuple #[])) (VB s x m).2/\RsO (grow F w w') w' q s {t with runner:=some (VB s x m).1}):=hd' fun e w' hS=>by
   refine⟨⟨rfl,hS.1.wds,hS.1.only.weak fun k N=>N.imp (fun e=>(h2 k e).1) id⟩,.inl h1,q1,grow H w w',I w',?_,.inl i,fun z C=>?_,fun z C=>?_⟩
   ·have O:=h3.only hS.1.only (by rintro(e|e|e);exact D q e rfl;exact G e;exact E e);rw[n]at O;exact O
   ·have C:t.seeker=some z:=C;rw[i]at C;cases C
   simp only[Option.some.injEq]at C;subst C;exact hS.2
  rw[i]at c2;rw[n]at c3;replace c2:w.cell? ⟨q,2,.none⟩=some (.pointer none):=c2;replace c3:w.cell? ⟨q,3,.none⟩=some (.pointer (some ⟨q1,0,.none⟩)):=c3;have B:=hd' (fun w=>nV p w);replace o:=hd' o;clear R h1 h2 h3 h4 T U L J G E D I i n S Z hb V Y hs;go_in;go_wp2_with (first|(go_at_call 216;(with_reducible refine(B _).mono ?_);rintro r w2 ⟨rfl,M⟩;obtain rfl:=M.symm)|(go_at_call 217;(with_reducible refine o.out.mono ?_);rintro r w1 hS;obtain rfl:=hS.1.ret));go_returns;exact j _ _ hS
 have R:yB s t m=(t,m):=by unfold yB;rw[i,n]
 rw[R];dsimp only;have j:Hid (YB F p b w w (.returned (.tuple #[])) m/\RsO (grow F w w) w q s t):=hd' ⟨⟨rfl,S,Only.refl _ _⟩,RsO.weak ⟨h1,q1,H,h2,h3,h4,T,U⟩ fun k N=>.inl N⟩;rw[i]at c2;rw[n]at c3;replace c2:w.cell? ⟨q,2,.none⟩=some (.pointer none):=c2;replace c3:w.cell? ⟨q,3,.none⟩=some (.pointer none):=c3;have B:=hd' (fun w=>nV p w);have o:=hd' (fun w=>BV p w);clear R h1 h2 h3 h4 T U L J G E D I i n S Z hb V Y hs;go_in;go_wp2_with (first|(go_at_call 216;(with_reducible refine(B _).mono ?_);rintro r w1 ⟨rfl,b0⟩;obtain rfl:=b0.symm)|(go_at_call 217;(with_reducible refine(o _).mono ?_);rintro r w2 ⟨rfl,M⟩;obtain rfl:=M.symm));go_returns;exact j.out
def HM (w w':World) (e:Ending) (s:Sh) (t:Rs):Prop:=∃ q,e= .returned (.pointer (some ⟨q,0,.none⟩))/\RsO (fun k=> w.heap.size<=k/\k < w'.heap.size) w' q s t/\Below w.heap.size w w'
theorem DW(s:Sh)(c n f:Int)(w:World):
  Calls Tryz.prog 128 #[.agg #[s.p,s.c,s.m],c,n,f] w fun e w'=>HM w w' e s (CB s c n f):=by
 have b:=fun W=>rP n W;have j:=fun W=>CM n W;have E:=fun W=>z1m s c (BB n) f W;have D:=fun W=>z07 s c (runV n) W;obtain⟨O,U,H⟩:=hidv (CB s c n f);rw[<-H];clear H;have C:=(Below.refl w.heap.size w).alloc lr (.cells #[s.p,s.c,s.m] 23);have t0:=jA w (.cells #[s.p,s.c,s.m] 23);have I:(wi n 1 32=true/\O=⟨BB n,0,some (sD s c (BB n) f),none⟩)\/(wi n 1 32=false/\wi n 33 512=true/\O=⟨0,runV n,none,some (UC s c (runV n))⟩)\/(wi n 1 32=false/\wi n 33 512=false/\O=⟨0,0,none,none⟩):=by
  rw[U];unfold CB;cases h1:wi n 1 32
  ·cases h2:wi n 33 512
   ·exact .inr (.inr ⟨rfl,rfl,rfl⟩)
   exact .inr (.inl ⟨rfl,rfl,rfl⟩)
  exact .inl ⟨rfl,rfl⟩
 clear U;generalize hx:sD s c (BB n) f=x at *;generalize hy:UC s c (runV n)=y at *;have F:y.strip=none:=by rw[<-hy];rfl
 generalize BB n=k at *;generalize runV n=pg at *;clear hx hy;rcases I with⟨h1,h2⟩|⟨h1,h2,h3⟩|⟨h1,h2,h3⟩
 ·rw[h1]at b;clear h1 j D F;have i:Hid (∀ W Y e,jW w W->YN W Y e s x->∀ q1,e= .returned (.pointer (some ⟨q1,0,.none⟩))->HM w (Y.alloc (.cells (YF ⟨k,0,some x,none⟩ (.pointer (some ⟨q1,0,.none⟩)) (.pointer none)) 242)) (.returned (.pointer (some ⟨Y.heap.size,0,.none⟩))) s O):=hd' fun W Y e hb hS q1 B=>by
   obtain⟨⟨q,q2,Z,h4,L,h6⟩,R⟩:=hS;rw[Z]at B;obtain rfl:q=q1:=by injection B with B;injection B with B;injection B with B;injection B
   have T:=hb.size;have b0:=R.size;have o:(Y.alloc (.cells (YF ⟨k,0,some x,none⟩ (.pointer (some ⟨q,0,.none⟩)) (.pointer none)) 242)).heap.size=Y.heap.size+1:=by simp
   have G:=xA hb R;rw[h2];refine⟨Y.heap.size,rfl,⟨⟨by omega,by omega⟩,q,fun k=>w.heap.size<=k/\k<Y.heap.size,fun k S=>⟨⟨S.1,by omega⟩,by omega⟩,jA _ _,.inr rfl,fun z o=>?_,fun z o=>(by cases o)⟩,G.trans (br.alloc G.size _)⟩;simp only[Option.some.injEq]at o;subst o;have J:=L.row.lt;refine⟨⟨by omega,J⟩,q2,L.below (br.alloc lr _),fun V=>?_⟩;rcases hq:x.now with _|u
   ·exact absurd hq V
   have:=(L.inn u hq).1.lt;exact⟨by have:=h6 V;omega,this⟩
  clear h2;obtain⟨sp,M,N⟩:=s;dsimp only at E C t0 ⊢;replace b:=hd' b;replace E:=hd' E;go_in;go_upto_region 1 with fail;generalize w.alloc (.cells #[sp,M,N] 23)=W at *;have b1:=kA t0;clear t0;go_wp2_with (first|(go_at_call 104;refine(b _).mono ?_;rintro r X ⟨rfl,rfl⟩)|(go_at_call 148;refine(E _).mono ?_;rintro r w2 hS;obtain⟨q1,q2,rfl,_⟩:=id hS.at'));go_returns;exact i _ _ _ C hS _ rfl
 ·rw[h1]at b;rw[h2]at j;clear h1 h2 E;have i:Hid (∀ W Y e,jW w W->Born W Y e (TA s y (.pointer none)) 264->∀ q1,e= .returned (.pointer (some ⟨q1,0,.none⟩))->HM w (Y.alloc (.cells (YF ⟨0,pg,none,some y⟩ (.pointer none) (.pointer (some ⟨q1,0,.none⟩))) 242)) (.returned (.pointer (some ⟨Y.heap.size,0,.none⟩))) s O):=hd' fun W Y e hb hS q1 B=>by
   obtain⟨q,Z,h4,L,R⟩:=hS;rw[Z]at B;obtain rfl:q=q1:=by injection B with B;injection B with B;injection B with B;injection B
   have T:=hb.size;have b0:=R.size;have o:(Y.alloc (.cells (YF ⟨0,pg,none,some y⟩ (.pointer none) (.pointer (some ⟨q,0,.none⟩))) 242)).heap.size=Y.heap.size+1:=by simp
   have G:=xA hb R;rw[h3];refine⟨Y.heap.size,rfl,⟨⟨by omega,by omega⟩,q,fun k=>w.heap.size<=k/\k<Y.heap.size,fun k S=>⟨⟨S.1,by omega⟩,by omega⟩,jA _ _,.inl rfl,fun z o=>(by cases o),fun z o=>?_⟩,G.trans (br.alloc G.size _)⟩;simp only[Option.some.injEq]at o;subst o;have J:=L.lt;refine⟨⟨by omega,J⟩,0,⟨by rw[F];exact L.below (br.alloc lr _),fun z o=>by rw[F]at o;cases o⟩,fun V=>absurd F V⟩
  clear h3 F;obtain⟨sp,M,N⟩:=s;dsimp only at D C t0 i ⊢;generalize TA ⟨sp,M,N⟩ y (.pointer none)=b3 at *;replace b:=hd' b;replace j:=hd' j;replace D:=hd' D;go_in;go_upto_region 1 with fail;generalize w.alloc (.cells #[sp,M,N] 23)=W at *;have b2:=kA t0;clear t0;go_wp2_with (first|(go_at_call 104;refine(b _).mono ?_;rintro r X ⟨rfl,rfl⟩)|(go_at_call 56;refine(j _).mono ?_;rintro r X ⟨rfl,rfl⟩)|(go_at_call 149;refine(D _).mono ?_;rintro r w2 hS;obtain⟨q1,rfl,_⟩:=id hS));go_returns;exact i _ _ _ C hS _ rfl
 rw[h1]at b;rw[h2]at j;clear h1 h2 E D F;have i:Hid (∀ Y,jW w Y->HM w (Y.alloc (.cells (YF ⟨0,0,none,none⟩ (.pointer none) (.pointer none)) 242)) (.returned (.pointer (some ⟨Y.heap.size,0,.none⟩))) s O):=hd' fun Y hb=>by
  have T:=hb.size;have o:(Y.alloc (.cells (YF ⟨0,0,none,none⟩ (.pointer none) (.pointer none)) 242)).heap.size=Y.heap.size+1:=by simp
  rw[h3];exact⟨Y.heap.size,rfl,⟨⟨by omega,by omega⟩,0,fun k=>False,fun k S=>S.elim,jA _ _,.inl rfl,fun z o=>(by cases o),fun z o=>(by cases o)⟩,hb.trans (br.alloc hb.size _)⟩
 clear h3;obtain⟨sp,M,N⟩:=s;dsimp only at C t0 i ⊢;replace b:=hd' b;replace j:=hd' j;go_in;go_upto_region 1 with fail;generalize w.alloc (.cells #[sp,M,N] 23)=W at *;clear t0;go_wp2_with (first|(go_at_call 104;refine(b _).mono ?_;rintro r X ⟨rfl,rfl⟩)|(go_at_call 56;refine(j _).mono ?_;rintro r X ⟨rfl,rfl⟩));go_returns;exact i _ C
def gotV (o:Option Blk):Value:= .tuple #[.agg (QF (o.getD Blk.zero)),o.isSome]
theorem ypj{n:Nat}{w X:World}{E:Nat}{c0 c1 c2 c3 c4:Value}{y:TypeId}(q:aA X E #[c0,c1,c2,c3,c4] y)(hb:Below n w X)(b:n<=E)(f i j m o:Value):
  ∃ U,U=((((X.setCell ⟨E,0,.none⟩ f).setCell ⟨E,1,.none⟩ i).setCell ⟨E,2,.none⟩ j).setCell ⟨E,3,.none⟩ m).setCell ⟨E,4,.none⟩ o/\aA U E #[f,i,j,m,o] y/\Below n w U:=
 ⟨_,rfl,((((q.set 0 f).set 1 i).set 2 j).set 3 m).set 4 o,((((hb.setCell (p:=⟨E,0,.none⟩) b f).setCell (p:=⟨E,1,.none⟩) b i).setCell (p:=⟨E,2,.none⟩) b j).setCell (p:=⟨E,3,.none⟩) b m).setCell (p:=⟨E,4,.none⟩) b o⟩
def WG (f g:Bool) (a c k h n:Int):Option Blk:=if f=true then some ⟨false,a,c,k,0⟩ else if g=true then some ⟨true,h,0,0,n⟩ else none
theorem KN{w:World}{q:Nat}{u v:Option Addr}(k n a c h:Int)(f g:Bool)(Y:q<w.heap.size)(hc:∀ X,jW w X->X.cell? ⟨q,0,.none⟩=some (.int .i64 k)/\X.cell? ⟨q,1,.none⟩=some (.int .i64 n)/\X.cell? ⟨q,2,.none⟩=some (.pointer u)/\X.cell? ⟨q,3,.none⟩=some (.pointer v))(m:∀ X,jW w X->Calls Tryz.prog 169 #[.pointer u] X fun e w'=>e= .returned (.tuple #[.int .i64 (if f=true then a else 0),.int .i64 (if f=true then c else 0),f])/\Below X.heap.size X w')(j:∀ X,jW w X->Calls Tryz.prog 170 #[.pointer v] X fun e w'=>e= .returned (.tuple #[.int .i64 (if g=true then h else 0),g])/\w'=X):
  Calls Tryz.prog 158 #[some q] w fun e w'=>e= .returned (gotV (WG f g a c k h n))/\Below w.heap.size w w':=by
 have i:=(Below.refl w.heap.size w).alloc lr (.cells #[.bool false,.int .i64 0,.int .i64 0,.int .i64 0,.int .i64 0] 234);have G:aA (w.alloc (.cells #[.bool false,.int .i64 0,.int .i64 0,.int .i64 0,.int .i64 0] 234)) w.heap.size #[.bool false,.int .i64 0,.int .i64 0,.int .i64 0,.int .i64 0] 234:=jA _ _;have J:=G.lt;have M:q≠w.heap.size:=by omega
 obtain⟨L,a1,z,B,C,b,S,O,h1,h2,h3,h4,hb⟩:∃ (L:Bool) (a1 z B C:Int) (b:Bool),Hid (gotV (WG f g a c k h n)= .tuple #[.agg #[L,a1,z,B,C],b])/\Hid (L=(!f&&g))/\Hid (a1=if f=true then a else if g=true then h else 0)/\Hid (z=if f=true then c else 0)/\Hid (B=if f=true then k else 0)/\Hid (C=if f=true then 0 else if g=true then n else 0)/\Hid (b=(f||g)):=by refine⟨_,_,_,_,_,_,hd' ?_,hd' rfl,hd' rfl,hd' rfl,hd' rfl,hd' rfl,hd' rfl⟩;cases f<;>cases g<;>rfl
 rw[S];obtain⟨k0,k1,k2,Z⟩:=hc _ i;clear S Y k0 k1 Z;replace hc:=hd' hc;replace m:=hd' m;replace j:=hd' j;rcases f with _|_<;>rcases g with _|_;all_goals
  simp only[Bool.false_eq_true,if_false,if_true,Bool.not_false,Bool.not_true,Bool.true_and,Bool.false_and,Bool.or_false,Bool.or_true,Bool.false_or,Bool.true_or]at m j O h1 h2 h3 h4 hb;go_in;go_upto_region 1 with fail;generalize w.alloc (.cells #[.bool false,.int .i64 0,.int .i64 0,.int .i64 0,.int .i64 0] 234)=X at *;obtain⟨E,V,o⟩:=hidv w.heap.size;simp only[<-o]at G J M ⊢;have H:w.heap.size<=E:=by omega
  clear o;go_wp2_with (first|(go_at_call 169;(with_reducible refine(m _ i).mono ?_);rintro r w1 ⟨rfl,F⟩;have s:=i.trans (F.mono i.size);have p:=G.below F;obtain⟨z0,z1,z2,z3⟩:=hc _ s;have T:=p.cell;have ef:=GA p)|(go_at_call 170;(with_reducible refine(j _ s).mono ?_);rintro r w2 ⟨rfl,N⟩;obtain rfl:=N.symm));obtain⟨U,R,D,I⟩:=ypj p s H (.bool L) (.int .i64 a1) (.int .i64 z) (.int .i64 B) (.int .i64 C);rw[O,h1,h2,h3,h4]at R;rw[<-R];have r0:=ce (.bool L) (D.cell 0);have r1:=ci a1 (D.cell 1);have r2:=ci z (D.cell 2);have r3:=ci B (D.cell 3);have r4:=ci C (D.cell 4);exact bodyPost_ret (v:= .tuple #[.agg #[L,a1,z,B,C],b]) (by simp[results,Tryz.results158,go_sem,r0,r1,r2,r3,r4,hb.out]) rfl ⟨rfl,I⟩
theorem oI{F:Nat->Prop}{q:Nat}{s:Sh}{t:Rs}{w:World}(h:RsO F w q s t):
  Calls Tryz.prog 158 #[some q] w fun e w'=>e= .returned (gotV t.got)/\Below w.heap.size w w':=by
 obtain⟨h1,q1,H,h2,h3,h4,o,p⟩:=h;have hc:=fun X (b:Below w.heap.size w X)=>h3.below b;rcases MP t h4 with⟨x,i,j⟩|⟨x,i,j⟩|⟨i,j⟩
 ·obtain⟨_,q2,hs,_⟩:=o x i;have n:t.got=WG x.found false x.page x.slot t.k 0 t.pages:=by unfold Rs.got WG;rw[i];simp only[Bool.false_eq_true,if_false]
  rw[n];refine KN (u:=some ⟨q1,0,.none⟩) (v:=none) _ _ _ _ _ _ _ h3.lt (fun X b=>⟨(hc X b).cell 0,(hc X b).cell 1,?_,?_⟩) (fun X b=>(zt7 q1 s x _ X (hs.row.below b))) (fun X _=>LU X)
  ·exact((hc X b).cell 2).trans (by rw[i];rfl)
  exact((hc X b).cell 3).trans (by rw[j];rfl)
 ·obtain⟨_,q2,hs,_⟩:=p x j;have n:t.got=WG false x.found 0 0 t.k x.head t.pages:=by unfold Rs.got WG;rw[i,j];simp only[Bool.false_eq_true,if_false]
  rw[n];refine KN (u:=none) (v:=some ⟨q1,0,.none⟩) _ _ _ _ _ _ _ h3.lt (fun X b=>⟨(hc X b).cell 0,(hc X b).cell 1,?_,?_⟩) (fun X _=>(GU X).mono fun _ _ m=>⟨m.1,m.2 ▸ Below.refl _ _⟩) (fun X b=>zvi q1 s x _ X (hs.row.below b))
  ·exact((hc X b).cell 2).trans (by rw[i];rfl)
  exact((hc X b).cell 3).trans (by rw[j];rfl)
 have n:t.got=WG false false 0 0 t.k 0 t.pages:=by unfold Rs.got WG;rw[i,j];simp only[Bool.false_eq_true,if_false]
 rw[n];refine KN (u:=none) (v:=none) _ _ _ _ _ _ _ h3.lt (fun X b=>⟨(hc X b).cell 0,(hc X b).cell 1,?_,?_⟩) (fun X _=>(GU X).mono fun _ _ m=>⟨m.1,m.2 ▸ Below.refl _ _⟩) (fun X _=>LU X)
 ·exact((hc X b).cell 2).trans (by rw[i];rfl)
 exact((hc X b).cell 3).trans (by rw[j];rfl)
end

section

attribute [local go_sem] YF

open Go.RowKit

section

attribute [local go_sem] YF

variable {P:Program} {l:List Oper} {md:Region.Mode} {aF:Act} {W:World} {Q:Exit->Act->World->Prop} {x y:OB}

structure QS (W:World) (x:OB) (aF a:Act) (w:World) (M:Nat):Prop where
 state:a=aF.put (some x.d) (vptr M)
 below:Below W.heap.size W w
 new:W.heap.size<=M
 one:w.heap[M]?=some (.cells x.val x.t (0,0))
theorem yga(I:eJ l.toArray x y=true)(J:Region.noSelect l.toArray=true)(hp:vH x y)(T:RE P l Q aF x)(t:x.al<l.toArray.size/\x.st<l.toArray.size/\l.toArray.size<=y.al/\l.toArray.size<=y.st)(b0:ownB x y x.so=false)(H:∀ a w M,QS W x aF a w M->Q .normal a w) (f:Nat):∀ (listed:Array Bool) (aQ a:Act) (w:World),listed.size=l.toArray.size->WF W x y listed aQ a w->(∀ B,jW W B->wpAnyQ P .any (nopL x y l).toArray (tD B) (fun a=>a=aF) f listed aQ)->wpAny P .any l.toArray Q f listed a w:=by
 have fin:∀ (listed:Array Bool) (aQ a:Act) (w:World),listed.size=l.toArray.size->WF W x y listed aQ a w->Region.ready .any l.toArray listed= []->aQ=aF->Q .normal a w:=by
  intro listed aQ a w q n h0 e;have j:∀ i,i<l.toArray.size->listed.getD i false=true:=fun i hi=>by
   have:=all_in I q h0 (i+1) i (by omega) hi;have m:i<listed.size:=by omega
   simp only[Array.getD_eq_getD_getElem?,Array.getElem?_eq_getElem m,Option.getD_some]at this ⊢;exact this
  have Z:listed.getD y.al false=false:=by
   have:listed.size<=y.al:=by omega
   simp[Array.getElem?_eq_none this]
  obtain⟨M,N,h1,h2,h3,h4⟩:=n.there;rw[j _ t.1,Z,e]at h1;obtain⟨k1,O⟩:=h2 (j _ t.1);rw[j _ t.2.1]at O;exact H a w M ⟨h1,n.below,k1,by simpa using O⟩
 induction f with
 |zero=>
  intro listed aQ a w q n h;have h1:=h W br;have h0:Region.ready .any l.toArray listed= []:=by rw[<-vP (x:=x) (y:=y)];exact h1.1
  exact⟨h0,fin listed aQ a w q n h0 h1.2⟩
 |succ f ih=>
  intro listed aQ a w q n h
  refine⟨fun h0=>fin listed aQ a w q n h0 ((h W br).1 (by rw[vP];exact h0)),fun i hi=>?_⟩
  have s:i ∈ Region.ready .any (nopL x y l).toArray listed:=by rw[vP];exact hi
  obtain⟨L,o,r,X⟩:=mem_ready.1 hi
  have m:=tJ L
  have b2:i<l.toArray.size:=(jE r)
  have F:(listed.setIfInBounds i true).size=l.toArray.size:=by simpa using q
  cases hown:ownB x y i with
  |true=>
   have S:∀ B,jW W B->wpAnyQ P .any (nopL x y l).toArray (tD B) (fun a=>a=aF) f (listed.setIfInBounds i true) aQ:=fun B U=>
    dZ hown ⟨o,r⟩ ((h B U).2 i s)
   have src:∀ z:OB,RE P l Q aF z->ownB x y z.so=false->listed.getD z.so false=true->aQ.eval (.tmp z.src)=aF.eval (.tmp z.src):=fun z q r hl=>by
    obtain⟨oz,k1,O⟩:=q.src
    have h1:(nopL x y l).toArray[z.so]?=some oz:=by rw[IJ,k1];simp[r]
    have:=mM h1 O (KP I k1 _ O) _ listed aQ hl (h W br)
    show aQ.tmps.getD z.src undef=aF.tmps.getD z.src undef
    rw[Array.getD_eq_getD_getElem?,Array.getD_eq_getD_getElem?,this]
   have hc:i=x.al\/i=x.st:=by
    simp only[ownB,Bool.or_eq_true,beq_iff_eq]at hown
    omega
   rcases hc with e|e<;>subst e
   ·exact wpOp_mono (fun R w' D=>ih _ _ _ _ F D S) (z7g hp T n L)
   ·exact wpOp_mono (fun R w' D=>ih _ _ _ _ F D S) (z6q hp T n hi (src x T b0 (T.waits _ hi).2))
  |false=>
   obtain⟨qg,qx,qy,lx,ly⟩:=(eP I r).quiet hown
   have h0:(nopL x y l).toArray[i]?=some o:=by rw[IJ,r];simp[hown]
   obtain⟨v,b1,V⟩:=yieldsIn_of_qOp h0 ((h w n.below).2 i s)
   have hv:=vM h0 (KP I r) m V
   have S:∀ B,jW W B->wpAnyQ P .any (nopL x y l).toArray (tD B) (fun a=>a=aF) f (listed.setIfInBounds i true) (aQ.put o.dst v):=fun B U=>by
    obtain⟨u,_,G⟩:=yieldsIn_of_qOp h0 ((h B U).2 i s)
    have hu:=vM h0 (KP I r) m G
    rw[hv,<- hu];exact G
   have p:∀ k,Region.wanted o k=true:=fun k=>by unfold Region.wanted;rw[qg]
   have hq:∀ w',tD w w'->o.quietAt P aQ (tD w) w' v:=by
    rcases b1 with⟨_,h2⟩|⟨h2,_⟩
    ·exact h2
    ·rw[p]at h2;cases h2
   obtain⟨M,N,h1,_⟩:=n.there
   have Y:execOp a.eval o=execOp aQ.eval o:=execOp_congr o (fun cs b=>Region.noSelect_spec J i o cs b r) fun z q=>by
    rw[h1,OH (kP lx z q),OH (kP ly z q)]
   unfold wpOp
   rw[r]
   simp only[p,if_true]
   refine .inl (Oper.wp_of_quiet (C:=tD w) (K:=fun R=>R=a.put o.dst v) br (fun R w' E e=>ih _ _ _ _ F (z1u m n hown qx qy E e) S) ⟨v,fun w' E=>?_,rfl⟩)
   have:=hq w' E
   unfold Oper.quietAt at *
   rw[Y];exact this
theorem zkt{E:Nat}{a:Act}{l':List Oper}(t:P.follows .mixedOrders=true)(s:nopF x y 0 l=l')(o:Region.lexB .any l'.toArray=true)(b:eJ l.toArray x y=true)(n:Region.noSelect l.toArray=true)(z:vH x y)(p:x.al<l.toArray.size/\x.st<l.toArray.size/\l.toArray.size<=y.al/\l.toArray.size<=y.st) (q:ownB x y x.so=false) (j:x.d<a.tmps.size/\y.d<a.tmps.size)(f:∃ aF,(∀ B,jW W B->wpQuiet P l'.toArray (fun w'=>∃ e:Ext B,w'=e.w) (fun r=>r=aF) l' a)/\RE P l Q aF x/\
   ∀ a w M,QS W x aF a w M->Q .normal a w):(Code.region E l.toArray true).wp P Q a W:=by
 subst s;obtain⟨aF,h,D,i⟩:=f;rw[<-iZ]at o h;simp only[Region.lexB,jC]at o;have m:(nopL x y l).length=l.toArray.size:=by simp[nopL]
 refine wp_region_any t (yga (W:=W.drew) b n z D p q (fun a w M b=>i a w M ⟨b.state,⟨b.below.os,b.below.tape,b.below.output,b.below.size,b.below.block⟩,b.new,b.one⟩) l.toArray.size _ a a _ (by simp) ⟨Below.refl _ _,j,⟨fun e=>?_,fun e=>?_⟩,⟨0,0,?_,fun e=>?_,fun e=>?_,fun e=>?_⟩⟩ fun B hb=>?_)
 ·rw[getD_replicate_false]at e;cases e
 ·rw[getD_replicate_false]at e;cases e
 ·rw[getD_replicate_false,getD_replicate_false];rfl
 ·rw[getD_replicate_false]at e;cases e
 ·rw[getD_replicate_false]at e;cases e
 ·rw[getD_replicate_false]at e;cases e
 have h3:=h B ⟨hb.os,hb.tape,hb.output,hb.size,hb.block⟩;rw[<-vW]at h3
 have:=wpAnyQ_lex (C:=tD B) (md:= .any) o.1 (nopL x y l) 0 (Array.replicate l.toArray.size false) a (by simp) (by
  have h2:=o.2
  simpa[nopL] using h2) h3
 rw[m]at this;exact this
end

end

section

attribute [local go_sem] YF

open Go.RowKit

attribute [local go_sem ↓] Go.wp_at_zero Go.wp_at_succ

def RA (s:Sh) (t:Fe) (pv:Value):Array Value:= #[s.p,s.c,s.m,t.c,t.a,t.page,t.slot,.int .u64 t.word,t.pk,t.pa,t.pb,t.next,t.i,pv,t.gave,t.done]
attribute [local go_sem] RA

structure FeAt (w:World) (q q2:Nat) (s:Sh) (t:Fe):Prop where
 row:aA w q (RA s t (ptrV t.put q2)) 246
 inn:∀ x,t.put=some x->aA w q2 (UD s x) 318/\q≠q2
theorem WO(q:Nat)(cs:Array Value)(v:Bool)(w:World)(h:aA w q cs 246)(b:cs[15]?=some (.bool v)):Calls Tryz.prog 162 #[some q] w fun e w'=>e= .returned (.bool v)/\w'=w:=by
 have c:=(h.cell 15).trans b;clear h b;go_in;go_wp2_with fail;go_returns;exact⟨rfl,rfl⟩
theorem gL(q:Nat)(cs:Array Value)(v:Bool)(w:World)(h:aA w q cs 246)(b:cs[14]?=some (.bool v)):Calls Tryz.prog 163 #[some q] w fun e w'=>e= .returned (.bool v)/\w'=w:=by
 have c:=(h.cell 14).trans b;clear h b;go_in;go_wp2_with fail;go_returns;exact⟨rfl,rfl⟩
theorem zoc(w:World):Calls Tryz.prog 163 #[.pointer none] w fun e w'=>e= .returned (.bool false)/\w'=w:=by
 go_in;go_wp2_with fail;go_returns;exact⟨rfl,rfl⟩
theorem MM(s:Sh)(a:Int)(w:World):Calls Tryz.prog 126 #[.agg #[s.p,s.c,s.m],a] w fun e w'=>e= .returned (.tuple #[.int .i64 (if spB s a=true then a/64 else 0),.int .i64 (if spB s a=true then a%64 else 0),.bool (spB s a)])/\Below w.heap.size w w':=by
 refine(z0r s.p s.c s.m a w).mono ?_;rintro e w' ⟨rfl,hb⟩;refine⟨?_,hb⟩;have h:splitB s.p s.c s.m a=spB s a:=rfl;rw[h];cases spB s a<;>rfl
theorem JV(s:Sh)(c a:Int)(w:World):
  Calls Tryz.prog 129 #[.agg #[s.p,s.c,s.m],c,a] w fun e w'=>Born w w' e (RA s (nB s c a) (.pointer none)) 246:=by
 have q:=fun W=>kC s.p s.c s.m c W;have i:=fun W=>MM s a W;have D:RA s (nB s c a) (.pointer none)= #[.int .i64 s.p,.int .i64 s.c,.int .i64 s.m,.int .i64 c,.int .i64 a,.int .i64 (if spB s a=true then a/64 else 0),.int .i64 0,.int .u64 0,.int .i64 0,.int .i64 0,.int .i64 0,.int .i64 0,.int .i64 0,.pointer none,.bool false,.bool (!spB s a||decide (zA s.p s.c s.m c<0))]:=rfl;rw[D];clear D;generalize zA s.p s.c s.m c=E at *;generalize (if spB s a=true then a/64 else 0)=d at *;generalize (if spB s a=true then a%64 else 0)=f at *;generalize spB s a=g at *;obtain⟨sp,z,B⟩:=s;dsimp only at q i ⊢;replace q:=hd' q;replace i:=hd' i;have j:=(Below.refl w.heap.size w).alloc lr (.cells #[sp,z,B] 23);have t0:=jA w (.cells #[sp,z,B] 23);go_in;go_upto_region 1 with fail;generalize w.alloc (.cells #[sp,z,B] 23)=W at *;obtain⟨H,I,o⟩:=hidv w.heap.size;rw[<-o]at t0 ⊢;have J:H<W.heap.size:=(jE t0);have c0:W.cell? ⟨H,0,.none⟩=some (.int .i64 sp):=kA t0 0;have c1:W.cell? ⟨H,1,.none⟩=some (.int .i64 z):=kA t0 1;have c2:W.cell? ⟨H,2,.none⟩=some (.int .i64 B):=kA t0 2;clear o t0;go_upto_region 2 with(first|(go_at_call 126;refine(i _).mono ?_;rintro r L ⟨rfl,b⟩;have F:=iA b _ _ _ c0;have d1:=iA b _ _ _ c1;have d2:=iA b _ _ _ c2;have G:=bG F));clear c0 c1 c2;rcases(by cases g<;>simp<;>omega:g=false\/(g=true/\E<0)\/(g=true/\¬ E<0)) with rfl|⟨rfl,h1⟩|⟨rfl,h1⟩;all_goals
  try have q1:=jF h1
  refine wret 13 ?_;repeat (go_big_quiet_step (((go_at_call 44;exact AA (q _)))))
  refine wqn fun X C=>?_;have n:=C;go_wp2_with fail;go_returns
 ·exact RB j (xA b n) rfl
 ·exact RB j (xA b n) (by simp[h1])
 exact RB j (xA b n) (by simp[h1])
theorem vV(q q2:Nat)(s:Sh)(t:Fe)(x:Pu)(w:World)(h:FeAt w q q2 s t)(n:t.put=some x):
  Calls Tryz.prog 233 #[some q] w fun e w'=>Turned q w w' e (RA s t.kept (.pointer (some ⟨q2,0,.none⟩))) 246:=by
 obtain⟨m,G⟩:=h.inn x n;have j:=z4h q2 (UD s x) x.put w m rfl;have i:=zxw q2 (UD s x) x.done w m rfl;have h0:At1 q w w (RA s t (.pointer (some ⟨q2,0,.none⟩))) 246:=At1.start (by have:=h.row;rw[n]at this;exact this);have o:=dH t x n;obtain⟨D,b⟩:∃ D,D=t.kept:=⟨_,rfl⟩;rw[<-b]at o ⊢;clear b h n m;generalize UD s x=H at *;generalize x.put=g at *;generalize x.done=d at *;obtain⟨sp,I,J⟩:=s;obtain⟨M,L,N,R,T,pk,pa,pb,S,O,E,C,B⟩:=t;dsimp only at o;replace j:=hd' j;replace i:=hd' i;have F:=h0.cell;have X:=h0.free;rcases o with⟨rfl,b⟩|⟨rfl,rfl,b⟩|⟨rfl,rfl,b⟩;all_goals replace b:=hd' b;go_in;go_wp2_with (first|(go_at_call 238;(with_reducible refine j.out.mono ?_);rintro r U ⟨rfl,p⟩;obtain rfl:=p.symm)|(go_at_call 239;(with_reducible refine i.out.mono ?_);rintro r V ⟨rfl,z⟩;obtain rfl:=z.symm));go_returns
 ·exact(h0.set 15 _).fin (by rw[b];rfl)
 ·exact(h0.set 11 _).fin (by rw[b];rfl)
 exact h0.fin (by rw[b])
theorem zvp(q p b:Nat)(s:Sh)(t:Fe)(pv:Value)(m:Mem)(w:World)(h0:At3 q p b w w (RA s t pv) 246 m)(O:Fits s m)(hs:m.st<1000000000)(H:0<=t.page/\t.page<s.p)(R:1<=t.pa/\t.pa<=8/\t.pa<=s.p-t.page)(hi:0<=t.i/\t.i<t.pa):
  Calls Tryz.prog 237 #[some q,some p] w fun e w'=>e= .returned (.tuple #[])/\At3 q p b w w' (RA s (if t.i=t.pa-1 then {t with done:=true} else {t with i:=t.i+1}) pv) 246 (if t.i=t.pa-1 then m.store t.c (pA s.p s.c s.m t.page) 0 else m.store t.c (pA s.p s.c s.m (t.page+t.i+1)) 0):=by
 have N:=O.bd;have w1:=wrp (t.pa-1);have T:=wrp (t.i+1);have w3:=wrp (t.page+t.i);have w4:=wrp (t.page+t.i+1);by_cases o:t.i=t.pa-1
 ·rw[jP o,jP o];have F:(t.i==t.pa-1)=true:=by simpa using o
  obtain⟨C,B⟩:=O.page H;have j:=fun Y=>EB s.p s.c s.m t.page Y;rw[C]at j ⊢;have n:=fun Y (hY:oA Y p b m)=>nC p b m t.c (s.c+t.page) 0 Y hY B (by decide) hs;generalize s.c+t.page=pg at *;clear C B H R hi N O T w3 w4 o;obtain⟨sp,sc,sm⟩:=s;obtain⟨tc,ta,tg,tl,tw,pk,pa,pb,tn,ti,S,L,J⟩:=t;dsimp only at j n w1 F ⊢;replace j:=hd' j;replace n:=hd' n;have lq:=h0.lt;have U:=h0.cell;go_in;go_upto_region 0 with fail;refine wre ?_;repeat (go_big_quiet_step (fail))
  refine wqn fun X z=>?_;have D:=h0.below z;clear U lq;have V:=D.cell;go_upto_region 1 with fail;have lX:=D.lt;refine wret 14 ?_;repeat (go_big_quiet_step (((go_at_call 112;exact AA (j _)))))
  refine wqn fun Z z=>?_;have M:=D.below z;clear V D lX;go_wp2_with (go_at_call 218;(with_reducible refine(n _ M.wds).mono ?_);rintro r T ⟨rfl,I,G⟩;have E:=M.access I G;have b2:=E.cell;have zf:=E.free);go_returns;exact⟨rfl,E.set 15 _⟩
 rw[jN o,jN o];have F:(t.i==t.pa-1)=false:=by simpa using o
 obtain⟨C,B⟩:=O.page (x:=t.page+t.i+1) (by omega);have j:=fun Y=>EB s.p s.c s.m (t.page+t.i+1) Y;rw[C]at j ⊢;have n:=fun Y (hY:oA Y p b m)=>nC p b m t.c (s.c+(t.page+t.i+1)) 0 Y hY B (by decide) hs;generalize s.c+(t.page+t.i+1)=pg at *;clear C B H R hi N O o;obtain⟨sp,sc,sm⟩:=s;obtain⟨tc,ta,tg,tl,tw,pk,pa,pb,tn,ti,S,L,J⟩:=t;dsimp only at j n w1 T w3 w4 F ⊢;replace j:=hd' j;replace n:=hd' n;have lq:=h0.lt;have b0:=h0.cell;go_in;go_upto_region 0 with fail;refine wre ?_;repeat (go_big_quiet_step (fail))
 refine wqn fun X z=>?_;have D:=h0.below z;clear b0 lq;have b1:=D.cell;go_upto_region 3 with fail;have lX:=D.lt;refine wret 20 ?_;repeat (go_big_quiet_step (((go_at_call 112;exact AA (j _)))))
 refine wqn fun Z z=>?_;have M:=D.below z;clear b1 D lX;go_wp2_with (go_at_call 218;(with_reducible refine(n _ M.wds).mono ?_);rintro r T ⟨rfl,I,G⟩;have E:=M.access I G;have b3:=E.cell;have zf:=E.free);go_returns;exact⟨rfl,E.set 12 _⟩
def DA (s:Sh) (t:Ad):Array Value:= #[s.p,s.c,s.m,t.c,t.d,t.next,.int .u64 t.was,t.who,t.at',t.i,t.pk,t.pa,t.pb,t.err,t.done]
attribute [local go_sem] DA

theorem zxq(q:Nat)(cs:Array Value)(v:Bool)(w:World)(h:aA w q cs 252)(b:cs[14]?=some (.bool v)):Calls Tryz.prog 253 #[some q] w fun e w'=>e= .returned (.bool v)/\w'=w:=by
 have c:=(h.cell 14).trans b;clear h b;go_in;go_wp2_with fail;go_returns;exact⟨rfl,rfl⟩
theorem BJ(q:Nat)(s:Sh)(t:Ad)(x:Int)(w:World)(i:aA w q (DA s t) 252):
  Calls Tryz.prog 152 #[some q,x] w fun e w'=>Turned q w w' e (DA s (t.fin x)) 252:=by
 have h0:=At1.start i;clear i;obtain⟨sp,o,p⟩:=s;obtain⟨z,B,D,E,n,r,C,pk,pa,pb,j,b⟩:=t;have m:=h0.cell;have F:=h0.free;go_in;go_wp2_with fail;go_returns;exact((h0.set 13 _).set 14 _).fin rfl
theorem z0i(q:Nat)(s:Sh)(t:Ad)(w:World)(b:aA w q (DA s t) 252):
  Calls Tryz.prog 266 #[some q] w fun e w'=>e= .returned (.int .i64 t.err)/\w'=w:=by
 have i:=b.cell;clear b;go_in;go_wp2_with fail;go_returns;exact⟨rfl,rfl⟩
theorem FP(s:Sh)(t:Ad)(again next:Int):(t.at'+1=s.p/\next=9/\s.m=0/\t.turn s again next= {t with at':=0,i:=0,next:=10})\/(t.at'+1=s.p/\next=9/\(s.m==0)=false/\t.turn s again next= {t with at':=0,i:=0,next:=9})\/(t.at'+1=s.p/\(next==9)=false/\t.turn s again next= {t with at':=0,i:=0,next:=next})
  \/((t.at'+1==s.p)=false/\again=9/\s.m=0/\t.turn s again next= {t with at':=t.at'+1,next:=10})\/((t.at'+1==s.p)=false/\again=9/\(s.m==0)=false/\t.turn s again next= {t with at':=t.at'+1,next:=9})\/((t.at'+1==s.p)=false/\(again==9)=false/\t.turn s again next= {t with at':=t.at'+1,next:=again}):=by
 by_cases h1:t.at'+1=s.p<;>by_cases h2:next=9<;>by_cases h3:s.m=0<;>by_cases h4:again=9<;>simp[Ad.turn,h1,h2,h3,h4]
theorem IH(q:Nat)(s:Sh)(t:Ad)(again next:Int)(w:World)(z:aA w q (DA s t) 252)(G:0<=t.at'/\t.at'<64):
  Calls Tryz.prog 261 #[some q,again,next] w fun e w'=>Turned q w w' e (DA s (t.turn s again next)) 252:=by
 have h0:=At1.start z;clear z;have o:=FP s t again next
 have L:=wrp (t.at'+1);obtain⟨B,b⟩:∃ B,B=t.turn s again next:=⟨_,rfl⟩
 rw[<-b]at o ⊢;clear b G;obtain⟨sp,N,O⟩:=s;obtain⟨R,S,V,Y,J,I,T,pk,pa,pb,C,r⟩:=t;dsimp only at o L;have j:=h0.cell;have D:=h0.free;go_in;go_upto_region 2 with fail;have m:=(h0.set 8 (.int .i64 (I+1))).set 5 (.int .i64 again);generalize World.setCell _ ⟨q,5,.none⟩ (.int .i64 again)=U at *;clear j h0 D;have E:=m.cell;have M:=m.lt;refine wre ?_;repeat (go_big_quiet_step (fail))
 refine wqn fun X n=>?_;have i:=m.below n;have F:=i.cell;have D:=i.free;rcases o with⟨hs,rfl,p,b⟩|⟨hs,rfl,p,b⟩|⟨hs,H,b⟩|⟨hs,rfl,p,b⟩|⟨hs,rfl,p,b⟩|⟨hs,H,b⟩;all_goals
  replace b:=hd' b;try subst hs
  go_wp2_with fail;go_returns
 ·exact((((i.set 8 _).set 9 _).set 5 _).set 5 _).fin (by rw[b];rfl)
 ·exact(((i.set 8 _).set 9 _).set 5 _).fin (by rw[b];rfl)
 ·exact(((i.set 8 _).set 9 _).set 5 _).fin (by rw[b];rfl)
 ·exact(i.set 5 _).fin (by rw[b];rfl)
 ·exact i.fin (by rw[b];rfl)
 exact i.fin (by rw[b];rfl)
theorem TU(q:Nat)(s:Sh)(t:Ad)(w:World)(J:aA w q (DA s t) 252)(H:0<=t.at'/\t.at'<64)(hi:0<=t.i/\t.i<16):
  Calls Tryz.prog 255 #[some q] w fun e w'=>Turned q w w' e (DA s (t.slot s)) 252:=by
 have h0:=At1.start J;clear J;unfold Ad.slot;have m:=fun W=>XC t.pa W;have n:=fun Y (S:aA Y q (DA s {t with i:=0,next:=11}) 252)=>IH q s {t with i:=0,next:=11} 10 13 Y S H;have M:=wrp (t.i+1);have j:t.i+1=mA t.pa\/(¬ t.i+1=mA t.pa/\(t.i+1==mA t.pa)=false):=by
  by_cases h:t.i+1=mA t.pa
  ·exact .inl h
  exact .inr ⟨h,by simpa using h⟩
 obtain⟨D,b,o⟩:∃ D:Ad,Hid (D=if t.i+1=mA t.pa then({t with i:=0,next:=11}:Ad).turn s 10 13 else {t with i:=t.i+1,next:=11})/\D=_:=⟨_,hd' rfl,rfl⟩;rw[<-o];clear o;generalize mA t.pa=sv at *;obtain⟨sp,sc,sm⟩:=s;obtain⟨tc,td,tn,tw,T,ta,V,pk,pa,pb,L,E⟩:=t;dsimp only at m n j b M;clear H hi;replace m:=hd' m;replace n:=hd' n;have z:=h0.cell;have N:=h0.free;go_in;go_upto_region 2 with fail;have B:=(h0.set 9 (.int .i64 (V+1))).set 5 (.int .i64 11);generalize World.setCell _ ⟨q,5,.none⟩ (.int .i64 11)=U at *;clear z h0 N;have O:=B.cell;have Z:=B.lt;refine wre ?_;repeat (go_big_quiet_step (((go_at_call 75;exact oG ((m _).mono fun _ _ h=>⟨h.1,h.2⟩)))))
 refine wqn fun X C=>?_;have p:=B.below C;rcases j with j|⟨I,j⟩
 ·subst j;replace b:=hd' (b.out.trans (jP rfl));have R:=p.cell;have N:=p.free;have F:=p.set 9 (.int .i64 0);go_wp2_with (go_at_call 261;(with_reducible refine(n _ F.row).mono ?_);rintro r M G;obtain rfl:=G.ret);go_returns;exact(F.turned G).fin (by rw[b])
 replace b:=hd' (b.out.trans (jN I));clear I;go_wp2_with fail;go_returns;exact p.fin (by rw[b];rfl)
theorem rs2(x:Int)(w:World)(h0:0<=x/\x<18446744073709551616):
  Calls Tryz.prog 101 #[.int .u64 x] w fun e w'=>e= .returned (.tuple #[.int .i64 (QD x),.int .i64 (oD x)])/\Below w.heap.size w w':=by
 refine(AO x w h0.1 h0.2).mono ?_;rintro e w' ⟨hb,rfl⟩;refine⟨?_,hb⟩;have h:(WA (PA x) (nA x 0)==x)=UH x:=rfl;rw[h];unfold QD oD;cases UH x<;>rfl
theorem z2a(s:Sh)(c d:Int)(w:World):
  Calls Tryz.prog 131 #[.agg #[s.p,s.c,s.m],c,d] w fun e w'=>Born w w' e (DA s (jD s c d)) 252:=by
 have z:=fun W=>kC s.p s.c s.m c W;have C:=fun W=>kC s.p s.c s.m d W;have j:=fun k Y (hY:aA Y k (DA s ⟨c,d,0,0,0,0,0,0,0,0,0,false⟩) 252)=>BJ k s ⟨c,d,0,0,0,0,0,0,0,0,0,false⟩ 1 Y hY;obtain⟨t2,i,N⟩:∃ t2:Ad,Hid (t2=if zA s.p s.c s.m c<0\/zA s.p s.c s.m d<0\/c=d then(⟨c,d,0,0,0,0,0,0,0,0,0,false⟩:Ad).fin 1 else⟨c,d,0,0,0,0,0,0,0,0,0,false⟩)/\t2=jD s c d:=⟨_,hd' rfl,rfl⟩;rw[<-N];clear N;generalize zA s.p s.c s.m c=U at *;generalize zA s.p s.c s.m d=X at *;obtain⟨sp,G,I⟩:=s;dsimp only at z C;replace z:=hd' z;replace C:=hd' C;replace j:=hd' j;have J:=(Below.refl w.heap.size w).alloc lr (.cells #[sp,G,I] 23);have t0:=jA w (.cells #[sp,G,I] 23);go_in;go_upto_region 1 with fail;generalize w.alloc (.cells #[sp,G,I] 23)=W at *;obtain⟨H,hH,S⟩:=hidv w.heap.size;rw[<-S]at t0 ⊢;have L:aA W H #[sp,G,I] 23:=t0;have lH:H<W.heap.size:=L.lt;obtain⟨c0,c1,c2⟩:=ci3 sp G I L.cell;clear t0 S;have b0:=hd' J.size;go_upto_region 2 with fail;have R:aA (W.alloc (.cells (DA ⟨sp,G,I⟩ ⟨c,d,0,0,0,0,0,0,0,0,0,false⟩) 252)) W.heap.size (DA ⟨sp,G,I⟩ ⟨c,d,0,0,0,0,0,0,0,0,0,false⟩) 252:=jA _ _;have E:=J.trans ((Below.refl w.heap.size W).alloc J.size (.cells (DA ⟨sp,G,I⟩ ⟨c,d,0,0,0,0,0,0,0,0,0,false⟩) 252));have M:=L.alloc (.cells (DA ⟨sp,G,I⟩ ⟨c,d,0,0,0,0,0,0,0,0,0,false⟩) 252);dsimp only[DA]at R E M j;generalize W.alloc (.cells #[sp,G,I,c,d,.int .i64 0,.int .u64 0,.int .i64 0,.int .i64 0,.int .i64 0,.int .i64 0,.int .i64 0,.int .i64 0,.int .i64 0,.bool false] 252)=V at *;obtain⟨K,hK,O⟩:=hidv W.heap.size;rw[<-O]at R ⊢;have q:w.heap.size<=K:=O ▸ b0.out;have b2:H<V.heap.size:=M.lt;have b3:K<V.heap.size:=R.lt;clear O c0 c1 c2 lH L J;obtain⟨c0,c1,c2⟩:=ci3 sp G I M.cell;clear M;have b1:U<0\/(0<=U/\X<0)\/(0<=U/\0<=X/\c=d)\/(0<=U/\0<=X/\(c==d)=false):=by
  by_cases h1:U<0
  ·exact .inl h1
  by_cases h2:X<0
  ·exact .inr (.inl ⟨by omega,h2⟩)
  by_cases h:c=d
  ·exact .inr (.inr (.inl ⟨by omega,by omega,h⟩))
  exact .inr (.inr (.inr ⟨by omega,by omega,by simpa using h⟩))
 rcases b1 with h1|⟨h1,h2⟩|⟨h1,h2,rfl⟩|⟨h1,h2,h3⟩;case inr.inr.inr=>replace i:=hd' (i.out.trans (jN (by rintro(h|h|h)<;>first|omega|(rw[h]at h3;simp at h3))));clear j;go_wp2_with (first|(go_at_call 44;(with_reducible refine(z _).mono ?_);rintro r w1 ⟨rfl,b⟩;have Z:=iA b _ _ _ c0;have d1:=iA b _ _ _ c1;have d2:=iA b _ _ _ c2;have B:=R.below b)|(go_at_call 44;(with_reducible refine(C _).mono ?_);rintro r w2 ⟨rfl,n⟩;have F:=B.below n));go_returns;exact⟨K,rfl,q,by rw[i];exact F,xA (xA E b) n⟩
 case inl=>replace i:=hd' (i.out.trans (jP (.inl h1)));go_wp2_with (first|(go_at_call 44;refine(z _).mono ?_;rintro r w1 ⟨rfl,b⟩;have Z:=iA b _ _ _ c0;have d1:=iA b _ _ _ c1;have d2:=iA b _ _ _ c2;have B:=R.below b)|(go_at_call 152;(with_reducible refine(j _ _ B).mono ?_);rintro r w3 D;obtain rfl:=D.ret));go_returns;have o:=xA E b;exact⟨K,rfl,q,by rw[i];exact D.row,o.trans (D.only.below o.size fun k T=>by rw[T];exact q)⟩
 case inr.inl=>replace i:=hd' (i.out.trans (jP (.inr (.inl h2))));go_wp2_with (first|(go_at_call 44;(with_reducible refine(z _).mono ?_);rintro r w1 ⟨rfl,b⟩;have Z:=iA b _ _ _ c0;have d1:=iA b _ _ _ c1;have d2:=iA b _ _ _ c2;have B:=R.below b)|(go_at_call 44;(with_reducible refine(C _).mono ?_);rintro r w2 ⟨rfl,n⟩;have F:=B.below n)|(go_at_call 152;(with_reducible refine(j _ _ F).mono ?_);rintro r w3 D;obtain rfl:=D.ret));go_returns;have o:=xA (xA E b) n;exact⟨K,rfl,q,by rw[i];exact D.row,o.trans (D.only.below o.size fun k T=>by rw[T];exact q)⟩
 case inr.inr.inl=>replace i:=hd' (i.out.trans (jP (.inr (.inr rfl))));go_wp2_with (first|(go_at_call 44;(with_reducible refine(z _).mono ?_);rintro r w1 ⟨rfl,b⟩;have Z:=iA b _ _ _ c0;have d1:=iA b _ _ _ c1;have d2:=iA b _ _ _ c2;have B:=R.below b)|(go_at_call 44;(with_reducible refine(C _).mono ?_);rintro r w2 ⟨rfl,n⟩;have F:=B.below n)|(go_at_call 152;(with_reducible refine(j _ _ F).mono ?_);rintro r w3 D;obtain rfl:=D.ret));go_returns;have o:=xA (xA E b) n;exact⟨K,rfl,q,by rw[i];exact D.row,o.trans (D.only.below o.size fun k T=>by rw[T];exact q)⟩
end

end Go.Proofs.YtkilokkopbajkaaGreat
