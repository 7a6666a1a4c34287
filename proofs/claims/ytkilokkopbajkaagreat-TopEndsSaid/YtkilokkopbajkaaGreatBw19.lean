
import Derived.Test.YtkilokkopbajkaaGreatBw16

import Derived.Test.YtkilokkopbajkaaGreatBw17

import Derived.Test.YtkilokkopbajkaaGreatBw18

set_option linter.all false
set_option maxHeartbeats 1000000
namespace Go.Proofs.YtkilokkopbajkaaGreat

open RowKit

attribute [local go_sem ↓] wp_at_zero wp_at_succ

attribute [local go_sem] UA aG

def grow (F:Nat->Prop) (w w':World):Nat->Prop:=λk=>F k\/(w.heap.size<=k/\k<w'.heap.size)
theorem z2p{F G:Nat->Prop}{w w':World}(h:∀k,F k->G k):∀k,grow F w w' k->grow G w w' k:=λk e=>e.imp (h k) id
def SkO (F:Nat->Prop) (w:World) (q:Nat) (s:Sh) (t:Sk):Prop:=F q/\∃q2,SkAt w q q2 s t/\(t.now≠none->F q2)
def RnO (F:Nat->Prop) (w:World) (q:Nat) (s:Sh) (t:Rn):Prop:=F q/\∃q2,RnAt w q q2 s t/\(t.strip≠none->F q2)
theorem RnAt.rK{w w':World}{q q2:Nat}{s:Sh}{t:Rn}{G:Nat->Prop}(h:RnAt w q q2 s t)(f:Only G w w')(h1:¬G q)(h2:t.strip≠none->¬G q2):RnAt w' q q2 s t:=
 ⟨h.row.only f h1,λx b=>⟨(h.inn x b).1.only f (h2 (by rw[b];exact λe=>by cases e)),(h.inn x b).2⟩⟩
theorem SkAt.rK{w w':World}{q q2:Nat}{s:Sh}{t:Sk}{G:Nat->Prop}(h:SkAt w q q2 s t)(f:Only G w w')(h1:¬G q)(h2:t.now≠none->¬G q2):SkAt w' q q2 s t:=
 ⟨h.row.only f h1,λx b=>⟨(h.inn x b).1.only f (h2 (by rw[b];exact λe=>by cases e)),(h.inn x b).2⟩⟩
theorem SkO.only{F G:Nat->Prop}{w w':World}{q:Nat}{s:Sh}{t:Sk}(h:SkO F w q s t)(b:Only G w w')(hd:∀k,F k->¬G k):SkO F w' q s t:=by
 obtain⟨h1,q2,h2,h3⟩:=h;exact⟨h1,q2,h2.rK b (hd q h1) (λe=>hd q2 (h3 e)),h3⟩
theorem RnO.only{F G:Nat->Prop}{w w':World}{q:Nat}{s:Sh}{t:Rn}(h:RnO F w q s t)(b:Only G w w')(hd:∀k,F k->¬G k):RnO F w' q s t:=by
 obtain⟨h1,q2,h2,h3⟩:=h;exact⟨h1,q2,h2.rK b (hd q h1) (λe=>hd q2 (h3 e)),h3⟩
structure cC (F:Nat->Prop) (p b:Nat) (w w':World) (e:Ending) (m:Mem):Prop where
 ret:e=.returned (.tuple #[])
 wds:oA w' p b m
 only:Only (λk=>F k\/k=p\/k=b) w w'
theorem z5m{F:Nat->Prop}{q p b:Nat}{s:Sh}{t:Sk}{m:Mem}{w:World}(h:SkO F w q s t)(n:oA w p b m)(o:¬F p)(hb:¬F b)(r:Fits s m)(z:skOk s t)(hs:m.st<1000000000):
  Calls Tryz.prog 216 #[some q,some p] w λe w'=>cC F p b w w' e (AB s t m).2/\SkO (grow F w w') w' q s (AB s t m).1:=by
 obtain⟨h1,q2,h2,h3⟩:=h;have key:∀now e w',(now=true->F q2)->rH q q2 p b now w w' e s (AB s t m).1 (AB s t m).2->cC F p b w w' e (AB s t m).2/\SkO (grow F w w') w' q s (AB s t m).1:=λnow e w' y hS=>by
  obtain⟨q3,h4,i⟩:=hS.at';refine⟨⟨hS.ret,hS.wds,hS.only.weak λk j=>?_⟩,.inl h1,q3,h4,λl=>?_⟩
  .rcases j with rfl|⟨e,rfl⟩|j|j
   .exact .inl h1
   .exact .inl (y e)
   .exact .inr (.inl j)
   exact .inr (.inr j)
  rcases i with⟨rfl,i⟩|i
  .cases now
   .exact absurd (i rfl) l
   exact .inl (y rfl)
  rcases hq:(AB s t m).1.now with _|x
  .exact absurd hq l
  exact .inr ⟨i,(h4.inn x hq).1.lt⟩
 rcases jB t.done with hd|hd
 .rcases hx:t.now with _|x
  .exact(kV q q2 p b s t m w h2 n hd false (λ_=>hx)).mono λe w' hS=>key false e w' (λe=>by cases e) hS
  exact(kV q q2 p b s t m w h2 n hd true (λe=>by cases e)).mono λe w' hS=>key true e w' (λ_=>h3 (by rw[hx];exact λe=>by cases e)) hS
 rcases hx:t.now with _|x
 .exact(zuy q q2 p b s t m w h2 hx n (λe=>o (e▸h1)) (λe=>hb (e▸h1)) r z hs hd).mono λe w' hS=>key false e w' (λe=>by cases e) hS
 have h4:=h3 (by rw[hx];exact λe=>by cases e);exact(zzl q q2 p b s t x m w h2 hx n ⟨λe=>o (e▸h1),λe=>o (e▸h4)⟩ ⟨λe=>hb (e▸h1),λe=>hb (e▸h4)⟩ r z hs hd).mono λe w' hS=>key true e w' (λ_=>h4) hS
theorem z7o{F:Nat->Prop}{q p b:Nat}{s:Sh}{t:Rn}{m:Mem}{w:World}(h:RnO F w q s t)(B:oA w p b m)(o:¬F p)(hb:¬F b)(y:Fits s m)(z:rnOk s t)(hs:m.st<1000000000):
  Calls Tryz.prog 217 #[some q,some p] w λe w'=>cC F p b w w' e (aC s t m).2/\RnO (grow F w w') w' q s (aC s t m).1:=by
 obtain⟨h1,q2,h2,h3⟩:=h;refine(zyl q q2 p b s t m w h2 B (λe=>o (e▸h1)) (λe=>hb (e▸h1)) (λl=>⟨λe=>o (e▸h3 l),λe=>hb (e▸h3 l)⟩) y z hs).mono λe w' hS=>?_;have l:t.strip.isSome=true->F q2:=λe=>h3 (λr=>by rw[r]at e;cases e);obtain⟨q3,h4,i⟩:=hS.at';refine⟨⟨hS.ret,hS.wds,hS.only.weak λk j=>?_⟩,.inl h1,q3,h4,λn=>?_⟩
 .rcases j with rfl|⟨e,rfl⟩|j|j
  .exact .inl h1
  .exact .inl (l e)
  .exact .inr (.inl j)
  exact .inr (.inr j)
 rcases i with⟨rfl,i⟩|i
 .cases hi:t.strip.isSome
  .exact absurd (i hi) n
  exact .inl (l hi)
 rcases hq:(aC s t m).1.strip with _|x
 .exact absurd hq n
 exact .inr ⟨i,(h4.inn x hq).1.lt⟩
def ptrV {α:Type} (o:Option α) (q:Nat):Value:=match o with
 |none=>.pointer none
 |some _=>.pointer (some ⟨q,0,.none⟩)
def BH (t:Rs) (v1 v2:Value):Array Value:=#[t.k,t.pages,v1,v2]
attribute [local go_sem] BH

def RsO (F:Nat->Prop) (w:World) (q:Nat) (s:Sh) (t:Rs):Prop:=
 F q/\∃q1 G,(∀k,G k->F k/\k≠q)/\aA w q (BH t (ptrV t.seeker q1) (ptrV t.runner q1)) 242/\(t.seeker=none\/t.runner=none)/\(∀x,t.seeker=some x->SkO G w q1 s x)/\(∀x,t.runner=some x->RnO G w q1 s x)
theorem RsO.only{F G:Nat->Prop}{w w':World}{q:Nat}{s:Sh}{t:Rs}(h:RsO F w q s t)(f:Only G w w')(hd:∀k,F k->¬G k):RsO F w' q s t:=by
 obtain⟨h1,q1,H,h2,h3,h4,j,l⟩:=h;exact⟨h1,q1,H,h2,h3.only f (hd q h1),h4,λx i=>(j x i).only f (λk b=>hd k (h2 k b).1),λx i=>(l x i).only f (λk b=>hd k (h2 k b).1)⟩
theorem RsO.weak{F G:Nat->Prop}{w:World}{q:Nat}{s:Sh}{t:Rs}(h:RsO F w q s t)(b:∀k,F k->G k):RsO G w q s t:=by
 obtain⟨h1,q1,H,h2,h⟩:=h;exact⟨b q h1,q1,H,λk f=>⟨b k (h2 k f).1,(h2 k f).2⟩,h⟩
theorem kQ(t:Rs)(h:t.seeker=none\/t.runner=none):(∃x,t.seeker=some x/\t.runner=none)\/(∃x,t.seeker=none/\t.runner=some x)\/(t.seeker=none/\t.runner=none):=by
 rcases h1:t.seeker with _|x<;>rcases h2:t.runner with _|y
 .exact .inr (.inr ⟨rfl,rfl⟩)
 .exact .inr (.inl ⟨y,rfl,rfl⟩)
 .exact .inl ⟨x,rfl,rfl⟩
 rcases h with h|h
 .rw[h1]at h;cases h
 rw[h2]at h;cases h
theorem YL{F:Nat->Prop}{q:Nat}{s:Sh}{t:Rs}{w:World}(h:RsO F w q s t):
  Calls Tryz.prog 161 #[some q] w λe w'=>e=.returned (.bool t.done)/\w'=w:=by
 obtain⟨h1,q1,H,h2,h3,h4,o,p⟩:=h;have c2:=ce (ptrV t.seeker q1) (h3.cell 2);have c3:=ce (ptrV t.runner q1) (h3.cell 3);rcases kQ t h4 with⟨x,b,i⟩|⟨x,b,i⟩|⟨b,i⟩
 .obtain⟨_,q2,n,_⟩:=o x b;have hd:=hd' (zzq q1 _ x.done w n.row rfl);have j:t.done=x.done:=by unfold Rs.done;rw[b]
  rw[j];rw[b]at c2;replace c2:w.cell? ⟨q,2,.none⟩=some (.pointer (some ⟨q1,0,.none⟩)):=c2;clear h1 h2 h3 h4 o p c3 j b i n;go_in;go_wp2_with (go_at_call 171;(with_reducible refine hd.out.mono ?_);rintro r y ⟨rfl,l⟩;obtain rfl:=l.symm);go_returns;exact⟨rfl,rfl⟩
 .obtain⟨_,q2,m,_⟩:=p x i;have hd:=hd' (zy1 q1 _ x.done w m.row rfl);have j:t.done=x.done:=by unfold Rs.done;rw[b,i]
  rw[j];rw[b]at c2;rw[i]at c3;replace c2:w.cell? ⟨q,2,.none⟩=some (.pointer none):=c2;replace c3:w.cell? ⟨q,3,.none⟩=some (.pointer (some ⟨q1,0,.none⟩)):=c3;clear h1 h2 h3 h4 o p j b i m;go_in;go_wp2_with (go_at_call 172;(with_reducible refine hd.out.mono ?_);rintro r y ⟨rfl,l⟩;obtain rfl:=l.symm);go_returns;exact⟨rfl,rfl⟩
 have j:t.done=true:=by unfold Rs.done;rw[b,i]
 rw[j];rw[b]at c2;rw[i]at c3;replace c2:w.cell? ⟨q,2,.none⟩=some (.pointer none):=c2;replace c3:w.cell? ⟨q,3,.none⟩=some (.pointer none):=c3;clear h1 h2 h3 h4 o p j b i;go_in;go_wp2_with fail;go_returns;exact⟨rfl,rfl⟩
theorem pV{F:Nat->Prop}{q p b:Nat}{s:Sh}{t:Rs}{m:Mem}{w:World}(h:RsO F w q s t)(O:oA w p b m)(X:¬F p)(hb:¬F b)(T:Fits s m)(V:(∀x,t.seeker=some x->skOk s x)/\(∀x,t.runner=some x->rnOk s x))(hs:m.st<1000000000):
  Calls Tryz.prog 214 #[some q,some p] w λe w'=>cC F p b w w' e (CB s t m).2/\RsO (grow F w w') w' q s (CB s t m).1:=by
 obtain⟨h1,q1,H,h2,h3,h4,R,S⟩:=h;have c2:=ce (ptrV t.seeker q1) (h3.cell 2);have c3:=ce (ptrV t.runner q1) (h3.cell 3);have I:¬H p:=λe=>X (h2 p e).1;have G:¬H b:=λe=>hb (h2 b e).1;have D:q≠p:=λe=>X (e▸h1);have C:q≠b:=λe=>hb (e▸h1);have b1:=h3.lt;have B:∀k,H k->k≠q:=λk L=>(h2 k L).2;have E:∀w' k,grow H w w' k->grow F w w' k/\k≠q:=λw' k L=>⟨z2p (λk e=>(h2 k e).1) k L,by rcases L with e|e;exact(h2 k e).2;omega⟩;rcases kQ t h4 with⟨x,i,l⟩|⟨x,i,l⟩|⟨i,l⟩
 .have o:=z5m (R x i) O I G T (V.1 x i) hs;have N:CB s t m=({t with seeker:=some (AB s x m).1},(AB s x m).2):=by unfold CB;rw[i]
  rw[N];dsimp only;have j:Hid (∀e w',cC H p b w w' e (AB s x m).2/\SkO (grow H w w') w' q1 s (AB s x m).1->cC F p b w w' (.returned (.tuple #[])) (AB s x m).2/\RsO (grow F w w') w' q s {t with seeker:=some (AB s x m).1}):=hd' λe w' hS=>by
   refine⟨⟨rfl,hS.1.wds,hS.1.only.weak λk L=>L.imp (λe=>(h2 k e).1) id⟩,.inl h1,q1,grow H w w',E w',?_,.inr l,λz y=>?_,λz y=>?_⟩
   .have M:=h3.only hS.1.only (by rintro(e|e|e);exact B q e rfl;exact D e;exact C e);rw[i]at M;exact M
   .simp only[Option.some.injEq]at y;subst y;exact hS.2
   have y:t.runner=some z:=y;rw[l]at y;cases y
  rw[i]at c2;rw[l]at c3;replace c2:w.cell? ⟨q,2,.none⟩=some (.pointer (some ⟨q1,0,.none⟩)):=c2;replace c3:w.cell? ⟨q,3,.none⟩=some (.pointer none):=c3;have U:Hid (∀e w',cC H p b w w' e (AB s x m).2->w'.cell? ⟨q,3,.none⟩=some (.pointer none)):=hd' λe w' hS=>by have M:=h3.only hS.only (by rintro(e|e|e);exact B q e rfl;exact D e;exact C e);rw[i,l]at M;exact M.cell 3
  have n:=hd' (λw=>SV p w);replace o:=hd' o;clear N h1 h2 h3 h4 R S I G D C B E i l O X hb T V hs;go_in;go_wp2_with (first|(go_at_call 216;(with_reducible refine o.out.mono ?_);rintro r Z hS;obtain rfl:=hS.1.ret;have b0:=U _ _ hS.1)|(go_at_call 217;(with_reducible refine(n _).mono ?_);rintro r w2 ⟨rfl,J⟩;obtain rfl:=J.symm));go_returns;exact j _ _ hS
 .have n:=z7o (S x l) O I G T (V.2 x l) hs;have N:CB s t m=({t with runner:=some (aC s x m).1},(aC s x m).2):=by unfold CB;rw[i,l]
  rw[N];dsimp only;have j:Hid (∀e w',cC H p b w w' e (aC s x m).2/\RnO (grow H w w') w' q1 s (aC s x m).1->cC F p b w w' (.returned (.tuple #[])) (aC s x m).2/\RsO (grow F w w') w' q s {t with runner:=some (aC s x m).1}):=hd' λe w' hS=>by
   refine⟨⟨rfl,hS.1.wds,hS.1.only.weak λk L=>L.imp (λe=>(h2 k e).1) id⟩,.inl h1,q1,grow H w w',E w',?_,.inl i,λz y=>?_,λz y=>?_⟩
   .have M:=h3.only hS.1.only (by rintro(e|e|e);exact B q e rfl;exact D e;exact C e);rw[l]at M;exact M
   .have y:t.seeker=some z:=y;rw[i]at y;cases y
   simp only[Option.some.injEq]at y;subst y;exact hS.2
  rw[i]at c2;rw[l]at c3;replace c2:w.cell? ⟨q,2,.none⟩=some (.pointer none):=c2;replace c3:w.cell? ⟨q,3,.none⟩=some (.pointer (some ⟨q1,0,.none⟩)):=c3;have o:=hd' (λw=>GV p w);replace n:=hd' n;clear N h1 h2 h3 h4 R S I G D C B E i l O X hb T V hs;go_in;go_wp2_with (first|(go_at_call 216;(with_reducible refine(o _).mono ?_);rintro r w2 ⟨rfl,J⟩;obtain rfl:=J.symm)|(go_at_call 217;(with_reducible refine n.out.mono ?_);rintro r Z hS;obtain rfl:=hS.1.ret));go_returns;exact j _ _ hS
 have N:CB s t m=(t,m):=by unfold CB;rw[i,l]
 rw[N];dsimp only;have j:Hid (cC F p b w w (.returned (.tuple #[])) m/\RsO (grow F w w) w q s t):=hd' ⟨⟨rfl,O,Only.refl _ _⟩,RsO.weak ⟨h1,q1,H,h2,h3,h4,R,S⟩ λk L=>.inl L⟩;rw[i]at c2;rw[l]at c3;replace c2:w.cell? ⟨q,2,.none⟩=some (.pointer none):=c2;replace c3:w.cell? ⟨q,3,.none⟩=some (.pointer none):=c3;have o:=hd' (λw=>GV p w);have n:=hd' (λw=>SV p w);clear N h1 h2 h3 h4 R S I G D C B E i l O X hb T V hs;go_in;go_wp2_with (first|(go_at_call 216;(with_reducible refine(o _).mono ?_);rintro r Z ⟨rfl,Y⟩;obtain rfl:=Y.symm)|(go_at_call 217;(with_reducible refine(n _).mono ?_);rintro r w2 ⟨rfl,J⟩;obtain rfl:=J.symm));go_returns;exact j.out
def sN (w w':World) (e:Ending) (s:Sh) (t:Rs):Prop:=∃q,e=.returned (.pointer (some ⟨q,0,.none⟩))/\RsO (λk=>w.heap.size<=k/\k<w'.heap.size) w' q s t/\Below w.heap.size w w'
theorem ZW(s:Sh)(c n f:Int)(w:World):
  Calls Tryz.prog 128 #[.agg #[s.p,s.c,s.m],c,n,f] w λe w'=>sN w w' e s (mB s c n f):=by
 have b:=λW=>MP n W;have j:=λW=>iN n W;have D:=λW=>z1m s c (pB n) f W;have C:=λW=>z07 s c (runV n) W;obtain⟨N,T,G⟩:=hidv (mB s c n f);rw[<-G];clear G;have B:=(Below.refl w.heap.size w).alloc lr (.cells #[s.p,s.c,s.m] 23);have t0:=jA w (.cells #[s.p,s.c,s.m] 23);have H:(wi n 1 32=true/\N=⟨pB n,0,some (dD s c (pB n) f),none⟩)\/(wi n 1 32=false/\wi n 33 512=true/\N=⟨0,runV n,none,some (FC s c (runV n))⟩)\/(wi n 1 32=false/\wi n 33 512=false/\N=⟨0,0,none,none⟩):=by
  rw[T];unfold mB;cases h1:wi n 1 32
  .cases h2:wi n 33 512
   .exact .inr (.inr ⟨rfl,rfl,rfl⟩)
   exact .inr (.inl ⟨rfl,rfl,rfl⟩)
  exact .inl ⟨rfl,rfl⟩
 clear T;generalize hx:dD s c (pB n) f=x at*;generalize hy:FC s c (runV n)=y at*;have E:y.strip=none:=by rw[<-hy];rfl
 generalize pB n=k at*;generalize runV n=pg at*;clear hx hy;rcases H with⟨h1,h2⟩|⟨h1,h2,h3⟩|⟨h1,h2,h3⟩
 .rw[h1]at b;clear h1 j C E;have i:Hid (∀W Y e,jW w W->DO W Y e s x->∀q1,e=.returned (.pointer (some ⟨q1,0,.none⟩))->sN w (Y.alloc (.cells (BH ⟨k,0,some x,none⟩ (.pointer (some ⟨q1,0,.none⟩)) (.pointer none)) 242)) (.returned (.pointer (some ⟨Y.heap.size,0,.none⟩))) s N):=hd' λW Y e hb hS q1 o=>by
   obtain⟨⟨q,q2,X,h4,J,h6⟩,O⟩:=hS;rw[X]at o;obtain rfl:q=q1:=by injection o with o;injection o with o;injection o with o;injection o
   have S:=hb.size;have Z:=O.size;have l:(Y.alloc (.cells (BH ⟨k,0,some x,none⟩ (.pointer (some ⟨q,0,.none⟩)) (.pointer none)) 242)).heap.size=Y.heap.size+1:=by simp
   have F:=qA hb O;rw[h2];refine⟨Y.heap.size,rfl,⟨⟨by omega,by omega⟩,q,λk=>w.heap.size<=k/\k<Y.heap.size,λk R=>⟨⟨R.1,by omega⟩,by omega⟩,jA _ _,.inr rfl,λz l=>?_,λz l=>(by cases l)⟩,F.trans (br.alloc F.size _)⟩;simp only[Option.some.injEq]at l;subst l;have I:=J.row.lt;refine⟨⟨by omega,I⟩,q2,J.below (br.alloc lr _),λU=>?_⟩;rcases hq:x.now with _|u
   .exact absurd hq U
   have:=(J.inn u hq).1.lt;exact⟨by have:=h6 U;omega,this⟩
  clear h2;obtain⟨sp,L,M⟩:=s;dsimp only at D B t0|-;replace b:=hd' b;replace D:=hd' D;go_in;go_upto_region 1 with fail;generalize w.alloc (.cells #[sp,L,M] 23)=W at*;have b0:=iA t0;clear t0;go_wp2_with (first|(go_at_call 104;refine(b _).mono ?_;rintro r V ⟨rfl,rfl⟩)|(go_at_call 148;refine(D _).mono ?_;rintro r w2 hS;obtain⟨q1,q2,rfl,_⟩:=id hS.at'));go_returns;exact i _ _ _ B hS _ rfl
 .rw[h1]at b;rw[h2]at j;clear h1 h2 D;have i:Hid (∀W Y e,jW w W->Born W Y e (UA s y (.pointer none)) 264->∀q1,e=.returned (.pointer (some ⟨q1,0,.none⟩))->sN w (Y.alloc (.cells (BH ⟨0,pg,none,some y⟩ (.pointer none) (.pointer (some ⟨q1,0,.none⟩))) 242)) (.returned (.pointer (some ⟨Y.heap.size,0,.none⟩))) s N):=hd' λW Y e hb hS q1 o=>by
   obtain⟨q,X,h4,J,O⟩:=hS;rw[X]at o;obtain rfl:q=q1:=by injection o with o;injection o with o;injection o with o;injection o
   have S:=hb.size;have Z:=O.size;have l:(Y.alloc (.cells (BH ⟨0,pg,none,some y⟩ (.pointer none) (.pointer (some ⟨q,0,.none⟩))) 242)).heap.size=Y.heap.size+1:=by simp
   have F:=qA hb O;rw[h3];refine⟨Y.heap.size,rfl,⟨⟨by omega,by omega⟩,q,λk=>w.heap.size<=k/\k<Y.heap.size,λk R=>⟨⟨R.1,by omega⟩,by omega⟩,jA _ _,.inl rfl,λz l=>(by cases l),λz l=>?_⟩,F.trans (br.alloc F.size _)⟩;simp only[Option.some.injEq]at l;subst l;have I:=J.lt;refine⟨⟨by omega,I⟩,0,⟨by rw[E];exact J.below (br.alloc lr _),λz l=>by rw[E]at l;cases l⟩,λU=>absurd E U⟩
  clear h3 E;obtain⟨sp,L,M⟩:=s;dsimp only at C B t0 i|-;generalize UA ⟨sp,L,M⟩ y (.pointer none)=b2 at*;replace b:=hd' b;replace j:=hd' j;replace C:=hd' C;go_in;go_upto_region 1 with fail;generalize w.alloc (.cells #[sp,L,M] 23)=W at*;have b1:=iA t0;clear t0;go_wp2_with (first|(go_at_call 104;refine(b _).mono ?_;rintro r V ⟨rfl,rfl⟩)|(go_at_call 56;refine(j _).mono ?_;rintro r V ⟨rfl,rfl⟩)|(go_at_call 149;refine(C _).mono ?_;rintro r w2 hS;obtain⟨q1,rfl,_⟩:=id hS));go_returns;exact i _ _ _ B hS _ rfl
 rw[h1]at b;rw[h2]at j;clear h1 h2 D C E;have i:Hid (∀Y,jW w Y->sN w (Y.alloc (.cells (BH ⟨0,0,none,none⟩ (.pointer none) (.pointer none)) 242)) (.returned (.pointer (some ⟨Y.heap.size,0,.none⟩))) s N):=hd' λY hb=>by
  have S:=hb.size;have l:(Y.alloc (.cells (BH ⟨0,0,none,none⟩ (.pointer none) (.pointer none)) 242)).heap.size=Y.heap.size+1:=by simp
  rw[h3];exact⟨Y.heap.size,rfl,⟨⟨by omega,by omega⟩,0,λk=>False,λk R=>R.elim,jA _ _,.inl rfl,λz l=>(by cases l),λz l=>(by cases l)⟩,hb.trans (br.alloc hb.size _)⟩
 clear h3;obtain⟨sp,L,M⟩:=s;dsimp only at B t0 i|-;replace b:=hd' b;replace j:=hd' j;go_in;go_upto_region 1 with fail;generalize w.alloc (.cells #[sp,L,M] 23)=W at*;clear t0;go_wp2_with (first|(go_at_call 104;refine(b _).mono ?_;rintro r V ⟨rfl,rfl⟩)|(go_at_call 56;refine(j _).mono ?_;rintro r V ⟨rfl,rfl⟩));go_returns;exact i _ B
def gotV (o:Option Blk):Value:=.tuple #[.agg (aG (o.getD Blk.zero)),o.isSome]
theorem ype{n:Nat}{w X:World}{E:Nat}{c0 c1 c2 c3 c4:Value}{y:TypeId}(o:aA X E #[c0,c1,c2,c3,c4] y)(hb:Below n w X)(b:n<=E)(f i j l m:Value):
  ∃U,U=((((X.setCell ⟨E,0,.none⟩ f).setCell ⟨E,1,.none⟩ i).setCell ⟨E,2,.none⟩ j).setCell ⟨E,3,.none⟩ l).setCell ⟨E,4,.none⟩ m/\aA U E #[f,i,j,l,m] y/\Below n w U:=
 ⟨_,rfl,((((o.set 0 f).set 1 i).set 2 j).set 3 l).set 4 m,((((hb.setCell (p:=⟨E,0,.none⟩) b f).setCell (p:=⟨E,1,.none⟩) b i).setCell (p:=⟨E,2,.none⟩) b j).setCell (p:=⟨E,3,.none⟩) b l).setCell (p:=⟨E,4,.none⟩) b m⟩
def eH (f g:Bool) (a c k h n:Int):Option Blk:=if f=true then some ⟨false,a,c,k,0⟩ else if g=true then some ⟨true,h,0,0,n⟩ else none
theorem xO{w:World}{q:Nat}{u v:Option Addr}(k n a c h:Int)(f g:Bool)(T:q<w.heap.size)(hc:∀X,jW w X->X.cell? ⟨q,0,.none⟩=some (.int .i64 k)/\X.cell? ⟨q,1,.none⟩=some (.int .i64 n)/\X.cell? ⟨q,2,.none⟩=some (.pointer u)/\X.cell? ⟨q,3,.none⟩=some (.pointer v))(l:∀X,jW w X->Calls Tryz.prog 169 #[.pointer u] X λe w'=>e=.returned (.tuple #[.int .i64 (if f=true then a else 0),.int .i64 (if f=true then c else 0),f])/\Below X.heap.size X w')(j:∀X,jW w X->Calls Tryz.prog 170 #[.pointer v] X λe w'=>e=.returned (.tuple #[.int .i64 (if g=true then h else 0),g])/\w'=X):
  Calls Tryz.prog 158 #[some q] w λe w'=>e=.returned (gotV (eH f g a c k h n))/\Below w.heap.size w w':=by
 have i:=(Below.refl w.heap.size w).alloc lr (.cells #[.bool false,.int .i64 0,.int .i64 0,.int .i64 0,.int .i64 0] 234);have D:aA (w.alloc (.cells #[.bool false,.int .i64 0,.int .i64 0,.int .i64 0,.int .i64 0] 234)) w.heap.size #[.bool false,.int .i64 0,.int .i64 0,.int .i64 0,.int .i64 0] 234:=jA _ _;have H:=D.lt;have I:q≠w.heap.size:=by omega
 obtain⟨L,a1,s,y,z,b,O,M,h1,h2,h3,h4,hb⟩:∃(L:Bool) (a1 s y z:Int) (b:Bool),Hid (gotV (eH f g a c k h n)=.tuple #[.agg #[L,a1,s,y,z],b])/\Hid (L=(!f&&g))/\Hid (a1=if f=true then a else if g=true then h else 0)/\Hid (s=if f=true then c else 0)/\Hid (y=if f=true then k else 0)/\Hid (z=if f=true then 0 else if g=true then n else 0)/\Hid (b=(f||g)):=by refine⟨_,_,_,_,_,_,hd' ?_,hd' rfl,hd' rfl,hd' rfl,hd' rfl,hd' rfl,hd' rfl⟩;cases f<;>cases g<;>rfl
 rw[O];obtain⟨k0,k1,k2,V⟩:=hc _ i;clear O T k0 k1 V;replace hc:=hd' hc;replace l:=hd' l;replace j:=hd' j;rcases f with _|_<;>rcases g with _|_;all_goals
  simp only[Bool.false_eq_true,if_false,if_true,Bool.not_false,Bool.not_true,Bool.true_and,Bool.false_and,Bool.or_false,Bool.or_true,Bool.false_or,Bool.true_or]at l j M h1 h2 h3 h4 hb;go_in;go_upto_region 1 with fail;generalize w.alloc (.cells #[.bool false,.int .i64 0,.int .i64 0,.int .i64 0,.int .i64 0] 234)=X at*;obtain⟨E,S,m⟩:=hidv w.heap.size;simp only[<-m]at D H I|-;have F:w.heap.size<=E:=by omega
  clear m;go_wp2_with (first|(go_at_call 169;(with_reducible refine(l _ i).mono ?_);rintro r w1 ⟨rfl,C⟩;have p:=i.trans (C.mono i.size);have o:=D.below C;obtain⟨z0,z1,z2,z3⟩:=hc _ p;have R:=o.cell;have ef:=KA o)|(go_at_call 170;(with_reducible refine(j _ p).mono ?_);rintro r w2 ⟨rfl,J⟩;obtain rfl:=J.symm));obtain⟨U,N,B,G⟩:=ype o p F (.bool L) (.int .i64 a1) (.int .i64 s) (.int .i64 y) (.int .i64 z);rw[M,h1,h2,h3,h4]at N;rw[<-N];have r0:=ce (.bool L) (B.cell 0);have r1:=ci a1 (B.cell 1);have Y:=ci s (B.cell 2);have Z:=ci y (B.cell 3);have r4:=ci z (B.cell 4);exact bodyPost_ret (v:=.tuple #[.agg #[L,a1,s,y,z],b]) (by simp[results,Tryz.results158,go_sem,r0,r1,Y,Z,r4,hb.out]) rfl ⟨rfl,G⟩
theorem LI{F:Nat->Prop}{q:Nat}{s:Sh}{t:Rs}{w:World}(h:RsO F w q s t):
  Calls Tryz.prog 158 #[some q] w λe w'=>e=.returned (gotV t.got)/\Below w.heap.size w w':=by
 obtain⟨h1,q1,H,h2,h3,h4,n,o⟩:=h;have hc:=λX (b:Below w.heap.size w X)=>h3.below b;rcases kQ t h4 with⟨x,i,j⟩|⟨x,i,j⟩|⟨i,j⟩
 .obtain⟨_,q2,hs,_⟩:=n x i;have m:t.got=eH x.found false x.page x.slot t.k 0 t.pages:=by unfold Rs.got eH;rw[i];simp only[Bool.false_eq_true,if_false]
  rw[m];refine xO (u:=some ⟨q1,0,.none⟩) (v:=none) _ _ _ _ _ _ _ h3.lt (λX b=>⟨(hc X b).cell 0,(hc X b).cell 1,?_,?_⟩) (λX b=>(zt7 q1 s x _ X (hs.row.below b))) (λX _=>gV X)
  .exact((hc X b).cell 2).trans (by rw[i];rfl)
  exact((hc X b).cell 3).trans (by rw[j];rfl)
 .obtain⟨_,q2,hs,_⟩:=o x j;have m:t.got=eH false x.found 0 0 t.k x.head t.pages:=by unfold Rs.got eH;rw[i,j];simp only[Bool.false_eq_true,if_false]
  rw[m];refine xO (u:=none) (v:=some ⟨q1,0,.none⟩) _ _ _ _ _ _ _ h3.lt (λX b=>⟨(hc X b).cell 0,(hc X b).cell 1,?_,?_⟩) (λX _=>(aV X).mono λ_ _ l=>⟨l.1,l.2▸Below.refl _ _⟩) (λX b=>zvi q1 s x _ X (hs.row.below b))
  .exact((hc X b).cell 2).trans (by rw[i];rfl)
  exact((hc X b).cell 3).trans (by rw[j];rfl)
 have m:t.got=eH false false 0 0 t.k 0 t.pages:=by unfold Rs.got eH;rw[i,j];simp only[Bool.false_eq_true,if_false]
 rw[m];refine xO (u:=none) (v:=none) _ _ _ _ _ _ _ h3.lt (λX b=>⟨(hc X b).cell 0,(hc X b).cell 1,?_,?_⟩) (λX _=>(aV X).mono λ_ _ l=>⟨l.1,l.2▸Below.refl _ _⟩) (λX _=>gV X)
 .exact((hc X b).cell 2).trans (by rw[i];rfl)
 exact((hc X b).cell 3).trans (by rw[j];rfl)
def CA (s:Sh) (t:Ad):Array Value:=#[s.p,s.c,s.m,t.c,t.d,t.next,.int .u64 t.was,t.who,t.at',t.i,t.pk,t.pa,t.pb,t.err,t.done]
attribute [local go_sem] CA

theorem zxq(q:Nat)(cs:Array Value)(v:Bool)(w:World)(h:aA w q cs 252)(b:cs[14]?=some (.bool v)):Calls Tryz.prog 253 #[some q] w λe w'=>e=.returned (.bool v)/\w'=w:=by
 have c:=(h.cell 14).trans b;clear h b;go_in;go_wp2_with fail;go_returns;exact⟨rfl,rfl⟩
theorem fK(q:Nat)(s:Sh)(t:Ad)(x:Int)(w:World)(i:aA w q (CA s t) 252):
  Calls Tryz.prog 152 #[some q,x] w λe w'=>Turned q w w' e (CA s (t.fin x)) 252:=by
 have h0:=At1.start i;clear i;obtain⟨sp,n,o⟩:=s;obtain⟨r,y,B,C,m,p,z,pk,pa,pb,j,b⟩:=t;have l:=h0.cell;have D:=h0.free;go_in;go_wp2_with fail;go_returns;exact((h0.set 13 _).set 14 _).fin rfl
theorem z0i(q:Nat)(s:Sh)(t:Ad)(w:World)(b:aA w q (CA s t) 252):
  Calls Tryz.prog 266 #[some q] w λe w'=>e=.returned (.int .i64 t.err)/\w'=w:=by
 have i:=b.cell;clear b;go_in;go_wp2_with fail;go_returns;exact⟨rfl,rfl⟩
theorem bQ(s:Sh)(t:Ad)(again next:Int):(t.at'+1=s.p/\next=9/\s.m=0/\t.turn s again next={t with at':=0,i:=0,next:=10})\/(t.at'+1=s.p/\next=9/\(s.m==0)=false/\t.turn s again next={t with at':=0,i:=0,next:=9})\/(t.at'+1=s.p/\(next==9)=false/\t.turn s again next={t with at':=0,i:=0,next:=next})
  \/((t.at'+1==s.p)=false/\again=9/\s.m=0/\t.turn s again next={t with at':=t.at'+1,next:=10})\/((t.at'+1==s.p)=false/\again=9/\(s.m==0)=false/\t.turn s again next={t with at':=t.at'+1,next:=9})\/((t.at'+1==s.p)=false/\(again==9)=false/\t.turn s again next={t with at':=t.at'+1,next:=again}):=by
 by_cases h1:t.at'+1=s.p<;>by_cases h2:next=9<;>by_cases h3:s.m=0<;>by_cases h4:again=9<;>simp[Ad.turn,h1,h2,h3,h4]
theorem RH(q:Nat)(s:Sh)(t:Ad)(again next:Int)(w:World)(r:aA w q (CA s t) 252)(E:0<=t.at'/\t.at'<64):
  Calls Tryz.prog 261 #[some q,again,next] w λe w'=>Turned q w w' e (CA s (t.turn s again next)) 252:=by
 have h0:=At1.start r;clear r;have n:=bQ s t again next
 have I:=wrp (t.at'+1);obtain⟨y,b⟩:∃y,y=t.turn s again next:=⟨_,rfl⟩
 rw[<-b]at n|-;clear b E;obtain⟨sp,L,M⟩:=s;obtain⟨N,O,S,T,H,G,R,pk,pa,pb,z,p⟩:=t;dsimp only at n I;have j:=h0.cell;have B:=h0.free;go_in;go_upto_region 2 with fail;have l:=(h0.set 8 (.int .i64 (G+1))).set 5 (.int .i64 again);generalize World.setCell _ ⟨q,5,.none⟩ (.int .i64 again)=U at*;clear j h0 B;have C:=l.cell;have J:=l.lt;refine wre ?_;repeat (go_big_quiet_step (fail))
 refine wqn λX m=>?_;have i:=l.below m;have D:=i.cell;have B:=i.free;rcases n with⟨hs,rfl,o,b⟩|⟨hs,rfl,o,b⟩|⟨hs,F,b⟩|⟨hs,rfl,o,b⟩|⟨hs,rfl,o,b⟩|⟨hs,F,b⟩;all_goals
  replace b:=hd' b;try subst hs
  go_wp2_with fail;go_returns
 .exact((((i.set 8 _).set 9 _).set 5 _).set 5 _).fin (by rw[b];rfl)
 .exact(((i.set 8 _).set 9 _).set 5 _).fin (by rw[b];rfl)
 .exact(((i.set 8 _).set 9 _).set 5 _).fin (by rw[b];rfl)
 .exact(i.set 5 _).fin (by rw[b];rfl)
 .exact i.fin (by rw[b];rfl)
 exact i.fin (by rw[b];rfl)
theorem oV(q:Nat)(s:Sh)(t:Ad)(w:World)(H:aA w q (CA s t) 252)(F:0<=t.at'/\t.at'<64)(hi:0<=t.i/\t.i<16):
  Calls Tryz.prog 255 #[some q] w λe w'=>Turned q w w' e (CA s (t.slot s)) 252:=by
 have h0:=At1.start H;clear H;unfold Ad.slot;have l:=λW=>gD t.pa W;have m:=λY (O:aA Y q (CA s {t with i:=0,next:=11}) 252)=>RH q s {t with i:=0,next:=11} 10 13 Y O F;have J:=wrp (t.i+1);have j:t.i+1=mA t.pa\/(¬t.i+1=mA t.pa/\(t.i+1==mA t.pa)=false):=by
  by_cases h:t.i+1=mA t.pa
  .exact .inl h
  exact .inr ⟨h,by simpa using h⟩
 obtain⟨B,b,n⟩:∃B:Ad,Hid (B=if t.i+1=mA t.pa then({t with i:=0,next:=11}:Ad).turn s 10 13 else {t with i:=t.i+1,next:=11})/\B=_:=⟨_,hd' rfl,rfl⟩;rw[<-n];clear n;generalize mA t.pa=sv at*;obtain⟨sp,V,Z⟩:=s;obtain⟨tc,td,tn,tw,R,ta,S,pk,pa,pb,I,C⟩:=t;dsimp only at l m j b J;clear F hi;replace l:=hd' l;replace m:=hd' m;have p:=h0.cell;have L:=h0.free;go_in;go_upto_region 2 with fail;have y:=(h0.set 9 (.int .i64 (S+1))).set 5 (.int .i64 11);generalize World.setCell _ ⟨q,5,.none⟩ (.int .i64 11)=U at*;clear p h0 L;have M:=y.cell;have T:=y.lt;refine wre ?_;repeat (go_big_quiet_step (((go_at_call 75;exact yG ((l _).mono λ_ _ h=>⟨h.1,h.2⟩)))))
 refine wqn λX z=>?_;have o:=y.below z;rcases j with j|⟨G,j⟩
 .subst j;replace b:=hd' (b.out.trans (jP rfl));have N:=o.cell;have L:=o.free;have D:=o.set 9 (.int .i64 0);go_wp2_with (go_at_call 261;(with_reducible refine(m _ D.row).mono ?_);rintro r J E;obtain rfl:=E.ret);go_returns;exact(D.turned E).fin (by rw[b])
 replace b:=hd' (b.out.trans (jN G));clear G;go_wp2_with fail;go_returns;exact o.fin (by rw[b];rfl)
end Go.Proofs.YtkilokkopbajkaaGreat
