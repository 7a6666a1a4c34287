/- Lemmas for the claim. -/
import Derived.Test.YtkilokkopbajkaaGreatBw22

set_option linter.all false
set_option maxHeartbeats 4000000
set_option maxRecDepth 100000
namespace Go.Proofs.YtkilokkopbajkaaGreat

attribute [local go_sem] RA IB

section

open Go.RowKit

theorem RrO.weak{F G:Nat->Prop}{w:World}{q:Nat}{s:Sh}{t:Rr}(h:RrO F w q s t)(j:∀ k,F k->G k)(hb:∀ k,G k->k<w.heap.size):RrO G w q s t:=by
 obtain⟨y,h1,q1,q2,q3,q4,o,p,f,i,m,r,n,hu,hc⟩:=h;exact⟨hb,j q h1,q1,q2,q3,q4,o,p,fun k l=>⟨j k (f k l).1,(f k l).2⟩,fun k l=>⟨j k (i k l).1,(i k l).2⟩,m,r,n,fun x b=>⟨⟨j _ (hu x b).1.1,(hu x b).1.2⟩,(hu x b).2⟩,fun x b=>⟨⟨j _ (hc x b).1.1,(hc x b).1.2⟩,(hc x b).2⟩⟩
theorem RrO.z5a{F:Nat->Prop}{q p b:Nat}{s:Sh}{t:Rr}{m:Mem}{w:World}(h:RrO F w q s t){f:Fe}(l:t.free=some f)(X:oA w p b m)(M:¬ F p)(hb:¬ F b)(S:Fits s m)(T:feOk s f)(hs:m.st<1000000000):
  ∃ q2,w.cell? ⟨q,5,.none⟩=some (.pointer (some ⟨q2,0,.none⟩))/\Calls Tryz.prog 232 #[.pointer (some ⟨q2,0,.none⟩),some p] w fun e w'=>YB F p b w w' e (KB s f m).2/\RrO (grow F w w') w' q s {t with free:=some (KB s f m).1}:=by
 obtain⟨G,h1,q1,q2,q3,q4,O,C,o,j,z,V,L,hu,hc⟩:=h;have c5:=ce (ptrV t.free q2) (z.cell 5);rw[l]at c5;refine⟨q2,c5,(WW (L f l) X (fun e=>M (j p e).1) (fun e=>hb (j b e).1) S T hs).mono fun e w' hS=>?_⟩;obtain⟨y,R⟩:=hS;have N:=y.only.size;have U:¬ (C q\/q=p\/q=b):=by
  rintro(e|e|e)
  ·exact(j q e).2.1 rfl
  ·exact M (e ▸ h1)
  exact hb (e ▸ h1)
 have n:∀ k,F k->¬ C k->¬ (C k\/k=p\/k=b):=fun k i B e=>by
  rcases e with e|e|e
  ·exact B e
  ·exact M (e ▸ i)
  exact hb (e ▸ i)
 have E:∀ k,F k->¬ C k->¬ grow C w w' k:=fun k i B e=>by
  rcases e with e|e
  ·exact B e
  have:=G k i;omega
 refine⟨⟨y.ret,y.wds,y.only.weak fun k i=>i.imp (fun e=>(j k e).1) id⟩,IE G N,.inl h1,q1,q2,q3,q4,O,grow C w w',fun k i=>⟨.inl (o k i).1,(o k i).2⟩,fun k i=>?_,?_,?_,?_,?_,?_⟩
 ·rcases i with i|i
  ·exact⟨.inl (j k i).1,(j k i).2⟩
  exact⟨.inr i,fun e=>by have:=G q h1;omega,fun e=>by have:=G k (o k e).1;omega⟩
 ·have:=z.only y.only U;rw[l]at this;exact this
 ·intro x r;exact(V x r).only y.only (fun k i=>n k (o k i).1 (fun e=>(j k e).2.2 i))
 ·intro x r;injection r with r;subst r;exact R
 ·intro x r;obtain⟨⟨a1,H,I,D⟩,J⟩:=hu x r;exact⟨⟨.inl a1,H,I,E _ a1 D⟩,J.only y.only (n _ a1 D)⟩
 intro x r;obtain⟨⟨a1,H,I,D⟩,J⟩:=hc x r;exact⟨⟨.inl a1,H,I,E _ a1 D⟩,J.only y.only (n _ a1 D)⟩
theorem RrO.z5y{F:Nat->Prop}{q p b:Nat}{s:Sh}{t:Rr}{m:Mem}{w:World}(h:RrO F w q s t){u:Un}(y:t.undo=some u)(D:t.com=none)(V:oA w p b m)(E:¬ F p)(hb:¬ F b)(R:Fits s m)(S:unOk s u)(hs:m.st<1000000000):
  ∃ q3,w.cell? ⟨q,6,.none⟩=some (.pointer (some ⟨q3,0,.none⟩))/\Calls Tryz.prog 246 #[.pointer (some ⟨q3,0,.none⟩),some p] w fun e w'=>YB F p b w w' e (LB s u m).2/\RrO (grow F w w') w' q s {t with undo:=some (LB s u m).1}:=by
 obtain⟨O,h1,q1,q2,q3,q4,L,M,o,r,n,U,B,hu,hc⟩:=h;have c5:=ce (ptrV t.undo q3) (n.cell 6);rw[y]at c5;obtain⟨⟨z,H,I,J⟩,N⟩:=hu u y;refine⟨q3,c5,(zyo q3 p b s u m w N V (fun e=>E (e ▸ z)) (fun e=>hb (e ▸ z)) R S hs).mono fun e w' hS=>?_⟩;have G:=hS.only.size;have T:¬ (q=q3\/q=p\/q=b):=by
  rintro(e|e|e)
  ·exact H e.symm
  ·exact E (e ▸ h1)
  exact hb (e ▸ h1)
 have l:∀ k,F k->k≠q3->¬ (k=q3\/k=p\/k=b):=fun k i C e=>by
  rcases e with e|e|e
  ·exact C e
  ·exact E (e ▸ i)
  exact hb (e ▸ i)
 refine⟨⟨hS.ret,hS.wds,hS.only.weak fun k i=>i.imp (fun e=>by rw[e];exact z) id⟩,IE O G,.inl h1,q1,q2,q3,q4,L,M,fun k i=>⟨.inl (o k i).1,(o k i).2⟩,fun k i=>⟨.inl (r k i).1,(r k i).2⟩,?_,?_,?_,?_,?_⟩
 ·have:=n.only hS.only T;rw[y]at this;exact this
 ·intro x j;exact(U x j).only hS.only (fun k i=>l k (o k i).1 (fun e=>I (e ▸ i)))
 ·intro x j;exact(B x j).only hS.only (fun k i=>l k (r k i).1 (fun e=>J (e ▸ i)))
 ·intro x j;injection j with j;subst j;exact⟨⟨.inl z,H,I,J⟩,hS.row⟩
 intro x j;exact absurd j (by rw[D];exact fun e=>by cases e)
theorem RrO.z9y{F:Nat->Prop}{q p b:Nat}{s:Sh}{t:Rr}{m:Mem}{w:World}(h:RrO F w q s t){u:Cm}(y:t.com=some u)(D:t.undo=none)(V:oA w p b m)(E:¬ F p)(hb:¬ F b)(R:Fits s m)(S:cmOk s u)(hs:m.st<1000000000):
  ∃ q3,w.cell? ⟨q,7,.none⟩=some (.pointer (some ⟨q3,0,.none⟩))/\Calls Tryz.prog 215 #[.pointer (some ⟨q3,0,.none⟩),some p] w fun e w'=>YB F p b w w' e (zB s u m).2/\RrO (grow F w w') w' q s {t with com:=some (zB s u m).1}:=by
 obtain⟨O,h1,q1,q2,q3,q4,L,M,o,r,n,U,B,hu,hc⟩:=h;have c5:=ce (ptrV t.com q4) (n.cell 7);rw[y]at c5;obtain⟨⟨z,H,I,J⟩,N⟩:=hc u y;refine⟨q4,c5,(pV q4 p b s u m w N V (fun e=>E (e ▸ z)) (fun e=>hb (e ▸ z)) R S hs).mono fun e w' hS=>?_⟩;have G:=hS.only.size;have T:¬ (q=q4\/q=p\/q=b):=by
  rintro(e|e|e)
  ·exact H e.symm
  ·exact E (e ▸ h1)
  exact hb (e ▸ h1)
 have l:∀ k,F k->k≠q4->¬ (k=q4\/k=p\/k=b):=fun k i C e=>by
  rcases e with e|e|e
  ·exact C e
  ·exact E (e ▸ i)
  exact hb (e ▸ i)
 refine⟨⟨hS.ret,hS.wds,hS.only.weak fun k i=>i.imp (fun e=>by rw[e];exact z) id⟩,IE O G,.inl h1,q1,q2,q3,q4,L,M,fun k i=>⟨.inl (o k i).1,(o k i).2⟩,fun k i=>⟨.inl (r k i).1,(r k i).2⟩,?_,?_,?_,?_,?_⟩
 ·have:=n.only hS.only T;rw[y]at this;exact this
 ·intro x j;exact(U x j).only hS.only (fun k i=>l k (o k i).1 (fun e=>I (e ▸ i)))
 ·intro x j;exact(B x j).only hS.only (fun k i=>l k (r k i).1 (fun e=>J (e ▸ i)))
 ·intro x j;exact absurd j (by rw[D];exact fun e=>by cases e)
 intro x j;injection j with j;subst j;exact⟨⟨.inl z,H,I,J⟩,hS.row⟩
end

section

open Go.RowKit

attribute [local go_sem ↓] Go.wp_at_zero Go.wp_at_succ

theorem kM{F:Nat->Prop}{q p b:Nat}{s:Sh}{r:Rr}{m:Mem}{w j i:World}{t:Ending}(y:∀ k,F k->k<w.heap.size)(o:F q)(B:¬ F p)(hb:¬ F b)(l:YB F p b w j t m)(n:Only (fun k=>k=q) j i)(z:RrO (grow (grow F w j) j i) i q s r):
  YB F p b w i (.returned (.tuple #[])) m/\RrO (grow F w i) i q s r:=by
 have h1:=l.only.size;have h2:=n.size;refine⟨⟨rfl,l.wds.only n (fun e=>B (e ▸ o)) (fun e=>hb (e ▸ o)),l.only.trans n (fun k _ e=>.inl (by rw[e];exact o))⟩,z.weak (fun k f=>?_) (IE y (Nat.le_trans h1 h2))⟩;rcases f with(f|f)|f
 ·exact .inl f
 ·exact .inr ⟨f.1,Nat.lt_of_lt_of_le f.2 h2⟩
 exact .inr ⟨Nat.le_trans h1 f.1,f.2⟩
theorem RrO.jQ{F:Nat->Prop}{q q1:Nat}{s:Sh}{t:Rr}{w:World}(h:RrO F w q s t){r:Rs}(b:t.res=some r)(c:w.cell? ⟨q,4,.none⟩=some (.pointer (some ⟨q1,0,.none⟩))):
  Calls Tryz.prog 161 #[some q1] w fun e w'=>e= .returned (.bool r.done)/\w'=w:=by
 obtain⟨p,h1,q2,_,_,_,n,o,j,l,i,m,_⟩:=h;have c4:=ce (ptrV t.res q2) (i.cell 4);rw[b]at c4;have e:q1=q2:=by have:=c.symm.trans c4;simpa[ptrV] using this
 subst e;exact pL (m r b)
theorem RrO.KX{F:Nat->Prop}{q q1:Nat}{s:Sh}{t:Rr}{w:World}(h:RrO F w q s t){f:Fe}(b:t.free=some f)(c:w.cell? ⟨q,5,.none⟩=some (.pointer (some ⟨q1,0,.none⟩))):
  Calls Tryz.prog 162 #[some q1] w fun e w'=>e= .returned (.bool f.done)/\w'=w:=by
 obtain⟨p,h1,_,q2,_,_,n,o,j,l,i,_,m,_⟩:=h;have c4:=ce (ptrV t.free q2) (i.cell 5);rw[b]at c4;have e:q1=q2:=by have:=c.symm.trans c4;simpa[ptrV] using this
 subst e;obtain⟨_,q3,h3,_⟩:=m f b;exact WO q1 _ f.done w h3.row rfl
theorem RrO.cells{F:Nat->Prop}{q:Nat}{s:Sh}{t:Rr}{w:World}(h:RrO F w q s t):∃ q1 q2 q3 q4,w.cell? ⟨q,4,.none⟩=some (ptrV t.res q1)/\w.cell? ⟨q,5,.none⟩=some (ptrV t.free q2)/\w.cell? ⟨q,6,.none⟩=some (ptrV t.undo q3)/\w.cell? ⟨q,7,.none⟩=some (ptrV t.com q4)/\w.cell? ⟨q,9,.none⟩=some (.bool t.done):=by
 obtain⟨m,h1,q1,q2,q3,q4,j,l,f,i,b,_⟩:=h;exact⟨q1,q2,q3,q4,b.cell 4,b.cell 5,b.cell 6,b.cell 7,b.cell 9⟩
theorem zza{F:Nat->Prop}{q p b:Nat}{s:Sh}{t:Rr}{m:Mem}{w:World}(h:RrO F w q s t)(hw:oA w p b m)(hp:¬ F p)(hb:¬ F b)(X:Fits s m)(ho:rrOk s t)(hs:m.st<1000000000):
  Calls Tryz.prog 245 #[some q,some p] w fun e w'=>YB F p b w w' e (GB s t m).2/\RrO (grow F w w') w' q s (GB s t m).1:=by
 obtain⟨y1,y2,q5,q6,z4,z5,c6,c7,c9⟩:=h.cells;clear z4 z5 y1 y2;rcases jB t.done with hd|hd
 ·have N:GB s t m=(t,m):=by unfold GB;rw[jP hd]
  rw[N];rw[hd]at c9;have y:=hd' (h.weak (G:=grow F w w) (fun k hk=>.inl hk) (IE h.1 lr));clear h N hd ho X c6 c7;go_in;go_wp2_with fail;go_returns;exact⟨⟨rfl,hw,Only.refl _ _⟩,y.out⟩
 obtain⟨r,f,j,i,T,R,U,O,S,D⟩:=ho.cl hd;rw[hd]at c9;have hF:=h.1;have hq:=h.2.1;rcases jB r.done with z|z;case inr=>
  have N:GB s t m=(Rr.settle s {t with res:=some (yB s r m).1},(yB s r m).2):=by unfold GB;simp[hd,j,i,z]
  rw[N];obtain⟨q1,c4,o⟩:=h.gQ j hw hp hb X T hs;have n:=h.jQ j c4;rw[z]at n;have C:=hd' (fun (Y:World) (G:Nat->Prop) (B:RrO G Y q s {t with res:=some (yB s r m).1})=>B.settled rfl i);have y:=hd' (fun (Y Z:World) (e:Ending) (H:YB F p b w Y e (yB s r m).2) (hZ:Only (fun k=>k=q) Y Z) (B:RrO (grow (grow F w Y) Y Z) Z q s (Rr.settle s {t with res:=some (yB s r m).1}))=>kM hF hq hp hb H hZ B);replace o:=hd' o;replace n:=hd' n;clear h N hd ho X c6 c7 j i T R U O S D z hw hF hq;go_in;go_wp2_with (first|(go_at_call 161;(with_reducible refine n.out.mono ?_);rintro r w2 ⟨rfl,M⟩;obtain rfl:=M.symm)|(go_at_call 214;(with_reducible refine o.out.mono ?_);rintro r w3 ⟨H,B⟩;obtain rfl:=H.ret)|(go_at_call 151;(with_reducible refine(C _ _ B).mono ?_);rintro r w4 ⟨rfl,L,J⟩));go_returns;exact y _ _ _ H L J
 rcases jB f.done with E|E;case inr=>
  have N:GB s t m=(Rr.settle s {t with free:=some (KB s f m).1},(KB s f m).2):=by unfold GB;simp[hd,j,i,z,E]
  rw[N];obtain⟨q2,c5,o⟩:=h.z5a i hw hp hb X R hs;have l:=h.KX i c5;rw[E]at l;obtain⟨q1,y2,y3,y4,c4,z5⟩:=h.cells;clear z5 y2 y3 y4;rw[j]at c4;replace c4:w.cell? ⟨q,4,.none⟩=some (.pointer (some ⟨q1,0,.none⟩)):=c4;have n:=h.jQ j c4;rw[z]at n;have C:=hd' (fun (Y:World) (G:Nat->Prop) (B:RrO G Y q s {t with free:=some (KB s f m).1})=>B.settled j rfl);have y:=hd' (fun (Y Z:World) (e:Ending) (H:YB F p b w Y e (KB s f m).2) (hZ:Only (fun k=>k=q) Y Z) (B:RrO (grow (grow F w Y) Y Z) Z q s (Rr.settle s {t with free:=some (KB s f m).1}))=>kM hF hq hp hb H hZ B);replace o:=hd' o;replace n:=hd' n;replace l:=hd' l;clear h N hd ho X c6 c7 j i T R U O S D z hw hF hq E;go_in;go_wp2_with (first|(go_at_call 161;(with_reducible refine n.out.mono ?_);rintro r w2 ⟨rfl,M⟩;obtain rfl:=M.symm)|(go_at_call 162;(with_reducible refine l.out.mono ?_);rintro r w5 ⟨rfl,V⟩;obtain rfl:=V.symm)|(go_at_call 232;(with_reducible refine o.out.mono ?_);rintro r w3 ⟨H,B⟩;obtain rfl:=H.ret)|(go_at_call 151;(with_reducible refine(C _ _ B).mono ?_);rintro r w4 ⟨rfl,L,J⟩));go_returns;exact y _ _ _ H L J
 obtain⟨q1,q2,y3,y4,c4,c5,z6⟩:=h.cells;clear z6 y3 y4;rw[j]at c4;rw[i]at c5;replace c4:w.cell? ⟨q,4,.none⟩=some (.pointer (some ⟨q1,0,.none⟩)):=c4;replace c5:w.cell? ⟨q,5,.none⟩=some (.pointer (some ⟨q2,0,.none⟩)):=c5;have n:=h.jQ j c4;have l:=h.KX i c5;rw[z]at n;rw[E]at l;replace n:=hd' n;replace l:=hd' l;rcases hun:t.undo with _|u
 ·obtain⟨u,I⟩:∃ u,t.com=some u:=by
   rcases D z E with e|e
   ·exact absurd hun e
   rcases hc:t.com with _|u
   ·exact absurd hc e
   exact⟨u,rfl⟩
  have N:GB s t m=(Rr.settle s {t with com:=some (zB s u m).1},(zB s u m).2):=by unfold GB;simp[hd,j,i,z,E,hun,I]
  rw[N];obtain⟨q3,cx,o⟩:=h.z9y I hun hw hp hb X (O u I) hs;have C:=hd' (fun (Y:World) (G:Nat->Prop) (B:RrO G Y q s {t with com:=some (zB s u m).1})=>B.settled j i);have y:=hd' (fun (Y Z:World) (e:Ending) (H:YB F p b w Y e (zB s u m).2) (hZ:Only (fun k=>k=q) Y Z) (B:RrO (grow (grow F w Y) Y Z) Z q s (Rr.settle s {t with com:=some (zB s u m).1}))=>kM hF hq hp hb H hZ B);replace o:=hd' o;rw[hun]at c6;replace c6:w.cell? ⟨q,6,.none⟩=some (.pointer none):=c6;clear h N hd ho X c7 j i T R U O S D z hw hF hq E hun I;go_in;go_wp2_with (first|(go_at_call 161;(with_reducible refine n.out.mono ?_);rintro r w2 ⟨rfl,M⟩;obtain rfl:=M.symm)|(go_at_call 162;(with_reducible refine l.out.mono ?_);rintro r w5 ⟨rfl,V⟩;obtain rfl:=V.symm)|(go_at_call 215;(with_reducible refine o.out.mono ?_);rintro r w3 ⟨H,B⟩;obtain rfl:=H.ret)|(go_at_call 151;(with_reducible refine(C _ _ B).mono ?_);rintro r w4 ⟨rfl,L,J⟩));go_returns;exact y _ _ _ H L J
 have I:t.com=none:=by
  rcases S with e|e
  ·rw[hun]at e;cases e
  exact e
 have N:GB s t m=(Rr.settle s {t with undo:=some (LB s u m).1},(LB s u m).2):=by unfold GB;simp[hd,j,i,z,E,hun,I]
 rw[N];obtain⟨q3,cx,o⟩:=h.z5y hun I hw hp hb X (U u hun) hs;have C:=hd' (fun (Y:World) (G:Nat->Prop) (B:RrO G Y q s {t with undo:=some (LB s u m).1})=>B.settled j i);have y:=hd' (fun (Y Z:World) (e:Ending) (H:YB F p b w Y e (LB s u m).2) (hZ:Only (fun k=>k=q) Y Z) (B:RrO (grow (grow F w Y) Y Z) Z q s (Rr.settle s {t with undo:=some (LB s u m).1}))=>kM hF hq hp hb H hZ B);replace o:=hd' o;rw[hun]at c6;clear c6;clear h N hd ho X c7 j i T R U O S D z hw hF hq E hun I;go_in;go_wp2_with (first|(go_at_call 161;(with_reducible refine n.out.mono ?_);rintro r w2 ⟨rfl,M⟩;obtain rfl:=M.symm)|(go_at_call 162;(with_reducible refine l.out.mono ?_);rintro r w5 ⟨rfl,V⟩;obtain rfl:=V.symm)|(go_at_call 246;(with_reducible refine o.out.mono ?_);rintro r w3 ⟨H,B⟩;obtain rfl:=H.ret)|(go_at_call 151;(with_reducible refine(C _ _ B).mono ?_);rintro r w4 ⟨rfl,L,J⟩));go_returns;exact y _ _ _ H L J
def uH (w w':World) (e:Ending) (s:Sh) (t:Rr):Prop:=∃ q,e= .returned (.pointer (some ⟨q,0,.none⟩))/\RrO (fun k=> w.heap.size<=k/\k < w'.heap.size) w' q s t/\Below w.heap.size w w'
theorem uH.bare{w w':World}{q:Nat}{s:Sh}{t:Rr}(h1:w.heap.size<=q)(hb:Below w.heap.size w w')(n:aA w' q (IB s t (.pointer none) (.pointer none) (.pointer none) (.pointer none)) 249)(i:t.res=none) (j:t.free=none) (l:t.undo=none) (m:t.com=none):uH w w' (.returned (.pointer (some ⟨q,0,.none⟩))) s t:=by
 refine⟨q,rfl,⟨fun k f=>f.2,⟨h1,n.lt⟩,0,0,0,0,fun _=>False,fun _=>False,fun k f=>f.elim,fun k f=>f.elim,?_,?_,?_,?_,?_⟩,hb⟩
 ·rw[i,j,l,m];exact n
 ·intro x b;rw[i]at b;cases b
 ·intro x b;rw[j]at b;cases b
 ·intro x b;rw[l]at b;cases b
 intro x b;rw[m]at b;cases b
theorem RrO.join{w Y:World}{q q1 q2:Nat}{s:Sh}{c:Int}{r:Rs}{f:Fe}{n o:Nat->Prop}(h1:w.heap.size<=q)(hb:Below w.heap.size w Y)(l:aA Y q (IB s ⟨c,none,none,none,none,0,false⟩ (.pointer (some ⟨q1,0,.none⟩)) (.pointer (some ⟨q2,0,.none⟩)) (.pointer none) (.pointer none)) 249)(y:RsO n Y q1 s r) (p:FeO o Y q2 s f) (m:∀ k,n k->q<k/\k<Y.heap.size) (j:∀ k,o k->(q<k/\k<Y.heap.size)/\¬ n k):
  RrO (fun k=>w.heap.size<=k/\k<Y.heap.size) Y q s ⟨c,some r,some f,none,none,0,false⟩:=
 ⟨fun k i=>i.2,⟨h1,l.lt⟩,q1,q2,0,0,n,o,fun k i=>⟨⟨by have:=(m k i).1;omega,(m k i).2⟩,by have:=(m k i).1;omega⟩,fun k i=>⟨⟨by have:=(j k i).1.1;omega,(j k i).1.2⟩,by have:=(j k i).1.1;omega,(j k i).2⟩,l,fun x b=>(by injection b with b;subst b;exact y),fun x b=>(by injection b with b;subst b;exact p),fun x b=>(by cases b),fun x b=>(by cases b)⟩
theorem vX{Y:World}{q:Nat}{s:Sh}{c a:Int}(h:aA Y q (RA s (nB s c a) (.pointer none)) 246):FeO (fun k=>k=q) Y q s (nB s c a):=
 ⟨rfl,0,⟨h,fun x b=>(by cases b)⟩,fun h=>absurd rfl h⟩
theorem size_set(w:World)(a:Addr)(v:Value):(w.setCell a v).heap.size=w.heap.size:=by simp[World.setCell]
theorem RsO.setK{F:Nat->Prop}{w:World}{q K:Nat}{s:Sh}{t:Rs}(h:RsO F w q s t)(b:¬ F K)(i:Nat)(v:Value):RsO F (w.setCell ⟨K,i,.none⟩ v) q s t:=
 h.only (Only.setCell (F:=fun k=>k=K) (Only.refl _ _) (.inl rfl) _) (fun k f e=>b (e ▸ f))
theorem RsO.bel{F:Nat->Prop}{w w':World}{q:Nat}{s:Sh}{t:Rs}(h:RsO F w q s t)(hb:Below w.heap.size w w'):RsO F w' q s t:=h.only (Only.of_below (F:=fun _=>False) hb) (fun _ _ e=>e)
theorem z3p(s:Sh)(c a n f:Int)(w:World):
  Calls Tryz.prog 130 #[.agg #[s.p,s.c,s.m],c,a,n,f] w fun e w'=>uH w w' e s (iD s c a n f):=by
 have X:=fun W=>MM s a W;have b5:=fun W=>EP n W;have M:=fun W=>kC s.p s.c s.m c W;have o:=fun k Y (hY:aA Y k (IB s ⟨c,none,none,none,none,0,false⟩ (.pointer none) (.pointer none) (.pointer none) (.pointer none)) 249)=>sW k s ⟨c,none,none,none,none,0,false⟩ _ _ _ _ 1 Y hY;have b9:=fun W=>DW s c n f W;have b7:=fun W=>JV s c a W;have J:∀ (Y:World) (G:Nat->Prop) (k:Nat),RrO G Y k s ⟨c,some (CB s c n f),some (nB s c a),none,none,0,false⟩->_:=fun Y G k h=>h.settled rfl rfl;have D:∀ (Y:World) (q q1 q2:Nat) (F1 F2:Nat->Prop),_->_->_->_->_->_->_->_:=fun Y q q1 q2 F1 F2=>@RrO.join w Y q q1 q2 s c (CB s c n f) (nB s c a) F1 F2;have b6:∀ (Y:World) (q:Nat),aA Y q (RA s (nB s c a) (.pointer none)) 246->_:=fun Y q h=>vX h;obtain⟨t2,b,bb⟩:∃ t2:Rr,Hid (t2=if spB s a=true/\lenB n=true/\0<=zA s.p s.c s.m c then Rr.settle s ⟨c,some (CB s c n f),some (nB s c a),none,none,0,false⟩ else⟨c,none,none,none,none,1,true⟩)/\t2=iD s c a n f:=⟨_,hd' rfl,rfl⟩;rw[<-bb];clear bb;generalize CB s c n f=bw at *;generalize bu:nB s c a=bf at *;clear bu;generalize zA s.p s.c s.m c=sx at *;generalize spB s a=I at *;generalize lenB n=ba at *;generalize lenV n=ln at *;generalize (if I=true then a/64 else 0)=pg at *;generalize (if I=true then a%64 else 0)=cr at *;obtain⟨sp,i,j⟩:=s;dsimp only at X M b9 b7;replace X:=hd' X;replace b5:=hd' b5;replace M:=hd' M;replace o:=hd' o;replace b9:=hd' b9;replace b7:=hd' b7;replace J:=hd' J;replace D:=hd' D;replace b6:=hd' b6;have bs:=(Below.refl w.heap.size w).alloc lr (.cells #[sp,i,j] 23);have t0:=jA w (.cells #[sp,i,j] 23);go_in;go_upto_region 1 with fail;generalize w.alloc (.cells #[sp,i,j] 23)=W at *;obtain⟨H,hH,bg⟩:=hidv w.heap.size;rw[<-bg]at t0 ⊢;have b8:aA W H #[sp,i,j] 23:=t0;have lH:H<W.heap.size:=b8.lt;obtain⟨c0,c1,c2⟩:=ci3 sp i j b8.cell;have cj:w.heap.size<=H:=by omega
 clear t0 bg;go_upto_region 4 with(first|(go_at_call 126;refine(X _).mono ?_;rintro r w1 ⟨rfl,bc⟩;have N:=b8.below bc;have d0:=ci sp (N.cell 0);have d1:=ci i (N.cell 1);have d2:=ci j (N.cell 2))|(go_at_call 55;refine(b5 _).mono ?_;rintro r w2 ⟨rfl,cb⟩;obtain rfl:=cb.symm));have b4:=xA bs bc;have hr:aA (w1.alloc (.cells (IB ⟨sp,i,j⟩ ⟨c,none,none,none,none,0,false⟩ (.pointer none) (.pointer none) (.pointer none) (.pointer none)) 249)) w1.heap.size (IB ⟨sp,i,j⟩ ⟨c,none,none,none,none,0,false⟩ (.pointer none) (.pointer none) (.pointer none) (.pointer none)) 249:=jA _ _;have E:=b4.trans ((Below.refl w.heap.size w1).alloc b4.size (.cells (IB ⟨sp,i,j⟩ ⟨c,none,none,none,none,0,false⟩ (.pointer none) (.pointer none) (.pointer none) (.pointer none)) 249));have b0:=N.alloc (.cells (IB ⟨sp,i,j⟩ ⟨c,none,none,none,none,0,false⟩ (.pointer none) (.pointer none) (.pointer none) (.pointer none)) 249);have y:H≠w1.heap.size:=fun e=>by have:=N.lt;omega
 have l:w.heap.size<=w1.heap.size:=b4.size;dsimp only[IB]at hr E b0 o;generalize w1.alloc (.cells #[sp,i,j,c,.pointer none,.pointer none,.pointer none,.pointer none,.int .i64 0,.bool false] 249)=V at *;obtain⟨K,hK,bh⟩:=hidv w1.heap.size;rw[<-bh]at hr y l ⊢;have cc:H<V.heap.size:=b0.lt;have cd:K<V.heap.size:=hr.lt;clear bh d0 d1 d2 c0 c1 c2 lH b8 bs b4 bc N;obtain⟨c0,c1,c2⟩:=ci3 sp i j b0.cell;have c8:(I=false/\t2=⟨c,none,none,none,none,1,true⟩)\/(I=true/\ba=false/\t2=⟨c,none,none,none,none,1,true⟩)\/(I=true/\ba=true/\decide (sx<0)=true/\t2=⟨c,none,none,none,none,1,true⟩)\/(I=true/\ba=true/\decide (sx<0)=false/\t2=Rr.settle ⟨sp,i,j⟩ ⟨c,some bw,some bf,none,none,0,false⟩):=by
  rw[b];cases I
  ·exact .inl ⟨rfl,jN (by simp)⟩
  cases ba
  ·exact .inr (.inl ⟨rfl,rfl,jN (by simp)⟩)
  by_cases h:sx<0
  ·exact .inr (.inr (.inl ⟨rfl,rfl,jT h,jN (by simp;omega)⟩))
  exact .inr (.inr (.inr ⟨rfl,rfl,jF h,jP ⟨rfl,rfl,by omega⟩⟩))
 clear b;rcases c8 with⟨rfl,b⟩|⟨rfl,rfl,b⟩|⟨rfl,rfl,h1,b⟩|⟨rfl,rfl,h1,b⟩;case inl=>replace b:=hd' b;go_wp2_with (go_at_call 150;(with_reducible refine(o _ _ hr).mono ?_);rintro r w3 U;obtain rfl:=U.ret);go_returns;rw[b];exact uH.bare l (E.trans (U.only.below E.size fun k B=>by rw[B];exact l)) U.row rfl rfl rfl rfl
 case inr.inl=>replace b:=hd' b;go_wp2_with (go_at_call 150;(with_reducible refine(o _ _ hr).mono ?_);rintro r w3 U;obtain rfl:=U.ret);go_returns;rw[b];exact uH.bare l (E.trans (U.only.below E.size fun k B=>by rw[B];exact l)) U.row rfl rfl rfl rfl
 case inr.inr.inl=>replace b:=hd' b;go_wp2_with (first|(go_at_call 44;refine(M _).mono ?_;rintro r w4 ⟨rfl,F⟩;have ca:=hr.below F)|(go_at_call 150;(with_reducible refine(o _ _ ca).mono ?_);rintro r w3 U;obtain rfl:=U.ret));go_returns;rw[b];have b3:=xA E F;exact uH.bare l (b3.trans (U.only.below b3.size fun k B=>by rw[B];exact l)) U.row rfl rfl rfl rfl
 case inr.inr.inr=>
  replace b:=hd' b;go_upto_region 7 with(first|(go_at_call 44;refine(M _).mono ?_;rintro r w4 ⟨rfl,F⟩));have bz:=hr.below F;have bx:=b0.below F;have b3:=xA E F;clear hr b0 E F c0 c1 c2 cc cd o X b5 M
  have b1:=hd' (fun (Z:World) (q1 q2:Nat) (F1:Nat->Prop) (hb:Below w.heap.size w Z) (bv:aA Z K (IB ⟨sp,i,j⟩ ⟨c,none,none,none,none,0,false⟩ (.pointer (some ⟨q1,0,.none⟩)) (.pointer (some ⟨q2,0,.none⟩)) (.pointer none) (.pointer none)) 249) (h1:RsO F1 Z q1 ⟨sp,i,j⟩ bw) (h2:aA Z q2 (RA ⟨sp,i,j⟩ bf (.pointer none)) 246) (h3:∀ k,F1 k->K<k/\k<Z.heap.size) (h4:K<q2/\¬ F1 q2)=>
   ((J Z _ K (D Z K q1 q2 F1 (fun k=>k=q2) l hb bv h1 (b6 Z q2 h2) h3 (fun k B=>by subst B;exact⟨⟨h4.1,h2.lt⟩,h4.2⟩))).mono (fun e w' hE=>(⟨hE.1,K,rfl,by
    have hs:=hE.2.1.size
    refine(b.out ▸ hE.2.2).weak (fun k B=>?_) (fun k B=>B.2)
    rcases B with B|B
    ·exact⟨B.1,Nat.lt_of_lt_of_le B.2 hs⟩
    ·exact⟨Nat.le_trans hb.size B.1,B.2⟩,hb.trans (hE.2.1.below hb.size fun k B=>by rw[B];exact l)⟩:e= .returned (.tuple #[])/\uH w w' (.returned (.pointer (some ⟨K,0,.none⟩))) ⟨sp,i,j⟩ t2)):jK 151 #[some K] Z fun e w'=>e= .returned (.tuple #[])/\uH w w' (.returned (.pointer (some ⟨K,0,.none⟩))) ⟨sp,i,j⟩ t2))
  clear J D b6 b;have c7:Below w.heap.size w w4.drew:=b3.drew;have b2:=bx.drew;have L:=bz.drew;have cp:H<w4.drew.heap.size:=b2.lt;have cq:K<w4.drew.heap.size:=L.lt;have c4:=ce (.pointer none) (L.cell 4);have c5:=ce (.pointer none) (L.cell 5);have hS:=hd' (fun (Y:World) (h:aA Y H #[sp,i,j] 23)=>(⟨h.cell 0,h.cell 1,h.cell 2⟩:Y.cell? ⟨H,0,.none⟩=some (.int .i64 sp)/\Y.cell? ⟨H,1,.none⟩=some (.int .i64 i)/\Y.cell? ⟨H,2,.none⟩=some (.int .i64 j)));have ck:K≠H:=fun e=>y e.symm
  go_region_held3 (fun Y=>Y.cell? ⟨H,0,.none⟩=some (.int .i64 sp)/\Y.cell? ⟨H,1,.none⟩=some (.int .i64 i)/\Y.cell? ⟨H,2,.none⟩=some (.int .i64 j))
   (first|exact hS _ b2|exact hS _ R|exact hS _ O|exact hS _ (R.other y _ _)|exact hS _ (O.other y _ _)|exact hS _ ((R.other y _ _).other y _ _)|exact hS _ ((O.other y _ _).other y _ _))
   (first|(go_at_call 128;refine(b9 _).mono ?_;rintro r wr ⟨q1,rfl,c6,C⟩;have R:aA wr H #[sp,i,j] 23:=(by first|exact b2.below C|exact O.below C|exact(O.other y _ _).below C);obtain⟨va,vb,T⟩:∃ va vb,aA wr K #[sp,i,j,c,va,vb,.pointer none,.pointer none,.int .i64 0,.bool false] 249:=(by first|exact⟨_,_,L.below C⟩|exact⟨_,_,S.below C⟩|exact⟨_,_,((S.set 5 _).cast rfl).below C⟩);have z4:=ce va (T.cell 4);have z5:=ce vb (T.cell 5);have zf:=GA T)|(go_at_call 129;refine(b7 _).mono ?_;rintro r wf ⟨q2,rfl,cm,bk,z⟩;have O:aA wf H #[sp,i,j] 23:=(by first|exact b2.below z|exact R.below z|exact(R.other y _ _).below z);obtain⟨va,vb,S⟩:∃ va vb,aA wf K #[sp,i,j,c,va,vb,.pointer none,.pointer none,.int .i64 0,.bool false] 249:=(by first|exact⟨_,_,L.below z⟩|exact⟨_,_,T.below z⟩|exact⟨_,_,((T.set 4 _).cast rfl).below z⟩);have y4:=ce va (S.cell 4);have y5:=ce vb (S.cell 5);have yf:=GA S))
  have cg:=C.size;have ch:=z.size;have cf:=bk.lt;have bi:¬ (w4.drew.heap.size<=K/\K<wr.heap.size):=fun e=>by omega
  have bm:Below w.heap.size w ((wf.setCell ⟨K,4,.none⟩ (.pointer (some ⟨q1,0,.none⟩))).setCell ⟨K,5,.none⟩ (.pointer (some ⟨q2,0,.none⟩))):=((xA (xA c7 C) z).setCell (p:=⟨K,4,.none⟩) l _).setCell (p:=⟨K,5,.none⟩) l _;have bn:=(((L.below C).below z).set 4 (.pointer (some ⟨q1,0,.none⟩))).set 5 (.pointer (some ⟨q2,0,.none⟩));have bp:=((c6.bel z).setK bi 4 (.pointer (some ⟨q1,0,.none⟩))).setK bi 5 (.pointer (some ⟨q2,0,.none⟩));have bj:q2≠K:=fun e=>by omega
  have bq:=(bk.other bj 4 (.pointer (some ⟨q1,0,.none⟩))).other bj 5 (.pointer (some ⟨q2,0,.none⟩));have cl:((wf.setCell ⟨K,4,.none⟩ (.pointer (some ⟨q1,0,.none⟩))).setCell ⟨K,5,.none⟩ (.pointer (some ⟨q2,0,.none⟩))).heap.size=wf.heap.size:=(size_set _ _ _).trans (size_set _ _ _);generalize (wf.setCell ⟨K,4,.none⟩ (.pointer (some ⟨q1,0,.none⟩))).setCell ⟨K,5,.none⟩ (.pointer (some ⟨q2,0,.none⟩))=Z at *;have c9:=hd' (b1 Z q1 q2 _ bm (bn.cast rfl) bp bq (fun k B=>by omega) ⟨by omega,fun e=>by omega⟩);clear bm bn bp bq b1;go_wp2_with (go_at_call 151;(with_reducible refine c9.out.mono ?_);rintro r w9 ⟨rfl,hB⟩);go_returns;exact hB
end

end Go.Proofs.YtkilokkopbajkaaGreat
