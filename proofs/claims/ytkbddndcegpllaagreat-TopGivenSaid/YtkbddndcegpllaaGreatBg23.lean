/- Texts bound together: RenU RenV QLas2 AdA AdB AudRs Open. -/
import Derived.ProofKit

import Derived.OpenShut

import Derived.SizedLaws

import Derived.ChangeSlices

import Derived.Test.YtkbddndcegpllaaGreatBg22

set_option linter.all false
set_option maxHeartbeats 2000000
set_option maxRecDepth 100000
namespace Go.Proofs.YtkbddndcegpllaaGreat

section

open Go.RowKit

attribute [local go_sem ↓] Go.wp_at_zero Go.wp_at_succ

theorem zp0{F:Nat->Prop}{q p b:Nat}{s:Sh}{y:Rr}{m:Mem}{w j i:World}{z:Ending}(B:∀ k,F k->k<w.heap.size)(o:F q)(D:¬ F p)(hb:¬ F b)(l:zef F p b w j z m)(n:Only (fun k=>k=q) j i)(C:RrO (grow (grow F w j) j i) i q s y):
  zef F p b w i (.returned (.tuple #[])) m/\RrO (grow F w i) i q s y:=by
 have r:=l.only.size;have t:=n.size;refine⟨⟨rfl,l.wds.only n (fun e=>D (e ▸ o)) (fun e=>hb (e ▸ o)),l.only.trans n (fun k _ e=>.inl (by rw[e];exact o))⟩,C.weak (fun k f=>?_) (zec B (Nat.le_trans r t))⟩;rcases f with(f|f)|f
 ·exact .inl f
 ·exact .inr ⟨f.1,Nat.lt_of_lt_of_le f.2 t⟩
 exact .inr ⟨Nat.le_trans r f.1,f.2⟩
theorem RrO.zv1{F:Nat->Prop}{q q1:Nat}{s:Sh}{t:Rr}{w:World}(h:RrO F w q s t){r:Rs}(b:t.res=some r)(c:w.cell? ⟨q,4,.none⟩=some (.pointer (some ⟨q1,0,.none⟩))):
  Calls Tryz.prog 192 #[.pointer (some ⟨q1,0,.none⟩)] w fun e w'=>e= .returned (.bool r.done)/\w'=w:=by
 obtain⟨z,y,q2,_,_,_,o,p,l,m,i,n,_⟩:=h;have j:=ce (ptrV t.res q2) (i.cell 4);rw[b]at j;have e:q1=q2:=by have:=c.symm.trans j;simpa[ptrV] using this
 subst e;exact zil (n r b)
theorem RrO.zxj{F:Nat->Prop}{q q1:Nat}{s:Sh}{t:Rr}{w:World}(h:RrO F w q s t){f:Fe}(b:t.free=some f)(c:w.cell? ⟨q,5,.none⟩=some (.pointer (some ⟨q1,0,.none⟩))):
  Calls Tryz.prog 193 #[.pointer (some ⟨q1,0,.none⟩)] w fun e w'=>e= .returned (.bool f.done)/\w'=w:=by
 obtain⟨z,y,_,q2,_,_,p,r,m,n,i,_,o,_⟩:=h;have j:=ce (ptrV t.free q2) (i.cell 5);rw[b]at j;have e:q1=q2:=by have:=c.symm.trans j;simpa[ptrV] using this
 subst e;obtain⟨_,q3,l,_⟩:=o f b;exact zkw q1 _ f.done w l.row rfl
theorem RrO.cells{F:Nat->Prop}{q:Nat}{s:Sh}{t:Rr}{w:World}(h:RrO F w q s t):∃ q1 q2 q3 q4,w.cell? ⟨q,4,.none⟩=some (ptrV t.res q1)/\w.cell? ⟨q,5,.none⟩=some (ptrV t.free q2)/\w.cell? ⟨q,6,.none⟩=some (ptrV t.undo q3)/\w.cell? ⟨q,7,.none⟩=some (ptrV t.com q4)/\w.cell? ⟨q,9,.none⟩=some (.bool t.done):=by
 obtain⟨n,m,q1,q2,q3,q4,j,l,f,i,b,_⟩:=h;exact⟨q1,q2,q3,q4,b.cell 4,b.cell 5,b.cell 6,b.cell 7,b.cell 9⟩
theorem zza{F:Nat->Prop}{q p b:Nat}{s:Sh}{t:Rr}{m:Mem}{w:World}(h:RrO F w q s t)(hw:zaq w p b m)(hp:¬ F p)(hb:¬ F b)(hf:Fits s m)(ho:rrOk s t)(hs:m.st<1000000000):
  Calls Tryz.prog 284 #[.pointer (some ⟨q,0,.none⟩),.pointer (some ⟨p,0,.none⟩)] w fun e w'=>zef F p b w w' e (zb9 s t m).2/\RrO (grow F w w') w' q s (zb9 s t m).1:=by
 obtain⟨y1,y2,q5,q6,z4,z5,c6,c7,c9⟩:=h.cells;clear z4 z5 y1 y2;rcases Bool.eq_false_or_eq_true t.done with hd|hd
 ·have O:zb9 s t m=(t,m):=by unfold zb9;rw[if_pos hd]
  rw[O];rw[hd]at c9;have y:=hd' (h.weak (G:=grow F w w) (fun k hk=>.inl hk) (zec h.1 lr));clear h O hd ho hf c6 c7;go_in;go_wp2_with fail;go_returns;exact⟨⟨rfl,hw,Only.refl _ _⟩,y.out⟩
 obtain⟨r,f,j,i,V,T,X,S,U,D⟩:=ho.cl hd;rw[hd]at c9;have hF:=h.1;have hq:=h.2.1;rcases Bool.eq_false_or_eq_true r.done with z|z;case inr=>
  have O:zb9 s t m=(Rr.settle s {t with res:=some (zb0 s r m).1},(zb0 s r m).2):=by unfold zb9;simp[hd,j,i,z]
  rw[O];obtain⟨q1,R,o⟩:=h.zuw j hw hp hb hf V hs;have n:=h.zv1 j R;rw[z]at n;have C:=hd' (fun (Y:World) (G:Nat->Prop) (B:RrO G Y q s {t with res:=some (zb0 s r m).1})=>B.settled rfl i);have y:=hd' (fun (Y Z:World) (e:Ending) (I:zef F p b w Y e (zb0 s r m).2) (hZ:Only (fun k=>k=q) Y Z) (B:RrO (grow (grow F w Y) Y Z) Z q s (Rr.settle s {t with res:=some (zb0 s r m).1}))=>zp0 hF hq hp hb I hZ B);replace o:=hd' o;replace n:=hd' n;clear h O hd ho hf c6 c7 j i V T X S U D z hw hF hq;go_in;go_wp2_with (first|(go_at_call 192;(with_reducible refine n.out.mono ?_);rintro r w2 ⟨rfl,N⟩;obtain rfl:=N.symm)|(go_at_call 253;(with_reducible refine o.out.mono ?_);rintro r w3 ⟨I,B⟩;obtain rfl:=I.ret)|(go_at_call 175;(with_reducible refine(C.out _ _ B).mono ?_);rintro r w4 ⟨rfl,M,L⟩));go_returns;exact y.out _ _ _ I M L
 rcases Bool.eq_false_or_eq_true f.done with E|E;case inr=>
  have O:zb9 s t m=(Rr.settle s {t with free:=some (zca s f m).1},(zca s f m).2):=by unfold zb9;simp[hd,j,i,z,E]
  rw[O];obtain⟨q2,c5,o⟩:=h.z5a i hw hp hb hf T hs;have l:=h.zxj i c5;rw[E]at l;obtain⟨q1,y2,y3,y4,R,z5⟩:=h.cells;clear z5 y2 y3 y4;rw[j]at R;replace R:w.cell? ⟨q,4,.none⟩=some (.pointer (some ⟨q1,0,.none⟩)):=R;have n:=h.zv1 j R;rw[z]at n;have C:=hd' (fun (Y:World) (G:Nat->Prop) (B:RrO G Y q s {t with free:=some (zca s f m).1})=>B.settled j rfl);have y:=hd' (fun (Y Z:World) (e:Ending) (I:zef F p b w Y e (zca s f m).2) (hZ:Only (fun k=>k=q) Y Z) (B:RrO (grow (grow F w Y) Y Z) Z q s (Rr.settle s {t with free:=some (zca s f m).1}))=>zp0 hF hq hp hb I hZ B);replace o:=hd' o;replace n:=hd' n;replace l:=hd' l;clear h O hd ho hf c6 c7 j i V T X S U D z hw hF hq E;go_in;go_wp2_with (first|(go_at_call 192;(with_reducible refine n.out.mono ?_);rintro r w2 ⟨rfl,N⟩;obtain rfl:=N.symm)|(go_at_call 193;(with_reducible refine l.out.mono ?_);rintro r w5 ⟨rfl,b0⟩;obtain rfl:=b0.symm)|(go_at_call 271;(with_reducible refine o.out.mono ?_);rintro r w3 ⟨I,B⟩;obtain rfl:=I.ret)|(go_at_call 175;(with_reducible refine(C.out _ _ B).mono ?_);rintro r w4 ⟨rfl,M,L⟩));go_returns;exact y.out _ _ _ I M L
 obtain⟨q1,q2,y3,y4,R,c5,z6⟩:=h.cells;clear z6 y3 y4;rw[j]at R;rw[i]at c5;replace R:w.cell? ⟨q,4,.none⟩=some (.pointer (some ⟨q1,0,.none⟩)):=R;replace c5:w.cell? ⟨q,5,.none⟩=some (.pointer (some ⟨q2,0,.none⟩)):=c5;have n:=h.zv1 j R;have l:=h.zxj i c5;rw[z]at n;rw[E]at l;replace n:=hd' n;replace l:=hd' l;rcases hun:t.undo with _|u
 ·obtain⟨u,J⟩:∃ u,t.com=some u:=by
   rcases D z E with e|e
   ·exact absurd hun e
   rcases hc:t.com with _|u
   ·exact absurd hc e
   exact⟨u,rfl⟩
  have O:zb9 s t m=(Rr.settle s {t with com:=some (zb3 s u m).1},(zb3 s u m).2):=by unfold zb9;simp[hd,j,i,z,E,hun,J]
  rw[O];obtain⟨q3,cx,o⟩:=h.z9y J hun hw hp hb hf (S u J) hs;have C:=hd' (fun (Y:World) (G:Nat->Prop) (B:RrO G Y q s {t with com:=some (zb3 s u m).1})=>B.settled j i);have y:=hd' (fun (Y Z:World) (e:Ending) (I:zef F p b w Y e (zb3 s u m).2) (hZ:Only (fun k=>k=q) Y Z) (B:RrO (grow (grow F w Y) Y Z) Z q s (Rr.settle s {t with com:=some (zb3 s u m).1}))=>zp0 hF hq hp hb I hZ B);replace o:=hd' o;rw[hun]at c6;replace c6:w.cell? ⟨q,6,.none⟩=some (.pointer none):=c6;clear h O hd ho hf c7 j i V T X S U D z hw hF hq E hun J;go_in;go_wp2_with (first|(go_at_call 192;(with_reducible refine n.out.mono ?_);rintro r w2 ⟨rfl,N⟩;obtain rfl:=N.symm)|(go_at_call 193;(with_reducible refine l.out.mono ?_);rintro r w5 ⟨rfl,b0⟩;obtain rfl:=b0.symm)|(go_at_call 254;(with_reducible refine o.out.mono ?_);rintro r w3 ⟨I,B⟩;obtain rfl:=I.ret)|(go_at_call 175;(with_reducible refine(C.out _ _ B).mono ?_);rintro r w4 ⟨rfl,M,L⟩));go_returns;exact y.out _ _ _ I M L
 have J:t.com=none:=by
  rcases U with e|e
  ·rw[hun]at e;cases e
  exact e
 have O:zb9 s t m=(Rr.settle s {t with undo:=some (zcf s u m).1},(zcf s u m).2):=by unfold zb9;simp[hd,j,i,z,E,hun,J]
 rw[O];obtain⟨q3,cx,o⟩:=h.z5y hun J hw hp hb hf (X u hun) hs;have C:=hd' (fun (Y:World) (G:Nat->Prop) (B:RrO G Y q s {t with undo:=some (zcf s u m).1})=>B.settled j i);have y:=hd' (fun (Y Z:World) (e:Ending) (I:zef F p b w Y e (zcf s u m).2) (hZ:Only (fun k=>k=q) Y Z) (B:RrO (grow (grow F w Y) Y Z) Z q s (Rr.settle s {t with undo:=some (zcf s u m).1}))=>zp0 hF hq hp hb I hZ B);replace o:=hd' o;rw[hun]at c6;clear c6;clear h O hd ho hf c7 j i V T X S U D z hw hF hq E hun J;go_in;go_wp2_with (first|(go_at_call 192;(with_reducible refine n.out.mono ?_);rintro r w2 ⟨rfl,N⟩;obtain rfl:=N.symm)|(go_at_call 193;(with_reducible refine l.out.mono ?_);rintro r w5 ⟨rfl,b0⟩;obtain rfl:=b0.symm)|(go_at_call 285;(with_reducible refine o.out.mono ?_);rintro r w3 ⟨I,B⟩;obtain rfl:=I.ret)|(go_at_call 175;(with_reducible refine(C.out _ _ B).mono ?_);rintro r w4 ⟨rfl,M,L⟩));go_returns;exact y.out _ _ _ I M L
end

section

theorem z6z(s:Sh)(c n f:Int):(∀ x,(zdh s c n f).seeker=some x->skOk s x)/\(∀ x,(zdh s c n f).runner=some x->rnOk s x):=by
 unfold zdh;split
 ·exact⟨fun x b=>(by injection b with b;subst b;exact zwd _ _ _ _),fun x b=>(by cases b)⟩
 split
 ·exact⟨fun x b=>(by cases b),fun x b=>(by injection b with b;subst b;exact zwt _ _ _)⟩
 exact⟨fun x b=>(by cases b),fun x b=>(by cases b)⟩
theorem zm9{s:Sh}{t:Rr}{r:Rs}{f:Fe}(j:t.res=some r)(i:t.free=some f)(m:(∀ x,r.seeker=some x->skOk s x)/\(∀ x,r.runner=some x->rnOk s x))(l:feOk s f)(o:∀ u,t.undo=some u->unOk s u)(n:∀ u,t.com=some u->cmOk s u)(p:t.undo=none\/t.com=none):rrOk s (t.settle s):=by
 rcases zcp s t r f j i with⟨_,e⟩|⟨_,_,e⟩|⟨_,_,B,e⟩|⟨_,_,_,_,e⟩|⟨b,_,_,_,_,C,e⟩|⟨b,_,_,_,_,q,y,_,_,e⟩|⟨b,_,_,_,_,q,y,_,_,e⟩;all_goals rw[e]
 ·exact⟨fun h=>by cases h⟩
 ·exact⟨fun h=>by cases h⟩
 ·exact⟨fun _=>⟨r,f,j,i,m,l,o,n,p,fun h=>by rw[B]at h;cases h⟩⟩
 ·exact⟨fun h=>by cases h⟩
 ·refine⟨fun _=>⟨r,f,j,i,m,l,o,n,p,fun _ z=>?_⟩⟩;rcases C with h|⟨_,h⟩|⟨_,_,h⟩
  ·exact .inl h
  ·exact .inr h
  rw[h]at z;cases z
 ·exact⟨fun _=>⟨r,f,j,i,m,l,o,fun u hu=>by injection hu with hu;subst hu;exact zpt _ _ _,.inl q,fun _ _=>.inr (fun h=>by cases h)⟩⟩
 exact⟨fun _=>⟨r,f,j,i,m,l,fun u hu=>by injection hu with hu;subst hu;exact z8l _ _ _,n,.inr y,fun _ _=>.inl (fun h=>by cases h)⟩⟩
theorem z4q(s:Sh)(c a n first:Int):rrOk s (zhh s c a n first):=by
 unfold zhh;split
 ·exact zm9 rfl rfl (z6z _ _ _ _) (zwa _ _ _) (fun u hu=>by cases hu) (fun u hu=>by cases hu) (.inl rfl)
 exact⟨fun h=>by cases h⟩
end

section

open Go.RowKit

theorem ziv{P:Program}{Q:Exit->Act->World->Prop}{p q:Oper}{id:Nat}{a:Act}{W:World}{x:zd0}{ld:Nat}{v:Value}{K0 K1:World->Prop}{l l':List Oper}{ts:List Nat}(n:Nat)(hm:P.follows .mixedOrders=true)(hd:l.drop n= [p,q])(N:lastB (l.take n) p=true)(m:lastB (l.take n++[p]) q=true)
  (hl:zfq x ld v 0 (l.take n)=l') (hB:Region.lexB .any l'.toArray=true) (hf:zrg (l.take n).toArray x ld=true) (z:Region.noSelect (l.take n).toArray=true)
  (hn:x.al≠x.st/\x.al≠ld/\x.st≠ld/\x.src≠x.d) (J:ld<(l.take n).toArray.size/\(x.al<(l.take n).toArray.size↔x.st<(l.take n).toArray.size)) (S:x.so≠x.al/\x.so≠x.st) (R:x.al<(l.take n).toArray.size->x.so≠ld) (hw:zsq (l.take n).toArray x ld ts=true) (T:x.d ∉ ts) (t:x.d<a.tmps.size)
  (hc:zn6 W K0/\zn6 W K1) (X:K0 W.drew)
  (s:∃ aF,(∀ B,K0 B\/K1 B->W.heap.size<=B.heap.size->wpQuiet P l'.toArray (fun w'=>∃ e:Ext B,w'=e.w) (fun V=>V=aF) l' a)/\(x.al<(l.take n).toArray.size->∀ D,ze2 P (l.take n) D aF x)/\(∀ D,zij P (l.take n) D aF W ld v ts K0 K1)/\
   ∀ a w M,zni W x K1 (l.take n).toArray.size aF a w M->wpList P l.toArray Q [p,q] a w):(Code.region id l.toArray true).wp P Q a W:=by
 have L:l=(l.take n++[p])++[q]:=by have h:=(List.take_append_drop n l).symm;rw[hd]at h;simpa using h
 obtain⟨aF,Y,E,F,Z⟩:=s;generalize b0:l.take n=f at *;subst L;have I:p.guard=none:=by simp only[lastB,Bool.and_eq_true]at m;have:=List.all_eq_true.1 m.1.1.1 p (by simp);simp only[Bool.and_eq_true,Option.isNone_iff_eq_none]at this;exact this.1
 have C:∀ k,Region.wanted p k=true:=fun k=>by unfold Region.wanted;rw[I]
 have h5:=zqg (P:=P) (Q:=fun e a w=>match e with | .normal=>wpList P ((f++[p])++[q]).toArray Q [p,q] a w|e=>Q e a w) hl hB hf z hn J S R hw T t hc X ⟨aF,Y,fun hx=>E hx _,F _,Z⟩;have G:=zkz (P:=P) (Q:=fun e a w=>match e with | .normal=>wpList P ((f++[p])++[q]).toArray Q [q] a w|e=>Q e a w) N (fun e a w i j=>by cases e<;>first|exact absurd rfl i|exact j) (fun a w j=>?_) f.toArray.size (Array.replicate f.toArray.size false) a W.drew (by simp) (fun k o _ y=>by rw[getD_replicate_false]at y;cases y) h5
 ·have hr:(Array.replicate f.toArray.size false).push false=Array.replicate (f++[p]).toArray.size false:=by simp[Array.replicate_succ]
  rw[hr]at G;have U:f.toArray.size+1=(f++[p]).toArray.size:=by simp
  rw[U]at G;have h7:=zkz (P:=P) (Q:=Q) m (fun e a w i j=>by cases e<;>first|exact absurd rfl i|exact j) (fun a w j=>by unfold wpOp;rw[zhz];exact j) (f++[p]).toArray.size (Array.replicate (f++[p]).toArray.size false) a W.drew (by simp) (fun k o _ y=>by rw[getD_replicate_false]at y;cases y) G;refine wp_region_any hm ?_;have hz:((f++[p])++[q]).toArray.size=(f++[p]).toArray.size+1:=by simp
  rw[hz];have O:(Array.replicate (f++[p]).toArray.size false).push false=Array.replicate ((f++[p]).toArray.size+1) false:=by rw[Array.replicate_succ]
  rw[<-O];exact h7
 unfold wpOp;rw[zhz];simp only[C,if_true];have r:wpList P ((f++[p])++[q]).toArray Q [p,q] a w:=j;unfold wpList at r;simp only[C,if_true]at r;rcases r with h|⟨E,b,u,F⟩
 ·exact .inl (zpf h (fun e a w i j=>by cases e<;>first|exact absurd rfl i|exact j))
 exact .inr ⟨E,b,u,F⟩
end

section

open Go.RowKit

attribute [local go_sem ↓] Go.wp_at_zero Go.wp_at_succ

def zan (s:Sh) (t:Ad):Array Value:= #[.int .i64 s.p,.int .i64 s.c,.int .i64 s.m,.int .i64 t.c,.int .i64 t.d,.int .i64 t.next,.int .u64 t.was,.int .i64 t.who,.int .i64 t.at',.int .i64 t.i,.int .i64 t.pk,.int .i64 t.pa,.int .i64 t.pb,.int .i64 t.err,.bool t.done]
theorem zxq(q:Nat)(cs:Array Value)(v:Bool)(w:World)(h:zaa w q cs 282)(b:cs[14]?=some (.bool v)):Calls Tryz.prog 292 #[.pointer (some ⟨q,0,.none⟩)] w fun e w'=>e= .returned (.bool v)/\w'=w:=by
 have c:=(h.cell 14).trans b;clear h b;go_in;go_wp2_with fail;go_returns;exact⟨rfl,rfl⟩
theorem zhr(q:Nat)(s:Sh)(t:Ad)(x:Int)(w:World)(l:zaa w q (zan s t) 282):
  Calls Tryz.prog 176 #[.pointer (some ⟨q,0,.none⟩),.int .i64 x] w fun e w'=>Turned q w w' e (zan s (t.fin x)) 282:=by
 have j:=At1.start l;clear l;obtain⟨sp,p,r⟩:=s;obtain⟨z,B,D,E,o,y,C,pk,pa,pb,i,b⟩:=t;have m:=ci i (j.cell 13);have n:=ce (.bool b) (j.cell 14);have F:=j.free;go_in;go_wp2_with fail;go_returns;exact((j.set 13 _).set 14 _).fin rfl
theorem z0i(q:Nat)(s:Sh)(t:Ad)(w:World)(b:zaa w q (zan s t) 282):
  Calls Tryz.prog 305 #[.pointer (some ⟨q,0,.none⟩)] w fun e w'=>e= .returned (.int .i64 t.err)/\w'=w:=by
 have c:=ci t.err (b.cell 13);clear b;go_in;go_wp2_with fail;go_returns;exact⟨rfl,rfl⟩
theorem zp2(s:Sh)(t:Ad)(again next:Int):(t.at'+1=s.p/\next=9/\s.m=0/\t.turn s again next= {t with at':=0,i:=0,next:=10})\/(t.at'+1=s.p/\next=9/\(s.m==0)=false/\t.turn s again next= {t with at':=0,i:=0,next:=9})\/(t.at'+1=s.p/\(next==9)=false/\t.turn s again next= {t with at':=0,i:=0,next:=next})
  \/((t.at'+1==s.p)=false/\again=9/\s.m=0/\t.turn s again next= {t with at':=t.at'+1,next:=10})\/((t.at'+1==s.p)=false/\again=9/\(s.m==0)=false/\t.turn s again next= {t with at':=t.at'+1,next:=9})\/((t.at'+1==s.p)=false/\(again==9)=false/\t.turn s again next= {t with at':=t.at'+1,next:=again}):=by
 by_cases b:t.at'+1=s.p<;>by_cases f:next=9<;>by_cases j:s.m=0<;>by_cases l:again=9<;>simp[Ad.turn,b,f,j,l]
theorem zek(q:Nat)(s:Sh)(t:Ad)(again next:Int)(w:World)(G:zaa w q (zan s t) 282)(Y:0<=t.at'/\t.at'<64):
  Calls Tryz.prog 300 #[.pointer (some ⟨q,0,.none⟩),.int .i64 again,.int .i64 next] w fun e w'=>Turned q w w' e (zan s (t.turn s again next)) 282:=by
 have i:=At1.start G;clear G;have C:=zp2 s t again next
 have w1:=wrp (t.at'+1);obtain⟨J,b⟩:∃ J,J=t.turn s again next:=⟨_,rfl⟩
 rw[<-b]at C ⊢;clear b Y;obtain⟨sp,sc,I⟩:=s;obtain⟨tc,td,tn,tw,E,o,L,pk,pa,pb,m,l⟩:=t;dsimp only at C w1;obtain⟨c0,c1,c2,c3,N,O⟩:=ci6 sp sc I tc td tn i.cell;have R:=ce (.int .u64 tw) (i.cell 6);have S:=ci E (i.cell 7);have T:=ci o (i.cell 8);have V:=ci L (i.cell 9);have p:=ci pk (i.cell 10);have r:=ci pa (i.cell 11);have y:=ci pb (i.cell 12);have z:=ci m (i.cell 13);have B:=ce (.bool l) (i.cell 14);have M:=i.free;go_in;go_upto_region 2 with fail;have n:=(i.set 8 (.int .i64 (o+1))).set 5 (.int .i64 again);generalize World.setCell _ ⟨q,5,.none⟩ (.int .i64 again)=U at *;clear c0 c1 c2 c3 N O R S T V p r y z B i M;have z0:=ci sp (n.cell 0);have z8:=ci (o+1) (n.cell 8);have lU:=n.lt;refine zaj (by kernel_rfl) (by kernel_rfl) ?_;repeat (go_big_quiet_step (fail))
 refine wpQuiet_nil ?_;rintro _ ⟨F,rfl⟩;have j:=n.below F.below;generalize F.w=X at *;have k0:=ci sp (j.cell 0);have k2:=ci I (j.cell 2);have k5:=ci again (j.cell 5);have k8:=ci (o+1) (j.cell 8);have k9:=ci L (j.cell 9);have M:=j.free;rcases C with⟨hs,rfl,D,b⟩|⟨hs,rfl,D,b⟩|⟨hs,Z,b⟩|⟨hs,rfl,D,b⟩|⟨hs,rfl,D,b⟩|⟨hs,Z,b⟩;all_goals
  replace b:=hd' b;try subst hs
  go_wp2_with fail;go_returns
 ·exact((((j.set 8 _).set 9 _).set 5 _).set 5 _).fin (by rw[b.out];rfl)
 ·exact(((j.set 8 _).set 9 _).set 5 _).fin (by rw[b.out];rfl)
 ·exact(((j.set 8 _).set 9 _).set 5 _).fin (by rw[b.out];rfl)
 ·exact(j.set 5 _).fin (by rw[b.out];rfl)
 ·exact j.fin (by rw[b.out];rfl)
 exact j.fin (by rw[b.out];rfl)
theorem zo4(q:Nat)(s:Sh)(t:Ad)(w:World)(T:zaa w q (zan s t) 282)(R:0<=t.at'/\t.at'<64)(hi:0<=t.i/\t.i<16):
  Calls Tryz.prog 294 #[.pointer (some ⟨q,0,.none⟩)] w fun e w'=>Turned q w w' e (zan s (t.slot s)) 282:=by
 have j:=At1.start T;clear T;unfold Ad.slot;have m:=fun W=>slots_any t.pa W;have n:=fun Y (hY:zaa Y q (zan s {t with i:=0,next:=11}) 282)=>zek q s {t with i:=0,next:=11} 10 13 Y hY R;have V:=wrp (t.i+1);have l:t.i+1=zah t.pa\/(¬ t.i+1=zah t.pa/\(t.i+1==zah t.pa)=false):=by
  by_cases h:t.i+1=zah t.pa
  ·exact .inl h
  exact .inr ⟨h,by simpa using h⟩
 obtain⟨J,b,o⟩:∃ J:Ad,Hid (J=if t.i+1=zah t.pa then({t with i:=0,next:=11}:Ad).turn s 10 13 else {t with i:=t.i+1,next:=11})/\J=_:=⟨_,hd' rfl,rfl⟩;rw[<-o];clear o;generalize zah t.pa=sv at *;obtain⟨sp,sc,sm⟩:=s;obtain⟨tc,td,tn,tw,L,ta,C,pk,pa,pb,y,p⟩:=t;dsimp only at m n l b V;clear R hi;replace m:=hd' m;replace n:=hd' n;obtain⟨c0,c1,c2,c3,c4,c5⟩:=ci6 sp sc sm tc td tn j.cell;have c6:=ce (.int .u64 tw) (j.cell 6);have c7:=ci L (j.cell 7);have c8:=ci ta (j.cell 8);have c9:=ci C (j.cell 9);have D:=ci pk (j.cell 10);have E:=ci pa (j.cell 11);have F:=ci pb (j.cell 12);have G:=ci y (j.cell 13);have I:=ce (.bool p) (j.cell 14);have Z:=j.free;go_in;go_upto_region 2 with fail;have z:=(j.set 9 (.int .i64 (C+1))).set 5 (.int .i64 11);generalize World.setCell _ ⟨q,5,.none⟩ (.int .i64 11)=U at *;clear c0 c1 c2 c3 c4 c5 c6 c7 c8 c9 D E F G I j Z;have z9:=ci (C+1) (z.cell 9);have b0:=ci pa (z.cell 11);have lU:=z.lt;refine zaj (by kernel_rfl) (by kernel_rfl) ?_;repeat (go_big_quiet_step (((go_at_call 65;exact zdx ((m.out _).mono fun _ _ h=>⟨h.1,h.2⟩)))))
 refine wpQuiet_nil ?_;rintro _ ⟨M,rfl⟩;have B:=z.below M.below;generalize M.w=X at *;rcases l with l|⟨S,l⟩
 ·subst l;replace b:=hd' (b.out.trans (if_pos rfl));have k9:=ci (C+1) (B.cell 9);have Z:=B.free;have N:=B.set 9 (.int .i64 0);go_wp2_with (go_at_call 300;(with_reducible refine(n.out _ N.row).mono ?_);rintro r V O;obtain rfl:=O.ret);go_returns;exact(N.turned O).fin (by rw[b.out])
 replace b:=hd' (b.out.trans (if_neg S));clear S;go_wp2_with fail;go_returns;exact B.fin (by rw[b.out];rfl)
theorem zr3(q:Nat)(s:Sh)(t:Ad)(k a b:Int)(ok:Bool)(w:World)(r:zaa w q (zan s t) 282):
  Calls Tryz.prog 301 #[.pointer (some ⟨q,0,.none⟩),.agg #[.int .i64 k,.int .i64 a,.int .i64 b],.bool ok] w fun e w'=>e= .returned (.bool (ok&&(k==1&&a==t.d)))/\Below w.heap.size w w':=by
 have n:=r;clear r;obtain⟨sp,G,I⟩:=s;obtain⟨L,C,N,O,B,J,M,pk,pa,pb,y,o⟩:=t;dsimp only;have i:=(Below.refl w.heap.size w).alloc lr (.cells #[.int .i64 k,.int .i64 a,.int .i64 b] 128);have t0:=heap_alloc_new w (.cells #[.int .i64 k,.int .i64 a,.int .i64 b] 128);have F:=n.lt;go_in;go_upto_region 1 with fail;generalize w.alloc (.cells #[.int .i64 k,.int .i64 a,.int .i64 b] 128)=W at *;have p:=n.below i;obtain⟨H,D,m⟩:=hidv w.heap.size;rw[<-m]at t0 ⊢;have E:H<W.heap.size:=(Array.getElem?_eq_some_iff.1 t0).1;have c0:W.cell? ⟨H,0,.none⟩=some (.int .i64 k):=zac t0 0;have c1:W.cell? ⟨H,1,.none⟩=some (.int .i64 a):=zac t0 1;have d4:=ci C (p.cell 4);have z:=p.lt;clear m t0 n;rcases(by cases ok<;>simp:ok=false\/ok=true) with rfl|rfl;case inr=>
  rcases(by by_cases h:k=1<;>simp[h]:k=1\/(k==1)=false) with rfl|hk;all_goals
   refine zaj (by kernel_rfl) (by kernel_rfl) ?_;repeat (go_big_quiet_step (fail))
   refine wpQuiet_nil ?_;rintro _ ⟨l,rfl⟩;have j:=l.below;generalize l.w=X at *;go_wp2_with fail;go_returns
  ·exact⟨by simp,zab i j⟩
  exact⟨by simp[hk],zab i j⟩
 case inl=>
  refine zaj (by kernel_rfl) (by kernel_rfl) ?_;repeat (go_big_quiet_step (fail))
  refine wpQuiet_nil ?_;rintro _ ⟨l,rfl⟩;have j:=l.below;generalize l.w=X at *;go_wp2_with fail;go_returns;exact⟨by simp,zab i j⟩
theorem zim(q p b:Nat)(s:Sh)(t:Ad)(m:Mem)(a:Int)(w:World)(J:At3 q p b w w (zan s t) 282 m)(hf:Fits s m)(hs:m.st<1000000000)(ha:0<=a/\a<s.p):
  Calls Tryz.prog 299 #[.pointer (some ⟨q,0,.none⟩),.pointer (some ⟨p,0,.none⟩),.int .i64 a] w fun e w'=>e= .returned (.tuple #[.agg #[.int .i64 (pgK s a (m.get (zak s.p s.c s.m a))),.int .i64 (pgP s a (m.get (zak s.p s.c s.m a)) 0),.int .i64 (pgP s a (m.get (zak s.p s.c s.m a)) 1)],.bool (zal s.p s.c s.m a (m.get (zak s.p s.c s.m a)))])/\At3 q p b w w' (zan s t) 282 (m.load t.c (zak s.p s.c s.m a)):=by
 obtain⟨T,S⟩:=hf.page ha;have j:=fun Y=>planPage_any s.p s.c s.m a Y;rw[T]at j ⊢;have C:=fun Y (hY:zaq Y p b m)=>zc1 p b m t.c (s.c+a) Y hY S hs;have D:=fun Y=>zh3 s a (m.get (s.c+a)) Y (Mem.ze4 J.wds.fit _);clear T S hf ha;generalize s.c+a=Z at *;generalize m.get Z=x at *;generalize zal s.p s.c s.m a x=B at *;generalize pgK s a x=e0 at *;generalize pgP s a x 0=e1 at *;generalize pgP s a x 1=e2 at *;obtain⟨sp,sc,sm⟩:=s;obtain⟨tc,td,tn,tw,I,ta,ti,pk,pa,pb,n,l⟩:=t;dsimp only at j C D ⊢;replace j:=hd' j;replace C:=hd' C;replace D:=hd' D;have t0:=heap_alloc_new w (.cells #[.int .i64 0,.int .i64 0,.int .i64 0] 128);have L:=J.alloc (.cells #[.int .i64 0,.int .i64 0,.int .i64 0] 128);go_in;go_upto_region 1 with fail;generalize w.alloc (.cells #[.int .i64 0,.int .i64 0,.int .i64 0] 128)=X at *;obtain⟨H,hH,O⟩:=hidv w.heap.size;rw[<-O]at t0 ⊢;have G:w.heap.size<=H:=by omega
 clear O;have b3:H≠q:=fun e=>by have:=J.lt;omega
 have b0:H≠p:=fun e=>by have:=J.wds.ltp;omega
 have b2:H≠b:=fun e=>by have:=J.wds.ltb;omega
 have F:zaa X H #[.int .i64 0,.int .i64 0,.int .i64 0] 128:=t0;clear t0;have lX:=L.lt
 refine ziv 20 (p:= { dst:=none,op:=Op.store 128 (Operand.tmp 6) (Operand.tmp 26),type:=0,pos:=_,after:=_,guard:=none}) (q:= { dst:=some 7,op:=Op.assign (Operand.tmp 27),type:=_,pos:=_,after:=_,guard:=none}) (x:=zbb 4) (ld:=16) (v:= .int .u64 x) (ts:= [13,17,23])
  (K0:=fun Y=>At3 q p b w Y (zan ⟨sp,sc,sm⟩ ⟨tc,td,tn,tw,I,ta,ti,pk,pa,pb,n,l⟩) 282 m/\zaa Y H #[.int .i64 0,.int .i64 0,.int .i64 0] 128) (K1:=fun Y=>At3 q p b w Y (zan ⟨sp,sc,sm⟩ ⟨tc,td,tn,tw,I,ta,ti,pk,pa,pb,n,l⟩) 282 (m.load tc Z)/\zaa Y H #[.int .i64 0,.int .i64 0,.int .i64 0] 128)
  (by kernel_rfl) rfl (by kernel_rfl) (by kernel_rfl) (by simp only[List.take,zbb,zfq,zej,nopO,nopC,Nat.reduceBEq,Bool.or_false,Bool.or_true,Bool.false_eq_true,↓reduceIte,Nat.reduceAdd];exact rfl) (by kernel_rfl) (by kernel_rfl) (by kernel_rfl) (by simp[zbb]) (by simp[zbb]) (by simp[zbb]) (by simp[zbb]) (by kernel_rfl) (by simp[zbb]) (by simp[zbb])
  ⟨⟨fun Y Y' E N o=>⟨E.1.far N o L.only.size,E.2.only o (by have:=F.lt;omega)⟩⟩,⟨fun Y Y' E N o=>⟨E.1.far N o L.only.size,E.2.only o (by have:=F.lt;omega)⟩⟩⟩ ⟨L.drew,F.drew⟩ ?_
 apply Exists.intro;refine⟨fun B hb hs=>?_,fun h=>(by simp[zbb]at h),fun Q0=>?_,?_⟩;case refine_1=>
  have U:zaa B q (zan ⟨sp,sc,sm⟩ ⟨tc,td,tn,tw,I,ta,ti,pk,pa,pb,n,l⟩) 282:=hb.elim (fun h=>h.1.row) (fun h=>h.1.row);have lB:=U.lt;obtain⟨k0,k1,k2,k3⟩:=ci4 sp sc sm tc U.cell;repeat (go_big_quiet_step ((first|(go_at_call 119;exact zam (j.out _))|(go_at_call 118;exact zam (D.out _)))))
  exact wpQuiet_nil rfl
 case refine_2=>exact zcz rfl (fun _ _=>by simp[go_sem]) fun Y y hs=>(C.out Y y.1.wds).mono fun r Y' ⟨E,N,o⟩=>⟨E,⟨y.1.load N o,y.2.only o b0⟩,o.weak fun k hk=>hk ▸ Nat.lt_of_lt_of_le y.1.ls.2.1 L.only.size⟩
 case refine_3=>intro a w4 M hf;obtain⟨rfl,b1,⟨R,z⟩,_⟩:=hf;obtain⟨z0,z1,z2⟩:=ci3 0 0 0 z.cell;have zf:∀ i,w4.frozen? ⟨H,i,.none⟩=false:=fun i=>zax z i;have hB:=((R.new G 0 (.int .i64 e0)).new G 1 (.int .i64 e1)).new G 2 (.int .i64 e2);have hR:=((z.set 0 (.int .i64 e0)).set 1 (.int .i64 e1)).set 2 (.int .i64 e2);simp only[zbb,vput,List.take,List.size_toArray,List.length_cons,List.length_nil,Nat.reduceAdd,Nat.reduceLT,decide_false,Bool.false_eq_true,if_false];clear R z L J;go_wp2;generalize World.setCell _ ⟨H,2,.none⟩ (.int .i64 e2)=V at *;clear z0 z1 z2 zf;obtain⟨z0,z1,z2⟩:=ci3 e0 e1 e2 hR.cell;refine bodyPost_ret (by simp[results,Tryz.results299,go_sem,z0,z1,z2];try rfl) rfl ?_;exact⟨rfl,hB⟩
end

section

open Go.RowKit

theorem zfz(x:Int)(w:World)(o:0<=x)(p:x<18446744073709551616):
  Calls Tryz.prog 97 #[.int .u64 x] w fun e w'=>Below w.heap.size w w'/\e= .returned (.tuple (if (za8 (zbx x) (za2 x 0)==x)=true then #[.int .i64 (zbx x),.int .i64 (za2 x 0)] else #[.int .i64 0,.int .i64 0])):=by
 have l:=fun w=>ze8 x 0 w o p (by omega);have j:=fun w=>zqi x w o p;generalize zbx x=k at *;generalize za2 x 0=A at *;by_cases b:za8 k A=x
 ·have m:(za8 k A !=x)=false:=by simpa using b
  have i:(za8 k A==x)=true:=by simpa using b
  rw[i,if_pos rfl];clear b i;go_in;go_wp2_with (first|(go_at_call 138;refine(j _).mono ?_;rintro e n ⟨rfl,rfl⟩)|(go_at_call 139;refine(l _).mono ?_;rintro e n ⟨rfl,rfl⟩)|(go_at_call 117;refine(zgn _ _ _).mono ?_;rintro e q ⟨rfl,hb⟩));go_ret2;exact⟨hb,rfl⟩
 have m:(za8 k A !=x)=true:=by simpa using b
 have i:(za8 k A==x)=false:=by simpa using b
 rw[i,if_neg Bool.false_ne_true];clear b i;go_in;go_wp2_with (first|(go_at_call 138;refine(j _).mono ?_;rintro e n ⟨rfl,rfl⟩)|(go_at_call 139;refine(l _).mono ?_;rintro e n ⟨rfl,rfl⟩)|(go_at_call 117;refine(zgn _ _ _).mono ?_;rintro e q ⟨rfl,hb⟩));go_ret2;exact⟨hb,rfl⟩
end

section

open Go.RowKit Go.ChangeShapes Go.WideShapes Go.ChangeAt

theorem own:ownKnob Tryz.prog.godebug=none:=by kernel_rfl
theorem laidOut:laidOutB Tryz.prog=true:=by kernel_rfl
section

variable {H:Type} {enc:TypeId × Value->H} {P:Program} {w:World}

def Rd (enc:TypeId × Value->H) (P:Program) (w:World) (t:TypeId) (cs:List Value):Prop:=∃ fuel x,DataW.trod enc P w 0 (fun _=> true) true fuel t cs=some x
theorem zom{t:TypeId}{v:Value}{d:DataW H}{ps:List MemPlace}(h:DataW.Trod enc P w 0 (fun _=>true) true t v d ps):Rd enc P w t v.cells.toList:=
 let ⟨f,hf⟩:=h
 ⟨f,_,hf⟩
theorem zj9{t:TypeId}{k:IntKind}{cs:List Value}(l:P.underlying t=some (.int k))(h:Rd enc P w t cs):∃ n,cs= [.int k n]/\(Lit.int k n).wf=true:=by
 obtain⟨f,x,j⟩:=h;obtain⟨n,b,_,i⟩:=DataW.trod_int l j;exact⟨n,b,i⟩
theorem z7d{t:TypeId}{k:FloatKind}{cs:List Value}(j:P.underlying t=some (.float k))(h:Rd enc P w t cs):∃ b,cs= [.float k b]/\(Lit.float k b).wf=true:=by
 obtain⟨f,x,i⟩:=h;cases f with
 |zero=>simp[DataW.trod]at i;|succ n=>unfold DataW.trod at i;rw[j]at i;split at i<;>simp_all
theorem zmz{t:TypeId}{fs:Array Field}{cs:List Value}(p:P.underlying t=some (.struct fs))(h:Rd enc P w t cs):
  cs.length=P.cellsOf t/\∀ (i:Nat) (f:Field),fs[i]?=some f->Rd enc P w f.type ((cs.drop f.offset).take (P.cellsOf f.type)):=by
 obtain⟨f,x,o⟩:=h;obtain⟨xs,m,_,_,j,l,n⟩:=DataW.trod_struct p o;refine⟨j,fun i f hi=>?_⟩;have b:i<xs.length:=by rw[l];exact(Array.getElem?_eq_some_iff.1 hi).1
 have:=n i f hi;rw[List.getElem?_eq_getElem b]at this;exact⟨m,_,this⟩
theorem mapM_each{b n:Type}{f:b->Option n}{l:List b}{r:List n}(h:l.mapM f=some r)(i:Nat)(x:b)(m:l[i]?=some x):∃ y,f x=some y:=by
 have j:=mapM_some_get h i x m;have o:=mapM_some_length h;have p:i<l.length:=(List.getElem?_eq_some_iff.1 m).1;rw[List.getElem?_eq_getElem (by omega)]at j;exact⟨_,j⟩
theorem zxe{t e:TypeId}{cs:List Value}(s:P.underlying t=some (.slice e))(h:Rd enc P w t cs):
  cs= [.slice none 0 0]\/∃ (a:Addr) (len cap:Nat),cs= [.slice (some a) len cap]/\len<=cap/\cap<=maxLen/\
   ∀ i,i<cap->∃ es,w.cells? 0 (a.add (i*P.cellsOf e)) (P.cellsOf e)=some es/\Rd enc P w e es:=by
 obtain⟨f,x,b⟩:=h;cases f with
 |zero=>simp[DataW.trod]at b;|succ n=>
  unfold DataW.trod at b;rw[s]at b;split at b<;>(try (simp_all;done));rename_i B a len cap j;injection j with j;injection j with j;subst j;right;dsimp only at b;by_cases hc:0<=a.block/\len<=cap/\cap<=maxLen;case neg=>rw[if_neg hc]at b;cases b
  rw[if_pos hc]at b;simp only[Option.bind_eq_some_iff,Option.map_eq_some_iff,if_true]at b;obtain⟨l,m,rest,o,_⟩:=b;refine⟨a,len,cap,rfl,hc.2.1,hc.2.2,fun i hi=>?_⟩;have key:∃ y,(w.cells? 0 (a.add (i*P.cellsOf e)) (P.cellsOf e)).bind (DataW.trod enc P w 0 (fun _=>true) true n e)=some y:=by
   by_cases r:i<len
   ·exact mapM_each m i i (by rw[List.getElem?_range r])
   have:=mapM_each o (i-len) (i-len) (by rw[List.getElem?_range (by omega)]);rwa [show len+(i-len)=i from by omega]at this
  obtain⟨y,z⟩:=key;obtain⟨es,p,q⟩:=Option.bind_eq_some_iff.1 z;exact⟨es,p,n,y,q⟩
theorem zw7{a:Addr}{n:Nat}{es:List Value}(h:w.cells? 0 a n=some es):es.length=n/\∀ j,j<n->w.cell? (a.add j)=es[j]?:=by
 unfold World.cells? at h;split at h
 ·have b:=mapM_some_length h;simp at b;exact⟨b,fun j f=>mapM_some_get h j j (by simp[f])⟩
 cases h
theorem ydb{r:Reach}{f:Nat}{t:TypeId}{v:Value}(b:(∃ fs,P.underlying t=some (.struct fs))\/∃ n e,P.underlying t=some (.array n e))(h:Value.okWide P w r f t v):∃ cs,v= .agg cs:=by
 rcases b with⟨fs,b⟩|⟨n,e,b⟩<;>(simp only[Value.okWide,b]at h;obtain⟨cs,i,_⟩:=h;exact⟨cs,i⟩)
theorem ye6{f:Type}{l:List f}(h:l.length=3):∃ a b c,l= [a,b,c]:=by
 match l,h with
 | [a,b,c],_=>exact⟨a,b,c,rfl⟩
theorem z3u{r:Reach}{q:Nat}{t:TypeId}{k:IntKind}{f f1 f2:Field}{v:Value}{d:DataW H}{ps:List MemPlace}(p:P.underlying t=some (.struct #[f,f1,f2]))
  (F:P.underlying f.type=some (.int k)) (G:P.underlying f1.type=some (.int k)) (I:P.underlying f2.type=some (.int k)) (c0:P.cellsOf f.type=1) (c1:P.cellsOf f1.type=1) (c2:P.cellsOf f2.type=1)
  (C:f.offset=0) (D:f1.offset=1) (E:f2.offset=2) (s:P.cellsOf t=3) (B:Value.okWide P w r q t v) (h:DataW.Trod enc P w 0 (fun _=>true) true t v d ps):
  ∃ a b c:Int,v= .agg #[.int k a,.int k b,.int k c]/\(Lit.int k a).wf=true/\(Lit.int k b).wf=true/\(Lit.int k c).wf=true:=by
 obtain⟨cs,rfl⟩:=ydb (.inl ⟨_,p⟩) B;obtain⟨o,j⟩:=zmz p (zom h);rw[s]at o;obtain⟨x,y,z,i⟩:=ye6 o;have g0:=j 0 f rfl;have l:=j 1 f1 rfl;have m:=j 2 f2 rfl;rw[i,C,c0]at g0;rw[i,D,c1]at l;rw[i,E,c2]at m;obtain⟨a,n,J⟩:=zj9 F g0;obtain⟨b,hb,L⟩:=zj9 G l;obtain⟨c,hc,wc⟩:=zj9 I m;simp only[List.drop_zero,List.take_succ_cons,List.take_zero,List.cons.injEq,and_true,List.drop_succ_cons]at n hb hc;subst n hb hc;refine⟨a,b,c,?_,J,L,wc⟩;congr 1;exact Array.toList_inj.1 (by simpa[Value.cells] using i)
theorem z2c{t e:TypeId}{a0:Option Addr}{len cap sz:Nat}(G:P.underlying t=some (.slice e))(ce:P.cellsOf e=sz)(n:0<sz)(h:Rd enc P w t (Value.slice a0 len cap).cells.toList)(I:len≠0):
  ∃ b f:Nat,a0=some ⟨b,f,.none⟩/\b<w.heap.size/\len<=cap/\cap<=maxLen/\
   ∀ i,i<cap->∃ es,es.length=sz/\Rd enc P w e es/\∀ j,j<sz->w.cell? ⟨b,f+i*sz+j,.none⟩=es[j]?:=by
 rcases zxe G h with p|⟨a,C,y,p,D,E,r⟩
 ·simp[Value.cells]at p;omega
 simp[Value.cells]at p;obtain⟨rfl,rfl,rfl⟩:=p;rw[ce]at r;obtain⟨b,f,o⟩:=a;have l:o=none:=by obtain⟨es,s,_⟩:=r 0 (by omega);obtain⟨z,q⟩:=zw7 s;have m:=q 0 n;rw[List.getElem?_eq_getElem (by omega)]at m;simpa[Addr.add] using World.cell?_spot m
 subst l;have key:∀ i,i<cap->∃ es,es.length=sz/\Rd enc P w e es/\∀ j,j<sz->w.cell? ⟨b,f+i*sz+j,.none⟩=es[j]?:=fun i hi=>by obtain⟨es,s,z⟩:=r i hi;obtain⟨q,m⟩:=zw7 s;exact⟨es,q,z,fun j F=>by have:=m j F;simpa[add_plain,Nat.add_assoc] using this⟩
 refine⟨b,f,rfl,?_,D,E,key⟩;obtain⟨es,q,_,m⟩:=key 0 (by omega);have B:=m 0 n;rw[List.getElem?_eq_getElem (by omega)]at B;exact zqe B
theorem zka(l:laidOutB P=true){W W':World}(hb:Below W.heap.size W W'):∀ {ts:List TypeId} {j:List Value} {f:List (DataW H)} {ps:List MemPlace},
  (ts.all fun t=>P.readableRec t&&decide (t<P.types.size))=true->(∀ x ∈ ps,x.block<W.heap.size)->DataW.TrodAll enc P W 0 (fun _=>true) true ts j f ps->
  DataW.TrodAll enc P W' 0 (fun b=>decide (b<W.heap.size)) true ts j f ps
 | [], [], [],_,_,_,h=>h
 | [], [],_::_,_,_,_,h=>h.elim
 | [],_::_,_,_,_,_,h=>h.elim
 |_::_, [],_,_,_,_,h=>h.elim
 |_::_,_::_, [],_,_,_,h=>h.elim
 |t::ts,v::j,d::f,ps,ht,hp,h=>by
  obtain⟨p,q,m,n,rfl⟩:=h
  simp only[List.all_cons,Bool.and_eq_true,decide_eq_true_eq]at ht
  exact⟨p,q,Below.trod l ht.1.1 ht.1.2 m hb (fun x i=>hp x (by simp[i])),zka l hb ht.2 (fun x i=>hp x (by simp[i])) n,rfl⟩
theorem z6a{f:Func}{s:ChangeSpec}{W W':World}{args:Array Value}{j i:List (DataW H)}{b:List MemPlace}{tb:TypeId}
  (C:laidOutB P=true) (m:f.resultTypes= #[tb]) (hu:P.underlying tb=some .bool) (y:s.vars= [])
  (D:(f.params.toList.all fun t=>P.readableRec t&&decide (t<P.types.size))=true)
  (hs:(s.fn H (j++i)).results= [.lit (.bool true)]/\(s.fn H (j++i)).args=j/\(s.fn H (j++i)).vars= [])
  (r:DataW.Whole enc P f.params.toList s.vars false W args.toList j i b) (hb:Below W.heap.size W W'):
  s.post enc P f false true false false W args (.bool true) W':=by
 have l:=r;obtain⟨p,q,z,n,rfl,B,_⟩:=r;rw[y]at n
 obtain⟨rfl,rfl⟩:i= []/\q= []:=by
  cases i with
  |nil=>exact⟨rfl,n⟩
  |cons _ _=>exact n.elim
 have o:∀ x ∈ p,x.block<W.heap.size:=fun x E=>by simpa using l.lt x (by simp[E])
 refine⟨_,_,_, [],p, [],l,?_,?_,?_,hb.frame _,fun h=>by cases h⟩
 ·rw[hs.1,m];exact trodAll_mk1 (shut_bool hu _)
 ·rw[hs.2.1];exact zka C hb D o z
 rw[hs.2.2,y];rfl
end

end

end Go.Proofs.YtkbddndcegpllaaGreat
