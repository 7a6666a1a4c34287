/- Texts bound together: RenU RenV QLas2 AdA AdB AudRs Open. -/
import Derived.ProofKit

import Derived.OpenShut

import Derived.SizedLaws

import Derived.ChangeSlices

import Derived.Test.YthgekdlegbmehaaGreatBq20

set_option linter.all false
set_option maxHeartbeats 2000000
set_option maxRecDepth 100000
namespace Go.Proofs.YthgekdlegbmehaaGreat

section

open Go.RowKit

attribute [local go_sem ↓] Go.wp_at_zero Go.wp_at_succ

theorem zp0 {F:Nat->Prop} {q p b:Nat} {s:Sh} {t2:Rr} {m:Mem} {w w1 w2:World} {e1:Ending} (hF:∀ k,F k->k < w.heap.size) (hq:F q) (hp:¬ F p) (hb:¬ F b) (hO:zef F p b w w1 e1 m) (ho:Only (fun k=> k=q) w1 w2) (hR:RrO (grow (grow F w w1) w1 w2) w2 q s t2):
  zef F p b w w2 (.returned (.tuple #[])) m/\RrO (grow F w w2) w2 q s t2:=by
 have h1:=hO.only.size
 have h2:=ho.size
 refine ⟨⟨rfl,hO.wds.only ho (fun e=> hp (e ▸ hq)) (fun e=> hb (e ▸ hq)),hO.only.trans ho (fun k _ e=> .inl (by rw [e];exact hq))⟩,hR.weak (fun k hk=> ?_) (zec hF (Nat.le_trans h1 h2))⟩
 rcases hk with (hk | hk) | hk
 ·exact .inl hk
 ·exact .inr ⟨hk.1,Nat.lt_of_lt_of_le hk.2 h2⟩
 ·exact .inr ⟨Nat.le_trans h1 hk.1,hk.2⟩
theorem RrO.zv1 {F:Nat->Prop} {q q1:Nat} {s:Sh} {t:Rr} {w:World} (h:RrO F w q s t) {r:Rs} (hres:t.res=some r) (c:w.cell? ⟨q,4,.none⟩=some (.pointer (some ⟨q1,0,.none⟩))):
  Calls Tryz.prog 65 #[.pointer (some ⟨q1,0,.none⟩)] w fun e w'=> e= .returned (.bool r.done)/\w'=w:=by
 obtain ⟨hF,h1,q2,_,_,_,F1,F2,hF1,hF2,hrow,hr,_⟩:=h
 have c4:=ce (ptrV t.res q2) (hrow.cell 4)
 rw [hres] at c4
 have e:q1=q2:=by have:=c.symm.trans c4;simpa [ptrV] using this
 subst e
 exact zil (hr r hres)
theorem RrO.zxj {F:Nat->Prop} {q q1:Nat} {s:Sh} {t:Rr} {w:World} (h:RrO F w q s t) {f:Fe} (hfree:t.free=some f) (c:w.cell? ⟨q,5,.none⟩=some (.pointer (some ⟨q1,0,.none⟩))):
  Calls Tryz.prog 66 #[.pointer (some ⟨q1,0,.none⟩)] w fun e w'=> e= .returned (.bool f.done)/\w'=w:=by
 obtain ⟨hF,h1,_,q2,_,_,F1,F2,hF1,hF2,hrow,_,hf,_⟩:=h
 have c4:=ce (ptrV t.free q2) (hrow.cell 5)
 rw [hfree] at c4
 have e:q1=q2:=by have:=c.symm.trans c4;simpa [ptrV] using this
 subst e
 obtain ⟨_,q3,h3,_⟩:=hf f hfree
 exact zkw q1 _ f.done w h3.row rfl
theorem RrO.cells {F:Nat->Prop} {q:Nat} {s:Sh} {t:Rr} {w:World} (h:RrO F w q s t):∃ q1 q2 q3 q4,w.cell? ⟨q,4,.none⟩=some (ptrV t.res q1)/\w.cell? ⟨q,5,.none⟩=some (ptrV t.free q2)/\w.cell? ⟨q,6,.none⟩=some (ptrV t.undo q3)/\w.cell? ⟨q,7,.none⟩=some (ptrV t.com q4)/\w.cell? ⟨q,9,.none⟩=some (.bool t.done):=by
 obtain ⟨hF,h1,q1,q2,q3,q4,F1,F2,hF1,hF2,hrow,_⟩:=h
 exact ⟨q1,q2,q3,q4,hrow.cell 4,hrow.cell 5,hrow.cell 6,hrow.cell 7,hrow.cell 9⟩
theorem zza {F:Nat->Prop} {q p b:Nat} {s:Sh} {t:Rr} {m:Mem} {w:World} (h:RrO F w q s t) (hw:zaq w p b m) (hp:¬ F p) (hb:¬ F b) (hf:Fits s m) (ho:rrOk s t) (hs:m.st < 1000000000):
  Calls Tryz.prog 155 #[.pointer (some ⟨q,0,.none⟩),.pointer (some ⟨p,0,.none⟩)] w fun e w'=> zef F p b w w' e (zb9 s t m).2/\RrO (grow F w w') w' q s (zb9 s t m).1:=by
 obtain ⟨y1,y2,q5,q6,z4,z5,c6,c7,c9⟩:=h.cells
 clear z4 z5 y1 y2
 rcases Bool.eq_false_or_eq_true t.done with hd | hd
 ·have hr:zb9 s t m=(t,m):=by unfold zb9;rw [if_pos hd]
  rw [hr]
  rw [hd] at c9
  have hfin:=hd' (h.weak (G:=grow F w w) (fun k hk=> .inl hk) (zec h.1 lr))
  clear h hr hd ho hf c6 c7
  go_enter Tryz.func155,Tryz.ntmps155
  go_wp2_with fail
  go_returns
  exact ⟨⟨rfl,hw,Only.refl _ _⟩,hfin.out⟩
 obtain ⟨r,f,hres,hfree,hro,hfo,huo,hco,hno,hsome⟩:=ho.cl hd
 rw [hd] at c9
 have hF:=h.1
 have hq:=h.2.1
 rcases Bool.eq_false_or_eq_true r.done with hrd | hrd
 case inr=>
  have hr:zb9 s t m=(Rr.settle s { t with res:=some (zb0 s r m).1 },(zb0 s r m).2):=by unfold zb9;simp [hd,hres,hfree,hrd]
  rw [hr]
  obtain ⟨q1,c4,hst⟩:=h.zuw hres hw hp hb hf hro hs
  have hdn:=h.zv1 hres c4
  rw [hrd] at hdn
  have hset:=hd' (fun (Y:World) (G:Nat->Prop) (hR:RrO G Y q s { t with res:=some (zb0 s r m).1 })=> hR.settled rfl hfree)
  have hfin:=hd' (fun (Y Z:World) (e:Ending) (hO:zef F p b w Y e (zb0 s r m).2) (hZ:Only (fun k=> k=q) Y Z) (hR:RrO (grow (grow F w Y) Y Z) Z q s (Rr.settle s { t with res:=some (zb0 s r m).1 }))=> zp0 hF hq hp hb hO hZ hR)
  replace hst:=hd' hst
  replace hdn:=hd' hdn
  clear h hr hd ho hf c6 c7 hres hfree hro hfo huo hco hno hsome hrd hw hF hq
  go_enter Tryz.func155,Tryz.ntmps155
  go_wp2_with (first
   | (go_at_call 65;(with_reducible refine hdn.out.mono ?_);rintro r w2 ⟨rfl,hw2⟩;obtain rfl:=hw2.symm)
   | (go_at_call 114;(with_reducible refine hst.out.mono ?_);rintro r w3 ⟨hO,hR⟩;obtain rfl:=hO.ret)
   | (go_at_call 54;(with_reducible refine (hset.out _ _ hR).mono ?_);rintro r w4 ⟨rfl,ho4,hR4⟩)
   | fail)
  go_returns
  exact hfin.out _ _ _ hO ho4 hR4
 rcases Bool.eq_false_or_eq_true f.done with hfd | hfd
 case inr=>
  have hr:zb9 s t m=(Rr.settle s { t with free:=some (zca s f m).1 },(zca s f m).2):=by unfold zb9;simp [hd,hres,hfree,hrd,hfd]
  rw [hr]
  obtain ⟨q2,c5,hst⟩:=h.z5a hfree hw hp hb hf hfo hs
  have hdn2:=h.zxj hfree c5
  rw [hfd] at hdn2
  obtain ⟨q1,y2,y3,y4,c4,z5⟩:=h.cells
  clear z5 y2 y3 y4
  rw [hres] at c4
  replace c4:w.cell? ⟨q,4,.none⟩=some (.pointer (some ⟨q1,0,.none⟩)):=c4
  have hdn:=h.zv1 hres c4
  rw [hrd] at hdn
  have hset:=hd' (fun (Y:World) (G:Nat->Prop) (hR:RrO G Y q s { t with free:=some (zca s f m).1 })=> hR.settled hres rfl)
  have hfin:=hd' (fun (Y Z:World) (e:Ending) (hO:zef F p b w Y e (zca s f m).2) (hZ:Only (fun k=> k=q) Y Z) (hR:RrO (grow (grow F w Y) Y Z) Z q s (Rr.settle s { t with free:=some (zca s f m).1 }))=> zp0 hF hq hp hb hO hZ hR)
  replace hst:=hd' hst
  replace hdn:=hd' hdn
  replace hdn2:=hd' hdn2
  clear h hr hd ho hf c6 c7 hres hfree hro hfo huo hco hno hsome hrd hw hF hq hfd
  go_enter Tryz.func155,Tryz.ntmps155
  go_wp2_with (first
   | (go_at_call 65;(with_reducible refine hdn.out.mono ?_);rintro r w2 ⟨rfl,hw2⟩;obtain rfl:=hw2.symm)
   | (go_at_call 66;(with_reducible refine hdn2.out.mono ?_);rintro r w5 ⟨rfl,hw5⟩;obtain rfl:=hw5.symm)
   | (go_at_call 140;(with_reducible refine hst.out.mono ?_);rintro r w3 ⟨hO,hR⟩;obtain rfl:=hO.ret)
   | (go_at_call 54;(with_reducible refine (hset.out _ _ hR).mono ?_);rintro r w4 ⟨rfl,ho4,hR4⟩)
   | fail)
  go_returns
  exact hfin.out _ _ _ hO ho4 hR4
 obtain ⟨q1,q2,y3,y4,c4,c5,z6⟩:=h.cells
 clear z6 y3 y4
 rw [hres] at c4
 rw [hfree] at c5
 replace c4:w.cell? ⟨q,4,.none⟩=some (.pointer (some ⟨q1,0,.none⟩)):=c4
 replace c5:w.cell? ⟨q,5,.none⟩=some (.pointer (some ⟨q2,0,.none⟩)):=c5
 have hdn:=h.zv1 hres c4
 have hdn2:=h.zxj hfree c5
 rw [hrd] at hdn
 rw [hfd] at hdn2
 replace hdn:=hd' hdn
 replace hdn2:=hd' hdn2
 rcases hun:t.undo with _ | u
 ·obtain ⟨u,hcm⟩:∃ u,t.com=some u:=by
   rcases hsome hrd hfd with e | e
   ·exact absurd hun e
   ·rcases hc:t.com with _ | u
    ·exact absurd hc e
    ·exact ⟨u,rfl⟩
  have hr:zb9 s t m=(Rr.settle s { t with com:=some (zb3 s u m).1 },(zb3 s u m).2):=by unfold zb9;simp [hd,hres,hfree,hrd,hfd,hun,hcm]
  rw [hr]
  obtain ⟨q3,cx,hst⟩:=h.z9y hcm hun hw hp hb hf (hco u hcm) hs
  have hset:=hd' (fun (Y:World) (G:Nat->Prop) (hR:RrO G Y q s { t with com:=some (zb3 s u m).1 })=> hR.settled hres hfree)
  have hfin:=hd' (fun (Y Z:World) (e:Ending) (hO:zef F p b w Y e (zb3 s u m).2) (hZ:Only (fun k=> k=q) Y Z) (hR:RrO (grow (grow F w Y) Y Z) Z q s (Rr.settle s { t with com:=some (zb3 s u m).1 }))=> zp0 hF hq hp hb hO hZ hR)
  replace hst:=hd' hst
  rw [hun] at c6
  replace c6:w.cell? ⟨q,6,.none⟩=some (.pointer none):=c6
  clear h hr hd ho hf c7 hres hfree hro hfo huo hco hno hsome hrd hw hF hq hfd hun hcm
  go_enter Tryz.func155,Tryz.ntmps155
  go_wp2_with (first
   | (go_at_call 65;(with_reducible refine hdn.out.mono ?_);rintro r w2 ⟨rfl,hw2⟩;obtain rfl:=hw2.symm)
   | (go_at_call 66;(with_reducible refine hdn2.out.mono ?_);rintro r w5 ⟨rfl,hw5⟩;obtain rfl:=hw5.symm)
   | (go_at_call 115;(with_reducible refine hst.out.mono ?_);rintro r w3 ⟨hO,hR⟩;obtain rfl:=hO.ret)
   | (go_at_call 54;(with_reducible refine (hset.out _ _ hR).mono ?_);rintro r w4 ⟨rfl,ho4,hR4⟩)
   | fail)
  go_returns
  exact hfin.out _ _ _ hO ho4 hR4
 ·have hcm:t.com=none:=by
   rcases hno with e | e
   ·rw [hun] at e;cases e
   ·exact e
  have hr:zb9 s t m=(Rr.settle s { t with undo:=some (zcf s u m).1 },(zcf s u m).2):=by unfold zb9;simp [hd,hres,hfree,hrd,hfd,hun,hcm]
  rw [hr]
  obtain ⟨q3,cx,hst⟩:=h.z5y hun hcm hw hp hb hf (huo u hun) hs
  have hset:=hd' (fun (Y:World) (G:Nat->Prop) (hR:RrO G Y q s { t with undo:=some (zcf s u m).1 })=> hR.settled hres hfree)
  have hfin:=hd' (fun (Y Z:World) (e:Ending) (hO:zef F p b w Y e (zcf s u m).2) (hZ:Only (fun k=> k=q) Y Z) (hR:RrO (grow (grow F w Y) Y Z) Z q s (Rr.settle s { t with undo:=some (zcf s u m).1 }))=> zp0 hF hq hp hb hO hZ hR)
  replace hst:=hd' hst
  rw [hun] at c6
  clear c6
  clear h hr hd ho hf c7 hres hfree hro hfo huo hco hno hsome hrd hw hF hq hfd hun hcm
  go_enter Tryz.func155,Tryz.ntmps155
  go_wp2_with (first
   | (go_at_call 65;(with_reducible refine hdn.out.mono ?_);rintro r w2 ⟨rfl,hw2⟩;obtain rfl:=hw2.symm)
   | (go_at_call 66;(with_reducible refine hdn2.out.mono ?_);rintro r w5 ⟨rfl,hw5⟩;obtain rfl:=hw5.symm)
   | (go_at_call 156;(with_reducible refine hst.out.mono ?_);rintro r w3 ⟨hO,hR⟩;obtain rfl:=hO.ret)
   | (go_at_call 54;(with_reducible refine (hset.out _ _ hR).mono ?_);rintro r w4 ⟨rfl,ho4,hR4⟩)
   | fail)
  go_returns
  exact hfin.out _ _ _ hO ho4 hR4
end

section

theorem z6z (s:Sh) (c n f:Int):(∀ x,(zdh s c n f).seeker=some x->skOk s x)/\(∀ x,(zdh s c n f).runner=some x->rnOk s x):=by
 unfold zdh
 split
 ·exact ⟨fun x hx=> (by injection hx with hx;subst hx;exact zwd _ _ _ _),fun x hx=> (by cases hx)⟩
 ·split
  ·exact ⟨fun x hx=> (by cases hx),fun x hx=> (by injection hx with hx;subst hx;exact zwt _ _ _)⟩
  ·exact ⟨fun x hx=> (by cases hx),fun x hx=> (by cases hx)⟩
theorem zm9 {s:Sh} {t:Rr} {r:Rs} {f:Fe} (hres:t.res=some r) (hfree:t.free=some f) (hro:(∀ x,r.seeker=some x->skOk s x)/\(∀ x,r.runner=some x->rnOk s x)) (hfo:feOk s f) (huo:∀ u,t.undo=some u->unOk s u) (hco:∀ u,t.com=some u->cmOk s u) (hno:t.undo=none\/t.com=none):rrOk s (t.settle s):=by
 rcases zcp s t r f hres hfree with ⟨_,e⟩ | ⟨_,_,e⟩ | ⟨_,_,h3,e⟩ | ⟨_,_,_,_,e⟩ | ⟨b,_,_,_,_,hw,e⟩ | ⟨b,_,_,_,_,e1,e2,_,_,e⟩ | ⟨b,_,_,_,_,e1,e2,_,_,e⟩
 all_goals rw [e]
 ·exact ⟨fun h=> by cases h⟩
 ·exact ⟨fun h=> by cases h⟩
 ·exact ⟨fun _=> ⟨r,f,hres,hfree,hro,hfo,huo,hco,hno,fun h=> by rw [h3] at h;cases h⟩⟩
 ·exact ⟨fun h=> by cases h⟩
 ·refine ⟨fun _=> ⟨r,f,hres,hfree,hro,hfo,huo,hco,hno,fun _ hf=> ?_⟩⟩
  rcases hw with h | ⟨_,h⟩ | ⟨_,_,h⟩
  ·exact .inl h
  ·exact .inr h
  ·rw [h] at hf;cases hf
 ·exact ⟨fun _=> ⟨r,f,hres,hfree,hro,hfo,huo,fun u hu=> by injection hu with hu;subst hu;exact zpt _ _ _,.inl e1,fun _ _=> .inr (fun h=> by cases h)⟩⟩
 ·exact ⟨fun _=> ⟨r,f,hres,hfree,hro,hfo,fun u hu=> by injection hu with hu;subst hu;exact z8l _ _ _,hco,.inr e2,fun _ _=> .inl (fun h=> by cases h)⟩⟩
theorem z4q (s:Sh) (c a n first:Int):rrOk s (zhh s c a n first):=by
 unfold zhh
 split
 ·exact zm9 rfl rfl (z6z _ _ _ _) (zwa _ _ _) (fun u hu=> by cases hu) (fun u hu=> by cases hu) (.inl rfl)
 ·exact ⟨fun h=> by cases h⟩
end

section

open Go.RowKit

theorem ziv {P:Program} {Q:Exit->Act->World->Prop} {p q:Oper} {id:Nat} {a:Act} {W:World} {x:zd0} {ld:Nat} {v:Value} {K0 K1:World->Prop} {l l':List Oper} {ts:List Nat} (n:Nat) (hm:P.follows .mixedOrders=true) (hd:l.drop n= [p,q]) (hlp:lastB (l.take n) p=true) (hlq:lastB (l.take n ++ [p]) q=true)
  (hl:zfq x ld v 0 (l.take n)=l') (hB:Region.lexB .any l'.toArray=true) (hf:zrg (l.take n).toArray x ld=true) (hsel:Region.noSelect (l.take n).toArray=true)
  (hn:x.al≠x.st/\x.al≠ld/\x.st≠ld/\x.src≠x.d) (hin:ld < (l.take n).toArray.size/\(x.al < (l.take n).toArray.size↔x.st < (l.take n).toArray.size)) (hso:x.so≠x.al/\x.so≠x.st) (hsl:x.al < (l.take n).toArray.size->x.so≠ld) (hw:zsq (l.take n).toArray x ld ts=true) (hts:x.d ∉ ts) (hfit:x.d < a.tmps.size)
  (hc:zn6 W K0/\zn6 W K1) (h0:K0 W.drew)
  (hall:∃ aF,(∀ B,K0 B\/K1 B->W.heap.size<=B.heap.size->wpQuiet P l'.toArray (fun w'=> ∃ e:Ext B,w'=e.w) (fun a'=> a'=aF) l' a)/\(x.al < (l.take n).toArray.size->∀ Q0,ze2 P (l.take n) Q0 aF x)/\(∀ Q0,zij P (l.take n) Q0 aF W ld v ts K0 K1)/\
   ∀ a w M,zni W x K1 (l.take n).toArray.size aF a w M->wpList P l.toArray Q [p,q] a w):(Code.region id l.toArray true).wp P Q a W:=by
 have hll:l=(l.take n ++ [p]) ++ [q]:=by
  have h:=(List.take_append_drop n l).symm
  rw [hd] at h
  simpa using h
 obtain ⟨aF,h1,h2,h3,h4⟩:=hall
 generalize hl0:l.take n=l0 at *
 subst hll
 have hgp:p.guard=none:=by
  simp only [lastB,Bool.and_eq_true] at hlq
  have:=List.all_eq_true.1 hlq.1.1.1 p (by simp)
  simp only [Bool.and_eq_true,Option.isNone_iff_eq_none] at this
  exact this.1
 have hwp:∀ k,Region.wanted p k=true:=fun k=> by unfold Region.wanted;rw [hgp]
 have h5:=zqg (P:=P) (Q:=fun e a w=> match e with | .normal=> wpList P ((l0 ++ [p]) ++ [q]).toArray Q [p,q] a w | e=> Q e a w) hl hB hf hsel hn hin hso hsl hw hts hfit hc h0 ⟨aF,h1,fun hx=> h2 hx _,h3 _,h4⟩
 have h6:=zkz (P:=P) (Q:=fun e a w=> match e with | .normal=> wpList P ((l0 ++ [p]) ++ [q]).toArray Q [q] a w | e=> Q e a w) hlp (fun e a w hne hq=> by cases e <;> first | exact absurd rfl hne | exact hq) (fun a w hq=> ?_) l0.toArray.size (Array.replicate l0.toArray.size false) a W.drew (by simp) (fun k o _ hk=> by rw [getD_replicate_false] at hk;cases hk) h5
 ·have hr:(Array.replicate l0.toArray.size false).push false=Array.replicate (l0 ++ [p]).toArray.size false:=by simp [Array.replicate_succ]
  rw [hr] at h6
  have hz1:l0.toArray.size + 1=(l0 ++ [p]).toArray.size:=by simp
  rw [hz1] at h6
  have h7:=zkz (P:=P) (Q:=Q) hlq (fun e a w hne hq=> by cases e <;> first | exact absurd rfl hne | exact hq) (fun a w hq=> by unfold wpOp;rw [zhz];exact hq) (l0 ++ [p]).toArray.size (Array.replicate (l0 ++ [p]).toArray.size false) a W.drew (by simp) (fun k o _ hk=> by rw [getD_replicate_false] at hk;cases hk) h6
  refine wp_region_any hm ?_
  have hz:((l0 ++ [p]) ++ [q]).toArray.size=(l0 ++ [p]).toArray.size + 1:=by simp
  rw [hz]
  have hr2:(Array.replicate (l0 ++ [p]).toArray.size false).push false=Array.replicate ((l0 ++ [p]).toArray.size + 1) false:=by rw [Array.replicate_succ]
  rw [<- hr2]
  exact h7
 ·unfold wpOp
  rw [zhz]
  simp only [hwp,if_true]
  have hq':wpList P ((l0 ++ [p]) ++ [q]).toArray Q [p,q] a w:=hq
  unfold wpList at hq'
  simp only [hwp,if_true] at hq'
  rcases hq' with h | ⟨h2,b,u,h3⟩
  ·exact .inl (zpf h (fun e a w hne hq=> by cases e <;> first | exact absurd rfl hne | exact hq))
  ·exact .inr ⟨h2,b,u,h3⟩
end

section

open Go.RowKit

attribute [local go_sem ↓] Go.wp_at_zero Go.wp_at_succ

def zan (s:Sh) (t:Ad):Array Value:= #[.int .i64 s.p,.int .i64 s.c,.int .i64 s.m,.int .i64 t.c,.int .i64 t.d,.int .i64 t.next,.int .u64 t.was,.int .i64 t.who,.int .i64 t.at',.int .i64 t.i,.int .i64 t.pk,.int .i64 t.pa,.int .i64 t.pb,.int .i64 t.err,.bool t.done]
theorem zxq (q:Nat) (cs:Array Value) (v:Bool) (w:World) (h:zaa w q cs 129) (hv:cs[14]?=some (.bool v)):Calls Tryz.prog 163 #[.pointer (some ⟨q,0,.none⟩)] w fun e w'=> e= .returned (.bool v)/\w'=w:=by
 have c:=(h.cell 14).trans hv
 clear h hv
 go_enter Tryz.func163,Tryz.ntmps163
 go_wp2_with fail
 go_returns
 exact ⟨rfl,rfl⟩
theorem zhr (q:Nat) (s:Sh) (t:Ad) (x:Int) (w:World) (hq:zaa w q (zan s t) 129):
  Calls Tryz.prog 55 #[.pointer (some ⟨q,0,.none⟩),.int .i64 x] w fun e w'=> Turned q w w' e (zan s (t.fin x)) 129:=by
 have h0:=At1.start hq
 clear hq
 obtain ⟨sp,sc,sm⟩:=s
 obtain ⟨tc,td,tn,tw,tby,ta,ti,pk,pa,pb,terr,tdone⟩:=t
 have c13:=ci terr (h0.cell 13)
 have c14:=ce (.bool tdone) (h0.cell 14)
 have zf:=h0.free
 go_enter Tryz.func55,Tryz.ntmps55
 go_wp2_with fail
 go_returns
 exact ((h0.set 13 _).set 14 _).fin rfl
theorem z0i (q:Nat) (s:Sh) (t:Ad) (w:World) (hq:zaa w q (zan s t) 129):
  Calls Tryz.prog 178 #[.pointer (some ⟨q,0,.none⟩)] w fun e w'=> e= .returned (.int .i64 t.err)/\w'=w:=by
 have c:=ci t.err (hq.cell 13)
 clear hq
 go_enter Tryz.func178,Tryz.ntmps178
 go_wp2_with fail
 go_returns
 exact ⟨rfl,rfl⟩
theorem zp2 (s:Sh) (t:Ad) (again next:Int):(t.at' + 1=s.p/\next=9/\s.m=0/\t.turn s again next= { t with at':=0,i:=0,next:=10 })\/(t.at' + 1=s.p/\next=9/\(s.m==0)=false/\t.turn s again next= { t with at':=0,i:=0,next:=9 })\/(t.at' + 1=s.p/\(next==9)=false/\t.turn s again next= { t with at':=0,i:=0,next:=next })
  \/((t.at' + 1==s.p)=false/\again=9/\s.m=0/\t.turn s again next= { t with at':=t.at' + 1,next:=10 })\/((t.at' + 1==s.p)=false/\again=9/\(s.m==0)=false/\t.turn s again next= { t with at':=t.at' + 1,next:=9 })\/((t.at' + 1==s.p)=false/\(again==9)=false/\t.turn s again next= { t with at':=t.at' + 1,next:=again }):=by
 by_cases h1:t.at' + 1=s.p <;> by_cases h2:next=9 <;> by_cases h3:s.m=0 <;> by_cases h4:again=9 <;> simp [Ad.turn,h1,h2,h3,h4]
theorem zek (q:Nat) (s:Sh) (t:Ad) (again next:Int) (w:World) (hq:zaa w q (zan s t) 129) (ha:0<=t.at'/\t.at' < 64):
  Calls Tryz.prog 173 #[.pointer (some ⟨q,0,.none⟩),.int .i64 again,.int .i64 next] w fun e w'=> Turned q w w' e (zan s (t.turn s again next)) 129:=by
 have h0:=At1.start hq
 clear hq
 have hk:=zp2 s t again next
 have w1:=wrp (t.at' + 1)
 obtain ⟨t2,ht2⟩:∃ t2,t2=t.turn s again next:=⟨_,rfl⟩
 rw [<- ht2] at hk ⊢
 clear ht2 ha
 obtain ⟨sp,sc,sm⟩:=s
 obtain ⟨tc,td,tn,tw,tby,ta,ti,pk,pa,pb,terr,tdone⟩:=t
 dsimp only at hk w1
 obtain ⟨c0,c1,c2,c3,c4,c5⟩:=ci6 sp sc sm tc td tn h0.cell
 have c6:=ce (.int .u64 tw) (h0.cell 6)
 have c7:=ci tby (h0.cell 7)
 have c8:=ci ta (h0.cell 8)
 have c9:=ci ti (h0.cell 9)
 have c10:=ci pk (h0.cell 10)
 have c11:=ci pa (h0.cell 11)
 have c12:=ci pb (h0.cell 12)
 have c13:=ci terr (h0.cell 13)
 have c14:=ce (.bool tdone) (h0.cell 14)
 have zf:=h0.free
 go_enter Tryz.func173,Tryz.ntmps173
 go_upto_region 2 with fail
 have hB:=(h0.set 8 (.int .i64 (ta + 1))).set 5 (.int .i64 again)
 generalize World.setCell _ ⟨q,5,.none⟩ (.int .i64 again)=U at *
 clear c0 c1 c2 c3 c4 c5 c6 c7 c8 c9 c10 c11 c12 c13 c14 h0 zf
 have z0:=ci sp (hB.cell 0)
 have z8:=ci (ta + 1) (hB.cell 8)
 have lU:=hB.lt
 refine zaj (by kernel_rfl) (by kernel_rfl) ?_
 repeat (go_big_quiet_step (fail))
 refine wpQuiet_nil ?_
 rintro _ ⟨e',rfl⟩
 have hX:=hB.below e'.below
 generalize e'.w=X at *
 have k0:=ci sp (hX.cell 0)
 have k2:=ci sm (hX.cell 2)
 have k5:=ci again (hX.cell 5)
 have k8:=ci (ta + 1) (hX.cell 8)
 have k9:=ci ti (hX.cell 9)
 have zf:=hX.free
 rcases hk with ⟨hs,rfl,hm,ht2⟩ | ⟨hs,rfl,hm,ht2⟩ | ⟨hs,hn,ht2⟩ | ⟨hs,rfl,hm,ht2⟩ | ⟨hs,rfl,hm,ht2⟩ | ⟨hs,hn,ht2⟩
 all_goals
  replace ht2:=hd' ht2
  try subst hs
  go_wp2_with fail
  go_returns
 ·exact ((((hX.set 8 _).set 9 _).set 5 _).set 5 _).fin (by rw [ht2.out];rfl)
 ·exact (((hX.set 8 _).set 9 _).set 5 _).fin (by rw [ht2.out];rfl)
 ·exact (((hX.set 8 _).set 9 _).set 5 _).fin (by rw [ht2.out];rfl)
 ·exact (hX.set 5 _).fin (by rw [ht2.out];rfl)
 ·exact hX.fin (by rw [ht2.out];rfl)
 ·exact hX.fin (by rw [ht2.out];rfl)
theorem zo4 (q:Nat) (s:Sh) (t:Ad) (w:World) (hq:zaa w q (zan s t) 129) (ha:0<=t.at'/\t.at' < 64) (hi:0<=t.i/\t.i < 16):
  Calls Tryz.prog 165 #[.pointer (some ⟨q,0,.none⟩)] w fun e w'=> Turned q w w' e (zan s (t.slot s)) 129:=by
 have h0:=At1.start hq
 clear hq
 unfold Ad.slot
 have hsl:=fun W=> slots_any t.pa W
 have htn:=fun Y (hY:zaa Y q (zan s { t with i:=0,next:=11 }) 129)=> zek q s { t with i:=0,next:=11 } 10 13 Y hY ha
 have w1:=wrp (t.i + 1)
 have hcs:t.i + 1=zah t.pa\/(¬ t.i + 1=zah t.pa/\(t.i + 1==zah t.pa)=false):=by
  by_cases h:t.i + 1=zah t.pa
  ·exact .inl h
  ·exact .inr ⟨h,by simpa using h⟩
 obtain ⟨t2,ht2,ht2'⟩:∃ t2:Ad,Hid (t2=if t.i + 1=zah t.pa then ({ t with i:=0,next:=11 }:Ad).turn s 10 13 else { t with i:=t.i + 1,next:=11 })/\t2=_:=⟨_,hd' rfl,rfl⟩
 rw [<- ht2']
 clear ht2'
 generalize zah t.pa=sv at *
 obtain ⟨sp,sc,sm⟩:=s
 obtain ⟨tc,td,tn,tw,tby,ta,ti,pk,pa,pb,terr,tdone⟩:=t
 dsimp only at hsl htn hcs ht2 w1
 clear ha hi
 replace hsl:=hd' hsl
 replace htn:=hd' htn
 obtain ⟨c0,c1,c2,c3,c4,c5⟩:=ci6 sp sc sm tc td tn h0.cell
 have c6:=ce (.int .u64 tw) (h0.cell 6)
 have c7:=ci tby (h0.cell 7)
 have c8:=ci ta (h0.cell 8)
 have c9:=ci ti (h0.cell 9)
 have c10:=ci pk (h0.cell 10)
 have c11:=ci pa (h0.cell 11)
 have c12:=ci pb (h0.cell 12)
 have c13:=ci terr (h0.cell 13)
 have c14:=ce (.bool tdone) (h0.cell 14)
 have zf:=h0.free
 go_enter Tryz.func165,Tryz.ntmps165
 go_upto_region 2 with fail
 have hB:=(h0.set 9 (.int .i64 (ti + 1))).set 5 (.int .i64 11)
 generalize World.setCell _ ⟨q,5,.none⟩ (.int .i64 11)=U at *
 clear c0 c1 c2 c3 c4 c5 c6 c7 c8 c9 c10 c11 c12 c13 c14 h0 zf
 have z9:=ci (ti + 1) (hB.cell 9)
 have z11:=ci pa (hB.cell 11)
 have lU:=hB.lt
 refine zaj (by kernel_rfl) (by kernel_rfl) ?_
 repeat (go_big_quiet_step ((first | (go_at_call 58;exact zdx ((hsl.out _).mono fun _ _ h=> ⟨h.1,h.2⟩)) | fail)))
 refine wpQuiet_nil ?_
 rintro _ ⟨e',rfl⟩
 have hX:=hB.below e'.below
 generalize e'.w=X at *
 rcases hcs with hcs | ⟨hn,hcs⟩
 ·subst hcs
  replace ht2:=hd' (ht2.out.trans (if_pos rfl))
  have k9:=ci (ti + 1) (hX.cell 9)
  have zf:=hX.free
  have hE:=hX.set 9 (.int .i64 0)
  go_wp2_with (first | (go_at_call 173;(with_reducible refine (htn.out _ hE.row).mono ?_);rintro r w1 hT;obtain rfl:=hT.ret) | fail)
  go_returns
  exact (hE.turned hT).fin (by rw [ht2.out])
 ·replace ht2:=hd' (ht2.out.trans (if_neg hn))
  clear hn
  go_wp2_with fail
  go_returns
  exact hX.fin (by rw [ht2.out];rfl)
theorem zr3 (q:Nat) (s:Sh) (t:Ad) (k a b:Int) (ok:Bool) (w:World) (hq:zaa w q (zan s t) 129):
  Calls Tryz.prog 174 #[.pointer (some ⟨q,0,.none⟩),.agg #[.int .i64 k,.int .i64 a,.int .i64 b],.bool ok] w fun e w'=> e= .returned (.bool (ok && (k==1 && a==t.d)))/\Below w.heap.size w w':=by
 have h0:=hq
 clear hq
 obtain ⟨sp,sc,sm⟩:=s
 obtain ⟨tc,td,tn,tw,tby,ta,ti,pk,pa,pb,terr,tdone⟩:=t
 dsimp only
 have hb0:=(Below.refl w.heap.size w).alloc lr (.cells #[.int .i64 k,.int .i64 a,.int .i64 b] 120)
 have t0:=heap_alloc_new w (.cells #[.int .i64 k,.int .i64 a,.int .i64 b] 120)
 have lq:=h0.lt
 go_enter Tryz.func174,Tryz.ntmps174
 go_upto_region 1 with fail
 generalize w.alloc (.cells #[.int .i64 k,.int .i64 a,.int .i64 b] 120)=W at *
 have h1:=h0.below hb0
 obtain ⟨H,hH,hH'⟩:=hidv w.heap.size
 rw [<- hH'] at t0 ⊢
 have lH:H < W.heap.size:=(Array.getElem?_eq_some_iff.1 t0).1
 have c0:W.cell? ⟨H,0,.none⟩=some (.int .i64 k):=zac t0 0
 have c1:W.cell? ⟨H,1,.none⟩=some (.int .i64 a):=zac t0 1
 have d4:=ci td (h1.cell 4)
 have lqW:=h1.lt
 clear hH' t0 h0
 rcases (by cases ok <;> simp:ok=false\/ok=true) with rfl | rfl
 case inr=>
  rcases (by by_cases h:k=1 <;> simp [h]:k=1\/(k==1)=false) with rfl | hk
  all_goals
   refine zaj (by kernel_rfl) (by kernel_rfl) ?_
   repeat (go_big_quiet_step (fail))
   refine wpQuiet_nil ?_
   rintro _ ⟨e',rfl⟩
   have hbe:=e'.below
   generalize e'.w=X at *
   go_wp2_with fail
   go_returns
  ·exact ⟨by simp,zab hb0 hbe⟩
  ·exact ⟨by simp [hk],zab hb0 hbe⟩
 case inl=>
  refine zaj (by kernel_rfl) (by kernel_rfl) ?_
  repeat (go_big_quiet_step (fail))
  refine wpQuiet_nil ?_
  rintro _ ⟨e',rfl⟩
  have hbe:=e'.below
  generalize e'.w=X at *
  go_wp2_with fail
  go_returns
  exact ⟨by simp,zab hb0 hbe⟩
theorem zim (q p b:Nat) (s:Sh) (t:Ad) (m:Mem) (a:Int) (w:World) (h0:At3 q p b w w (zan s t) 129 m) (hf:Fits s m) (hs:m.st < 1000000000) (ha:0<=a/\a < s.p):
  Calls Tryz.prog 172 #[.pointer (some ⟨q,0,.none⟩),.pointer (some ⟨p,0,.none⟩),.int .i64 a] w fun e w'=> e= .returned (.tuple #[.agg #[.int .i64 (pgK s a (m.get (zak s.p s.c s.m a))),.int .i64 (pgP s a (m.get (zak s.p s.c s.m a)) 0),.int .i64 (pgP s a (m.get (zak s.p s.c s.m a)) 1)],.bool (zal s.p s.c s.m a (m.get (zak s.p s.c s.m a)))])/\At3 q p b w w' (zan s t) 129 (m.load t.c (zak s.p s.c s.m a)):=by
 obtain ⟨hpx,hph⟩:=hf.page ha
 have hcpp:=fun Y=> planPage_any s.p s.c s.m a Y
 rw [hpx] at hcpp ⊢
 have hlp:=fun Y (hY:zaq Y p b m)=> zc1 p b m t.c (s.c + a) Y hY hph hs
 have hrp:=fun Y=> zh3 s a (m.get (s.c + a)) Y (Mem.ze4 h0.wds.fit _)
 clear hpx hph hf ha
 generalize s.c + a=pga at *
 generalize m.get pga=x at *
 generalize zal s.p s.c s.m a x=B at *
 generalize pgK s a x=e0 at *
 generalize pgP s a x 0=e1 at *
 generalize pgP s a x 1=e2 at *
 obtain ⟨sp,sc,sm⟩:=s
 obtain ⟨tc,td,tn,tw,tby,ta,ti,pk,pa,pb,terr,tdone⟩:=t
 dsimp only at hcpp hlp hrp ⊢
 replace hcpp:=hd' hcpp
 replace hlp:=hd' hlp
 replace hrp:=hd' hrp
 have t0:=heap_alloc_new w (.cells #[.int .i64 0,.int .i64 0,.int .i64 0] 120)
 have hX:=h0.alloc (.cells #[.int .i64 0,.int .i64 0,.int .i64 0] 120)
 go_enter Tryz.func172,Tryz.ntmps172
 go_upto_region 1 with fail
 generalize w.alloc (.cells #[.int .i64 0,.int .i64 0,.int .i64 0] 120)=X at *
 obtain ⟨H,hH,hH'⟩:=hidv w.heap.size
 rw [<- hH'] at t0 ⊢
 have hHw:w.heap.size<=H:=by omega
 clear hH'
 have hHq:H≠q:=fun e=> by have:=h0.lt;omega
 have hHp:H≠p:=fun e=> by have:=h0.wds.ltp;omega
 have hHb:H≠b:=fun e=> by have:=h0.wds.ltb;omega
 have hHr:zaa X H #[.int .i64 0,.int .i64 0,.int .i64 0] 120:=t0
 clear t0
 have lX:=hX.lt
 refine ziv 20 (p:= { dst:=none,op:=Op.store 120 (Operand.tmp 6) (Operand.tmp 26),type:=0,pos:=_,after:=_,guard:=none }) (q:= { dst:=some 7,op:=Op.assign (Operand.tmp 27),type:=_,pos:=_,after:=_,guard:=none }) (x:=zbb 4) (ld:=16) (v:= .int .u64 x) (ts:= [13,17,23])
  (K0:=fun Y=> At3 q p b w Y (zan ⟨sp,sc,sm⟩ ⟨tc,td,tn,tw,tby,ta,ti,pk,pa,pb,terr,tdone⟩) 129 m/\zaa Y H #[.int .i64 0,.int .i64 0,.int .i64 0] 120) (K1:=fun Y=> At3 q p b w Y (zan ⟨sp,sc,sm⟩ ⟨tc,td,tn,tw,tby,ta,ti,pk,pa,pb,terr,tdone⟩) 129 (m.load tc pga)/\zaa Y H #[.int .i64 0,.int .i64 0,.int .i64 0] 120)
  (by kernel_rfl) rfl (by kernel_rfl) (by kernel_rfl) (by simp only [List.take,zbb,zfq,zej,nopO,nopC,Nat.reduceBEq,Bool.or_false,Bool.or_true,Bool.false_eq_true,↓reduceIte,Nat.reduceAdd];exact rfl) (by kernel_rfl) (by kernel_rfl) (by kernel_rfl) (by simp [zbb]) (by simp [zbb]) (by simp [zbb]) (by simp [zbb]) (by kernel_rfl) (by simp [zbb]) (by simp [zbb])
  ⟨⟨fun Y Y' h1 h2 h3=> ⟨h1.1.far h2 h3 hX.only.size,h1.2.only h3 (by have:=hHr.lt;omega)⟩⟩,⟨fun Y Y' h1 h2 h3=> ⟨h1.1.far h2 h3 hX.only.size,h1.2.only h3 (by have:=hHr.lt;omega)⟩⟩⟩ ⟨hX.drew,hHr.drew⟩ ?_
 apply Exists.intro
 refine ⟨fun B hb hs=> ?_,fun h=> (by simp [zbb] at h),fun Q0=> ?_,?_⟩
 case refine_1=>
  have hrB:zaa B q (zan ⟨sp,sc,sm⟩ ⟨tc,td,tn,tw,tby,ta,ti,pk,pa,pb,terr,tdone⟩) 129:=hb.elim (fun h=> h.1.row) (fun h=> h.1.row)
  have lB:=hrB.lt
  obtain ⟨k0,k1,k2,k3⟩:=ci4 sp sc sm tc hrB.cell
  repeat (go_big_quiet_step ((first | (go_at_call 59;exact zam (hcpp.out _)) | (go_at_call 122;exact zam (hrp.out _)) | fail)))
  exact wpQuiet_nil rfl
 case refine_2=> exact zcz rfl (fun _ _=> by simp [go_sem]) fun Y hY2 hs=> (hlp.out Y hY2.1.wds).mono fun r Y' ⟨h1,h2,h3⟩=> ⟨h1,⟨hY2.1.load h2 h3,hY2.2.only h3 hHp⟩,h3.weak fun k hk=> hk ▸ Nat.lt_of_lt_of_le hY2.1.ls.2.1 hX.only.size⟩
 case refine_3=>
  intro a w4 M hf
  obtain ⟨rfl,hbig,⟨hk1,hk2⟩,_⟩:=hf
  obtain ⟨z0,z1,z2⟩:=ci3 0 0 0 hk2.cell
  have zf:∀ i,w4.frozen? ⟨H,i,.none⟩=false:=fun i=> zax hk2 i
  have hB:=((hk1.new hHw 0 (.int .i64 e0)).new hHw 1 (.int .i64 e1)).new hHw 2 (.int .i64 e2)
  have hR:=((hk2.set 0 (.int .i64 e0)).set 1 (.int .i64 e1)).set 2 (.int .i64 e2)
  simp only [zbb,vput,List.take,List.size_toArray,List.length_cons,List.length_nil,Nat.reduceAdd,Nat.reduceLT,decide_false,Bool.false_eq_true,if_false]
  clear hk1 hk2 hX h0
  go_wp2
  generalize World.setCell _ ⟨H,2,.none⟩ (.int .i64 e2)=V at *
  clear z0 z1 z2 zf
  obtain ⟨z0,z1,z2⟩:=ci3 e0 e1 e2 hR.cell
  refine bodyPost_ret (by simp [results,Tryz.results172,go_sem,z0,z1,z2];try rfl) rfl ?_
  exact ⟨rfl,hB⟩
end

section

open Go.RowKit

theorem zfz (x:Int) (w:World) (h0:0<=x) (h1:x < 18446744073709551616):
  Calls Tryz.prog 170 #[.int .u64 x] w fun e w'=> Below w.heap.size w w'/\e= .returned (.tuple (if (za8 (zbx x) (za2 x 0)==x)=true then #[.int .i64 (zbx x),.int .i64 (za2 x 0)] else #[.int .i64 0,.int .i64 0])):=by
 have hp0:=fun w=> ze8 x 0 w h0 h1 (by omega)
 have hk0:=fun w=> zqi x w h0 h1
 generalize zbx x=k at *
 generalize za2 x 0=A at *
 by_cases h2:za8 k A=x
 ·have h2':(za8 k A !=x)=false:=by simpa using h2
  have h3:(za8 k A==x)=true:=by simpa using h2
  rw [h3,if_pos rfl]
  clear h2 h3
  go_enter Tryz.func170,Tryz.ntmps170
  go_wp2_with (first
   | (go_at_call 137;refine (hk0 _).mono ?_;rintro e w1 ⟨rfl,rfl⟩)
   | (go_at_call 138;refine (hp0 _).mono ?_;rintro e w1 ⟨rfl,rfl⟩)
   | (go_at_call 171;refine (zgn _ _ _).mono ?_;rintro e w2 ⟨rfl,hb⟩))
  go_ret2
  exact ⟨hb,rfl⟩
 ·have h2':(za8 k A !=x)=true:=by simpa using h2
  have h3:(za8 k A==x)=false:=by simpa using h2
  rw [h3,if_neg Bool.false_ne_true]
  clear h2 h3
  go_enter Tryz.func170,Tryz.ntmps170
  go_wp2_with (first
   | (go_at_call 137;refine (hk0 _).mono ?_;rintro e w1 ⟨rfl,rfl⟩)
   | (go_at_call 138;refine (hp0 _).mono ?_;rintro e w1 ⟨rfl,rfl⟩)
   | (go_at_call 171;refine (zgn _ _ _).mono ?_;rintro e w2 ⟨rfl,hb⟩))
  go_ret2
  exact ⟨hb,rfl⟩
end

section

open Go.RowKit Go.ChangeShapes Go.WideShapes Go.ChangeAt

theorem own:ownKnob Tryz.prog.godebug=none:=by kernel_rfl
theorem laidOut:laidOutB Tryz.prog=true:=by kernel_rfl
section

variable {H:Type} {enc:TypeId × Value->H} {P:Program} {w:World}

def Rd (enc:TypeId × Value->H) (P:Program) (w:World) (t:TypeId) (cs:List Value):Prop:=∃ fuel x,DataW.trod enc P w 0 (fun _=> true) true fuel t cs=some x
theorem zom {t:TypeId} {v:Value} {d:DataW H} {ps:List MemPlace} (h:DataW.Trod enc P w 0 (fun _=> true) true t v d ps):Rd enc P w t v.cells.toList:=
 let ⟨f,hf⟩:=h
 ⟨f,_,hf⟩
theorem zj9 {t:TypeId} {k:IntKind} {cs:List Value} (ht:P.underlying t=some (.int k)) (h:Rd enc P w t cs):∃ n,cs= [.int k n]/\(Lit.int k n).wf=true:=by
 obtain ⟨f,x,hf⟩:=h
 obtain ⟨n,h1,_,h2⟩:=DataW.trod_int ht hf
 exact ⟨n,h1,h2⟩
theorem yf4 {t:TypeId} {cs:List Value} (ht:P.underlying t=some .bool) (h:Rd enc P w t cs):∃ b,cs= [.bool b]:=by
 obtain ⟨f,x,hf⟩:=h
 obtain ⟨b,h1,_⟩:=DataW.trod_bool ht hf
 exact ⟨b,h1⟩
theorem z7d {t:TypeId} {k:FloatKind} {cs:List Value} (ht:P.underlying t=some (.float k)) (h:Rd enc P w t cs):∃ b,cs= [.float k b]/\(Lit.float k b).wf=true:=by
 obtain ⟨f,x,hf⟩:=h
 cases f with
 | zero=> simp [DataW.trod] at hf
 | succ n=>
  unfold DataW.trod at hf
  rw [ht] at hf
  split at hf <;> simp_all
theorem zmz {t:TypeId} {fs:Array Field} {cs:List Value} (ht:P.underlying t=some (.struct fs)) (h:Rd enc P w t cs):
  cs.length=P.cellsOf t/\∀ (i:Nat) (f:Field),fs[i]?=some f->Rd enc P w f.type ((cs.drop f.offset).take (P.cellsOf f.type)):=by
 obtain ⟨f,x,hf⟩:=h
 obtain ⟨xs,m,_,_,h1,h2,h3⟩:=DataW.trod_struct ht hf
 refine ⟨h1,fun i f hi=> ?_⟩
 have hlt:i < xs.length:=by rw [h2];exact (Array.getElem?_eq_some_iff.1 hi).1
 have:=h3 i f hi
 rw [List.getElem?_eq_getElem hlt] at this
 exact ⟨m,_,this⟩
theorem mapM_each {α β:Type} {f:α->Option β} {l:List α} {r:List β} (h:l.mapM f=some r) (i:Nat) (x:α) (hx:l[i]?=some x):∃ y,f x=some y:=by
 have h1:=mapM_some_get h i x hx
 have h2:=mapM_some_length h
 have hl:i < l.length:=(List.getElem?_eq_some_iff.1 hx).1
 rw [List.getElem?_eq_getElem (by omega)] at h1
 exact ⟨_,h1⟩
theorem zxe {t e:TypeId} {cs:List Value} (ht:P.underlying t=some (.slice e)) (h:Rd enc P w t cs):
  cs= [.slice none 0 0]\/∃ (a:Addr) (len cap:Nat),cs= [.slice (some a) len cap]/\len<=cap/\cap<=maxLen/\
   ∀ i,i < cap->∃ es,w.cells? 0 (a.add (i * P.cellsOf e)) (P.cellsOf e)=some es/\Rd enc P w e es:=by
 obtain ⟨f,x,hf⟩:=h
 cases f with
 | zero=> simp [DataW.trod] at hf
 | succ n=>
  unfold DataW.trod at hf
  rw [ht] at hf
  split at hf <;> (try (simp_all;done))
  rename_i e' a len cap he
  injection he with he;injection he with he;subst he
  right
  dsimp only at hf
  by_cases hc:0<=a.block/\len<=cap/\cap<=maxLen
  case neg=> rw [if_neg hc] at hf;cases hf
  rw [if_pos hc] at hf
  simp only [Option.bind_eq_some_iff,Option.map_eq_some_iff,if_true] at hf
  obtain ⟨elems,h1,rest,h2,_⟩:=hf
  refine ⟨a,len,cap,rfl,hc.2.1,hc.2.2,fun i hi=> ?_⟩
  have key:∃ y,(w.cells? 0 (a.add (i * P.cellsOf e)) (P.cellsOf e)).bind (DataW.trod enc P w 0 (fun _=> true) true n e)=some y:=by
   by_cases hl:i < len
   ·exact mapM_each h1 i i (by rw [List.getElem?_range hl])
   ·have:=mapM_each h2 (i - len) (i - len) (by rw [List.getElem?_range (by omega)])
    rwa [show len + (i - len)=i from by omega] at this
  obtain ⟨y,hy⟩:=key
  obtain ⟨es,h3,h4⟩:=Option.bind_eq_some_iff.1 hy
  exact ⟨es,h3,n,y,h4⟩
theorem zw7 {a:Addr} {n:Nat} {es:List Value} (h:w.cells? 0 a n=some es):es.length=n/\∀ j,j < n->w.cell? (a.add j)=es[j]?:=by
 unfold World.cells? at h
 split at h
 ·have hl:=mapM_some_length h
  simp at hl
  exact ⟨hl,fun j hj=> mapM_some_get h j j (by simp [hj])⟩
 ·cases h
theorem ydb {r:Reach} {b0:Nat} {t:TypeId} {v:Value} (ht:(∃ fs,P.underlying t=some (.struct fs))\/∃ n e,P.underlying t=some (.array n e)) (h:Value.okWide P w r b0 t v):∃ cs,v= .agg cs:=by
 rcases ht with ⟨fs,ht⟩ | ⟨n,e,ht⟩ <;> (simp only [Value.okWide,ht] at h;obtain ⟨cs,h1,_⟩:=h;exact ⟨cs,h1⟩)
theorem ye6 {α:Type} {l:List α} (h:l.length=3):∃ a b c,l= [a,b,c]:=by
 match l,h with
 | [a,b,c],_=> exact ⟨a,b,c,rfl⟩
theorem z3u {r:Reach} {b0:Nat} {t:TypeId} {k:IntKind} {f0 f1 f2:Field} {v:Value} {d:DataW H} {ps:List MemPlace} (ht:P.underlying t=some (.struct #[f0,f1,f2]))
  (u0:P.underlying f0.type=some (.int k)) (u1:P.underlying f1.type=some (.int k)) (u2:P.underlying f2.type=some (.int k)) (c0:P.cellsOf f0.type=1) (c1:P.cellsOf f1.type=1) (c2:P.cellsOf f2.type=1)
  (o0:f0.offset=0) (o1:f1.offset=1) (o2:f2.offset=2) (ct:P.cellsOf t=3) (hv:Value.okWide P w r b0 t v) (h:DataW.Trod enc P w 0 (fun _=> true) true t v d ps):
  ∃ a b c:Int,v= .agg #[.int k a,.int k b,.int k c]/\(Lit.int k a).wf=true/\(Lit.int k b).wf=true/\(Lit.int k c).wf=true:=by
 obtain ⟨cs,rfl⟩:=ydb (.inl ⟨_,ht⟩) hv
 obtain ⟨hl,hf⟩:=zmz ht (zom h)
 rw [ct] at hl
 obtain ⟨x,y,z,hx⟩:=ye6 hl
 have g0:=hf 0 f0 rfl
 have g1:=hf 1 f1 rfl
 have g2:=hf 2 f2 rfl
 rw [hx,o0,c0] at g0
 rw [hx,o1,c1] at g1
 rw [hx,o2,c2] at g2
 obtain ⟨a,ha,wa⟩:=zj9 u0 g0
 obtain ⟨b,hb,wb⟩:=zj9 u1 g1
 obtain ⟨c,hc,wc⟩:=zj9 u2 g2
 simp only [List.drop_zero,List.take_succ_cons,List.take_zero,List.cons.injEq,and_true,List.drop_succ_cons] at ha hb hc
 subst ha hb hc
 refine ⟨a,b,c,?_,wa,wb,wc⟩
 congr 1
 exact Array.toList_inj.1 (by simpa [Value.cells] using hx)
theorem z2c {t e:TypeId} {a0:Option Addr} {len cap sz:Nat} (ht:P.underlying t=some (.slice e)) (ce:P.cellsOf e=sz) (hsz:0 < sz) (h:Rd enc P w t (Value.slice a0 len cap).cells.toList) (hl:len≠0):
  ∃ b off:Nat,a0=some ⟨b,off,.none⟩/\b < w.heap.size/\len<=cap/\cap<=maxLen/\
   ∀ i,i < cap->∃ es,es.length=sz/\Rd enc P w e es/\∀ j,j < sz->w.cell? ⟨b,off + i * sz + j,.none⟩=es[j]?:=by
 rcases zxe ht h with h0 | ⟨a,len',cap',h0,h1,h2,h3⟩
 ·simp [Value.cells] at h0;omega
 ·simp [Value.cells] at h0
  obtain ⟨rfl,rfl,rfl⟩:=h0
  rw [ce] at h3
  obtain ⟨b,off,spot⟩:=a
  have hspot:spot=none:=by
   obtain ⟨es,h4,_⟩:=h3 0 (by omega)
   obtain ⟨h5,h6⟩:=zw7 h4
   have h7:=h6 0 hsz
   rw [List.getElem?_eq_getElem (by omega)] at h7
   simpa [Addr.add] using World.cell?_spot h7
  subst hspot
  have key:∀ i,i < cap->∃ es,es.length=sz/\Rd enc P w e es/\∀ j,j < sz->w.cell? ⟨b,off + i * sz + j,.none⟩=es[j]?:=fun i hi=> by
   obtain ⟨es,h4,h5⟩:=h3 i hi
   obtain ⟨h6,h7⟩:=zw7 h4
   exact ⟨es,h6,h5,fun j hj=> by have:=h7 j hj;simpa [add_plain,Nat.add_assoc] using this⟩
  refine ⟨b,off,rfl,?_,h1,h2,key⟩
  obtain ⟨es,h6,_,h7⟩:=key 0 (by omega)
  have h8:=h7 0 hsz
  rw [List.getElem?_eq_getElem (by omega)] at h8
  exact zqe h8
theorem zka (hl:laidOutB P=true) {W W':World} (hb:Below W.heap.size W W'):∀ {ts:List TypeId} {vs:List Value} {ds:List (DataW H)} {ps:List MemPlace},
  (ts.all fun t=> P.readableRec t && decide (t < P.types.size))=true->(∀ x ∈ ps,x.block < W.heap.size)->DataW.TrodAll enc P W 0 (fun _=> true) true ts vs ds ps->
  DataW.TrodAll enc P W' 0 (fun b=> decide (b < W.heap.size)) true ts vs ds ps
 | [], [], [],_,_,_,h=> h
 | [], [],_::_,_,_,_,h=> h.elim
 | [],_::_,_,_,_,_,h=> h.elim
 | _::_, [],_,_,_,_,h=> h.elim
 | _::_,_::_, [],_,_,_,h=> h.elim
 | t::ts,v::vs,d::ds,ps,ht,hp,h=> by
  obtain ⟨p,q,h1,h2,rfl⟩:=h
  simp only [List.all_cons,Bool.and_eq_true,decide_eq_true_eq] at ht
  exact ⟨p,q,Below.trod hl ht.1.1 ht.1.2 h1 hb (fun x hx=> hp x (by simp [hx])),zka hl hb ht.2 (fun x hx=> hp x (by simp [hx])) h2,rfl⟩
theorem z6a {f:Func} {s:ChangeSpec} {W W':World} {args:Array Value} {ds gs:List (DataW H)} {before:List MemPlace} {tb:TypeId}
  (hl:laidOutB P=true) (hres:f.resultTypes= #[tb]) (hu:P.underlying tb=some .bool) (hv:s.vars= [])
  (hr:(f.params.toList.all fun t=> P.readableRec t && decide (t < P.types.size))=true)
  (hs:(s.fn H (ds ++ gs)).results= [.lit (.bool true)]/\(s.fn H (ds ++ gs)).args=ds/\(s.fn H (ds ++ gs)).vars= [])
  (hW:DataW.Whole enc P f.params.toList s.vars false W args.toList ds gs before) (hb:Below W.heap.size W W'):
  s.post enc P f false true false false W args (.bool true) W':=by
 have hW':=hW
 obtain ⟨p,q,hA,hV,rfl,hfz,_⟩:=hW
 rw [hv] at hV
 obtain ⟨rfl,rfl⟩:gs= []/\q= []:=by
  cases gs with
  | nil=> exact ⟨rfl,hV⟩
  | cons _ _=> exact hV.elim
 have hlt:∀ x ∈ p,x.block < W.heap.size:=fun x hx=> by simpa using hW'.lt x (by simp [hx])
 refine ⟨_,_,_, [],p, [],hW',?_,?_,?_,hb.frame _,fun h=> by cases h⟩
 ·rw [hs.1,hres];exact trodAll_mk1 (shut_bool hu _)
 ·rw [hs.2.1];exact zka hl hb hr hlt hA
 ·rw [hs.2.2,hv];rfl
end

end

end Go.Proofs.YthgekdlegbmehaaGreat
