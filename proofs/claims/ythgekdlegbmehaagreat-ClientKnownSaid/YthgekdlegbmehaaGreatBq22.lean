/- Texts bound together: RwO AdC AdD AdE. -/
import Derived.Test.YthgekdlegbmehaaGreatBq21

set_option linter.all false
set_option maxHeartbeats 2000000
set_option maxRecDepth 100000
namespace Go.Proofs.YthgekdlegbmehaaGreat

section

open Go.RowKit Go.ChangeShapes Go.WideShapes Go.ChangeAt

theorem zll {α:Type} (f:α->List Value) (sz:Nat) (hf:∀ a,(f a).length=sz) (xs:List α):(xs.flatMap f).length=xs.length * sz:=by
 induction xs with
 | nil=> simp
 | cons x xs ih=> rw [List.flatMap_cons,List.length_append,hf,ih,List.length_cons,Nat.add_mul,Nat.one_mul,Nat.add_comm]
theorem zsm {α:Type} (f:α->List Value) (sz:Nat) (hf:∀ a,(f a).length=sz) (xs:List α) (i j:Nat) (hi:i < xs.length) (hj:j < sz):(xs.flatMap f)[i * sz + j]?=(f xs[i])[j]?:=by
 induction xs generalizing i with
 | nil=> simp at hi
 | cons x xs ih=>
  rw [List.flatMap_cons]
  cases i with
  | zero=> rw [List.getElem?_append_left (by rw [hf];omega)];simp
  | succ i=>
   rw [List.getElem?_append_right (by rw [hf,Nat.add_mul,Nat.one_mul];omega),hf,show (i + 1) * sz + j - sz=i * sz + j from by rw [Nat.add_mul,Nat.one_mul];omega]
   simpa using ih i (by simpa using hi)
theorem z03 {α:Type} (f:α->Value) (xs:List α):xs.flatMap (fun a=> [f a])=xs.map f:=by
 induction xs with
 | nil=> rfl
 | cons x xs ih=> rw [List.flatMap_cons,ih];rfl
section

variable {H:Type} {enc:TypeId × Value->H} {P:Program} {w:World}

theorem open_list {α:Type} (f:α->List Value) (good:α->Prop) {t e:TypeId} {v:Value} {sz:Nat} (ht:P.underlying t=some (.slice e)) (ce:P.cellsOf e=sz) (hsz:0 < sz) (hf:∀ a,(f a).length=sz)
  (hα:∀ es,es.length=sz->Rd enc P w e es->∃ a,f a=es/\good a) {r:Reach} {b0:Nat} {d:DataW H} {ps:List MemPlace} (hv:Value.okWide P w r b0 t v) (h0:DataW.Trod enc P w 0 (fun _=> true) true t v d ps):
  ∃ xs:List α,RdS w sz v xs.length (xs.flatMap f)/\∀ a ∈ xs,good a:=by
 obtain ⟨a0,len,cap,rfl⟩:=okWide_slice ht hv
 have h:=zom h0
 by_cases hl:len=0
 ·subst hl
  refine ⟨[],?_,fun a ha=> by cases ha⟩
  have hcap:cap<=maxLen:=by
   rcases zxe ht h with h0 | ⟨a,len',cap',h0,h1,h2,h3⟩
   ·simp [Value.cells] at h0
    omega
   ·simp [Value.cells] at h0
    obtain ⟨rfl,_,rfl⟩:=h0
    exact h2
  exact ⟨a0,cap,rfl,Nat.zero_le _,by simp only [maxLen] at hcap;omega,by simp,fun h=> absurd rfl h⟩
 ·obtain ⟨b,off,rfl,hb,hcap,hmax,hes⟩:=z2c ht ce hsz h hl
  have key:∀ i:Fin len,∃ a,good a/\∀ j,j < sz->w.cell? ⟨b,off + i * sz + j,.none⟩=(f a)[j]?:=fun i=> by
   obtain ⟨es,h1,h2,h3⟩:=hes i (by have:=i.2;omega)
   obtain ⟨a,rfl,hg⟩:=hα es h1 h2
   exact ⟨a,hg,h3⟩
  let xs:List α:=List.ofFn fun i:Fin len=> Classical.choose (key i)
  have hxl:xs.length=len:=List.length_ofFn
  have hxi:∀ i (hi:i < xs.length),xs[i]=Classical.choose (key ⟨i,hxl ▸ hi⟩):=fun i hi=> List.getElem_ofFn _
  refine ⟨xs,?_,fun a ha=> ?_⟩
  ·rw [hxl]
   refine ⟨_,cap,rfl,hcap,by simp only [maxLen] at hmax;omega,by rw [zll f sz hf,hxl],fun _=> ⟨b,off,rfl,hb,fun i hi=> ?_⟩⟩
   have h1:i / sz < xs.length:=by rw [hxl];exact Nat.div_lt_of_lt_mul (by rw [Nat.mul_comm];exact hi)
   have h2:=(Classical.choose_spec (key ⟨i / sz,hxl ▸ h1⟩)).2 (i % sz) (Nat.mod_lt _ hsz)
   have h3:=zsm f sz hf xs (i / sz) (i % sz) h1 (Nat.mod_lt _ hsz)
   rw [<- hxi _ h1,<- h3] at h2
   have e0:i / sz * sz + i % sz=i:=by rw [Nat.mul_comm];exact Nat.div_add_mod i sz
   have h4:w.cell? ⟨b,off + i / sz * sz + i % sz,.none⟩=(xs.flatMap f)[i / sz * sz + i % sz]?:=h2
   rw [Nat.add_assoc,e0] at h4
   exact h4
  ·obtain ⟨i,hi,rfl⟩:=List.getElem_of_mem ha
   rw [hxi i hi]
   exact (Classical.choose_spec (key ⟨i,hxl ▸ hi⟩)).1
def RdZ (k:IntKind) (w:World) (v:Value) (zs:List Int):Prop:=RdS w 1 v zs.length (zs.map (.int k))
def RdBo (w:World) (v:Value) (l:List Bool):Prop:=RdS w 1 v l.length (l.map .bool)
theorem yf7 {t e:TypeId} {k:IntKind} {v:Value} (ht:P.underlying t=some (.slice e)) (he:P.underlying e=some (.int k)) (ce:P.cellsOf e=1)
  {r:Reach} {b0:Nat} {d:DataW H} {ps:List MemPlace} (hv:Value.okWide P w r b0 t v) (h0:DataW.Trod enc P w 0 (fun _=> true) true t v d ps):∃ zs:List Int,RdZ k w v zs/\∀ z ∈ zs,(Lit.int k z).wf=true:=by
 obtain ⟨xs,h1,h2⟩:=open_list (fun z:Int=> [Value.int k z]) (fun z=> (Lit.int k z).wf=true) ht ce (by omega) (fun _=> rfl) (fun es h1 h2=> by
  obtain ⟨n,rfl,hn⟩:=zj9 he h2
  exact ⟨n,rfl,hn⟩) hv h0
 rw [z03] at h1
 exact ⟨xs,h1,h2⟩
end

theorem RdZ.cells {k:IntKind} {w:World} {v:Value} {zs:List Int} (h:RdZ k w v zs):∃ ao cap,v= .slice ao zs.length cap/\zs.length<=cap/\(cap:Int)<=9223372036854775807/\
  (zs≠ []->∃ b off,ao=some ⟨b,off,.none⟩/\b < w.heap.size/\∀ i (hi:i < zs.length),w.cell? ⟨b,off + i,.none⟩=some (.int k zs[i])):=by
 obtain ⟨ao,cap,e,h1,h2,_,h4⟩:=h
 refine ⟨ao,cap,e,h1,h2,fun hn=> ?_⟩
 obtain ⟨b,off,ea,hlt,hc⟩:=h4 (fun h=> hn (List.eq_nil_of_length_eq_zero h))
 refine ⟨b,off,ea,hlt,fun i hi=> (hc i (by omega)).trans ?_⟩
 simp [hi]
theorem RdBo.cells {w:World} {v:Value} {zs:List Bool} (h:RdBo w v zs):∃ ao cap,v= .slice ao zs.length cap/\zs.length<=cap/\(cap:Int)<=9223372036854775807/\
  (zs≠ []->∃ b off,ao=some ⟨b,off,.none⟩/\b < w.heap.size/\∀ i (hi:i < zs.length),w.cell? ⟨b,off + i,.none⟩=some (.bool zs[i])):=by
 obtain ⟨ao,cap,e,h1,h2,_,h4⟩:=h
 refine ⟨ao,cap,e,h1,h2,fun hn=> ?_⟩
 obtain ⟨b,off,ea,hlt,hc⟩:=h4 (fun h=> hn (List.eq_nil_of_length_eq_zero h))
 refine ⟨b,off,ea,hlt,fun i hi=> (hc i (by omega)).trans ?_⟩
 simp [hi]
theorem RdZ.below {k:IntKind} {w w':World} {v:Value} {zs:List Int} (h:RdZ k w v zs) (hb:Below w.heap.size w w'):RdZ k w' v zs:=RdS.below h hb
theorem RdBo.below {w w':World} {v:Value} {zs:List Bool} (h:RdBo w v zs) (hb:Below w.heap.size w w'):RdBo w' v zs:=RdS.below h hb
end

section

open Go.RowKit

attribute [local go_sem ↓] Go.wp_at_zero Go.wp_at_succ

theorem rs2 (x:Int) (w:World) (h0:0<=x/\x < 18446744073709551616):
  Calls Tryz.prog 170 #[.int .u64 x] w fun e w'=> e= .returned (.tuple #[.int .i64 (zdc x),.int .i64 (zda x)])/\Below w.heap.size w w':=by
 refine (zfz x w h0.1 h0.2).mono ?_
 rintro e w' ⟨hb,rfl⟩
 refine ⟨?_,hb⟩
 have h:(za8 (zbx x) (za2 x 0)==x)=zjc x:=rfl
 rw [h]
 unfold zdc zda
 cases zjc x <;> rfl
theorem z2a (s:Sh) (c d:Int) (w:World):
  Calls Tryz.prog 41 #[.agg #[.int .i64 s.p,.int .i64 s.c,.int .i64 s.m],.int .i64 c,.int .i64 d] w fun e w'=> Born w w' e (zan s (zix s c d)) 129:=by
 have hc1:=fun W=> zau s.p s.c s.m c W
 have hc2:=fun W=> zau s.p s.c s.m d W
 have hend:=fun k Y (hY:zaa Y k (zan s ⟨c,d,0,0,0,0,0,0,0,0,0,false⟩) 129)=> zhr k s ⟨c,d,0,0,0,0,0,0,0,0,0,false⟩ 1 Y hY
 obtain ⟨t2,ht2,ht2'⟩:∃ t2:Ad,Hid (t2=if zae s.p s.c s.m c < 0\/zae s.p s.c s.m d < 0\/c=d then (⟨c,d,0,0,0,0,0,0,0,0,0,false⟩:Ad).fin 1 else ⟨c,d,0,0,0,0,0,0,0,0,0,false⟩)/\t2=zix s c d:=⟨_,hd' rfl,rfl⟩
 rw [<- ht2']
 clear ht2'
 generalize zae s.p s.c s.m c=sx at *
 generalize zae s.p s.c s.m d=sd at *
 obtain ⟨sp,sc,sm⟩:=s
 dsimp only at hc1 hc2
 replace hc1:=hd' hc1
 replace hc2:=hd' hc2
 replace hend:=hd' hend
 have hb0:=(Below.refl w.heap.size w).alloc lr (.cells #[.int .i64 sp,.int .i64 sc,.int .i64 sm] 24)
 have t0:=heap_alloc_new w (.cells #[.int .i64 sp,.int .i64 sc,.int .i64 sm] 24)
 go_enter Tryz.func41,Tryz.ntmps41
 go_upto_region 1 with fail
 generalize w.alloc (.cells #[.int .i64 sp,.int .i64 sc,.int .i64 sm] 24)=W at *
 obtain ⟨H,hH,hH'⟩:=hidv w.heap.size
 rw [<- hH'] at t0 ⊢
 have hr0:zaa W H #[.int .i64 sp,.int .i64 sc,.int .i64 sm] 24:=t0
 have lH:H < W.heap.size:=hr0.lt
 obtain ⟨c0,c1,c2⟩:=ci3 sp sc sm hr0.cell
 clear t0 hH'
 have hWw:=hd' hb0.size
 go_upto_region 2 with fail
 have hr:zaa (W.alloc (.cells (zan ⟨sp,sc,sm⟩ ⟨c,d,0,0,0,0,0,0,0,0,0,false⟩) 129)) W.heap.size (zan ⟨sp,sc,sm⟩ ⟨c,d,0,0,0,0,0,0,0,0,0,false⟩) 129:=heap_alloc_new _ _
 have hbV:=hb0.trans ((Below.refl w.heap.size W).alloc hb0.size (.cells (zan ⟨sp,sc,sm⟩ ⟨c,d,0,0,0,0,0,0,0,0,0,false⟩) 129))
 have hrr:=hr0.alloc (.cells (zan ⟨sp,sc,sm⟩ ⟨c,d,0,0,0,0,0,0,0,0,0,false⟩) 129)
 dsimp only [zan] at hr hbV hrr hend
 generalize W.alloc (.cells #[.int .i64 sp,.int .i64 sc,.int .i64 sm,.int .i64 c,.int .i64 d,.int .i64 0,.int .u64 0,.int .i64 0,.int .i64 0,.int .i64 0,.int .i64 0,.int .i64 0,.int .i64 0,.int .i64 0,.bool false] 129)=V at *
 obtain ⟨K,hK,hK'⟩:=hidv W.heap.size
 rw [<- hK'] at hr ⊢
 have hKw:w.heap.size<=K:=hK' ▸ hWw.out
 have lHV:H < V.heap.size:=hrr.lt
 have lKV:K < V.heap.size:=hr.lt
 clear hK' c0 c1 c2 lH hr0 hb0
 obtain ⟨c0,c1,c2⟩:=ci3 sp sc sm hrr.cell
 clear hrr
 have hcs:sx < 0\/(0<=sx/\sd < 0)\/(0<=sx/\0<=sd/\c=d)\/(0<=sx/\0<=sd/\(c==d)=false):=by
  by_cases h1:sx < 0
  ·exact .inl h1
  by_cases h2:sd < 0
  ·exact .inr (.inl ⟨by omega,h2⟩)
  by_cases h:c=d
  ·exact .inr (.inr (.inl ⟨by omega,by omega,h⟩))
  ·exact .inr (.inr (.inr ⟨by omega,by omega,by simpa using h⟩))
 rcases hcs with h1 | ⟨h1,h2⟩ | ⟨h1,h2,rfl⟩ | ⟨h1,h2,h3⟩
 case inr.inr.inr=>
  replace ht2:=hd' (ht2.out.trans (if_neg (by rintro (h | h | h) <;> first | omega | (rw [h] at h3;simp at h3))))
  clear hend
  go_wp2_with (first
   | (go_at_call 14;(with_reducible refine (hc1.out _).mono ?_);rintro r w1 ⟨rfl,hb1⟩;have d0:=zai hb1 _ _ _ c0;have d1:=zai hb1 _ _ _ c1;have d2:=zai hb1 _ _ _ c2;have hr1:=hr.below hb1)
   | (go_at_call 14;(with_reducible refine (hc2.out _).mono ?_);rintro r w2 ⟨rfl,hb2⟩;have hr2:=hr1.below hb2)
   | fail)
  go_returns
  exact ⟨K,rfl,hKw,by rw [ht2.out];exact hr2,zab (zab hbV hb1) hb2⟩
 case inl=>
  replace ht2:=hd' (ht2.out.trans (if_pos (.inl h1)))
  go_wp2_with (first
   | (go_at_call 14;(with_reducible refine (hc1.out _).mono ?_);rintro r w1 ⟨rfl,hb1⟩;have d0:=zai hb1 _ _ _ c0;have d1:=zai hb1 _ _ _ c1;have d2:=zai hb1 _ _ _ c2;have hr1:=hr.below hb1)
   | (go_at_call 55;(with_reducible refine (hend.out _ _ hr1).mono ?_);rintro r w3 hT;obtain rfl:=hT.ret)
   | fail)
  go_returns
  have hbW:=zab hbV hb1
  exact ⟨K,rfl,hKw,by rw [ht2.out];exact hT.row,hbW.trans (hT.only.below hbW.size fun k hk=> by rw [hk];exact hKw)⟩
 case inr.inl=>
  replace ht2:=hd' (ht2.out.trans (if_pos (.inr (.inl h2))))
  go_wp2_with (first
   | (go_at_call 14;(with_reducible refine (hc1.out _).mono ?_);rintro r w1 ⟨rfl,hb1⟩;have d0:=zai hb1 _ _ _ c0;have d1:=zai hb1 _ _ _ c1;have d2:=zai hb1 _ _ _ c2;have hr1:=hr.below hb1)
   | (go_at_call 14;(with_reducible refine (hc2.out _).mono ?_);rintro r w2 ⟨rfl,hb2⟩;have hr2:=hr1.below hb2)
   | (go_at_call 55;(with_reducible refine (hend.out _ _ hr2).mono ?_);rintro r w3 hT;obtain rfl:=hT.ret)
   | fail)
  go_returns
  have hbW:=zab (zab hbV hb1) hb2
  exact ⟨K,rfl,hKw,by rw [ht2.out];exact hT.row,hbW.trans (hT.only.below hbW.size fun k hk=> by rw [hk];exact hKw)⟩
 case inr.inr.inl=>
  replace ht2:=hd' (ht2.out.trans (if_pos (.inr (.inr rfl))))
  go_wp2_with (first
   | (go_at_call 14;(with_reducible refine (hc1.out _).mono ?_);rintro r w1 ⟨rfl,hb1⟩;have d0:=zai hb1 _ _ _ c0;have d1:=zai hb1 _ _ _ c1;have d2:=zai hb1 _ _ _ c2;have hr1:=hr.below hb1)
   | (go_at_call 14;(with_reducible refine (hc2.out _).mono ?_);rintro r w2 ⟨rfl,hb2⟩;have hr2:=hr1.below hb2)
   | (go_at_call 55;(with_reducible refine (hend.out _ _ hr2).mono ?_);rintro r w3 hT;obtain rfl:=hT.ret)
   | fail)
  go_returns
  have hbW:=zab (zab hbV hb1) hb2
  exact ⟨K,rfl,hKw,by rw [ht2.out];exact hT.row,hbW.trans (hT.only.below hbW.size fun k hk=> by rw [hk];exact hKw)⟩
def Ad.asked (s:Sh) (t:Ad) (x:Int):Ad:=
 if zdc x=2 then { t with was:=x,next:=2 }
 else if zdc x≠3 then ({ t with was:=x }:Ad).fin 5
 else if zae s.p s.c s.m (zda x) < 0 then ({ t with was:=x }:Ad).fin 4
 else { t with was:=x,who:=zda x,next:=1 }
theorem z3b (q p b:Nat) (s:Sh) (t:Ad) (m:Mem) (w:World) (h0:At3 q p b w w (zan s t) 129 m) (hf:Fits s m) (hs:m.st < 1000000000) (hd:0<=t.d/\t.d < s.c):
  Calls Tryz.prog 169 #[.pointer (some ⟨q,0,.none⟩),.pointer (some ⟨p,0,.none⟩)] w fun e w'=> e= .returned (.tuple #[])/\At3 q p b w w' (zan s (t.asked s (m.get (zae s.p s.c s.m t.d)))) 129 (m.load t.c (zae s.p s.c s.m t.d)):=by
 obtain ⟨hpx,hph⟩:=hf.status hd
 have hcp:=fun Y=> zau s.p s.c s.m t.d Y
 rw [hpx] at hcp ⊢
 have hlp:=fun Y (hY:zaq Y p b m)=> zc1 p b m t.c t.d Y hY hph hs
 have hrs:=fun Y=> rs2 (m.get t.d) Y (Mem.ze4 h0.wds.fit _)
 generalize m.get t.d=x at *
 have hst:=fun Y=> zau s.p s.c s.m (zda x) Y
 have hend:=fun e Y (hY:zaa Y q (zan s { t with was:=x }) 129)=> zhr q s { t with was:=x } e Y hY
 clear hpx hph hf hd
 unfold Ad.asked
 obtain ⟨t2,ht2,ht2'⟩:∃ t2:Ad,Hid (t2=if zdc x=2 then { t with was:=x,next:=2 } else if zdc x≠3 then ({ t with was:=x }:Ad).fin 5 else if zae s.p s.c s.m (zda x) < 0 then ({ t with was:=x }:Ad).fin 4 else { t with was:=x,who:=zda x,next:=1 })/\t2=_:=⟨_,hd' rfl,rfl⟩
 rw [<- ht2']
 clear ht2'
 generalize zdc x=k at *
 generalize zda x=A at *
 generalize zae s.p s.c s.m A=sx at *
 obtain ⟨sp,sc,sm⟩:=s
 obtain ⟨tc,td,tn,tw,tby,ta,ti,pk,pa,pb,terr,tdone⟩:=t
 dsimp only at hcp hlp hst hend ht2 ⊢
 replace hcp:=hd' hcp
 replace hlp:=hd' hlp
 replace hrs:=hd' hrs
 replace hst:=hd' hst
 replace hend:=hd' hend
 have hcs:k=2\/((k==2)=false/\(k==3)=false)\/(k=3/\sx < 0)\/(k=3/\¬ sx < 0):=by
  by_cases h1:k=2
  ·exact .inl h1
  by_cases h2:k=3
  ·by_cases h3:sx < 0
   ·exact .inr (.inr (.inl ⟨h2,h3⟩))
   ·exact .inr (.inr (.inr ⟨h2,h3⟩))
  ·exact .inr (.inl ⟨by simpa using h1,by simpa using h2⟩)
 have hX:=h0
 clear h0
 have lw:=hX.lt
 go_enter Tryz.func169,Tryz.ntmps169
 go_upto_region 0 with fail
 refine zcx 18 (last:= { dst:=none,op:=Op.store 67 (Operand.tmp 23) (Operand.tmp 21),type:=0,pos:=_,after:=_,guard:=none }) (x:=zbb 2) (ld:=15) (v:= .int .u64 x) (ts:= [7,11,20])
  (K0:=fun Y=> At3 q p b w Y (zan ⟨sp,sc,sm⟩ ⟨tc,td,tn,tw,tby,ta,ti,pk,pa,pb,terr,tdone⟩) 129 m) (K1:=fun Y=> At3 q p b w Y (zan ⟨sp,sc,sm⟩ ⟨tc,td,tn,tw,tby,ta,ti,pk,pa,pb,terr,tdone⟩) 129 (m.load tc td))
  (by kernel_rfl) rfl (by kernel_rfl) (by simp only [List.take,zbb,zfq,zej,nopO,nopC,Nat.reduceBEq,Bool.or_false,Bool.or_true,Bool.false_eq_true,↓reduceIte,Nat.reduceAdd];exact rfl) (by kernel_rfl) (by kernel_rfl) (by kernel_rfl) (by simp [zbb]) (by simp [zbb]) (by simp [zbb]) (by simp [zbb]) (by kernel_rfl) (by simp [zbb]) (by simp [zbb])
  ⟨⟨fun Y Y' h1 h2 h3=> h1.far h2 h3 hX.only.size⟩,⟨fun Y Y' h1 h2 h3=> h1.far h2 h3 hX.only.size⟩⟩ hX.drew ?_
 apply Exists.intro
 refine ⟨fun B hb hs=> ?_,fun h=> (by simp [zbb] at h),fun Q0=> ?_,?_⟩
 case refine_1=>
  have hrB:zaa B q (zan ⟨sp,sc,sm⟩ ⟨tc,td,tn,tw,tby,ta,ti,pk,pa,pb,terr,tdone⟩) 129:=hb.elim (fun h=> h.row) (fun h=> h.row)
  have lB:=hrB.lt
  obtain ⟨k0,k1,k2,k3,k4⟩:=ci5 sp sc sm tc td hrB.cell
  repeat (go_big_quiet_step ((first | (go_at_call 14;exact zam (hcp.out _)) | fail)))
  exact wpQuiet_nil rfl
 case refine_2=> exact zcz rfl (fun _ _=> by simp [go_sem]) fun Y hY2 hs=> (hlp.out Y hY2.wds).mono fun r Y' ⟨h1,h2,h3⟩=> ⟨h1,hY2.load h2 h3,h3.weak fun k hk=> hk ▸ Nat.lt_of_lt_of_le hY2.ls.2.1 hX.only.size⟩
 case refine_3=>
  intro a w4 M hf
  obtain ⟨rfl,hbig,hk1,_⟩:=hf
  have z6:=ce (.int .u64 tw) (hk1.cell 6)
  have zf:=hk1.free
  have hA:=hk1.set 6 (.int .u64 x)
  simp only [zbb,vput,List.take,List.size_toArray,List.length_cons,List.length_nil,Nat.reduceAdd,Nat.reduceLT,decide_false,Bool.false_eq_true,if_false]
  clear hk1 hX hlp hcp
  go_upto_region 1 with fail
  generalize World.setCell _ ⟨q,6,.none⟩ (.int .u64 x)=Y at *
  clear z6 zf
  have lY:=hA.lt
  have c6:=ce (.int .u64 x) (hA.cell 6)
  rcases hcs with rfl | ⟨hk2,hk3⟩ | ⟨rfl,hsx⟩ | ⟨rfl,hsx⟩
  ·replace ht2:=hd' (ht2.out.trans (if_pos rfl))
   clear hend hst
   go_wp2_with (first
    | (go_at_call 170;(with_reducible refine (hrs.out _).mono ?_);rintro r w1 ⟨rfl,hb1⟩;have hB:=hA.below hb1;have k5:=ci tn (hB.cell 5);have zf:=hB.free)
    | fail)
   go_returns
   exact ⟨rfl,by rw [ht2.out];exact hB.set 5 _⟩
  ·replace ht2:=hd' ((ht2.out.trans (if_neg (by simpa using hk2))).trans (if_pos (by simpa using hk3)))
   clear hst
   go_wp2_with (first
    | (go_at_call 170;(with_reducible refine (hrs.out _).mono ?_);rintro r w1 ⟨rfl,hb1⟩;have hB:=hA.below hb1)
    | (go_at_call 55;(with_reducible refine (hend.out _ _ hB.row).mono ?_);rintro r w3 hT;obtain rfl:=hT.ret)
    | fail)
   go_returns
   exact ⟨rfl,by rw [ht2.out];exact hB.turned hT⟩
  ·replace ht2:=hd' (((ht2.out.trans (if_neg (by decide))).trans (if_neg (by decide))).trans (if_pos hsx))
   go_wp2_with (first
    | (go_at_call 170;(with_reducible refine (hrs.out _).mono ?_);rintro r w1 ⟨rfl,hb1⟩;have hB:=hA.below hb1;have k0:=ci sp (hB.cell 0);have k1:=ci sc (hB.cell 1);have k2:=ci sm (hB.cell 2))
    | (go_at_call 14;(with_reducible refine (hst.out _).mono ?_);rintro r w2 ⟨rfl,hb2⟩;have hC:=hB.below hb2)
    | (go_at_call 55;(with_reducible refine (hend.out _ _ hC.row).mono ?_);rintro r w3 hT;obtain rfl:=hT.ret)
    | fail)
   go_returns
   exact ⟨rfl,by rw [ht2.out];exact hC.turned hT⟩
  ·replace ht2:=hd' (((ht2.out.trans (if_neg (by decide))).trans (if_neg (by decide))).trans (if_neg hsx))
   clear hend
   have hsx':0<=sx:=by omega
   go_wp2_with (first
    | (go_at_call 170;(with_reducible refine (hrs.out _).mono ?_);rintro r w1 ⟨rfl,hb1⟩;have hB:=hA.below hb1;have k0:=ci sp (hB.cell 0);have k1:=ci sc (hB.cell 1);have k2:=ci sm (hB.cell 2))
    | (go_at_call 14;(with_reducible refine (hst.out _).mono ?_);rintro r w2 ⟨rfl,hb2⟩;have hC:=hB.below hb2;have l5:=ci tn (hC.cell 5);have l7:=ci tby (hC.cell 7);have zf:=hC.free)
    | fail)
   go_returns
   exact ⟨rfl,by rw [ht2.out];exact (hC.set 7 _).set 5 _⟩
theorem zl2 (s:Sh) (t:Ad) (m:Mem) (h:t.done=false) (h0:t.next=0):za0 s t m=(t.asked s (m.get (zae s.p s.c s.m t.d)),m.load t.c (zae s.p s.c s.m t.d)):=by
 unfold za0 Ad.asked
 simp [h,h0]
theorem zmf (s:Sh) (t:Ad) (m:Mem) (h:t.done=false) (h0:t.next=1):za0 s t m=(if zdc (m.get (zae s.p s.c s.m t.who))=1 then ({ t with next:=2 }:Ad).fin 4 else { t with next:=2 },m.load t.c (zae s.p s.c s.m t.who)):=by
 unfold za0
 simp [h,h0]
theorem zlx (s:Sh) (t:Ad) (m:Mem) (h:t.done=false) (h0:t.next=2):za0 s t m=(if m.get (zae s.p s.c s.m t.d)=t.was then { t with next:=3 } else ({ t with next:=3 }:Ad).fin 4,m.swap t.c (zae s.p s.c s.m t.d) t.was (za8 3 t.c)):=by
 unfold za0
 simp [h,h0]
theorem zvq (q p b:Nat) (s:Sh) (t:Ad) (m:Mem) (w:World) (h0:At3 q p b w w (zan s t) 129 m) (hf:Fits s m) (hs:m.st < 1000000000) (hdn:t.done=false) (hn:0<=t.next/\t.next<=2) (hd:0<=t.d/\t.d < s.c) (hw:t.next=1->0<=t.who/\t.who < s.c):
  Calls Tryz.prog 166 #[.pointer (some ⟨q,0,.none⟩),.pointer (some ⟨p,0,.none⟩)] w fun e w'=> e= .returned (.tuple #[])/\At3 q p b w w' (zan s (za0 s t m).1) 129 (za0 s t m).2:=by
 rcases (by omega:t.next=0\/t.next=1\/t.next=2) with hn0 | hn1 | hn2
 ·rw [zl2 s t m hdn hn0]
  have hask:=z3b q p b s t m w h0 hf hs hd
  obtain ⟨t2,ht2⟩:∃ t2,t2=t.asked s (m.get (zae s.p s.c s.m t.d)):=⟨_,rfl⟩
  obtain ⟨m2,hm2⟩:∃ m2,m2=m.load t.c (zae s.p s.c s.m t.d):=⟨_,rfl⟩
  rw [<- ht2,<- hm2] at hask
  dsimp only
  rw [<- ht2,<- hm2]
  clear ht2 hm2 hd hw hf hs hn
  obtain ⟨sp,sc,sm⟩:=s
  obtain ⟨tc,td,tn,tw,tby,ta,ti,pk,pa,pb,terr,tdone⟩:=t
  dsimp only at hdn hn0
  subst hdn hn0
  replace hask:=hd' hask
  have c5:=ci 0 (h0.cell 5)
  clear h0
  go_enter Tryz.func166,Tryz.ntmps166
  go_wp2_with (first | (go_at_call 169;(with_reducible refine hask.out.mono ?_);rintro r w1 ⟨rfl,hA⟩) | fail)
  go_returns
  exact ⟨rfl,hA⟩
 ·rw [zmf s t m hdn hn1]
  obtain ⟨hpx,hph⟩:=hf.status (hw hn1)
  have hcp:=fun Y=> zau s.p s.c s.m t.who Y
  rw [hpx] at hcp ⊢
  have hlp:=fun Y (hY:zaq Y p b m)=> zc1 p b m t.c t.who Y hY hph hs
  have hrs:=fun Y=> rs2 (m.get t.who) Y (Mem.ze4 h0.wds.fit _)
  generalize m.get t.who=x at *
  have hend:=fun Y (hY:zaa Y q (zan s { t with next:=2 }) 129)=> zhr q s { t with next:=2 } 4 Y hY
  obtain ⟨t2,ht2,ht2'⟩:∃ t2:Ad,Hid (t2=if zdc x=1 then ({ t with next:=2 }:Ad).fin 4 else { t with next:=2 })/\t2=_:=⟨_,hd' rfl,rfl⟩
  dsimp only
  rw [<- ht2']
  clear ht2' hpx hph hf hd hw hn
  generalize zdc x=k at *
  generalize zda x=A at *
  obtain ⟨sp,sc,sm⟩:=s
  obtain ⟨tc,td,tn,tw,tby,ta,ti,pk,pa,pb,terr,tdone⟩:=t
  dsimp only at hcp hlp hend ht2 hdn hn1
  subst hdn hn1
  replace hcp:=hd' hcp
  replace hlp:=hd' hlp
  replace hrs:=hd' hrs
  replace hend:=hd' hend
  have c5:=ci 1 (h0.cell 5)
  go_enter Tryz.func166,Tryz.ntmps166
  go_upto_region 7 with fail
  refine zcl (x:=zbb 2) (ld:=14) (v:= .int .u64 x) (ts:= [48,52,61])
   (K0:=fun Y=> At3 q p b w Y (zan ⟨sp,sc,sm⟩ ⟨tc,td,1,tw,tby,ta,ti,pk,pa,pb,terr,false⟩) 129 m) (K1:=fun Y=> At3 q p b w Y (zan ⟨sp,sc,sm⟩ ⟨tc,td,1,tw,tby,ta,ti,pk,pa,pb,terr,false⟩) 129 (m.load tc tby))
   (by kernel_rfl) (by simp only [zbb,zfq,zej,nopO,nopC,Nat.reduceBEq,Bool.or_false,Bool.or_true,Bool.false_eq_true,↓reduceIte,Nat.reduceAdd];exact rfl) (by kernel_rfl) (by kernel_rfl) (by kernel_rfl) (by simp [zbb]) (by simp [zbb]) (by simp [zbb]) (by simp [zbb]) (by kernel_rfl) (by simp [zbb]) (by simp [zbb])
   ⟨⟨fun Y Y' h1 h2 h3=> h1.far h2 h3 h0.only.size⟩,⟨fun Y Y' h1 h2 h3=> h1.far h2 h3 h0.only.size⟩⟩ h0.drew ?_
  apply Exists.intro
  refine ⟨fun B hb hs=> ?_,fun h=> (by simp [zbb] at h),?_,?_⟩
  case refine_1=>
   have hrB:zaa B q (zan ⟨sp,sc,sm⟩ ⟨tc,td,1,tw,tby,ta,ti,pk,pa,pb,terr,false⟩) 129:=hb.elim (fun h=> h.row) (fun h=> h.row)
   have lB:=hrB.lt
   obtain ⟨k0,k1,k2,k3⟩:=ci4 sp sc sm tc hrB.cell
   have k7:=ci tby (hrB.cell 7)
   repeat (go_big_quiet_step ((first | (go_at_call 14;exact zam (hcp.out _)) | (go_at_call 170;exact zam (hrs.out _)) | fail)))
   exact wpQuiet_nil rfl
  case refine_2=> exact zcz rfl (fun _ _=> by simp [go_sem]) fun Y hY2 hs=> (hlp.out Y hY2.wds).mono fun r Y' ⟨h1,h2,h3⟩=> ⟨h1,hY2.load h2 h3,h3.weak fun k hk=> hk ▸ Nat.lt_of_lt_of_le hY2.ls.2.1 h0.only.size⟩
  case refine_3=>
   intro a w4 M hf
   obtain ⟨rfl,hbig,hA,_⟩:=hf
   simp only [zbb,vput,List.size_toArray,List.length_cons,List.length_nil,Nat.reduceAdd,Nat.reduceLT,decide_false,Bool.false_eq_true,if_false]
   have z5:=ci 1 (hA.cell 5)
   have zf:=hA.free
   have hB:=hA.set 5 (.int .i64 2)
   clear h0 hlp hcp hrs
   rcases (by by_cases h:k=1 <;> simp [h]:k=1\/(k≠1/\(k==1)=false)) with rfl | ⟨hk,hk2⟩
   ·replace ht2:=hd' (ht2.out.trans (if_pos rfl))
    go_wp2_with (first | (go_at_call 55;(with_reducible refine (hend.out _ hB.row).mono ?_);rintro r w3 hT;obtain rfl:=hT.ret) | fail)
    go_returns
    exact ⟨rfl,by rw [ht2.out];exact hB.turned hT⟩
   ·replace ht2:=hd' (ht2.out.trans (if_neg hk))
    clear hend
    go_wp2_with fail
    go_returns
    exact ⟨rfl,by rw [ht2.out];exact hB⟩
 ·rw [zlx s t m hdn hn2]
  obtain ⟨hpx,hph⟩:=hf.status hd
  have hcp:=fun Y=> zau s.p s.c s.m t.d Y
  rw [hpx] at hcp ⊢
  have hps:=fun Y=> zgn 3 t.c Y
  have hsw:=fun Y (hY:zaq Y p b m)=> zff p b m t.c t.d t.was (za8 3 t.c) Y hY hph (zdz _ _) hs
  have hend:=fun Y (hY:zaa Y q (zan s { t with next:=3 }) 129)=> zhr q s { t with next:=3 } 4 Y hY
  obtain ⟨t2,ht2,ht2'⟩:∃ t2:Ad,Hid (t2=if m.get t.d=t.was then { t with next:=3 } else ({ t with next:=3 }:Ad).fin 4)/\t2=_:=⟨_,hd' rfl,rfl⟩
  dsimp only
  rw [<- ht2']
  obtain ⟨sb,hsb⟩:∃ sb,sb=decide (m.get t.d=t.was):=⟨_,rfl⟩
  rw [<- hsb] at hsw
  have hsb':(sb=true/\t2= { t with next:=3 })\/(sb=false/\t2=({ t with next:=3 }:Ad).fin 4):=by
   rw [hsb,ht2.out]
   by_cases h:m.get t.d=t.was <;> simp [h]
  clear ht2' hpx hph hf hd hw hn ht2 hsb
  obtain ⟨sp,sc,sm⟩:=s
  obtain ⟨tc,td,tn,tw,tby,ta,ti,pk,pa,pb,terr,tdone⟩:=t
  dsimp only at hcp hps hsw hend hsb' hdn hn2 ⊢
  subst hdn hn2
  replace hcp:=hd' hcp
  replace hps:=hd' hps
  replace hsw:=hd' hsw
  replace hend:=hd' hend
  replace hsb':=hd' hsb'
  have c5:=ci 2 (h0.cell 5)
  have zf:=h0.free
  go_enter Tryz.func166,Tryz.ntmps166
  go_upto_region 2 with fail
  have hX:=h0.set 5 (.int .i64 3)
  generalize World.setCell _ ⟨q,5,.none⟩ (.int .i64 3)=W at *
  clear h0 c5 zf
  refine zcl (x:=zbb 2) (ld:=23) (v:= .bool sb) (ts:= [13,17,26,30,35])
   (K0:=fun Y=> At3 q p b w Y (zan ⟨sp,sc,sm⟩ ⟨tc,td,3,tw,tby,ta,ti,pk,pa,pb,terr,false⟩) 129 m) (K1:=fun Y=> At3 q p b w Y (zan ⟨sp,sc,sm⟩ ⟨tc,td,3,tw,tby,ta,ti,pk,pa,pb,terr,false⟩) 129 (m.swap tc td tw (za8 3 tc)))
   (by kernel_rfl) (by simp only [zbb,zfq,zej,nopO,nopC,Nat.reduceBEq,Bool.or_false,Bool.or_true,Bool.false_eq_true,↓reduceIte,Nat.reduceAdd];exact rfl) (by kernel_rfl) (by kernel_rfl) (by kernel_rfl) (by simp [zbb]) (by simp [zbb]) (by simp [zbb]) (by simp [zbb]) (by kernel_rfl) (by simp [zbb]) (by simp [zbb])
   ⟨⟨fun Y Y' h1 h2 h3=> h1.far h2 h3 hX.only.size⟩,⟨fun Y Y' h1 h2 h3=> h1.far h2 h3 hX.only.size⟩⟩ hX.drew ?_
  apply Exists.intro
  refine ⟨fun B hb hs=> ?_,fun h=> (by simp [zbb] at h),?_,?_⟩
  case refine_1=>
   have hrB:zaa B q (zan ⟨sp,sc,sm⟩ ⟨tc,td,3,tw,tby,ta,ti,pk,pa,pb,terr,false⟩) 129:=hb.elim (fun h=> h.row) (fun h=> h.row)
   have lB:=hrB.lt
   obtain ⟨k0,k1,k2,k3,k4⟩:=ci5 sp sc sm tc td hrB.cell
   have k6:=ce (.int .u64 tw) (hrB.cell 6)
   repeat (go_big_quiet_step ((first | (go_at_call 14;exact zam (hcp.out _)) | (go_at_call 171;exact zam (hps.out _)) | fail)))
   exact wpQuiet_nil rfl
  case refine_2=> exact zcz rfl (fun _ _=> by simp [go_sem]) fun Y hY2 hs=> (hsw.out Y hY2.wds).mono fun r Y' ⟨h1,h2,h3⟩=> ⟨h1,hY2.access h2 h3,h3.weak fun k hk=> hk.elim (fun e=> e ▸ Nat.lt_of_lt_of_le hY2.ls.2.1 hX.only.size) (fun e=> e ▸ Nat.lt_of_lt_of_le hY2.ls.2.2 hX.only.size)⟩
  case refine_3=>
   intro a w4 M hf
   obtain ⟨rfl,hbig,hA,_⟩:=hf
   simp only [zbb,vput,List.size_toArray,List.length_cons,List.length_nil,Nat.reduceAdd,Nat.reduceLT,decide_false,Bool.false_eq_true,if_false]
   clear hX hsw hcp hps
   rcases hsb'.out with ⟨rfl,ht2⟩ | ⟨rfl,ht2⟩
   ·replace ht2:=hd' ht2
    clear hsb' hend
    go_wp2_with fail
    go_returns
    exact ⟨rfl,by rw [ht2.out];exact hA⟩
   ·replace ht2:=hd' ht2
    clear hsb'
    go_wp2_with (first | (go_at_call 55;(with_reducible refine (hend.out _ hA.row).mono ?_);rintro r w3 hT;obtain rfl:=hT.ret) | fail)
    go_returns
    exact ⟨rfl,by rw [ht2.out];exact hA.turned hT⟩
end

end Go.Proofs.YthgekdlegbmehaaGreat
