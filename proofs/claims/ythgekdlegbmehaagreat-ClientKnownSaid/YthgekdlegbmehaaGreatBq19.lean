/- Texts bound together: FreeT FreeU. -/
import Derived.Test.YthgekdlegbmehaaGreatBq18

set_option linter.all false
set_option maxHeartbeats 2000000
set_option maxRecDepth 100000
namespace Go.Proofs.YthgekdlegbmehaaGreat

open Go.RowKit

attribute [local go_sem ↓] Go.wp_at_zero Go.wp_at_succ

theorem zy7 (q p b:Nat) (s:Sh) (t:Fe) (pv:Value) (m:Mem) (w:World) (h0:At3 q p b w w (za7 s t pv) 123 m) (hf:Fits s m) (hs:m.st < 1000000000) (hpg:0<=t.page/\t.page < s.p) (hsp:spB s t.a=true):
  Calls Tryz.prog 142 #[.pointer (some ⟨q,0,.none⟩),.pointer (some ⟨p,0,.none⟩)] w fun e w'=> e= .returned (.tuple #[])/\At3 q p b w w' (za7 s (t.look s m).1 pv) 123 (t.look s m).2:=by
 have hbd:=hf.bd
 have hsplit:=fun Y=> zxk s t.a Y
 rw [hsp,if_pos rfl,if_pos rfl] at hsplit
 have hoff:0<=t.a % 64/\t.a % 64 < 64:=by omega
 obtain ⟨hpx,hph⟩:=hf.page hpg
 have hcpp:=fun Y=> planPage_any s.p s.c s.m t.page Y
 rw [hpx] at hcpp
 have hlp:=fun Y (hY:zaq Y p b m)=> zc1 p b m t.c (s.c + t.page) Y hY hph hs
 have hrp:=fun Y=> zh3 s t.page (m.get (s.c + t.page)) Y (Mem.ze4 h0.wds.fit _)
 have hsz:=fun k Y=> zgq k Y
 have hr:t.look s m=(if zal s.p s.c s.m t.page (m.get (s.c + t.page))=true/\pgK s t.page (m.get (s.c + t.page))=3/\t.a % 64=0 then { t with word:=m.get (s.c + t.page),pk:=pgK s t.page (m.get (s.c + t.page)),pa:=pgP s t.page (m.get (s.c + t.page)) 0,pb:=pgP s t.page (m.get (s.c + t.page)) 1,next:=1 }
   else if zal s.p s.c s.m t.page (m.get (s.c + t.page))=true/\pgK s t.page (m.get (s.c + t.page))=2/\t.a % 64 % zbj (pgP s t.page (m.get (s.c + t.page)) 0)=0 then { t with word:=m.get (s.c + t.page),pk:=pgK s t.page (m.get (s.c + t.page)),pa:=pgP s t.page (m.get (s.c + t.page)) 0,pb:=pgP s t.page (m.get (s.c + t.page)) 1,next:=1,slot:=t.a % 64 / zbj (pgP s t.page (m.get (s.c + t.page)) 0) }
   else { t with word:=m.get (s.c + t.page),pk:=pgK s t.page (m.get (s.c + t.page)),pa:=pgP s t.page (m.get (s.c + t.page)) 0,pb:=pgP s t.page (m.get (s.c + t.page)) 1,next:=1,done:=true },m.load t.c (s.c + t.page)):=by
  unfold Fe.look pgK pgP
  dsimp only
  rw [hpx]
  by_cases hB:zal s.p s.c s.m t.page (m.get (s.c + t.page))=true <;> simp [hB]
 have hpos:zal s.p s.c s.m t.page (m.get (s.c + t.page))=true/\pgK s t.page (m.get (s.c + t.page))=2->0 < zbj (pgP s t.page (m.get (s.c + t.page)) 0):=fun h=> by
  have h2:=h.2
  unfold pgK at h2
  rw [if_pos h.1] at h2
  unfold pgP
  rw [if_pos h.1]
  exact (zwy hoff (zdq h.1 h2).2.2).1
 rw [hr]
 clear hr hsp hpx hph hpg hbd hf
 generalize s.c + t.page=pga at *
 generalize m.get pga=x at *
 generalize zal s.p s.c s.m t.page x=B at *
 generalize pgK s t.page x=e0 at *
 generalize pgP s t.page x 0=e1 at *
 generalize pgP s t.page x 1=e2 at *
 replace hsz:=fun Y=> hsz e1 Y
 have hszb:=znt e1
 generalize zbj e1=z at *
 generalize t.a % 64=off at *
 generalize t.a / 64=qu at *
 dsimp only
 obtain ⟨t2,ht2,ht2'⟩:∃ t2:Fe,Hid (t2=if B=true/\e0=3/\off=0 then { t with word:=x,pk:=e0,pa:=e1,pb:=e2,next:=1 } else if B=true/\e0=2/\off % z=0 then { t with word:=x,pk:=e0,pa:=e1,pb:=e2,next:=1,slot:=off / z } else { t with word:=x,pk:=e0,pa:=e1,pb:=e2,next:=1,done:=true })/\t2=_:=⟨_,hd' rfl,rfl⟩
 rw [<- ht2']
 clear ht2'
 obtain ⟨sp,sc,sm⟩:=s
 obtain ⟨tc,ta,tg,tl,tw,pk,pa,pb,tn,ti,tput,tgave,tdone⟩:=t
 dsimp only at hsplit hcpp hlp hrp ht2 ⊢
 replace hsplit:=hd' hsplit
 replace hcpp:=hd' hcpp
 replace hlp:=hd' hlp
 replace hrp:=hd' hrp
 replace hsz:=hd' hsz
 replace hpos:=hd' hpos
 have lq:=h0.lt
 obtain ⟨c0,c1,c2,c3,c4⟩:=ci5 sp sc sm tc ta h0.cell
 go_enter Tryz.func142,Tryz.ntmps142
 go_upto_region 0 with fail
 refine zaj (by kernel_rfl) (by kernel_rfl) ?_
 repeat (go_big_quiet_step ((first | (go_at_call 35;exact zam (hsplit.out _)) | fail)))
 refine wpQuiet_nil ?_
 rintro _ ⟨e',rfl⟩
 have hX:=h0.below e'.below
 generalize e'.w=X at *
 clear c0 c1 c2 c3 c4 lq
 go_upto_region 1 with fail
 go_cut [5] (fun s5 wx=> s5= .int .i64 off/\At3 q p b w wx (za7 ⟨sp,sc,sm⟩ ⟨tc,ta,tg,tl,x,pk,pa,pb,tn,ti,tput,tgave,tdone⟩ pv) 123 (m.load tc pga))
 case first=>
  refine zcx 18 (last:= { dst:=none,op:=Op.store 67 (Operand.tmp 39) (Operand.tmp 37),type:=0,pos:=_,after:=_,guard:=none }) (x:=zbb 60) (ld:=15) (v:= .int .u64 x) (ts:= [23,27,36])
   (K0:=fun Y=> At3 q p b w Y (za7 ⟨sp,sc,sm⟩ ⟨tc,ta,tg,tl,tw,pk,pa,pb,tn,ti,tput,tgave,tdone⟩ pv) 123 m) (K1:=fun Y=> At3 q p b w Y (za7 ⟨sp,sc,sm⟩ ⟨tc,ta,tg,tl,tw,pk,pa,pb,tn,ti,tput,tgave,tdone⟩ pv) 123 (m.load tc pga))
   (by kernel_rfl) rfl (by kernel_rfl) (by simp only [List.take,zbb,zfq,zej,nopO,nopC,Nat.reduceBEq,Bool.or_false,Bool.or_true,Bool.false_eq_true,↓reduceIte,Nat.reduceAdd];exact rfl) (by kernel_rfl) (by kernel_rfl) (by kernel_rfl) (by simp [zbb]) (by simp [zbb]) (by simp [zbb]) (by simp [zbb]) (by kernel_rfl) (by simp [zbb]) (by simp [zbb])
   ⟨⟨fun Y Y' h1 h2 h3=> h1.far h2 h3 hX.only.size⟩,⟨fun Y Y' h1 h2 h3=> h1.far h2 h3 hX.only.size⟩⟩ hX.drew ?_
  apply Exists.intro
  refine ⟨fun B hb hs=> ?_,fun h=> (by simp [zbb] at h),fun Q0=> ?_,?_⟩
  case refine_1=>
   have hrB:zaa B q (za7 ⟨sp,sc,sm⟩ ⟨tc,ta,tg,tl,tw,pk,pa,pb,tn,ti,tput,tgave,tdone⟩ pv) 123:=hb.elim (fun h=> h.row) (fun h=> h.row)
   have lB:=hrB.lt
   obtain ⟨k0,k1,k2,k3⟩:=ci4 sp sc sm tc hrB.cell
   have k5:=ci tg (hrB.cell 5)
   repeat (go_big_quiet_step ((first | (go_at_call 59;exact zam (hcpp.out _)) | fail)))
   exact wpQuiet_nil rfl
  case refine_2=> exact zcz rfl (fun _ _=> by simp [go_sem]) fun Y hY2 hs=> (hlp.out Y hY2.wds).mono fun r Y' ⟨h1,h2,h3⟩=> ⟨h1,hY2.load h2 h3,h3.weak fun k hk=> hk ▸ Nat.lt_of_lt_of_le hY2.ls.2.1 hX.only.size⟩
  case refine_3=>
   intro a w4 M hf
   obtain ⟨rfl,hbig,hk1,_⟩:=hf
   have z7:=ce (.int .u64 tw) (hk1.cell 7)
   have zf:=hk1.free
   have hB:=hk1.set 7 (.int .u64 x)
   simp only [zbb,vput,List.take,List.size_toArray,List.length_cons,List.length_nil,Nat.reduceAdd,Nat.reduceLT,decide_false,Bool.false_eq_true,if_false]
   go_wp2
   go_meet
   exact ⟨rfl,hB⟩
 case rest=>
  obtain ⟨rfl,hA⟩:=hcut
  clear hX hlp hcpp hsplit
  obtain ⟨Y,rfl⟩:∃ V:World,V=wc:=⟨_,rfl⟩
  have lY:=hA.lt
  obtain ⟨c0,c1,c2,c3⟩:=ci4 sp sc sm tc hA.cell
  have c5:=ci tg (hA.cell 5)
  have c7:=ce (.int .u64 x) (hA.cell 7)
  go_upto_region 2 with fail
  go_cut [7,8] (fun s7 s8 wx=> ∃ E,s7= .pointer (some ⟨E,0,.none⟩)/\s8= .bool B/\Y.heap.size<=E/\zaa wx E #[.int .i64 e0,.int .i64 e1,.int .i64 e2] 120/\Below Y.heap.size Y wx)
  case first=>
   refine zkt (x:=⟨16,17,14,7,54,120, #[.int .i64 0,.int .i64 0,.int .i64 0], #[.int .i64 e0,.int .i64 e1,.int .i64 e2]⟩) (y:=⟨1000,1001,0,98,97,0, #[], #[]⟩) (by kernel_rfl) (by simp only [nopF,nopO,ownB,Nat.reduceBEq,Bool.or_false,Bool.or_true,Bool.false_eq_true,↓reduceIte,Nat.reduceAdd];exact rfl) (by kernel_rfl) (by kernel_rfl) (by kernel_rfl) (by constructor <;> (dsimp only;decide)) (by refine ⟨?_,?_,?_,?_⟩ <;> (dsimp only;decide)) rfl (by constructor <;> simp) ?_
   apply Exists.intro
   refine ⟨fun B hb=> ?_,?_,?_⟩
   case refine_1=>
    have hrB:=hA.row.below hb
    have lB:=hrB.lt
    obtain ⟨k0,k1,k2,k3⟩:=ci4 sp sc sm tc hrB.cell
    have k5:=ci tg (hrB.cell 5)
    have k7:=ce (.int .u64 x) (hrB.cell 7)
    repeat (go_big_quiet_step ((first | (go_at_call 122;exact zam (hrp.out _)) | fail)))
    exact wpQuiet_nil rfl
   case refine_2=> exact zqa rfl rfl rfl rfl rfl rfl rfl rfl (by dsimp only;decide +kernel) (by dsimp only;decide +kernel)
   case refine_3=>
    intro a w4 M hf
    obtain ⟨rfl,hb,hM0,hM⟩:=hf
    simp only [Act.put,vptr]
    go_wp2
    go_meet
    exact ⟨_,rfl,rfl,hM0,hM,hb⟩
  case rest=>
   obtain ⟨E,rfl,rfl,hE,hEr,hbX⟩:=hcut
   have hC:=hA.below hbX
   clear hA c0 c1 c2 c3 c5 c7 hrp
   have hEq:E≠q:=fun e=> by rw [e] at hE;omega
   obtain ⟨Z,rfl⟩:∃ V:World,V=wc:=⟨_,rfl⟩
   clear hbX
   obtain ⟨g0,g1,g2⟩:=ci3 e0 e1 e2 hEr.cell
   have c6:=ci tl (hC.cell 6)
   have c8:=ci pk (hC.cell 8)
   have c9:=ci pa (hC.cell 9)
   have c10:=ci pb (hC.cell 10)
   have c11:=ci tn (hC.cell 11)
   have c15:=ce (.bool tdone) (hC.cell 15)
   have zf:=hC.free
   have hD:=(((hC.set 8 (.int .i64 e0)).set 9 (.int .i64 e1)).set 10 (.int .i64 e2)).set 11 (.int .i64 1)
   obtain ⟨o1,o2⟩:=hoff
   obtain ⟨z1,z2⟩:=hszb
   have hneg:∀ (h1:¬ (B=true/\e0=3/\off=0)) (h2:¬ (B=true/\e0=2/\off % z=0)),t2=⟨tc,ta,tg,tl,x,e0,e1,e2,1,ti,tput,tgave,true⟩:=fun h1 h2=> (ht2.out.trans (if_neg h1)).trans (if_neg h2)
   replace hneg:=hd' hneg
   by_cases hB1:B=true/\e0=3/\off=0
   ·replace ht2:=hd' (ht2.out.trans (if_pos hB1))
    obtain ⟨rfl,rfl,rfl⟩:=hB1
    clear hneg hpos
    go_wp2_with fail
    go_returns
    exact ⟨rfl,by rw [ht2.out];exact hD⟩
   by_cases hB2:B=true/\e0=2/\off % z=0
   ·replace ht2:=hd' ((ht2.out.trans (if_neg hB1)).trans (if_pos hB2))
    have hz:0 < z:=hpos.out ⟨hB2.1,hB2.2.1⟩
    have hrem:off.tmod z=0:=by rw [Int.tmod_eq_emod_of_nonneg o1];exact hB2.2.2
    have hquo:off.tdiv z=off / z:=Int.tdiv_eq_ediv_of_nonneg o1
    have hzb:(z==0)=false:=by simp;omega
    have hdb:IntKind.i64.wrap (off / z)=off / z:=by
     have h1:0<=off / z:=Int.ediv_nonneg o1 (by omega)
     have h2:off / z<=off:=Int.ediv_le_self _ o1
     exact IntWalk.i64_in _ ⟨by omega,by omega⟩
    obtain ⟨rfl,rfl,hq0⟩:=hB2
    clear hneg hpos hB1
    replace hq0:=hd' hq0
    go_wp2_with (first | (go_at_call 50;(with_reducible refine (hsz.out _).mono ?_);rintro r w1 ⟨rfl,rfl⟩) | fail)
    go_returns
    exact ⟨rfl,by rw [ht2.out];exact hD.set 6 _⟩
   ·have hne:B=false\/(B=true/\e0=3/\(off==0)=false)\/(B=true/\e0=2/\(off % z==0)=false/\0 < z)\/(B=true/\(e0==3)=false/\(e0==2)=false):=by
     rcases Bool.eq_false_or_eq_true B with h | h
     ·by_cases h1:e0=3
      ·exact .inr (.inl ⟨h,h1,by simpa [h,h1] using hB1⟩)
      ·by_cases h2:e0=2
       ·exact .inr (.inr (.inl ⟨h,h2,by simpa [h,h2] using hB2,hpos.out ⟨h,h2⟩⟩))
       ·exact .inr (.inr (.inr ⟨h,by simpa using h1,by simpa using h2⟩))
     ·exact .inl h
    replace hneg:=hd' (hneg.out hB1 hB2)
    clear hB1 hB2 hpos ht2
    rcases hne with rfl | ⟨rfl,rfl,hne⟩ | ⟨rfl,rfl,hne,hz⟩ | ⟨rfl,hne,hne2⟩
    ·go_wp2_with fail
     go_returns
     exact ⟨rfl,by rw [hneg.out];exact hD.set 15 _⟩
    ·go_wp2_with fail
     go_returns
     exact ⟨rfl,by rw [hneg.out];exact hD.set 15 _⟩
    ·have hrem:off.tmod z=off % z:=Int.tmod_eq_emod_of_nonneg o1
     have hzb:(z==0)=false:=by simp;omega
     go_wp2_with (first | (go_at_call 50;(with_reducible refine (hsz.out _).mono ?_);rintro r w1 ⟨rfl,rfl⟩) | fail)
     go_returns
     exact ⟨rfl,by rw [hneg.out];exact hD.set 15 _⟩
    ·go_wp2_with fail
     go_returns
     exact ⟨rfl,by rw [hneg.out];exact hD.set 15 _⟩
structure zce (q q2 p b:Nat) (has:Bool) (w w':World) (e:Ending) (s:Sh) (t:Fe) (m:Mem):Prop where
 ret:e= .returned (.tuple #[])
 at':∃ q3,FeAt w' q q3 s t/\(q3=q2/\(has=false->t.put=none)\/w.heap.size<=q3)
 wds:zaq w' p b m
 only:Only (fun k=> k=q\/(has=true/\k=q2)\/k=p\/k=b) w w'
theorem zce.zoq {q q2 p b:Nat} {w w':World} {s:Sh} {t t':Fe} {m:Mem} (h:FeAt w q q2 s t) (hn:t.put≠none->q2≠p/\q2≠b) (hA:At3 q p b w w' (za7 s t' (ptrV t'.put q2)) 123 m) (ht:t'.put=t.put):zce q q2 p b t.put.isSome w w' (.returned (.tuple #[])) s t' m:=by
 refine ⟨rfl,⟨q2,⟨hA.row,fun x hx=> ?_⟩,.inl ⟨rfl,fun e=> ?_⟩⟩,hA.wds,hA.only.weak fun k hk=> ?_⟩
 ·rw [ht] at hx
  obtain ⟨h1,h2⟩:=h.inn x hx
  have h3:=hn (by rw [hx];exact fun e=> by cases e)
  exact ⟨h1.only hA.only (by rintro (e | e | e);exact h2 e.symm;exact h3.1 e;exact h3.2 e),h2⟩
 ·rw [ht];exact isSome_none e
 ·rcases hk with hk | hk | hk
  ·exact .inl hk
  ·exact .inr (.inr (.inl hk))
  ·exact .inr (.inr (.inr hk))
theorem zpj (q p b:Nat) (s:Sh) (t:Fe) (pv:Value) (m:Mem) (w:World) (h0:At3 q p b w w (za7 s t pv) 123 m) (hf:Fits s m) (hs:m.st < 1000000000) (hpg:0<=t.page/\t.page < s.p) (hk:t.pk=3) (hw:0<=t.word/\t.word < 18446744073709551616):
  Calls Tryz.prog 143 #[.pointer (some ⟨q,0,.none⟩),.pointer (some ⟨p,0,.none⟩)] w fun e w'=> e= .returned (.tuple #[])/\At3 q p b w w' (za7 s (t.claim s m).1 pv) 123 (t.claim s m).2/\(t.claim s m).1.put=t.put:=by
 obtain ⟨hpx,hph⟩:=hf.page hpg
 have hcpp:=fun Y=> planPage_any s.p s.c s.m t.page Y
 rw [hpx] at hcpp
 have hput:=fun Y=> zcd 1 t.c 0 Y
 have hhw:Hid (zf4 t.c=zb8 1 t.c 0):=hd' rfl
 rw [<- hhw.out] at hput
 have hsw:=fun Y (hY:zaq Y p b m)=> zff p b m t.c (s.c + t.page) t.word (zf4 t.c) Y hY hph (zc0 _ _ _) hs
 have hr:t.claim s m=({ t with gave:=decide (m.get (s.c + t.page)=t.word),next:=4,done:= !decide (m.get (s.c + t.page)=t.word) },m.swap t.c (s.c + t.page) t.word (zf4 t.c)):=by
  unfold Fe.claim
  rw [if_pos hk,hpx]
 rw [hr]
 clear hr hpx hph hpg hf hhw hw
 generalize s.c + t.page=pga at *
 generalize zf4 t.c=hw at *
 generalize decide (m.get pga=t.word)=g at *
 dsimp only
 obtain ⟨sp,sc,sm⟩:=s
 obtain ⟨tc,ta,tg,tl,tw,pk,pa,pb,tn,ti,tput,tgave,tdone⟩:=t
 dsimp only at hcpp hsw hk ⊢
 subst hk
 replace hcpp:=hd' hcpp
 replace hput:=hd' hput
 replace hsw:=hd' hsw
 have lq:=h0.lt
 have c8:=ci 3 (h0.cell 8)
 go_enter Tryz.func143,Tryz.ntmps143
 go_upto_region 1 with fail
 go_cut [1] (fun s1 wx=> s1= .pointer (some ⟨p,0,.none⟩)/\At3 q p b w wx (za7 ⟨sp,sc,sm⟩ ⟨tc,ta,tg,tl,tw,3,pa,pb,tn,ti,tput,g,tdone⟩ pv) 123 (m.swap tc pga tw hw))
 case first=>
  refine zcx 28 (last:= { dst:=none,op:=Op.store 4 (Operand.tmp 38) (Operand.tmp 36),type:=0,pos:=_,after:=_,guard:=none }) (x:=zbb 60) (ld:=25) (v:= .bool g) (ts:= [12,16,25,29,35])
   (K0:=fun Y=> At3 q p b w Y (za7 ⟨sp,sc,sm⟩ ⟨tc,ta,tg,tl,tw,3,pa,pb,tn,ti,tput,tgave,tdone⟩ pv) 123 m) (K1:=fun Y=> At3 q p b w Y (za7 ⟨sp,sc,sm⟩ ⟨tc,ta,tg,tl,tw,3,pa,pb,tn,ti,tput,tgave,tdone⟩ pv) 123 (m.swap tc pga tw hw))
   (by kernel_rfl) rfl (by kernel_rfl) (by simp only [List.take,zbb,zfq,zej,nopO,nopC,Nat.reduceBEq,Bool.or_false,Bool.or_true,Bool.false_eq_true,↓reduceIte,Nat.reduceAdd];exact rfl) (by kernel_rfl) (by kernel_rfl) (by kernel_rfl) (by simp [zbb]) (by simp [zbb]) (by simp [zbb]) (by simp [zbb]) (by kernel_rfl) (by simp [zbb]) (by simp [zbb])
   ⟨⟨fun Y Y' h1 h2 h3=> h1.far h2 h3 h0.only.size⟩,⟨fun Y Y' h1 h2 h3=> h1.far h2 h3 h0.only.size⟩⟩ h0.drew ?_
  apply Exists.intro
  refine ⟨fun B hb hs=> ?_,fun h=> (by simp [zbb] at h),fun Q0=> ?_,?_⟩
  case refine_1=>
   have hrB:zaa B q (za7 ⟨sp,sc,sm⟩ ⟨tc,ta,tg,tl,tw,3,pa,pb,tn,ti,tput,tgave,tdone⟩ pv) 123:=hb.elim (fun h=> h.row) (fun h=> h.row)
   have lB:=hrB.lt
   obtain ⟨k0,k1,k2,k3⟩:=ci4 sp sc sm tc hrB.cell
   have k5:=ci tg (hrB.cell 5)
   have k7:=ce (.int .u64 tw) (hrB.cell 7)
   repeat (go_big_quiet_step ((first | (go_at_call 59;exact zam (hcpp.out _)) | (go_at_call 119;exact zam (hput.out _)) | fail)))
   exact wpQuiet_nil rfl
  case refine_2=> exact zcz rfl (fun _ _=> by simp [go_sem]) fun Y hY2 hs=> (hsw.out Y hY2.wds).mono fun r Y' ⟨h1,h2,h3⟩=> ⟨h1,hY2.access h2 h3,h3.weak fun k hk=> by rcases hk with rfl | rfl;exact h0.ls.2.1;exact h0.ls.2.2⟩
  case refine_3=>
   intro a w4 M hf
   obtain ⟨rfl,hbig,hk1,_⟩:=hf
   have z14:=ce (.bool tgave) (hk1.cell 14)
   have zf:=hk1.free
   have hB:=hk1.set 14 (.bool g)
   simp only [zbb,vput,List.take,List.size_toArray,List.length_cons,List.length_nil,Nat.reduceAdd,Nat.reduceLT,decide_false,Bool.false_eq_true,if_false]
   go_wp2
   go_meet
   exact ⟨rfl,hB⟩
 case rest=>
  obtain ⟨rfl,hA⟩:=hcut
  clear h0 hsw hcpp hput c8 lq
  have z11:=ci tn (hA.cell 11)
  have z14:=ce (.bool g) (hA.cell 14)
  have z15:=ce (.bool tdone) (hA.cell 15)
  have zf:=hA.free
  go_wp2_with fail
  go_returns
  exact ⟨rfl,(hA.set 11 _).set 15 _,by first | rfl | trivial⟩
theorem zsz (q q2 p b:Nat) (s:Sh) (t:Fe) (m:Mem) (w:World) (h:FeAt w q q2 s t) (hw:zaq w p b m) (hqp:q≠p) (hqb:q≠b) (hn2:t.put≠none->q2≠p/\q2≠b) (hf:Fits s m) (hs:m.st < 1000000000) (hpg:0<=t.page/\t.page < s.p) (hk:t.pk=2) (hsl:0 < zah t.pa/\(0<=t.slot/\t.slot < zah t.pa)):
  Calls Tryz.prog 143 #[.pointer (some ⟨q,0,.none⟩),.pointer (some ⟨p,0,.none⟩)] w fun e w'=> zce q q2 p b t.put.isSome w w' e s (t.claim s m).1 (t.claim s m).2:=by
 have h0:At3 q p b w w (za7 s t (ptrV t.put q2)) 123 m:=At3.start h.row hw hqp hqb
 have hsr:=zdg hsl.1
 obtain ⟨hsx,hsh⟩:=hf.slot hpg (i:=t.slot) (by omega)
 have hcsl:=fun Y=> zbm s.p s.c s.m t.page t.slot Y
 rw [hsx] at hcsl
 have hpt:=fun Y=> zbl 3 t.pa Y
 have hpw:=fun Y=> zbl 2 t.c Y
 have htk:Hid (zfl t.pa=zc3 3 t.pa):=hd' rfl
 have hwy:Hid (wayW t.c=zc3 2 t.c):=hd' rfl
 rw [<- htk.out] at hpt
 rw [<- hwy.out] at hpw
 have hsw:=fun Y (hY:zaq Y p b m)=> zff p b m t.c (s.c + s.p + t.page * 16 + t.slot) (zfl t.pa) (wayW t.c) Y hY hsh (zch _ _) hs
 have hnp:=fun Y=> z00 s t.c t.page t.slot t.pa Y
 obtain ⟨r,hr⟩:∃ r,r=t.claim s m:=⟨_,rfl⟩
 rw [<- hr]
 unfold Fe.claim at hr
 rw [if_neg (by omega),hsx] at hr
 dsimp only at hr
 generalize s.c + s.p + t.page * 16 + t.slot=sa at *
 generalize zfl t.pa=tw3 at *
 generalize wayW t.c=ww at *
 generalize decide (m.get sa=tw3)=g at *
 generalize hnb:zg5 s t.c t.page t.slot t.pa=nb at *
 have hfinA:Hid (∀ Y,¬ t.pb=t.c->At3 q p b w Y (za7 s { t with gave:=g,next:=3,done:= !g } (ptrV t.put q2)) 123 (m.swap t.c sa tw3 ww)->zce q q2 p b t.put.isSome w Y (.returned (.tuple #[])) s r.1 r.2):=hd' fun Y hne hA=> by
  rw [hr,if_neg hne]
  exact zce.zoq h hn2 hA rfl
 have hfinB:Hid (∀ Y q3,t.pb=t.c->w.heap.size<=q3->zaa Y q3 (zeh s nb) 208->At3 q p b w Y (za7 s { (({ t with gave:=g,next:=2,put:=some nb }:Fe).kept) with done:= !g } (.pointer (some ⟨q3,0,.none⟩))) 123 (m.swap t.c sa tw3 ww)->zce q q2 p b t.put.isSome w Y (.returned (.tuple #[])) s r.1 r.2):=hd' fun Y q3 he h3 hrow hA=> by
  rw [hr,if_pos he]
  have hkp:(({ t with gave:=g,next:=2,put:=some nb }:Fe).kept).put=some nb:=by
   rcases zcv ({ t with gave:=g,next:=2,put:=some nb }:Fe) nb rfl with ⟨_,e⟩ | ⟨_,_,e⟩ | ⟨_,_,e⟩ <;> rw [e]
  refine ⟨rfl,⟨q3,⟨by show zaa Y q (za7 s _ (ptrV (({ t with gave:=g,next:=2,put:=some nb }:Fe).kept).put q3)) _;rw [hkp];exact hA.row,fun z hz=> ?_⟩,.inr h3⟩,hA.wds,hA.only.weak fun k hk=> ?_⟩
  ·have hz:(({ t with gave:=g,next:=2,put:=some nb }:Fe).kept).put=some z:=hz
   rw [hkp] at hz
   obtain rfl:=Option.some.inj hz
   exact ⟨hrow,by have:=h0.ls;omega⟩
  ·rcases hk with hk | hk | hk
   ·exact .inl hk
   ·exact .inr (.inr (.inl hk))
   ·exact .inr (.inr (.inr hk))
 have hkept:=fun Y q3 (hY:FeAt Y q q3 s { t with gave:=g,next:=2,put:=some nb })=> zoz q q3 s { t with gave:=g,next:=2,put:=some nb } nb Y hY rfl
 have hkg:(({ t with gave:=g,next:=2,put:=some nb }:Fe).kept).gave=g:=by
  rcases zcv ({ t with gave:=g,next:=2,put:=some nb }:Fe) nb rfl with ⟨_,e⟩ | ⟨_,_,e⟩ | ⟨_,_,e⟩ <;> rw [e]
 generalize hkk:(({ t with gave:=g,next:=2,put:=some nb }:Fe).kept)=tk at *
 replace hkg:=hd' hkg
 have hmid:Hid (∀ Y q3,zaa Y q3 (zeh s nb) 208->q≠q3->zaa Y q (za7 s { t with gave:=g,next:=2 } (.pointer (some ⟨q3,0,.none⟩))) 123->FeAt Y q q3 s { t with gave:=g,next:=2,put:=some nb }):=hd' fun Y q3 h1 h2 h3=> ⟨h3,fun z hz=> by
  simp only [Option.some.injEq] at hz
  subst hz
  exact ⟨h1,h2⟩⟩
 clear hr hnb hkk hsx hsh hpg hf htk hwy hsl hsr h hw hn2
 generalize ptrV t.put q2=pv at *
 generalize t.put.isSome=has at *
 generalize zeh s nb=ics at *
 obtain ⟨sp,sc,sm⟩:=s
 obtain ⟨tc,ta,tg,tl,tw,pk,pa,pb,tn,ti,tput,tgave,tdone⟩:=t
 dsimp only at hcsl hpt hpw hsw hnp hk hfinA hfinB hkept hmid ⊢
 subst hk
 replace hcsl:=hd' hcsl
 replace hpt:=hd' hpt
 replace hpw:=hd' hpw
 replace hsw:=hd' hsw
 replace hnp:=hd' hnp
 replace hkept:=hd' hkept
 have lq:=h0.lt
 have c8:=ci 2 (h0.cell 8)
 have c9:=ci pa (h0.cell 9)
 go_enter Tryz.func143,Tryz.ntmps143
 go_upto_region 4 with (first | (go_at_call 121;(with_reducible refine (hpt.out _).mono ?_);rintro r1 w1 ⟨rfl,hb1⟩;have hX:=h0.below hb1) | fail)
 clear c8 c9 lq
 go_cut [1] (fun s1 wx=> s1= .pointer (some ⟨p,0,.none⟩)/\At3 q p b w wx (za7 ⟨sp,sc,sm⟩ ⟨tc,ta,tg,tl,tw,2,pa,pb,tn,ti,tput,g,tdone⟩ pv) 123 (m.swap tc sa tw3 ww))
 case first=>
  refine zcx 29 (last:= { dst:=none,op:=Op.store 4 (Operand.tmp 77) (Operand.tmp 75),type:=0,pos:=_,after:=_,guard:=none }) (x:=zbb 90) (ld:=26) (v:= .bool g) (ts:= [50,54,67,68,74])
   (K0:=fun Y=> At3 q p b w Y (za7 ⟨sp,sc,sm⟩ ⟨tc,ta,tg,tl,tw,2,pa,pb,tn,ti,tput,tgave,tdone⟩ pv) 123 m) (K1:=fun Y=> At3 q p b w Y (za7 ⟨sp,sc,sm⟩ ⟨tc,ta,tg,tl,tw,2,pa,pb,tn,ti,tput,tgave,tdone⟩ pv) 123 (m.swap tc sa tw3 ww))
   (by kernel_rfl) rfl (by kernel_rfl) (by simp only [List.take,zbb,zfq,zej,nopO,nopC,Nat.reduceBEq,Bool.or_false,Bool.or_true,Bool.false_eq_true,↓reduceIte,Nat.reduceAdd];exact rfl) (by kernel_rfl) (by kernel_rfl) (by kernel_rfl) (by simp [zbb]) (by simp [zbb]) (by simp [zbb]) (by simp [zbb]) (by kernel_rfl) (by simp [zbb]) (by simp [zbb])
   ⟨⟨fun Y Y' h1 h2 h3=> h1.far h2 h3 hX.only.size⟩,⟨fun Y Y' h1 h2 h3=> h1.far h2 h3 hX.only.size⟩⟩ hX.drew ?_
  apply Exists.intro
  refine ⟨fun B hb hs=> ?_,fun h=> (by simp [zbb] at h),fun Q0=> ?_,?_⟩
  case refine_1=>
   have hrB:zaa B q (za7 ⟨sp,sc,sm⟩ ⟨tc,ta,tg,tl,tw,2,pa,pb,tn,ti,tput,tgave,tdone⟩ pv) 123:=hb.elim (fun h=> h.row) (fun h=> h.row)
   have lB:=hrB.lt
   obtain ⟨k0,k1,k2,k3⟩:=ci4 sp sc sm tc hrB.cell
   have k5:=ci tg (hrB.cell 5)
   have k6:=ci tl (hrB.cell 6)
   repeat (go_big_quiet_step ((first | (go_at_call 120;exact zam (hcsl.out _)) | (go_at_call 121;exact zam (hpw.out _)) | fail)))
   exact wpQuiet_nil rfl
  case refine_2=> exact zcz rfl (fun _ _=> by simp [go_sem]) fun Y hY2 hs=> (hsw.out Y hY2.wds).mono fun r Y' ⟨h1,h2,h3⟩=> ⟨h1,hY2.access h2 h3,h3.weak fun k hk=> by have:=hX.only.size;rcases hk with rfl | rfl;exact Nat.lt_of_lt_of_le h0.ls.2.1 this;exact Nat.lt_of_lt_of_le h0.ls.2.2 this⟩
  case refine_3=>
   intro a w4 M hf
   obtain ⟨rfl,hbig,hk1,_⟩:=hf
   have z14:=ce (.bool tgave) (hk1.cell 14)
   have zf:=hk1.free
   have hB:=hk1.set 14 (.bool g)
   simp only [zbb,vput,List.take,List.size_toArray,List.length_cons,List.length_nil,Nat.reduceAdd,Nat.reduceLT,decide_false,Bool.false_eq_true,if_false]
   go_wp2
   go_meet
   exact ⟨rfl,hB⟩
 case rest=>
  obtain ⟨rfl,hA⟩:=hcut
  have hls:=h0.ls
  clear h0 hsw hcsl hpt hpw hX hb1
  have z11:=ci tn (hA.cell 11)
  have zf:=hA.free
  go_upto_region 6 with fail
  have hB:=hA.set 11 (.int .i64 3)
  generalize World.setCell _ ⟨q,11,.none⟩ (.int .i64 3)=U at *
  clear hA z11 zf
  replace hB:At3 q p b w U (za7 ⟨sp,sc,sm⟩ ⟨tc,ta,tg,tl,tw,2,pa,pb,3,ti,tput,g,tdone⟩ pv) 123 (m.swap tc sa tw3 ww):=hB
  have lU:=hB.lt
  have z3:=ci tc (hB.cell 3)
  have z10:=ci pb (hB.cell 10)
  by_cases he:pb=tc
  ·replace hfinB:=hd' (fun Y q3=> hfinB.out Y q3 he)
   subst he
   clear hfinA
   go_quiet (fail)
   have hC:=hB.drewN nq
   clear hB z3 z10 lU
   generalize U.drewN nq=V at *
   go_upto_region 7 with fail
   have hS:=hd' (fun (Y:World) (v:Value) (h:zaa Y q (za7 ⟨sp,sc,sm⟩ ⟨pb,ta,tg,tl,tw,2,pa,pb,3,ti,tput,g,tdone⟩ v) 123)=> (⟨h.cell 0,h.cell 1,h.cell 2,h.cell 3,h.cell 5,h.cell 6,h.cell 9⟩:Y.cell? ⟨q,0,.none⟩=some (.int .i64 sp)/\Y.cell? ⟨q,1,.none⟩=some (.int .i64 sc)/\Y.cell? ⟨q,2,.none⟩=some (.int .i64 sm)/\Y.cell? ⟨q,3,.none⟩=some (.int .i64 pb)/\Y.cell? ⟨q,5,.none⟩=some (.int .i64 tg)/\Y.cell? ⟨q,6,.none⟩=some (.int .i64 tl)/\Y.cell? ⟨q,9,.none⟩=some (.int .i64 pa)))
   go_region_held3 (fun Y=> Y.cell? ⟨q,0,.none⟩=some (.int .i64 sp)/\Y.cell? ⟨q,1,.none⟩=some (.int .i64 sc)/\Y.cell? ⟨q,2,.none⟩=some (.int .i64 sm)/\Y.cell? ⟨q,3,.none⟩=some (.int .i64 pb)/\Y.cell? ⟨q,5,.none⟩=some (.int .i64 tg)/\Y.cell? ⟨q,6,.none⟩=some (.int .i64 tl)/\Y.cell? ⟨q,9,.none⟩=some (.int .i64 pa))
    (first | exact hS.out _ _ hC.row.drew | exact hS.out _ _ hD.row | exact hS.out _ _ ((hD.set 13 _).row.cast rfl) | fail)
    (first
     | (go_at_call 148;(with_reducible refine (hnp.out _).mono ?_);rintro r w6 ⟨q3,rfl,hq3,hrow3,hb6⟩;have hD:=hC.drew.below hb6;have z13:=hD.cell 13;have zf:=hD.free)
     | fail)
   have hE:=hD.set 13 (.pointer (some ⟨q3,0,.none⟩))
   have hq3n:q3≠q:=by have:=hC.lt;have hd:V.drew.heap.size=V.heap.size:=rfl;omega
   have hq3w:w.heap.size<=q3:=Nat.le_trans hC.only.size hq3
   have hrow4:=hrow3.other hq3n 13 (.pointer (some ⟨q3,0,.none⟩))
   generalize World.setCell w6 ⟨q,13,.none⟩ (.pointer (some ⟨q3,0,.none⟩))=T at *
   clear hD z13 zf hrow3 hb6 hC
   replace hE:At3 q p b w T (za7 ⟨sp,sc,sm⟩ ⟨pb,ta,tg,tl,tw,2,pa,pb,3,ti,tput,g,tdone⟩ (.pointer (some ⟨q3,0,.none⟩))) 123 (m.swap pb sa tw3 ww):=hE
   have z11:=ci 3 (hE.cell 11)
   have zf:=hE.free
   have hG:=hE.set 11 (.int .i64 2)
   have hrow5:=hrow4.other hq3n 11 (.int .i64 2)
   go_wp2_with (first
    | (go_at_call 141;refine (hkept.out _ q3 (hmid.out _ q3 hrow5 (fun e=> hq3n e.symm) (hG.row.cast rfl))).mono ?_;rintro r w7 hT;obtain rfl:=hT.ret;have hJ:=hG.turned hT;have hrow6:=hrow5.only hT.only hq3n;have y14:w7.cell? ⟨q,14,.none⟩=some (.bool g):=(by rw [<- hkg.out];exact hJ.cell 14);have y15:=ce (.bool tk.done) (hJ.cell 15);have yf:=hJ.free)
    | fail)
   go_returns
   exact hfinB.out _ q3 hq3w (hrow6.other hq3n _ _) (hJ.set 15 _)
  ·replace hfinA:=hd' (fun Y=> hfinA.out Y he)
   have heb:(pb==tc)=false:=by simpa using he
   clear he hfinB hkept hnp
   go_quiet (fail)
   have hC:=hB.drewN nq
   clear hB z3 z10 lU
   generalize U.drewN nq=V at *
   have k14:=ce (.bool g) (hC.cell 14)
   have k15:=ce (.bool tdone) (hC.cell 15)
   have zf:=hC.free
   go_wp2_with fail
   go_returns
   exact hfinA.out _ (hC.set 15 _)
theorem zyu (q q2 p b:Nat) (s:Sh) (t:Fe) (m:Mem) (w:World) (h:FeAt w q q2 s t) (hw:zaq w p b m) (hqp:q≠p) (hqb:q≠b) (hn2:t.put≠none->q2≠p/\q2≠b) (hf:Fits s m) (ho:feOk s t) (hs:m.st < 1000000000):
  Calls Tryz.prog 140 #[.pointer (some ⟨q,0,.none⟩),.pointer (some ⟨p,0,.none⟩)] w fun e w'=> zce q q2 p b t.put.isSome w w' e s (zca s t m).1 (zca s t m).2:=by
 rcases Bool.eq_false_or_eq_true t.done with hd | hd
 ·have hr:zca s t m=(t,m):=by unfold zca;rw [if_pos hd]
  rw [hr]
  dsimp only
  have c15:w.cell? ⟨q,15,.none⟩=some (.bool true):=by rw [<- hd];exact h.row.cell 15
  have hfin:zce q q2 p b t.put.isSome w w (.returned (.tuple #[])) s t m:=⟨rfl,⟨q2,h,.inl ⟨rfl,isSome_none⟩⟩,hw,Only.refl _ _⟩
  replace hfin:=hd' hfin
  clear h hw hd hr ho hf hn2
  go_enter Tryz.func140,Tryz.ntmps140
  go_wp2_with fail
  go_returns
  exact hfin.out
 obtain ⟨c1,c2,c3,c4,c5,c6,c7,c8,c9,c10⟩:=ho.cl hd
 have h0:At3 q p b w w (za7 s t (ptrV t.put q2)) 123 m:=At3.start h.row hw hqp hqb
 have hfin:Hid (∀ Y (t':Fe) m',t'.put=t.put->At3 q p b w Y (za7 s t' (ptrV t.put q2)) 123 m'->zce q q2 p b t.put.isSome w Y (.returned (.tuple #[])) s t' m'):=hd' fun Y t' m' e hA=> zce.zoq h hn2 (by rw [e];exact hA) e
 have d15:w.cell? ⟨q,15,.none⟩=some (.bool false):=by rw [<- hd];exact h.row.cell 15
 have d11:=ci t.next (h.row.cell 11)
 obtain ⟨r,hr⟩:∃ r,r=zca s t m:=⟨_,rfl⟩
 rw [<- hr]
 unfold zca at hr
 rw [if_neg (by rw [hd];decide)] at hr
 by_cases n0:t.next=0
 ·rw [if_pos n0] at hr
  have hlk:=hd' (zy7 q p b s t (ptrV t.put q2) m w h0 hf hs c2 c3)
  have hlp:(t.look s m).1.put=t.put:=by unfold Fe.look;dsimp only;split <;> (try split) <;> rfl
  have hfin2:Hid (∀ Y,At3 q p b w Y (za7 s (t.look s m).1 (ptrV t.put q2)) 123 (t.look s m).2->zce q q2 p b t.put.isSome w Y (.returned (.tuple #[])) s r.1 r.2):=hd' fun Y hA=> by rw [hr];exact hfin.out Y _ _ hlp hA
  rw [n0] at d11
  clear hr hfin c1 c2 c3 c4 c5 c6 c7 c8 c9 c10 ho hf h hw hn2 n0 hd hlp
  generalize t.look s m=lk at *
  go_enter Tryz.func140,Tryz.ntmps140
  go_wp2_with (first | (go_at_call 142;(with_reducible refine hlk.out.mono ?_);rintro r1 w1 ⟨rfl,hA⟩) | fail)
  go_returns
  exact hfin2.out _ hA
 rw [if_neg n0] at hr
 by_cases n1:t.next=1
 ·rw [if_pos n1] at hr
  rw [n1] at d11
  have c7:=c7 n1
  rcases c6 (by omega) with ⟨hk,_⟩ | ⟨hk,hk2⟩
  ·have hcl:=hd' (zpj q p b s t (ptrV t.put q2) m w h0 hf hs c2 hk c7)
   have hfin2:Hid (∀ Y,At3 q p b w Y (za7 s (t.claim s m).1 (ptrV t.put q2)) 123 (t.claim s m).2/\(t.claim s m).1.put=t.put->zce q q2 p b t.put.isSome w Y (.returned (.tuple #[])) s r.1 r.2):=hd' fun Y hA=> by rw [hr];exact hfin.out Y _ _ hA.2 hA.1
   clear hr hfin c1 c2 c3 c4 c5 c6 c7 c8 c9 c10 ho hf h hw hn2 n0 n1 hd hk
   generalize t.claim s m=lk at *
   go_enter Tryz.func140,Tryz.ntmps140
   go_wp2_with (first | (go_at_call 143;(with_reducible refine hcl.out.mono ?_);rintro r1 w1 ⟨rfl,hA⟩) | fail)
   go_returns
   exact hfin2.out _ hA
  ·have hcl:=hd' (zsz q q2 p b s t m w h hw hqp hqb hn2 hf hs c2 hk hk2)
   rw [<- hr] at hcl
   clear hr hfin c1 c2 c3 c4 c5 c6 c7 c8 c9 c10 ho hf h hw hn2 n0 n1 hd hk hk2
   go_enter Tryz.func140,Tryz.ntmps140
   go_wp2_with (first | (go_at_call 143;(with_reducible refine hcl.out.mono ?_);rintro r1 w1 hS;obtain rfl:=hS.ret) | fail)
   go_returns
   exact hS
 rw [if_neg n1] at hr
 by_cases n2:t.next=2
 ·rw [if_pos n2] at hr
  rw [n2] at d11
  obtain ⟨hk,x,hx,hxo,hxd⟩:=c8 n2
  rw [hx] at hr
  dsimp only at hr
  obtain ⟨hin,hne⟩:=h.inn x hx
  have hnn:=hn2 (by rw [hx];exact fun e=> by cases e)
  have hst:=zxz q2 p b s x m w hin hw hnn.1 hnn.2 hf hxo hs
  have hrow0:=h.row
  rw [hx] at hrow0
  have d13:=ce (.pointer (some ⟨q2,0,.none⟩)) (hrow0.cell 13)
  generalize zd3 s x m=ym at *
  obtain ⟨y,m2⟩:=ym
  dsimp only at hst hr
  have hkept:=hd' (fun Y (hY:FeAt Y q q2 s { t with put:=some y })=> zoz q q2 s { t with put:=some y } y Y hY rfl)
  have hmid:Hid (∀ Y e,Stepped q2 p b w Y e (zeh s y) 208 m2->FeAt Y q q2 s { t with put:=some y }):=hd' fun Y e hS=> ⟨hrow0.only hS.only (by rintro (e | e | e);exact hne e;exact hqp e;exact hqb e),fun z hz=> by
   simp only [Option.some.injEq] at hz
   subst hz
   exact ⟨hS.row,hne⟩⟩
  have hkp:(({ t with put:=some y }:Fe).kept).put=some y:=by
   rcases zcv ({ t with put:=some y }:Fe) y rfl with ⟨_,e⟩ | ⟨_,_,e⟩ | ⟨_,_,e⟩ <;> rw [e]
  have hend:Hid (∀ Y e Z e2,Stepped q2 p b w Y e (zeh s y) 208 m2->Turned q Y Z e2 (za7 s (({ t with put:=some y }:Fe).kept) (.pointer (some ⟨q2,0,.none⟩))) 123->zce q q2 p b t.put.isSome w Z (.returned (.tuple #[])) s r.1 r.2):=hd' fun Y e Z e2 hS hA=> by
   rw [hr]
   refine ⟨rfl,⟨q2,⟨by show zaa Z q (za7 s _ (ptrV (({ t with put:=some y }:Fe).kept).put q2)) _;rw [hkp];exact hA.row,fun z hz=> ?_⟩,.inl ⟨rfl,fun e=> by rw [hx] at e;cases e⟩⟩,hS.wds.only hA.only (fun e=> hqp e.symm) (fun e=> hqb e.symm),?_⟩
   ·have hz:(({ t with put:=some y }:Fe).kept).put=some z:=hz
    rw [hkp] at hz
    obtain rfl:=Option.some.inj hz
    exact ⟨hS.row.only hA.only (fun e=> hne e.symm),hne⟩
   ·refine (hS.only.weak (G:=fun k=> k=q\/(t.put.isSome=true/\k=q2)\/k=p\/k=b) fun k e=> ?_).trans hA.only (fun _ _ e=> .inl e)
    rcases e with e | e | e
    ·exact .inr (.inl ⟨by rw [hx];rfl,e⟩)
    ·exact .inr (.inr (.inl e))
    ·exact .inr (.inr (.inr e))
  replace hst:=hd' hst
  clear hr hfin h0 c1 c2 c3 c4 c5 c6 c7 c8 c9 c10 ho hf h hw n0 n1 n2 hin hxo hxd hrow0 hnn hn2 hkp hd hk
  generalize ({ t with put:=some y }:Fe).kept=t2 at *
  go_enter Tryz.func140,Tryz.ntmps140
  go_wp2_with (first
   | (go_at_call 144;(with_reducible refine hst.out.mono ?_);rintro r1 w1 hS;obtain rfl:=hS.ret)
   | (go_at_call 141;refine (hkept.out _ (hmid.out _ _ hS)).mono ?_;rintro r2 w2 hT;obtain rfl:=hT.ret)
   | fail)
  go_returns
  exact hend.out _ _ _ _ hS hT
 rw [if_neg n2] at hr
 by_cases n3:t.next=3
 ·rw [if_pos n3] at hr
  rw [n3] at d11
  have hk:=c9 n3
  have hsl:0 < zah t.pa/\(0<=t.slot/\t.slot < zah t.pa):=by rcases c6 (by omega) with h1 | h1;omega;exact h1.2
  have hsr:=zdg hsl.1
  obtain ⟨hsx,hsh⟩:=hf.slot c2 (i:=t.slot) (by omega)
  have hcsl:=fun Y=> zbm s.p s.c s.m t.page t.slot Y
  rw [hsx] at hcsl hr
  have hput:=fun Y=> zbl 1 t.pa Y
  have htk:Hid (zc8 t.pa=zc3 1 t.pa):=hd' rfl
  rw [<- htk.out] at hput
  have hst:=fun Y (hY:zaq Y p b m)=> zba p b m t.c (s.c + s.p + t.page * 16 + t.slot) (zc8 t.pa) Y hY hsh (zch _ _) hs
  generalize s.c + s.p + t.page * 16 + t.slot=sa at *
  generalize zc8 t.pa=ow at *
  have hfin2:Hid (∀ Y,At3 q p b w Y (za7 s { t with done:=true } (ptrV t.put q2)) 123 (m.store t.c sa ow)->zce q q2 p b t.put.isSome w Y (.returned (.tuple #[])) s r.1 r.2):=hd' fun Y hA=> by rw [hr];exact hfin.out Y _ _ rfl hA
  clear hr hfin c1 c2 c3 c4 c5 c6 c7 c8 c9 c10 ho hf h hw hn2 n0 n1 n2 hk hsl hsr hsx hsh htk d11 d15
  generalize ptrV t.put q2=pv at *
  generalize t.put.isSome=has at *
  obtain ⟨sp,sc,sm⟩:=s
  obtain ⟨tc,ta,tg,tl,tw,pk,pa,pb,tn,ti,tput,tgave,tdone⟩:=t
  dsimp only at hcsl hput hst hfin2 n3 hd ⊢
  subst n3 hd
  replace hcsl:=hd' hcsl
  replace hput:=hd' hput
  replace hst:=hd' hst
  have lq:=h0.lt
  obtain ⟨c0,c1,c2,c3,c4,c5,c6⟩:=ci7 sp sc sm tc ta tg tl h0.cell
  have c7:=ce (.int .u64 tw) (h0.cell 7)
  have c8:=ci pk (h0.cell 8)
  have c9:=ci pa (h0.cell 9)
  have c10:=ci pb (h0.cell 10)
  have c11:=ci 3 (h0.cell 11)
  have c12:=ci ti (h0.cell 12)
  have c13:=ce (pv) (h0.cell 13)
  have c14:=ce (.bool tgave) (h0.cell 14)
  have c15:=ce (.bool false) (h0.cell 15)
  go_enter Tryz.func140,Tryz.ntmps140
  go_upto_region 10 with fail
  refine zad 25 (by kernel_rfl) (by kernel_rfl) ?_
  dsimp only [List.take,List.drop]
  repeat (go_big_quiet_step ((first | (go_at_call 120;exact zam (hcsl.out _)) | (go_at_call 121;exact zam (hput.out _)) | fail)))
  refine wpQuiet_nil ?_
  rintro _ ⟨e',rfl⟩
  have hZ:=h0.below e'.below
  generalize e'.w=Z at *
  change wpList _ _ _ _ _ Z
  clear c0 c1 c2 c3 c4 c5 c6 c7 c8 c9 c10 c11 c12 c13 c14 c15 h0 lq
  go_wp2_with (first | (go_at_call 118;(with_reducible refine (hst.out _ hZ.wds).mono ?_);rintro r1 w2 ⟨rfl,hw2,ho2⟩;have hA:=hZ.access hw2 ho2;have z15:=ce (.bool false) (hA.cell 15);have zf:=hA.free) | fail)
  go_returns
  exact hfin2.out _ (hA.set 15 _)
 rw [if_neg n3] at hr
 have n4:t.next=4:=by omega
 rw [n4] at d11
 have c10:=c10 n4
 have hpa:1<=t.pa/\t.pa<=8/\t.pa<=s.p - t.page:=by rcases c6 (by omega) with h1 | h1;exact h1.2;omega
 have hem:=hd' (zvp q p b s t (ptrV t.put q2) m w h0 hf hs c2 hpa c10.2)
 have hr1:r.1=if t.i=t.pa - 1 then { t with done:=true } else { t with i:=t.i + 1 }:=by rw [hr];split <;> rfl
 have hr2:r.2=if t.i=t.pa - 1 then m.store t.c (zak s.p s.c s.m t.page) 0 else m.store t.c (zak s.p s.c s.m (t.page + t.i + 1)) 0:=by rw [hr];split <;> rfl
 rw [<- hr1,<- hr2] at hem
 have hrp:r.1.put=t.put:=by rw [hr1];split <;> rfl
 have hfin2:Hid (∀ Y,At3 q p b w Y (za7 s r.1 (ptrV t.put q2)) 123 r.2->zce q q2 p b t.put.isSome w Y (.returned (.tuple #[])) s r.1 r.2):=hd' fun Y hA=> hfin.out Y _ _ hrp hA
 clear hr hr1 hr2 hrp hfin c1 c2 c3 c4 c5 c6 c7 c8 c9 c10 ho hf h hw hn2 n0 n1 n2 n3 n4 hd hpa
 go_enter Tryz.func140,Tryz.ntmps140
 go_wp2_with (first | (go_at_call 145;(with_reducible refine hem.out.mono ?_);rintro r1 w1 ⟨rfl,hA⟩) | fail)
 go_returns
 exact hfin2.out _ hA
end Go.Proofs.YthgekdlegbmehaaGreat
