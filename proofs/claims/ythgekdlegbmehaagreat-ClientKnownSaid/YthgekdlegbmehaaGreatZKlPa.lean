/- A block's freeing over words that lack the page's word: the access dies. -/
import Derived.Test.YthgekdlegbmehaaGreatBq33

set_option linter.all false
set_option maxHeartbeats 1000000
set_option maxRecDepth 100000
namespace Go.Proofs.YthgekdlegbmehaaGreat

open Go.RowKit

attribute [local go_sem ↓] Go.wp_at_zero Go.wp_at_succ

def noWord:List PanicEntry:= [{ v:= .iface 9 (.string ⟨#[110,111,32,115,117,99,104,32,119,111,114,100]⟩),recovered:=false }]
theorem win_no (p b:Nat) (m:Mem) (a:Int) (w:World) (h:zaq w p b m) (ha:¬ m.has a):
  Calls Tryz.prog 46 #[.pointer (some ⟨p,0,.none⟩),.int .i64 a] w fun e w'=> e= .returned (.bool false)/\w'=w:=by
 obtain ⟨n,hn,hn'⟩:=hidv m.ws.length
 have x0:w.cell? ⟨p,0,.none⟩=some (.slice (some ⟨b,0,.none⟩) n n):=by rw [hn'];exact zac h.blk 0
 by_cases a0:(0:Int)<=a
 ·have a1:¬ a < (n:Int):=fun e=> ha ⟨a0,by rw [<- hn'];exact e⟩
  clear hn' h ha
  go_enter Tryz.func46,Tryz.ntmps46
  go_wp2_with fail
  go_ret
  exact ⟨rfl,rfl⟩
 ·clear hn' h ha
  go_enter Tryz.func46,Tryz.ntmps46
  go_wp2_with fail
  go_ret
  exact ⟨rfl,rfl⟩
theorem wmust_no (p b:Nat) (m:Mem) (a:Int) (w:World) (h:zaq w p b m) (ha:¬ m.has a):
  Calls Tryz.prog 134 #[.pointer (some ⟨p,0,.none⟩),.int .i64 a] w fun e w'=> e= .panicked noWord/\w'=w:=by
 have h1:=hd' (win_no p b m a w h ha)
 clear h ha
 go_enter Tryz.func134,Tryz.ntmps134
 go_wp2_with (go_at_call 46;refine h1.out.mono ?_;rintro r w1 ⟨rfl,rfl⟩)
 exact ⟨rfl,rfl,rfl⟩
theorem wload_no (p b:Nat) (m:Mem) (c a:Int) (w:World) (h:zaq w p b m) (ha:¬ m.has a):
  Calls Tryz.prog 123 #[.pointer (some ⟨p,0,.none⟩),.int .i64 c,.int .i64 a] w fun e w'=> e= .panicked noWord/\w'=w:=by
 have h1:=hd' (wmust_no p b m a w h ha)
 clear h ha
 go_enter Tryz.func123,Tryz.ntmps123
 go_wp2_with (go_at_call 134;refine h1.out.mono ?_;rintro r w1 ⟨rfl,rfl⟩)
 exact ⟨rfl,rfl,rfl⟩
section

variable {P:Program} {last:Oper} {Q:Exit->Act->World->Prop}

def calmQ (Q:Exit->Act->World->Prop):Exit->Act->World->Prop
 | .panic c,a,w=> a.defers= []->Q (.panic c) a w
 | e,a,w=> Q e a w
def NoDef (P:Program) (s:Sem Next):Prop:=∀ w d w',s.run P w≠ .ok (.defer d) w'
theorem noDef_bind {α:Type} {s:Sem α} {f:α->Sem Next} (h:∀ x,NoDef P (f x)):NoDef P (s >>=f):=fun w d w' e=> by
 rw [Sem.run_bind] at e
 cases hs:s.run P w with
 | ok x w1=> rw [hs] at e;exact h x w1 d w' e
 | halt x w1=> rw [hs] at e;cases e
theorem noDef_value (v:Value):NoDef P (Pure.pure (Next.value v)):=fun w d w' e=> by cases e
theorem noDef_halt {s:Sem Next} (h:∀ w w' n,s.run P w≠ .ok n w'):NoDef P s:=fun w d w' e=> h _ _ _ e
theorem noDef_skip:NoDef P (Pure.pure Next.skip):=fun w d w' e=> by cases e
def plainO (fs:List FuncId) (o:Oper):Bool:=match o.op with
 | .move _ | .assign _ | .load _ _ | .fieldAddr _ _ _ | .store _ _ _ | .nilCheck _=> true
 | .call c=> match c.callee with | .value (.func f)=> fs.contains f | _=> false
 | _=> false
theorem put_defers (a:Act) (x:Option Tmp) (v:Value):(a.put x v).defers=a.defers:=by cases x <;> rfl
theorem wpAny_calm {md:Region.Mode} {ops:Array Oper} (hno:∀ (i:Nat) (o:Oper),ops[i]?=some o->∀ a:Act,NoDef P (execOp a.eval o)):∀ (fuel:Nat) (listed:Array Bool) (a:Act) (w:World),a.defers= []->wpAny P md ops (calmQ Q) fuel listed a w->wpAny P md ops Q fuel listed a w:=by
 intro fuel
 induction fuel with
 | zero=> intro listed a w _ h;exact h
 | succ fuel ih=>
  intro listed a w hd h
  refine ⟨h.1,fun i hi=> ?_⟩
  have h2:=h.2 i hi
  unfold wpOp at h2 ⊢
  cases ho:ops[i]? with
  | none=> rw [ho] at h2;exact ih _ _ _ hd h2
  | some o=>
   rw [ho] at h2
   dsimp only at h2 ⊢
   split at h2
   ·rename_i hw
    rw [if_pos hw]
    rcases h2 with h2 | ⟨h2,h3⟩
    ·left
     unfold Oper.wp at h2 ⊢
     have hn:=hno i o ho a w
     generalize (execOp a.eval o).run P w=r at *
     match r,h2 with
     | .ok (.value v) w',h2=> exact ih _ _ _ ((put_defers _ _ _).trans hd) h2
     | .ok .skip w',h2=> exact ih _ _ _ ((put_defers _ _ _).trans hd) h2
     | .ok (.defer d) w',_=> exact absurd rfl (hn d w')
     | .ok (.enter f args) w',h2=>
      refine Calls.mono h2 fun e w'' he=> ?_
      match e,he with
      | .returned v,he=> exact ih _ _ _ ((put_defers _ _ _).trans hd) he
      | .panicked chain,he=> exact he hd
      | .outgrown,he=> exact he
     | .ok (.row row args) w',h2=> exact Rows.mono h2 fun v w'' he=> ih _ _ _ ((put_defers _ _ _).trans hd) he
     | .halt (.panic v) w',h2=> exact h2 hd
    ·exact .inr ⟨h2,h3⟩
   ·rename_i hw
    rw [if_neg hw]
    exact ih _ _ _ ((put_defers _ _ _).trans hd) h2
theorem wp_region_dies_last {id:Nat} {a:Act} {W:World} {x:zd0} {ld:Nat} {v:Value} {K0:World->Prop} {l l':List Oper} {ts:List Nat} (n:Nat) (hm:P.follows .mixedOrders=true) (hd:l.drop n= [last]) (hla:lastB (l.take n) last=true)
  (hl:zfq x ld v 0 (l.take n)=l') (hB:Region.lexB .any l'.toArray=true) (hf:zrg (l.take n).toArray x ld=true) (hsel:Region.noSelect (l.take n).toArray=true)
  (hn:x.al≠x.st/\x.al≠ld/\x.st≠ld/\x.src≠x.d) (hin:ld < (l.take n).toArray.size/\(x.al < (l.take n).toArray.size↔x.st < (l.take n).toArray.size)) (hso:x.so≠x.al/\x.so≠x.st) (hno:¬ x.al < (l.take n).toArray.size) (hw:zsq (l.take n).toArray x ld ts=true) (hts:x.d ∉ ts) (hfit:x.d < a.tmps.size)
  (hc:zn6 W K0) (h0:K0 W.drew) (had:a.defers= []) (hnd:∀ (i:Nat) (o:Oper),l.toArray[i]?=some o->∀ a:Act,NoDef P (execOp a.eval o))
  (hall:∃ aF,(∀ B,K0 B->W.heap.size<=B.heap.size->wpQuiet P l'.toArray (fun w'=> ∃ e:Ext B,w'=e.w) (fun a'=> a'=aF) l' a)/\∀ Q0:Exit->Act->World->Prop,(∀ e a w,e≠ .normal->calmQ Q e a w->Q0 e a w)->zij P (l.take n) Q0 aF W ld v ts K0 (fun _=> False)):(Code.region id l.toArray true).wp P Q a W:=by
 have hll:l=l.take n ++ [last]:=by rw [<- hd,List.take_append_drop]
 obtain ⟨aF,h1,h3⟩:=hall
 generalize hl0:l.take n=l0 at *
 subst hll
 have hz:(l0 ++ [last]).toArray.size=l0.toArray.size + 1:=by simp
 have h5:=zqg (P:=P) (Q:=fun e a w=> match e with | .normal=> wpList P (l0 ++ [last]).toArray (calmQ Q) [last] a w | e=> calmQ Q e a w) hl hB hf hsel hn hin hso (fun h=> absurd h hno) hw hts hfit ⟨hc,⟨fun _ _ h=> h.elim⟩⟩ h0 ⟨aF,fun B hb=> h1 B (hb.elim (fun e=> e) (fun e=> e.elim)),fun h=> absurd h hno,h3 _ (fun e a w hne hq=> by cases e <;> first | exact absurd rfl hne | exact hq),fun a w M hf=> hf.k1.elim⟩
 have h6:=zkz (P:=P) (Q:=calmQ Q) hla (fun e a w hne hq=> by cases e <;> first | exact absurd rfl hne | exact hq) (fun a w hq=> ?_) l0.toArray.size (Array.replicate l0.toArray.size false) a W.drew (by simp) (fun k o _ hk=> by rw [getD_replicate_false] at hk;cases hk) h5
 ·refine wp_region_any hm (wpAny_calm hnd _ _ _ _ had ?_)
  rw [hz]
  have hr:(Array.replicate l0.toArray.size false).push false=Array.replicate (l0.toArray.size + 1) false:=by rw [Array.replicate_succ]
  rw [<- hr]
  exact h6
 ·unfold wpOp
  rw [zhz]
  exact hq
end

theorem dies_step {P:Program} {l:List Oper} {Q:Exit->Act->World->Prop} {aF:Act} {W:World} {ld:Nat} {v:Value} {ts:List Nat} {K0:World->Prop} {chain:List PanicEntry} {f:FuncId} {dst:Option Tmp} {aty:Array TypeId} {ty:TypeId} {pos:String} {af:Array Edge}
  (h1:l.toArray[ld]?=some { dst:=dst,op:= .call { callee:= .value (.func f),args:=(ts.map Operand.tmp).toArray,argTypes:=aty },type:=ty,pos:=pos,after:=af,guard:=none })
  (hcf:∀ args w,(callFunc f args).run P w= .ok (.enter f args) w)
  (h2:∀ w,K0 w->W.heap.size<=w.heap.size->Calls P f (ts.map fun t=> aF.eval (.tmp t)).toArray w fun r w'=> r= .panicked chain/\∀ a,Q (.panic chain) a w'):zij P l Q aF W ld v ts K0 (fun _=> False):=by
 refine ⟨_,h1,fun a w K hk hs he hK=> ?_⟩
 unfold wpOp
 rw [h1]
 simp only [Region.wanted,if_true]
 left
 have hargs:((ts.map Operand.tmp).toArray).map a.eval=(ts.map fun t=> aF.eval (.tmp t)).toArray:=by
  simp only [List.map_toArray,List.map_map]
  congr 1
  exact List.map_congr_left fun t ht=> he t ht
 have h3:=h2 w hk hs
 rw [<- hargs] at h3
 have he1:(execOp a.eval { dst:=dst,op:= .call { callee:= .value (.func f),args:=(ts.map Operand.tmp).toArray,argTypes:=aty },type:=ty,pos:=pos,after:=af,guard:=none }).run P w= .ok (.enter f (((ts.map Operand.tmp).toArray).map a.eval)) w:=by
  have:=hcf (((ts.map Operand.tmp).toArray).map a.eval) w
  simp only [List.map_toArray,List.map_map] at this
  simp [go_sem,this]
 unfold Oper.wp
 rw [he1,Oper.upon_enter]
 refine h3.mono ?_
 rintro r w' ⟨rfl,k1⟩
 exact k1 _
theorem plainO_calm {P:Program} {fs:List FuncId} {o:Oper} (h:plainO fs o=true) (hcf:∀ f ∈ fs,∀ args w,(callFunc f args).run P w= .ok (.enter f args) w) (a:Act):NoDef P (execOp a.eval o):=by
 unfold plainO at h
 unfold execOp
 dsimp only
 split at h
 ·next hop=> rw [hop];exact noDef_value _
 ·next hop=> rw [hop];exact noDef_value _
 ·next hop=> rw [hop];exact noDef_bind fun _=> noDef_value _
 ·next hop=> rw [hop];exact noDef_bind fun _=> noDef_value _
 ·next hop=> rw [hop];exact noDef_bind fun _=> noDef_skip
 ·next hop=>
  rw [hop]
  dsimp only
  split
  ·exact noDef_halt (fun _ _ _ e=> by simp [go_sem] at e)
  ·exact noDef_halt (fun _ _ _ e=> by simp [go_sem] at e)
  ·exact noDef_halt (fun _ _ _ e=> by simp [go_sem] at e)
  ·split
   ·exact noDef_halt (fun _ _ _ e=> by simp [go_sem] at e)
   ·refine noDef_bind fun _=> noDef_bind fun _=> ?_
    split
    ·exact noDef_bind fun _=> noDef_value _
    ·exact noDef_value _
   ·exact noDef_value _
  ·exact noDef_value _
 ·next c hop=>
  rw [hop]
  dsimp only
  split at h
  ·next f hc=>
   intro w d w' e
   have h2:=hcf f (by simpa using h)
   simp only [Sem.run_bind] at e
   unfold resolve at e
   rw [hc] at e
   simp [go_sem,h2] at e
  ·cases h
 ·cases h
theorem nodef_list {P:Program} {fs:List FuncId} {l:List Oper} (h:l.all (plainO fs)=true) (hcf:∀ f ∈ fs,∀ args w,(callFunc f args).run P w= .ok (.enter f args) w):∀ (i:Nat) (o:Oper),l.toArray[i]?=some o->∀ a:Act,NoDef P (execOp a.eval o):=fun i o ho a=>
 plainO_calm (List.all_eq_true.1 h o (List.mem_of_getElem? (by simpa using ho:l[i]?=some o))) hcf a
theorem felook_no (q p b:Nat) (s:Sh) (t:Fe) (pv:Value) (m:Mem) (w:World) (h0:At3 q p b w w (za7 s t pv) 123 m) (hno:∀ a,¬ m.has a) (hsp:spB s t.a=true):
  Calls Tryz.prog 142 #[.pointer (some ⟨q,0,.none⟩),.pointer (some ⟨p,0,.none⟩)] w fun e w'=> e= .panicked noWord/\At3 q p b w w' (za7 s t pv) 123 m:=by
 have hsplit:=fun Y=> zxk s t.a Y
 rw [hsp,if_pos rfl,if_pos rfl] at hsplit
 have hcpp:=fun Y=> planPage_any s.p s.c s.m t.page Y
 have hlp:=fun pga Y (hY:zaq Y p b m)=> wload_no p b m t.c pga Y hY (hno pga)
 clear hsp hno
 generalize t.a % 64=off at *
 generalize t.a / 64=qu at *
 obtain ⟨sp,sc,sm⟩:=s
 obtain ⟨tc,ta,tg,tl,tw,pk,pa,pb,tn,ti,tput,tgave,tdone⟩:=t
 dsimp only at hsplit hcpp hlp ⊢
 generalize zak sp sc sm tg=pga at hcpp
 replace hlp:=hlp pga
 replace hsplit:=hd' hsplit
 replace hcpp:=hd' hcpp
 replace hlp:=hd' hlp
 have lq:=h0.lt
 obtain ⟨c0,c1,c2,c3,c4⟩:=ci5 sp sc sm tc ta h0.cell
 go_enter Tryz.func142,Tryz.ntmps142
 go_upto_region 0 with fail
 refine zaj (by kernel_rfl) (by kernel_rfl) ?_
 repeat (go_big_quiet_step ((first | (go_at_call 35;exact zam (hsplit.out _)) | fail)))
 refine wpQuiet_nil ?_
 rintro _ ⟨e',rfl⟩
 have hX:=h0.below e'.below
 generalize e'.w=X at *
 clear c0 c1 c2 c3 c4 lq
 go_upto_region 1 with fail
 refine wp_region_dies_last 18 (last:= { dst:=none,op:=Op.store 67 (Operand.tmp 39) (Operand.tmp 37),type:=0,pos:=_,after:=_,guard:=none }) (x:=zbb 60) (ld:=15) (v:= .int .u64 0) (ts:= [23,27,36])
  (K0:=fun Y=> At3 q p b w Y (za7 ⟨sp,sc,sm⟩ ⟨tc,ta,tg,tl,tw,pk,pa,pb,tn,ti,tput,tgave,tdone⟩ pv) 123 m)
  (by kernel_rfl) rfl (by kernel_rfl) (by simp only [List.take,zbb,zfq,zej,nopO,nopC,Nat.reduceBEq,Bool.or_false,Bool.or_true,Bool.false_eq_true,↓reduceIte,Nat.reduceAdd];exact rfl) (by kernel_rfl) (by kernel_rfl) (by kernel_rfl) (by simp [zbb]) (by simp [zbb]) (by simp [zbb]) (by simp [zbb]) (by kernel_rfl) (by simp [zbb]) (by simp [zbb])
  ⟨fun Y Y' h1 h2 h3=> h1.far h2 h3 hX.only.size⟩ hX.drew rfl ?nd ?_
 case nd=> exact nodef_list (fs:= [59,123]) (by kernel_rfl) (fun f hf args w=> by simp only [List.mem_cons,List.not_mem_nil,or_false] at hf;rcases hf with rfl | rfl <;> simp [go_sem])
 apply Exists.intro
 refine ⟨fun B hb hs=> ?_,fun Q0 hq=> ?_⟩
 ·have hrB:zaa B q (za7 ⟨sp,sc,sm⟩ ⟨tc,ta,tg,tl,tw,pk,pa,pb,tn,ti,tput,tgave,tdone⟩ pv) 123:=hb.row
  have lB:=hrB.lt
  obtain ⟨k0,k1,k2,k3⟩:=ci4 sp sc sm tc hrB.cell
  have k5:=ci tg (hrB.cell 5)
  repeat (go_big_quiet_step ((first | (go_at_call 59;exact zam (hcpp.out _)) | fail)))
  exact wpQuiet_nil rfl
 ·exact dies_step rfl (fun _ _=> by simp [go_sem]) fun Y hY2 hs=> (hlp.out Y hY2.wds).mono fun r Y' ⟨h1,h2⟩=> ⟨h1,fun a=> hq _ _ _ (fun e=> by cases e) (fun hd=> by subst h2;exact ⟨hd,rfl,hY2⟩)⟩
theorem festep_no (q p b:Nat) (s:Sh) (t:Fe) (pv:Value) (m:Mem) (w:World) (h0:At3 q p b w w (za7 s t pv) 123 m) (hno:∀ a,¬ m.has a) (hsp:spB s t.a=true) (hd:t.done=false) (hn:t.next=0):
  Calls Tryz.prog 140 #[.pointer (some ⟨q,0,.none⟩),.pointer (some ⟨p,0,.none⟩)] w fun e w'=> e= .panicked noWord/\At3 q p b w w' (za7 s t pv) 123 m:=by
 have d15:w.cell? ⟨q,15,.none⟩=some (.bool false):=by rw [<- hd];exact h0.cell 15
 have d11:w.cell? ⟨q,11,.none⟩=some (.int .i64 0):=by rw [<- hn];exact h0.cell 11
 have hlk:=hd' (felook_no q p b s t pv m w h0 hno hsp)
 clear h0 hno hsp hd hn
 go_enter Tryz.func140,Tryz.ntmps140
 go_wp2_with (first | (go_at_call 142;(with_reducible refine hlk.out.mono ?_);rintro r1 w1 ⟨rfl,hA⟩) | fail)
 exact ⟨rfl,rfl,hA⟩
theorem clos_no {q q1 p B1 B2:Nat} {w:World} {Q:World->Prop} (h1:w.cell? ⟨B1,0,.none⟩=some (.pointer (some ⟨q,0,.none⟩))) (h2:w.cell? ⟨B2,0,.none⟩=some (.pointer (some ⟨p,0,.none⟩))) (l1:B1 < w.heap.size) (l2:B2 < w.heap.size) (lq:q < w.heap.size)
  (h8:w.cell? ⟨q,8,.none⟩=some (.iface 89 (.agg #[.pointer (some ⟨q1,0,.none⟩)]))) (hst:∀ Y,Below w.heap.size w Y->Calls Tryz.prog 140 #[.pointer (some ⟨q1,0,.none⟩),.pointer (some ⟨p,0,.none⟩)] Y fun e w'=> e= .panicked noWord/\Q w'):
  Calls Tryz.prog 23 #[.pointer (some ⟨B1,0,.none⟩),.pointer (some ⟨B2,0,.none⟩)] w fun e w'=> e= .panicked noWord/\Q w':=by
 replace hst:=hd' hst
 go_enter Tryz.func23,Tryz.ntmps23
 go_wp2_with fail
 refine zad 5 (by kernel_rfl) (by kernel_rfl) ?_
 dsimp only [List.take,List.drop]
 repeat (go_big_quiet_step (fail))
 refine wpQuiet_nil ?_
 rintro _ ⟨e',rfl⟩
 have hbe:=e'.below
 generalize e'.w=Z at *
 change wpList _ _ _ _ _ Z
 go_wp2_with (first | (go_at_call 140;(with_reducible refine (hst.out _ hbe).mono ?_);rintro r w1 ⟨rfl,hQ⟩) | fail)
 exact ⟨rfl,rfl,hQ⟩
end Go.Proofs.YthgekdlegbmehaaGreat
