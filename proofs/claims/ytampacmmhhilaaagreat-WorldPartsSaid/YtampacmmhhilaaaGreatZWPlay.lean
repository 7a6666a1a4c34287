/- A world in memory: a row of choices is played. -/
import Derived.Test.YtampacmmhhilaaaGreatZStpP

import Derived.Test.YtampacmmhhilaaaGreatZWAwk

set_option linter.all false
set_option maxHeartbeats 4000000
set_option maxRecDepth 100000
namespace Go.Proofs.YtampacmmhhilaaaGreat

open Go.RowKit

attribute [local go_sem ↓] Go.wp_at_zero Go.wp_at_succ

attribute [local go_sem] zlg

theorem ztk (s:Sh) (l:List Ch):∀ d:Wd,(d.play s l).1=d.acts s l:=by
 induction l with
 | nil=> exact fun d=> rfl
 | cons x l ih=> exact fun d=> ih _
theorem z6g (s:Sh) (a b:List Ch):∀ d:Wd,(d.play s (a ++ b)).2=(d.play s a).2 + ((d.play s a).1.play s b).2:=by
 induction a with
 | nil=> intro d;show _=0 + _;rw [Int.zero_add];rfl
 | cons x a ih=>
  intro d
  show (if (d.act s x).2=0 then 1 else 0) + ((d.act s x).1.play s (a ++ b)).2=((if (d.act s x).2=0 then 1 else 0) + ((d.act s x).1.play s a).2) + _
  rw [ih,Int.add_assoc]
  rfl
theorem zz5 (s:Sh) (d:Wd) (l:List Ch) {i:Nat} (h:i < l.length):(d.play s (l.take (i + 1))).2=(d.play s (l.take i)).2 + if ((d.acts s (l.take i)).act s l[i]).2=0 then 1 else 0:=by
 rw [List.take_succ,List.getElem?_eq_getElem h,z6g,ztk]
 show _ + ((if _ then 1 else 0) + (0:Int))=_
 rw [Int.add_zero]
theorem ybh (s:Sh) (l:List Ch):∀ d:Wd,0<=(d.play s l).2/\(d.play s l).2<=l.length:=by
 induction l with
 | nil=> exact fun d=> ⟨Int.le_refl _,by show (0:Int)<=_;simp⟩
 | cons x l ih=>
  intro d
  have h:=ih (d.act s x).1
  have e:(d.play s (x::l)).2=(if (d.act s x).2=0 then 1 else 0) + ((d.act s x).1.play s l).2:=rfl
  rw [e,List.length_cons]
  split <;> omega
section

variable {B:Nat} {F:Nat->Prop} {W:World} {g:Nat} {s:Sh} {d:Wd} {x:Wx} {m:Nat}

theorem yds (h:WdP B F W g s d x) (hB:B<=W.heap.size) (ho:wdOk s d m) (xs:List Ch) (hn:m + xs.length<=10000000) (v:Value) (hr:RdS W 6 v xs.length (xs.flatMap Ch.cells)) (hv:∀ b off cap,v= .slice (some ⟨b,off,.none⟩) xs.length cap->¬ F b):
  Calls Tryz.prog 18 #[.pointer (some ⟨g,0,.none⟩),v] W fun e w'=> e= .returned (.int .i64 (d.play s xs).2)/\WdTo B F W w' g s (d.play s xs).1:=by
 obtain ⟨ao,cap,rfl,hcap,hcm,hl,hrow⟩:=id hr
 obtain ⟨n,hnd,hnd'⟩:=hidv xs.length
 rw [<- hnd'] at hcap hrow hl hn hv ⊢
 have hok:∀ i,i<=n->wdOk s (d.acts s (xs.take i)) (m + i):=fun i hi=> by
  have h1:=zv6 ho (xs.take i)
  rw [List.length_take,<- hnd',Nat.min_eq_left hi] at h1
  exact h1
 have hbp:∀ i,i<=n->0<=(d.play s (xs.take i)).2/\(d.play s (xs.take i)).2<=(i:Int):=fun i hi=> by
  have h1:=ybh s (xs.take i) d
  rw [List.length_take,<- hnd',Nat.min_eq_left hi] at h1
  exact h1
 have hend:xs.take n=xs:=by rw [hnd'];exact List.take_length
 have hres:(d.play s xs).1=d.acts s xs:=ztk s xs d
 rw [hres]
 have hx0:WdTo B F W W g s d:=WdTo.start h hB br
 have hlt:=h.lt
 replace hrow:=hd' hrow
 replace hl:=hd' hl
 replace hok:=hd' hok
 replace hbp:=hd' hbp
 replace hend:=hd' hend
 replace hv:=hd' hv
 replace hlt:=hd' hlt
 replace hx0:=hd' hx0
 clear hnd' hr hres h ho
 go_enter Tryz.func18,Tryz.ntmps18
 go_wp2
 go_loopw [5,10] (fun v5 v10 wr=> ∃ i:Nat,i<=n/\v10= .int .i64 i/\v5= .int .i64 (d.play s (xs.take i)).2/\WdTo B F W wr g s (d.acts s (xs.take i))) (fun _ v10 _=> n - (intOf v10).toNat)
 case atStart=> exact ⟨0,Nat.zero_le _,rfl,rfl,hx0.out⟩
 case round=>
  obtain ⟨i,hin,rfl,rfl,hT⟩:=hrel
  have hoki:=hok.out i hin
  have hi0:(0:Int)<=(i:Int):=by omega
  have hbi:=hbp.out i hin
  by_cases hi:i < n
  ·have hii:(i:Int) < (n:Int):=by omega
   have wi1:IntKind.i64.wrap ((i:Int) + 1)=(i:Int) + 1:=IntWalk.i64_in _ ⟨by omega,by omega⟩
   have wp1:IntKind.i64.wrap ((d.play s (xs.take i)).2 + 1)=(d.play s (xs.take i)).2 + 1:=IntWalk.i64_in _ ⟨by omega,by omega⟩
   have hil:i < xs.length:=hnd.out ▸ hi
   have hat:=zm0 (s:=s) (d:=d) hil
   have hpt:=zz5 s d xs hil
   obtain ⟨gb,gof,rfl,hgb,hcell⟩:=hrow.out (by omega)
   have hgF:¬ F gb:=hv.out gb gof cap rfl
   have hcg:=fun k hk=> yan xs i hil k hk
   obtain ⟨⟨x1,hx1⟩,ho1,hB1⟩:=id hT
   have hgl:gb < wr.heap.size:=by have:=ho1.size;omega
   generalize hxc:xs[i]=xc at *
   generalize d.acts s (xs.take i)=d1 at *
   generalize (d.play s (xs.take i)).2=pc at *
   obtain ⟨ck,cc,co,ca,cn,cb⟩:=xc
   have hq:∀ k,k < 6->wr.cell? ⟨gb,gof + i * 6 + k,.none⟩=(Ch.cells ⟨ck,cc,co,ca,cn,cb⟩)[k]?:=fun k hk6=> by
    have hk:wr.heap[gb]?=W.heap[gb]?:=ho1.block gb hgb hgF
    have hk2:wr.cell? ⟨gb,gof + i * 6 + k,.none⟩=W.cell? ⟨gb,gof + i * 6 + k,.none⟩:=by simp only [World.cell?,hk]
    rw [hk2,Nat.add_assoc,hcell _ (by omega)]
    exact hcg k hk6
   have z0:wr.cell? ⟨gb,gof + i * 6,.none⟩=some (.int .i64 ck):=hq 0 (by omega)
   have z1:wr.cell? ⟨gb,gof + i * 6 + 1,.none⟩=some (.int .i64 cc):=hq 1 (by omega)
   have z2:wr.cell? ⟨gb,gof + i * 6 + 2,.none⟩=some (.int .i64 co):=hq 2 (by omega)
   have z3:wr.cell? ⟨gb,gof + i * 6 + 3,.none⟩=some (.int .i64 ca):=hq 3 (by omega)
   have z4:wr.cell? ⟨gb,gof + i * 6 + 4,.none⟩=some (.int .i64 cn):=hq 4 (by omega)
   have z5:wr.cell? ⟨gb,gof + i * 6 + 5,.none⟩=some (.float .f64 cb):=hq 5 (by omega)
   clear hq hcell hcg
   go_upto_region 5 with fail
   have hbX:=(Below.refl wr.heap.size wr).alloc lr (.cells #[.int .i64 ck,.int .i64 cc,.int .i64 co,.int .i64 ca,.int .i64 cn,.float .f64 cb] 46)
   have tX:zaa (wr.alloc (.cells #[.int .i64 ck,.int .i64 cc,.int .i64 co,.int .i64 ca,.int .i64 cn,.float .f64 cb] 46)) wr.heap.size #[.int .i64 ck,.int .i64 cc,.int .i64 co,.int .i64 ca,.int .i64 cn,.float .f64 cb] 46:=heap_alloc_new _ _
   clear z0 z1 z2 z3 z4 z5
   generalize wr.alloc (.cells #[.int .i64 ck,.int .i64 cc,.int .i64 co,.int .i64 ca,.int .i64 cn,.float .f64 cb] 46)=X at *
   obtain ⟨N7,hN7,hN7'⟩:=hidv wr.heap.size
   rw [<- hN7'] at tX ⊢
   clear hN7'
   obtain ⟨z0,z1,z2,z3,z4⟩:=ci5 ck cc co ca cn tX.cell
   have z5:=ce (.float .f64 cb) (tX.cell 5)
   have hdo:Calls Tryz.prog 25 #[.pointer (some ⟨g,0,.none⟩),.agg #[.int .i64 ck,.int .i64 cc,.int .i64 co,.int .i64 ca,.int .i64 cn,.float .f64 cb]] X fun e w'=> e= .returned (.int .i64 (d1.act s ⟨ck,cc,co,ca,cn,cb⟩).2)/\WdTo B (grow F W wr) X w' g s (d1.act s ⟨ck,cc,co,ca,cn,cb⟩).1:=zkm (hx1.below hbX) (by have:=hbX.size;omega) hoki (by omega) _
   have hfin:∀ w',WdTo B (grow F W wr) X w' g s (d1.act s ⟨ck,cc,co,ca,cn,cb⟩).1->WdTo B F W w' g s (d.acts s (xs.take (i + 1))):=fun w' hk=> by
    rw [hat]
    exact WdTo.trans hT (WdTo.from hx1 hB1 hbX hk)
   generalize (d1.act s ⟨ck,cc,co,ca,cn,cb⟩).1=d2 at *
   generalize (d1.act s ⟨ck,cc,co,ca,cn,cb⟩).2=er at *
   replace hdo:=hd' hdo
   replace hfin:=hd' hfin
   replace hpt:=hd' hpt
   clear hat hoki hT
   by_cases h0:er=0
   ·subst h0
    have hp2:=hpt.out
    rw [if_pos rfl] at hp2
    replace hp2:=hd' hp2
    go_wp2_with (first
     | (go_at_call 25;(with_reducible refine hdo.out.mono ?_);rintro r w7 ⟨rfl,hT7⟩)
     | fail)
    exact ⟨⟨i + 1,by omega,by go_num,by rw [hp2.out],hfin.out _ hT7⟩,by simp only [intOf];omega⟩
   ·have be:(er==0)=false:=by rw [beq_eq_false_iff_ne];exact h0
    have hp2:=hpt.out
    rw [if_neg h0,Int.add_zero] at hp2
    replace hp2:=hd' hp2
    go_wp2_with (first
     | (go_at_call 25;(with_reducible refine hdo.out.mono ?_);rintro r w7 ⟨rfl,hT7⟩)
     | fail)
    exact ⟨⟨i + 1,by omega,by go_num,by rw [hp2.out],hfin.out _ hT7⟩,by simp only [intOf];omega⟩
  ·obtain rfl:i=n:=by omega
   have hno:¬ (i:Int) < (i:Int):=by omega
   rw [hend.out] at hT ⊢
   go_wp2_with fail
   go_returns
   exact ⟨rfl,hT⟩
end

end Go.Proofs.YtampacmmhhilaaaGreat
