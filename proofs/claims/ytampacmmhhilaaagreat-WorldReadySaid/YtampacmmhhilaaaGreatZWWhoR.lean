/- A world in memory: who lives, who is ready. -/
import Derived.Test.YtampacmmhhilaaaGreatZWAwkR

set_option linter.all false
set_option maxHeartbeats 4000000
set_option maxRecDepth 100000
namespace Go.Proofs.YtampacmmhhilaaaGreat

open Go.RowKit

attribute [local go_sem ↓] Go.wp_at_zero Go.wp_at_succ

theorem z1o:(Tryz.prog.info? 3).map (fun i=> (i.zero,i.size,i.bytes))=some (some (.int .i64 0),1,8):=by kernel_rfl
def whoB (P:Kl->Bool) (l:List (Option Kl)) (c:Nat):Bool:=match l.getD c none with
 | some k=> P k
 | none=> false
def whoL (P:Kl->Bool) (l:List (Option Kl)) (n:Nat):List Int:=((List.range n).filter (whoB P l)).map (fun c:Nat=> (c:Int))
theorem ztj (P:Kl->Bool) (l:List (Option Kl)) (n:Nat):whoL P l (n + 1)=whoL P l n ++ if whoB P l n=true then [(n:Int)] else []:=by
 unfold whoL
 rw [List.range_succ,List.filter_append,List.map_append]
 congr 1
 by_cases h:whoB P l n=true
 ·rw [if_pos h];simp [h]
 ·rw [if_neg h];simp [h]
theorem zwg (P:Kl->Bool) (l:List (Option Kl)) (n:Nat):(whoL P l n).length<=n:=by
 unfold whoL
 rw [List.length_map]
 have h:=List.length_filter_le (whoB P l) (List.range n)
 rw [List.length_range] at h
 exact h
section

variable {B:Nat} {F:Nat->Prop} {W:World} {g:Nat} {s:Sh} {d:Wd} {x:Wx}

theorem z06 (h:WdP B F W g s d x) (hn:d.l.length<=100) (P:Kl->Bool)
  (hP:∀ c k X,d.l.getD c none=some k->Below W.heap.size W X->Calls Tryz.prog 86 #[.pointer (some ⟨x.qs c,0,.none⟩)] X fun e w'=> e= .returned (.bool (P k))/\Below X.heap.size X w'):
  Calls Tryz.prog 62 #[.pointer (some ⟨g,0,.none⟩),.func (.func 86) #[] #[]] W fun e w'=> ∃ v,e= .returned v/\Below W.heap.size W w'/\w'.ownsRow W.heap.size 3 1 v (whoL P d.l d.l.length).length ((whoL P d.l d.l.length).map (Value.int .i64)):=by
 have hnil:∀ (p:Nat) (W:World),(binOp .eql 27 (.pointer (some ⟨p,0,.none⟩)) (.pointer none)).run Tryz.prog W= .ok (.bool false) W:=fun p W=> by kernel_rfl
 have hnk0:∀ (W:World),(binOp .neq 36 (.pointer none) (.pointer none)).run Tryz.prog W= .ok (.bool false) W:=fun W=> by kernel_rfl
 have hnk1:∀ (p:Nat) (W:World),(binOp .neq 36 (.pointer (some ⟨p,0,.none⟩)) (.pointer none)).run Tryz.prog W= .ok (.bool true) W:=fun p W=> by kernel_rfl
 have c4:=ce (.slice (some ⟨x.lb,0,.none⟩) d.l.length d.l.length) (h.top.cell 4)
 have lg:=h.top.lt
 have hcell:∀ c X,c < d.l.length->Below W.heap.size W X->X.cell? ⟨x.lb,c,.none⟩=some (ptrK (d.l.getD c none) (x.qs c))/\x.lb < X.heap.size:=fun c X hc hb=> ⟨((h.below hb).lst.cell c).trans (by simpa using (h.below hb).pe c hc),(h.below hb).lst.lt⟩
 obtain ⟨i0,hi0,hz0,hz1,hz2⟩:=info_parts z1o
 have hsu:=fun c=> ztj P d.l c
 have hle:=fun c=> zwg P d.l c
 have hB0:∀ c o,d.l.getD c none=o->whoB P d.l c=match o with
  | some k=> P k
  | none=> false:=fun c o e=> by subst e;rfl
 generalize hL:d.l.length=n at *
 replace hP:=hd' hP
 replace hcell:=hd' hcell
 replace hsu:=hd' hsu
 replace hle:=hd' hle
 replace hB0:=hd' hB0
 replace hL:=hd' hL
 clear h
 go_enter Tryz.func62,Tryz.ntmps62
 go_wp2
 go_loopw [5,15] (fun v5 v15 wr=> ∃ c:Nat,c<=n/\v15= .int .i64 c/\Below W.heap.size W wr/\wr.ownsRow W.heap.size 3 1 v5 (whoL P d.l c).length ((whoL P d.l c).map (Value.int .i64))) (fun _ v15 _=> n - (intOf v15).toNat)
 case atStart=> exact ⟨0,Nat.zero_le _,rfl,Below.refl _ _,⟨by simp [whoL],.inl ⟨rfl,by simp [whoL]⟩⟩⟩
 case round=>
  obtain ⟨c,hcn,rfl,hbr,hown⟩:=hrel
  have hc0:(0:Int)<=(c:Int):=by omega
  by_cases hc:c < n
  ·have hcc:(c:Int) < (n:Int):=by omega
   have wi1:IntKind.i64.wrap ((c:Int) + 1)=(c:Int) + 1:=IntWalk.i64_in _ ⟨by omega,by omega⟩
   have z:=hcell.out c wr hc hbr
   have z1:=z.1
   have z2:=z.2
   have hs:=hsu.out c
   have hlc:=hle.out c
   cases hk:d.l.getD c none with
   | none=>
    have hwb:whoB P d.l c=false:=hB0.out c _ hk
    rw [hk] at z1
    rw [if_neg (by rw [hwb];decide),List.append_nil] at hs
    replace z1:wr.cell? ⟨x.lb,c,.none⟩=some (.pointer none):=z1
    replace hs:=hd' hs
    clear hwb hk z
    go_wp2_with fail
    exact ⟨⟨c + 1,by omega,by go_num,hbr,by rw [hs.out];exact hown⟩,by simp only [intOf];omega⟩
   | some k=>
    have hwb:whoB P d.l c=P k:=hB0.out c _ hk
    rw [hk] at z1
    replace z1:wr.cell? ⟨x.lb,c,.none⟩=some (.pointer (some ⟨x.qs c,0,.none⟩)):=z1
    have hp:=hP.out c k wr hk hbr
    have hbs:=hbr.size
    rw [hwb] at hs
    generalize P k=pk at *
    generalize whoL P d.l c=L at *
    replace hp:=hd' hp
    clear hwb hk z
    cases pk with
    | false=>
     rw [if_neg (by decide),List.append_nil] at hs
     replace hs:=hd' hs
     go_wp2_with (first
      | (go_at_call 86;(with_reducible refine hp.out.mono ?_);rintro r w6 ⟨rfl,hb6⟩)
      | fail)
     have h6:=zab hbr hb6
     exact ⟨⟨c + 1,by omega,by go_num,h6,by rw [hs.out];exact zic hown hb6⟩,by simp only [intOf];omega⟩
    | true=>
     rw [if_pos rfl] at hs
     replace hs:=hd' hs
     go_wp2_with (first
      | (go_at_call 86;(with_reducible refine hp.out.mono ?_);rintro r w6 ⟨rfl,hb6⟩;have h6:=zab hbr hb6;have hs6:=hb6.size;have own6:=zic hown hb6)
      | (refine zay rfl (.tmp 27) (.tmp 29) 34 rfl W.heap.size 3 i0 _ 1 8 Tryz.underlying34 hi0 hz0 hz1 hz2 rfl (by omega) _ L.length _ rfl (own6.alloc _) _ 1 [.int .i64 c] rfl (RdS.new (cs:= #[.int .i64 c]) (t:=3) (sz:=1) (n:=1) (heap_alloc_new w6 _) rfl (by omega)) (by intro u hu;simp at hu;subst hu;rfl) (by simp only [maxLen];omega) (by omega) (by simp;omega) ?_;intro v7 w7 hown7 hgrow7 hat7;have h7:=zaw (h6.alloc (by omega) _) (own6.alloc _) (by simp;omega) hgrow7)
      | fail)
     exact ⟨⟨c + 1,by omega,by go_num,h7,by rw [hs.out,List.length_append,List.map_append];exact hown7⟩,by simp only [intOf];omega⟩
  ·obtain rfl:c=n:=by omega
   have hno:¬ (c:Int) < (c:Int):=by omega
   go_wp2_with fail
   go_returns
   exact ⟨_,rfl,hbr,hown⟩
theorem z2d (h:WdP B F W g s d x) (hn:d.l.length<=100) (P:Kl->Bool)
  (hP:∀ c k X,d.l.getD c none=some k->Below W.heap.size W X->Calls Tryz.prog 63 #[.pointer (some ⟨x.qs c,0,.none⟩)] X fun e w'=> e= .returned (.bool (P k))/\Below X.heap.size X w'):
  Calls Tryz.prog 62 #[.pointer (some ⟨g,0,.none⟩),.func (.func 63) #[] #[]] W fun e w'=> ∃ v,e= .returned v/\Below W.heap.size W w'/\w'.ownsRow W.heap.size 3 1 v (whoL P d.l d.l.length).length ((whoL P d.l d.l.length).map (Value.int .i64)):=by
 have hnil:∀ (p:Nat) (W:World),(binOp .eql 27 (.pointer (some ⟨p,0,.none⟩)) (.pointer none)).run Tryz.prog W= .ok (.bool false) W:=fun p W=> by kernel_rfl
 have hnk0:∀ (W:World),(binOp .neq 36 (.pointer none) (.pointer none)).run Tryz.prog W= .ok (.bool false) W:=fun W=> by kernel_rfl
 have hnk1:∀ (p:Nat) (W:World),(binOp .neq 36 (.pointer (some ⟨p,0,.none⟩)) (.pointer none)).run Tryz.prog W= .ok (.bool true) W:=fun p W=> by kernel_rfl
 have c4:=ce (.slice (some ⟨x.lb,0,.none⟩) d.l.length d.l.length) (h.top.cell 4)
 have lg:=h.top.lt
 have hcell:∀ c X,c < d.l.length->Below W.heap.size W X->X.cell? ⟨x.lb,c,.none⟩=some (ptrK (d.l.getD c none) (x.qs c))/\x.lb < X.heap.size:=fun c X hc hb=> ⟨((h.below hb).lst.cell c).trans (by simpa using (h.below hb).pe c hc),(h.below hb).lst.lt⟩
 obtain ⟨i0,hi0,hz0,hz1,hz2⟩:=info_parts z1o
 have hsu:=fun c=> ztj P d.l c
 have hle:=fun c=> zwg P d.l c
 have hB0:∀ c o,d.l.getD c none=o->whoB P d.l c=match o with
  | some k=> P k
  | none=> false:=fun c o e=> by subst e;rfl
 generalize hL:d.l.length=n at *
 replace hP:=hd' hP
 replace hcell:=hd' hcell
 replace hsu:=hd' hsu
 replace hle:=hd' hle
 replace hB0:=hd' hB0
 replace hL:=hd' hL
 clear h
 go_enter Tryz.func62,Tryz.ntmps62
 go_wp2
 go_loopw [5,15] (fun v5 v15 wr=> ∃ c:Nat,c<=n/\v15= .int .i64 c/\Below W.heap.size W wr/\wr.ownsRow W.heap.size 3 1 v5 (whoL P d.l c).length ((whoL P d.l c).map (Value.int .i64))) (fun _ v15 _=> n - (intOf v15).toNat)
 case atStart=> exact ⟨0,Nat.zero_le _,rfl,Below.refl _ _,⟨by simp [whoL],.inl ⟨rfl,by simp [whoL]⟩⟩⟩
 case round=>
  obtain ⟨c,hcn,rfl,hbr,hown⟩:=hrel
  have hc0:(0:Int)<=(c:Int):=by omega
  by_cases hc:c < n
  ·have hcc:(c:Int) < (n:Int):=by omega
   have wi1:IntKind.i64.wrap ((c:Int) + 1)=(c:Int) + 1:=IntWalk.i64_in _ ⟨by omega,by omega⟩
   have z:=hcell.out c wr hc hbr
   have z1:=z.1
   have z2:=z.2
   have hs:=hsu.out c
   have hlc:=hle.out c
   cases hk:d.l.getD c none with
   | none=>
    have hwb:whoB P d.l c=false:=hB0.out c _ hk
    rw [hk] at z1
    rw [if_neg (by rw [hwb];decide),List.append_nil] at hs
    replace z1:wr.cell? ⟨x.lb,c,.none⟩=some (.pointer none):=z1
    replace hs:=hd' hs
    clear hwb hk z
    go_wp2_with fail
    exact ⟨⟨c + 1,by omega,by go_num,hbr,by rw [hs.out];exact hown⟩,by simp only [intOf];omega⟩
   | some k=>
    have hwb:whoB P d.l c=P k:=hB0.out c _ hk
    rw [hk] at z1
    replace z1:wr.cell? ⟨x.lb,c,.none⟩=some (.pointer (some ⟨x.qs c,0,.none⟩)):=z1
    have hp:=hP.out c k wr hk hbr
    have hbs:=hbr.size
    rw [hwb] at hs
    generalize P k=pk at *
    generalize whoL P d.l c=L at *
    replace hp:=hd' hp
    clear hwb hk z
    cases pk with
    | false=>
     rw [if_neg (by decide),List.append_nil] at hs
     replace hs:=hd' hs
     go_wp2_with (first
      | (go_at_call 63;(with_reducible refine hp.out.mono ?_);rintro r w6 ⟨rfl,hb6⟩)
      | fail)
     have h6:=zab hbr hb6
     exact ⟨⟨c + 1,by omega,by go_num,h6,by rw [hs.out];exact zic hown hb6⟩,by simp only [intOf];omega⟩
    | true=>
     rw [if_pos rfl] at hs
     replace hs:=hd' hs
     go_wp2_with (first
      | (go_at_call 63;(with_reducible refine hp.out.mono ?_);rintro r w6 ⟨rfl,hb6⟩;have h6:=zab hbr hb6;have hs6:=hb6.size;have own6:=zic hown hb6)
      | (refine zay rfl (.tmp 27) (.tmp 29) 34 rfl W.heap.size 3 i0 _ 1 8 Tryz.underlying34 hi0 hz0 hz1 hz2 rfl (by omega) _ L.length _ rfl (own6.alloc _) _ 1 [.int .i64 c] rfl (RdS.new (cs:= #[.int .i64 c]) (t:=3) (sz:=1) (n:=1) (heap_alloc_new w6 _) rfl (by omega)) (by intro u hu;simp at hu;subst hu;rfl) (by simp only [maxLen];omega) (by omega) (by simp;omega) ?_;intro v7 w7 hown7 hgrow7 hat7;have h7:=zaw (h6.alloc (by omega) _) (own6.alloc _) (by simp;omega) hgrow7)
      | fail)
     exact ⟨⟨c + 1,by omega,by go_num,h7,by rw [hs.out,List.length_append,List.map_append];exact hown7⟩,by simp only [intOf];omega⟩
  ·obtain rfl:c=n:=by omega
   have hno:¬ (c:Int) < (c:Int):=by omega
   go_wp2_with fail
   go_returns
   exact ⟨_,rfl,hbr,hown⟩
theorem ydq (h:WdP B F W g s d x) (hn:d.l.length<=100):
  Calls Tryz.prog 43 #[.pointer (some ⟨g,0,.none⟩)] W fun e w'=> ∃ v,e= .returned v/\Below W.heap.size W w'/\w'.ownsRow W.heap.size 3 1 v (whoL (fun _=> true) d.l d.l.length).length ((whoL (fun _=> true) d.l d.l.length).map (Value.int .i64)):=by
 have hw:=hd' (z06 h hn (fun _=> true) (fun c k X _ _=> by
  go_enter Tryz.func86,Tryz.ntmps86
  go_wp2_with fail
  go_returns
  exact ⟨rfl,Below.refl _ _⟩))
 clear h
 go_enter Tryz.func43,Tryz.ntmps43
 go_wp2_with (first
  | (go_at_call 62;(with_reducible refine hw.out.mono ?_);rintro r w1 ⟨v,rfl,hb,ho⟩)
  | fail)
 go_returns
 exact ⟨_,rfl,hb,ho⟩
theorem ycy (h:WdP B F W g s d x) (hn:d.l.length<=100):
  Calls Tryz.prog 20 #[.pointer (some ⟨g,0,.none⟩)] W fun e w'=> ∃ v,e= .returned v/\Below W.heap.size W w'/\w'.ownsRow W.heap.size 3 1 v (whoL (fun k=> !k.rests) d.l d.l.length).length ((whoL (fun k=> !k.rests) d.l d.l.length).map (Value.int .i64)):=by
 have hw:=hd' (z2d h hn (fun k=> !k.rests) (fun c k X hk hb=> by
  have hi:=hd' (zyp ((h.below hb).cl c k hk))
  generalize k.rests=b at *
  go_enter Tryz.func63,Tryz.ntmps63
  go_wp2_with (first
   | (go_at_call 22;(with_reducible refine hi.out.mono ?_);rintro r w1 ⟨rfl,hw1⟩;obtain rfl:=hw1.symm)
   | fail)
  go_returns
  exact ⟨rfl,Below.refl _ _⟩))
 clear h
 go_enter Tryz.func20,Tryz.ntmps20
 go_wp2_with (first
  | (go_at_call 62;(with_reducible refine hw.out.mono ?_);rintro r w1 ⟨v,rfl,hb,ho⟩)
  | fail)
 go_returns
 exact ⟨_,rfl,hb,ho⟩
end

end Go.Proofs.YtampacmmhhilaaaGreat
