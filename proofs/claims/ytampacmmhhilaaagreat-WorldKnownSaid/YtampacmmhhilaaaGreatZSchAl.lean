/- A schedule of one, alone: the walks of sched.Turns and Alone. -/
import Derived.Test.YtampacmmhhilaaaGreatBq51

set_option linter.all false
set_option maxHeartbeats 1000000
namespace Go.Proofs.YtampacmmhhilaaaGreat

open Go.RowKit

attribute [local go_sem ↓] Go.wp_at_zero Go.wp_at_succ

attribute [local go_sem high] zm6 zml zky

def stepC (c:Int):Ch:=⟨3,c,0,0,0,0⟩
def turnsL (zs:List Int):Nat->List Ch
 | 0=> []
 | n + 1=> turnsL zs n ++ zs.map stepC
theorem turnsL_length (zs:List Int) (n:Nat):(turnsL zs n).length=n * zs.length:=by
 induction n with
 | zero=> simp [turnsL]
 | succ n ih=> simp [turnsL,ih,Nat.add_mul]
def turnsR (zs:List Int) (k:Int):List Ch:=if zs= []\/2000 / (zs.length:Int) < k then [] else turnsL zs k.toNat
theorem turns_any (zs:List Int) (v:Value) (k:Int) (w:World) (hr:RdI w v zs) (hk0: -9223372036854775808<=k) (hk1:k<=9223372036854775807):
  Calls Tryz.prog 89 #[v,.int .i64 k] w fun e w'=> ∃ v',e= .returned v'/\Below w.heap.size w w'/\OC w.heap.size w' v' (turnsR zs k):=by
 obtain ⟨ao,cap,rfl,hcap,hcm,hrow⟩:=hr
 unfold turnsR
 by_cases h0:zs= []
 ·rw [if_pos (.inl h0)]
  subst h0
  go_enter Tryz.func89,Tryz.ntmps89
  go_wp2
  go_ret
  exact ⟨_,rfl,Below.refl _ _,OwnC.nil _ _ _⟩
 ·have hl0:zs.length≠0:=fun h=> h0 (List.eq_nil_of_length_eq_zero h)
  have hlp:(1:Int)<=(zs.length:Int):=by omega
  have hle:((zs.length:Int)==0)=false:=by rw [beq_eq_false_iff_ne];omega
  by_cases h1:2000 / (zs.length:Int) < k
  ·rw [if_pos (.inr h1)]
   have hd:decide (2000 / (zs.length:Int) < k)=true:=decide_eq_true h1
   clear h0 hrow hl0
   go_enter Tryz.func89,Tryz.ntmps89
   go_wp2
   go_ret
   exact ⟨_,rfl,Below.refl _ _,OwnC.nil _ _ _⟩
  ·rw [if_neg (by simp [h0,h1])]
   have hd:decide (2000 / (zs.length:Int) < k)=false:=decide_eq_false h1
   have hmul:k.toNat * zs.length<=2000:=by
    rcases Int.lt_or_le k 0 with hk | hk
    ·have:k.toNat=0:=by omega
     rw [this];omega
    ·have h2:k<=2000 / (zs.length:Int):=by omega
     have h3:=(Int.le_ediv_iff_mul_le (by omega)).1 h2
     have h4:(k.toNat:Int)=k:=by omega
     have:((k.toNat * zs.length:Nat):Int)<=2000:=by rw [Int.natCast_mul,h4];exact h3
     omega
   obtain ⟨b,off,rfl,hb,hc⟩:=hrow h0
   have hmul:=hd' hmul
   have hlN:zs.length<=9223372036854775807:=by omega
   clear h0 h1
   go_enter Tryz.func89,Tryz.ntmps89
   go_wp2
   go_loopw [5,19] (fun v5 v19 wr=> ∃ i:Nat,i<=k.toNat/\v19= .int .i64 i/\OC w.heap.size wr v5 (turnsL zs i)/\Below w.heap.size w wr) (fun _ v19 _=> k.toNat - (intOf v19).toNat)
   case atStart=> exact ⟨0,Nat.zero_le _,rfl,OwnC.nil _ _ _,Below.refl _ _⟩
   case round=>
    obtain ⟨i,hi,rfl,hown,hbr⟩:=hrel
    by_cases hlt:(i:Int) < k
    ·obtain ⟨wo,rfl⟩:∃ wo:World,wo=wr:=⟨_,rfl⟩
     go_wp2
     go_loopw [5,23] (fun v5 v23 wr=> ∃ j:Nat,j<=zs.length/\v23= .int .i64 j/\OC w.heap.size wr v5 (turnsL zs i ++ (zs.take j).map stepC)/\Below w.heap.size w wr) (fun _ v23 _=> zs.length - (intOf v23).toNat)
     case atStart=> exact ⟨0,Nat.zero_le _,rfl,by simpa using hown,hbr⟩
     case round=>
      obtain ⟨j,hj,rfl,hown,hbr⟩:=hrel
      by_cases hjt:j < zs.length
      ·have hjl:(j:Int) < (zs.length:Int):=by omega
       have cj:=zai hbr _ _ _ (hc j hjt)
       have hnx:turnsL zs i ++ (zs.take (j + 1)).map stepC=(turnsL zs i ++ (zs.take j).map stepC) ++ [stepC zs[j]]:=by
        rw [List.take_succ_eq_append_getElem hjt,List.map_append,List.append_assoc];rfl
       have hlen:(turnsL zs i ++ (zs.take j).map stepC).length=i * zs.length + j:=by
        rw [List.length_append,turnsL_length,List.length_map,List.length_take];omega
       have hbound:i * zs.length + j < 2000:=by
        have h1:=Nat.mul_le_mul_right zs.length (show i + 1<=k.toNat by omega)
        have h2:=hmul.out
        rw [Nat.add_mul,Nat.one_mul] at h1
        omega
       have hnx:=hd' hnx
       generalize zs[j]=z at *
       generalize hxs:turnsL zs i ++ (zs.take j).map stepC=xs at *
       have hB:=hbr.size
       obtain ⟨i0,hi,hz0,hz1,hz2⟩:=info_parts yej
       have hf:zdm (xs ++ [stepC z])=zdm xs ++ (stepC z).cells:=by rw [zla];simp [zdm]
       have hf:=hd' hf
       have hxl:=hd' hlen
       clear hlen hxs
       go_wp2_with (refine wpList_append_lies _ rfl _ _ 32 rfl w.heap.size 46 i0 z88 6 48 Tryz.underlying32 hi hz0 hz1 hz2 rfl (by omega) _ xs.length (zdm xs) rfl (OwnC.later hown (br.alloc lr _)) ⟨wr.heap.size,0,.none⟩ 1 1 (stepC z).cells rfl rfl (World.news_of_block (heap_alloc_new _ _)) (Ch.one _) (by omega) (by rw [hxl.out];simp only [maxLen];omega) (by rw [hxl.out];omega) (by simp;omega) _ rfl ?_;intro g cap' w1 hown1 hgrow1 hat1 hlt1)
       case roundEnd=>
        have hal:∀ o,OC w.heap.size (wr.alloc o) u5 xs:=fun o=> OwnC.later hown (br.alloc lr _)
        refine ⟨⟨j + 1,by omega,by go_num,?_,ybx (hbr.alloc hbr.size _) (hal _) (by show w.heap.size<=(wr.heap.push _).size;rw [Array.size_push];omega) hgrow1⟩,by simp [intOf];omega⟩
        rw [hnx.out]
        have h1:=hown1
        rw [<- hf.out] at h1
        show World.ownsRow w1 w.heap.size _ 6 _ (xs ++ [stepC z]).length _
        rw [List.length_append]
        exact h1
      ·have hje:j=zs.length:=by omega
       subst hje
       have hj0:¬ ((zs.length:Int) < (zs.length:Int)):=by omega
       rw [List.take_length] at hown
       go_wp2
       exact ⟨⟨i + 1,by omega,by go_num,hown,hbr⟩,by simp [intOf];omega⟩
    ·have hik:i=k.toNat:=by omega
     subst hik
     go_wp2
     go_ret
     exact ⟨_,rfl,hbr,hown⟩
theorem alone_any (c k:Int) (w:World) (hk0: -9223372036854775808<=k) (hk1:k<=9223372036854775807):
  Calls Tryz.prog 48 #[.int .i64 c,.int .i64 k] w fun e w'=> ∃ v',e= .returned v'/\Below w.heap.size w w'/\OC w.heap.size w' v' (turnsR [c] k):=by
 go_enter Tryz.func48,Tryz.ntmps48
 go_wp2_with (go_at_call 89;refine (turns_any [c] _ k _ (RdI.one c w _) hk0 hk1).mono ?_;rintro e w1 ⟨v',rfl,hb,ho⟩)
 go_ret
 have hs:w.heap.size<=(w.alloc (.cells #[.int .i64 c] 3)).heap.size:=by
  show _<=(w.heap.push _).size
  rw [Array.size_push];omega
 exact ⟨_,rfl,(br.alloc lr _).trans (hb.mono hs),ho.mono hs⟩
end Go.Proofs.YtampacmmhhilaaaGreat
