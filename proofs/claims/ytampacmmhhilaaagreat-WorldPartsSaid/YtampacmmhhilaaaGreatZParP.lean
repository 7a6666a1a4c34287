/- A schedule in two parts; a choice that is refused: plain, and equal rows of accesses. -/
import Derived.Test.YtampacmmhhilaaaGreatZWPlay

set_option linter.all false
set_option maxHeartbeats 2000000
set_option maxRecDepth 100000
namespace Go.Proofs.YtampacmmhhilaaaGreat

open Go.RowKit

attribute [local go_sem ↓] Go.wp_at_zero Go.wp_at_succ

theorem act_err {s:Sh} {d:Wd} {n:Nat} (ho:wdOk s d n) (x:Ch) (h:(d.act s x).2≠0):(d.act s x).1.tr.length=d.tr.length/\(d.act s x).1.lg.length=d.lg.length:=by
 unfold Wd.act at h ⊢
 split
 ·exact ⟨rfl,rfl⟩
 ·rename_i hb
  rw [if_neg hb] at h
  split
  ·rename_i hk
   rw [if_pos hk] at h
   unfold Wd.begin at h ⊢
   split
   ·rename_i h0
    rw [if_pos h0] at h
    exact absurd rfl h
   ·exact ⟨rfl,rfl⟩
  ·rename_i hk1
   rw [if_neg hk1] at h
   split
   ·exact ⟨rfl,rfl⟩
   ·rename_i k hk
    rw [hk] at h
    dsimp only at h
    split
    ·rename_i hk3
     rw [if_pos hk3] at h
     unfold Wd.step at h ⊢
     dsimp only at h ⊢
     rcases hj:k.job with _ | j
     ·have e:k.step s d.m=(k,d.m, [],2):=by unfold Kl.step;rw [hj]
      rw [e]
      dsimp only
      rw [if_neg (by omega),List.append_nil]
      exact ⟨rfl,rfl⟩
     ·have e:k.step s d.m=(k.after (j.step s k.c d.m).1,(j.step s k.c d.m).2,k.tells (j.step s k.c d.m).1,0):=by unfold Kl.step;rw [hj]
      rw [e] at h
      exact absurd rfl h
    ·rename_i hk3
     rw [if_neg hk3] at h
     split
     ·rename_i hk2
      rw [if_pos hk2] at h
      unfold Wd.ask at h ⊢
      dsimp only at h ⊢
      unfold Kl.invoke at h ⊢
      split
      ·rw [List.append_nil];exact ⟨rfl,rfl⟩
      ·rename_i hr
       rw [if_neg hr] at h
       split
       ·rw [List.append_nil];exact ⟨rfl,rfl⟩
       ·rename_i hk
        rw [if_neg hk] at h
        split
        ·rename_i ho
         rw [if_pos ho] at h;exact absurd rfl h
        ·rename_i ho
         rw [if_neg ho] at h;exact absurd rfl h
     ·rename_i hk2
      rw [if_neg hk2] at h
      exact absurd rfl h
theorem sameSteps_eq (xs:List Acc) (v u:Value) (w:World) (hx:RdS w 6 v xs.length (xs.flatMap fun e=> e.cells.toList)) (hy:RdS w 6 u xs.length (xs.flatMap fun e=> e.cells.toList)):
  Calls Tryz.prog 45 #[v,u] w fun e w'=> e= .returned (.bool true)/\Below w.heap.size w w':=by
 have hg:∀ (l:List Acc) (j:Nat) (h:j < l.length) (k:Nat),k < 6->(l.flatMap fun e=> e.cells.toList)[j * 6 + k]?=l[j].cells.toList[k]?:=by
  intro l
  induction l with
  | nil=> intro j h;simp at h
  | cons a l ih=>
   intro j h k hk
   rw [List.flatMap_cons]
   cases j with
   | zero=> rw [Nat.zero_mul,Nat.zero_add,List.getElem?_append_left (by show k < 6;omega)];rfl
   | succ j=>
    rw [List.getElem?_append_right (by show 6<=_;omega),show (j + 1) * 6 + k - a.cells.toList.length=j * 6 + k by show (j + 1) * 6 + k - 6=_;omega]
    exact ih j (by simpa using h) k hk
 obtain ⟨ax,cx,rfl,hcx,hmx,_,hrx⟩:=hx
 obtain ⟨ay,cy,rfl,hcy,hmy,_,hry⟩:=hy
 obtain ⟨n,hn,hn'⟩:=hidv xs.length
 rw [<- hn'] at hcx hcy hrx hry ⊢
 have hlN:n<=9223372036854775807:=by omega
 clear hn'
 replace hrx:=hd' hrx
 replace hry:=hd' hry
 go_enter Tryz.func45,Tryz.ntmps45
 go_wp2
 go_loopw [5] (fun v5 wr=> ∃ j:Nat,j<=n/\v5= .int .i64 j/\Below w.heap.size w wr) (fun v5 _=> n - (intOf v5).toNat)
 case atStart=> exact ⟨0,Nat.zero_le _,rfl,Below.refl _ _⟩
 case round=>
  obtain ⟨j,hj,rfl,hbr⟩:=hrel
  by_cases hjn:j < n
  ·have hjl:(j:Int) < (n:Int):=by omega
   have hj0:(0:Int)<=(j:Int):=by omega
   have hjt:j < xs.length:=hn.out ▸ hjn
   obtain ⟨bx,ox,rfl,hbx,hcx'⟩:=hrx.out (by omega)
   obtain ⟨by',oy,rfl,hby,hcy'⟩:=hry.out (by omega)
   have hX:∀ k,k < 6->wr.cell? ⟨bx,ox + j * 6 + k,.none⟩=xs[j].cells.toList[k]?:=fun k hk=> by
    rw [Nat.add_assoc,<- hg xs j hjt k hk,<- hcx' _ (by omega)]
    exact hbr.cell (p:=⟨bx,_,.none⟩) hbx
   have hY:∀ k,k < 6->wr.cell? ⟨by',oy + j * 6 + k,.none⟩=xs[j].cells.toList[k]?:=fun k hk=> by
    rw [Nat.add_assoc,<- hg xs j hjt k hk,<- hcy' _ (by omega)]
    exact hbr.cell (p:=⟨by',_,.none⟩) hby
   generalize xs[j]=a at *
   obtain ⟨a0,a1,a2,a3,a4,a5⟩:=a
   have X0:wr.cell? ⟨bx,ox + j * 6,.none⟩=some (.int .i64 a0):=hX 0 (by omega)
   have X1:wr.cell? ⟨bx,ox + j * 6 + 1,.none⟩=some (.int .i64 a1):=hX 1 (by omega)
   have X2:wr.cell? ⟨bx,ox + j * 6 + 2,.none⟩=some (.int .i64 a2):=hX 2 (by omega)
   have X3:wr.cell? ⟨bx,ox + j * 6 + 3,.none⟩=some (.int .u64 a3):=hX 3 (by omega)
   have X4:wr.cell? ⟨bx,ox + j * 6 + 4,.none⟩=some (.int .u64 a4):=hX 4 (by omega)
   have X5:wr.cell? ⟨bx,ox + j * 6 + 5,.none⟩=some (.bool a5):=hX 5 (by omega)
   have Y0:wr.cell? ⟨by',oy + j * 6,.none⟩=some (.int .i64 a0):=hY 0 (by omega)
   have Y1:wr.cell? ⟨by',oy + j * 6 + 1,.none⟩=some (.int .i64 a1):=hY 1 (by omega)
   have Y2:wr.cell? ⟨by',oy + j * 6 + 2,.none⟩=some (.int .i64 a2):=hY 2 (by omega)
   have Y3:wr.cell? ⟨by',oy + j * 6 + 3,.none⟩=some (.int .u64 a3):=hY 3 (by omega)
   have Y4:wr.cell? ⟨by',oy + j * 6 + 4,.none⟩=some (.int .u64 a4):=hY 4 (by omega)
   have Y5:wr.cell? ⟨by',oy + j * 6 + 5,.none⟩=some (.bool a5):=hY 5 (by omega)
   have wi1:IntKind.i64.wrap ((j:Int) + 1)=(j:Int) + 1:=IntWalk.i64_in _ ⟨by omega,by omega⟩
   clear hcx' hcy' hrx hry hX hY
   have hD:=fun n=> below_drewN hbr n
   go_wp2
   go_quiet (fail)
   go_wp2
   exact ⟨⟨j + 1,by omega,by go_num,hD _⟩,by simp [intOf];omega⟩
  ·have hje:j=n:=by omega
   subst hje
   have hj0:¬ ((j:Int) < (j:Int)):=by omega
   go_wp2
   go_ret
   exact ⟨rfl,hbr⟩
end Go.Proofs.YtampacmmhhilaaaGreat
