/- Lemmas for the claim. -/
import Derived.Test.YtmmbicppdjgbmaaGreatBw45

set_option linter.all false
set_option maxHeartbeats 4000000
set_option maxRecDepth 100000
namespace Go.Proofs.YtmmbicppdjgbmaaGreat

open Go.RowKit

attribute [local go_sem ↓] Go.wp_at_zero Go.wp_at_succ

section

variable {B:Nat} {F:Nat->Prop} {W:World} {g:Nat} {s:Sh} {d:Wd} {x:Wx}

theorem z2d(h:WdP B F W g s d x)(hn:d.l.length<=100)(P:Kl->Bool)(O:∀ c k X,d.l.getD c none=some k->Below W.heap.size W X->Calls Tryz.prog 49 #[.pointer (some ⟨x.qs c,0,.none⟩)] X fun e w'=>e= .returned (.bool (P k))/\Below X.heap.size X w'):
  Calls Tryz.prog 46 #[some g,.func (.func 49) #[] #[]] W fun e w'=>∃ v,e= .returned v/\Below W.heap.size W w'/\w'.ownsRow W.heap.size 3 1 v (whoL P d.l d.l.length).length ((whoL P d.l d.l.length).map (Value.int .i64)):=by
 have Z:∀ (p:Nat) (W:World),(binOp .eql 27 (.pointer (some ⟨p,0,.none⟩)) (.pointer none)).run Tryz.prog W= .ok (.bool false) W:=fun p W=>by kernel_rfl
 have b0:∀ (W:World),(binOp .neq 80 (.pointer none) (.pointer none)).run Tryz.prog W= .ok (.bool false) W:=fun W=>by kernel_rfl
 have b1:∀ (p:Nat) (W:World),(binOp .neq 80 (.pointer (some ⟨p,0,.none⟩)) (.pointer none)).run Tryz.prog W= .ok (.bool true) W:=fun p W=>by kernel_rfl
 have c4:=ce (.slice (some ⟨x.lb,0,.none⟩) d.l.length d.l.length) (h.top.cell 4);have lg:=h.top.lt;have i:∀ c X,c<d.l.length->Below W.heap.size W X->X.cell? ⟨x.lb,c,.none⟩=some (ptrK (d.l.getD c none) (x.qs c))/\x.lb<X.heap.size:=fun c X hc hb=>⟨((h.below hb).lst.cell c).trans (by simpa using(h.below hb).pe c hc),(h.below hb).lst.lt⟩;obtain⟨i0,R,S,T,U⟩:=info_parts z1o;have H:=fun c=>ztj P d.l c;have E:=fun c=>cX P d.l c
 have y:∀ c o,d.l.getD c none=o->whoB P d.l c=match o with
  |some k=>P k
  |none=>false:=fun c o e=>by subst e;rfl
 generalize V:d.l.length=n at *;replace O:=hd' O;replace i:=hd' i;replace H:=hd' H;replace E:=hd' E;replace y:=hd' y;replace V:=hd' V;clear h;go_in;go_wp2;go_loopw [5,15] (fun v5 I wr=>∃ c:Nat,c<=n/\I= .int .i64 c/\Below W.heap.size W wr/\wr.ownsRow W.heap.size 3 1 v5 (whoL P d.l c).length ((whoL P d.l c).map (Value.int .i64))) (fun _ I _=>n-(intOf I).toNat);case atStart=>exact⟨0,Nat.zero_le _,rfl,Below.refl _ _,⟨by simp[whoL],.inl ⟨rfl,by simp[whoL]⟩⟩⟩
 case round=>
  obtain⟨c,b5,rfl,b,j⟩:=hrel;have b3:(0:Int)<=(c:Int):=by omega
  by_cases hc:c<n
  ·have b4:(c:Int)<(n:Int):=by omega
   have b9:IntKind.i64.wrap ((c:Int)+1)=(c:Int)+1:=IntWalk.i64_in _ ⟨by omega,by omega⟩;have z:=i.out c wr hc b;have J:=z.1;have z2:=z.2;have hs:=H.out c;have b6:=E.out c;cases hk:d.l.getD c none with
   |none=>have q:whoB P d.l c=false:=y.out c _ hk;rw[hk]at J;rw[if_neg (by rw[q];decide),List.append_nil]at hs;replace J:wr.cell? ⟨x.lb,c,.none⟩=some (.pointer none):=J;replace hs:=hd' hs;clear q hk z;go_wp2_with fail;exact⟨⟨c+1,by omega,by go_num,b,by rw[hs.out];exact j⟩,by simp only[intOf];omega⟩
   |some k=>
    have q:whoB P d.l c=P k:=y.out c _ hk
    rw[hk]at J
    replace J:wr.cell? ⟨x.lb,c,.none⟩=some (.pointer (some ⟨x.qs c,0,.none⟩)):=J
    have M:=O.out c k wr hk b
    have b2:=b.size
    rw[q]at hs
    generalize P k=pk at *
    generalize whoL P d.l c=L at *
    replace M:=hd' M
    clear q hk z
    cases pk with
    |false=>
     rw[if_neg (by decide),List.append_nil]at hs
     replace hs:=hd' hs
     go_wp2_with (first|(go_at_call 49;(with_reducible refine M.out.mono ?_);rintro r w6 ⟨rfl,m⟩))
     have N:=zA b m
     exact⟨⟨c+1,by omega,by go_num,N,by rw[hs.out];exact dL j m⟩,by simp only[intOf];omega⟩
    |true=>
     rw[if_pos rfl]at hs
     replace hs:=hd' hs
     go_wp2_with (first|(go_at_call 49;(with_reducible refine M.out.mono ?_);rintro r w6 ⟨rfl,m⟩;have N:=zA b m;have b8:=m.size;have D:=dL j m)|(refine AG rfl (.tmp 27) (.tmp 29) 57 rfl W.heap.size 3 i0 _ 1 8 Tryz.underlying57 R S T U rfl (by omega) _ L.length _ rfl (D.alloc _) _ 1 [.int .i64 c] rfl (RdS.new (cs:= #[c]) (t:=3) (sz:=1) (n:=1) (heap_alloc_new w6 _) rfl (by omega)) (by intro u hu;simp at hu;subst hu;rfl) (by simp only[maxLen];omega) (by omega) (by simp;omega) ?_;intro v7 w7 G C Y;have h7:=bE (N.alloc (by omega) _) (D.alloc _) (by simp;omega) C))
     exact⟨⟨c+1,by omega,by go_num,h7,by rw[hs.out,List.length_append,List.map_append];exact G⟩,by simp only[intOf];omega⟩
  obtain rfl:c=n:=by omega
  have b7:¬ (c:Int)<(c:Int):=by omega
  go_wp2_with fail;go_returns;exact⟨_,rfl,b,j⟩
theorem ycy(h:WdP B F W g s d x)(m:d.l.length<=100):
  Calls Tryz.prog 22 #[some g] W fun e w'=>∃ v,e= .returned v/\Below W.heap.size W w'/\w'.ownsRow W.heap.size 3 1 v (whoL (fun k=>!k.rests) d.l d.l.length).length ((whoL (fun k=>!k.rests) d.l d.l.length).map (Value.int .i64)):=by
 have o:=hd' (z2d h m (fun k=>!k.rests) (fun c k X j hb=>by
  have hi:=hd' (GX ((h.below hb).cl c k j))
  generalize k.rests=b at *
  go_in
  go_wp2_with (first
   |(go_at_call 45;(with_reducible refine hi.out.mono ?_);rintro r p ⟨rfl,i⟩;obtain rfl:=i.symm))
  go_returns
  exact⟨rfl,Below.refl _ _⟩))
 clear h;go_in;go_wp2_with (first|(go_at_call 46;(with_reducible refine o.out.mono ?_);rintro r p ⟨v,rfl,hb,n⟩));go_returns;exact⟨_,rfl,hb,n⟩
end

end Go.Proofs.YtmmbicppdjgbmaaGreat
