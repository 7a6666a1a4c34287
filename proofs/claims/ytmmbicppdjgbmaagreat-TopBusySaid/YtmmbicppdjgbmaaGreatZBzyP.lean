/- All who live adopt one that is dead, each when it likes: what is behind the rounds. Plain. -/
import Derived.Test.YtmmbicppdjgbmaaGreatBw45

set_option linter.all false
namespace Go.Proofs.YtmmbicppdjgbmaaGreat

theorem yom{d:Wd}:∀ y ∈ whoL (fun _=>true) d.l d.l.length,∃ k,d.kl y=some k:=fun y b=>by
 unfold whoL at b
 obtain⟨a,f,rfl⟩:=List.mem_map.1 b
 obtain⟨_,h2⟩:=List.mem_filter.1 f
 unfold whoB at h2
 cases hx:d.l.getD a none with
 |none=>rw[hx]at h2;cases h2
 |some k=>exact⟨k,by unfold Wd.kl;rw[jP (by omega)];exact hx⟩
theorem yob{d:Wd}{x:Int}(h:∃ k,d.kl x=some k):x ∈ whoL (fun _=>true) d.l d.l.length:=by
 obtain⟨k,f⟩:=h;have b:=Wd.gC f;unfold Wd.kl at f;rw[jP b.1]at f;have h1:=yqq b.2 f;rwa [Int.toNat_of_nonneg b.1]at h1
def UI (LL us:List Int):List Int:=if LL= [] then [] else us.map fun u=> LL.getD (u.toNat % LL.length) 0
theorem yn7(LL b:List Int):(UI LL b).length<=b.length:=by
 unfold UI;split
 ·exact Nat.zero_le _
 rw[List.length_map];exact Nat.le_refl _
section

variable {s:Sh} {dK:Wd} {n:Nat} {LL TL:List Int} {R:Nat}

theorem yr1(b:AI s dK n)(x:Int):(∃ k,(rndN s LL (mC s (invL s dK LL) TL) R).kl x=some k)↔∃ k,dK.kl x=some k:=
 ((kS (vH (yH b LL) TL) LL R x).trans (TN (yH b LL) TL x)).trans (pS b LL x)
theorem yqk(b:AI s dK n)(i:∀ x,(∃ k,dK.kl x=some k)->x ∈ LL)(f:WA s<=R):∀ x k,(rndN s LL (mC s (invL s dK LL) TL) R).kl x=some k->k.job=none:=
 ynt (vH (yH b LL) TL) (fun x j=>i x ((pS b LL x).1 ((TN (yH b LL) TL x).1 j))) f
theorem yqm(b:AI s dK n)(hc:0<s.c)(f:Gone s dK 0):Gone s (rndN s LL (mC s (invL s dK LL) TL) R) 0:=
 have h0:(0:Int)<=0/\(0:Int)<s.c:=⟨Int.le_refl _,hc⟩
 yn0 (FR (ynr f b h0 LL) (yH b LL) h0 TL) (vH (yH b LL) TL) h0 LL R
end

end Go.Proofs.YtmmbicppdjgbmaaGreat
