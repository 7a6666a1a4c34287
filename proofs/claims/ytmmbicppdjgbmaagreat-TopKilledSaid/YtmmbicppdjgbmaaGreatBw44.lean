/- Lemmas for the claim. -/
import Derived.Test.YtmmbicppdjgbmaaGreatBw36

set_option linter.all false
namespace Go.Proofs.YtmmbicppdjgbmaaGreat

section

variable {J:Jd} {e:Ev} {W:Int} {L:List Bk} {o:Op3} {c:Int}

theorem RI(h:(whyJ J.W J.l J.ps e).c=0):¬ (e.c<0\/(J.ps.length:Int)<=e.c\/e.k<0\/5<e.k):=by
 intro h1;unfold whyJ at h;rw[jP h1]at h;exact absurd h (show (1:Int)≠0 by decide)
theorem EN(h:(whyJ J.W J.l J.ps e).c=0)(f:3<=e.k):(J.pt e.c).lives=true/\(J.pt e.c).asks=true:=by
 have h1:=RI h;unfold whyJ at h;rw[jN h1,jN (by omega)]at h;by_cases h2:(J.ps.getD e.c.toNat Pt.zero).lives=false\/(J.ps.getD e.c.toNat Pt.zero).asks=false
 ·rw[jP h2]at h;exact absurd h (show (1:Int)≠0 by decide)
 have h3:(J.pt e.c).lives=true:=by
  cases h4:(J.pt e.c).lives
  ·exact absurd (.inl h4) h2
  rfl
 have b:(J.pt e.c).asks=true:=by
  cases h4:(J.pt e.c).asks
  ·exact absurd (.inr h4) h2
  rfl
 exact⟨h3,b⟩
theorem KN(f:J.why=0)(h:(CA J e).why=0)(i:e.k=3):DC J.W J.l (J.pt e.c) e=0/\ZH J (CA J e) e.c (putB J.l e.at' e.n) { J.pt e.c with took:=true,at':=e.at'}:=by
 have h0:=xH f h;have h1:=RI h0;obtain⟨h2,h3⟩:=EN h0 (by omega);have b:whyJ J.W J.l J.ps e=if DC J.W J.l (J.pt e.c) e=0 then⟨0,putB J.l e.at' e.n,J.ps.set e.c.toNat { J.pt e.c with took:=true,at':=e.at'}⟩ else⟨DC J.W J.l (J.pt e.c) e,J.l,J.ps⟩:=by
  unfold whyJ
  rw[jN h1,jN (by omega),jN (by
   intro h4
   rcases h4 with h4|h4
   ·exact absurd (h2.symm.trans h4) (by decide)
   ·exact absurd (h3.symm.trans h4) (by decide)),jP i]
  rfl
 by_cases h4:DC J.W J.l (J.pt e.c) e=0
 ·rw[jP h4]at b;exact⟨h4,lF f ⟨by omega,by omega⟩ b⟩
 rw[jN h4]at b;rw[b]at h0;exact absurd h0 h4
end

end Go.Proofs.YtmmbicppdjgbmaaGreat
