/- Texts bound together: InvN InvH InvI. -/
import Derived.Test.YtampacmmhhilaaaGreatBq24

import Derived.Test.YtampacmmhhilaaaGreatBq38

set_option linter.all false
namespace Go.Proofs.YtampacmmhhilaaaGreat

section

def rsA (s:Sh) (t:Rs) (σ:Ab):Rs × Ab:=match t.seeker,t.runner with
 | some x,_=> ({ t with seeker:=some (skA s x σ).1 },(skA s x σ).2)
 | none,some x=> ({ t with runner:=some (rnA s x σ).1 },(rnA s x σ).2)
 | none,none=> (t,σ)
def cmA (t:Cm) (σ:Ab):Cm × Ab:=
 if t.done=true then (t,σ)
 else ({ t with done:=true },if t.b.large=true then σ.page t.b.page (.large t.b.pages) else σ.slot t.b.page t.b.slot (.taken t.b.k))
def unA (t:Un) (σ:Ab):Un × Ab:=
 if t.done=true then (t,σ)
 else if t.b.large=false then ({ t with done:=true },σ.slot t.b.page t.b.slot (.opened t.b.k))
 else if t.i=t.b.pages - 1 then ({ t with done:=true },σ.page t.b.page .empty)
 else ({ t with i:=t.i + 1 },σ.page (t.b.page + t.i + 1) .empty)
def Fe.zeg (t:Fe) (x:PW):Fe:=
 let t':Fe:= { t with word:=x.enc,pk:=x.kind,pa:=x.pa,pb:=x.pb,next:=1 }
 if x.kind=3/\t.a % 64=0 then t' else if x.kind=2/\t.a % 64 % zbj x.pa=0 then { t' with slot:=t.a % 64 / zbj x.pa } else { t' with done:=true }
def Fe.gotA (s:Sh) (t:Fe) (g:Bool):Fe:=
 let t':Fe:= { t with gave:=g,next:=3 }
 let t'':Fe:=if t.pb=t.c then ({ t' with put:=some (zg5 s t.c t.page t.slot t.pa),next:=2 }:Fe).kept else t'
 { t'' with done:= !g }
def feA (s:Sh) (t:Fe) (σ:Ab):Fe × Ab:=
 if t.done=true then (t,σ)
 else if t.next=0 then (t.zeg (σ.pg t.page),σ)
 else if t.next=1 then
  if t.pk=3 then (if (σ.pg t.page).enc=t.word then ({ t with gave:=true,next:=4,done:=false },σ.page t.page (.held t.c)) else ({ t with gave:=false,next:=4,done:=true },σ))
  else if σ.sl t.page t.slot= .taken t.pa then (t.gotA s true,σ.slot t.page t.slot (.way t.c)) else (t.gotA s false,σ)
 else if t.next=2 then match t.put with
  | some x=> (({ t with put:=some (puA s x σ).1 }:Fe).kept,(puA s x σ).2)
  | none=> (t,σ)
 else if t.next=3 then ({ t with done:=true },σ.slot t.page t.slot (.opened t.pa))
 else if t.i=t.pa - 1 then ({ t with done:=true },σ.page t.page .empty)
 else ({ t with i:=t.i + 1 },σ.page (t.page + t.i + 1) .empty)
def rrA (s:Sh) (t:Rr) (σ:Ab):Rr × Ab:=
 if t.done=true then (t,σ)
 else match t.res,t.free with
  | some r,some f=>
   if r.done=false then (Rr.settle s { t with res:=some (rsA s r σ).1 },(rsA s r σ).2)
   else if f.done=false then (Rr.settle s { t with free:=some (feA s f σ).1 },(feA s f σ).2)
   else match t.undo,t.com with
    | some u,_=> (Rr.settle s { t with undo:=some (unA u σ).1 },(unA u σ).2)
    | none,some u=> (Rr.settle s { t with com:=some (cmA u σ).1 },(cmA u σ).2)
    | none,none=> (t,σ)
  | _,_=> (t,σ)
def Ad.zkp (t:Ad) (x:PW):Ad:= { t with pk:=x.kind,pa:=x.pa,pb:=x.pb }
def adA (s:Sh) (t:Ad) (σ:Ab):Ad × Ab:=
 if t.done=true then (t,σ)
 else if t.next=0 then
  (match σ.st t.d with
   | .dead=> { t with was:=(σ.st t.d).enc,next:=2 }
   | .owned a=> { t with was:=(σ.st t.d).enc,who:=a,next:=1 }
   | _=> ({ t with was:=(σ.st t.d).enc }:Ad).fin 5,σ)
 else if t.next=1 then (if σ.st t.who= .live then ({ t with next:=2 }:Ad).fin 4 else { t with next:=2 },σ)
 else if t.next=2 then (if (σ.st t.d).enc=t.was then ({ t with next:=3 },σ.stat t.d (.owned t.c)) else (({ t with next:=3 }:Ad).fin 4,σ))
 else if t.next=3 then (match σ.pg t.at' with | .body h=> { t.zkp (.body h) with next:=4 } | x=> (t.zkp x).turn s 3 6,σ)
 else if t.next=4 then (if σ.pg t.pa= .held t.d then { t with next:=5 } else t.turn s 3 6,σ)
 else if t.next=5 then (t.turn s 3 6,σ.page t.at' .empty)
 else if t.next=6 then (if σ.pg t.at'= .held t.d then { t with next:=7,i:=0 } else t.turn s 6 9,σ)
 else if t.next=7 then (if t.i + 1=16 then { t with i:=t.i + 1,next:=8 } else { t with i:=t.i + 1 },σ.slot t.at' t.i .none)
 else if t.next=8 then (t.turn s 6 9,σ.page t.at' .empty)
 else if t.next=9 then (if t.i + 1=s.m then { t with i:=0,next:=10 } else { t with i:=t.i + 1 },σ.mag t.d t.i .none)
 else if t.next=10 then (match σ.pg t.at' with | .super k b=> { t.zkp (.super k b) with next:=11,i:=0 } | x=> (t.zkp x).turn s 10 13,σ)
 else if t.next=11 then (if σ.sl t.at' t.i= .way t.d then { t with next:=12 } else t.slot s,σ)
 else if t.next=12 then (t.slot s,σ.slot t.at' t.i (.opened t.pa))
 else (t.fin 0,σ.stat t.d .done)
def Jb.zhf (s:Sh) (cl:Int) (σ:Ab):Jb->Jb × Ab
 | .mal r c=> if r.done=false then (.mal (rsA s r σ).1 c,(rsA s r σ).2) else match zhp s cl r c with
  | some x=> (.mal r (some (cmA x σ).1),(cmA x σ).2)
  | none=> (.mal r none,σ)
 | .fre f=> (.fre (feA s f σ).1,(feA s f σ).2)
 | .aga r=> (.aga (rrA s r σ).1,(rrA s r σ).2)
 | .hei a=> (.hei (adA s a σ).1,(adA s a σ).2)
variable {s:Sh} {m:Mem} {σ:Ab}

theorem z0x {t:Rs} (hr:Rep s m σ) (hg:GI s σ) (h:(∀ x,t.seeker=some x->skOk s x)/\(∀ x,t.runner=some x->rnOk s x)):Sim s (zb0 s t m) (rsA s t σ):=by
 obtain ⟨k,pg,sk,rn⟩:=t
 unfold zb0 rsA
 rcases sk with _ | x
 ·rcases rn with _ | y
  ·exact ⟨rfl,hr⟩
  ·have:=yc2 hr hg (h.2 y rfl)
   dsimp only
   rw [this.1]
   exact ⟨rfl,this.2⟩
 ·have:=yda hr hg (h.1 x rfl)
  dsimp only
  rw [this.1]
  exact ⟨rfl,this.2⟩
theorem z9g {t:Cm} (hr:Rep s m σ) (h:cmOk s t):Sim s (zb3 s t m) (cmA t σ):=by
 unfold zb3 cmA
 by_cases hd:t.done=true
 ·rw [if_pos hd,if_pos hd];exact ⟨rfl,hr⟩
 ·rw [if_neg hd,if_neg hd]
  obtain ⟨_,_,h3,h4,h5⟩:=zdi.1 (h (by simpa using hd))
  by_cases hl:t.b.large=true
  ·rw [if_pos hl,if_pos hl];exact ⟨rfl,hr.zd7 h3 (.large t.b.pages) rfl⟩
  ·rw [if_neg hl,if_neg hl]
   have h6:=h5 (by simpa using hl)
   have:=zcy t.b.k
   exact ⟨rfl,hr.setSlot h3 (by omega) (.taken t.b.k) rfl⟩
theorem yd1 {t:Un} (hr:Rep s m σ) (h:unOk s t):Sim s (zcf s t m) (unA t σ):=by
 unfold zcf unA
 by_cases hd:t.done=true
 ·rw [if_pos hd,if_pos hd];exact ⟨rfl,hr⟩
 ·rw [if_neg hd,if_neg hd]
  obtain ⟨h1,h2⟩:=h.cl (by simpa using hd)
  obtain ⟨_,_,h3,h4,h5⟩:=zdi.1 h1
  by_cases hl:t.b.large=false
  ·rw [if_pos hl,if_pos hl]
   have h6:=h5 hl
   have:=zcy t.b.k
   exact ⟨rfl,hr.setSlot h3 (by omega) (.opened t.b.k) rfl⟩
  ·rw [if_neg hl,if_neg hl]
   have hl':t.b.large=true:=by simpa using hl
   have h6:=h4 hl'
   have h7:=h2 hl'
   by_cases hi:t.i=t.b.pages - 1
   ·rw [if_pos hi,if_pos hi];exact ⟨rfl,hr.zd7 h3 .empty rfl⟩
   ·rw [if_neg hi,if_neg hi];exact ⟨rfl,hr.zd7 (by omega) .empty rfl⟩
theorem z9o {t:Fe} (hr:Rep s m σ) (hg:GI s σ) (h:feOk s t):Sim s (zca s t m) (feA s t σ):=by
 unfold zca feA
 by_cases hd:t.done=true
 ·rw [if_pos hd,if_pos hd];exact ⟨rfl,hr⟩
 ·rw [if_neg hd,if_neg hd]
  obtain ⟨c1,c2,c3,c4,c5,c6,c7,c8,c9,c10⟩:=h.cl (by simpa using hd)
  by_cases h0:t.next=0
  ·rw [if_pos h0,if_pos h0]
   refine ⟨?_,hr.same rfl⟩
   obtain ⟨r1,r2,r3,r4⟩:=hr.read hg c2
   unfold Fe.look Fe.zeg
   dsimp only
   rw [r1,r2,r3,r4,hr.pg _ c2]
   simp only [if_true,true_and]
  ·rw [if_neg h0,if_neg h0]
   by_cases h1:t.next=1
   ·rw [if_pos h1,if_pos h1]
    unfold Fe.claim
    rcases c6 (by omega) with ⟨k1,k2,k3,k4⟩ | ⟨k1,k2,k3⟩
    ·rw [if_pos k1,if_pos k1]
     dsimp only
     rw [hr.pg _ c2]
     by_cases e:(σ.pg t.page).enc=t.word
     ·rw [if_pos e,decide_eq_true e]
      exact ⟨rfl,hr.zd7 c2 (.held t.c) (zgz (by rw [hr.pg _ c2];exact e))⟩
     ·rw [if_neg e,decide_eq_false e]
      exact ⟨rfl,hr.same (zjl (by rw [hr.pg _ c2];exact e))⟩
    ·rw [if_neg (by omega),if_neg (by omega)]
     have hsl:0<=t.slot/\t.slot < 16:=by have:=zcy t.pa;omega
     have ho:=hr.zlw hg c2 hsl (u:= .taken t.pa) (zgr k2)
     dsimp only
     by_cases e:σ.sl t.page t.slot= .taken t.pa
     ·have e2:m.get (zbk s.p s.c s.m t.page t.slot)=zfl t.pa:=ho.2 e
      rw [if_pos e,decide_eq_true e2]
      exact ⟨rfl,hr.setSlot c2 hsl (.way t.c) (zgz e2)⟩
     ·have e2:¬ m.get (zbk s.p s.c s.m t.page t.slot)=zfl t.pa:=fun e2=> e (ho.1 e2)
      rw [if_neg e,decide_eq_false e2]
      exact ⟨rfl,hr.same (zjl e2)⟩
   ·rw [if_neg h1,if_neg h1]
    by_cases h2:t.next=2
    ·rw [if_pos h2,if_pos h2]
     obtain ⟨_,x,hx,hxo,_⟩:=c8 h2
     rw [hx]
     have:=yfk hr hg hxo
     dsimp only
     rw [this.1]
     exact ⟨rfl,this.2⟩
    ·rw [if_neg h2,if_neg h2]
     by_cases h3:t.next=3
     ·rw [if_pos h3,if_pos h3]
      rcases c6 (by omega) with ⟨k1,k2,k3,k4⟩ | ⟨k1,k2,k3⟩
      ·have:=c9 h3;omega
      ·have:=zcy t.pa
       exact ⟨rfl,hr.setSlot c2 (by omega) (.opened t.pa) rfl⟩
     ·rw [if_neg h3,if_neg h3]
      have h4:=c10 (by omega)
      rcases c6 (by omega) with ⟨k1,k2,k3,k4⟩ | ⟨k1,k2,k3⟩
      ·by_cases hi:t.i=t.pa - 1
       ·rw [if_pos hi,if_pos hi];exact ⟨rfl,hr.zd7 c2 .empty rfl⟩
       ·rw [if_neg hi,if_neg hi];exact ⟨rfl,hr.zd7 (by omega) .empty rfl⟩
      ·omega
theorem ydv {t:Rr} (hr:Rep s m σ) (hg:GI s σ) (h:rrOk s t):Sim s (zb9 s t m) (rrA s t σ):=by
 unfold zb9 rrA
 by_cases hd:t.done=true
 ·rw [if_pos hd,if_pos hd];exact ⟨rfl,hr⟩
 ·rw [if_neg hd,if_neg hd]
  obtain ⟨r,f,e1,e2,h1,h2,h3,h4,h5,h6⟩:=h.cl (by simpa using hd)
  rw [e1,e2]
  dsimp only
  by_cases hrd:r.done=false
  ·rw [if_pos hrd,if_pos hrd]
   have:=z0x hr hg h1
   rw [this.1]
   exact ⟨rfl,this.2⟩
  ·rw [if_neg hrd,if_neg hrd]
   by_cases hfd:f.done=false
   ·rw [if_pos hfd,if_pos hfd]
    have:=z9o hr hg h2
    rw [this.1]
    exact ⟨rfl,this.2⟩
   ·rw [if_neg hfd,if_neg hfd]
    rcases hu:t.undo with _ | u
    ·rcases hc:t.com with _ | v
     ·exact ⟨rfl,hr⟩
     ·have:=z9g hr (h4 v hc)
      dsimp only
      rw [this.1]
      exact ⟨rfl,this.2⟩
    ·have:=yd1 hr (h3 u hu)
     dsimp only
     rw [this.1]
     exact ⟨rfl,this.2⟩
theorem Rep.ownB (hr:Rep s m σ) (hg:GI s σ) {p:Int} (hp:0<=p/\p < s.p) (t:Ad):t.own s p (m.get (zak s.p s.c s.m p))=true↔σ.pg p= .held t.d:=by
 obtain ⟨r1,r2,r3,r4⟩:=hr.read hg hp
 unfold Ad.own
 rw [r1,r2,r3]
 cases σ.pg p <;> simp [PW.kind,PW.pa]
theorem zz9 (hr:Rep s m σ) (hg:GI s σ) {p:Int} (hp:0<=p/\p < s.p) (t:Ad):t.page s p (m.get (zak s.p s.c s.m p))=t.zkp (σ.pg p)/\pgK s p (m.get (zak s.p s.c s.m p))=(σ.pg p).kind:=by
 obtain ⟨r1,r2,r3,r4⟩:=hr.read hg hp
 unfold Ad.page Ad.zkp pgK pgP
 rw [r1,r2,r3,r4]
 exact ⟨rfl,rfl⟩
theorem ya2 {t:Ad} (hd:t.done=false) (e:t.next=0):adA s t σ=(match σ.st t.d with
   | .dead=> { t with was:=(σ.st t.d).enc,next:=2 }
   | .owned a=> { t with was:=(σ.st t.d).enc,who:=a,next:=1 }
   | _=> ({ t with was:=(σ.st t.d).enc }:Ad).fin 5,σ):=by unfold adA;rw [if_neg (by rw [hd];decide)];rw [if_pos e]
theorem yc1 {t:Ad} (hd:t.done=false) (e:t.next=1):adA s t σ=(if σ.st t.who= .live then ({ t with next:=2 }:Ad).fin 4 else { t with next:=2 },σ):=by unfold adA;rw [if_neg (by rw [hd];decide)];rw [if_neg (show ¬ t.next=0 by omega)];rw [if_pos e]
theorem yee {t:Ad} (hd:t.done=false) (e:t.next=2):adA s t σ=(if (σ.st t.d).enc=t.was then ({ t with next:=3 },σ.stat t.d (.owned t.c)) else (({ t with next:=3 }:Ad).fin 4,σ)):=by unfold adA;rw [if_neg (by rw [hd];decide)];rw [if_neg (show ¬ t.next=0 by omega)];rw [if_neg (show ¬ t.next=1 by omega)];rw [if_pos e]
theorem ydj {t:Ad} (hd:t.done=false) (e:t.next=3):adA s t σ=(match σ.pg t.at' with | .body h=> { t.zkp (.body h) with next:=4 } | x=> (t.zkp x).turn s 3 6,σ):=by unfold adA;rw [if_neg (by rw [hd];decide)];rw [if_neg (show ¬ t.next=0 by omega)];rw [if_neg (show ¬ t.next=1 by omega)];rw [if_neg (show ¬ t.next=2 by omega)];rw [if_pos e]
theorem yd0 {t:Ad} (hd:t.done=false) (e:t.next=4):adA s t σ=(if σ.pg t.pa= .held t.d then { t with next:=5 } else t.turn s 3 6,σ):=by unfold adA;rw [if_neg (by rw [hd];decide)];rw [if_neg (show ¬ t.next=0 by omega)];rw [if_neg (show ¬ t.next=1 by omega)];rw [if_neg (show ¬ t.next=2 by omega)];rw [if_neg (show ¬ t.next=3 by omega)];rw [if_pos e]
theorem ydy {t:Ad} (hd:t.done=false) (e:t.next=5):adA s t σ=(t.turn s 3 6,σ.page t.at' .empty):=by unfold adA;rw [if_neg (by rw [hd];decide)];rw [if_neg (show ¬ t.next=0 by omega)];rw [if_neg (show ¬ t.next=1 by omega)];rw [if_neg (show ¬ t.next=2 by omega)];rw [if_neg (show ¬ t.next=3 by omega)];rw [if_neg (show ¬ t.next=4 by omega)];rw [if_pos e]
theorem ydn {t:Ad} (hd:t.done=false) (e:t.next=6):adA s t σ=(if σ.pg t.at'= .held t.d then { t with next:=7,i:=0 } else t.turn s 6 9,σ):=by unfold adA;rw [if_neg (by rw [hd];decide)];rw [if_neg (show ¬ t.next=0 by omega)];rw [if_neg (show ¬ t.next=1 by omega)];rw [if_neg (show ¬ t.next=2 by omega)];rw [if_neg (show ¬ t.next=3 by omega)];rw [if_neg (show ¬ t.next=4 by omega)];rw [if_neg (show ¬ t.next=5 by omega)];rw [if_pos e]
theorem yd2 {t:Ad} (hd:t.done=false) (e:t.next=7):adA s t σ=(if t.i + 1=16 then { t with i:=t.i + 1,next:=8 } else { t with i:=t.i + 1 },σ.slot t.at' t.i .none):=by unfold adA;rw [if_neg (by rw [hd];decide)];rw [if_neg (show ¬ t.next=0 by omega)];rw [if_neg (show ¬ t.next=1 by omega)];rw [if_neg (show ¬ t.next=2 by omega)];rw [if_neg (show ¬ t.next=3 by omega)];rw [if_neg (show ¬ t.next=4 by omega)];rw [if_neg (show ¬ t.next=5 by omega)];rw [if_neg (show ¬ t.next=6 by omega)];rw [if_pos e]
theorem yei {t:Ad} (hd:t.done=false) (e:t.next=8):adA s t σ=(t.turn s 6 9,σ.page t.at' .empty):=by unfold adA;rw [if_neg (by rw [hd];decide)];rw [if_neg (show ¬ t.next=0 by omega)];rw [if_neg (show ¬ t.next=1 by omega)];rw [if_neg (show ¬ t.next=2 by omega)];rw [if_neg (show ¬ t.next=3 by omega)];rw [if_neg (show ¬ t.next=4 by omega)];rw [if_neg (show ¬ t.next=5 by omega)];rw [if_neg (show ¬ t.next=6 by omega)];rw [if_neg (show ¬ t.next=7 by omega)];rw [if_pos e]
theorem yeh {t:Ad} (hd:t.done=false) (e:t.next=9):adA s t σ=(if t.i + 1=s.m then { t with i:=0,next:=10 } else { t with i:=t.i + 1 },σ.mag t.d t.i .none):=by unfold adA;rw [if_neg (by rw [hd];decide)];rw [if_neg (show ¬ t.next=0 by omega)];rw [if_neg (show ¬ t.next=1 by omega)];rw [if_neg (show ¬ t.next=2 by omega)];rw [if_neg (show ¬ t.next=3 by omega)];rw [if_neg (show ¬ t.next=4 by omega)];rw [if_neg (show ¬ t.next=5 by omega)];rw [if_neg (show ¬ t.next=6 by omega)];rw [if_neg (show ¬ t.next=7 by omega)];rw [if_neg (show ¬ t.next=8 by omega)];rw [if_pos e]
theorem z9b {t:Ad} (hd:t.done=false) (e:t.next=10):adA s t σ=(match σ.pg t.at' with | .super k b=> { t.zkp (.super k b) with next:=11,i:=0 } | x=> (t.zkp x).turn s 10 13,σ):=by unfold adA;rw [if_neg (by rw [hd];decide)];rw [if_neg (show ¬ t.next=0 by omega)];rw [if_neg (show ¬ t.next=1 by omega)];rw [if_neg (show ¬ t.next=2 by omega)];rw [if_neg (show ¬ t.next=3 by omega)];rw [if_neg (show ¬ t.next=4 by omega)];rw [if_neg (show ¬ t.next=5 by omega)];rw [if_neg (show ¬ t.next=6 by omega)];rw [if_neg (show ¬ t.next=7 by omega)];rw [if_neg (show ¬ t.next=8 by omega)];rw [if_neg (show ¬ t.next=9 by omega)];rw [if_pos e]
theorem z8z {t:Ad} (hd:t.done=false) (e:t.next=11):adA s t σ=(if σ.sl t.at' t.i= .way t.d then { t with next:=12 } else t.slot s,σ):=by unfold adA;rw [if_neg (by rw [hd];decide)];rw [if_neg (show ¬ t.next=0 by omega)];rw [if_neg (show ¬ t.next=1 by omega)];rw [if_neg (show ¬ t.next=2 by omega)];rw [if_neg (show ¬ t.next=3 by omega)];rw [if_neg (show ¬ t.next=4 by omega)];rw [if_neg (show ¬ t.next=5 by omega)];rw [if_neg (show ¬ t.next=6 by omega)];rw [if_neg (show ¬ t.next=7 by omega)];rw [if_neg (show ¬ t.next=8 by omega)];rw [if_neg (show ¬ t.next=9 by omega)];rw [if_neg (show ¬ t.next=10 by omega)];rw [if_pos e]
theorem z9f {t:Ad} (hd:t.done=false) (e:t.next=12):adA s t σ=(t.slot s,σ.slot t.at' t.i (.opened t.pa)):=by unfold adA;rw [if_neg (by rw [hd];decide)];rw [if_neg (show ¬ t.next=0 by omega)];rw [if_neg (show ¬ t.next=1 by omega)];rw [if_neg (show ¬ t.next=2 by omega)];rw [if_neg (show ¬ t.next=3 by omega)];rw [if_neg (show ¬ t.next=4 by omega)];rw [if_neg (show ¬ t.next=5 by omega)];rw [if_neg (show ¬ t.next=6 by omega)];rw [if_neg (show ¬ t.next=7 by omega)];rw [if_neg (show ¬ t.next=8 by omega)];rw [if_neg (show ¬ t.next=9 by omega)];rw [if_neg (show ¬ t.next=10 by omega)];rw [if_neg (show ¬ t.next=11 by omega)];rw [if_pos e]
theorem z8n {t:Ad} (hd:t.done=false) (e:t.next=13):adA s t σ=(t.fin 0,σ.stat t.d .done):=by unfold adA;rw [if_neg (by rw [hd];decide)];rw [if_neg (show ¬ t.next=0 by omega)];rw [if_neg (show ¬ t.next=1 by omega)];rw [if_neg (show ¬ t.next=2 by omega)];rw [if_neg (show ¬ t.next=3 by omega)];rw [if_neg (show ¬ t.next=4 by omega)];rw [if_neg (show ¬ t.next=5 by omega)];rw [if_neg (show ¬ t.next=6 by omega)];rw [if_neg (show ¬ t.next=7 by omega)];rw [if_neg (show ¬ t.next=8 by omega)];rw [if_neg (show ¬ t.next=9 by omega)];rw [if_neg (show ¬ t.next=10 by omega)];rw [if_neg (show ¬ t.next=11 by omega)];rw [if_neg (show ¬ t.next=12 by omega)]
theorem ye4 {t:Ad} (hr:Rep s m σ) (hg:GI s σ) (h:adOk s t):Sim s (za0 s t m) (adA s t σ):=by
 by_cases hd:t.done=true
 ·rw [zkx s t m hd];unfold adA;rw [if_pos hd];exact ⟨rfl,hr⟩
 ·have hd':t.done=false:=by simpa using hd
  obtain ⟨c1,c2,c3,c4,c5,c6,c7,c8,c9,c10⟩:=h.cl hd'
  obtain ⟨rd1,rd2,rd3,rd4⟩:=hr.read hg c5
  obtain ⟨kp1,kp2⟩:=zz9 hr hg c5 t
  have hst:=fun c hc=> hr.st c hc
  have hn:t.next=0\/t.next=1\/t.next=2\/t.next=3\/t.next=4\/t.next=5\/t.next=6\/t.next=7\/t.next=8\/t.next=9\/t.next=10\/t.next=11\/t.next=12\/t.next=13:=by omega
  rcases hn with e | e | e | e | e | e | e | e | e | e | e | e | e | e
  ·rw [zl2 s t m hd' e,ya2 hd' e]
   refine ⟨?_,hr.same rfl⟩
   obtain ⟨k1,k2⟩:=TW.read c1 (hg.tf t.d)
   unfold Ad.asked
   dsimp only
   rw [hst _ c3,k1,k2]
   have hf:=hg.tf t.d
   cases hx:σ.st t.d with
   | owned a=>
    rw [hx] at hf
    have:zae s.p s.c s.m a=a:=by unfold zae;rw [if_pos ⟨c1,zbc.2 (by simp only [TW.fit] at hf;omega)⟩]
    simp only [TW.fit] at hf
    have ha0:¬ a < 0:=by omega
    simp [TW.kind,TW.pa,this,ha0]
   | _=> simp [TW.kind]
  ·rw [zmf s t m hd' e,yc1 hd' e]
   refine ⟨?_,hr.same rfl⟩
   have hw:=c6 e
   obtain ⟨k1,k2⟩:=TW.read c1 (hg.tf t.who)
   dsimp only
   rw [hst _ hw,k1]
   cases σ.st t.who <;> simp [TW.kind]
  ·rw [zlx s t m hd' e,yee hd' e]
   by_cases hx:(σ.st t.d).enc=t.was
   ·have hx':m.get (zae s.p s.c s.m t.d)=t.was:=(hst _ c3).trans hx
    rw [if_pos hx,if_pos hx']
    exact ⟨rfl,hr.zpm c3 (.owned t.c) (zgz hx')⟩
   ·have hx':¬ m.get (zae s.p s.c s.m t.d)=t.was:=fun k=> hx ((hst _ c3).symm.trans k)
    rw [if_neg hx,if_neg hx']
    exact ⟨rfl,hr.same (zjl hx')⟩
  ·rw [zl7 s t m hd' e,ydj hd' e]
   refine ⟨?_,hr.same rfl⟩
   dsimp only
   rw [rd1,kp2,kp1]
   cases hx:σ.pg t.at' <;> simp [PW.kind]
  ·rw [zmc s t m hd' e,yd0 hd' e]
   refine ⟨?_,hr.same rfl⟩
   have ho:=hr.ownB hg (c7 e) t
   dsimp only
   by_cases hx:σ.pg t.pa= .held t.d
   ·rw [if_pos (ho.2 hx),if_pos hx]
   ·rw [if_neg (fun k=> hx (ho.1 k)),if_neg hx]
  ·rw [zl5 s t m hd' e,ydy hd' e]
   exact ⟨rfl,hr.zd7 c5 .empty rfl⟩
  ·rw [zmg s t m hd' e,ydn hd' e]
   refine ⟨?_,hr.same rfl⟩
   have ho:=hr.ownB hg c5 t
   dsimp only
   by_cases hx:σ.pg t.at'= .held t.d
   ·rw [if_pos (ho.2 hx),if_pos hx]
   ·rw [if_neg (fun k=> hx (ho.1 k)),if_neg hx]
  ·rw [zl3 s t m hd' e,yd2 hd' e]
   exact ⟨rfl,hr.setSlot c5 (c8 e) .none rfl⟩
  ·rw [zl6 s t m hd' e,yei hd' e]
   exact ⟨rfl,hr.zd7 c5 .empty rfl⟩
  ·rw [zl8 s t m hd' e,yeh hd' e]
   exact ⟨rfl,hr.z1g c3 (c9 e) .none rfl⟩
  ·rw [zjn s t m hd' e,z9b hd' e]
   refine ⟨?_,hr.same rfl⟩
   dsimp only
   rw [rd1,kp2,kp1]
   cases hx:σ.pg t.at' <;> simp [PW.kind]
  ·rw [zju s t m hd' e,z8z hd' e]
   refine ⟨?_,hr.same rfl⟩
   have h16:=c10 (.inl e)
   have:=zcy t.pa
   have ho:m.get (zbk s.p s.c s.m t.at' t.i)=zc3 2 t.d↔σ.sl t.at' t.i= .way t.d:=hr.zlw hg c5 (show 0<=t.i/\t.i < 16 by omega) (u:= .way t.d) c3
   dsimp only
   by_cases hx:σ.sl t.at' t.i= .way t.d
   ·rw [if_pos (ho.2 hx),if_pos hx]
   ·rw [if_neg (fun k=> hx (ho.1 k)),if_neg hx]
  ·rw [zkg s t m hd' e,z9f hd' e]
   have h16:=c10 (.inr e)
   have:=zcy t.pa
   exact ⟨rfl,hr.setSlot c5 (by omega) (.opened t.pa) rfl⟩
  ·rw [zj8 s t m hd' e,z8n hd' e]
   exact ⟨rfl,hr.zpm c3 .done rfl⟩
theorem ye9 {cl:Int} {j:Jb} (hr:Rep s m σ) (hg:GI s σ) (h:jbIs s cl j) (hcl:0<=cl/\cl < s.c):Sim s (j.step s cl m) (j.zhf s cl σ):=by
 cases j with
 | mal r c=>
  unfold Jb.step Jb.zhf
  dsimp only
  by_cases hd:r.done=false
  ·have:=z0x hr hg ⟨fun x hx=> (h.1.sk x hx).1.ok,fun x hx=> (h.1.rn x hx).ok⟩
   rw [if_pos hd,if_pos hd,this.1]
   exact ⟨rfl,this.2⟩
  ·rw [if_neg hd,if_neg hd]
   have hcm:∀ x,zhp s cl r c=some x->cmOk s x:=fun x hx=> by
    unfold zhp at hx
    rcases c with _ | y
    ·rcases hg':r.got with _ | b
     ·rw [hg'] at hx;cases hx
     ·rw [hg'] at hx;injection hx with hx;subst hx;exact zpt _ _ _
    ·have:some y=some x:=hx
     injection this with this;subst this
     intro e;rw [(h.2 y rfl).2.1] at e;cases e
   rcases hm:zhp s cl r c with _ | x
   ·exact ⟨rfl,hr⟩
   ·have:=z9g hr (hcm x hm)
    dsimp only
    rw [this.1]
    exact ⟨rfl,this.2⟩
 | fre f=> have:=z9o hr hg h.ok;exact ⟨congrArg Jb.fre this.1,this.2⟩
 | aga r=> have:=ydv hr hg h.ok;exact ⟨congrArg Jb.aga this.1,this.2⟩
 | hei a=> have:=ye4 hr hg h.1;exact ⟨congrArg Jb.hei this.1,this.2⟩
end

section

variable {s:Sh} {σ σ':Ab} {c:Int} {R:Own}

theorem zaz.zrk {o:Own} (h:zaz σ c (Own.no.add o)):zaz σ c o:=h.eq (fun _=> (or_iff_right id).symm) (fun _ _=> (or_iff_right id).symm) (fun _ _ _=> (or_iff_right id).symm)
theorem zaz.zeb {o:Own} (h:zaz σ c o):zaz σ c (Own.no.add o):=h.eq (fun _=> or_iff_right id) (fun _ _=> or_iff_right id) (fun _ _ _=> or_iff_right id)
def zgb (b:Blk):Own:=if b.large=true then (Own.page b.page).add (.bodies b.page (b.page + 1) (b.page + b.pages)) else .way b.page b.slot b.k
def zoa (b:Blk):Bl:=if b.large=true then .lar b.page b.pages else .sm b.page b.slot b.k
def zi6 (σ:Ab) (b:Blk):Prop:=b.large=true->zfr σ b.page (b.page + 1)
theorem zi6.same {b:Blk} (he:∀ p,(zgb b).h p->σ.pg p= .held c) (h:zi6 σ b) (hs:Same c σ σ'):zi6 σ' b:=fun hl=>
 (h hl).same (fun p h0 h1=> he p (by unfold zgb;rw [if_pos hl];exact .inl (show p=b.page by omega))) hs
def z3j (s:Sh) (t:Rs):Own:=match t.seeker,t.runner with
 | some x,_=> zey s x
 | none,some x=> zf2 x
 | none,none=> .no
def z0u (s:Sh) (c:Int) (σ:Ab) (t:Rs):Prop:=match t.seeker,t.runner with
 | some x,_=> zir s c σ x
 | none,some x=> zz8 c σ x
 | none,none=> True
structure RsAt (s:Sh) (c:Int) (σ:Ab) (t:Rs):Prop where
 ex:zaz σ c (z3j s t)
 inv:z0u s c σ t
theorem RsAt.same {t:Rs} (h:RsAt s c σ t) (hs:Same c σ σ'):RsAt s c σ' t:=by
 refine ⟨h.ex.same hs,?_⟩
 obtain ⟨h1,h2⟩:=h
 unfold z0u z3j at *
 obtain ⟨k,pg,sk,rn⟩:=t
 rcases sk with _ | x
 ·rcases rn with _ | y
  ·trivial
  ·exact h2.same h1 hs
 ·exact h2.same h1.zeb hs
structure ydm (s:Sh) (c:Int) (σ:Ab) (r:Rs × Ab):Prop where
 kept:Kept s c σ r.2
 at':RsAt s c r.2 r.1
 calm:Calm σ r.2
theorem z1q {m:Mem} {t:Rs} (hr:Rep s m σ) (hg:GI s σ) (hk:rsIs s c t) (hd:t.done=false) (h:RsAt s c σ t):ydm s c σ (rsA s t σ):=by
 obtain ⟨h1,h2⟩:=h
 unfold z3j z0u at *
 obtain ⟨k,pg,sk,rn⟩:=t
 rcases sk with _ | x
 ·rcases rn with _ | y
  ·cases hd
  ·have hg2:=ycn hr.may hg (hk.rn y rfl).ok hd ⟨h1,h2⟩
   exact ⟨hg2.kept,⟨hg2.at'.1,hg2.at'.2⟩,hg2.calm⟩
 ·have hg2:=ya8 hr hg (hk.sk x rfl).1.ok (hk.sk x rfl).2 hd h1.zeb h2
  exact ⟨hg2.1.kept,⟨hg2.1.ex.zrk,hg2.1.inv⟩,hg2.2⟩
theorem zkv {t:Rs} (hk:rsIs s c t) (hd:t.done=true) (h:RsAt s c σ t):(t.got=none->zaz σ c .no)/\∀ b,t.got=some b->zaz σ c (zgb b)/\zi6 σ b:=by
 obtain ⟨h1,h2⟩:=h
 unfold z3j z0u Rs.got at *
 obtain ⟨k,pg,sk,rn⟩:=t
 rcases sk with _ | x
 ·rcases rn with _ | y
  ·exact ⟨fun _=> h1,fun b e=> (by cases e)⟩
  ·dsimp only at *
   have hyd:y.done=true:=hd
   unfold zf2 at h1
   rcases Bool.eq_false_or_eq_true y.found with hf | hf
   ·rw [if_pos hf]
    have hp:y.ph= .found:=by unfold Rn.ph;rw [if_pos hf]
    refine ⟨fun e=> (by cases e),fun b e=> ?_⟩
    injection e with e
    subst e
    have hn:y.pages=pg:=(hk.rn y rfl).n
    rw [hp] at h1
    have h2':=h2.2
    rw [hp] at h2'
    refine ⟨h1.eqv ?_,fun _=> h2'⟩
    unfold zgb
    dsimp only
    rw [if_pos rfl,hn]
    refine ⟨fun p=> ?_,fun p g=> ?_,fun _ _ _=> ?_⟩ <;> simp only [Own.run,Own.add,Own.page,Own.bodies,Own.pages,or_false,false_or,iff_false,false_iff] <;> (try omega)
   ·rw [if_neg (by rw [hf];decide)]
    have hp:y.ph= .dead:=by unfold Rn.ph;rw [if_neg (by rw [hf];decide),if_pos hyd]
    rw [hp] at h1
    exact ⟨fun _=> h1,fun b e=> (by cases e)⟩
 ·dsimp only at *
  have hxd:x.done=true:=hd
  rcases Bool.eq_false_or_eq_true x.found with hf | hf
  ·rw [if_pos hf]
   refine ⟨fun e=> (by cases e),fun b e=> ?_⟩
   injection e with e
   subst e
   have hn:x.k=k:=(hk.sk x rfl).1.k
   have:zey s x= .way x.page x.slot x.k:=by unfold zey;rw [if_pos hf]
   rw [this,hn] at h1
   exact ⟨h1,fun e=> (by cases e)⟩
  ·rw [if_neg (by rw [hf];decide)]
   rw [zga hf (h2.dn hxd hf)] at h1
   exact ⟨fun _=> h1,fun b e=> (by cases e)⟩
theorem z08 {t:Cm} (hg:GI s σ) (hd:t.done=false) (hf:t.b.fits s c=true) (he:zaz σ c (zgb t.b)) (hi:zi6 σ t.b):Kept s c σ (cmA t σ).2/\zaz (cmA t σ).2 c .no/\Plus (zoa t.b) σ (cmA t σ).2/\(cmA t σ).1= { t with done:=true }:=by
 obtain ⟨_,hc,h3,h4,h5⟩:=zdi.1 hf
 unfold cmA
 rw [if_neg (by rw [hd];decide)]
 unfold zgb at he
 unfold zoa
 by_cases hl:t.b.large=true
 ·rw [if_pos hl] at he ⊢
  rw [if_pos hl]
  have h6:=h4 hl
  have hp:σ.pg t.b.page= .held c:=(he.h _).2 (.inl rfl)
  have hbare:∀ i,σ.sl t.b.page i= .none:=fun i=> hi hl _ i (Int.le_refl _) (by omega)
  have hb:∀ q,σ.pg q= .body t.b.page↔t.b.page + 1<=q/\q < t.b.page + t.b.pages:=fun q=> by
   have:=he.b q t.b.page
   simp only [Own.add,Own.page,Own.bodies,false_or,true_and] at this
   rw [<- this]
   exact ⟨fun e=> ⟨e,hp⟩,And.left⟩
  refine ⟨zlp hg hp hbare h6 (fun j h0 h1=> (hb _).2 (by omega)) (fun q e=> ((hb q).1 e).2),?_,z1n (fun n e=> by rw [hp] at e;cases e),rfl⟩
  exact zkr (o:= .no) (he.eqv ⟨fun _=> or_congr (or_iff_right id).symm .rfl,fun _ _=> or_congr (or_iff_right id).symm .rfl,fun _ _ _=> or_congr (or_iff_right id).symm .rfl⟩) id (fun _=> id)
 ·rw [if_neg hl] at he ⊢
  rw [if_neg hl]
  obtain ⟨⟨b,hp⟩,hs⟩:=(he.w _ _ _).2 (.inl ⟨rfl,rfl,rfl⟩)
  have he2:=he.zeb
  exact ⟨zc6 hg hp hs (.inr rfl) (znc he2 hp),zdd he2 (fun _=> id) hp (.inr rfl),z1b (fun n e=> by rw [hs] at e;cases e),rfl⟩
def zqs (t:Un):Own:=if t.done=true then .no else if t.b.large=true then (Own.page t.b.page).add (.bodies t.b.page (t.b.page + 1 + t.i) (t.b.page + t.b.pages)) else .way t.b.page t.b.slot t.b.k
structure UnAt (s:Sh) (c:Int) (σ:Ab) (t:Un):Prop where
 ex:zaz σ c (zqs t)
 inv:t.done=false->zi6 σ t.b
theorem UnAt.same {t:Un} (h:UnAt s c σ t) (hs:Same c σ σ'):UnAt s c σ' t:=⟨h.ex.same hs,fun hd=> by
 refine fun hl=> (h.inv hd hl).same (fun p h0 h1=> (h.ex.h p).2 ?_) hs
 unfold zqs;rw [if_neg (by rw [hd];decide),if_pos hl];exact .inl (show p=t.b.page by omega)⟩
theorem Own.zx9 {h lo hi:Int} (hl:lo < hi):((Own.bodies h (lo + 1) hi).add (.bodies h lo (lo + 1))).Eqv (.bodies h lo hi):=by
 refine ⟨fun p=> ?_,fun p g=> ?_,fun _ _ _=> ?_⟩ <;> simp only [Own.add,Own.bodies,or_false,false_or,iff_false,false_iff] <;> (try omega)
theorem zq1 {P lo hi:Int} (hg:GI s σ) (hlo:P + 1<=lo/\lo < hi) (hR:∀ q,¬ R.b q P) (he:zaz σ c (R.add ((Own.page P).add (.bodies P lo hi)))):
  Kept s c σ (σ.page lo .empty)/\zaz (σ.page lo .empty) c (R.add ((Own.page P).add (.bodies P (lo + 1) hi)))/\Calm σ (σ.page lo .empty):=by
 have hpb:σ.pg lo= .body P/\σ.pg P= .held c:=(he.b lo P).2 (.inr (.inr ⟨rfl,Int.le_refl _,hlo.2⟩))
 have he2:zaz σ c ((R.add ((Own.page P).add (.bodies P (lo + 1) hi))).add (.bodies P lo (lo + 1))):=by
  refine he.eqv (.symm (.trans (.zp7 _ _ _) (.add R (.trans (.zp7 _ _ _) (.add _ (Own.zx9 hlo.2))))))
 refine ⟨zjz hg hpb.1 hpb.2,zoe hg he2 (fun g e=> ?_),zdt (fun n e=> by cases e) (fun n e=> by rw [hpb.1] at e;cases e)⟩
 rcases e with e | e | e
 ·have h1:=(he.b lo g).2 (.inl e)
  have:g=P:=by have:=h1.1;rw [hpb.1] at this;injection this with this;exact this.symm
  subst this
  exact hR _ e
 ·exact e
 ·have:=e.2.1;omega
theorem zq4 {P hi:Int} (hg:GI s σ) (hR:∀ q,¬ R.b q P) (hRh:¬ R.h P) (hb:zfr σ P (P + 1)) (he:zaz σ c (R.add ((Own.page P).add (.bodies P hi hi)))):
  Kept s c σ (σ.page P .empty)/\zaz (σ.page P .empty) c (R.add .no)/\Calm σ (σ.page P .empty):=by
 have hp:σ.pg P= .held c:=(he.h P).2 (.inr (.inl rfl))
 have hnb:∀ q,σ.pg q≠ .body P:=fun q e=> by
  rcases (he.b q P).1 ⟨e,hp⟩ with e | e | e
  ·exact hR _ e
  ·exact e
  ·have:=e.2;omega
 have he2:zaz σ c (R.add (.page P)):=he.eqv (.add R ⟨fun _=> or_iff_left id,fun p g=> ⟨fun h=> h.elim id (fun h=> by have h1:=h.2;omega),fun h=> h.elim⟩,fun _ _ _=> or_iff_left id⟩)
 exact ⟨zg7 hg hp (fun i=> hb P i (Int.le_refl _) (by omega)) hnb,(zi1 he2 hRh hnb).eqv (Own.Eqv.zeb R).symm,zdt (fun n e=> by cases e) (fun n e=> by rw [hp] at e;cases e)⟩
theorem yae {t:Un} (hg:GI s σ) (hk:unOk s t) (hd:t.done=false) (h:UnAt s c σ t):Kept s c σ (unA t σ).2/\UnAt s c (unA t σ).2 (unA t σ).1/\Calm σ (unA t σ).2/\(unA t σ).1.b=t.b:=by
 obtain ⟨he,hi⟩:=h
 obtain ⟨k1,k2⟩:=hk.cl hd
 obtain ⟨_,_,h3,h4,h5⟩:=zdi.1 k1
 unfold unA
 rw [if_neg (by rw [hd];decide)]
 unfold zqs at he
 rw [if_neg (by rw [hd];decide)] at he
 by_cases hl:t.b.large=true
 ·rw [if_neg (by rw [hl];decide)]
  rw [if_pos hl] at he
  have hi2:=k2 hl
  by_cases hlast:t.i=t.b.pages - 1
  ·rw [if_pos hlast]
   have he2:zaz σ c (Own.no.add ((Own.page t.b.page).add (.bodies t.b.page (t.b.page + t.b.pages) (t.b.page + t.b.pages)))):=by
    rw [show t.b.page + 1 + t.i=t.b.page + t.b.pages by omega] at he
    exact he.zeb
   obtain ⟨g1,g2,g3⟩:=zq4 hg (R:= .no) (fun _=> id) id (hi hd hl) he2
   refine ⟨g1,⟨?_,fun e=> (by cases e)⟩,g3,rfl⟩
   unfold zqs;rw [if_pos rfl];exact g2.zrk
  ·rw [if_neg hlast]
   have he2:=he.zeb
   rw [show t.b.page + 1 + t.i=t.b.page + t.i + 1 by omega] at he2
   obtain ⟨g1,g2,g3⟩:=zq1 hg (R:= .no) (P:=t.b.page) (lo:=t.b.page + t.i + 1) (hi:=t.b.page + t.b.pages) (by omega) (fun _=> id) he2
   refine ⟨g1,⟨?_,fun _ _=> ?_⟩,g3,rfl⟩
   ·unfold zqs;dsimp only;rw [if_neg (by rw [hd];decide),if_pos hl,show t.b.page + 1 + (t.i + 1)=t.b.page + t.i + 1 + 1 by omega];exact g2.zrk
   ·exact hi hd hl
 ·rw [if_pos (by simpa using hl)]
  rw [if_neg hl] at he
  obtain ⟨⟨b,hp⟩,hs⟩:=(he.w _ _ _).2 (.inl ⟨rfl,rfl,rfl⟩)
  have he2:=he.zeb
  refine ⟨zc6 hg hp hs (.inl rfl) (znc he2 hp),⟨?_,fun e=> (by cases e)⟩,zdn (fun n e=> by cases e) (fun n e=> by rw [hs] at e;cases e),rfl⟩
  unfold zqs;rw [if_pos rfl];exact zdd he2 (fun _=> id) hp (.inl rfl)
inductive FePh
 | idle
 | put (x:Pu)
 | back
 | drop
def Fe.ph (t:Fe):FePh:=if t.done=true then .idle else if t.next=2 then (match t.put with | some x=> .put x | none=> .idle) else if t.next=3 then .back else if t.next=4 then .drop else .idle
def ziw (t:Fe):Own:=match t.ph with
 | .idle=> .no
 | .put x=> zlt x
 | .back=> .way t.page t.slot t.pa
 | .drop=> (Own.page t.page).add (.bodies t.page (t.page + 1 + t.i) (t.page + t.pa))
def feBl (t:Fe):Bl:=if t.pk=3 then .lar t.page t.pa else .sm t.page t.slot t.pa
structure zr5 (s:Sh) (c:Int) (σ:Ab) (R:Own) (t:Fe):Prop where
 cl:t.c=c
 w:t.done=false->t.next=1->t.pk=3->t.word=(PW.large t.pa).enc
 ph:match t.ph with
  | .idle=> True
  | .put x=> zp5 c σ x/\(x.ep=t.page/\x.es=t.slot/\x.ek=t.pa)/\x.put=false/\∀ k',¬ R.w t.page t.slot k'
  | .back=> ∀ k',¬ R.w t.page t.slot k'
  | .drop=> zfr σ t.page (t.page + 1)/\¬ R.h t.page/\∀ q,¬ R.b q t.page
theorem zr5.same {t:Fe} (he:zaz σ c (R.add (ziw t))) (h:zr5 s c σ R t) (hs:Same c σ σ'):zr5 s c σ' R t:=by
 obtain ⟨h1,h2,h3⟩:=h
 refine ⟨h1,h2,?_⟩
 unfold ziw at he
 cases hp:t.ph with
 | idle=> trivial
 | put x=> rw [hp] at h3;exact ⟨h3.1.same hs,h3.2⟩
 | back=> rw [hp] at h3;exact h3
 | drop=>
  rw [hp] at h3 he
  exact ⟨h3.1.same (fun p h0 h1=> (he.h p).2 (.inr (.inl (show p=t.page by omega)))) hs,h3.2⟩
structure zxb (s:Sh) (c:Int) (σ:Ab) (R:Own) (t:Fe) (r:Fe × Ab):Prop where
 kept:Kept s c σ r.2
 ex:zaz r.2 c (R.add (ziw r.1))
 inv:zr5 s c r.2 R r.1
 sl:∀ q i,σ.pg q= .held c->r.2.sl q i=σ.sl q i
 chg:(t.gave=false->r.1.gave=true->zr4 (feBl t) σ r.2/\r.1.done=false/\t.next=1)/\((t.gave=true\/r.1.gave=false)->Calm σ r.2)
end

section

variable {s:Sh} {σ σ':Ab} {c:Int} {R:Own}

theorem yge (s:Sh) (t:Pu) (σ:Ab):(puA s t σ).1.ep=t.ep/\(puA s t σ).1.es=t.es/\(puA s t σ).1.ek=t.ek:=by
 unfold puA
 split
 ·exact ⟨rfl,rfl,rfl⟩
 ·split
  ·exact ⟨rfl,rfl,rfl⟩
  ·dsimp only;split <;> exact ⟨rfl,rfl,rfl⟩
theorem zcq {t:Fe} (h:t.ph= .idle):ziw t= .no:=by unfold ziw;rw [h]
theorem zdp {t:Fe} (h:t.done=true):t.ph= .idle:=by unfold Fe.ph;rw [if_pos h]
theorem zib {t:Fe} (h:t.next=0\/t.next=1):t.ph= .idle:=by
 unfold Fe.ph
 split
 ·rfl
 ·rw [if_neg (by omega),if_neg (by omega),if_neg (by omega)]
theorem zen {t:Fe} (hc:t.c=c) (h:t.ph= .idle) (hw:t.done=false->t.next=1->t.pk=3->t.word=(PW.large t.pa).enc):zr5 s c σ R t:=⟨hc,hw,by rw [h];trivial⟩
theorem z4l {m:Mem} {t:Fe} (hr:Rep s m σ) (hg:GI s σ) (hk:feIs s c t) (hd:t.done=false) (he:zaz σ c (R.add (ziw t))) (hi:zr5 s c σ R t):zxb s c σ R t (feA s t σ):=by
 obtain ⟨c1,c2,c3,c4,c5,c6,c7,c8,c9,c10⟩:=hk.ok.cl hd
 obtain ⟨hc,hw,hph⟩:=hi
 subst hc
 unfold feA
 rw [if_neg (by rw [hd];decide)]
 have idle:∀ t':Fe,t'.c=t.c->t'.ph= .idle->t'.gave=false->(t'.done=false->t'.next=1->t'.pk=3->t'.word=(PW.large t'.pa).enc)->zaz σ t.c (R.add .no)->zxb s t.c σ R t (t',σ):=fun t' h1 h2 h3 h4 h5=>
  ⟨Kept.refl hg,by rw [zcq h2];exact h5,zen h1 h2 h4,fun _ _ _=> rfl,⟨fun _ e=> (by rw [h3] at e;cases e),fun _=> Calm.refl _⟩⟩
 by_cases h0:t.next=0
 ·rw [if_pos h0]
  have hgv:=hk.gv (by omega)
  rw [zcq (zib (.inl h0))] at he
  have hl1:(t.zeg (σ.pg t.page)).c=t.c/\(t.zeg (σ.pg t.page)).gave=t.gave/\(t.zeg (σ.pg t.page)).next=1/\(t.zeg (σ.pg t.page)).pk=(σ.pg t.page).kind/\(t.zeg (σ.pg t.page)).pa=(σ.pg t.page).pa/\(t.zeg (σ.pg t.page)).word=(σ.pg t.page).enc:=by
   unfold Fe.zeg
   dsimp only
   split
   ·exact ⟨rfl,rfl,rfl,rfl,rfl,rfl⟩
   ·split <;> exact ⟨rfl,rfl,rfl,rfl,rfl,rfl⟩
  refine idle _ hl1.1 (zib (.inr hl1.2.2.1)) (hl1.2.1.trans hgv) (fun _ _ e=> ?_) he
  rw [hl1.2.2.2.1] at e
  rw [hl1.2.2.2.2.1,hl1.2.2.2.2.2]
  cases hx:σ.pg t.page <;> rw [hx] at e <;> simp [PW.kind] at e
  rfl
 ·rw [if_neg h0]
  by_cases h1:t.next=1
  ·rw [if_pos h1]
   have hgv:=hk.gv (by omega)
   rw [zcq (zib (.inr h1))] at he
   have heR:zaz σ t.c R:=he.eqv (Own.Eqv.zeb R)
   by_cases hk3:t.pk=3
   ·rw [if_pos hk3]
    by_cases hx:(σ.pg t.page).enc=t.word
    ·rw [if_pos hx]
     rcases c6 (by omega) with ⟨_,k2,k3,k4⟩ | ⟨k1,_⟩
     ·have hlar:σ.pg t.page= .large t.pa:=PW.inj hr.may (hg.pf _) (q:=t.page) (y:= .large t.pa) ⟨c2,k2,k3,k4⟩ (by rw [hx];exact hw hd h1 hk3)
      have hp:({ t with gave:=true,next:=4,done:=false }:Fe).ph= .drop:=rfl
      refine ⟨zmq hg hlar c1,?_,⟨rfl,fun _ e=> (by cases e),?_⟩,fun _ _ _=> rfl,⟨fun _ _=> ⟨?_,rfl,h1⟩,fun e=> by rcases e with e | e;(rw [hgv] at e;cases e);(cases e)⟩⟩
      ·unfold ziw
       rw [hp]
       dsimp only
       rw [c5 (by omega),show t.page + 1 + 0=t.page + 1 by omega]
       exact (zlv hg heR hlar).eqv (Own.Eqv.zp7 _ _ _)
      ·rw [hp]
       refine ⟨fun p i a b=> ?_,fun e=> ?_,fun q e=> ?_⟩
       ·rw [show p=t.page by dsimp only at a b;omega];exact zm3 hg (.inr (.inl ⟨_,hlar⟩)) i
       ·have:=(heR.h _).2 e;rw [hlar] at this;cases this
       ·have:=((heR.b _ _).2 e).2;rw [hlar] at this;cases this
      ·unfold feBl;rw [if_pos hk3];exact zy2 (fun n e=> by cases e) hlar
     ·omega
    ·rw [if_neg hx]
     exact idle _ rfl (zdp rfl) rfl (fun e=> by cases e) he
   ·rw [if_neg hk3]
    by_cases hx:σ.sl t.page t.slot= .taken t.pa
    ·rw [if_pos hx]
     obtain ⟨⟨b,hp⟩,hrg⟩:=zhs hg (.inr hx)
     have hkp:=zf3 hg hp (.inr hx) c1
     have hex:=zfc hg heR hp (.inr hx)
     have hmn:zr4 (feBl t) σ (σ.slot t.page t.slot (.way t.c)):=by unfold feBl;rw [if_neg hk3];exact zzw (fun n e=> by cases e) hx
     have hRw:∀ k',¬ R.w t.page t.slot k':=fun k' e=> by
      have:=((heR.w _ _ _).2 (.inl e)).2;rw [hx] at this;cases this
     have fin:∀ t':Fe,t'.c=t.c->t'.gave=true->t'.done=false->ziw t'= .way t.page t.slot t.pa->(match t'.ph with
      | .idle=> True
      | .put x=> zp5 t.c (σ.slot t.page t.slot (.way t.c)) x/\(x.ep=t'.page/\x.es=t'.slot/\x.ek=t'.pa)/\x.put=false/\∀ k',¬ R.w t'.page t'.slot k'
      | .back=> ∀ k',¬ R.w t'.page t'.slot k'
      | .drop=> zfr (σ.slot t.page t.slot (.way t.c)) t'.page (t'.page + 1)/\¬ R.h t'.page/\∀ q,¬ R.b q t'.page)->t'.next≠1->zxb s t.c σ R t (t',σ.slot t.page t.slot (.way t.c)):=fun t' e1 e2 e6 e3 e4 e5=>
      ⟨hkp,by rw [e3];exact hex,⟨e1,fun _ e=> absurd e e5,e4⟩,fun q i hq=> zbq _ _ (fun e=> by rw [e.1,hp] at hq;cases hq),⟨fun _ _=> ⟨hmn,e6,h1⟩,fun e=> by rcases e with e | e;(rw [hgv] at e;cases e);(have e:t'.gave=false:=e;rw [e2] at e;cases e)⟩⟩
     have hback:zxb s t.c σ R t ({ t with gave:=true,next:=3,done:=false },σ.slot t.page t.slot (.way t.c)):=fin _ rfl rfl rfl rfl hRw (show (3:Int)≠1 by decide)
     unfold Fe.gotA
     dsimp only [Bool.not_true]
     by_cases hpb:t.pb=t.c
     ·rw [if_pos hpb]
      unfold Fe.kept
      dsimp only
      rw [if_neg (show ¬ (zg5 s t.c t.page t.slot t.pa).put=true by simp [zg5])]
      rcases Bool.eq_false_or_eq_true (zg5 s t.c t.page t.slot t.pa).done with e | e
      ·rw [if_pos e]
       exact fin _ rfl rfl rfl rfl hRw (show (3:Int)≠1 by decide)
      ·rw [if_neg (by rw [e];decide)]
       exact fin _ rfl rfl rfl rfl ⟨⟨rfl,fun e=> (by cases e),fun e=> (by cases e)⟩,⟨rfl,rfl,rfl⟩,rfl,hRw⟩ (show (2:Int)≠1 by decide)
     ·rw [if_neg hpb]
      exact hback
    ·rw [if_neg hx]
     have h3:(t.gotA s false).c=t.c/\(t.gotA s false).gave=false/\(t.gotA s false).done=true:=by
      unfold Fe.gotA
      dsimp only
      refine ⟨?_,?_,rfl⟩
      ·split
       ·unfold Fe.kept;dsimp only;split
        ·rfl
        ·split <;> rfl
       ·rfl
      ·split
       ·unfold Fe.kept;dsimp only;split
        ·rfl
        ·split <;> rfl
       ·rfl
     exact idle _ h3.1 (zdp h3.2.2) h3.2.1 (fun e=> by rw [h3.2.2] at e;cases e) he
  ·rw [if_neg h1]
   have hgv:=hk.gv2 (by omega) hd
   have calm:∀ (t':Fe) σ',Calm σ σ'->(t.gave=false->t'.gave=true->zr4 (feBl t) σ σ'/\t'.done=false/\t.next=1)/\((t.gave=true\/t'.gave=false)->Calm σ σ'):=fun t' σ' h=> ⟨fun e=> (by rw [hgv] at e;cases e),fun _=> h⟩
   by_cases h2:t.next=2
   ·rw [if_pos h2]
    obtain ⟨_,x,hx,hxo,hxd⟩:=c8 h2
    have hp:t.ph= .put x:=by unfold Fe.ph;rw [if_neg (by rw [hd];decide),if_pos h2,hx]
    unfold ziw at he
    rw [hp] at he hph
    obtain ⟨p1,p2,p3,p4⟩:=hph
    rw [hx]
    dsimp only
    obtain ⟨⟨g1,g2,g3⟩,g4⟩:=z96 hg hxo hxd (R:=R) (by rw [p2.1,p2.2.1];exact p4) he p1
    obtain ⟨e1,e2,e3⟩:=yge s x σ
    have hsl:∀ q i,σ.pg q= .held t.c->(puA s x σ).2.sl q i=σ.sl q i:=fun q i _=> by unfold puA;split;rfl;split;rfl;rfl
    unfold Fe.kept
    dsimp only
    rcases Bool.eq_false_or_eq_true (puA s x σ).1.put with e | e
    ·rw [if_pos e]
     refine ⟨g1,?_,zen rfl (zdp rfl) (fun e=> by cases e),hsl,calm _ _ g4⟩
     rw [zcq (zdp rfl)]
     have:zlt (puA s x σ).1= .no:=by unfold zlt;rw [if_pos e]
     rw [this] at g2;exact g2
    ·rw [if_neg (by rw [e];decide)]
     have hown:zlt (puA s x σ).1= .way t.page t.slot t.pa:=by unfold zlt;rw [if_neg (by rw [e];decide),e1,e2,e3,p2.1,p2.2.1,p2.2.2]
     rcases Bool.eq_false_or_eq_true (puA s x σ).1.done with e4 | e4
     ·rw [if_pos e4]
      have hp':({ t with put:=some (puA s x σ).1,next:=3 }:Fe).ph= .back:=by unfold Fe.ph;dsimp only;rw [if_neg (by rw [hd];decide)];rfl
      refine ⟨g1,?_,⟨rfl,fun _ e=> (by cases e),?_⟩,hsl,calm _ _ g4⟩
      ·unfold ziw;rw [hp'];rw [hown] at g2;exact g2
      ·rw [hp'];exact p4
     ·rw [if_neg (by rw [e4];decide)]
      have hp':({ t with put:=some (puA s x σ).1 }:Fe).ph= .put (puA s x σ).1:=by unfold Fe.ph;dsimp only;rw [if_neg (by rw [hd];decide),if_pos h2]
      refine ⟨g1,?_,⟨rfl,fun _ e=> absurd e h1,?_⟩,hsl,calm _ _ g4⟩
      ·unfold ziw;rw [hp'];exact g2
      ·rw [hp'];exact ⟨g3,⟨e1.trans p2.1,e2.trans p2.2.1,e3.trans p2.2.2⟩,e,p4⟩
   ·rw [if_neg h2]
    by_cases h3:t.next=3
    ·rw [if_pos h3]
     have hp:t.ph= .back:=by unfold Fe.ph;rw [if_neg (by rw [hd];decide),if_neg h2,if_pos h3]
     unfold ziw at he
     rw [hp] at he hph
     obtain ⟨⟨b,hpp⟩,hs⟩:=(he.w _ _ _).2 (.inl (.inr ⟨rfl,rfl,rfl⟩))
     refine ⟨zc6 hg hpp hs (.inl rfl) (znc he hpp),?_,zen rfl (zdp rfl) (fun e=> by cases e),fun q i hq=> zbq _ _ (fun e=> by rw [e.1,hpp] at hq;cases hq),calm _ _ (zdn (fun n e=> by cases e) (fun n e=> by rw [hs] at e;cases e))⟩
     rw [zcq (zdp rfl)]
     exact (zdd he hph hpp (.inl rfl)).eqv (Own.Eqv.zeb R).symm
    ·rw [if_neg h3]
     have h4:t.next=4:=by omega
     have hp:t.ph= .drop:=by unfold Fe.ph;rw [if_neg (by rw [hd];decide),if_neg h2,if_neg h3,if_pos h4]
     unfold ziw at he
     rw [hp] at he hph
     obtain ⟨p1,p2,p3⟩:=hph
     have h10:=c10 h4
     by_cases hlast:t.i=t.pa - 1
     ·rw [if_pos hlast]
      rw [show t.page + 1 + t.i=t.page + t.pa by omega] at he
      obtain ⟨g1,g2,g3⟩:=zq4 hg p3 p2 p1 he
      refine ⟨g1,?_,zen rfl (zdp rfl) (fun e=> by cases e),fun _ _ _=> rfl,calm _ _ g3⟩
      rw [zcq (zdp rfl)];exact g2
     ·rw [if_neg hlast]
      rw [show t.page + 1 + t.i=t.page + t.i + 1 by omega] at he
      obtain ⟨g1,g2,g3⟩:=zq1 hg (by omega) p3 he
      have hp':({ t with i:=t.i + 1 }:Fe).ph= .drop:=by unfold Fe.ph;dsimp only;rw [if_neg (by rw [hd];decide),if_neg h2,if_neg h3,if_pos h4]
      refine ⟨g1,?_,⟨rfl,fun _ e=> absurd e h1,?_⟩,fun _ _ _=> rfl,calm _ _ g3⟩
      ·unfold ziw;rw [hp'];dsimp only;rw [show t.page + 1 + (t.i + 1)=t.page + t.i + 1 + 1 by omega];exact g2
      ·rw [hp'];exact ⟨fun p i a b=> p1 p i a b,p2,p3⟩
end

end Go.Proofs.YtampacmmhhilaaaGreat
