/- Texts bound together: InvN InvK. -/
import Derived.Test.YtedcnffebdpmmaaGreatBu9

import Derived.Test.YtedcnffebdpmmaaGreatBu22

set_option linter.all false
namespace Go.Proofs.YtedcnffebdpmmaaGreat

section

def rsA (s:Sh) (t:Rs) (σ:Ab):Rs × Ab:=match t.seeker,t.runner with
 | some x,_=> ({ t with seeker:=some (skA s x σ).1 },(skA s x σ).2)
 | none,some x=> ({ t with runner:=some (rnA s x σ).1 },(rnA s x σ).2)
 | none,none=> (t,σ)
def cmA (t:Cm) (σ:Ab):Cm × Ab:=
 if t.done=true then (t,σ)
 else ({ t with done:=true },if t.b.large=true then σ.page t.b.page (.large t.b.pages) else σ.slot t.b.page t.b.slot (.taken t.b.k))
def unA (t:Un) (σ:Ab):Un × Ab:=
 if t.done=true then (t,σ)
 else if t.b.large=false then ({ t with done:=true },σ.slot t.b.page t.b.slot (.opened t.b.k))
 else if t.i=t.b.pages - 1 then ({ t with done:=true },σ.page t.b.page .empty)
 else ({ t with i:=t.i + 1 },σ.page (t.b.page + t.i + 1) .empty)
def Fe.zeg (t:Fe) (x:PW):Fe:=
 let t':Fe:= { t with word:=x.enc,pk:=x.kind,pa:=x.pa,pb:=x.pb,next:=1 }
 if x.kind=3/\t.a % 64=0 then t' else if x.kind=2/\t.a % 64 % zbj x.pa=0 then { t' with slot:=t.a % 64 / zbj x.pa } else { t' with done:=true }
def Fe.gotA (s:Sh) (t:Fe) (g:Bool):Fe:=
 let t':Fe:= { t with gave:=g,next:=3 }
 let t'':Fe:=if t.pb=t.c then ({ t' with put:=some (zg5 s t.c t.page t.slot t.pa),next:=2 }:Fe).kept else t'
 { t'' with done:= !g }
def feA (s:Sh) (t:Fe) (σ:Ab):Fe × Ab:=
 if t.done=true then (t,σ)
 else if t.next=0 then (t.zeg (σ.pg t.page),σ)
 else if t.next=1 then
  if t.pk=3 then (if (σ.pg t.page).enc=t.word then ({ t with gave:=true,next:=4,done:=false },σ.page t.page (.held t.c)) else ({ t with gave:=false,next:=4,done:=true },σ))
  else if σ.sl t.page t.slot= .taken t.pa then (t.gotA s true,σ.slot t.page t.slot (.way t.c)) else (t.gotA s false,σ)
 else if t.next=2 then match t.put with
  | some x=> (({ t with put:=some (puA s x σ).1 }:Fe).kept,(puA s x σ).2)
  | none=> (t,σ)
 else if t.next=3 then ({ t with done:=true },σ.slot t.page t.slot (.opened t.pa))
 else if t.i=t.pa - 1 then ({ t with done:=true },σ.page t.page .empty)
 else ({ t with i:=t.i + 1 },σ.page (t.page + t.i + 1) .empty)
def rrA (s:Sh) (t:Rr) (σ:Ab):Rr × Ab:=
 if t.done=true then (t,σ)
 else match t.res,t.free with
  | some r,some f=>
   if r.done=false then (Rr.settle s { t with res:=some (rsA s r σ).1 },(rsA s r σ).2)
   else if f.done=false then (Rr.settle s { t with free:=some (feA s f σ).1 },(feA s f σ).2)
   else match t.undo,t.com with
    | some u,_=> (Rr.settle s { t with undo:=some (unA u σ).1 },(unA u σ).2)
    | none,some u=> (Rr.settle s { t with com:=some (cmA u σ).1 },(cmA u σ).2)
    | none,none=> (t,σ)
  | _,_=> (t,σ)
def Ad.zkp (t:Ad) (x:PW):Ad:= { t with pk:=x.kind,pa:=x.pa,pb:=x.pb }
def adA (s:Sh) (t:Ad) (σ:Ab):Ad × Ab:=
 if t.done=true then (t,σ)
 else if t.next=0 then
  (match σ.st t.d with
   | .dead=> { t with was:=(σ.st t.d).enc,next:=2 }
   | .owned a=> { t with was:=(σ.st t.d).enc,who:=a,next:=1 }
   | _=> ({ t with was:=(σ.st t.d).enc }:Ad).fin 5,σ)
 else if t.next=1 then (if σ.st t.who= .live then ({ t with next:=2 }:Ad).fin 4 else { t with next:=2 },σ)
 else if t.next=2 then (if (σ.st t.d).enc=t.was then ({ t with next:=3 },σ.stat t.d (.owned t.c)) else (({ t with next:=3 }:Ad).fin 4,σ))
 else if t.next=3 then (match σ.pg t.at' with | .body h=> { t.zkp (.body h) with next:=4 } | x=> (t.zkp x).turn s 3 6,σ)
 else if t.next=4 then (if σ.pg t.pa= .held t.d then { t with next:=5 } else t.turn s 3 6,σ)
 else if t.next=5 then (t.turn s 3 6,σ.page t.at' .empty)
 else if t.next=6 then (if σ.pg t.at'= .held t.d then { t with next:=7,i:=0 } else t.turn s 6 9,σ)
 else if t.next=7 then (if t.i + 1=16 then { t with i:=t.i + 1,next:=8 } else { t with i:=t.i + 1 },σ.slot t.at' t.i .none)
 else if t.next=8 then (t.turn s 6 9,σ.page t.at' .empty)
 else if t.next=9 then (if t.i + 1=s.m then { t with i:=0,next:=10 } else { t with i:=t.i + 1 },σ.mag t.d t.i .none)
 else if t.next=10 then (match σ.pg t.at' with | .super k b=> { t.zkp (.super k b) with next:=11,i:=0 } | x=> (t.zkp x).turn s 10 13,σ)
 else if t.next=11 then (if σ.sl t.at' t.i= .way t.d then { t with next:=12 } else t.slot s,σ)
 else if t.next=12 then (t.slot s,σ.slot t.at' t.i (.opened t.pa))
 else (t.fin 0,σ.stat t.d .done)
def Jb.zhf (s:Sh) (cl:Int) (σ:Ab):Jb->Jb × Ab
 | .mal r c=> if r.done=false then (.mal (rsA s r σ).1 c,(rsA s r σ).2) else match zhp s cl r c with
  | some x=> (.mal r (some (cmA x σ).1),(cmA x σ).2)
  | none=> (.mal r none,σ)
 | .fre f=> (.fre (feA s f σ).1,(feA s f σ).2)
 | .aga r=> (.aga (rrA s r σ).1,(rrA s r σ).2)
 | .hei a=> (.hei (adA s a σ).1,(adA s a σ).2)
variable {s:Sh} {m:Mem} {σ:Ab}

theorem z0x{t:Rs}(b:Rep s m σ)(f:GI s σ)(h:(∀ x,t.seeker=some x->skOk s x)/\(∀ x,t.runner=some x->rnOk s x)):Sim s (zb0 s t m) (rsA s t σ):=by
 obtain⟨k,pg,sk,rn⟩:=t;unfold zb0 rsA;rcases sk with _|x
 ·rcases rn with _|y
  ·exact⟨rfl,b⟩
  have:=yc2 b f (h.2 y rfl);dsimp only;rw[this.1];exact⟨rfl,this.2⟩
 have:=yda b f (h.1 x rfl);dsimp only;rw[this.1];exact⟨rfl,this.2⟩
theorem z9g{t:Cm}(i:Rep s m σ)(h:cmOk s t):Sim s (zb3 s t m) (cmA t σ):=by
 unfold zb3 cmA;by_cases hd:t.done=true
 ·rw[if_pos hd,if_pos hd];exact⟨rfl,i⟩
 rw[if_neg hd,if_neg hd];obtain⟨_,_,h3,h4,j⟩:=zdi.1 (h (by simpa using hd));by_cases f:t.b.large=true
 ·rw[if_pos f,if_pos f];exact⟨rfl,i.zd7 h3 (.large t.b.pages) rfl⟩
 rw[if_neg f,if_neg f];have l:=j (by simpa using f);have:=zcy t.b.k;exact⟨rfl,i.setSlot h3 (by omega) (.taken t.b.k) rfl⟩
theorem yd1{t:Un}(l:Rep s m σ)(h:unOk s t):Sim s (zcf s t m) (unA t σ):=by
 unfold zcf unA;by_cases hd:t.done=true
 ·rw[if_pos hd,if_pos hd];exact⟨rfl,l⟩
 rw[if_neg hd,if_neg hd];obtain⟨h1,h2⟩:=h.cl (by simpa using hd);obtain⟨_,_,h3,h4,n⟩:=zdi.1 h1;by_cases f:t.b.large=false
 ·rw[if_pos f,if_pos f];have o:=n f;have:=zcy t.b.k;exact⟨rfl,l.setSlot h3 (by omega) (.opened t.b.k) rfl⟩
 rw[if_neg f,if_neg f];have j:t.b.large=true:=by simpa using f
 have o:=h4 j;have p:=h2 j;by_cases hi:t.i=t.b.pages-1
 ·rw[if_pos hi,if_pos hi];exact⟨rfl,l.zd7 h3 .empty rfl⟩
 rw[if_neg hi,if_neg hi];exact⟨rfl,l.zd7 (by omega) .empty rfl⟩
theorem z9o{t:Fe}(b:Rep s m σ)(q:GI s σ)(h:feOk s t):Sim s (zca s t m) (feA s t σ):=by
 unfold zca feA;by_cases hd:t.done=true
 ·rw[if_pos hd,if_pos hd];exact⟨rfl,b⟩
 rw[if_neg hd,if_neg hd];obtain⟨c1,c2,c3,c4,c5,c6,c7,c8,c9,o⟩:=h.cl (by simpa using hd);by_cases h0:t.next=0
 ·rw[if_pos h0,if_pos h0];refine⟨?_,b.same rfl⟩;obtain⟨C,D,E,F⟩:=b.read q c2;unfold Fe.look Fe.zeg;dsimp only;rw[C,D,E,F,b.pg _ c2];simp only[if_true,true_and]
 rw[if_neg h0,if_neg h0];by_cases h1:t.next=1
 ·rw[if_pos h1,if_pos h1];unfold Fe.claim;rcases c6 (by omega) with⟨k1,j,n,z⟩|⟨k1,j,n⟩
  ·rw[if_pos k1,if_pos k1];dsimp only;rw[b.pg _ c2];by_cases e:(σ.pg t.page).enc=t.word
   ·rw[if_pos e,decide_eq_true e];exact⟨rfl,b.zd7 c2 (.held t.c) (zgz (by rw[b.pg _ c2];exact e))⟩
   rw[if_neg e,decide_eq_false e];exact⟨rfl,b.same (zjl (by rw[b.pg _ c2];exact e))⟩
  rw[if_neg (by omega),if_neg (by omega)];have l:0<=t.slot/\t.slot<16:=by have:=zcy t.pa;omega
  have y:=b.zlw q c2 l (u:= .taken t.pa) (zgr j);dsimp only;by_cases e:σ.sl t.page t.slot= .taken t.pa
  ·have f:m.get (zbk s.p s.c s.m t.page t.slot)=zfl t.pa:=y.2 e;rw[if_pos e,decide_eq_true f];exact⟨rfl,b.setSlot c2 l (.way t.c) (zgz f)⟩
  have f:¬ m.get (zbk s.p s.c s.m t.page t.slot)=zfl t.pa:=fun f=>e (y.1 f);rw[if_neg e,decide_eq_false f];exact⟨rfl,b.same (zjl f)⟩
 rw[if_neg h1,if_neg h1];by_cases h2:t.next=2
 ·rw[if_pos h2,if_pos h2];obtain⟨_,x,B,r,_⟩:=c8 h2;rw[B];have:=yfk b q r;dsimp only;rw[this.1];exact⟨rfl,this.2⟩
 rw[if_neg h2,if_neg h2];by_cases h3:t.next=3
 ·rw[if_pos h3,if_pos h3];rcases c6 (by omega) with⟨k1,j,n,z⟩|⟨k1,j,n⟩
  ·have:=c9 h3;omega
  have:=zcy t.pa;exact⟨rfl,b.setSlot c2 (by omega) (.opened t.pa) rfl⟩
 rw[if_neg h3,if_neg h3];have h4:=o (by omega);rcases c6 (by omega) with⟨k1,j,n,z⟩|⟨k1,j,n⟩
 ·by_cases hi:t.i=t.pa-1
  ·rw[if_pos hi,if_pos hi];exact⟨rfl,b.zd7 c2 .empty rfl⟩
  rw[if_neg hi,if_neg hi];exact⟨rfl,b.zd7 (by omega) .empty rfl⟩
 omega
theorem ydv{t:Rr}(j:Rep s m σ)(l:GI s σ)(h:rrOk s t):Sim s (zb9 s t m) (rrA s t σ):=by
 unfold zb9 rrA;by_cases hd:t.done=true
 ·rw[if_pos hd,if_pos hd];exact⟨rfl,j⟩
 rw[if_neg hd,if_neg hd];obtain⟨r,f,n,o,h1,h2,h3,h4,p,q⟩:=h.cl (by simpa using hd);rw[n,o];dsimp only;by_cases i:r.done=false
 ·rw[if_pos i,if_pos i];have:=z0x j l h1;rw[this.1];exact⟨rfl,this.2⟩
 rw[if_neg i,if_neg i];by_cases b:f.done=false
 ·rw[if_pos b,if_pos b];have:=z9o j l h2;rw[this.1];exact⟨rfl,this.2⟩
 rw[if_neg b,if_neg b];rcases hu:t.undo with _|u
 ·rcases hc:t.com with _|v
  ·exact⟨rfl,j⟩
  have:=z9g j (h4 v hc);dsimp only;rw[this.1];exact⟨rfl,this.2⟩
 have:=yd1 j (h3 u hu);dsimp only;rw[this.1];exact⟨rfl,this.2⟩
theorem Rep.ownB(i:Rep s m σ)(b:GI s σ){p:Int}(f:0<=p/\p<s.p)(t:Ad):t.own s p (m.get (zak s.p s.c s.m p))=true↔σ.pg p= .held t.d:=by
 obtain⟨j,l,n,o⟩:=i.read b f;unfold Ad.own;rw[j,l,n];cases σ.pg p<;>simp[PW.kind,PW.pa]
theorem zz9(i:Rep s m σ)(b:GI s σ){p:Int}(f:0<=p/\p<s.p)(t:Ad):t.page s p (m.get (zak s.p s.c s.m p))=t.zkp (σ.pg p)/\pgK s p (m.get (zak s.p s.c s.m p))=(σ.pg p).kind:=by
 obtain⟨j,l,n,o⟩:=i.read b f;unfold Ad.page Ad.zkp pgK pgP;rw[j,l,n,o];exact⟨rfl,rfl⟩
theorem ya2{t:Ad}(hd:t.done=false)(e:t.next=0):adA s t σ=(match σ.st t.d with
   | .dead=>{t with was:=(σ.st t.d).enc,next:=2}
   | .owned a=>{t with was:=(σ.st t.d).enc,who:=a,next:=1}
   |_=>({t with was:=(σ.st t.d).enc}:Ad).fin 5,σ):=by unfold adA;rw[if_neg (by rw[hd];decide)];rw[if_pos e]
theorem yc1{t:Ad}(hd:t.done=false)(e:t.next=1):adA s t σ=(if σ.st t.who= .live then({t with next:=2}:Ad).fin 4 else {t with next:=2},σ):=by unfold adA;rw[if_neg (by rw[hd];decide)];rw[if_neg (show ¬ t.next=0 by omega)];rw[if_pos e]
theorem yee{t:Ad}(hd:t.done=false)(e:t.next=2):adA s t σ=(if (σ.st t.d).enc=t.was then({t with next:=3},σ.stat t.d (.owned t.c)) else(({t with next:=3}:Ad).fin 4,σ)):=by unfold adA;rw[if_neg (by rw[hd];decide)];rw[if_neg (show ¬ t.next=0 by omega)];rw[if_neg (show ¬ t.next=1 by omega)];rw[if_pos e]
theorem ydj{t:Ad}(hd:t.done=false)(e:t.next=3):adA s t σ=(match σ.pg t.at' with | .body h=>{ t.zkp (.body h) with next:=4}|x=>(t.zkp x).turn s 3 6,σ):=by unfold adA;rw[if_neg (by rw[hd];decide)];rw[if_neg (show ¬ t.next=0 by omega)];rw[if_neg (show ¬ t.next=1 by omega)];rw[if_neg (show ¬ t.next=2 by omega)];rw[if_pos e]
theorem yd0{t:Ad}(hd:t.done=false)(e:t.next=4):adA s t σ=(if σ.pg t.pa= .held t.d then {t with next:=5} else t.turn s 3 6,σ):=by unfold adA;rw[if_neg (by rw[hd];decide)];rw[if_neg (show ¬ t.next=0 by omega)];rw[if_neg (show ¬ t.next=1 by omega)];rw[if_neg (show ¬ t.next=2 by omega)];rw[if_neg (show ¬ t.next=3 by omega)];rw[if_pos e]
theorem ydy{t:Ad}(hd:t.done=false)(e:t.next=5):adA s t σ=(t.turn s 3 6,σ.page t.at' .empty):=by unfold adA;rw[if_neg (by rw[hd];decide)];rw[if_neg (show ¬ t.next=0 by omega)];rw[if_neg (show ¬ t.next=1 by omega)];rw[if_neg (show ¬ t.next=2 by omega)];rw[if_neg (show ¬ t.next=3 by omega)];rw[if_neg (show ¬ t.next=4 by omega)];rw[if_pos e]
theorem ydn{t:Ad}(hd:t.done=false)(e:t.next=6):adA s t σ=(if σ.pg t.at'= .held t.d then {t with next:=7,i:=0} else t.turn s 6 9,σ):=by unfold adA;rw[if_neg (by rw[hd];decide)];rw[if_neg (show ¬ t.next=0 by omega)];rw[if_neg (show ¬ t.next=1 by omega)];rw[if_neg (show ¬ t.next=2 by omega)];rw[if_neg (show ¬ t.next=3 by omega)];rw[if_neg (show ¬ t.next=4 by omega)];rw[if_neg (show ¬ t.next=5 by omega)];rw[if_pos e]
theorem yd2{t:Ad}(hd:t.done=false)(e:t.next=7):adA s t σ=(if t.i+1=16 then {t with i:=t.i+1,next:=8} else {t with i:=t.i+1},σ.slot t.at' t.i .none):=by unfold adA;rw[if_neg (by rw[hd];decide)];rw[if_neg (show ¬ t.next=0 by omega)];rw[if_neg (show ¬ t.next=1 by omega)];rw[if_neg (show ¬ t.next=2 by omega)];rw[if_neg (show ¬ t.next=3 by omega)];rw[if_neg (show ¬ t.next=4 by omega)];rw[if_neg (show ¬ t.next=5 by omega)];rw[if_neg (show ¬ t.next=6 by omega)];rw[if_pos e]
theorem yei{t:Ad}(hd:t.done=false)(e:t.next=8):adA s t σ=(t.turn s 6 9,σ.page t.at' .empty):=by unfold adA;rw[if_neg (by rw[hd];decide)];rw[if_neg (show ¬ t.next=0 by omega)];rw[if_neg (show ¬ t.next=1 by omega)];rw[if_neg (show ¬ t.next=2 by omega)];rw[if_neg (show ¬ t.next=3 by omega)];rw[if_neg (show ¬ t.next=4 by omega)];rw[if_neg (show ¬ t.next=5 by omega)];rw[if_neg (show ¬ t.next=6 by omega)];rw[if_neg (show ¬ t.next=7 by omega)];rw[if_pos e]
theorem yeh{t:Ad}(hd:t.done=false)(e:t.next=9):adA s t σ=(if t.i+1=s.m then {t with i:=0,next:=10} else {t with i:=t.i+1},σ.mag t.d t.i .none):=by unfold adA;rw[if_neg (by rw[hd];decide)];rw[if_neg (show ¬ t.next=0 by omega)];rw[if_neg (show ¬ t.next=1 by omega)];rw[if_neg (show ¬ t.next=2 by omega)];rw[if_neg (show ¬ t.next=3 by omega)];rw[if_neg (show ¬ t.next=4 by omega)];rw[if_neg (show ¬ t.next=5 by omega)];rw[if_neg (show ¬ t.next=6 by omega)];rw[if_neg (show ¬ t.next=7 by omega)];rw[if_neg (show ¬ t.next=8 by omega)];rw[if_pos e]
theorem z9b{t:Ad}(hd:t.done=false)(e:t.next=10):adA s t σ=(match σ.pg t.at' with | .super k b=>{ t.zkp (.super k b) with next:=11,i:=0}|x=>(t.zkp x).turn s 10 13,σ):=by unfold adA;rw[if_neg (by rw[hd];decide)];rw[if_neg (show ¬ t.next=0 by omega)];rw[if_neg (show ¬ t.next=1 by omega)];rw[if_neg (show ¬ t.next=2 by omega)];rw[if_neg (show ¬ t.next=3 by omega)];rw[if_neg (show ¬ t.next=4 by omega)];rw[if_neg (show ¬ t.next=5 by omega)];rw[if_neg (show ¬ t.next=6 by omega)];rw[if_neg (show ¬ t.next=7 by omega)];rw[if_neg (show ¬ t.next=8 by omega)];rw[if_neg (show ¬ t.next=9 by omega)];rw[if_pos e]
theorem z8z{t:Ad}(hd:t.done=false)(e:t.next=11):adA s t σ=(if σ.sl t.at' t.i= .way t.d then {t with next:=12} else t.slot s,σ):=by unfold adA;rw[if_neg (by rw[hd];decide)];rw[if_neg (show ¬ t.next=0 by omega)];rw[if_neg (show ¬ t.next=1 by omega)];rw[if_neg (show ¬ t.next=2 by omega)];rw[if_neg (show ¬ t.next=3 by omega)];rw[if_neg (show ¬ t.next=4 by omega)];rw[if_neg (show ¬ t.next=5 by omega)];rw[if_neg (show ¬ t.next=6 by omega)];rw[if_neg (show ¬ t.next=7 by omega)];rw[if_neg (show ¬ t.next=8 by omega)];rw[if_neg (show ¬ t.next=9 by omega)];rw[if_neg (show ¬ t.next=10 by omega)];rw[if_pos e]
theorem z9f{t:Ad}(hd:t.done=false)(e:t.next=12):adA s t σ=(t.slot s,σ.slot t.at' t.i (.opened t.pa)):=by unfold adA;rw[if_neg (by rw[hd];decide)];rw[if_neg (show ¬ t.next=0 by omega)];rw[if_neg (show ¬ t.next=1 by omega)];rw[if_neg (show ¬ t.next=2 by omega)];rw[if_neg (show ¬ t.next=3 by omega)];rw[if_neg (show ¬ t.next=4 by omega)];rw[if_neg (show ¬ t.next=5 by omega)];rw[if_neg (show ¬ t.next=6 by omega)];rw[if_neg (show ¬ t.next=7 by omega)];rw[if_neg (show ¬ t.next=8 by omega)];rw[if_neg (show ¬ t.next=9 by omega)];rw[if_neg (show ¬ t.next=10 by omega)];rw[if_neg (show ¬ t.next=11 by omega)];rw[if_pos e]
theorem z8n{t:Ad}(hd:t.done=false)(e:t.next=13):adA s t σ=(t.fin 0,σ.stat t.d .done):=by unfold adA;rw[if_neg (by rw[hd];decide)];rw[if_neg (show ¬ t.next=0 by omega)];rw[if_neg (show ¬ t.next=1 by omega)];rw[if_neg (show ¬ t.next=2 by omega)];rw[if_neg (show ¬ t.next=3 by omega)];rw[if_neg (show ¬ t.next=4 by omega)];rw[if_neg (show ¬ t.next=5 by omega)];rw[if_neg (show ¬ t.next=6 by omega)];rw[if_neg (show ¬ t.next=7 by omega)];rw[if_neg (show ¬ t.next=8 by omega)];rw[if_neg (show ¬ t.next=9 by omega)];rw[if_neg (show ¬ t.next=10 by omega)];rw[if_neg (show ¬ t.next=11 by omega)];rw[if_neg (show ¬ t.next=12 by omega)]
theorem ye4{t:Ad}(f:Rep s m σ)(n:GI s σ)(h:adOk s t):Sim s (za0 s t m) (adA s t σ):=by
 by_cases hd:t.done=true
 ·rw[zkx s t m hd];unfold adA;rw[if_pos hd];exact⟨rfl,f⟩
 have hd':t.done=false:=by simpa using hd
 obtain⟨c1,c2,c3,c4,c5,c6,c7,c8,c9,q⟩:=h.cl hd';obtain⟨y,G,H,I⟩:=f.read n c5;obtain⟨kp1,r⟩:=zz9 f n c5 t;have l:=fun c hc=>f.st c hc;have E:t.next=0\/t.next=1\/t.next=2\/t.next=3\/t.next=4\/t.next=5\/t.next=6\/t.next=7\/t.next=8\/t.next=9\/t.next=10\/t.next=11\/t.next=12\/t.next=13:=by omega
 rcases E with e|e|e|e|e|e|e|e|e|e|e|e|e|e
 ·rw[zl2 s t m hd' e,ya2 hd' e];refine⟨?_,f.same rfl⟩;obtain⟨k1,D⟩:=TW.read c1 (n.tf t.d);unfold Ad.asked;dsimp only;rw[l _ c3,k1,D];have C:=n.tf t.d;cases b:σ.st t.d with
  |owned a=>
   rw[b]at C;have:zae s.p s.c s.m a=a:=by unfold zae;rw[if_pos ⟨c1,zbc.2 (by simp only[TW.fit]at C;omega)⟩]
   simp only[TW.fit]at C;have B:¬ a<0:=by omega
   simp[TW.kind,TW.pa,this,B]
  |_=>simp[TW.kind]
 ·rw[zmf s t m hd' e,yc1 hd' e];refine⟨?_,f.same rfl⟩;have F:=c6 e;obtain⟨k1,D⟩:=TW.read c1 (n.tf t.who);dsimp only;rw[l _ F,k1];cases σ.st t.who<;>simp[TW.kind]
 ·rw[zlx s t m hd' e,yee hd' e];by_cases b:(σ.st t.d).enc=t.was
  ·have j:m.get (zae s.p s.c s.m t.d)=t.was:=(l _ c3).trans b;rw[if_pos b,if_pos j];exact⟨rfl,f.zpm c3 (.owned t.c) (zgz j)⟩
  have j:¬ m.get (zae s.p s.c s.m t.d)=t.was:=fun k=>b ((l _ c3).symm.trans k);rw[if_neg b,if_neg j];exact⟨rfl,f.same (zjl j)⟩
 ·rw[zl7 s t m hd' e,ydj hd' e];refine⟨?_,f.same rfl⟩;dsimp only;rw[y,r,kp1];cases b:σ.pg t.at'<;>simp[PW.kind]
 ·rw[zmc s t m hd' e,yd0 hd' e];refine⟨?_,f.same rfl⟩;have o:=f.ownB n (c7 e) t;dsimp only;by_cases b:σ.pg t.pa= .held t.d
  ·rw[if_pos (o.2 b),if_pos b]
  rw[if_neg (fun k=>b (o.1 k)),if_neg b]
 ·rw[zl5 s t m hd' e,ydy hd' e];exact⟨rfl,f.zd7 c5 .empty rfl⟩
 ·rw[zmg s t m hd' e,ydn hd' e];refine⟨?_,f.same rfl⟩;have o:=f.ownB n c5 t;dsimp only;by_cases b:σ.pg t.at'= .held t.d
  ·rw[if_pos (o.2 b),if_pos b]
  rw[if_neg (fun k=>b (o.1 k)),if_neg b]
 ·rw[zl3 s t m hd' e,yd2 hd' e];exact⟨rfl,f.setSlot c5 (c8 e) .none rfl⟩
 ·rw[zl6 s t m hd' e,yei hd' e];exact⟨rfl,f.zd7 c5 .empty rfl⟩
 ·rw[zl8 s t m hd' e,yeh hd' e];exact⟨rfl,f.z1g c3 (c9 e) .none rfl⟩
 ·rw[zjn s t m hd' e,z9b hd' e];refine⟨?_,f.same rfl⟩;dsimp only;rw[y,r,kp1];cases b:σ.pg t.at'<;>simp[PW.kind]
 ·rw[zju s t m hd' e,z8z hd' e];refine⟨?_,f.same rfl⟩;have z:=q (.inl e);have:=zcy t.pa;have o:m.get (zbk s.p s.c s.m t.at' t.i)=zc3 2 t.d↔σ.sl t.at' t.i= .way t.d:=f.zlw n c5 (show 0<=t.i/\t.i<16 by omega) (u:= .way t.d) c3;dsimp only;by_cases b:σ.sl t.at' t.i= .way t.d
  ·rw[if_pos (o.2 b),if_pos b]
  rw[if_neg (fun k=>b (o.1 k)),if_neg b]
 ·rw[zkg s t m hd' e,z9f hd' e];have z:=q (.inr e);have:=zcy t.pa;exact⟨rfl,f.setSlot c5 (by omega) (.opened t.pa) rfl⟩
 rw[zj8 s t m hd' e,z8n hd' e];exact⟨rfl,f.zpm c3 .done rfl⟩
theorem ye9{cl:Int}{j:Jb}(l:Rep s m σ)(n:GI s σ)(h:jbIs s cl j)(p:0<=cl/\cl<s.c):Sim s (j.step s cl m) (j.zhf s cl σ):=by
 cases j with
 |mal r c=>
  unfold Jb.step Jb.zhf;dsimp only;by_cases hd:r.done=false
  ·have:=z0x l n ⟨fun x i=>(h.1.sk x i).1.ok,fun x i=>(h.1.rn x i).ok⟩;rw[if_pos hd,if_pos hd,this.1];exact⟨rfl,this.2⟩
  rw[if_neg hd,if_neg hd];have o:∀ x,zhp s cl r c=some x->cmOk s x:=fun x i=>by
   unfold zhp at i;rcases c with _|y
   ·rcases hg':r.got with _|b
    ·rw[hg']at i;cases i
    rw[hg']at i;injection i with i;subst i;exact zpt _ _ _
   have:some y=some x:=i;injection this with this;subst this;intro e;rw[(h.2 y rfl).2.1]at e;cases e
  rcases hm:zhp s cl r c with _|x
  ·exact⟨rfl,l⟩
  have:=z9g l (o x hm);dsimp only;rw[this.1];exact⟨rfl,this.2⟩
 |fre f=>have:=z9o l n h.ok;exact⟨congrArg Jb.fre this.1,this.2⟩
 |aga r=>have:=ydv l n h.ok;exact⟨congrArg Jb.aga this.1,this.2⟩
 |hei a=>have:=ye4 l n h.1;exact⟨congrArg Jb.hei this.1,this.2⟩
end

section

variable {s:Sh} {σ σ':Ab} {c d:Int}

def zge (σ:Ab) (d p h:Int):Prop:=σ.pg p= .body h/\σ.pg h= .held d
def zis (σ:Ab) (d p i k:Int):Prop:=(∃ b,σ.pg p= .super k b)/\σ.sl p i= .way d
def zdf (σ:Ab) (d n:Int):Prop:=∀ p h,0<=p->p < n->¬ zge σ d p h
def zcg (σ:Ab) (d n:Int):Prop:=∀ p,0<=p->p < n->σ.pg p≠ .held d
def zhg (σ:Ab) (d n:Int):Prop:=∀ p i k,0<=p->p < n->¬ zis σ d p i k
def zgu (σ:Ab) (d n:Int):Prop:=∀ i,0<=i->i < n->σ.mg d i= .none
def AdD (s:Sh) (σ:Ab) (t:Ad):Prop:=
 if t.next=3 then zdf σ t.d t.at'
 else if t.next=4 then zdf σ t.d t.at'/\(∀ h,zge σ t.d t.at' h->h=t.pa)/\(σ.pg t.pa= .held t.d->σ.pg t.at'= .body t.pa)
 else if t.next=5 then zdf σ t.d t.at'/\zge σ t.d t.at' t.pa
 else if t.next=6 then zdf σ t.d s.p/\zcg σ t.d t.at'
 else if t.next=7 then zdf σ t.d s.p/\zcg σ t.d t.at'/\σ.pg t.at'= .held t.d/\∀ j,0<=j->j < t.i->σ.sl t.at' j= .none
 else if t.next=8 then zdf σ t.d s.p/\zcg σ t.d t.at'/\σ.pg t.at'= .held t.d/\∀ j,σ.sl t.at' j= .none
 else if t.next=9 then zcg σ t.d s.p/\zgu σ t.d t.i/\t.at'=0
 else if t.next=10 then zcg σ t.d s.p/\zgu σ t.d s.m/\zhg σ t.d t.at'
 else if t.next=11 then zcg σ t.d s.p/\zgu σ t.d s.m/\zhg σ t.d t.at'/\∀ j k,zis σ t.d t.at' j k->k=t.pa/\t.i<=j
 else if t.next=12 then zcg σ t.d s.p/\zgu σ t.d s.m/\zhg σ t.d t.at'/\(∀ j k,zis σ t.d t.at' j k->k=t.pa/\t.i<=j)/\zis σ t.d t.at' t.i t.pa
 else zcg σ t.d s.p/\zgu σ t.d s.m/\zhg σ t.d s.p
section

variable {t:Ad}

theorem adD3(h:t.next=3):AdD s σ t=zdf σ t.d t.at':=by unfold AdD;simp[h]
theorem adD4(h:t.next=4):AdD s σ t=(zdf σ t.d t.at'/\(∀ h,zge σ t.d t.at' h->h=t.pa)/\(σ.pg t.pa= .held t.d->σ.pg t.at'= .body t.pa)):=by unfold AdD;simp[h]
theorem adD5(h:t.next=5):AdD s σ t=(zdf σ t.d t.at'/\zge σ t.d t.at' t.pa):=by unfold AdD;simp[h]
theorem adD6(h:t.next=6):AdD s σ t=(zdf σ t.d s.p/\zcg σ t.d t.at'):=by unfold AdD;simp[h]
theorem adD7(h:t.next=7):AdD s σ t=(zdf σ t.d s.p/\zcg σ t.d t.at'/\σ.pg t.at'= .held t.d/\∀ j,0<=j->j<t.i->σ.sl t.at' j= .none):=by unfold AdD;simp[h]
theorem adD8(h:t.next=8):AdD s σ t=(zdf σ t.d s.p/\zcg σ t.d t.at'/\σ.pg t.at'= .held t.d/\∀ j,σ.sl t.at' j= .none):=by unfold AdD;simp[h]
theorem adD9(h:t.next=9):AdD s σ t=(zcg σ t.d s.p/\zgu σ t.d t.i/\t.at'=0):=by unfold AdD;simp[h]
theorem z4i(h:t.next=10):AdD s σ t=(zcg σ t.d s.p/\zgu σ t.d s.m/\zhg σ t.d t.at'):=by unfold AdD;simp[h]
theorem z6n(h:t.next=11):AdD s σ t=(zcg σ t.d s.p/\zgu σ t.d s.m/\zhg σ t.d t.at'/\∀ j k,zis σ t.d t.at' j k->k=t.pa/\t.i<=j):=by unfold AdD;simp[h]
theorem yb2(h:t.next=12):AdD s σ t=(zcg σ t.d s.p/\zgu σ t.d s.m/\zhg σ t.d t.at'/\(∀ j k,zis σ t.d t.at' j k->k=t.pa/\t.i<=j)/\zis σ t.d t.at' t.i t.pa):=by unfold AdD;simp[h]
theorem z9t(h:t.next=13):AdD s σ t=(zcg σ t.d s.p/\zgu σ t.d s.m/\zhg σ t.d s.p):=by unfold AdD;simp[h]
end

theorem zjb(hs:Same d σ σ')(p h:Int):zge σ' d p h↔zge σ d p h:=by
 unfold zge;rw[hs.h h];exact⟨fun ⟨a,b⟩=>⟨(hs.b p h b).1 a,b⟩,fun ⟨a,b⟩=>⟨(hs.b p h b).2 a,b⟩⟩
theorem zin(hs:Same d σ σ')(p i k:Int):zis σ' d p i k↔zis σ d p i k:=hs.w p i k
theorem zdf.same{n:Int}(h:zdf σ d n)(hs:Same d σ σ'):zdf σ' d n:=fun p g h0 b e=>h p g h0 b ((zjb hs p g).1 e)
theorem zcg.same{n:Int}(h:zcg σ d n)(hs:Same d σ σ'):zcg σ' d n:=fun p h0 b e=>h p h0 b ((hs.h p).1 e)
theorem zhg.same{n:Int}(h:zhg σ d n)(hs:Same d σ σ'):zhg σ' d n:=fun p i k h0 b e=>h p i k h0 b ((zin hs p i k).1 e)
theorem zgu.same{n:Int}(h:zgu σ d n)(hs:Same d σ σ'):zgu σ' d n:=fun i h0 hi=>(hs.m i).trans (h i h0 hi)
theorem AdD.same{t:Ad}(f:3<=t.next/\t.next<=13)(h:AdD s σ t)(hs:Same t.d σ σ'):AdD s σ' t:=by
 have:t.next=3\/t.next=4\/t.next=5\/t.next=6\/t.next=7\/t.next=8\/t.next=9\/t.next=10\/t.next=11\/t.next=12\/t.next=13:=by omega
 rcases this with e|e|e|e|e|e|e|e|e|e|e
 ·rw[adD3 e]at *;exact h.same hs
 ·rw[adD4 e]at *;exact⟨h.1.same hs,fun g e=>h.2.1 g ((zjb hs _ _).1 e),fun e=>(hs.b _ _ ((hs.h _).1 e)).2 (h.2.2 ((hs.h _).1 e))⟩
 ·rw[adD5 e]at *;exact⟨h.1.same hs,(zjb hs _ _).2 h.2⟩
 ·rw[adD6 e]at *;exact⟨h.1.same hs,h.2.same hs⟩
 ·rw[adD7 e]at *;exact⟨h.1.same hs,h.2.1.same hs,(hs.h _).2 h.2.2.1,fun j a b=>(hs.hs _ _ h.2.2.1).trans (h.2.2.2 j a b)⟩
 ·rw[adD8 e]at *;exact⟨h.1.same hs,h.2.1.same hs,(hs.h _).2 h.2.2.1,fun j=>(hs.hs _ _ h.2.2.1).trans (h.2.2.2 j)⟩
 ·rw[adD9 e]at *;exact⟨h.1.same hs,h.2.1.same hs,h.2.2⟩
 ·rw[z4i e]at *;exact⟨h.1.same hs,h.2.1.same hs,h.2.2.same hs⟩
 ·rw[z6n e]at *;exact⟨h.1.same hs,h.2.1.same hs,h.2.2.1.same hs,fun j k e=>h.2.2.2 j k ((zin hs _ _ _).1 e)⟩
 ·rw[yb2 e]at *;exact⟨h.1.same hs,h.2.1.same hs,h.2.2.1.same hs,fun j k e=>h.2.2.2.1 j k ((zin hs _ _ _).1 e),(zin hs _ _ _).2 h.2.2.2.2⟩
 rw[z9t e]at *;exact⟨h.1.same hs,h.2.1.same hs,h.2.2.same hs⟩
theorem zdf.succ{n:Int}(h:zdf σ d n)(f:∀ g,¬ zge σ d n g):zdf σ d (n+1):=fun p g h0 i e=>by
 by_cases b:p=n
 ·subst b;exact f g e
 ·exact h p g h0 (by omega) e
theorem zcg.succ{n:Int}(h:zcg σ d n)(f:σ.pg n≠ .held d):zcg σ d (n+1):=fun p h0 i e=>by
 by_cases b:p=n
 ·subst b;exact f e
 ·exact h p h0 (by omega) e
theorem zhg.succ{n:Int}(h:zhg σ d n)(f:∀ i k,¬ zis σ d n i k):zhg σ d (n+1):=fun p i k h0 j e=>by
 by_cases b:p=n
 ·subst b;exact f i k e
 ·exact h p i k h0 (by omega) e
structure AdOn (s:Sh) (σ:Ab) (t t':Ad):Prop where
 dd:AdD s σ t'
 d:t'.d=t.d
 c:t'.c=t.c
 dn:t'.done=t.done
 nx:3<=t'.next/\t'.next<=13
theorem z2v{t:Ad}(h:zdf σ t.d (t.at'+1)):AdOn s σ t (t.turn s 3 6):=by
 unfold Ad.turn;dsimp only;by_cases e:t.at'+1=s.p
 ·rw[if_pos e];dsimp only;rw[if_neg (by omega)];refine⟨?_,rfl,rfl,rfl,by dsimp only;omega⟩;rw[adD6 rfl];exact⟨e ▸ h,fun p h0 b=>by dsimp only at b;omega⟩
 rw[if_neg e];dsimp only;rw[if_neg (by omega)];refine⟨?_,rfl,rfl,rfl,by dsimp only;omega⟩;rw[adD3 rfl];exact h
theorem zz1{t:Ad}(hb:zdf σ t.d s.p)(h:zcg σ t.d (t.at'+1)):AdOn s σ t (t.turn s 6 9):=by
 unfold Ad.turn;dsimp only;by_cases e:t.at'+1=s.p
 ·rw[if_pos e];dsimp only;by_cases b:s.m=0
  ·rw[if_pos ⟨rfl,b⟩];refine⟨?_,rfl,rfl,rfl,by dsimp only;omega⟩;rw[z4i rfl];exact⟨e ▸ h,fun i h0 hi=>by omega,fun p i k h0 f=>by dsimp only at f;omega⟩
  rw[if_neg (fun h=>b h.2)];refine⟨?_,rfl,rfl,rfl,by dsimp only;omega⟩;rw[adD9 rfl];exact⟨e ▸ h,fun i h0 hi=>by dsimp only at hi;omega,rfl⟩
 rw[if_neg e];dsimp only;rw[if_neg (by omega)];refine⟨?_,rfl,rfl,rfl,by dsimp only;omega⟩;rw[adD6 rfl];exact⟨hb,h⟩
theorem zwk{t:Ad}(b:zcg σ t.d s.p)(f:zgu σ t.d s.m)(h:zhg σ t.d (t.at'+1)):AdOn s σ t (t.turn s 10 13):=by
 unfold Ad.turn;dsimp only;by_cases e:t.at'+1=s.p
 ·rw[if_pos e];dsimp only;rw[if_neg (by omega)];refine⟨?_,rfl,rfl,rfl,by dsimp only;omega⟩;rw[z9t rfl];exact⟨b,f,e ▸ h⟩
 rw[if_neg e];dsimp only;rw[if_neg (by omega)];refine⟨?_,rfl,rfl,rfl,by dsimp only;omega⟩;rw[z4i rfl];exact⟨b,f,h⟩
theorem z8w{t:Ad}(r:GI s σ)(l:zcg σ t.d s.p)(o:zgu σ t.d s.m)(q:zhg σ t.d t.at')(h:∀ j k,zis σ t.d t.at' j k->k=t.pa/\t.i+1<=j):AdOn s σ t (t.slot s):=by
 unfold Ad.slot;split
 ·rename_i e
  have:=zwk (s:=s) (t:= {t with i:=0,next:=11}) l o (q.succ fun i k n=>by
   have h1:=h i k n
   obtain⟨⟨b,y⟩,f⟩:=n
   have:=zke r y f
   rw[h1.1]at this
   omega)
  exact⟨this.dd,this.d,this.c,this.dn,this.nx⟩
 refine⟨?_,rfl,rfl,rfl,by dsimp only;omega⟩;rw[z6n rfl];exact⟨l,o,q,h⟩
theorem zpb(b:GI s σ)(h:zcg σ d s.p)(p:Int):σ.pg p≠ .held d:=fun e=>by
 have:=zkn b e
 exact h p this.1.1 this.1.2 e
theorem zsc(b:GI s σ)(h:zgu σ d s.m)(i:Int):σ.mg d i= .none:=by
 by_cases e:σ.mg d i= .none
 ·exact e
 have:=b.mr d i e;exact h i this.2.1 this.2.2
theorem zzv(b:GI s σ)(h:zdf σ d s.p)(p g:Int):¬ zge σ d p g:=fun e=>by
 have:=zvc b e.1
 exact h p g this.2.2.2.1 this.2.2.2.2 e
structure zxh (s:Sh) (σ:Ab) (t:Ad) (r:Ad × Ab):Prop where
 kept:Kept s t.d σ r.2
 on:AdOn s r.2 t r.1
 calm:Calm σ r.2
theorem yb6{t:Ad}(D:GI s σ)(hk:adOk s t)(hd:t.done=false)(hn:3<=t.next/\t.next<=12)(h:AdD s σ t):zxh s σ t (adA s t σ):=by
 obtain⟨c1,c2,c3,c4,c5,c6,c7,c8,c9,b1⟩:=hk.cl hd;unfold adA;rw[if_neg (by rw[hd];decide),if_neg (by omega),if_neg (by omega),if_neg (by omega)];have quiet:∀ t',AdOn s σ t t'->zxh s σ t (t',σ):=fun t' h=>⟨Kept.refl D,h,Calm.refl _⟩;have X:∀ t':Ad,t'.d=t.d->t'.c=t.c->t'.done=t.done->t'.at'=t.at'->(∀ g,¬ zge σ t.d t.at' g)->zdf σ t.d t.at'->AdOn s σ t (t'.turn s 3 6):=fun t' l r E H I J=>by have:=z2v (s:=s) (σ:=σ) (t:=t') (by rw[l,H];exact J.succ I);exact⟨this.dd,this.d.trans l,this.c.trans r,this.dn.trans E,this.nx⟩
 have V:∀ t':Ad,t'.d=t.d->t'.c=t.c->t'.done=t.done->t'.at'=t.at'->zcg σ t.d s.p->zgu σ t.d s.m->(∀ i k,¬ zis σ t.d t.at' i k)->zhg σ t.d t.at'->AdOn s σ t (t'.turn s 10 13):=fun t' l r E H I J L N=>by have:=zwk (s:=s) (σ:=σ) (t:=t') (by rw[l];exact I) (by rw[l];exact J) (by rw[l,H];exact N.succ L);exact⟨this.dd,this.d.trans l,this.c.trans r,this.dn.trans E,this.nx⟩
 by_cases E:t.next=3
 ·rw[if_pos E];rw[adD3 E]at h;have other:(∀ g,σ.pg t.at'≠ .body g)->zxh s σ t ((t.zkp (σ.pg t.at')).turn s 3 6,σ):=fun f=>quiet _ (X _ rfl rfl rfl rfl (fun g e=>f g e.1) h);cases f:σ.pg t.at' with
  |body g=>refine quiet _ ⟨?_,rfl,rfl,rfl,by dsimp only;omega⟩;rw[adD4 rfl];exact⟨h,fun g' e=>by have:=e.1;dsimp only[Ad.zkp]at this;rw[f]at this;injection this with this;exact this.symm,fun _=>f⟩
  |_=>have:=other (fun g e=>by rw[f]at e;cases e);rw[f]at this;exact this
 rw[if_neg E];by_cases H:t.next=4
 ·rw[if_pos H];rw[adD4 H]at h;by_cases f:σ.pg t.pa= .held t.d
  ·rw[if_pos f];refine quiet _ ⟨?_,rfl,rfl,rfl,by dsimp only;omega⟩;rw[adD5 rfl];exact⟨h.1,h.2.2 f,f⟩
  rw[if_neg f];exact quiet _ (X _ rfl rfl rfl rfl (fun g e=>f (by rw[<-h.2.1 g e];exact e.2)) h.1)
 rw[if_neg H];by_cases I:t.next=5
 ·rw[if_pos I];rw[adD5 I]at h;obtain⟨h1,h2⟩:=h;have C:=zjz D h2.1 h2.2;have hb:∀ p g,zge (σ.page t.at' .empty) t.d p g->zge σ t.d p g:=fun p g e=>by
   have y:(σ.page t.at' .empty).pg g= .held t.d:=e.2;by_cases ep:p=t.at'
   ·subst ep;have:=e.1;rw[za4]at this;cases this
   have l:=e.1;rw[zbd _ _ ep]at l;refine⟨l,?_⟩;by_cases O:g=t.at'
   ·subst O;rw[za4]at y;cases y
   rw[zbd _ _ O]at y;exact y
  refine⟨C,z2v (zdf.succ (fun p g h0 B e=>h1 p g h0 B (hb p g e)) (fun g e=>by have:=e.1;rw[za4]at this;cases this)),zdt (fun n e=>by cases e) (fun n e=>by rw[h2.1]at e;cases e)⟩
 rw[if_neg I];by_cases J:t.next=6
 ·rw[if_pos J];rw[adD6 J]at h;by_cases f:σ.pg t.at'= .held t.d
  ·rw[if_pos f];refine quiet _ ⟨?_,rfl,rfl,rfl,by dsimp only;omega⟩;rw[adD7 rfl];exact⟨h.1,h.2,f,fun j a b=>by dsimp only at b;omega⟩
  rw[if_neg f];exact quiet _ (zz1 h.1 (h.2.succ f))
 rw[if_neg J];by_cases L:t.next=7
 ·rw[if_pos L];rw[adD7 L]at h;obtain⟨h1,h2,h3,h4⟩:=h;have C:=zgw D h3 (i:=t.i) (u:= .none) (.inl rfl);have hj:∀ j,0<=j->j<t.i+1->(σ.slot t.at' t.i .none).sl t.at' j= .none:=fun j a b=>by
   by_cases e:j=t.i
   ·subst e;exact zbs _ _ _ _
   rw[zbq _ _ (fun r=>e r.2)];exact h4 j a (by omega)
  refine⟨C,?_,zdn (fun n e=>by cases e) (fun n e=>by rcases zgg D h3 t.i with r|r;(rw[r]at e;cases e);(rw[r.1]at e;cases e))⟩;by_cases e:t.i+1=16
  ·rw[if_pos e];refine⟨?_,rfl,rfl,rfl,by dsimp only;omega⟩;rw[adD8 rfl];refine⟨h1,h2,h3,fun j=>?_⟩;by_cases R:0<=j/\j<16
   ·exact hj j R.1 (by omega)
   rcases zgg C.1 (p:=t.at') (c:=t.d) h3 j with E|E
   ·exact E
   exact absurd E.2 R
  rw[if_neg e];refine⟨?_,rfl,rfl,rfl,by dsimp only;omega⟩;rw[adD7 (by exact L)];exact⟨h1,h2,h3,hj⟩
 rw[if_neg L];by_cases N:t.next=8
 ·rw[if_pos N];rw[adD8 N]at h;obtain⟨h1,h2,h3,h4⟩:=h;have b0:∀ q,σ.pg q≠ .body t.at':=fun q e=>zzv D h1 q _ ⟨e,h3⟩;refine⟨zg7 D h3 h4 b0,zz1 (fun p g h0 B e=>?_) (zcg.succ (fun p h0 B e=>h2 p h0 B ?_) (fun e=>by rw[za4]at e;cases e)),zdt (fun n e=>by cases e) (fun n e=>by rw[h3]at e;cases e)⟩
  ·have y:(σ.page t.at' .empty).pg g= .held t.d:=e.2;have l:=e.1;by_cases ep:p=t.at'
   ·subst ep;rw[za4]at l;cases l
   rw[zbd _ _ ep]at l;by_cases O:g=t.at'
   ·subst O;rw[za4]at y;cases y
   rw[zbd _ _ O]at y;exact h1 p g h0 B ⟨l,y⟩
  rw[zbd _ _ (by omega)]at e;exact e
 rw[if_neg N];by_cases Y:t.next=9
 ·rw[if_pos Y];rw[adD9 Y]at h;have hm:zgu (σ.mag t.d t.i .none) t.d (t.i+1):=fun j h0 hj=>by
   by_cases e:j=t.i
   ·subst e;exact zcb _ _ _ _
   rw[zci _ _ (fun r=>e r.2)];exact h.2.1 j h0 (by omega)
  refine⟨zi4 D,?_,zpy⟩;by_cases e:t.i+1=s.m
  ·rw[if_pos e];refine⟨?_,rfl,rfl,rfl,by dsimp only;omega⟩;rw[z4i rfl];exact⟨h.1,by rw[<-e];exact hm,fun p i k h0 B=>by dsimp only at B;omega⟩
  rw[if_neg e];refine⟨?_,rfl,rfl,rfl,by dsimp only;omega⟩;rw[adD9 (by exact Y)];exact⟨h.1,hm,h.2.2⟩
 rw[if_neg Y];by_cases F:t.next=10
 ·rw[if_pos F];rw[z4i F]at h;obtain⟨h1,h2,h3⟩:=h;have other:(∀ k b,σ.pg t.at'≠ .super k b)->zxh s σ t ((t.zkp (σ.pg t.at')).turn s 10 13,σ):=fun f=>quiet _ (V _ rfl rfl rfl rfl h1 h2 (fun i k e=>by obtain⟨⟨b,e⟩,_⟩:=e;exact f k b e) h3);cases f:σ.pg t.at' with
  |super k b=>refine quiet _ ⟨?_,rfl,rfl,rfl,by dsimp only;omega⟩;rw[z6n rfl];refine⟨h1,h2,h3,fun j k' e=>?_⟩;obtain⟨⟨b',l⟩,r⟩:=e;have l:σ.pg t.at'= .super k' b':=l;have hr:=zke D l r;rw[f]at l;injection l with l _;exact⟨l.symm,hr.1⟩
  |_=>have:=other (fun k b e=>by rw[f]at e;cases e);rw[f]at this;exact this
 rw[if_neg F];by_cases G:t.next=11
 ·rw[if_pos G];rw[z6n G]at h;obtain⟨h1,h2,h3,h4⟩:=h;by_cases f:σ.sl t.at' t.i= .way t.d
  ·rw[if_pos f];refine quiet _ ⟨?_,rfl,rfl,rfl,by dsimp only;omega⟩;rw[yb2 rfl];refine⟨h1,h2,h3,h4,?_⟩;have z:=D.sk t.at' t.i;rw[f]at z;have T:∀ k b,σ.pg t.at'= .super k b->zis σ t.d t.at' t.i t.pa:=fun k b e=>by have U:zis σ t.d t.at' t.i k:=⟨⟨b,e⟩,f⟩;rw[<-(h4 _ _ U).1];exact U
   cases B:σ.pg t.at' with
   |super k b=>exact T k b B;|held o=>
    exfalso;rw[B]at z;rcases z with e|e
    ·cases e
    injection e.1 with e;subst e;exact zpb D h1 _ B
   |empty=>rw[B]at z;cases z
   |large n=>rw[B]at z;cases z
   |body g=>rw[B]at z;cases z
  rw[if_neg f];refine quiet _ (z8w D h1 h2 h3 fun j k e=>⟨(h4 j k e).1,?_⟩);have:=(h4 j k e).2;have:j≠t.i:=fun Z=>f (by rw[<-Z];exact e.2);omega
 rw[if_neg G];have M:t.next=12:=by omega
 rw[if_pos M];rw[yb2 M]at h;obtain⟨h1,h2,h3,h4,⟨b,B⟩,S⟩:=h;have C:=zc6 D B S (u:= .opened t.pa) (.inl rfl) (fun j k' e=>by rw[zsc D h2]at e;cases e);have U:∀ p i k,zis (σ.slot t.at' t.i (.opened t.pa)) t.d p i k->zis σ t.d p i k/\¬ (p=t.at'/\i=t.i):=fun p i k e=>by
  obtain⟨l,r⟩:=e;by_cases ep:p=t.at'/\i=t.i
  ·obtain⟨rfl,rfl⟩:=ep;rw[zbs]at r;cases r
  rw[zbq _ _ ep]at r;exact⟨⟨l,r⟩,ep⟩
 refine⟨C,z8w C.1 h1 h2 (fun p i k h0 B e=>h3 p i k h0 B (U p i k e).1) (fun j k e=>?_),zdn (fun n e=>by cases e) (fun n e=>by rw[S]at e;cases e)⟩;obtain⟨l,r⟩:=U _ _ _ e;have:=h4 j k l;refine⟨this.1,?_⟩;have:j≠t.i:=fun Z=>r ⟨rfl,Z⟩;omega
end

end Go.Proofs.YtedcnffebdpmmaaGreat
