
import Derived.Test.YtkilokkopbajkaaGreatBw9

import Derived.Test.YtkilokkopbajkaaGreatBw26

set_option linter.all false
namespace Go.Proofs.YtkilokkopbajkaaGreat

section

def rsA (s:Sh) (t:Rs) (σ:Ab):Rs×Ab:=match t.seeker,t.runner with
 |some x,_=>({t with seeker:=some (skA s x σ).1},(skA s x σ).2)
 |none,some x=>({t with runner:=some (rnA s x σ).1},(rnA s x σ).2)
 |none,none=>(t,σ)
def cmA (t:Cm) (σ:Ab):Cm×Ab:=
 if t.done=true then (t,σ)
 else ({t with done:=true},if t.b.large=true then σ.page t.b.page (.large t.b.pages) else σ.slot t.b.page t.b.slot (.taken t.b.k))
def unA (t:Un) (σ:Ab):Un×Ab:=
 if t.done=true then (t,σ)
 else if t.b.large=false then ({t with done:=true},σ.slot t.b.page t.b.slot (.opened t.b.k))
 else if t.i=t.b.pages-1 then ({t with done:=true},σ.page t.b.page .empty)
 else ({t with i:=t.i+1},σ.page (t.b.page+t.i+1) .empty)
def Fe.dC (t:Fe) (x:PW):Fe:=
 let t':Fe:={t with word:=x.enc,pk:=x.kind,pa:=x.pa,pb:=x.pb,next:=1}
 if x.kind=3/\t.a % 64=0 then t' else if x.kind=2/\t.a % 64 % zA x.pa=0 then {t' with slot:=t.a % 64 / zA x.pa} else {t' with done:=true}
def Fe.gotA (s:Sh) (t:Fe) (g:Bool):Fe:=
 let t':Fe:={t with gave:=g,next:=3}
 let t'':Fe:=if t.pb=t.c then ({t' with put:=some (nD s t.c t.page t.slot t.pa),next:=2}:Fe).kept else t'
 {t'' with done:= !g}
def feA (s:Sh) (t:Fe) (σ:Ab):Fe×Ab:=
 if t.done=true then (t,σ)
 else if t.next=0 then (t.dC (σ.pg t.page),σ)
 else if t.next=1 then
  if t.pk=3 then (if (σ.pg t.page).enc=t.word then ({t with gave:=true,next:=4,done:=false},σ.page t.page (.held t.c)) else ({t with gave:=false,next:=4,done:=true},σ))
  else if σ.sl t.page t.slot=.taken t.pa then (t.gotA s true,σ.slot t.page t.slot (.way t.c)) else (t.gotA s false,σ)
 else if t.next=2 then match t.put with
  |some x=>(({t with put:=some (puA s x σ).1}:Fe).kept,(puA s x σ).2)
  |none=>(t,σ)
 else if t.next=3 then ({t with done:=true},σ.slot t.page t.slot (.opened t.pa))
 else if t.i=t.pa-1 then ({t with done:=true},σ.page t.page .empty)
 else ({t with i:=t.i+1},σ.page (t.page+t.i+1) .empty)
def rrA (s:Sh) (t:Rr) (σ:Ab):Rr×Ab:=
 if t.done=true then (t,σ)
 else match t.res,t.free with
  |some r,some f=>
   if r.done=false then (Rr.settle s {t with res:=some (rsA s r σ).1},(rsA s r σ).2)
   else if f.done=false then (Rr.settle s {t with free:=some (feA s f σ).1},(feA s f σ).2)
   else match t.undo,t.com with
    |some u,_=>(Rr.settle s {t with undo:=some (unA u σ).1},(unA u σ).2)
    |none,some u=>(Rr.settle s {t with com:=some (cmA u σ).1},(cmA u σ).2)
    |none,none=>(t,σ)
  |_,_=>(t,σ)
def Ad.lF (t:Ad) (x:PW):Ad:={t with pk:=x.kind,pa:=x.pa,pb:=x.pb}
def adA (s:Sh) (t:Ad) (σ:Ab):Ad×Ab:=
 if t.done=true then (t,σ)
 else if t.next=0 then
  (match σ.st t.d with
   |.dead=>{t with was:=(σ.st t.d).enc,next:=2}
   |.owned a=>{t with was:=(σ.st t.d).enc,who:=a,next:=1}
   |_=>({t with was:=(σ.st t.d).enc}:Ad).fin 5,σ)
 else if t.next=1 then (if σ.st t.who=.live then ({t with next:=2}:Ad).fin 4 else {t with next:=2},σ)
 else if t.next=2 then (if (σ.st t.d).enc=t.was then ({t with next:=3},σ.stat t.d (.owned t.c)) else (({t with next:=3}:Ad).fin 4,σ))
 else if t.next=3 then (match σ.pg t.at' with|.body h=>{t.lF (.body h) with next:=4}|x=>(t.lF x).turn s 3 6,σ)
 else if t.next=4 then (if σ.pg t.pa=.held t.d then {t with next:=5} else t.turn s 3 6,σ)
 else if t.next=5 then (t.turn s 3 6,σ.page t.at' .empty)
 else if t.next=6 then (if σ.pg t.at'=.held t.d then {t with next:=7,i:=0} else t.turn s 6 9,σ)
 else if t.next=7 then (if t.i+1=16 then {t with i:=t.i+1,next:=8} else {t with i:=t.i+1},σ.slot t.at' t.i .none)
 else if t.next=8 then (t.turn s 6 9,σ.page t.at' .empty)
 else if t.next=9 then (if t.i+1=s.m then {t with i:=0,next:=10} else {t with i:=t.i+1},σ.mag t.d t.i .none)
 else if t.next=10 then (match σ.pg t.at' with|.super k b=>{t.lF (.super k b) with next:=11,i:=0}|x=>(t.lF x).turn s 10 13,σ)
 else if t.next=11 then (if σ.sl t.at' t.i=.way t.d then {t with next:=12} else t.slot s,σ)
 else if t.next=12 then (t.slot s,σ.slot t.at' t.i (.opened t.pa))
 else (t.fin 0,σ.stat t.d .done)
def Jb.EB (s:Sh) (cl:Int) (σ:Ab):Jb->Jb×Ab
 |.mal r c=>if r.done=false then (.mal (rsA s r σ).1 c,(rsA s r σ).2) else match FF s cl r c with
  |some x=>(.mal r (some (cmA x σ).1),(cmA x σ).2)
  |none=>(.mal r none,σ)
 |.fre f=>(.fre (feA s f σ).1,(feA s f σ).2)
 |.aga r=>(.aga (rrA s r σ).1,(rrA s r σ).2)
 |.hei a=>(.hei (adA s a σ).1,(adA s a σ).2)
variable {s:Sh}{m:Mem}{σ:Ab}

theorem HO{t:Rs}(b:Rep s m σ)(f:GI s σ)(h:(∀x,t.seeker=some x->skOk s x)/\(∀x,t.runner=some x->rnOk s x)):Sim s (CB s t m) (rsA s t σ):=by
 obtain⟨k,pg,sk,rn⟩:=t;unfold CB rsA;rcases sk with _|x
 .rcases rn with _|y
  .exact⟨rfl,b⟩
  have:=qZ b f (h.2 y rfl);dsimp only;rw[this.1];exact⟨rfl,this.2⟩
 have:=JZ b f (h.1 x rfl);dsimp only;rw[this.1];exact⟨rfl,this.2⟩
theorem jU{t:Cm}(i:Rep s m σ)(h:cmOk s t):Sim s (GB s t m) (cmA t σ):=by
 unfold GB cmA;by_cases hd:t.done=true
 .rw[jP hd,jP hd];exact⟨rfl,i⟩
 rw[jN hd,jN hd];obtain⟨_,_,h3,h4,j⟩:=LE.1 (h (by simpa using hd));by_cases f:t.b.large=true
 .rw[jP f,jP f];exact⟨rfl,i.KE h3 (.large t.b.pages) rfl⟩
 rw[jN f,jN f];have l:=j (by simpa using f);have:=CC t.b.k;exact⟨rfl,i.setSlot h3 (by omega) (.taken t.b.k) rfl⟩
theorem FZ{t:Un}(l:Rep s m σ)(h:unOk s t):Sim s (QB s t m) (unA t σ):=by
 unfold QB unA;by_cases hd:t.done=true
 .rw[jP hd,jP hd];exact⟨rfl,l⟩
 rw[jN hd,jN hd];obtain⟨h1,h2⟩:=h.cl (by simpa using hd);obtain⟨_,_,h3,h4,n⟩:=LE.1 h1;by_cases f:t.b.large=false
 .rw[jP f,jP f];have o:=n f;have:=CC t.b.k;exact⟨rfl,l.setSlot h3 (by omega) (.opened t.b.k) rfl⟩
 rw[jN f,jN f];have j:t.b.large=true:=by simpa using f
 have o:=h4 j;have p:=h2 j;by_cases hi:t.i=t.b.pages-1
 .rw[jP hi,jP hi];exact⟨rfl,l.KE h3 .empty rfl⟩
 rw[jN hi,jN hi];exact⟨rfl,l.KE (by omega) .empty rfl⟩
theorem rU{t:Fe}(b:Rep s m σ)(q:GI s σ)(h:feOk s t):Sim s (NB s t m) (feA s t σ):=by
 unfold NB feA;by_cases hd:t.done=true
 .rw[jP hd,jP hd];exact⟨rfl,b⟩
 rw[jN hd,jN hd];obtain⟨c1,c2,c3,c4,c5,c6,c7,c8,c9,o⟩:=h.cl (by simpa using hd);by_cases h0:t.next=0
 .rw[jP h0,jP h0];refine⟨?_,b.same rfl⟩;obtain⟨r1,C,D,E⟩:=b.read q c2;unfold Fe.look Fe.dC;dsimp only;rw[r1,C,D,E,b.pg _ c2];simp only[if_true,true_and]
 rw[jN h0,jN h0];by_cases h1:t.next=1
 .rw[jP h1,jP h1];unfold Fe.claim;rcases c6 (by omega) with⟨k1,j,n,z⟩|⟨k1,j,n⟩
  .rw[jP k1,jP k1];dsimp only;rw[b.pg _ c2];by_cases e:(σ.pg t.page).enc=t.word
   .rw[jP e,jT e];exact⟨rfl,b.KE c2 (.held t.c) (dI (by rw[b.pg _ c2];exact e))⟩
   rw[jN e,jF e];exact⟨rfl,b.same (jI (by rw[b.pg _ c2];exact e))⟩
  rw[jN (by omega),jN (by omega)];have l:0<=t.slot/\t.slot<16:=by have:=CC t.pa;omega
  have y:=b.FM q c2 l (u:=.taken t.pa) (RL j);dsimp only;by_cases e:σ.sl t.page t.slot=.taken t.pa
  .have f:m.get (bB s.p s.c s.m t.page t.slot)=CE t.pa:=y.2 e;rw[jP e,jT f];exact⟨rfl,b.setSlot c2 l (.way t.c) (dI f)⟩
  have f:¬m.get (bB s.p s.c s.m t.page t.slot)=CE t.pa:=λf=>e (y.1 f);rw[jN e,jF f];exact⟨rfl,b.same (jI f)⟩
 rw[jN h1,jN h1];by_cases h2:t.next=2
 .rw[jP h2,jP h2];obtain⟨_,x,B,r,_⟩:=c8 h2;rw[B];have:=yfk b q r;dsimp only;rw[this.1];exact⟨rfl,this.2⟩
 rw[jN h2,jN h2];by_cases h3:t.next=3
 .rw[jP h3,jP h3];rcases c6 (by omega) with⟨k1,j,n,z⟩|⟨k1,j,n⟩
  .have:=c9 h3;omega
  have:=CC t.pa;exact⟨rfl,b.setSlot c2 (by omega) (.opened t.pa) rfl⟩
 rw[jN h3,jN h3];have h4:=o (by omega);rcases c6 (by omega) with⟨k1,j,n,z⟩|⟨k1,j,n⟩
 .by_cases hi:t.i=t.pa-1
  .rw[jP hi,jP hi];exact⟨rfl,b.KE c2 .empty rfl⟩
  rw[jN hi,jN hi];exact⟨rfl,b.KE (by omega) .empty rfl⟩
 omega
theorem VZ{t:Rr}(j:Rep s m σ)(l:GI s σ)(h:rrOk s t):Sim s (LB s t m) (rrA s t σ):=by
 unfold LB rrA;by_cases hd:t.done=true
 .rw[jP hd,jP hd];exact⟨rfl,j⟩
 rw[jN hd,jN hd];obtain⟨r,f,n,o,h1,h2,h3,h4,p,q⟩:=h.cl (by simpa using hd);rw[n,o];dsimp only;by_cases i:r.done=false
 .rw[jP i,jP i];have:=HO j l h1;rw[this.1];exact⟨rfl,this.2⟩
 rw[jN i,jN i];by_cases b:f.done=false
 .rw[jP b,jP b];have:=rU j l h2;rw[this.1];exact⟨rfl,this.2⟩
 rw[jN b,jN b];rcases hu:t.undo with _|u
 .rcases hc:t.com with _|v
  .exact⟨rfl,j⟩
  have:=jU j (h4 v hc);dsimp only;rw[this.1];exact⟨rfl,this.2⟩
 have:=FZ j (h3 u hu);dsimp only;rw[this.1];exact⟨rfl,this.2⟩
theorem Rep.ownB(i:Rep s m σ)(b:GI s σ){p:Int}(f:0<=p/\p<s.p)(t:Ad):t.own s p (m.get (pA s.p s.c s.m p))=true↔σ.pg p=.held t.d:=by
 obtain⟨r1,j,l,n⟩:=i.read b f;unfold Ad.own;rw[r1,j,l];cases σ.pg p<;>simp[PW.kind,PW.pa]
theorem zz9(i:Rep s m σ)(b:GI s σ){p:Int}(f:0<=p/\p<s.p)(t:Ad):t.page s p (m.get (pA s.p s.c s.m p))=t.lF (σ.pg p)/\pgK s p (m.get (pA s.p s.c s.m p))=(σ.pg p).kind:=by
 obtain⟨r1,j,l,n⟩:=i.read b f;unfold Ad.page Ad.lF pgK pgP;rw[r1,j,l,n];exact⟨rfl,rfl⟩
theorem EK{t:Ad}(hd:t.done=false)(e:t.next=0):adA s t σ=(match σ.st t.d with
   |.dead=>{t with was:=(σ.st t.d).enc,next:=2}
   |.owned a=>{t with was:=(σ.st t.d).enc,who:=a,next:=1}
   |_=>({t with was:=(σ.st t.d).enc}:Ad).fin 5,σ):=by unfold adA;rw[jN (by rw[hd];decide)];rw[jP e]
theorem JN{t:Ad}(hd:t.done=false)(e:t.next=1):adA s t σ=(if σ.st t.who=.live then({t with next:=2}:Ad).fin 4 else {t with next:=2},σ):=by unfold adA;rw[jN (by rw[hd];decide)];rw[jN (show ¬t.next=0 by omega)];rw[jP e]
theorem TN{t:Ad}(hd:t.done=false)(e:t.next=2):adA s t σ=(if (σ.st t.d).enc=t.was then({t with next:=3},σ.stat t.d (.owned t.c)) else(({t with next:=3}:Ad).fin 4,σ)):=by unfold adA;rw[jN (by rw[hd];decide)];rw[jN (show ¬t.next=0 by omega)];rw[jN (show ¬t.next=1 by omega)];rw[jP e]
theorem QN{t:Ad}(hd:t.done=false)(e:t.next=3):adA s t σ=(match σ.pg t.at' with|.body h=>{t.lF (.body h) with next:=4}|x=>(t.lF x).turn s 3 6,σ):=by unfold adA;rw[jN (by rw[hd];decide)];rw[jN (show ¬t.next=0 by omega)];rw[jN (show ¬t.next=1 by omega)];rw[jN (show ¬t.next=2 by omega)];rw[jP e]
theorem NN{t:Ad}(hd:t.done=false)(e:t.next=4):adA s t σ=(if σ.pg t.pa=.held t.d then {t with next:=5} else t.turn s 3 6,σ):=by unfold adA;rw[jN (by rw[hd];decide)];rw[jN (show ¬t.next=0 by omega)];rw[jN (show ¬t.next=1 by omega)];rw[jN (show ¬t.next=2 by omega)];rw[jN (show ¬t.next=3 by omega)];rw[jP e]
theorem SN{t:Ad}(hd:t.done=false)(e:t.next=5):adA s t σ=(t.turn s 3 6,σ.page t.at' .empty):=by unfold adA;rw[jN (by rw[hd];decide)];rw[jN (show ¬t.next=0 by omega)];rw[jN (show ¬t.next=1 by omega)];rw[jN (show ¬t.next=2 by omega)];rw[jN (show ¬t.next=3 by omega)];rw[jN (show ¬t.next=4 by omega)];rw[jP e]
theorem RN{t:Ad}(hd:t.done=false)(e:t.next=6):adA s t σ=(if σ.pg t.at'=.held t.d then {t with next:=7,i:=0} else t.turn s 6 9,σ):=by unfold adA;rw[jN (by rw[hd];decide)];rw[jN (show ¬t.next=0 by omega)];rw[jN (show ¬t.next=1 by omega)];rw[jN (show ¬t.next=2 by omega)];rw[jN (show ¬t.next=3 by omega)];rw[jN (show ¬t.next=4 by omega)];rw[jN (show ¬t.next=5 by omega)];rw[jP e]
theorem ON{t:Ad}(hd:t.done=false)(e:t.next=7):adA s t σ=(if t.i+1=16 then {t with i:=t.i+1,next:=8} else {t with i:=t.i+1},σ.slot t.at' t.i .none):=by unfold adA;rw[jN (by rw[hd];decide)];rw[jN (show ¬t.next=0 by omega)];rw[jN (show ¬t.next=1 by omega)];rw[jN (show ¬t.next=2 by omega)];rw[jN (show ¬t.next=3 by omega)];rw[jN (show ¬t.next=4 by omega)];rw[jN (show ¬t.next=5 by omega)];rw[jN (show ¬t.next=6 by omega)];rw[jP e]
theorem VN{t:Ad}(hd:t.done=false)(e:t.next=8):adA s t σ=(t.turn s 6 9,σ.page t.at' .empty):=by unfold adA;rw[jN (by rw[hd];decide)];rw[jN (show ¬t.next=0 by omega)];rw[jN (show ¬t.next=1 by omega)];rw[jN (show ¬t.next=2 by omega)];rw[jN (show ¬t.next=3 by omega)];rw[jN (show ¬t.next=4 by omega)];rw[jN (show ¬t.next=5 by omega)];rw[jN (show ¬t.next=6 by omega)];rw[jN (show ¬t.next=7 by omega)];rw[jP e]
theorem UN{t:Ad}(hd:t.done=false)(e:t.next=9):adA s t σ=(if t.i+1=s.m then {t with i:=0,next:=10} else {t with i:=t.i+1},σ.mag t.d t.i .none):=by unfold adA;rw[jN (by rw[hd];decide)];rw[jN (show ¬t.next=0 by omega)];rw[jN (show ¬t.next=1 by omega)];rw[jN (show ¬t.next=2 by omega)];rw[jN (show ¬t.next=3 by omega)];rw[jN (show ¬t.next=4 by omega)];rw[jN (show ¬t.next=5 by omega)];rw[jN (show ¬t.next=6 by omega)];rw[jN (show ¬t.next=7 by omega)];rw[jN (show ¬t.next=8 by omega)];rw[jP e]
theorem YO{t:Ad}(hd:t.done=false)(e:t.next=10):adA s t σ=(match σ.pg t.at' with|.super k b=>{t.lF (.super k b) with next:=11,i:=0}|x=>(t.lF x).turn s 10 13,σ):=by unfold adA;rw[jN (by rw[hd];decide)];rw[jN (show ¬t.next=0 by omega)];rw[jN (show ¬t.next=1 by omega)];rw[jN (show ¬t.next=2 by omega)];rw[jN (show ¬t.next=3 by omega)];rw[jN (show ¬t.next=4 by omega)];rw[jN (show ¬t.next=5 by omega)];rw[jN (show ¬t.next=6 by omega)];rw[jN (show ¬t.next=7 by omega)];rw[jN (show ¬t.next=8 by omega)];rw[jN (show ¬t.next=9 by omega)];rw[jP e]
theorem VO{t:Ad}(hd:t.done=false)(e:t.next=11):adA s t σ=(if σ.sl t.at' t.i=.way t.d then {t with next:=12} else t.slot s,σ):=by unfold adA;rw[jN (by rw[hd];decide)];rw[jN (show ¬t.next=0 by omega)];rw[jN (show ¬t.next=1 by omega)];rw[jN (show ¬t.next=2 by omega)];rw[jN (show ¬t.next=3 by omega)];rw[jN (show ¬t.next=4 by omega)];rw[jN (show ¬t.next=5 by omega)];rw[jN (show ¬t.next=6 by omega)];rw[jN (show ¬t.next=7 by omega)];rw[jN (show ¬t.next=8 by omega)];rw[jN (show ¬t.next=9 by omega)];rw[jN (show ¬t.next=10 by omega)];rw[jP e]
theorem ZO{t:Ad}(hd:t.done=false)(e:t.next=12):adA s t σ=(t.slot s,σ.slot t.at' t.i (.opened t.pa)):=by unfold adA;rw[jN (by rw[hd];decide)];rw[jN (show ¬t.next=0 by omega)];rw[jN (show ¬t.next=1 by omega)];rw[jN (show ¬t.next=2 by omega)];rw[jN (show ¬t.next=3 by omega)];rw[jN (show ¬t.next=4 by omega)];rw[jN (show ¬t.next=5 by omega)];rw[jN (show ¬t.next=6 by omega)];rw[jN (show ¬t.next=7 by omega)];rw[jN (show ¬t.next=8 by omega)];rw[jN (show ¬t.next=9 by omega)];rw[jN (show ¬t.next=10 by omega)];rw[jN (show ¬t.next=11 by omega)];rw[jP e]
theorem UT{t:Ad}(hd:t.done=false)(e:t.next=13):adA s t σ=(t.fin 0,σ.stat t.d .done):=by unfold adA;rw[jN (by rw[hd];decide)];rw[jN (show ¬t.next=0 by omega)];rw[jN (show ¬t.next=1 by omega)];rw[jN (show ¬t.next=2 by omega)];rw[jN (show ¬t.next=3 by omega)];rw[jN (show ¬t.next=4 by omega)];rw[jN (show ¬t.next=5 by omega)];rw[jN (show ¬t.next=6 by omega)];rw[jN (show ¬t.next=7 by omega)];rw[jN (show ¬t.next=8 by omega)];rw[jN (show ¬t.next=9 by omega)];rw[jN (show ¬t.next=10 by omega)];rw[jN (show ¬t.next=11 by omega)];rw[jN (show ¬t.next=12 by omega)]
theorem ye4{t:Ad}(f:Rep s m σ)(n:GI s σ)(h:adOk s t):Sim s (EA s t m) (adA s t σ):=by
 by_cases hd:t.done=true
 .rw[DP s t m hd];unfold adA;rw[jP hd];exact⟨rfl,f⟩
 have hd':t.done=false:=by simpa using hd
 obtain⟨c1,c2,c3,c4,c5,c6,c7,c8,c9,q⟩:=h.cl hd';obtain⟨y,G,H,I⟩:=f.read n c5;obtain⟨kp1,r⟩:=zz9 f n c5 t;have l:=λc hc=>f.st c hc;have E:t.next=0\/t.next=1\/t.next=2\/t.next=3\/t.next=4\/t.next=5\/t.next=6\/t.next=7\/t.next=8\/t.next=9\/t.next=10\/t.next=11\/t.next=12\/t.next=13:=by omega
 rcases E with e|e|e|e|e|e|e|e|e|e|e|e|e|e
 .rw[vM s t m hd' e,EK hd' e];refine⟨?_,f.same rfl⟩;obtain⟨k1,D⟩:=TW.read c1 (n.tf t.d);unfold Ad.asked;dsimp only;rw[l _ c3,k1,D];have C:=n.tf t.d;cases b:σ.st t.d with
  |owned a=>
   rw[b]at C;have:uA s.p s.c s.m a=a:=by unfold uA;rw[jP ⟨c1,BA.2 (by simp only[TW.fit]at C;omega)⟩]
   simp only[TW.fit]at C;have B:¬a<0:=by omega
   simp[TW.kind,TW.pa,this,B]
  |_=>simp[TW.kind]
 .rw[NM s t m hd' e,JN hd' e];refine⟨?_,f.same rfl⟩;have F:=c6 e;obtain⟨k1,D⟩:=TW.read c1 (n.tf t.who);dsimp only;rw[l _ F,k1];cases σ.st t.who<;>simp[TW.kind]
 .rw[GM s t m hd' e,TN hd' e];by_cases b:(σ.st t.d).enc=t.was
  .have j:m.get (uA s.p s.c s.m t.d)=t.was:=(l _ c3).trans b;rw[jP b,jP j];exact⟨rfl,f.UM c3 (.owned t.c) (dI j)⟩
  have j:¬m.get (uA s.p s.c s.m t.d)=t.was:=λk=>b ((l _ c3).symm.trans k);rw[jN b,jN j];exact⟨rfl,f.same (jI j)⟩
 .rw[CM s t m hd' e,QN hd' e];refine⟨?_,f.same rfl⟩;dsimp only;rw[y,r,kp1];cases b:σ.pg t.at'<;>simp[PW.kind]
 .rw[KM s t m hd' e,NN hd' e];refine⟨?_,f.same rfl⟩;have o:=f.ownB n (c7 e) t;dsimp only;by_cases b:σ.pg t.pa=.held t.d
  .rw[jP (o.2 b),jP b]
  rw[jN (λk=>b (o.1 k)),jN b]
 .rw[AM s t m hd' e,SN hd' e];exact⟨rfl,f.KE c5 .empty rfl⟩
 .rw[OM s t m hd' e,RN hd' e];refine⟨?_,f.same rfl⟩;have o:=f.ownB n c5 t;dsimp only;by_cases b:σ.pg t.at'=.held t.d
  .rw[jP (o.2 b),jP b]
  rw[jN (λk=>b (o.1 k)),jN b]
 .rw[xM s t m hd' e,ON hd' e];exact⟨rfl,f.setSlot c5 (c8 e) .none rfl⟩
 .rw[BM s t m hd' e,VN hd' e];exact⟨rfl,f.KE c5 .empty rfl⟩
 .rw[DM s t m hd' e,UN hd' e];exact⟨rfl,f.JO c3 (c9 e) .none rfl⟩
 .rw[iM s t m hd' e,YO hd' e];refine⟨?_,f.same rfl⟩;dsimp only;rw[y,r,kp1];cases b:σ.pg t.at'<;>simp[PW.kind]
 .rw[mM s t m hd' e,VO hd' e];refine⟨?_,f.same rfl⟩;have z:=q (.inl e);have:=CC t.pa;have o:m.get (bB s.p s.c s.m t.at' t.i)=VA 2 t.d↔σ.sl t.at' t.i=.way t.d:=f.FM n c5 (show 0<=t.i/\t.i<16 by omega) (u:=.way t.d) c3;dsimp only;by_cases b:σ.sl t.at' t.i=.way t.d
  .rw[jP (o.2 b),jP b]
  rw[jN (λk=>b (o.1 k)),jN b]
 .rw[qM s t m hd' e,ZO hd' e];have z:=q (.inr e);have:=CC t.pa;exact⟨rfl,f.setSlot c5 (by omega) (.opened t.pa) rfl⟩
 rw[dM s t m hd' e,UT hd' e];exact⟨rfl,f.UM c3 .done rfl⟩
theorem ye9{cl:Int}{j:Jb}(l:Rep s m σ)(n:GI s σ)(h:jbIs s cl j)(p:0<=cl/\cl<s.c):Sim s (j.step s cl m) (j.EB s cl σ):=by
 cases j with
 |mal r c=>
  unfold Jb.step Jb.EB;dsimp only;by_cases hd:r.done=false
  .have:=HO l n ⟨λx i=>(h.1.sk x i).1.ok,λx i=>(h.1.rn x i).ok⟩;rw[jP hd,jP hd,this.1];exact⟨rfl,this.2⟩
  rw[jN hd,jN hd];have o:∀x,FF s cl r c=some x->cmOk s x:=λx i=>by
   unfold FF at i;rcases c with _|y
   .rcases hg':r.got with _|b
    .rw[hg']at i;cases i
    rw[hg']at i;injection i with i;subst i;exact jQ _ _ _
   have:some y=some x:=i;injection this with this;subst this;intro e;rw[(h.2 y rfl).2.1]at e;cases e
  rcases hm:FF s cl r c with _|x
  .exact⟨rfl,l⟩
  have:=jU l (o x hm);dsimp only;rw[this.1];exact⟨rfl,this.2⟩
 |fre f=>have:=rU l n h.ok;exact⟨congrArg Jb.fre this.1,this.2⟩
 |aga r=>have:=VZ l n h.ok;exact⟨congrArg Jb.aga this.1,this.2⟩
 |hei a=>have:=ye4 l n h.1;exact⟨congrArg Jb.hei this.1,this.2⟩
end

section

variable {s:Sh}{σ σ':Ab}{c d:Int}

def gF (σ:Ab) (d p h:Int):Prop:=σ.pg p=.body h/\σ.pg h=.held d
def eE (σ:Ab) (d p i k:Int):Prop:=(∃b,σ.pg p=.super k b)/\σ.sl p i=.way d
def DC (σ:Ab) (d n:Int):Prop:=∀p h,0<=p->p<n->¬gF σ d p h
def UB (σ:Ab) (d n:Int):Prop:=∀p,0<=p->p<n->σ.pg p≠.held d
def CD (σ:Ab) (d n:Int):Prop:=∀p i k,0<=p->p<n->¬eE σ d p i k
def oD (σ:Ab) (d n:Int):Prop:=∀i,0<=i->i<n->σ.mg d i=.none
def AdD (s:Sh) (σ:Ab) (t:Ad):Prop:=
 if t.next=3 then DC σ t.d t.at'
 else if t.next=4 then DC σ t.d t.at'/\(∀h,gF σ t.d t.at' h->h=t.pa)/\(σ.pg t.pa=.held t.d->σ.pg t.at'=.body t.pa)
 else if t.next=5 then DC σ t.d t.at'/\gF σ t.d t.at' t.pa
 else if t.next=6 then DC σ t.d s.p/\UB σ t.d t.at'
 else if t.next=7 then DC σ t.d s.p/\UB σ t.d t.at'/\σ.pg t.at'=.held t.d/\∀j,0<=j->j<t.i->σ.sl t.at' j=.none
 else if t.next=8 then DC σ t.d s.p/\UB σ t.d t.at'/\σ.pg t.at'=.held t.d/\∀j,σ.sl t.at' j=.none
 else if t.next=9 then UB σ t.d s.p/\oD σ t.d t.i/\t.at'=0
 else if t.next=10 then UB σ t.d s.p/\oD σ t.d s.m/\CD σ t.d t.at'
 else if t.next=11 then UB σ t.d s.p/\oD σ t.d s.m/\CD σ t.d t.at'/\∀j k,eE σ t.d t.at' j k->k=t.pa/\t.i<=j
 else if t.next=12 then UB σ t.d s.p/\oD σ t.d s.m/\CD σ t.d t.at'/\(∀j k,eE σ t.d t.at' j k->k=t.pa/\t.i<=j)/\eE σ t.d t.at' t.i t.pa
 else UB σ t.d s.p/\oD σ t.d s.m/\CD σ t.d s.p
section

variable {t:Ad}

theorem adD3(h:t.next=3):AdD s σ t=DC σ t.d t.at':=by unfold AdD;simp[h]
theorem adD4(h:t.next=4):AdD s σ t=(DC σ t.d t.at'/\(∀h,gF σ t.d t.at' h->h=t.pa)/\(σ.pg t.pa=.held t.d->σ.pg t.at'=.body t.pa)):=by unfold AdD;simp[h]
theorem adD5(h:t.next=5):AdD s σ t=(DC σ t.d t.at'/\gF σ t.d t.at' t.pa):=by unfold AdD;simp[h]
theorem adD6(h:t.next=6):AdD s σ t=(DC σ t.d s.p/\UB σ t.d t.at'):=by unfold AdD;simp[h]
theorem adD7(h:t.next=7):AdD s σ t=(DC σ t.d s.p/\UB σ t.d t.at'/\σ.pg t.at'=.held t.d/\∀j,0<=j->j<t.i->σ.sl t.at' j=.none):=by unfold AdD;simp[h]
theorem adD8(h:t.next=8):AdD s σ t=(DC σ t.d s.p/\UB σ t.d t.at'/\σ.pg t.at'=.held t.d/\∀j,σ.sl t.at' j=.none):=by unfold AdD;simp[h]
theorem adD9(h:t.next=9):AdD s σ t=(UB σ t.d s.p/\oD σ t.d t.i/\t.at'=0):=by unfold AdD;simp[h]
theorem KJ(h:t.next=10):AdD s σ t=(UB σ t.d s.p/\oD σ t.d s.m/\CD σ t.d t.at'):=by unfold AdD;simp[h]
theorem tL(h:t.next=11):AdD s σ t=(UB σ t.d s.p/\oD σ t.d s.m/\CD σ t.d t.at'/\∀j k,eE σ t.d t.at' j k->k=t.pa/\t.i<=j):=by unfold AdD;simp[h]
theorem IN(h:t.next=12):AdD s σ t=(UB σ t.d s.p/\oD σ t.d s.m/\CD σ t.d t.at'/\(∀j k,eE σ t.d t.at' j k->k=t.pa/\t.i<=j)/\eE σ t.d t.at' t.i t.pa):=by unfold AdD;simp[h]
theorem aP(h:t.next=13):AdD s σ t=(UB σ t.d s.p/\oD σ t.d s.m/\CD σ t.d s.p):=by unfold AdD;simp[h]
end

theorem rP(hs:Same d σ σ')(p h:Int):gF σ' d p h↔gF σ d p h:=by
 unfold gF;rw[hs.h h];exact⟨λ⟨a,b⟩=>⟨(hs.b p h b).1 a,b⟩,λ⟨a,b⟩=>⟨(hs.b p h b).2 a,b⟩⟩
theorem aM(hs:Same d σ σ')(p i k:Int):eE σ' d p i k↔eE σ d p i k:=hs.w p i k
theorem DC.same{n:Int}(h:DC σ d n)(hs:Same d σ σ'):DC σ' d n:=λp g h0 b e=>h p g h0 b ((rP hs p g).1 e)
theorem UB.same{n:Int}(h:UB σ d n)(hs:Same d σ σ'):UB σ' d n:=λp h0 b e=>h p h0 b ((hs.h p).1 e)
theorem CD.same{n:Int}(h:CD σ d n)(hs:Same d σ σ'):CD σ' d n:=λp i k h0 b e=>h p i k h0 b ((aM hs p i k).1 e)
theorem oD.same{n:Int}(h:oD σ d n)(hs:Same d σ σ'):oD σ' d n:=λi h0 hi=>(hs.m i).trans (h i h0 hi)
theorem AdD.same{t:Ad}(f:3<=t.next/\t.next<=13)(h:AdD s σ t)(hs:Same t.d σ σ'):AdD s σ' t:=by
 have:t.next=3\/t.next=4\/t.next=5\/t.next=6\/t.next=7\/t.next=8\/t.next=9\/t.next=10\/t.next=11\/t.next=12\/t.next=13:=by omega
 rcases this with e|e|e|e|e|e|e|e|e|e|e
 .rw[adD3 e]at*;exact h.same hs
 .rw[adD4 e]at*;exact⟨h.1.same hs,λg e=>h.2.1 g ((rP hs _ _).1 e),λe=>(hs.b _ _ ((hs.h _).1 e)).2 (h.2.2 ((hs.h _).1 e))⟩
 .rw[adD5 e]at*;exact⟨h.1.same hs,(rP hs _ _).2 h.2⟩
 .rw[adD6 e]at*;exact⟨h.1.same hs,h.2.same hs⟩
 .rw[adD7 e]at*;exact⟨h.1.same hs,h.2.1.same hs,(hs.h _).2 h.2.2.1,λj a b=>(hs.hs _ _ h.2.2.1).trans (h.2.2.2 j a b)⟩
 .rw[adD8 e]at*;exact⟨h.1.same hs,h.2.1.same hs,(hs.h _).2 h.2.2.1,λj=>(hs.hs _ _ h.2.2.1).trans (h.2.2.2 j)⟩
 .rw[adD9 e]at*;exact⟨h.1.same hs,h.2.1.same hs,h.2.2⟩
 .rw[KJ e]at*;exact⟨h.1.same hs,h.2.1.same hs,h.2.2.same hs⟩
 .rw[tL e]at*;exact⟨h.1.same hs,h.2.1.same hs,h.2.2.1.same hs,λj k e=>h.2.2.2 j k ((aM hs _ _ _).1 e)⟩
 .rw[IN e]at*;exact⟨h.1.same hs,h.2.1.same hs,h.2.2.1.same hs,λj k e=>h.2.2.2.1 j k ((aM hs _ _ _).1 e),(aM hs _ _ _).2 h.2.2.2.2⟩
 rw[aP e]at*;exact⟨h.1.same hs,h.2.1.same hs,h.2.2.same hs⟩
theorem DC.succ{n:Int}(h:DC σ d n)(f:∀g,¬gF σ d n g):DC σ d (n+1):=λp g h0 i e=>by
 by_cases b:p=n
 .subst b;exact f g e
 .exact h p g h0 (by omega) e
theorem UB.succ{n:Int}(h:UB σ d n)(f:σ.pg n≠.held d):UB σ d (n+1):=λp h0 i e=>by
 by_cases b:p=n
 .subst b;exact f e
 .exact h p h0 (by omega) e
theorem CD.succ{n:Int}(h:CD σ d n)(f:∀i k,¬eE σ d n i k):CD σ d (n+1):=λp i k h0 j e=>by
 by_cases b:p=n
 .subst b;exact f i k e
 .exact h p i k h0 (by omega) e
structure AdOn (s:Sh) (σ:Ab) (t t':Ad):Prop where
 dd:AdD s σ t'
 d:t'.d=t.d
 c:t'.c=t.c
 dn:t'.done=t.done
 nx:3<=t'.next/\t'.next<=13
theorem IT{t:Ad}(h:DC σ t.d (t.at'+1)):AdOn s σ t (t.turn s 3 6):=by
 unfold Ad.turn;dsimp only;by_cases e:t.at'+1=s.p
 .rw[jP e];dsimp only;rw[jN (by omega)];refine⟨?_,rfl,rfl,rfl,by dsimp only;omega⟩;rw[adD6 rfl];exact⟨e▸h,λp h0 b=>by dsimp only at b;omega⟩
 rw[jN e];dsimp only;rw[jN (by omega)];refine⟨?_,rfl,rfl,rfl,by dsimp only;omega⟩;rw[adD3 rfl];exact h
theorem iY{t:Ad}(hb:DC σ t.d s.p)(h:UB σ t.d (t.at'+1)):AdOn s σ t (t.turn s 6 9):=by
 unfold Ad.turn;dsimp only;by_cases e:t.at'+1=s.p
 .rw[jP e];dsimp only;by_cases b:s.m=0
  .rw[jP ⟨rfl,b⟩];refine⟨?_,rfl,rfl,rfl,by dsimp only;omega⟩;rw[KJ rfl];exact⟨e▸h,λi h0 hi=>by omega,λp i k h0 f=>by dsimp only at f;omega⟩
  rw[jN (λh=>b h.2)];refine⟨?_,rfl,rfl,rfl,by dsimp only;omega⟩;rw[adD9 rfl];exact⟨e▸h,λi h0 hi=>by dsimp only at hi;omega,rfl⟩
 rw[jN e];dsimp only;rw[jN (by omega)];refine⟨?_,rfl,rfl,rfl,by dsimp only;omega⟩;rw[adD6 rfl];exact⟨hb,h⟩
theorem HX{t:Ad}(b:UB σ t.d s.p)(f:oD σ t.d s.m)(h:CD σ t.d (t.at'+1)):AdOn s σ t (t.turn s 10 13):=by
 unfold Ad.turn;dsimp only;by_cases e:t.at'+1=s.p
 .rw[jP e];dsimp only;rw[jN (by omega)];refine⟨?_,rfl,rfl,rfl,by dsimp only;omega⟩;rw[aP rfl];exact⟨b,f,e▸h⟩
 rw[jN e];dsimp only;rw[jN (by omega)];refine⟨?_,rfl,rfl,rfl,by dsimp only;omega⟩;rw[KJ rfl];exact⟨b,f,h⟩
theorem bU{t:Ad}(r:GI s σ)(l:UB σ t.d s.p)(o:oD σ t.d s.m)(q:CD σ t.d t.at')(h:∀j k,eE σ t.d t.at' j k->k=t.pa/\t.i+1<=j):AdOn s σ t (t.slot s):=by
 unfold Ad.slot;split
 .rename_i e
  have:=HX (s:=s) (t:={t with i:=0,next:=11}) l o (q.succ λi k n=>by
   have h1:=h i k n
   obtain⟨⟨b,y⟩,f⟩:=n
   have:=oM r y f
   rw[h1.1]at this
   omega)
  exact⟨this.dd,this.d,this.c,this.dn,this.nx⟩
 refine⟨?_,rfl,rfl,rfl,by dsimp only;omega⟩;rw[tL rfl];exact⟨l,o,q,h⟩
theorem QV(b:GI s σ)(h:UB σ d s.p)(p:Int):σ.pg p≠.held d:=λe=>by
 have:=TI b e
 exact h p this.1.1 this.1.2 e
theorem KW(b:GI s σ)(h:oD σ d s.m)(i:Int):σ.mg d i=.none:=by
 by_cases e:σ.mg d i=.none
 .exact e
 have:=b.mr d i e;exact h i this.2.1 this.2.2
theorem zzv(b:GI s σ)(h:DC σ d s.p)(p g:Int):¬gF σ d p g:=λe=>by
 have:=EQ b e.1
 exact h p g this.2.2.2.1 this.2.2.2.2 e
structure xN (s:Sh) (σ:Ab) (t:Ad) (r:Ad×Ab):Prop where
 kept:Kept s t.d σ r.2
 on:AdOn s r.2 t r.1
 calm:Calm σ r.2
theorem OY{t:Ad}(D:GI s σ)(hk:adOk s t)(hd:t.done=false)(hn:3<=t.next/\t.next<=12)(h:AdD s σ t):xN s σ t (adA s t σ):=by
 obtain⟨c1,c2,c3,c4,c5,c6,c7,c8,c9,b1⟩:=hk.cl hd;unfold adA;rw[jN (by rw[hd];decide),jN (by omega),jN (by omega),jN (by omega)];have quiet:∀t',AdOn s σ t t'->xN s σ t (t',σ):=λt' h=>⟨Kept.refl D,h,Calm.refl _⟩;have X:∀t':Ad,t'.d=t.d->t'.c=t.c->t'.done=t.done->t'.at'=t.at'->(∀g,¬gF σ t.d t.at' g)->DC σ t.d t.at'->AdOn s σ t (t'.turn s 3 6):=λt' l r E H I J=>by have:=IT (s:=s) (σ:=σ) (t:=t') (by rw[l,H];exact J.succ I);exact⟨this.dd,this.d.trans l,this.c.trans r,this.dn.trans E,this.nx⟩
 have V:∀t':Ad,t'.d=t.d->t'.c=t.c->t'.done=t.done->t'.at'=t.at'->UB σ t.d s.p->oD σ t.d s.m->(∀i k,¬eE σ t.d t.at' i k)->CD σ t.d t.at'->AdOn s σ t (t'.turn s 10 13):=λt' l r E H I J L N=>by have:=HX (s:=s) (σ:=σ) (t:=t') (by rw[l];exact I) (by rw[l];exact J) (by rw[l,H];exact N.succ L);exact⟨this.dd,this.d.trans l,this.c.trans r,this.dn.trans E,this.nx⟩
 by_cases E:t.next=3
 .rw[jP E];rw[adD3 E]at h;have other:(∀g,σ.pg t.at'≠.body g)->xN s σ t ((t.lF (σ.pg t.at')).turn s 3 6,σ):=λf=>quiet _ (X _ rfl rfl rfl rfl (λg e=>f g e.1) h);cases f:σ.pg t.at' with
  |body g=>refine quiet _ ⟨?_,rfl,rfl,rfl,by dsimp only;omega⟩;rw[adD4 rfl];exact⟨h,λg' e=>by have:=e.1;dsimp only[Ad.lF]at this;rw[f]at this;injection this with this;exact this.symm,λ_=>f⟩
  |_=>have:=other (λg e=>by rw[f]at e;cases e);rw[f]at this;exact this
 rw[jN E];by_cases H:t.next=4
 .rw[jP H];rw[adD4 H]at h;by_cases f:σ.pg t.pa=.held t.d
  .rw[jP f];refine quiet _ ⟨?_,rfl,rfl,rfl,by dsimp only;omega⟩;rw[adD5 rfl];exact⟨h.1,h.2.2 f,f⟩
  rw[jN f];exact quiet _ (X _ rfl rfl rfl rfl (λg e=>f (by rw[<-h.2.1 g e];exact e.2)) h.1)
 rw[jN H];by_cases I:t.next=5
 .rw[jP I];rw[adD5 I]at h;obtain⟨h1,h2⟩:=h;have C:=EU D h2.1 h2.2;have hb:∀p g,gF (σ.page t.at' .empty) t.d p g->gF σ t.d p g:=λp g e=>by
   have y:(σ.page t.at' .empty).pg g=.held t.d:=e.2;by_cases ep:p=t.at'
   .subst ep;have:=e.1;rw[HC]at this;cases this
   have l:=e.1;rw[PC _ _ ep]at l;refine⟨l,?_⟩;by_cases O:g=t.at'
   .subst O;rw[HC]at y;cases y
   rw[PC _ _ O]at y;exact y
  refine⟨C,IT (DC.succ (λp g h0 B e=>h1 p g h0 B (hb p g e)) (λg e=>by have:=e.1;rw[HC]at this;cases this)),xG (λn e=>by cases e) (λn e=>by rw[h2.1]at e;cases e)⟩
 rw[jN I];by_cases J:t.next=6
 .rw[jP J];rw[adD6 J]at h;by_cases f:σ.pg t.at'=.held t.d
  .rw[jP f];refine quiet _ ⟨?_,rfl,rfl,rfl,by dsimp only;omega⟩;rw[adD7 rfl];exact⟨h.1,h.2,f,λj a b=>by dsimp only at b;omega⟩
  rw[jN f];exact quiet _ (iY h.1 (h.2.succ f))
 rw[jN J];by_cases L:t.next=7
 .rw[jP L];rw[adD7 L]at h;obtain⟨h1,h2,h3,h4⟩:=h;have C:=mP D h3 (i:=t.i) (u:=.none) (.inl rfl);have hj:∀j,0<=j->j<t.i+1->(σ.slot t.at' t.i .none).sl t.at' j=.none:=λj a b=>by
   by_cases e:j=t.i
   .subst e;exact pF _ _ _ _
   rw[WD _ _ (λr=>e r.2)];exact h4 j a (by omega)
  refine⟨C,?_,uG (λn e=>by cases e) (λn e=>by rcases NI D h3 t.i with r|r;(rw[r]at e;cases e);(rw[r.1]at e;cases e))⟩;by_cases e:t.i+1=16
  .rw[jP e];refine⟨?_,rfl,rfl,rfl,by dsimp only;omega⟩;rw[adD8 rfl];refine⟨h1,h2,h3,λj=>?_⟩;by_cases R:0<=j/\j<16
   .exact hj j R.1 (by omega)
   rcases NI C.1 (p:=t.at') (c:=t.d) h3 j with E|E
   .exact E
   exact absurd E.2 R
  rw[jN e];refine⟨?_,rfl,rfl,rfl,by dsimp only;omega⟩;rw[adD7 (by exact L)];exact⟨h1,h2,h3,hj⟩
 rw[jN L];by_cases N:t.next=8
 .rw[jP N];rw[adD8 N]at h;obtain⟨h1,h2,h3,h4⟩:=h;have b0:∀q,σ.pg q≠.body t.at':=λq e=>zzv D h1 q _ ⟨e,h3⟩;refine⟨iP D h3 h4 b0,iY (λp g h0 B e=>?_) (UB.succ (λp h0 B e=>h2 p h0 B ?_) (λe=>by rw[HC]at e;cases e)),xG (λn e=>by cases e) (λn e=>by rw[h3]at e;cases e)⟩
  .have y:(σ.page t.at' .empty).pg g=.held t.d:=e.2;have l:=e.1;by_cases ep:p=t.at'
   .subst ep;rw[HC]at l;cases l
   rw[PC _ _ ep]at l;by_cases O:g=t.at'
   .subst O;rw[HC]at y;cases y
   rw[PC _ _ O]at y;exact h1 p g h0 B ⟨l,y⟩
  rw[PC _ _ (by omega)]at e;exact e
 rw[jN N];by_cases Y:t.next=9
 .rw[jP Y];rw[adD9 Y]at h;have hm:oD (σ.mag t.d t.i .none) t.d (t.i+1):=λj h0 hj=>by
   by_cases e:j=t.i
   .subst e;exact VF _ _ _ _
   rw[JE _ _ (λr=>e r.2)];exact h.2.1 j h0 (by omega)
  refine⟨xU D,?_,mQ⟩;by_cases e:t.i+1=s.m
  .rw[jP e];refine⟨?_,rfl,rfl,rfl,by dsimp only;omega⟩;rw[KJ rfl];exact⟨h.1,by rw[<-e];exact hm,λp i k h0 B=>by dsimp only at B;omega⟩
  rw[jN e];refine⟨?_,rfl,rfl,rfl,by dsimp only;omega⟩;rw[adD9 (by exact Y)];exact⟨h.1,hm,h.2.2⟩
 rw[jN Y];by_cases F:t.next=10
 .rw[jP F];rw[KJ F]at h;obtain⟨h1,h2,h3⟩:=h;have other:(∀k b,σ.pg t.at'≠.super k b)->xN s σ t ((t.lF (σ.pg t.at')).turn s 10 13,σ):=λf=>quiet _ (V _ rfl rfl rfl rfl h1 h2 (λi k e=>by obtain⟨⟨b,e⟩,_⟩:=e;exact f k b e) h3);cases f:σ.pg t.at' with
  |super k b=>refine quiet _ ⟨?_,rfl,rfl,rfl,by dsimp only;omega⟩;rw[tL rfl];refine⟨h1,h2,h3,λj k' e=>?_⟩;obtain⟨⟨b',l⟩,r⟩:=e;have l:σ.pg t.at'=.super k' b':=l;have hr:=oM D l r;rw[f]at l;injection l with l _;exact⟨l.symm,hr.1⟩
  |_=>have:=other (λk b e=>by rw[f]at e;cases e);rw[f]at this;exact this
 rw[jN F];by_cases G:t.next=11
 .rw[jP G];rw[tL G]at h;obtain⟨h1,h2,h3,h4⟩:=h;by_cases f:σ.sl t.at' t.i=.way t.d
  .rw[jP f];refine quiet _ ⟨?_,rfl,rfl,rfl,by dsimp only;omega⟩;rw[IN rfl];refine⟨h1,h2,h3,h4,?_⟩;have z:=D.sk t.at' t.i;rw[f]at z;have T:∀k b,σ.pg t.at'=.super k b->eE σ t.d t.at' t.i t.pa:=λk b e=>by have U:eE σ t.d t.at' t.i k:=⟨⟨b,e⟩,f⟩;rw[<-(h4 _ _ U).1];exact U
   cases B:σ.pg t.at' with
   |super k b=>exact T k b B;|held o=>
    exfalso;rw[B]at z;rcases z with e|e
    .cases e
    injection e.1 with e;subst e;exact QV D h1 _ B
   |empty=>rw[B]at z;cases z
   |large n=>rw[B]at z;cases z
   |body g=>rw[B]at z;cases z
  rw[jN f];refine quiet _ (bU D h1 h2 h3 λj k e=>⟨(h4 j k e).1,?_⟩);have:=(h4 j k e).2;have:j≠t.i:=λZ=>f (by rw[<-Z];exact e.2);omega
 rw[jN G];have M:t.next=12:=by omega
 rw[jP M];rw[IN M]at h;obtain⟨h1,h2,h3,h4,⟨b,B⟩,S⟩:=h;have C:=II D B S (u:=.opened t.pa) (.inl rfl) (λj k' e=>by rw[KW D h2]at e;cases e);have U:∀p i k,eE (σ.slot t.at' t.i (.opened t.pa)) t.d p i k->eE σ t.d p i k/\¬(p=t.at'/\i=t.i):=λp i k e=>by
  obtain⟨l,r⟩:=e;by_cases ep:p=t.at'/\i=t.i
  .obtain⟨rfl,rfl⟩:=ep;rw[pF]at r;cases r
  rw[WD _ _ ep]at r;exact⟨⟨l,r⟩,ep⟩
 refine⟨C,bU C.1 h1 h2 (λp i k h0 B e=>h3 p i k h0 B (U p i k e).1) (λj k e=>?_),uG (λn e=>by cases e) (λn e=>by rw[S]at e;cases e)⟩;obtain⟨l,r⟩:=U _ _ _ e;have:=h4 j k l;refine⟨this.1,?_⟩;have:j≠t.i:=λZ=>r ⟨rfl,Z⟩;omega
end

end Go.Proofs.YtkilokkopbajkaaGreat
