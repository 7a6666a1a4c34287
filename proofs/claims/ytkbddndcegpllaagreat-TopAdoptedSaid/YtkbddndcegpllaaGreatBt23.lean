/- Texts bound together: InvN InvH InvI. -/
import Derived.Test.YtkbddndcegpllaaGreatBt22

set_option linter.all false
namespace Go.Proofs.YtkbddndcegpllaaGreat

section

def rsA (s:Sh) (t:Rs) (σ:Ab):Rs × Ab:=match t.seeker,t.runner with
 | some x,_=> ({ t with seeker:=some (skA s x σ).1 },(skA s x σ).2)
 | none,some x=> ({ t with runner:=some (rnA s x σ).1 },(rnA s x σ).2)
 | none,none=> (t,σ)
def cmA (t:Cm) (σ:Ab):Cm × Ab:=
 if t.done=true then (t,σ)
 else ({ t with done:=true },if t.b.large=true then σ.page t.b.page (.large t.b.pages) else σ.slot t.b.page t.b.slot (.taken t.b.k))
def unA (t:Un) (σ:Ab):Un × Ab:=
 if t.done=true then (t,σ)
 else if t.b.large=false then ({ t with done:=true },σ.slot t.b.page t.b.slot (.opened t.b.k))
 else if t.i=t.b.pages - 1 then ({ t with done:=true },σ.page t.b.page .empty)
 else ({ t with i:=t.i + 1 },σ.page (t.b.page + t.i + 1) .empty)
def Fe.zeg (t:Fe) (x:PW):Fe:=
 let t':Fe:= { t with word:=x.enc,pk:=x.kind,pa:=x.pa,pb:=x.pb,next:=1 }
 if x.kind=3/\t.a % 64=0 then t' else if x.kind=2/\t.a % 64 % zbj x.pa=0 then { t' with slot:=t.a % 64 / zbj x.pa } else { t' with done:=true }
def Fe.gotA (s:Sh) (t:Fe) (g:Bool):Fe:=
 let t':Fe:= { t with gave:=g,next:=3 }
 let t'':Fe:=if t.pb=t.c then ({ t' with put:=some (zg5 s t.c t.page t.slot t.pa),next:=2 }:Fe).kept else t'
 { t'' with done:= !g }
def feA (s:Sh) (t:Fe) (σ:Ab):Fe × Ab:=
 if t.done=true then (t,σ)
 else if t.next=0 then (t.zeg (σ.pg t.page),σ)
 else if t.next=1 then
  if t.pk=3 then (if (σ.pg t.page).enc=t.word then ({ t with gave:=true,next:=4,done:=false },σ.page t.page (.held t.c)) else ({ t with gave:=false,next:=4,done:=true },σ))
  else if σ.sl t.page t.slot= .taken t.pa then (t.gotA s true,σ.slot t.page t.slot (.way t.c)) else (t.gotA s false,σ)
 else if t.next=2 then match t.put with
  | some x=> (({ t with put:=some (puA s x σ).1 }:Fe).kept,(puA s x σ).2)
  | none=> (t,σ)
 else if t.next=3 then ({ t with done:=true },σ.slot t.page t.slot (.opened t.pa))
 else if t.i=t.pa - 1 then ({ t with done:=true },σ.page t.page .empty)
 else ({ t with i:=t.i + 1 },σ.page (t.page + t.i + 1) .empty)
def rrA (s:Sh) (t:Rr) (σ:Ab):Rr × Ab:=
 if t.done=true then (t,σ)
 else match t.res,t.free with
  | some r,some f=>
   if r.done=false then (Rr.settle s { t with res:=some (rsA s r σ).1 },(rsA s r σ).2)
   else if f.done=false then (Rr.settle s { t with free:=some (feA s f σ).1 },(feA s f σ).2)
   else match t.undo,t.com with
    | some u,_=> (Rr.settle s { t with undo:=some (unA u σ).1 },(unA u σ).2)
    | none,some u=> (Rr.settle s { t with com:=some (cmA u σ).1 },(cmA u σ).2)
    | none,none=> (t,σ)
  | _,_=> (t,σ)
def Ad.zkp (t:Ad) (x:PW):Ad:= { t with pk:=x.kind,pa:=x.pa,pb:=x.pb }
def adA (s:Sh) (t:Ad) (σ:Ab):Ad × Ab:=
 if t.done=true then (t,σ)
 else if t.next=0 then
  (match σ.st t.d with
   | .dead=> { t with was:=(σ.st t.d).enc,next:=2 }
   | .owned a=> { t with was:=(σ.st t.d).enc,who:=a,next:=1 }
   | _=> ({ t with was:=(σ.st t.d).enc }:Ad).fin 5,σ)
 else if t.next=1 then (if σ.st t.who= .live then ({ t with next:=2 }:Ad).fin 4 else { t with next:=2 },σ)
 else if t.next=2 then (if (σ.st t.d).enc=t.was then ({ t with next:=3 },σ.stat t.d (.owned t.c)) else (({ t with next:=3 }:Ad).fin 4,σ))
 else if t.next=3 then (match σ.pg t.at' with | .body h=> { t.zkp (.body h) with next:=4 } | x=> (t.zkp x).turn s 3 6,σ)
 else if t.next=4 then (if σ.pg t.pa= .held t.d then { t with next:=5 } else t.turn s 3 6,σ)
 else if t.next=5 then (t.turn s 3 6,σ.page t.at' .empty)
 else if t.next=6 then (if σ.pg t.at'= .held t.d then { t with next:=7,i:=0 } else t.turn s 6 9,σ)
 else if t.next=7 then (if t.i + 1=16 then { t with i:=t.i + 1,next:=8 } else { t with i:=t.i + 1 },σ.slot t.at' t.i .none)
 else if t.next=8 then (t.turn s 6 9,σ.page t.at' .empty)
 else if t.next=9 then (if t.i + 1=s.m then { t with i:=0,next:=10 } else { t with i:=t.i + 1 },σ.mag t.d t.i .none)
 else if t.next=10 then (match σ.pg t.at' with | .super k b=> { t.zkp (.super k b) with next:=11,i:=0 } | x=> (t.zkp x).turn s 10 13,σ)
 else if t.next=11 then (if σ.sl t.at' t.i= .way t.d then { t with next:=12 } else t.slot s,σ)
 else if t.next=12 then (t.slot s,σ.slot t.at' t.i (.opened t.pa))
 else (t.fin 0,σ.stat t.d .done)
def Jb.zhf (s:Sh) (cl:Int) (σ:Ab):Jb->Jb × Ab
 | .mal r c=> if r.done=false then (.mal (rsA s r σ).1 c,(rsA s r σ).2) else match zhp s cl r c with
  | some x=> (.mal r (some (cmA x σ).1),(cmA x σ).2)
  | none=> (.mal r none,σ)
 | .fre f=> (.fre (feA s f σ).1,(feA s f σ).2)
 | .aga r=> (.aga (rrA s r σ).1,(rrA s r σ).2)
 | .hei a=> (.hei (adA s a σ).1,(adA s a σ).2)
variable {s:Sh} {m:Mem} {σ:Ab}

theorem z0x{t:Rs}(b:Rep s m σ)(f:GI s σ)(h:(∀ x,t.seeker=some x->skOk s x)/\(∀ x,t.runner=some x->rnOk s x)):Sim s (zb0 s t m) (rsA s t σ):=by
 obtain⟨k,pg,sk,rn⟩:=t;unfold zb0 rsA;rcases sk with _|x
 ·rcases rn with _|y
  ·exact⟨rfl,b⟩
  have:=yc2 b f (h.2 y rfl);dsimp only;rw[this.1];exact⟨rfl,this.2⟩
 have:=yda b f (h.1 x rfl);dsimp only;rw[this.1];exact⟨rfl,this.2⟩
theorem z9g{t:Cm}(i:Rep s m σ)(h:cmOk s t):Sim s (zb3 s t m) (cmA t σ):=by
 unfold zb3 cmA;by_cases hd:t.done=true
 ·rw[if_pos hd,if_pos hd];exact⟨rfl,i⟩
 rw[if_neg hd,if_neg hd];obtain⟨_,_,j,n,l⟩:=zdi.1 (h (by simpa using hd));by_cases f:t.b.large=true
 ·rw[if_pos f,if_pos f];exact⟨rfl,i.zd7 j (.large t.b.pages) rfl⟩
 rw[if_neg f,if_neg f];have o:=l (by simpa using f);have:=zcy t.b.k;exact⟨rfl,i.setSlot j (by omega) (.taken t.b.k) rfl⟩
theorem yd1{t:Un}(l:Rep s m σ)(h:unOk s t):Sim s (zcf s t m) (unA t σ):=by
 unfold zcf unA;by_cases hd:t.done=true
 ·rw[if_pos hd,if_pos hd];exact⟨rfl,l⟩
 rw[if_neg hd,if_neg hd];obtain⟨o,p⟩:=h.cl (by simpa using hd);obtain⟨_,_,n,q,r⟩:=zdi.1 o;by_cases f:t.b.large=false
 ·rw[if_pos f,if_pos f];have y:=r f;have:=zcy t.b.k;exact⟨rfl,l.setSlot n (by omega) (.opened t.b.k) rfl⟩
 rw[if_neg f,if_neg f];have j:t.b.large=true:=by simpa using f
 have y:=q j;have z:=p j;by_cases hi:t.i=t.b.pages-1
 ·rw[if_pos hi,if_pos hi];exact⟨rfl,l.zd7 n .empty rfl⟩
 rw[if_neg hi,if_neg hi];exact⟨rfl,l.zd7 (by omega) .empty rfl⟩
theorem z9o{t:Fe}(b:Rep s m σ)(C:GI s σ)(h:feOk s t):Sim s (zca s t m) (feA s t σ):=by
 unfold zca feA;by_cases hd:t.done=true
 ·rw[if_pos hd,if_pos hd];exact⟨rfl,b⟩
 rw[if_neg hd,if_neg hd];obtain⟨c1,c2,c3,N,O,B,S,G,H,z⟩:=h.cl (by simpa using hd);by_cases r:t.next=0
 ·rw[if_pos r,if_pos r];refine⟨?_,b.same rfl⟩;obtain⟨r1,J,L,M⟩:=b.read C c2;unfold Fe.look Fe.zeg;dsimp only;rw[r1,J,L,M,b.pg _ c2];simp only[if_true,true_and]
 rw[if_neg r,if_neg r];by_cases y:t.next=1
 ·rw[if_pos y,if_pos y];unfold Fe.claim;rcases B (by omega) with⟨k1,j,q,F⟩|⟨k1,j,q⟩
  ·rw[if_pos k1,if_pos k1];dsimp only;rw[b.pg _ c2];by_cases e:(σ.pg t.page).enc=t.word
   ·rw[if_pos e,decide_eq_true e];exact⟨rfl,b.zd7 c2 (.held t.c) (zgz (by rw[b.pg _ c2];exact e))⟩
   rw[if_neg e,decide_eq_false e];exact⟨rfl,b.same (zjl (by rw[b.pg _ c2];exact e))⟩
  rw[if_neg (by omega),if_neg (by omega)];have o:0<=t.slot/\t.slot<16:=by have:=zcy t.pa;omega
  have E:=b.zlw C c2 o (u:= .taken t.pa) (zgr j);dsimp only;by_cases e:σ.sl t.page t.slot= .taken t.pa
  ·have f:m.get (zbk s.p s.c s.m t.page t.slot)=zfl t.pa:=E.2 e;rw[if_pos e,decide_eq_true f];exact⟨rfl,b.setSlot c2 o (.way t.c) (zgz f)⟩
  have f:¬ m.get (zbk s.p s.c s.m t.page t.slot)=zfl t.pa:=fun f=>e (E.1 f);rw[if_neg e,decide_eq_false f];exact⟨rfl,b.same (zjl f)⟩
 rw[if_neg y,if_neg y];by_cases l:t.next=2
 ·rw[if_pos l,if_pos l];obtain⟨_,x,I,D,_⟩:=G l;rw[I];have:=yfk b C D;dsimp only;rw[this.1];exact⟨rfl,this.2⟩
 rw[if_neg l,if_neg l];by_cases n:t.next=3
 ·rw[if_pos n,if_pos n];rcases B (by omega) with⟨k1,j,q,F⟩|⟨k1,j,q⟩
  ·have:=H n;omega
  have:=zcy t.pa;exact⟨rfl,b.setSlot c2 (by omega) (.opened t.pa) rfl⟩
 rw[if_neg n,if_neg n];have T:=z (by omega);rcases B (by omega) with⟨k1,j,q,F⟩|⟨k1,j,q⟩
 ·by_cases hi:t.i=t.pa-1
  ·rw[if_pos hi,if_pos hi];exact⟨rfl,b.zd7 c2 .empty rfl⟩
  rw[if_neg hi,if_neg hi];exact⟨rfl,b.zd7 (by omega) .empty rfl⟩
 omega
theorem ydv{t:Rr}(j:Rep s m σ)(l:GI s σ)(h:rrOk s t):Sim s (zb9 s t m) (rrA s t σ):=by
 unfold zb9 rrA;by_cases hd:t.done=true
 ·rw[if_pos hd,if_pos hd];exact⟨rfl,j⟩
 rw[if_neg hd,if_neg hd];obtain⟨r,f,n,o,p,q,y,z,B,C⟩:=h.cl (by simpa using hd);rw[n,o];dsimp only;by_cases i:r.done=false
 ·rw[if_pos i,if_pos i];have:=z0x j l p;rw[this.1];exact⟨rfl,this.2⟩
 rw[if_neg i,if_neg i];by_cases b:f.done=false
 ·rw[if_pos b,if_pos b];have:=z9o j l q;rw[this.1];exact⟨rfl,this.2⟩
 rw[if_neg b,if_neg b];rcases hu:t.undo with _|u
 ·rcases hc:t.com with _|v
  ·exact⟨rfl,j⟩
  have:=z9g j (z v hc);dsimp only;rw[this.1];exact⟨rfl,this.2⟩
 have:=yd1 j (y u hu);dsimp only;rw[this.1];exact⟨rfl,this.2⟩
theorem Rep.ownB(i:Rep s m σ)(b:GI s σ){p:Int}(f:0<=p/\p<s.p)(t:Ad):t.own s p (m.get (zak s.p s.c s.m p))=true↔σ.pg p= .held t.d:=by
 obtain⟨r1,j,l,n⟩:=i.read b f;unfold Ad.own;rw[r1,j,l];cases σ.pg p<;>simp[PW.kind,PW.pa]
theorem zz9(i:Rep s m σ)(b:GI s σ){p:Int}(f:0<=p/\p<s.p)(t:Ad):t.page s p (m.get (zak s.p s.c s.m p))=t.zkp (σ.pg p)/\pgK s p (m.get (zak s.p s.c s.m p))=(σ.pg p).kind:=by
 obtain⟨r1,j,l,n⟩:=i.read b f;unfold Ad.page Ad.zkp pgK pgP;rw[r1,j,l,n];exact⟨rfl,rfl⟩
theorem ya2{t:Ad}(hd:t.done=false)(e:t.next=0):adA s t σ=(match σ.st t.d with
   | .dead=>{t with was:=(σ.st t.d).enc,next:=2}
   | .owned a=>{t with was:=(σ.st t.d).enc,who:=a,next:=1}
   |_=>({t with was:=(σ.st t.d).enc}:Ad).fin 5,σ):=by unfold adA;rw[if_neg (by rw[hd];decide)];rw[if_pos e]
theorem yc1{t:Ad}(hd:t.done=false)(e:t.next=1):adA s t σ=(if σ.st t.who= .live then({t with next:=2}:Ad).fin 4 else {t with next:=2},σ):=by unfold adA;rw[if_neg (by rw[hd];decide)];rw[if_neg (show ¬ t.next=0 by omega)];rw[if_pos e]
theorem yee{t:Ad}(hd:t.done=false)(e:t.next=2):adA s t σ=(if (σ.st t.d).enc=t.was then({t with next:=3},σ.stat t.d (.owned t.c)) else(({t with next:=3}:Ad).fin 4,σ)):=by unfold adA;rw[if_neg (by rw[hd];decide)];rw[if_neg (show ¬ t.next=0 by omega)];rw[if_neg (show ¬ t.next=1 by omega)];rw[if_pos e]
theorem ydj{t:Ad}(hd:t.done=false)(e:t.next=3):adA s t σ=(match σ.pg t.at' with | .body h=>{ t.zkp (.body h) with next:=4}|x=>(t.zkp x).turn s 3 6,σ):=by unfold adA;rw[if_neg (by rw[hd];decide)];rw[if_neg (show ¬ t.next=0 by omega)];rw[if_neg (show ¬ t.next=1 by omega)];rw[if_neg (show ¬ t.next=2 by omega)];rw[if_pos e]
theorem yd0{t:Ad}(hd:t.done=false)(e:t.next=4):adA s t σ=(if σ.pg t.pa= .held t.d then {t with next:=5} else t.turn s 3 6,σ):=by unfold adA;rw[if_neg (by rw[hd];decide)];rw[if_neg (show ¬ t.next=0 by omega)];rw[if_neg (show ¬ t.next=1 by omega)];rw[if_neg (show ¬ t.next=2 by omega)];rw[if_neg (show ¬ t.next=3 by omega)];rw[if_pos e]
theorem ydy{t:Ad}(hd:t.done=false)(e:t.next=5):adA s t σ=(t.turn s 3 6,σ.page t.at' .empty):=by unfold adA;rw[if_neg (by rw[hd];decide)];rw[if_neg (show ¬ t.next=0 by omega)];rw[if_neg (show ¬ t.next=1 by omega)];rw[if_neg (show ¬ t.next=2 by omega)];rw[if_neg (show ¬ t.next=3 by omega)];rw[if_neg (show ¬ t.next=4 by omega)];rw[if_pos e]
theorem ydn{t:Ad}(hd:t.done=false)(e:t.next=6):adA s t σ=(if σ.pg t.at'= .held t.d then {t with next:=7,i:=0} else t.turn s 6 9,σ):=by unfold adA;rw[if_neg (by rw[hd];decide)];rw[if_neg (show ¬ t.next=0 by omega)];rw[if_neg (show ¬ t.next=1 by omega)];rw[if_neg (show ¬ t.next=2 by omega)];rw[if_neg (show ¬ t.next=3 by omega)];rw[if_neg (show ¬ t.next=4 by omega)];rw[if_neg (show ¬ t.next=5 by omega)];rw[if_pos e]
theorem yd2{t:Ad}(hd:t.done=false)(e:t.next=7):adA s t σ=(if t.i+1=16 then {t with i:=t.i+1,next:=8} else {t with i:=t.i+1},σ.slot t.at' t.i .none):=by unfold adA;rw[if_neg (by rw[hd];decide)];rw[if_neg (show ¬ t.next=0 by omega)];rw[if_neg (show ¬ t.next=1 by omega)];rw[if_neg (show ¬ t.next=2 by omega)];rw[if_neg (show ¬ t.next=3 by omega)];rw[if_neg (show ¬ t.next=4 by omega)];rw[if_neg (show ¬ t.next=5 by omega)];rw[if_neg (show ¬ t.next=6 by omega)];rw[if_pos e]
theorem yei{t:Ad}(hd:t.done=false)(e:t.next=8):adA s t σ=(t.turn s 6 9,σ.page t.at' .empty):=by unfold adA;rw[if_neg (by rw[hd];decide)];rw[if_neg (show ¬ t.next=0 by omega)];rw[if_neg (show ¬ t.next=1 by omega)];rw[if_neg (show ¬ t.next=2 by omega)];rw[if_neg (show ¬ t.next=3 by omega)];rw[if_neg (show ¬ t.next=4 by omega)];rw[if_neg (show ¬ t.next=5 by omega)];rw[if_neg (show ¬ t.next=6 by omega)];rw[if_neg (show ¬ t.next=7 by omega)];rw[if_pos e]
theorem yeh{t:Ad}(hd:t.done=false)(e:t.next=9):adA s t σ=(if t.i+1=s.m then {t with i:=0,next:=10} else {t with i:=t.i+1},σ.mag t.d t.i .none):=by unfold adA;rw[if_neg (by rw[hd];decide)];rw[if_neg (show ¬ t.next=0 by omega)];rw[if_neg (show ¬ t.next=1 by omega)];rw[if_neg (show ¬ t.next=2 by omega)];rw[if_neg (show ¬ t.next=3 by omega)];rw[if_neg (show ¬ t.next=4 by omega)];rw[if_neg (show ¬ t.next=5 by omega)];rw[if_neg (show ¬ t.next=6 by omega)];rw[if_neg (show ¬ t.next=7 by omega)];rw[if_neg (show ¬ t.next=8 by omega)];rw[if_pos e]
theorem z9b{t:Ad}(hd:t.done=false)(e:t.next=10):adA s t σ=(match σ.pg t.at' with | .super k b=>{ t.zkp (.super k b) with next:=11,i:=0}|x=>(t.zkp x).turn s 10 13,σ):=by unfold adA;rw[if_neg (by rw[hd];decide)];rw[if_neg (show ¬ t.next=0 by omega)];rw[if_neg (show ¬ t.next=1 by omega)];rw[if_neg (show ¬ t.next=2 by omega)];rw[if_neg (show ¬ t.next=3 by omega)];rw[if_neg (show ¬ t.next=4 by omega)];rw[if_neg (show ¬ t.next=5 by omega)];rw[if_neg (show ¬ t.next=6 by omega)];rw[if_neg (show ¬ t.next=7 by omega)];rw[if_neg (show ¬ t.next=8 by omega)];rw[if_neg (show ¬ t.next=9 by omega)];rw[if_pos e]
theorem z8z{t:Ad}(hd:t.done=false)(e:t.next=11):adA s t σ=(if σ.sl t.at' t.i= .way t.d then {t with next:=12} else t.slot s,σ):=by unfold adA;rw[if_neg (by rw[hd];decide)];rw[if_neg (show ¬ t.next=0 by omega)];rw[if_neg (show ¬ t.next=1 by omega)];rw[if_neg (show ¬ t.next=2 by omega)];rw[if_neg (show ¬ t.next=3 by omega)];rw[if_neg (show ¬ t.next=4 by omega)];rw[if_neg (show ¬ t.next=5 by omega)];rw[if_neg (show ¬ t.next=6 by omega)];rw[if_neg (show ¬ t.next=7 by omega)];rw[if_neg (show ¬ t.next=8 by omega)];rw[if_neg (show ¬ t.next=9 by omega)];rw[if_neg (show ¬ t.next=10 by omega)];rw[if_pos e]
theorem z9f{t:Ad}(hd:t.done=false)(e:t.next=12):adA s t σ=(t.slot s,σ.slot t.at' t.i (.opened t.pa)):=by unfold adA;rw[if_neg (by rw[hd];decide)];rw[if_neg (show ¬ t.next=0 by omega)];rw[if_neg (show ¬ t.next=1 by omega)];rw[if_neg (show ¬ t.next=2 by omega)];rw[if_neg (show ¬ t.next=3 by omega)];rw[if_neg (show ¬ t.next=4 by omega)];rw[if_neg (show ¬ t.next=5 by omega)];rw[if_neg (show ¬ t.next=6 by omega)];rw[if_neg (show ¬ t.next=7 by omega)];rw[if_neg (show ¬ t.next=8 by omega)];rw[if_neg (show ¬ t.next=9 by omega)];rw[if_neg (show ¬ t.next=10 by omega)];rw[if_neg (show ¬ t.next=11 by omega)];rw[if_pos e]
theorem z8n{t:Ad}(hd:t.done=false)(e:t.next=13):adA s t σ=(t.fin 0,σ.stat t.d .done):=by unfold adA;rw[if_neg (by rw[hd];decide)];rw[if_neg (show ¬ t.next=0 by omega)];rw[if_neg (show ¬ t.next=1 by omega)];rw[if_neg (show ¬ t.next=2 by omega)];rw[if_neg (show ¬ t.next=3 by omega)];rw[if_neg (show ¬ t.next=4 by omega)];rw[if_neg (show ¬ t.next=5 by omega)];rw[if_neg (show ¬ t.next=6 by omega)];rw[if_neg (show ¬ t.next=7 by omega)];rw[if_neg (show ¬ t.next=8 by omega)];rw[if_neg (show ¬ t.next=9 by omega)];rw[if_neg (show ¬ t.next=10 by omega)];rw[if_neg (show ¬ t.next=11 by omega)];rw[if_neg (show ¬ t.next=12 by omega)]
theorem ye4{t:Ad}(f:Rep s m σ)(o:GI s σ)(h:adOk s t):Sim s (za0 s t m) (adA s t σ):=by
 by_cases hd:t.done=true
 ·rw[zkx s t m hd];unfold adA;rw[if_pos hd];exact⟨rfl,f⟩
 have hd':t.done=false:=by simpa using hd
 obtain⟨c1,c2,c3,T,n,G,H,I,J,r⟩:=h.cl hd';obtain⟨B,N,O,S⟩:=f.read o n;obtain⟨y,z⟩:=zz9 f o n t;have l:=fun c hc=>f.st c hc;have L:t.next=0\/t.next=1\/t.next=2\/t.next=3\/t.next=4\/t.next=5\/t.next=6\/t.next=7\/t.next=8\/t.next=9\/t.next=10\/t.next=11\/t.next=12\/t.next=13:=by omega
 rcases L with e|e|e|e|e|e|e|e|e|e|e|e|e|e
 ·rw[zl2 s t m hd' e,ya2 hd' e];refine⟨?_,f.same rfl⟩;obtain⟨k1,F⟩:=TW.read c1 (o.tf t.d);unfold Ad.asked;dsimp only;rw[l _ c3,k1,F];have E:=o.tf t.d;cases b:σ.st t.d with
  |owned a=>
   rw[b]at E;have:zae s.p s.c s.m a=a:=by unfold zae;rw[if_pos ⟨c1,zbc.2 (by simp only[TW.fit]at E;omega)⟩]
   simp only[TW.fit]at E;have D:¬ a<0:=by omega
   simp[TW.kind,TW.pa,this,D]
  |_=>simp[TW.kind]
 ·rw[zmf s t m hd' e,yc1 hd' e];refine⟨?_,f.same rfl⟩;have M:=G e;obtain⟨k1,F⟩:=TW.read c1 (o.tf t.who);dsimp only;rw[l _ M,k1];cases σ.st t.who<;>simp[TW.kind]
 ·rw[zlx s t m hd' e,yee hd' e];by_cases b:(σ.st t.d).enc=t.was
  ·have j:m.get (zae s.p s.c s.m t.d)=t.was:=(l _ c3).trans b;rw[if_pos b,if_pos j];exact⟨rfl,f.zpm c3 (.owned t.c) (zgz j)⟩
  have j:¬ m.get (zae s.p s.c s.m t.d)=t.was:=fun k=>b ((l _ c3).symm.trans k);rw[if_neg b,if_neg j];exact⟨rfl,f.same (zjl j)⟩
 ·rw[zl7 s t m hd' e,ydj hd' e];refine⟨?_,f.same rfl⟩;dsimp only;rw[B,z,y];cases b:σ.pg t.at'<;>simp[PW.kind]
 ·rw[zmc s t m hd' e,yd0 hd' e];refine⟨?_,f.same rfl⟩;have q:=f.ownB o (H e) t;dsimp only;by_cases b:σ.pg t.pa= .held t.d
  ·rw[if_pos (q.2 b),if_pos b]
  rw[if_neg (fun k=>b (q.1 k)),if_neg b]
 ·rw[zl5 s t m hd' e,ydy hd' e];exact⟨rfl,f.zd7 n .empty rfl⟩
 ·rw[zmg s t m hd' e,ydn hd' e];refine⟨?_,f.same rfl⟩;have q:=f.ownB o n t;dsimp only;by_cases b:σ.pg t.at'= .held t.d
  ·rw[if_pos (q.2 b),if_pos b]
  rw[if_neg (fun k=>b (q.1 k)),if_neg b]
 ·rw[zl3 s t m hd' e,yd2 hd' e];exact⟨rfl,f.setSlot n (I e) .none rfl⟩
 ·rw[zl6 s t m hd' e,yei hd' e];exact⟨rfl,f.zd7 n .empty rfl⟩
 ·rw[zl8 s t m hd' e,yeh hd' e];exact⟨rfl,f.z1g c3 (J e) .none rfl⟩
 ·rw[zjn s t m hd' e,z9b hd' e];refine⟨?_,f.same rfl⟩;dsimp only;rw[B,z,y];cases b:σ.pg t.at'<;>simp[PW.kind]
 ·rw[zju s t m hd' e,z8z hd' e];refine⟨?_,f.same rfl⟩;have C:=r (.inl e);have:=zcy t.pa;have q:m.get (zbk s.p s.c s.m t.at' t.i)=zc3 2 t.d↔σ.sl t.at' t.i= .way t.d:=f.zlw o n (show 0<=t.i/\t.i<16 by omega) (u:= .way t.d) c3;dsimp only;by_cases b:σ.sl t.at' t.i= .way t.d
  ·rw[if_pos (q.2 b),if_pos b]
  rw[if_neg (fun k=>b (q.1 k)),if_neg b]
 ·rw[zkg s t m hd' e,z9f hd' e];have C:=r (.inr e);have:=zcy t.pa;exact⟨rfl,f.setSlot n (by omega) (.opened t.pa) rfl⟩
 rw[zj8 s t m hd' e,z8n hd' e];exact⟨rfl,f.zpm c3 .done rfl⟩
theorem ye9{cl:Int}{j:Jb}(l:Rep s m σ)(n:GI s σ)(h:jbIs s cl j)(p:0<=cl/\cl<s.c):Sim s (j.step s cl m) (j.zhf s cl σ):=by
 cases j with
 |mal r c=>
  unfold Jb.step Jb.zhf;dsimp only;by_cases hd:r.done=false
  ·have:=z0x l n ⟨fun x i=>(h.1.sk x i).1.ok,fun x i=>(h.1.rn x i).ok⟩;rw[if_pos hd,if_pos hd,this.1];exact⟨rfl,this.2⟩
  rw[if_neg hd,if_neg hd];have o:∀ x,zhp s cl r c=some x->cmOk s x:=fun x i=>by
   unfold zhp at i;rcases c with _|y
   ·rcases hg':r.got with _|b
    ·rw[hg']at i;cases i
    rw[hg']at i;injection i with i;subst i;exact zpt _ _ _
   have:some y=some x:=i;injection this with this;subst this;intro e;rw[(h.2 y rfl).2.1]at e;cases e
  rcases hm:zhp s cl r c with _|x
  ·exact⟨rfl,l⟩
  have:=z9g l (o x hm);dsimp only;rw[this.1];exact⟨rfl,this.2⟩
 |fre f=>have:=z9o l n h.ok;exact⟨congrArg Jb.fre this.1,this.2⟩
 |aga r=>have:=ydv l n h.ok;exact⟨congrArg Jb.aga this.1,this.2⟩
 |hei a=>have:=ye4 l n h.1;exact⟨congrArg Jb.hei this.1,this.2⟩
end

section

variable {s:Sh} {σ σ':Ab} {c:Int} {R:Own}

theorem zaz.zrk{o:Own}(h:zaz σ c (Own.no.add o)):zaz σ c o:=h.eq (fun _=>(or_iff_right id).symm) (fun _ _=>(or_iff_right id).symm) (fun _ _ _=>(or_iff_right id).symm)
theorem zaz.zeb{o:Own}(h:zaz σ c o):zaz σ c (Own.no.add o):=h.eq (fun _=>or_iff_right id) (fun _ _=>or_iff_right id) (fun _ _ _=>or_iff_right id)
def zgb (b:Blk):Own:=if b.large=true then (Own.page b.page).add (.bodies b.page (b.page + 1) (b.page + b.pages)) else .way b.page b.slot b.k
def zoa (b:Blk):Bl:=if b.large=true then .lar b.page b.pages else .sm b.page b.slot b.k
def zi6 (σ:Ab) (b:Blk):Prop:=b.large=true->zfr σ b.page (b.page + 1)
theorem zi6.same{b:Blk}(i:∀ p,(zgb b).h p->σ.pg p= .held c)(h:zi6 σ b)(hs:Same c σ σ'):zi6 σ' b:=fun f=>
 (h f).same (fun p j l=>i p (by unfold zgb;rw[if_pos f];exact .inl (show p=b.page by omega))) hs
def z3j (s:Sh) (t:Rs):Own:=match t.seeker,t.runner with
 | some x,_=> zey s x
 | none,some x=> zf2 x
 | none,none=> .no
def z0u (s:Sh) (c:Int) (σ:Ab) (t:Rs):Prop:=match t.seeker,t.runner with
 | some x,_=> zir s c σ x
 | none,some x=> zz8 c σ x
 | none,none=> True
structure RsAt (s:Sh) (c:Int) (σ:Ab) (t:Rs):Prop where
 ex:zaz σ c (z3j s t)
 inv:z0u s c σ t
theorem RsAt.same{t:Rs}(h:RsAt s c σ t)(hs:Same c σ σ'):RsAt s c σ' t:=by
 refine⟨h.ex.same hs,?_⟩;obtain⟨b,f⟩:=h;unfold z0u z3j at *;obtain⟨k,pg,sk,rn⟩:=t;rcases sk with _|x
 ·rcases rn with _|y
  ·trivial
  exact f.same b hs
 exact f.same b.zeb hs
structure ydm (s:Sh) (c:Int) (σ:Ab) (r:Rs × Ab):Prop where
 kept:Kept s c σ r.2
 at':RsAt s c r.2 r.1
 calm:Calm σ r.2
theorem z1q{m:Mem}{t:Rs}(n:Rep s m σ)(l:GI s σ)(f:rsIs s c t)(hd:t.done=false)(h:RsAt s c σ t):ydm s c σ (rsA s t σ):=by
 obtain⟨i,j⟩:=h;unfold z3j z0u at *;obtain⟨k,pg,sk,rn⟩:=t;rcases sk with _|x
 ·rcases rn with _|y
  ·cases hd
  have b:=ycn n.may l (f.rn y rfl).ok hd ⟨i,j⟩;exact⟨b.kept,⟨b.at'.1,b.at'.2⟩,b.calm⟩
 have b:=ya8 n l (f.sk x rfl).1.ok (f.sk x rfl).2 hd i.zeb j;exact⟨b.1.kept,⟨b.1.ex.zrk,b.1.inv⟩,b.2⟩
theorem zkv{t:Rs}(B:rsIs s c t)(hd:t.done=true)(h:RsAt s c σ t):(t.got=none->zaz σ c .no)/\∀ b,t.got=some b->zaz σ c (zgb b)/\zi6 σ b:=by
 obtain⟨i,z⟩:=h;unfold z3j z0u Rs.got at *;obtain⟨k,pg,sk,rn⟩:=t;rcases sk with _|x
 ·rcases rn with _|y
  ·exact⟨fun _=>i,fun b e=>(by cases e)⟩
  dsimp only at *;have r:y.done=true:=hd;unfold zf2 at i;rcases Bool.eq_false_or_eq_true y.found with f|f
  ·rw[if_pos f];have l:y.ph= .found:=by unfold Rn.ph;rw[if_pos f]
   refine⟨fun e=>(by cases e),fun b e=>?_⟩;injection e with e;subst e;have o:y.pages=pg:=(B.rn y rfl).n;rw[l]at i;have j:=z.2;rw[l]at j;refine⟨i.eqv ?_,fun _=>j⟩;unfold zgb;dsimp only;rw[if_pos rfl,o];refine⟨fun p=>?_,fun p g=>?_,fun _ _ _=>?_⟩<;>simp only[Own.run,Own.add,Own.page,Own.bodies,Own.pages,or_false,false_or,iff_false,false_iff]<;>(try omega)
  rw[if_neg (by rw[f];decide)];have l:y.ph= .dead:=by unfold Rn.ph;rw[if_neg (by rw[f];decide),if_pos r]
  rw[l]at i;exact⟨fun _=>i,fun b e=>(by cases e)⟩
 dsimp only at *;have q:x.done=true:=hd;rcases Bool.eq_false_or_eq_true x.found with f|f
 ·rw[if_pos f];refine⟨fun e=>(by cases e),fun b e=>?_⟩;injection e with e;subst e;have o:x.k=k:=(B.sk x rfl).1.k;have:zey s x= .way x.page x.slot x.k:=by unfold zey;rw[if_pos f]
  rw[this,o]at i;exact⟨i,fun e=>(by cases e)⟩
 rw[if_neg (by rw[f];decide)];rw[zga f (z.dn q f)]at i;exact⟨fun _=>i,fun b e=>(by cases e)⟩
theorem z08{t:Cm}(z:GI s σ)(hd:t.done=false)(D:t.b.fits s c=true)(f:zaz σ c (zgb t.b))(hi:zi6 σ t.b):Kept s c σ (cmA t σ).2/\zaz (cmA t σ).2 c .no/\Plus (zoa t.b) σ (cmA t σ).2/\(cmA t σ).1= {t with done:=true}:=by
 obtain⟨_,hc,G,B,H⟩:=zdi.1 D;unfold cmA;rw[if_neg (by rw[hd];decide)];unfold zgb at f;unfold zoa;by_cases r:t.b.large=true
 ·rw[if_pos r]at f ⊢;rw[if_pos r];have C:=B r;have p:σ.pg t.b.page= .held c:=(f.h _).2 (.inl rfl);have l:∀ i,σ.sl t.b.page i= .none:=fun i=>hi r _ i (Int.le_refl _) (by omega);have hb:∀ q,σ.pg q= .body t.b.page↔t.b.page+1<=q/\q<t.b.page+t.b.pages:=fun q=>by have:=f.b q t.b.page;simp only[Own.add,Own.page,Own.bodies,false_or,true_and]at this;rw[<-this];exact⟨fun e=>⟨e,p⟩,And.left⟩
  refine⟨zlp z p l C (fun j E F=>(hb _).2 (by omega)) (fun q e=>((hb q).1 e).2),?_,z1n (fun n e=>by rw[p]at e;cases e),rfl⟩;exact zkr (o:= .no) (f.eqv ⟨fun _=>or_congr (or_iff_right id).symm .rfl,fun _ _=>or_congr (or_iff_right id).symm .rfl,fun _ _ _=>or_congr (or_iff_right id).symm .rfl⟩) id (fun _=>id)
 rw[if_neg r]at f ⊢;rw[if_neg r];obtain⟨⟨b,p⟩,hs⟩:=(f.w _ _ _).2 (.inl ⟨rfl,rfl,rfl⟩);have y:=f.zeb;exact⟨zc6 z p hs (.inr rfl) (znc y p),zdd y (fun _=>id) p (.inr rfl),z1b (fun n e=>by rw[hs]at e;cases e),rfl⟩
def zqs (t:Un):Own:=if t.done=true then .no else if t.b.large=true then (Own.page t.b.page).add (.bodies t.b.page (t.b.page + 1 + t.i) (t.b.page + t.b.pages)) else .way t.b.page t.b.slot t.b.k
structure UnAt (s:Sh) (c:Int) (σ:Ab) (t:Un):Prop where
 ex:zaz σ c (zqs t)
 inv:t.done=false->zi6 σ t.b
theorem UnAt.same{t:Un}(h:UnAt s c σ t)(hs:Same c σ σ'):UnAt s c σ' t:=⟨h.ex.same hs,fun hd=>by
 refine fun f=>(h.inv hd f).same (fun p i j=>(h.ex.h p).2 ?_) hs
 unfold zqs;rw[if_neg (by rw[hd];decide),if_pos f];exact .inl (show p=t.b.page by omega)⟩
theorem Own.zx9{h lo hi:Int}(b:lo<hi):((Own.bodies h (lo+1) hi).add (.bodies h lo (lo+1))).Eqv (.bodies h lo hi):=by
 refine⟨fun p=>?_,fun p g=>?_,fun _ _ _=>?_⟩<;>simp only[Own.add,Own.bodies,or_false,false_or,iff_false,false_iff]<;>(try omega)
theorem zq1{P lo hi:Int}(o:GI s σ)(i:P+1<=lo/\lo<hi)(r:∀ q,¬ R.b q P)(j:zaz σ c (R.add ((Own.page P).add (.bodies P lo hi)))):
  Kept s c σ (σ.page lo .empty)/\zaz (σ.page lo .empty) c (R.add ((Own.page P).add (.bodies P (lo+1) hi)))/\Calm σ (σ.page lo .empty):=by
 have f:σ.pg lo= .body P/\σ.pg P= .held c:=(j.b lo P).2 (.inr (.inr ⟨rfl,Int.le_refl _,i.2⟩));have l:zaz σ c ((R.add ((Own.page P).add (.bodies P (lo+1) hi))).add (.bodies P lo (lo+1))):=by refine j.eqv (.symm (.trans (.zp7 _ _ _) (.add R (.trans (.zp7 _ _ _) (.add _ (Own.zx9 i.2))))))
 refine⟨zjz o f.1 f.2,zoe o l (fun g e=>?_),zdt (fun n e=>by cases e) (fun n e=>by rw[f.1]at e;cases e)⟩;rcases e with e|e|e
 ·have p:=(j.b lo g).2 (.inl e);have:g=P:=by have:=p.1;rw[f.1]at this;injection this with this;exact this.symm
  subst this;exact r _ e
 ·exact e
 have:=e.2.1;omega
theorem zq4{P hi:Int}(y:GI s σ)(t:∀ q,¬ R.b q P)(j:¬ R.h P)(hb:zfr σ P (P+1))(l:zaz σ c (R.add ((Own.page P).add (.bodies P hi hi)))):
  Kept s c σ (σ.page P .empty)/\zaz (σ.page P .empty) c (R.add .no)/\Calm σ (σ.page P .empty):=by
 have r:σ.pg P= .held c:=(l.h P).2 (.inr (.inl rfl));have f:∀ q,σ.pg q≠ .body P:=fun q e=>by
  rcases(l.b q P).1 ⟨e,r⟩ with e|e|e
  ·exact t _ e
  ·exact e
  have:=e.2;omega
 have o:zaz σ c (R.add (.page P)):=l.eqv (.add R ⟨fun _=>or_iff_left id,fun p g=>⟨fun h=>h.elim id (fun h=>by have z:=h.2;omega),fun h=>h.elim⟩,fun _ _ _=>or_iff_left id⟩);exact⟨zg7 y r (fun i=>hb P i (Int.le_refl _) (by omega)) f,(zi1 o j f).eqv (Own.Eqv.zeb R).symm,zdt (fun n e=>by cases e) (fun n e=>by rw[r]at e;cases e)⟩
theorem yae{t:Un}(y:GI s σ)(C:unOk s t)(hd:t.done=false)(h:UnAt s c σ t):Kept s c σ (unA t σ).2/\UnAt s c (unA t σ).2 (unA t σ).1/\Calm σ (unA t σ).2/\(unA t σ).1.b=t.b:=by
 obtain⟨l,hi⟩:=h;obtain⟨k1,D⟩:=C.cl hd;obtain⟨_,_,E,F,G⟩:=zdi.1 k1;unfold unA;rw[if_neg (by rw[hd];decide)];unfold zqs at l;rw[if_neg (by rw[hd];decide)]at l;by_cases o:t.b.large=true
 ·rw[if_neg (by rw[o];decide)];rw[if_pos o]at l;have B:=D o;by_cases j:t.i=t.b.pages-1
  ·rw[if_pos j];have f:zaz σ c (Own.no.add ((Own.page t.b.page).add (.bodies t.b.page (t.b.page+t.b.pages) (t.b.page+t.b.pages)))):=by rw[show t.b.page+1+t.i=t.b.page+t.b.pages by omega]at l;exact l.zeb
   obtain⟨p,q,r⟩:=zq4 y (R:= .no) (fun _=>id) id (hi hd o) f;refine⟨p,⟨?_,fun e=>(by cases e)⟩,r,rfl⟩;unfold zqs;rw[if_pos rfl];exact q.zrk
  rw[if_neg j];have f:=l.zeb;rw[show t.b.page+1+t.i=t.b.page+t.i+1 by omega]at f;obtain⟨p,q,r⟩:=zq1 y (R:= .no) (P:=t.b.page) (lo:=t.b.page+t.i+1) (hi:=t.b.page+t.b.pages) (by omega) (fun _=>id) f;refine⟨p,⟨?_,fun _ _=>?_⟩,r,rfl⟩
  ·unfold zqs;dsimp only;rw[if_neg (by rw[hd];decide),if_pos o,show t.b.page+1+(t.i+1)=t.b.page+t.i+1+1 by omega];exact q.zrk
  exact hi hd o
 rw[if_pos (by simpa using o)];rw[if_neg o]at l;obtain⟨⟨b,z⟩,hs⟩:=(l.w _ _ _).2 (.inl ⟨rfl,rfl,rfl⟩);have f:=l.zeb;refine⟨zc6 y z hs (.inl rfl) (znc f z),⟨?_,fun e=>(by cases e)⟩,zdn (fun n e=>by cases e) (fun n e=>by rw[hs]at e;cases e),rfl⟩;unfold zqs;rw[if_pos rfl];exact zdd f (fun _=>id) z (.inl rfl)
inductive FePh
 | idle
 | put (x:Pu)
 | back
 | drop
def Fe.ph (t:Fe):FePh:=if t.done=true then .idle else if t.next=2 then (match t.put with | some x=> .put x | none=> .idle) else if t.next=3 then .back else if t.next=4 then .drop else .idle
def ziw (t:Fe):Own:=match t.ph with
 | .idle=> .no
 | .put x=> zlt x
 | .back=> .way t.page t.slot t.pa
 | .drop=> (Own.page t.page).add (.bodies t.page (t.page + 1 + t.i) (t.page + t.pa))
def feBl (t:Fe):Bl:=if t.pk=3 then .lar t.page t.pa else .sm t.page t.slot t.pa
structure zr5 (s:Sh) (c:Int) (σ:Ab) (R:Own) (t:Fe):Prop where
 cl:t.c=c
 w:t.done=false->t.next=1->t.pk=3->t.word=(PW.large t.pa).enc
 ph:match t.ph with
  | .idle=> True
  | .put x=> zp5 c σ x/\(x.ep=t.page/\x.es=t.slot/\x.ek=t.pa)/\x.put=false/\∀ k',¬ R.w t.page t.slot k'
  | .back=> ∀ k',¬ R.w t.page t.slot k'
  | .drop=> zfr σ t.page (t.page + 1)/\¬ R.h t.page/\∀ q,¬ R.b q t.page
theorem zr5.same{t:Fe}(f:zaz σ c (R.add (ziw t)))(h:zr5 s c σ R t)(hs:Same c σ σ'):zr5 s c σ' R t:=by
 obtain⟨i,j,b⟩:=h;refine⟨i,j,?_⟩;unfold ziw at f;cases hp:t.ph with
 |idle=>trivial
 |put x=>rw[hp]at b;exact⟨b.1.same hs,b.2⟩
 |back=>rw[hp]at b;exact b;|drop=>rw[hp]at b f;exact⟨b.1.same (fun p l i=>(f.h p).2 (.inr (.inl (show p=t.page by omega)))) hs,b.2⟩
structure zxb (s:Sh) (c:Int) (σ:Ab) (R:Own) (t:Fe) (r:Fe × Ab):Prop where
 kept:Kept s c σ r.2
 ex:zaz r.2 c (R.add (ziw r.1))
 inv:zr5 s c r.2 R r.1
 sl:∀ q i,σ.pg q= .held c->r.2.sl q i=σ.sl q i
 chg:(t.gave=false->r.1.gave=true->zr4 (feBl t) σ r.2/\r.1.done=false/\t.next=1)/\((t.gave=true\/r.1.gave=false)->Calm σ r.2)
end

section

variable {s:Sh} {σ σ':Ab} {c:Int} {R:Own}

theorem yge(s:Sh)(t:Pu)(σ:Ab):(puA s t σ).1.ep=t.ep/\(puA s t σ).1.es=t.es/\(puA s t σ).1.ek=t.ek:=by
 unfold puA;split
 ·exact⟨rfl,rfl,rfl⟩
 split
 ·exact⟨rfl,rfl,rfl⟩
 dsimp only;split<;>exact⟨rfl,rfl,rfl⟩
theorem zcq{t:Fe}(h:t.ph= .idle):ziw t= .no:=by unfold ziw;rw[h]
theorem zdp{t:Fe}(h:t.done=true):t.ph= .idle:=by unfold Fe.ph;rw[if_pos h]
theorem zib{t:Fe}(h:t.next=0\/t.next=1):t.ph= .idle:=by
 unfold Fe.ph;split
 ·rfl
 rw[if_neg (by omega),if_neg (by omega),if_neg (by omega)]
theorem zen{t:Fe}(hc:t.c=c)(h:t.ph= .idle)(b:t.done=false->t.next=1->t.pk=3->t.word=(PW.large t.pa).enc):zr5 s c σ R t:=⟨hc,b,by rw[h];trivial⟩
theorem z4l{m:Mem}{t:Fe}(hr:Rep s m σ)(D:GI s σ)(hk:feIs s c t)(hd:t.done=false)(f:zaz σ c (R.add (ziw t)))(hi:zr5 s c σ R t):zxb s c σ R t (feA s t σ):=by
 obtain⟨c1,c2,c3,c4,c5,c6,c7,c8,c9,b2⟩:=hk.ok.cl hd;obtain⟨hc,hw,B⟩:=hi;subst hc;unfold feA;rw[if_neg (by rw[hd];decide)];have J:∀ t':Fe,t'.c=t.c->t'.ph= .idle->t'.gave=false->(t'.done=false->t'.next=1->t'.pk=3->t'.word=(PW.large t'.pa).enc)->zaz σ t.c (R.add .no)->zxb s t.c σ R t (t',σ):=fun t' M F C h4 h5=>⟨Kept.refl D,by rw[zcq F];exact h5,zen M F h4,fun _ _ _=>rfl,⟨fun _ e=>(by rw[C]at e;cases e),fun _=>Calm.refl _⟩⟩
 by_cases h0:t.next=0
 ·rw[if_pos h0];have r:=hk.gv (by omega);rw[zcq (zib (.inl h0))]at f;have z:(t.zeg (σ.pg t.page)).c=t.c/\(t.zeg (σ.pg t.page)).gave=t.gave/\(t.zeg (σ.pg t.page)).next=1/\(t.zeg (σ.pg t.page)).pk=(σ.pg t.page).kind/\(t.zeg (σ.pg t.page)).pa=(σ.pg t.page).pa/\(t.zeg (σ.pg t.page)).word=(σ.pg t.page).enc:=by
   unfold Fe.zeg;dsimp only;split
   ·exact⟨rfl,rfl,rfl,rfl,rfl,rfl⟩
   split<;>exact⟨rfl,rfl,rfl,rfl,rfl,rfl⟩
  refine J _ z.1 (zib (.inr z.2.2.1)) (z.2.1.trans r) (fun _ _ e=>?_) f;rw[z.2.2.2.1]at e;rw[z.2.2.2.2.1,z.2.2.2.2.2];cases o:σ.pg t.page<;>rw[o]at e<;>simp[PW.kind]at e;rfl
 rw[if_neg h0];by_cases M:t.next=1
 ·rw[if_pos M];have r:=hk.gv (by omega);rw[zcq (zib (.inr M))]at f;have G:zaz σ t.c R:=f.eqv (Own.Eqv.zeb R);by_cases H:t.pk=3
  ·rw[if_pos H];by_cases o:(σ.pg t.page).enc=t.word
   ·rw[if_pos o];rcases c6 (by omega) with⟨_,k2,k3,k4⟩|⟨k1,_⟩
    ·have j:σ.pg t.page= .large t.pa:=PW.inj hr.may (D.pf _) (q:=t.page) (y:= .large t.pa) ⟨c2,k2,k3,k4⟩ (by rw[o];exact hw hd M H);have E:({t with gave:=true,next:=4,done:=false}:Fe).ph= .drop:=rfl;refine⟨zmq D j c1,?_,⟨rfl,fun _ e=>(by cases e),?_⟩,fun _ _ _=>rfl,⟨fun _ _=>⟨?_,rfl,M⟩,fun e=>by rcases e with e|e;(rw[r]at e;cases e);(cases e)⟩⟩
     ·unfold ziw;rw[E];dsimp only;rw[c5 (by omega),show t.page+1+0=t.page+1 by omega];exact(zlv D G j).eqv (Own.Eqv.zp7 _ _ _)
     ·rw[E];refine⟨fun p i a b=>?_,fun e=>?_,fun q e=>?_⟩
      ·rw[show p=t.page by dsimp only at a b;omega];exact zm3 D (.inr (.inl ⟨_,j⟩)) i
      ·have:=(G.h _).2 e;rw[j]at this;cases this
      have:=((G.b _ _).2 e).2;rw[j]at this;cases this
     unfold feBl;rw[if_pos H];exact zy2 (fun n e=>by cases e) j
    omega
   rw[if_neg o];exact J _ rfl (zdp rfl) rfl (fun e=>by cases e) f
  rw[if_neg H];by_cases o:σ.sl t.page t.slot= .taken t.pa
  ·rw[if_pos o];obtain⟨⟨b,E⟩,b9⟩:=zhs D (.inr o);have b4:=zf3 D E (.inr o) c1;have b3:=zfc D G E (.inr o);have b5:zr4 (feBl t) σ (σ.slot t.page t.slot (.way t.c)):=by unfold feBl;rw[if_neg H];exact zzw (fun n e=>by cases e) o
   have T:∀ X,¬ R.w t.page t.slot X:=fun X e=>by have:=((G.w _ _ _).2 (.inl e)).2;rw[o]at this;cases this
   have fin:∀ t':Fe,t'.c=t.c->t'.gave=true->t'.done=false->ziw t'= .way t.page t.slot t.pa->(match t'.ph with | .idle=>True | .put x=>zp5 t.c (σ.slot t.page t.slot (.way t.c)) x/\(x.ep=t'.page/\x.es=t'.slot/\x.ek=t'.pa)/\x.put=false/\∀ X,¬ R.w t'.page t'.slot X | .back=>∀ X,¬ R.w t'.page t'.slot X | .drop=>zfr (σ.slot t.page t.slot (.way t.c)) t'.page (t'.page+1)/\¬ R.h t'.page/\∀ q,¬ R.b q t'.page)->t'.next≠1->zxb s t.c σ R t (t',σ.slot t.page t.slot (.way t.c)):=fun t' e1 e2 e6 e3 Y e5=>⟨b4,by rw[e3];exact b3,⟨e1,fun _ e=>absurd e e5,Y⟩,fun q i hq=>zbq _ _ (fun e=>by rw[e.1,E]at hq;cases hq),⟨fun _ _=>⟨b5,e6,M⟩,fun e=>by rcases e with e|e;(rw[r]at e;cases e);(have e:t'.gave=false:=e;rw[e2]at e;cases e)⟩⟩
   have U:zxb s t.c σ R t ({t with gave:=true,next:=3,done:=false},σ.slot t.page t.slot (.way t.c)):=fin _ rfl rfl rfl rfl T (show (3:Int)≠1 by decide);unfold Fe.gotA;dsimp only[Bool.not_true];by_cases b1:t.pb=t.c
   ·rw[if_pos b1];unfold Fe.kept;dsimp only;rw[if_neg (show ¬ (zg5 s t.c t.page t.slot t.pa).put=true by simp[zg5])];rcases Bool.eq_false_or_eq_true (zg5 s t.c t.page t.slot t.pa).done with e|e
    ·rw[if_pos e];exact fin _ rfl rfl rfl rfl T (show (3:Int)≠1 by decide)
    rw[if_neg (by rw[e];decide)];exact fin _ rfl rfl rfl rfl ⟨⟨rfl,fun e=>(by cases e),fun e=>(by cases e)⟩,⟨rfl,rfl,rfl⟩,rfl,T⟩ (show (2:Int)≠1 by decide)
   rw[if_neg b1];exact U
  rw[if_neg o];have C:(t.gotA s false).c=t.c/\(t.gotA s false).gave=false/\(t.gotA s false).done=true:=by
   unfold Fe.gotA;dsimp only;refine⟨?_,?_,rfl⟩
   ·split
    ·unfold Fe.kept;dsimp only;split
     ·rfl
     split<;>rfl
    rfl
   split
   ·unfold Fe.kept;dsimp only;split
    ·rfl
    split<;>rfl
   rfl
  exact J _ C.1 (zdp C.2.2) C.2.1 (fun e=>by rw[C.2.2]at e;cases e) f
 rw[if_neg M];have r:=hk.gv2 (by omega) hd;have calm:∀ (t':Fe) σ',Calm σ σ'->(t.gave=false->t'.gave=true->zr4 (feBl t) σ σ'/\t'.done=false/\t.next=1)/\((t.gave=true\/t'.gave=false)->Calm σ σ'):=fun t' σ' h=>⟨fun e=>(by rw[r]at e;cases e),fun _=>h⟩;by_cases F:t.next=2
 ·rw[if_pos F];obtain⟨_,x,o,b7,b6⟩:=c8 F;have E:t.ph= .put x:=by unfold Fe.ph;rw[if_neg (by rw[hd];decide),if_pos F,o]
  unfold ziw at f;rw[E]at f B;obtain⟨p1,L,p3,p4⟩:=B;rw[o];dsimp only;obtain⟨⟨S,N,Z⟩,g4⟩:=z96 D b7 b6 (R:=R) (by rw[L.1,L.2.1];exact p4) f p1;obtain⟨e1,e2,e3⟩:=yge s x σ;have V:∀ q i,σ.pg q= .held t.c->(puA s x σ).2.sl q i=σ.sl q i:=fun q i _=>by unfold puA;split;rfl;split;rfl;rfl
  unfold Fe.kept;dsimp only;rcases Bool.eq_false_or_eq_true (puA s x σ).1.put with e|e
  ·rw[if_pos e];refine⟨S,?_,zen rfl (zdp rfl) (fun e=>by cases e),V,calm _ _ g4⟩;rw[zcq (zdp rfl)];have:zlt (puA s x σ).1= .no:=by unfold zlt;rw[if_pos e]
   rw[this]at N;exact N
  rw[if_neg (by rw[e];decide)];have b0:zlt (puA s x σ).1= .way t.page t.slot t.pa:=by unfold zlt;rw[if_neg (by rw[e];decide),e1,e2,e3,L.1,L.2.1,L.2.2]
  rcases Bool.eq_false_or_eq_true (puA s x σ).1.done with Y|Y
  ·rw[if_pos Y];have l:({t with put:=some (puA s x σ).1,next:=3}:Fe).ph= .back:=by unfold Fe.ph;dsimp only;rw[if_neg (by rw[hd];decide)];rfl
   refine⟨S,?_,⟨rfl,fun _ e=>(by cases e),?_⟩,V,calm _ _ g4⟩
   ·unfold ziw;rw[l];rw[b0]at N;exact N
   rw[l];exact p4
  rw[if_neg (by rw[Y];decide)];have l:({t with put:=some (puA s x σ).1}:Fe).ph= .put (puA s x σ).1:=by unfold Fe.ph;dsimp only;rw[if_neg (by rw[hd];decide),if_pos F]
  refine⟨S,?_,⟨rfl,fun _ e=>absurd e M,?_⟩,V,calm _ _ g4⟩
  ·unfold ziw;rw[l];exact N
  rw[l];exact⟨Z,⟨e1.trans L.1,e2.trans L.2.1,e3.trans L.2.2⟩,e,p4⟩
 rw[if_neg F];by_cases C:t.next=3
 ·rw[if_pos C];have E:t.ph= .back:=by unfold Fe.ph;rw[if_neg (by rw[hd];decide),if_neg F,if_pos C]
  unfold ziw at f;rw[E]at f B;obtain⟨⟨b,O⟩,hs⟩:=(f.w _ _ _).2 (.inl (.inr ⟨rfl,rfl,rfl⟩));refine⟨zc6 D O hs (.inl rfl) (znc f O),?_,zen rfl (zdp rfl) (fun e=>by cases e),fun q i hq=>zbq _ _ (fun e=>by rw[e.1,O]at hq;cases hq),calm _ _ (zdn (fun n e=>by cases e) (fun n e=>by rw[hs]at e;cases e))⟩;rw[zcq (zdp rfl)];exact(zdd f B O (.inl rfl)).eqv (Own.Eqv.zeb R).symm
 rw[if_neg C];have h4:t.next=4:=by omega
 have E:t.ph= .drop:=by unfold Fe.ph;rw[if_neg (by rw[hd];decide),if_neg F,if_neg C,if_pos h4]
 unfold ziw at f;rw[E]at f B;obtain⟨p1,L,p3⟩:=B;have b8:=b2 h4;by_cases I:t.i=t.pa-1
 ·rw[if_pos I];rw[show t.page+1+t.i=t.page+t.pa by omega]at f;obtain⟨S,N,Z⟩:=zq4 D p3 L p1 f;refine⟨S,?_,zen rfl (zdp rfl) (fun e=>by cases e),fun _ _ _=>rfl,calm _ _ Z⟩;rw[zcq (zdp rfl)];exact N
 rw[if_neg I];rw[show t.page+1+t.i=t.page+t.i+1 by omega]at f;obtain⟨S,N,Z⟩:=zq1 D (by omega) p3 f;have l:({t with i:=t.i+1}:Fe).ph= .drop:=by unfold Fe.ph;dsimp only;rw[if_neg (by rw[hd];decide),if_neg F,if_neg C,if_pos h4]
 refine⟨S,?_,⟨rfl,fun _ e=>absurd e M,?_⟩,fun _ _ _=>rfl,calm _ _ Z⟩
 ·unfold ziw;rw[l];dsimp only;rw[show t.page+1+(t.i+1)=t.page+t.i+1+1 by omega];exact N
 rw[l];exact⟨fun p i a b=>p1 p i a b,L,p3⟩
end

end Go.Proofs.YtkbddndcegpllaaGreat
