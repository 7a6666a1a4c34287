
import Derived.Test.YtkilokkopbajkaaGreatBw8

set_option linter.all false
namespace Go.Proofs.YtkilokkopbajkaaGreat

section

def PW.vK (k:Int):PW->Bool
 |.super k' _=>k'==k
 |_=>false
def tkA (s:Sh) (t:Tk) (σ:Ab):Tk×Ab:=
 if t.done=true then (t,σ)
 else if t.hit=true then ({t with found:=true,done:=true},σ.mag t.c t.i .none)
 else match σ.mg t.c t.i with
  |.entry p i k=>(if k=t.k then {t with ep:=p,es:=i,ek:=k,hit:=true} else {t with i:=t.i+1,done:=decide (t.i+1=s.m)},σ)
  |.none=>({t with i:=t.i+1,done:=decide (t.i+1=s.m)},σ)
def puA (s:Sh) (t:Pu) (σ:Ab):Pu×Ab:=
 if t.done=true then (t,σ)
 else if t.hit=true then ({t with put:=true,done:=true},σ.mag t.c t.i (.entry t.ep t.es t.ek))
 else (if σ.mg t.c t.i=.none then {t with hit:=true} else {t with i:=t.i+1,done:=decide (t.i+1=s.m)},σ)
def scA (s:Sh) (t:Sc) (σ:Ab):Sc×Ab:=
 if t.done=true then (t,σ)
 else if t.next=0 then (if (σ.pg (t.page s)).vK t.k=true then {t with next:=1} else t.turn s,σ)
 else if t.next=1 then (if σ.sl (t.page s) t.i=.opened t.k then {t with next:=2} else t.miss s,σ)
 else if σ.sl (t.page s) t.i=.opened t.k then ({t with found:=true,done:=true},σ.slot (t.page s) t.i (.way t.c)) else (t.miss s,σ)
def pcA (s:Sh) (t:Pc) (σ:Ab):Pc×Ab:=
 if t.done=true then (t,σ)
 else if t.empty=false then (if σ.pg (t.page s)=.empty then {t with empty:=true} else {t with empty:=false,many:=t.many+1,done:=decide (t.many+1=s.p)},σ)
 else if σ.pg (t.page s)=.empty then ({t with found:=true,done:=true},σ.page (t.page s) (.held t.c)) else ({t with empty:=false,many:=t.many+1,done:=decide (t.many+1=s.p)},σ)
def spA (s:Sh) (t:Sp) (σ:Ab):Sp×Ab:=
 if t.done=true then (t,σ)
 else if t.back=true then ({t with i:=t.i-1,done:=decide (t.i-1=0)},σ.slot t.page (t.i-1) (.opened t.k))
 else if t.i=mA t.k then ({t with held:=true,done:=true},σ.page t.page (.held t.c))
 else if σ.sl t.page t.i=.opened t.k then ({t with i:=t.i+1},σ.slot t.page t.i (.way t.c)) else ({t with back:=true,done:=decide (t.i=0)},σ)
def bnA (s:Sh) (t:Bn) (σ:Ab):Bn×Ab:=
 if t.done=true then (t,σ)
 else if t.bound=true then ({t with i:=t.i-1,done:=decide (t.i-1=0)},σ.slot t.page t.i (.opened t.k))
 else if t.i=16 then ({t with bound:=true,i:=mA t.k-1},σ.page t.page (.super t.k t.c))
 else ({t with i:=t.i+1},σ.slot t.page t.i (if t.i<mA t.k then .way t.c else .none))
def mcA (s:Sh):Mc->Ab->Mc×Ab
 |.tk t,σ=>(.tk (tkA s t σ).1,(tkA s t σ).2)
 |.sc t,σ=>(.sc (scA s t σ).1,(scA s t σ).2)
 |.pc t,σ=>(.pc (pcA s t σ).1,(pcA s t σ).2)
 |.sp t,σ=>(.sp (spA s t σ).1,(spA s t σ).2)
 |.bn t,σ=>(.bn (bnA s t σ).1,(bnA s t σ).2)
def skA (s:Sh) (t:Sk) (σ:Ab):Sk×Ab:=
 if t.done=true then (t,σ)
 else match t.now with
  |some x=>(OA s 5 {t with now:=some (mcA s x σ).1},(mcA s x σ).2)
  |none=>(match σ.pg (t.here s) with|.super k _=>{t with now:=some (.sp (VB s t.c (t.here s) k))}|_=>t.turn s,σ)
def rnA (s:Sh) (t:Rn) (σ:Ab):Rn×Ab:=
 if t.done=true then (t,σ)
 else if t.next=0 then (match σ.pg t.at' with|.empty=>{t with next:=1}|.super k _=>{t with next:=2,strip:=some (VB s t.c t.at' k)}|_=>t.miss s,σ)
 else if t.next=1 then (if σ.pg t.at'=.empty then (t.own,σ.page t.at' (.held t.c)) else (t.miss s,σ))
 else if t.next=2 then
  match t.strip with
  |some x=>(if (spA s x σ).1.held=true then {t with strip:=some (spA s x σ).1,next:=3,i:=0} else if (spA s x σ).1.done=true then ({t with strip:=some (spA s x σ).1}:Rn).miss s else {t with strip:=some (spA s x σ).1},(spA s x σ).2)
  |none=>(t,σ)
 else if t.next=3 then (if t.i+1=16 then ({t with i:=t.i+1}:Rn).own else {t with i:=t.i+1},σ.slot t.at' t.i .none)
 else if t.next=4 then (({t with i:=t.i-1}:Rn).gone s,σ.page (t.i-1) .empty)
 else (t.written,σ.page t.i (.body t.head))
def Sim {T:Type} (s:Sh) (r:T×Mem) (a:T×Ab):Prop:=r.1=a.1/\Rep s r.2 a.2
variable {s:Sh}{m:Mem}{σ:Ab}

theorem dI{c a was x:Int}(h:m.get a=was):(m.swap c a was x).ws=m.ws.set a.toNat x:=by unfold Mem.swap;rw[jP h]
theorem jI{c a was x:Int}(h:¬m.get a=was):(m.swap c a was x).ws=m.ws:=by unfold Mem.swap;rw[jN h]
theorem bJ{a b:Int}(h:0<b):0<=a%b/\a%b<b:=⟨Int.emod_nonneg _ (by omega),Int.emod_lt_of_pos _ h⟩
theorem RL{k:Int}(h:0<mA k):0<=k/\k<=3:=by
 unfold mA at h;split at h
 .omega
 split at h
 .omega
 split at h
 .omega
 split at h
 .omega
 omega
theorem Rep.FM(b:Rep s m σ)(f:GI s σ){p i:Int}(j:0<=p/\p<s.p)(hi:0<=i/\i<16){u:SW}(hu:u.fit s):m.get (bB s.p s.c s.m p i)=u.enc↔σ.sl p i=u:=by
 rw[b.sl p i j hi];exact⟨SW.inj b.may (f.sf p i) hu,λe=>by rw[e]⟩
theorem Rep.LX(b:Rep s m σ)(f:GI s σ){p q:Int}(i:0<=p/\p<s.p){u:PW}(hu:u.fit s q):m.get (pA s.p s.c s.m p)=u.enc↔σ.pg p=u:=by
 rw[b.pg p i];exact⟨PW.inj b.may (f.pf p) hu,λe=>by rw[e]⟩
theorem Rep.VX(b:Rep s m σ)(f:GI s σ){c i:Int}(hc:0<=c/\c<s.c)(hi:0<=i/\i<s.m):m.get (kC s.p s.c s.m c i)=0↔σ.mg c i=.none:=by
 rw[b.mg c i hc hi];exact⟨λe=>MW.inj b.may (f.mf c i) (y:=.none) trivial e,λe=>by rw[e];rfl⟩
theorem Rep.read(f:Rep s m σ)(i:GI s σ){p:Int}(j:0<=p/\p<s.p):LA s.p s.c s.m p (m.get (pA s.p s.c s.m p))=true/\PA (m.get (pA s.p s.c s.m p))=(σ.pg p).kind/\nA (m.get (pA s.p s.c s.m p)) 0=(σ.pg p).pa/\nA (m.get (pA s.p s.c s.m p)) 1=(σ.pg p).pb:=by
 rw[f.pg p j];obtain⟨a,b,c⟩:=PW.read f.may (i.pf p);exact⟨PW.MH f.may j (i.pf p),a,b,c⟩
theorem GZ{t:Tk}(b:Rep s m σ)(r:GI s σ)(h:tkOk s t):Sim s (XC s t m) (tkA s t σ):=by
 unfold XC tkA;by_cases hd:t.done=true
 .rw[jP hd,jP hd];exact⟨rfl,b⟩
 rw[jN hd,jN hd];have hc:=h.cl (by simpa using hd);by_cases f:t.hit=true
 .rw[jP f,jP f];exact⟨rfl,b.JO hc.1 hc.2 .none rfl⟩
 rw[jN f,jN f];dsimp only;rw[b.mg _ _ hc.1 hc.2];cases he:σ.mg t.c t.i with
 |none=>rw[jN (λe=>by have:=e.1;rw[show MW.none.enc=0 from rfl,zya]at this;cases this)];exact⟨rfl,b.same rfl⟩
 |entry p i k=>
  have l:=r.mf t.c t.i;rw[he]at l;obtain⟨n,o,q⟩:=MW.read b.may l;rw[MW.MH b.may l,n,o,q];by_cases j:k=t.k
  .rw[jP ⟨rfl,j⟩];dsimp only;rw[jP j];exact⟨rfl,b.same rfl⟩
  rw[jN (λe=>j e.2)];dsimp only;rw[jN j];exact⟨rfl,b.same rfl⟩
theorem yfk{t:Pu}(b:Rep s m σ)(l:GI s σ)(h:puOk s t):Sim s (YC s t m) (puA s t σ):=by
 unfold YC puA;by_cases hd:t.done=true
 .rw[jP hd,jP hd];exact⟨rfl,b⟩
 rw[jN hd,jN hd];have hc:=h.cl (by simpa using hd);by_cases j:t.hit=true
 .rw[jP j,jP j];exact⟨rfl,b.JO hc.1 hc.2 (.entry _ _ _) rfl⟩
 rw[jN j,jN j];dsimp only;by_cases f:σ.mg t.c t.i=.none
 .rw[jP ((b.VX l hc.1 hc.2).2 f),jP f];exact⟨rfl,b.same rfl⟩
 rw[jN (λe=>f ((b.VX l hc.1 hc.2).1 e)),jN f];exact⟨rfl,b.same rfl⟩
theorem yfh{t:Sc}(j:Rep s m σ)(q:GI s σ)(h:scOk s t):Sim s (xD s t m) (scA s t σ):=by
 unfold xD scA;by_cases hd:t.done=true
 .rw[jP hd,jP hd];exact⟨rfl,j⟩
 rw[jN hd,jN hd];obtain⟨c1,c2,c3,c4,c5,c6⟩:=h.cl (by simpa using hd);have o:0<=t.page s/\t.page s<s.p:=bJ (by omega);have r:=RL c2;have hi:0<=t.i/\t.i<16:=by have:=CC t.k;omega
 have l:m.get (bB s.p s.c s.m (t.page s) t.i)=BB t.k↔σ.sl (t.page s) t.i=.opened t.k:=j.FM q o hi (u:=.opened t.k) r;dsimp only;by_cases h0:t.next=0
 .rw[jP h0,jP h0];obtain⟨r1,y,z,_⟩:=j.read q o;rw[r1,y,z];refine⟨?_,j.same rfl⟩;cases σ.pg (t.page s) with
  |super k b=>
   by_cases f:k=t.k
   .rw[jP ⟨rfl,rfl,f⟩];simp[PW.vK,f]
   rw[jN (λe=>f e.2.2)];simp[PW.vK,f]
  |_=>simp[PW.vK,PW.kind]
 rw[jN h0,jN h0];by_cases h1:t.next=1
 .rw[jP h1,jP h1];refine⟨?_,j.same rfl⟩;dsimp only;by_cases e:σ.sl (t.page s) t.i=.opened t.k
  .rw[jP (l.2 e),jP e]
  rw[jN (λn=>e (l.1 n)),jN e]
 rw[jN h1,jN h1];by_cases e:σ.sl (t.page s) t.i=.opened t.k
 .rw[jP (l.2 e),jP e];exact⟨rfl,j.setSlot o hi (.way t.c) (dI (l.2 e))⟩
 rw[jN (λn=>e (l.1 n)),jN e];exact⟨rfl,j.same (jI (λn=>e (l.1 n)))⟩
theorem yel{t:Pc}(i:Rep s m σ)(n:GI s σ)(h:pcOk s t):Sim s (ZD s t m) (pcA s t σ):=by
 unfold ZD pcA;by_cases hd:t.done=true
 .rw[jP hd,jP hd];exact⟨rfl,i⟩
 rw[jN hd,jN hd];obtain⟨c1,c2,c3⟩:=h.cl (by simpa using hd);have l:0<=t.page s/\t.page s<s.p:=bJ (by omega);have b:m.get (pA s.p s.c s.m (t.page s))=0↔_:=i.LX n l (q:=0) (u:=.empty) trivial;dsimp only;by_cases j:t.empty=false
 .rw[jP j,jP j];refine⟨?_,i.same rfl⟩;dsimp only;by_cases e:σ.pg (t.page s)=.empty
  .rw[jP (b.2 e),jP e]
  rw[jN (λf=>e (b.1 f)),jN e]
 rw[jN j,jN j];by_cases e:σ.pg (t.page s)=.empty
 .rw[jP (b.2 e),jP e];exact⟨rfl,i.KE l (.held t.c) (dI (b.2 e))⟩
 rw[jN (λf=>e (b.1 f)),jN e];exact⟨rfl,i.same (jI (λf=>e (b.1 f)))⟩
theorem VT{t:Sp}(b:Rep s m σ)(n:GI s σ)(h:spOk s t):Sim s (SC s t m) (spA s t σ):=by
 unfold SC spA;by_cases hd:t.done=true
 .rw[jP hd,jP hd];exact⟨rfl,b⟩
 rw[jN hd,jN hd];obtain⟨c1,c2,c3,c4,c5⟩:=h.cl (by simpa using hd);have o:=CC t.k;by_cases hb:t.back=true
 .rw[jP hb,jP hb];have:=c5 hb;exact⟨rfl,b.setSlot c2 (by omega) (.opened t.k) rfl⟩
 rw[jN hb,jN hb];by_cases hi:t.i=mA t.k
 .rw[jP hi,jP hi];exact⟨rfl,b.KE c2 (.held t.c) rfl⟩
 rw[jN hi,jN hi];have f:0<=t.i/\t.i<16:=by omega
 have j:m.get (bB s.p s.c s.m t.page t.i)=BB t.k↔σ.sl t.page t.i=.opened t.k:=b.FM n c2 f (u:=.opened t.k) (RL c3);by_cases e:σ.sl t.page t.i=.opened t.k
 .rw[jP (j.2 e),jP e];exact⟨rfl,b.setSlot c2 f (.way t.c) (dI (j.2 e))⟩
 rw[jN (λl=>e (j.1 l)),jN e];exact⟨rfl,b.same (jI (λl=>e (j.1 l)))⟩
theorem yea{t:Bn}(b:Rep s m σ)(h:bnOk s t):Sim s (YD s t m) (bnA s t σ):=by
 unfold YD bnA;by_cases hd:t.done=true
 .rw[jP hd,jP hd];exact⟨rfl,b⟩
 rw[jN hd,jN hd];obtain⟨c1,c2,c3,c4,c5⟩:=h.cl (by simpa using hd);have f:=CC t.k;by_cases hb:t.bound=true
 .rw[jP hb,jP hb];have:=c5 hb;exact⟨rfl,b.setSlot c2 (by omega) (.opened t.k) rfl⟩
 rw[jN hb,jN hb];by_cases hi:t.i=16
 .rw[jP hi,jP hi];exact⟨rfl,b.KE c2 (.super t.k t.c) rfl⟩
 rw[jN hi,jN hi];refine⟨rfl,b.setSlot c2 (by omega) _ ?_⟩;show m.ws.set _ _=_;split<;>rfl
theorem fU{x:Mc}(b:Rep s m σ)(f:GI s σ)(h:mcOk s x):Sim s (yB s x m) (mcA s x σ):=by
 cases x with
 |tk t=>have:=GZ b f (t:=t) h;exact⟨congrArg Mc.tk this.1,this.2⟩
 |sc t=>have:=yfh b f (t:=t) h;exact⟨congrArg Mc.sc this.1,this.2⟩
 |pc t=>have:=yel b f (t:=t) h;exact⟨congrArg Mc.pc this.1,this.2⟩
 |sp t=>have:=VT b f (t:=t) h;exact⟨congrArg Mc.sp this.1,this.2⟩
 |bn t=>have:=yea b (t:=t) h;exact⟨congrArg Mc.bn this.1,this.2⟩
theorem JZ{t:Sk}(f:Rep s m σ)(i:GI s σ)(h:skOk s t):Sim s (AB s t m) (skA s t σ):=by
 unfold AB skA;by_cases hd:t.done=true
 .rw[jP hd,jP hd];exact⟨rfl,f⟩
 rw[jN hd,jN hd];obtain⟨c1,c2,c3,c4,c5⟩:=h.cl (by simpa using hd);cases hn:t.now with
 |some x=>have:=fU f i (c5 x hn).1;dsimp only;rw[this.1];exact⟨rfl,this.2⟩
 |none=>
  have j:0<=t.here s/\t.here s<s.p:=bJ (by omega)
  obtain⟨r1,l,n,_⟩:=f.read i j
  dsimp only
  rw[r1,l,n]
  refine⟨?_,f.same rfl⟩
  cases σ.pg (t.here s) with
  |super k b=>rw[jP ⟨rfl,rfl⟩];rfl
  |_=>simp[PW.kind]
theorem qZ{t:Rn}(f:Rep s m σ)(o:GI s σ)(h:rnOk s t):Sim s (aC s t m) (rnA s t σ):=by
 unfold aC rnA;by_cases hd:t.done=true
 .rw[jP hd,jP hd];exact⟨rfl,f⟩
 rw[jN hd,jN hd];obtain⟨c1,c2,c3,c4,c5,c6,c7,c8,c9,l⟩:=h.cl (by simpa using hd);dsimp only;by_cases h0:t.next=0
 .rw[jP h0,jP h0];have i:0<=t.at'/\t.at'<s.p:=by have:=c6 (by omega);omega
  obtain⟨r1,z,B,_⟩:=f.read o i;rw[r1,z,B];refine⟨?_,f.same rfl⟩;cases σ.pg t.at' with
  |empty=>simp[PW.kind]
  |super k b=>simp[PW.kind,PW.pa]
  |_=>simp[PW.kind]
 rw[jN h0,jN h0];by_cases h1:t.next=1
 .rw[jP h1,jP h1];have i:0<=t.at'/\t.at'<s.p:=by have:=c6 (by omega);omega
  have j:m.get (pA s.p s.c s.m t.at')=0↔_:=f.LX o i (q:=0) (u:=.empty) trivial;by_cases e:σ.pg t.at'=.empty
  .rw[jP (j.2 e),jP e];exact⟨rfl,f.KE i (.held t.c) (dI (j.2 e))⟩
  rw[jN (λn=>e (j.1 n)),jN e];exact⟨rfl,f.same (jI (λn=>e (j.1 n)))⟩
 rw[jN h1,jN h1];by_cases h2:t.next=2
 .rw[jP h2,jP h2];obtain⟨x,y,r,_⟩:=c7 h2;rw[y];have:=VT f o r;dsimp only;rw[this.1];exact⟨rfl,this.2⟩
 rw[jN h2,jN h2];by_cases h3:t.next=3
 .rw[jP h3,jP h3];have i:0<=t.at'/\t.at'<s.p:=by have:=c6 (by omega);omega
  exact⟨rfl,f.setSlot i (c8 h3) .none rfl⟩
 rw[jN h3,jN h3];by_cases h4:t.next=4
 .rw[jP h4,jP h4];have:=c9 h4;have:=c6 (by omega);refine⟨rfl,f.KE (by omega) .empty ?_⟩;show m.ws.set _ (QA 0 0 0)=_;rw[show QA 0 0 0=PW.empty.enc by decide]
 rw[jN h4,jN h4];have:=l (by omega);exact⟨rfl,f.KE (by omega) (.body t.head) rfl⟩
end

section
inductive Bl
 |lar (p n:Int)
 |sm (p i k:Int)
 deriving DecidableEq
def Ab.has (σ:Ab):Bl->Prop
 |.lar p n=>σ.pg p=.large n
 |.sm p i k=>σ.sl p i=.taken k
def Calm (σ σ':Ab):Prop:=∀b,σ'.has b↔σ.has b
def Plus (b:Bl) (σ σ':Ab):Prop:=¬ σ.has b/\∀x,σ'.has x↔(σ.has x\/x=b)
def IH (b:Bl) (σ σ':Ab):Prop:=σ.has b/\∀x,σ'.has x↔(σ.has x/\x≠b)
section

variable {s:Sh}{σ:Ab}{c p:Int}

theorem Calm.refl(σ:Ab):Calm σ σ:=λ_=>.rfl
theorem xP(σ:Ab){q:Int}(v:PW)(n:Int)(h:q≠p):(σ.page p v).has (.lar q n)↔σ.has (.lar q n):=by
 unfold Ab.has;dsimp only;rw[PC _ _ h]
theorem uP(σ:Ab){i q j:Int}(u:SW)(k:Int)(h:¬(q=p/\j=i)):(σ.slot p i u).has (.sm q j k)↔σ.has (.sm q j k):=by
 unfold Ab.has;dsimp only;rw[WD _ _ h]
theorem xG{v:PW}(h1:∀n,v≠.large n)(h2:∀n,σ.pg p≠.large n):Calm σ (σ.page p v):=by
 intro b;cases b with
 |lar q n=>
  by_cases e:q=p
  .subst e;unfold Ab.has;dsimp only;rw[HC];exact⟨λe=>absurd e (h1 n),λe=>absurd e (h2 n)⟩
  exact xP σ v n e
 |sm q i k=>exact .rfl
theorem uG{i:Int}{u:SW}(h1:∀n,u≠.taken n)(h2:∀n,σ.sl p i≠.taken n):Calm σ (σ.slot p i u):=by
 intro b;cases b with
 |lar q n=>exact .rfl;|sm q j k=>
  by_cases e:q=p/\j=i
  .obtain⟨rfl,rfl⟩:=e;unfold Ab.has;dsimp only;rw[pF];exact⟨λe=>absurd e (h1 k),λe=>absurd e (h2 k)⟩
  exact uP σ u k e
theorem mQ{i:Int}{u:MW}:Calm σ (σ.mag c i u):=λb=>by cases b<;>exact .rfl
theorem bX{u:TW}:Calm σ (σ.stat c u):=λb=>by cases b<;>exact .rfl
theorem z1n{n:Int}(h2:∀n,σ.pg p≠.large n):Plus (.lar p n) σ (σ.page p (.large n)):=by
 refine⟨h2 n,λb=>?_⟩;cases b with
 |lar q y=>
  by_cases e:q=p
  .subst e;unfold Ab.has;dsimp only;rw[HC];constructor
   .intro e;injection e with e;subst e;exact .inr rfl
   rintro(e|e)
   .exact absurd e (h2 y)
   injection e with _ e;rw[e]
  rw[xP σ _ y e];exact⟨.inl,λh=>h.elim id λh=>by injection h with h _;exact absurd h e⟩
 |sm q i k=>exact⟨.inl,λh=>h.elim id λh=>by cases h⟩
theorem z1b{i k:Int}(h2:∀n,σ.sl p i≠.taken n):Plus (.sm p i k) σ (σ.slot p i (.taken k)):=by
 refine⟨h2 k,λb=>?_⟩;cases b with
 |lar q n=>exact⟨.inl,λh=>h.elim id λh=>by cases h⟩;|sm q j y=>
  by_cases e:q=p/\j=i
  .obtain⟨rfl,rfl⟩:=e;unfold Ab.has;dsimp only;rw[pF];constructor
   .intro e;injection e with e;subst e;exact .inr rfl
   rintro(e|e)
   .exact absurd e (h2 y)
   injection e with _ _ e;rw[e]
  rw[uP σ _ y e];exact⟨.inl,λh=>h.elim id λh=>by injection h with h f _;exact absurd ⟨h,f⟩ e⟩
theorem zy2{n:Int}{v:PW}(h1:∀n,v≠.large n)(h2:σ.pg p=.large n):IH (.lar p n) σ (σ.page p v):=by
 refine⟨h2,λb=>?_⟩;cases b with
 |lar q y=>
  by_cases e:q=p
  .subst e;unfold Ab.has;dsimp only;rw[HC];constructor
   .intro e;exact absurd e (h1 y)
   rintro⟨e,f⟩;rw[h2]at e;injection e with e;subst e;exact absurd rfl f
  rw[xP σ _ y e];exact⟨λh=>⟨h,λh=>by injection h with h _;exact e h⟩,And.left⟩
 |sm q i k=>exact⟨λh=>⟨h,λh=>by cases h⟩,And.left⟩
theorem zzw{i k:Int}{u:SW}(h1:∀n,u≠.taken n)(h2:σ.sl p i=.taken k):IH (.sm p i k) σ (σ.slot p i u):=by
 refine⟨h2,λb=>?_⟩;cases b with
 |lar q n=>exact⟨λh=>⟨h,λh=>by cases h⟩,And.left⟩;|sm q j y=>
  by_cases e:q=p/\j=i
  .obtain⟨rfl,rfl⟩:=e;unfold Ab.has;dsimp only;rw[pF];constructor
   .intro e;exact absurd e (h1 y)
   rintro⟨e,f⟩;rw[h2]at e;injection e with e;subst e;exact absurd rfl f
  rw[uP σ _ y e];exact⟨λh=>⟨h,λh=>by injection h with h l _;exact e ⟨h,l⟩⟩,And.left⟩
end

def Own.Eqv (a b:Own):Prop:=(∀p,a.h p↔b.h p)/\(∀p g,a.b p g↔b.b p g)/\∀p i k,a.w p i k↔b.w p i k
theorem xA.eqv{σ:Ab}{c:Int}{a b:Own}(h:xA σ c a)(e:a.Eqv b):xA σ c b:=h.eq (λp=>(e.1 p).symm) (λp g=>(e.2.1 p g).symm) (λp i k=>(e.2.2 p i k).symm)
theorem Own.Eqv.refl(a:Own):a.Eqv a:=⟨λ_=>.rfl,λ_ _=>.rfl,λ_ _ _=>.rfl⟩
theorem Own.Eqv.symm{a b:Own}(h:a.Eqv b):b.Eqv a:=⟨λp=>(h.1 p).symm,λp g=>(h.2.1 p g).symm,λp i k=>(h.2.2 p i k).symm⟩
theorem Own.Eqv.trans{a b c:Own}(h:a.Eqv b)(k:b.Eqv c):a.Eqv c:=⟨λp=>(h.1 p).trans (k.1 p),λp g=>(h.2.1 p g).trans (k.2.1 p g),λp i j=>(h.2.2 p i j).trans (k.2.2 p i j)⟩
theorem Own.Eqv.add{a b:Own}(R:Own)(h:a.Eqv b):(R.add a).Eqv (R.add b):=⟨λp=>or_congr .rfl (h.1 p),λp g=>or_congr .rfl (h.2.1 p g),λp i k=>or_congr .rfl (h.2.2 p i k)⟩
theorem Own.Eqv.VG(a b c:Own):((a.add b).add c).Eqv (a.add (b.add c)):=⟨λ_=>or_assoc,λ_ _=>or_assoc,λ_ _ _=>or_assoc⟩
theorem Own.Eqv.kD(a:Own):(a.add .no).Eqv a:=⟨λ_=>or_iff_left id,λ_ _=>or_iff_left id,λ_ _ _=>or_iff_left id⟩
structure Goes {T:Type} (s:Sh) (c:Int) (σ:Ab) (r:T×Ab) (R:Own) (own:T->Own) (I:Ab->T->Prop):Prop where
 kept:Kept s c σ r.2
 ex:xA r.2 c (R.add (own r.1))
 inv:I r.2 r.1
variable {s:Sh}{σ σ':Ab}{c:Int}{R:Own}

theorem Own.oU{a:Own}{p i k:Int}(h:a=Own.way p i k):a.Eqv (Own.no.add (Own.way p i k)):=by
 subst h;exact⟨λ_=>(or_iff_right id).symm,λ_ _=>(or_iff_right id).symm,λ_ _ _=>(or_iff_right id).symm⟩
def KF (t:Tk):Own:=if t.found=true then .way t.ep t.es t.ek else .no
def YG (c:Int) (σ:Ab) (t:Tk):Prop:=t.c=c/\(t.hit=true->t.done=false->σ.mg c t.i=.entry t.ep t.es t.ek)
theorem YG.same{t:Tk}(h:YG c σ t)(hs:Same c σ σ'):YG c σ' t:=⟨h.1,λa b=>(hs.m _).trans (h.2 a b)⟩
theorem SY{t:Tk}(o:GI s σ)(y:tkOk s t)(hd:t.done=false)(n:xA σ c (R.add (KF t)))(hi:YG c σ t):Goes s c σ (tkA s t σ) R KF (YG c)/\Calm σ (tkA s t σ).2  :=by
 obtain⟨rfl,hi⟩:=hi;have j:t.found=false:=VD (λe=>⟨(y.fd e).2,trivial⟩) hd;have z:KF t=.no:=by unfold KF;rw[j];rfl
 rw[z]at n;have r:∀t':Tk,t'.found=false->YG t.c σ t'->Goes s t.c σ (t',σ) R KF (YG t.c)/\Calm σ σ:=λt' h1 h2=>⟨⟨Kept.refl o,by rw[show KF t'=.no by unfold KF;rw[h1];rfl];exact n,h2⟩,Calm.refl _⟩
 unfold tkA;rw[jN (by rw[hd];decide)];by_cases l:t.hit=true
 .rw[jP l];have q:=hi l hd;refine⟨⟨xU o,?_,⟨rfl,λ_ e=>(by cases e)⟩⟩,mQ⟩;exact(znd o n q).eqv (.trans (.VG _ _ _) (.add R (Own.Eqv.symm (Own.oU rfl))))
 rw[jN l];have f:¬t.hit=true:=l;cases q:σ.mg t.c t.i with
 |none=>exact r _ j ⟨rfl,λe=>absurd e f⟩;|entry p i k=>
  dsimp only;by_cases b:k=t.k
  .rw[jP b];exact r _ j ⟨rfl,λ_ _=>q⟩
  rw[jN b];exact r _ j ⟨rfl,λe=>absurd e f⟩
def MF (t:Pu):Own:=if t.put=true then .no else .way t.ep t.es t.ek
def UG (c:Int) (σ:Ab) (t:Pu):Prop:=t.c=c/\(t.hit=true->t.done=false->σ.mg c t.i=.none)/\(t.put=true->t.done=true)
theorem UG.same{t:Pu}(h:UG c σ t)(hs:Same c σ σ'):UG c σ' t:=⟨h.1,λa b=>(hs.m _).trans (h.2.1 a b),h.2.2⟩
theorem z96{t:Pu}(r:GI s σ)(E:puOk s t)(hd:t.done=false)(D:∀H,¬R.w t.ep t.es H)(f:xA σ c (R.add (MF t)))(hi:UG c σ t):Goes s c σ (puA s t σ) R MF (UG c)/\Calm σ (puA s t σ).2  :=by
 obtain⟨rfl,hi⟩:=hi;have j:t.put=false:=by
  cases h:t.put
  .rfl
  rw[hi.2 h]at hd;cases hd
 have F:MF t=.way t.ep t.es t.ek:=by unfold MF;rw[j];rfl
 rw[F]at f;have G:=(f.w t.ep t.es t.ek).2 (.inl (.inr ⟨rfl,rfl,rfl⟩));obtain⟨⟨b,q⟩,hs⟩:=G;have o:=lI f q;unfold puA;rw[jN (by rw[hd];decide)];by_cases n:t.hit=true
 .rw[jP n];have l:=hi.1 n hd;have hc:=E.cl hd;refine⟨⟨zqp r q hs o hc.2,?_,⟨rfl,λ_ e=>(by cases e),λ_=>rfl⟩⟩,mQ⟩;exact(zn8 f D q l).eqv (.symm (.kD R))
 rw[jN n];have y:∀t':Pu,t'.put=false->t'.ep=t.ep->t'.es=t.es->t'.ek=t.ek->UG t.c σ t'->Goes s t.c σ (t',σ) R MF (UG t.c)/\Calm σ σ:=λt' h1 z B C h2=>⟨⟨Kept.refl r,by rw[show MF t'=.way t.ep t.es t.ek by unfold MF;rw[h1,z,B,C];rfl];exact f,h2⟩,Calm.refl _⟩
 by_cases l:σ.mg t.c t.i=.none
 .rw[jP l];exact y _ j rfl rfl rfl ⟨rfl,λ_ _=>l,λe=>(by have e:t.put=true:=e;rw[j]at e;cases e)⟩
 rw[jN l];exact y _ j rfl rfl rfl ⟨rfl,λe=>absurd e n,λe=>(by have e:t.put=true:=e;rw[j]at e;cases e)⟩
def HF (s:Sh) (t:Sc):Own:=if t.found=true then .way (t.page s) t.i t.k else .no
theorem zsw(s:Sh)(t:Sc):(t.turn s).found=t.found/\(t.turn s).c=t.c:=⟨rfl,rfl⟩
theorem RU(s:Sh)(t:Sc):(t.miss s).found=t.found/\(t.miss s).c=t.c:=by unfold Sc.miss;split<;>exact⟨rfl,rfl⟩
theorem FT{σ:Ab}{p i k:Int}(h:σ.sl p i=.opened k):∀n,σ.sl p i≠.taken n:=λn e=>by rw[h]at e;cases e
theorem QY{t:Sc}(j:GI s σ)(q:scOk s t)(hd:t.done=false)(l:xA σ c (R.add (HF s t)))(hi:t.c=c):Goes s c σ (scA s t σ) R (HF s) (λ_ t=>t.c=c)/\Calm σ (scA s t σ).2  :=by
 subst hi;have o:t.found=false:=VD q.fd hd;have y:HF s t=.no:=by unfold HF;rw[o];rfl
 rw[y]at l;have f:∀t':Sc,t'.found=t.found/\t'.c=t.c->Goes s t.c σ (t',σ) R (HF s) (λ_ t0=>t0.c=t.c)/\Calm σ σ:=λt' h=>⟨⟨Kept.refl j,by rw[show HF s t'=.no by unfold HF;rw[h.1,o];rfl];exact l,h.2⟩,Calm.refl _⟩
 have hc:=q.cl hd;unfold scA;rw[jN (by rw[hd];decide)];by_cases h0:t.next=0
 .rw[jP h0];split
  .exact f _ ⟨rfl,rfl⟩
  exact f _ (zsw s t)
 rw[jN h0];by_cases h1:t.next=1
 .rw[jP h1];split
  .exact f _ ⟨rfl,rfl⟩
  exact f _ (RU s t)
 rw[jN h1];by_cases hs:σ.sl (t.page s) t.i=.opened t.k
 .rw[jP hs];obtain⟨⟨b,r⟩,_⟩:=gK j (.inl hs);refine⟨⟨dP j r (.inl hs) hc.1,?_,rfl⟩,uG (λn e=>by cases e) (FT hs)⟩;exact(eP j l r (.inl hs)).eqv (.trans (.VG _ _ _) (.add R (Own.Eqv.symm (Own.oU rfl))))
 rw[jN hs];exact f _ (RU s t)
def LF (s:Sh) (t:Pc):Own:=if t.found=true then .page (t.page s) else .no
theorem Own.sY{a:Own}{p:Int}(h:a=Own.page p):a.Eqv (Own.no.add (Own.page p)):=by
 subst h;exact⟨λ_=>(or_iff_right id).symm,λ_ _=>(or_iff_right id).symm,λ_ _ _=>(or_iff_right id).symm⟩
theorem KY{t:Pc}(f:GI s σ)(l:pcOk s t)(hd:t.done=false)(b:xA σ c (R.add (LF s t)))(hi:t.c=c):Goes s c σ (pcA s t σ) R (LF s) (λ_ t=>t.c=c)/\Calm σ (pcA s t σ).2  :=by
 subst hi;have j:t.found=false:=VD l.fd hd;have o:LF s t=.no:=by unfold LF;rw[j];rfl
 rw[o]at b;have i:∀t':Pc,t'.found=t.found/\t'.c=t.c->Goes s t.c σ (t',σ) R (LF s) (λ_ t0=>t0.c=t.c)/\Calm σ σ:=λt' h=>⟨⟨Kept.refl f,by rw[show LF s t'=.no by unfold LF;rw[h.1,j];rfl];exact b,h.2⟩,Calm.refl _⟩
 have hc:=l.cl hd;have q:0<=t.page s/\t.page s<s.p:=bJ (by omega);unfold pcA;rw[jN (by rw[hd];decide)];by_cases h0:t.empty=false
 .rw[jP h0];split
  .exact i _ ⟨rfl,rfl⟩
  exact i _ ⟨rfl,rfl⟩
 rw[jN h0];by_cases hs:σ.pg (t.page s)=.empty
 .rw[jP hs];refine⟨⟨uU f hs q hc.1,?_,rfl⟩,xG (λn e=>by cases e) (λn e=>by rw[hs]at e;cases e)⟩;exact(tU f b hs).eqv (.trans (.VG _ _ _) (.add R (Own.Eqv.symm (Own.sY rfl))))
 rw[jN hs];exact i _ ⟨rfl,rfl⟩
def AD (t:Sp):Own:=if t.held=true then .page t.page else .ways t.page t.i t.k
def iL (c:Int) (t:Sp):Prop:=t.c=c/\(t.done=true->t.held=false->t.i=0)
theorem Own.XP{p n k:Int}(h:0<=n):((Own.ways p n k).add (Own.way p n k)).Eqv (Own.ways p (n+1) k):=by
 refine⟨λ_=>or_iff_left id,λ_ _=>or_iff_left id,λq i b=>?_⟩;simp only[Own.add,Own.ways,Own.way];omega
theorem QT{t:Sp}(o:GI s σ)(E:spOk s t)(hd:t.done=false)(D:∀i q,¬R.w t.page i q)(r:xA σ c (R.add (AD t)))(hi:iL c t):Goes s c σ (spA s t σ) R AD (λ_ t=>iL c t)/\Calm σ (spA s t σ).2/\(spA s t σ).1.page=t.page  :=by
 obtain⟨rfl,hi⟩:=hi;have C:t.held=false:=VD (λe=>⟨E.fd e,trivial⟩) hd;have I:AD t=.ways t.page t.i t.k:=by unfold AD;rw[C];rfl
 rw[I]at r;obtain⟨c1,c2,c3,c4,c5⟩:=E.cl hd;unfold spA;rw[jN (by rw[hd];decide)];by_cases hb:t.back=true
 .rw[jP hb];have G:=c5 hb;have z:xA σ t.c ((R.add (.ways t.page (t.i-1) t.k)).add (.way t.page (t.i-1) t.k)):=by refine r.eqv (.trans (.add R (.symm ?_)) (.symm (.VG _ _ _)));have:=Own.XP (p:=t.page) (n:=t.i-1) (k:=t.k) (by omega);rwa [show t.i-1+1=t.i by omega]at this
  obtain⟨⟨b,f⟩,hs⟩:=(z.w t.page (t.i-1) t.k).2 (.inl (.inr ⟨rfl,rfl,rfl⟩));have B:∀q,¬(R.add (.ways t.page (t.i-1) t.k)).w t.page (t.i-1) q:=λq e=>by
   rcases e with e|e
   .exact D _ _ e
   have:=e.2.1;omega
  refine⟨⟨II o f hs (.inl rfl) (lI z f),?_,⟨rfl,λe _=>by simpa using e⟩⟩,uG (λn e=>by cases e) (λn e=>by rw[hs]at e;cases e),rfl⟩;have:=PJ (u:=.opened t.k) z B f (.inl rfl);have l:AD {t with i:=t.i-1,done:=decide (t.i-1=0)}=.ways t.page (t.i-1) t.k:=by unfold AD;dsimp only;rw[C];rfl
  dsimp only;rw[l];exact this
 rw[jN hb];by_cases B:t.i=mA t.k
 .rw[jP B];rw[B]at r;have H:=λi h0 h1=>(r.w t.page i t.k).2 (.inl (.inr ⟨rfl,⟨h0,h1⟩,rfl⟩));obtain⟨⟨b,f⟩,_⟩:=H 0 (Int.le_refl _) c3;have F:∀j i q,σ.mg t.c j≠.entry t.page i q:=λj i q e=>by obtain⟨J,l⟩:=wG o e;rw[f]at l;injection l with l _;subst l;have y:=o.mf t.c j;rw[e]at y;exact r.d t.page i t.k j (.inr ⟨rfl,y.2.2,rfl⟩) e
  refine⟨⟨zn2 o f c1 (λi h0 h1=>(H i h0 h1).2) F,?_,⟨rfl,λ_ e=>(by cases e)⟩⟩,xG (λn e=>by cases e) (λn e=>by rw[f]at e;cases e),rfl⟩;exact znl o r f (λi q=>D i q) F
 rw[jN B];by_cases hs:σ.sl t.page t.i=.opened t.k
 .rw[jP hs];obtain⟨⟨b,f⟩,_⟩:=gK o (.inl hs);refine⟨⟨dP o f (.inl hs) c1,?_,⟨rfl,λe=>(by have e:t.done=true:=e;rw[hd]at e;cases e)⟩⟩,uG (λn e=>by cases e) (FT hs),rfl⟩;have l:AD {t with i:=t.i+1}=.ways t.page (t.i+1) t.k:=by unfold AD;dsimp only;rw[C];rfl
  dsimp only;rw[l];exact(eP o r f (.inl hs)).eqv (.trans (.VG _ _ _) (.add R (Own.XP c4.1)))
 rw[jN hs];refine⟨⟨Kept.refl o,?_,⟨rfl,λe _=>by simpa using e⟩⟩,Calm.refl _,rfl⟩;have l:AD {t with back:=true,done:=decide (t.i=0)}=.ways t.page t.i t.k:=by unfold AD;dsimp only;rw[C];rfl
 dsimp only;rw[l];exact r
def BD (t:Bn):Own:=if t.bound=true then .ways t.page (t.i+1) t.k else .page t.page
def pI (c:Int) (σ:Ab) (t:Bn):Prop:=t.c=c/\(t.bound=false->∀j,0<=j->j<t.i->σ.sl t.page j=if j<mA t.k then .way c else .none)/\(t.done=true->t.bound=true/\t.i=0)
theorem pI.same{t:Bn}(h:pI c σ t)(b:t.bound=false->σ.pg t.page=.held c)(hs:Same c σ σ'):pI c σ' t:=⟨h.1,λhb j h0 h1=>(hs.hs _ _ (b hb)).trans (h.2.1 hb j h0 h1),h.2.2⟩
theorem FY{t:Bn}(B:GI s σ)(N:bnOk s t)(hd:t.done=false)(M:¬R.h t.page)(G:∀q,¬R.b q t.page)(H:∀i F,¬R.w t.page i F)(r:xA σ c (R.add (BD t)))(hi:pI c σ t):Goes s c σ (bnA s t σ) R BD (pI c)/\Calm σ (bnA s t σ).2/\(bnA s t σ).1.page=t.page/\(bnA s t σ).1.k=t.k  :=by
 obtain⟨rfl,hi⟩:=hi;obtain⟨c1,c2,c3,c4,c5⟩:=N.cl hd;unfold bnA;rw[jN (by rw[hd];decide)];by_cases hb:t.bound=true
 .rw[jP hb];have L:=c5 hb;have I:BD t=.ways t.page (t.i+1) t.k:=by unfold BD;rw[hb];rfl
  rw[I]at r;have y:xA σ t.c ((R.add (.ways t.page t.i t.k)).add (.way t.page t.i t.k)):=r.eqv (.trans (.add R (.symm (Own.XP (by omega)))) (.symm (.VG _ _ _)));obtain⟨⟨b,f⟩,hs⟩:=(y.w t.page t.i t.k).2 (.inl (.inr ⟨rfl,rfl,rfl⟩));have O:∀F,¬(R.add (.ways t.page t.i t.k)).w t.page t.i F:=λF e=>by
   rcases e with e|e
   .exact H _ _ e
   have:=e.2.1;omega
  refine⟨⟨II B f hs (.inl rfl) (lI y f),?_,⟨rfl,λe=>(by have e:t.bound=false:=e;rw[hb]at e;cases e),λe=>⟨hb,by simpa using e⟩⟩⟩,uG (λn e=>by cases e) (λn e=>by rw[hs]at e;cases e),rfl,rfl⟩;have l:BD {t with i:=t.i-1,done:=decide (t.i-1=0)}=.ways t.page t.i t.k:=by unfold BD;dsimp only;rw[jP hb,show t.i-1+1=t.i by omega]
  dsimp only;rw[l];exact PJ (u:=.opened t.k) y O f (.inl rfl)
 rw[jN hb];have o:t.bound=false:=by simpa using hb
 have I:BD t=.page t.page:=by unfold BD;rw[o];rfl
 rw[I]at r;have f:σ.pg t.page=.held t.c:=(r.h t.page).2 (.inr rfl);have D:∀q,σ.pg q≠.body t.page:=λq e=>by
  rcases(r.b q t.page).1 ⟨e,f⟩ with e|e
  .exact G q e
  exact e
 by_cases C:t.i=16
 .rw[jP C];have E:∀i,σ.sl t.page i=if 0<=i/\i<mA t.k then .way t.c else .none:=λi=>by
   by_cases z:0<=i/\i<16
   .have:=hi.1 o i z.1 (by omega);rw[this];by_cases h1:i<mA t.k
    .rw[jP h1,jP ⟨z.1,h1⟩]
    rw[jN h1,jN (λe=>h1 e.2)]
   have S:=CC t.k;rw[jN (by omega)];rcases NI B f i with e|e
   .exact e
   exact absurd ⟨e.2.1,e.2.2⟩ z
  refine⟨⟨zpg B f (RL c3) E D,?_,⟨rfl,λe=>(by cases e),λe=>(by have e:t.done=true:=e;rw[hd]at e;cases e)⟩⟩,xG (λn e=>by cases e) (λn e=>by rw[f]at e;cases e),rfl,rfl⟩;have l:BD {t with bound:=true,i:=mA t.k-1}=.ways t.page (mA t.k) t.k:=by unfold BD;dsimp only;rw[jP rfl,show mA t.k-1+1=mA t.k by omega]
  dsimp only;rw[l];exact zn3 B r M E D
 rw[jN C];have T:(if t.i<mA t.k then SW.way t.c else SW.none)=.none\/((if t.i<mA t.k then SW.way t.c else SW.none)=.way t.c/\0<=t.i/\t.i<16):=by
  split
  .exact .inr ⟨rfl,by omega,by omega⟩
  exact .inl rfl
 refine⟨⟨mP B f T,?_,⟨rfl,λ_ j h0 h1=>?_,λe=>(by have e:t.done=true:=e;rw[hd]at e;cases e)⟩⟩,uG (λn e=>by split at e<;>cases e) (λn e=>by rcases NI B f t.i with l|l;(rw[l]at e;cases e);(rw[l.1]at e;cases e)),rfl,rfl⟩
 .have l:BD {t with i:=t.i+1}=.page t.page:=by unfold BD;dsimp only;rw[o];rfl
  dsimp only;rw[l];exact zU r f
 dsimp only at h1|-;by_cases J:j=t.i
 .subst J;rw[pF]
 rw[WD _ _ (λe=>J e.2)];exact hi.1 o j h0 (by omega)
end

end Go.Proofs.YtkilokkopbajkaaGreat
