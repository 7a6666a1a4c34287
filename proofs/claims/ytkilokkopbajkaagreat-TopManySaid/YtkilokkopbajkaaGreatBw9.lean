/- Lemmas for the claim. -/
import Derived.Test.YtkilokkopbajkaaGreatBw8

set_option linter.all false
namespace Go.Proofs.YtkilokkopbajkaaGreat

section

def PW.pM (k:Int):PW->Bool
 | .super k' _=> k'==k
 | _=> false
def tkA (s:Sh) (t:Tk) (σ:Ab):Tk × Ab:=
 if t.done=true then (t,σ)
 else if t.hit=true then ({ t with found:=true,done:=true },σ.mag t.c t.i .none)
 else match σ.mg t.c t.i with
  | .entry p i k=> (if k=t.k then { t with ep:=p,es:=i,ek:=k,hit:=true } else { t with i:=t.i + 1,done:=decide (t.i + 1=s.m) },σ)
  | .none=> ({ t with i:=t.i + 1,done:=decide (t.i + 1=s.m) },σ)
def puA (s:Sh) (t:Pu) (σ:Ab):Pu × Ab:=
 if t.done=true then (t,σ)
 else if t.hit=true then ({ t with put:=true,done:=true },σ.mag t.c t.i (.entry t.ep t.es t.ek))
 else (if σ.mg t.c t.i= .none then { t with hit:=true } else { t with i:=t.i + 1,done:=decide (t.i + 1=s.m) },σ)
def scA (s:Sh) (t:Sc) (σ:Ab):Sc × Ab:=
 if t.done=true then (t,σ)
 else if t.next=0 then (if (σ.pg (t.page s)).pM t.k=true then { t with next:=1 } else t.turn s,σ)
 else if t.next=1 then (if σ.sl (t.page s) t.i= .opened t.k then { t with next:=2 } else t.miss s,σ)
 else if σ.sl (t.page s) t.i= .opened t.k then ({ t with found:=true,done:=true },σ.slot (t.page s) t.i (.way t.c)) else (t.miss s,σ)
def pcA (s:Sh) (t:Pc) (σ:Ab):Pc × Ab:=
 if t.done=true then (t,σ)
 else if t.empty=false then (if σ.pg (t.page s)= .empty then { t with empty:=true } else { t with empty:=false,many:=t.many + 1,done:=decide (t.many + 1=s.p) },σ)
 else if σ.pg (t.page s)= .empty then ({ t with found:=true,done:=true },σ.page (t.page s) (.held t.c)) else ({ t with empty:=false,many:=t.many + 1,done:=decide (t.many + 1=s.p) },σ)
def spA (s:Sh) (t:Sp) (σ:Ab):Sp × Ab:=
 if t.done=true then (t,σ)
 else if t.back=true then ({ t with i:=t.i - 1,done:=decide (t.i - 1=0) },σ.slot t.page (t.i - 1) (.opened t.k))
 else if t.i=mA t.k then ({ t with held:=true,done:=true },σ.page t.page (.held t.c))
 else if σ.sl t.page t.i= .opened t.k then ({ t with i:=t.i + 1 },σ.slot t.page t.i (.way t.c)) else ({ t with back:=true,done:=decide (t.i=0) },σ)
def bnA (s:Sh) (t:Bn) (σ:Ab):Bn × Ab:=
 if t.done=true then (t,σ)
 else if t.bound=true then ({ t with i:=t.i - 1,done:=decide (t.i - 1=0) },σ.slot t.page t.i (.opened t.k))
 else if t.i=16 then ({ t with bound:=true,i:=mA t.k - 1 },σ.page t.page (.super t.k t.c))
 else ({ t with i:=t.i + 1 },σ.slot t.page t.i (if t.i < mA t.k then .way t.c else .none))
def mcA (s:Sh):Mc->Ab->Mc × Ab
 | .tk t,σ=> (.tk (tkA s t σ).1,(tkA s t σ).2)
 | .sc t,σ=> (.sc (scA s t σ).1,(scA s t σ).2)
 | .pc t,σ=> (.pc (pcA s t σ).1,(pcA s t σ).2)
 | .sp t,σ=> (.sp (spA s t σ).1,(spA s t σ).2)
 | .bn t,σ=> (.bn (bnA s t σ).1,(bnA s t σ).2)
def skA (s:Sh) (t:Sk) (σ:Ab):Sk × Ab:=
 if t.done=true then (t,σ)
 else match t.now with
  | some x=> (mB s 5 { t with now:=some (mcA s x σ).1 },(mcA s x σ).2)
  | none=> (match σ.pg (t.here s) with | .super k _=> { t with now:=some (.sp (pC s t.c (t.here s) k)) } | _=> t.turn s,σ)
def rnA (s:Sh) (t:Rn) (σ:Ab):Rn × Ab:=
 if t.done=true then (t,σ)
 else if t.next=0 then (match σ.pg t.at' with | .empty=> { t with next:=1 } | .super k _=> { t with next:=2,strip:=some (pC s t.c t.at' k) } | _=> t.miss s,σ)
 else if t.next=1 then (if σ.pg t.at'= .empty then (t.own,σ.page t.at' (.held t.c)) else (t.miss s,σ))
 else if t.next=2 then
  match t.strip with
  | some x=> (if (spA s x σ).1.held=true then { t with strip:=some (spA s x σ).1,next:=3,i:=0 } else if (spA s x σ).1.done=true then ({ t with strip:=some (spA s x σ).1 }:Rn).miss s else { t with strip:=some (spA s x σ).1 },(spA s x σ).2)
  | none=> (t,σ)
 else if t.next=3 then (if t.i + 1=16 then ({ t with i:=t.i + 1 }:Rn).own else { t with i:=t.i + 1 },σ.slot t.at' t.i .none)
 else if t.next=4 then (({ t with i:=t.i - 1 }:Rn).gone s,σ.page (t.i - 1) .empty)
 else (t.written,σ.page t.i (.body t.head))
def Sim {T:Type} (s:Sh) (r:T × Mem) (a:T × Ab):Prop:=r.1=a.1/\Rep s r.2 a.2
variable {s:Sh} {m:Mem} {σ:Ab}

theorem SH{c a was x:Int}(h:m.get a=was):(m.swap c a was x).ws=m.ws.set a.toNat x:=by unfold Mem.swap;rw[jP h]
theorem VH{c a was x:Int}(h:¬ m.get a=was):(m.swap c a was x).ws=m.ws:=by unfold Mem.swap;rw[jN h]
theorem EI{a b:Int}(h:0<b):0<=a%b/\a%b<b:=⟨Int.emod_nonneg _ (by omega),Int.emod_lt_of_pos _ h⟩
theorem eL{k:Int}(h:0<mA k):0<=k/\k<=3:=by
 unfold mA at h;split at h
 ·omega
 split at h
 ·omega
 split at h
 ·omega
 split at h
 ·omega
 omega
theorem Rep.VL(b:Rep s m σ)(f:GI s σ){p i:Int}(j:0<=p/\p<s.p)(hi:0<=i/\i<16){u:SW}(hu:u.fit s):m.get (XA s.p s.c s.m p i)=u.enc↔σ.sl p i=u:=by
 rw[b.sl p i j hi];exact⟨SW.inj b.may (f.sf p i) hu,fun e=>by rw[e]⟩
theorem Rep.qX(b:Rep s m σ)(f:GI s σ){p q:Int}(i:0<=p/\p<s.p){u:PW}(hu:u.fit s q):m.get (pA s.p s.c s.m p)=u.enc↔σ.pg p=u:=by
 rw[b.pg p i];exact⟨PW.inj b.may (f.pf p) hu,fun e=>by rw[e]⟩
theorem Rep.CX(b:Rep s m σ)(f:GI s σ){c i:Int}(hc:0<=c/\c<s.c)(hi:0<=i/\i<s.m):m.get (fC s.p s.c s.m c i)=0↔σ.mg c i= .none:=by
 rw[b.mg c i hc hi];exact⟨fun e=>MW.inj b.may (f.mf c i) (y:= .none) trivial e,fun e=>by rw[e];rfl⟩
theorem Rep.read(f:Rep s m σ)(i:GI s σ){p:Int}(j:0<=p/\p<s.p):MA s.p s.c s.m p (m.get (pA s.p s.c s.m p))=true/\PA (m.get (pA s.p s.c s.m p))=(σ.pg p).kind/\nA (m.get (pA s.p s.c s.m p)) 0=(σ.pg p).pa/\nA (m.get (pA s.p s.c s.m p)) 1=(σ.pg p).pb:=by
 rw[f.pg p j];obtain⟨a,b,c⟩:=PW.read f.may (i.pf p);exact⟨PW.BH f.may j (i.pf p),a,b,c⟩
theorem oZ{t:Tk}(b:Rep s m σ)(r:GI s σ)(h:tkOk s t):Sim s (SC s t m) (tkA s t σ):=by
 unfold SC tkA;by_cases hd:t.done=true
 ·rw[jP hd,jP hd];exact⟨rfl,b⟩
 rw[jN hd,jN hd];have hc:=h.cl (by simpa using hd);by_cases f:t.hit=true
 ·rw[jP f,jP f];exact⟨rfl,b.eO hc.1 hc.2 .none rfl⟩
 rw[jN f,jN f];dsimp only;rw[b.mg _ _ hc.1 hc.2];cases he:σ.mg t.c t.i with
 |none=>rw[jN (fun e=>by have:=e.1;rw[show MW.none.enc=0 from rfl,zya]at this;cases this)];exact⟨rfl,b.same rfl⟩
 |entry p i k=>
  have l:=r.mf t.c t.i;rw[he]at l;obtain⟨n,o,q⟩:=MW.read b.may l;rw[MW.BH b.may l,n,o,q];by_cases j:k=t.k
  ·rw[jP ⟨rfl,j⟩];dsimp only;rw[jP j];exact⟨rfl,b.same rfl⟩
  rw[jN (fun e=>j e.2)];dsimp only;rw[jN j];exact⟨rfl,b.same rfl⟩
theorem yfk{t:Pu}(b:Rep s m σ)(l:GI s σ)(h:puOk s t):Sim s (TC s t m) (puA s t σ):=by
 unfold TC puA;by_cases hd:t.done=true
 ·rw[jP hd,jP hd];exact⟨rfl,b⟩
 rw[jN hd,jN hd];have hc:=h.cl (by simpa using hd);by_cases j:t.hit=true
 ·rw[jP j,jP j];exact⟨rfl,b.eO hc.1 hc.2 (.entry _ _ _) rfl⟩
 rw[jN j,jN j];dsimp only;by_cases f:σ.mg t.c t.i= .none
 ·rw[jP ((b.CX l hc.1 hc.2).2 f),jP f];exact⟨rfl,b.same rfl⟩
 rw[jN (fun e=>f ((b.CX l hc.1 hc.2).1 e)),jN f];exact⟨rfl,b.same rfl⟩
theorem yfh{t:Sc}(j:Rep s m σ)(q:GI s σ)(h:scOk s t):Sim s (pD s t m) (scA s t σ):=by
 unfold pD scA;by_cases hd:t.done=true
 ·rw[jP hd,jP hd];exact⟨rfl,j⟩
 rw[jN hd,jN hd];obtain⟨c1,c2,c3,c4,c5,c6⟩:=h.cl (by simpa using hd);have o:0<=t.page s/\t.page s<s.p:=EI (by omega);have r:=eL c2;have hi:0<=t.i/\t.i<16:=by have:=CC t.k;omega
 have l:m.get (XA s.p s.c s.m (t.page s) t.i)=xB t.k↔σ.sl (t.page s) t.i= .opened t.k:=j.VL q o hi (u:= .opened t.k) r;dsimp only;by_cases h0:t.next=0
 ·rw[jP h0,jP h0];obtain⟨r1,y,z,_⟩:=j.read q o;rw[r1,y,z];refine⟨?_,j.same rfl⟩;cases σ.pg (t.page s) with
  |super k b=>
   by_cases f:k=t.k
   ·rw[jP ⟨rfl,rfl,f⟩];simp[PW.pM,f]
   rw[jN (fun e=>f e.2.2)];simp[PW.pM,f]
  |_=>simp[PW.pM,PW.kind]
 rw[jN h0,jN h0];by_cases h1:t.next=1
 ·rw[jP h1,jP h1];refine⟨?_,j.same rfl⟩;dsimp only;by_cases e:σ.sl (t.page s) t.i= .opened t.k
  ·rw[jP (l.2 e),jP e]
  rw[jN (fun n=>e (l.1 n)),jN e]
 rw[jN h1,jN h1];by_cases e:σ.sl (t.page s) t.i= .opened t.k
 ·rw[jP (l.2 e),jP e];exact⟨rfl,j.setSlot o hi (.way t.c) (SH (l.2 e))⟩
 rw[jN (fun n=>e (l.1 n)),jN e];exact⟨rfl,j.same (VH (fun n=>e (l.1 n)))⟩
theorem VZ{t:Pc}(i:Rep s m σ)(n:GI s σ)(h:pcOk s t):Sim s (TD s t m) (pcA s t σ):=by
 unfold TD pcA;by_cases hd:t.done=true
 ·rw[jP hd,jP hd];exact⟨rfl,i⟩
 rw[jN hd,jN hd];obtain⟨c1,c2,c3⟩:=h.cl (by simpa using hd);have l:0<=t.page s/\t.page s<s.p:=EI (by omega);have b:m.get (pA s.p s.c s.m (t.page s))=0↔_:=i.qX n l (q:=0) (u:= .empty) trivial;dsimp only;by_cases j:t.empty=false
 ·rw[jP j,jP j];refine⟨?_,i.same rfl⟩;dsimp only;by_cases e:σ.pg (t.page s)= .empty
  ·rw[jP (b.2 e),jP e]
  rw[jN (fun f=>e (b.1 f)),jN e]
 rw[jN j,jN j];by_cases e:σ.pg (t.page s)= .empty
 ·rw[jP (b.2 e),jP e];exact⟨rfl,i.GE l (.held t.c) (SH (b.2 e))⟩
 rw[jN (fun f=>e (b.1 f)),jN e];exact⟨rfl,i.same (VH (fun f=>e (b.1 f)))⟩
theorem DT{t:Sp}(b:Rep s m σ)(n:GI s σ)(h:spOk s t):Sim s (LC s t m) (spA s t σ):=by
 unfold LC spA;by_cases hd:t.done=true
 ·rw[jP hd,jP hd];exact⟨rfl,b⟩
 rw[jN hd,jN hd];obtain⟨c1,c2,c3,c4,c5⟩:=h.cl (by simpa using hd);have o:=CC t.k;by_cases hb:t.back=true
 ·rw[jP hb,jP hb];have:=c5 hb;exact⟨rfl,b.setSlot c2 (by omega) (.opened t.k) rfl⟩
 rw[jN hb,jN hb];by_cases hi:t.i=mA t.k
 ·rw[jP hi,jP hi];exact⟨rfl,b.GE c2 (.held t.c) rfl⟩
 rw[jN hi,jN hi];have f:0<=t.i/\t.i<16:=by omega
 have j:m.get (XA s.p s.c s.m t.page t.i)=xB t.k↔σ.sl t.page t.i= .opened t.k:=b.VL n c2 f (u:= .opened t.k) (eL c3);by_cases e:σ.sl t.page t.i= .opened t.k
 ·rw[jP (j.2 e),jP e];exact⟨rfl,b.setSlot c2 f (.way t.c) (SH (j.2 e))⟩
 rw[jN (fun l=>e (j.1 l)),jN e];exact⟨rfl,b.same (VH (fun l=>e (j.1 l)))⟩
theorem PZ{t:Bn}(b:Rep s m σ)(h:bnOk s t):Sim s (SD s t m) (bnA s t σ):=by
 unfold SD bnA;by_cases hd:t.done=true
 ·rw[jP hd,jP hd];exact⟨rfl,b⟩
 rw[jN hd,jN hd];obtain⟨c1,c2,c3,c4,c5⟩:=h.cl (by simpa using hd);have f:=CC t.k;by_cases hb:t.bound=true
 ·rw[jP hb,jP hb];have:=c5 hb;exact⟨rfl,b.setSlot c2 (by omega) (.opened t.k) rfl⟩
 rw[jN hb,jN hb];by_cases hi:t.i=16
 ·rw[jP hi,jP hi];exact⟨rfl,b.GE c2 (.super t.k t.c) rfl⟩
 rw[jN hi,jN hi];refine⟨rfl,b.setSlot c2 (by omega) _ ?_⟩;show m.ws.set _ _=_;split<;>rfl
theorem MT{x:Mc}(b:Rep s m σ)(f:GI s σ)(h:mcOk s x):Sim s (pB s x m) (mcA s x σ):=by
 cases x with
 |tk t=>have:=oZ b f (t:=t) h;exact⟨congrArg Mc.tk this.1,this.2⟩
 |sc t=>have:=yfh b f (t:=t) h;exact⟨congrArg Mc.sc this.1,this.2⟩
 |pc t=>have:=VZ b f (t:=t) h;exact⟨congrArg Mc.pc this.1,this.2⟩
 |sp t=>have:=DT b f (t:=t) h;exact⟨congrArg Mc.sp this.1,this.2⟩
 |bn t=>have:=PZ b (t:=t) h;exact⟨congrArg Mc.bn this.1,this.2⟩
theorem rZ{t:Sk}(f:Rep s m σ)(i:GI s σ)(h:skOk s t):Sim s (uB s t m) (skA s t σ):=by
 unfold uB skA;by_cases hd:t.done=true
 ·rw[jP hd,jP hd];exact⟨rfl,f⟩
 rw[jN hd,jN hd];obtain⟨c1,c2,c3,c4,c5⟩:=h.cl (by simpa using hd);cases hn:t.now with
 |some x=>have:=MT f i (c5 x hn).1;dsimp only;rw[this.1];exact⟨rfl,this.2⟩
 |none=>
  have j:0<=t.here s/\t.here s<s.p:=EI (by omega)
  obtain⟨r1,l,n,_⟩:=f.read i j
  dsimp only
  rw[r1,l,n]
  refine⟨?_,f.same rfl⟩
  cases σ.pg (t.here s) with
  |super k b=>rw[jP ⟨rfl,rfl⟩];rfl
  |_=>simp[PW.kind]
theorem XY{t:Rn}(f:Rep s m σ)(o:GI s σ)(h:rnOk s t):Sim s (VB s t m) (rnA s t σ):=by
 unfold VB rnA;by_cases hd:t.done=true
 ·rw[jP hd,jP hd];exact⟨rfl,f⟩
 rw[jN hd,jN hd];obtain⟨c1,c2,c3,c4,c5,c6,c7,c8,c9,l⟩:=h.cl (by simpa using hd);dsimp only;by_cases h0:t.next=0
 ·rw[jP h0,jP h0];have i:0<=t.at'/\t.at'<s.p:=by have:=c6 (by omega);omega
  obtain⟨r1,z,B,_⟩:=f.read o i;rw[r1,z,B];refine⟨?_,f.same rfl⟩;cases σ.pg t.at' with
  |empty=>simp[PW.kind]
  |super k b=>simp[PW.kind,PW.pa]
  |_=>simp[PW.kind]
 rw[jN h0,jN h0];by_cases h1:t.next=1
 ·rw[jP h1,jP h1];have i:0<=t.at'/\t.at'<s.p:=by have:=c6 (by omega);omega
  have j:m.get (pA s.p s.c s.m t.at')=0↔_:=f.qX o i (q:=0) (u:= .empty) trivial;by_cases e:σ.pg t.at'= .empty
  ·rw[jP (j.2 e),jP e];exact⟨rfl,f.GE i (.held t.c) (SH (j.2 e))⟩
  rw[jN (fun n=>e (j.1 n)),jN e];exact⟨rfl,f.same (VH (fun n=>e (j.1 n)))⟩
 rw[jN h1,jN h1];by_cases h2:t.next=2
 ·rw[jP h2,jP h2];obtain⟨x,y,r,_⟩:=c7 h2;rw[y];have:=DT f o r;dsimp only;rw[this.1];exact⟨rfl,this.2⟩
 rw[jN h2,jN h2];by_cases h3:t.next=3
 ·rw[jP h3,jP h3];have i:0<=t.at'/\t.at'<s.p:=by have:=c6 (by omega);omega
  exact⟨rfl,f.setSlot i (c8 h3) .none rfl⟩
 rw[jN h3,jN h3];by_cases h4:t.next=4
 ·rw[jP h4,jP h4];have:=c9 h4;have:=c6 (by omega);refine⟨rfl,f.GE (by omega) .empty ?_⟩;show m.ws.set _ (UA 0 0 0)=_;rw[show UA 0 0 0=PW.empty.enc by decide]
 rw[jN h4,jN h4];have:=l (by omega);exact⟨rfl,f.GE (by omega) (.body t.head) rfl⟩
end

section
inductive Bl
 | lar (p n:Int)
 | sm (p i k:Int)
 deriving DecidableEq
def Ab.has (σ:Ab):Bl->Prop
 | .lar p n=> σ.pg p= .large n
 | .sm p i k=> σ.sl p i= .taken k
def Calm (σ σ':Ab):Prop:=∀ b,σ'.has b↔σ.has b
def Plus (b:Bl) (σ σ':Ab):Prop:=¬ σ.has b/\∀ x,σ'.has x↔(σ.has x\/x=b)
def xH (b:Bl) (σ σ':Ab):Prop:=σ.has b/\∀ x,σ'.has x↔(σ.has x/\x≠b)
section

variable {s:Sh} {σ:Ab} {c p:Int}

theorem Calm.refl(σ:Ab):Calm σ σ:=fun _=>.rfl
theorem NO(σ:Ab){q:Int}(v:PW)(n:Int)(h:q≠p):(σ.page p v).has (.lar q n)↔σ.has (.lar q n):=by
 unfold Ab.has;dsimp only;rw[IC _ _ h]
theorem LO(σ:Ab){i q j:Int}(u:SW)(k:Int)(h:¬ (q=p/\j=i)):(σ.slot p i u).has (.sm q j k)↔σ.has (.sm q j k):=by
 unfold Ab.has;dsimp only;rw[OD _ _ h]
theorem nG{v:PW}(h1:∀ n,v≠ .large n)(h2:∀ n,σ.pg p≠ .large n):Calm σ (σ.page p v):=by
 intro b;cases b with
 |lar q n=>
  by_cases e:q=p
  ·subst e;unfold Ab.has;dsimp only;rw[AC];exact⟨fun e=>absurd e (h1 n),fun e=>absurd e (h2 n)⟩
  exact NO σ v n e
 |sm q i k=>exact .rfl
theorem iG{i:Int}{u:SW}(h1:∀ n,u≠ .taken n)(h2:∀ n,σ.sl p i≠ .taken n):Calm σ (σ.slot p i u):=by
 intro b;cases b with
 |lar q n=>exact .rfl;|sm q j k=>
  by_cases e:q=p/\j=i
  ·obtain⟨rfl,rfl⟩:=e;unfold Ab.has;dsimp only;rw[dF];exact⟨fun e=>absurd e (h1 k),fun e=>absurd e (h2 k)⟩
  exact LO σ u k e
theorem NP{i:Int}{u:MW}:Calm σ (σ.mag c i u):=fun b=>by cases b<;>exact .rfl
theorem FW{u:TW}:Calm σ (σ.stat c u):=fun b=>by cases b<;>exact .rfl
theorem z1n{n:Int}(h2:∀ n,σ.pg p≠ .large n):Plus (.lar p n) σ (σ.page p (.large n)):=by
 refine⟨h2 n,fun b=>?_⟩;cases b with
 |lar q y=>
  by_cases e:q=p
  ·subst e;unfold Ab.has;dsimp only;rw[AC];constructor
   ·intro e;injection e with e;subst e;exact .inr rfl
   rintro(e|e)
   ·exact absurd e (h2 y)
   injection e with _ e;rw[e]
  rw[NO σ _ y e];exact⟨.inl,fun h=>h.elim id fun h=>by injection h with h _;exact absurd h e⟩
 |sm q i k=>exact⟨.inl,fun h=>h.elim id fun h=>by cases h⟩
theorem z1b{i k:Int}(h2:∀ n,σ.sl p i≠ .taken n):Plus (.sm p i k) σ (σ.slot p i (.taken k)):=by
 refine⟨h2 k,fun b=>?_⟩;cases b with
 |lar q n=>exact⟨.inl,fun h=>h.elim id fun h=>by cases h⟩;|sm q j y=>
  by_cases e:q=p/\j=i
  ·obtain⟨rfl,rfl⟩:=e;unfold Ab.has;dsimp only;rw[dF];constructor
   ·intro e;injection e with e;subst e;exact .inr rfl
   rintro(e|e)
   ·exact absurd e (h2 y)
   injection e with _ _ e;rw[e]
  rw[LO σ _ y e];exact⟨.inl,fun h=>h.elim id fun h=>by injection h with h f _;exact absurd ⟨h,f⟩ e⟩
theorem zy2{n:Int}{v:PW}(h1:∀ n,v≠ .large n)(h2:σ.pg p= .large n):xH (.lar p n) σ (σ.page p v):=by
 refine⟨h2,fun b=>?_⟩;cases b with
 |lar q y=>
  by_cases e:q=p
  ·subst e;unfold Ab.has;dsimp only;rw[AC];constructor
   ·intro e;exact absurd e (h1 y)
   rintro⟨e,f⟩;rw[h2]at e;injection e with e;subst e;exact absurd rfl f
  rw[NO σ _ y e];exact⟨fun h=>⟨h,fun h=>by injection h with h _;exact e h⟩,And.left⟩
 |sm q i k=>exact⟨fun h=>⟨h,fun h=>by cases h⟩,And.left⟩
theorem zzw{i k:Int}{u:SW}(h1:∀ n,u≠ .taken n)(h2:σ.sl p i= .taken k):xH (.sm p i k) σ (σ.slot p i u):=by
 refine⟨h2,fun b=>?_⟩;cases b with
 |lar q n=>exact⟨fun h=>⟨h,fun h=>by cases h⟩,And.left⟩;|sm q j y=>
  by_cases e:q=p/\j=i
  ·obtain⟨rfl,rfl⟩:=e;unfold Ab.has;dsimp only;rw[dF];constructor
   ·intro e;exact absurd e (h1 y)
   rintro⟨e,f⟩;rw[h2]at e;injection e with e;subst e;exact absurd rfl f
  rw[LO σ _ y e];exact⟨fun h=>⟨h,fun h=>by injection h with h l _;exact e ⟨h,l⟩⟩,And.left⟩
end

def Own.Eqv (a b:Own):Prop:=(∀ p,a.h p↔b.h p)/\(∀ p g,a.b p g↔b.b p g)/\∀ p i k,a.w p i k↔b.w p i k
theorem uA.eqv{σ:Ab}{c:Int}{a b:Own}(h:uA σ c a)(e:a.Eqv b):uA σ c b:=h.eq (fun p=>(e.1 p).symm) (fun p g=>(e.2.1 p g).symm) (fun p i k=>(e.2.2 p i k).symm)
theorem Own.Eqv.refl(a:Own):a.Eqv a:=⟨fun _=>.rfl,fun _ _=>.rfl,fun _ _ _=>.rfl⟩
theorem Own.Eqv.symm{a b:Own}(h:a.Eqv b):b.Eqv a:=⟨fun p=>(h.1 p).symm,fun p g=>(h.2.1 p g).symm,fun p i k=>(h.2.2 p i k).symm⟩
theorem Own.Eqv.trans{a b c:Own}(h:a.Eqv b)(k:b.Eqv c):a.Eqv c:=⟨fun p=>(h.1 p).trans (k.1 p),fun p g=>(h.2.1 p g).trans (k.2.1 p g),fun p i j=>(h.2.2 p i j).trans (k.2.2 p i j)⟩
theorem Own.Eqv.add{a b:Own}(R:Own)(h:a.Eqv b):(R.add a).Eqv (R.add b):=⟨fun p=>or_congr .rfl (h.1 p),fun p g=>or_congr .rfl (h.2.1 p g),fun p i k=>or_congr .rfl (h.2.2 p i k)⟩
theorem Own.Eqv.OG(a b c:Own):((a.add b).add c).Eqv (a.add (b.add c)):=⟨fun _=>or_assoc,fun _ _=>or_assoc,fun _ _ _=>or_assoc⟩
theorem Own.Eqv.bD(a:Own):(a.add .no).Eqv a:=⟨fun _=>or_iff_left id,fun _ _=>or_iff_left id,fun _ _ _=>or_iff_left id⟩
structure Goes {T:Type} (s:Sh) (c:Int) (σ:Ab) (r:T × Ab) (R:Own) (own:T->Own) (I:Ab->T->Prop):Prop where
 kept:Kept s c σ r.2
 ex:uA r.2 c (R.add (own r.1))
 inv:I r.2 r.1
variable {s:Sh} {σ σ':Ab} {c:Int} {R:Own}

theorem Own.UT{a:Own}{p i k:Int}(h:a=Own.way p i k):a.Eqv (Own.no.add (Own.way p i k)):=by
 subst h;exact⟨fun _=>(or_iff_right id).symm,fun _ _=>(or_iff_right id).symm,fun _ _ _=>(or_iff_right id).symm⟩
def xF (t:Tk):Own:=if t.found=true then .way t.ep t.es t.ek else .no
def RG (c:Int) (σ:Ab) (t:Tk):Prop:=t.c=c/\(t.hit=true->t.done=false->σ.mg c t.i= .entry t.ep t.es t.ek)
theorem RG.same{t:Tk}(h:RG c σ t)(hs:Same c σ σ'):RG c σ' t:=⟨h.1,fun a b=>(hs.m _).trans (h.2 a b)⟩
theorem CY{t:Tk}(o:GI s σ)(y:tkOk s t)(hd:t.done=false)(n:uA σ c (R.add (xF t)))(hi:RG c σ t):Goes s c σ (tkA s t σ) R xF (RG c)/\Calm σ (tkA s t σ).2  :=by
 obtain⟨rfl,hi⟩:=hi;have j:t.found=false:=ND (fun e=>⟨(y.fd e).2,trivial⟩) hd;have z:xF t= .no:=by unfold xF;rw[j];rfl
 rw[z]at n;have r:∀ t':Tk,t'.found=false->RG t.c σ t'->Goes s t.c σ (t',σ) R xF (RG t.c)/\Calm σ σ:=fun t' h1 h2=>⟨⟨Kept.refl o,by rw[show xF t'= .no by unfold xF;rw[h1];rfl];exact n,h2⟩,Calm.refl _⟩
 unfold tkA;rw[jN (by rw[hd];decide)];by_cases l:t.hit=true
 ·rw[jP l];have q:=hi l hd;refine⟨⟨cU o,?_,⟨rfl,fun _ e=>(by cases e)⟩⟩,NP⟩;exact(znd o n q).eqv (.trans (.OG _ _ _) (.add R (Own.Eqv.symm (Own.UT rfl))))
 rw[jN l];have f:¬ t.hit=true:=l;cases q:σ.mg t.c t.i with
 |none=>exact r _ j ⟨rfl,fun e=>absurd e f⟩;|entry p i k=>
  dsimp only;by_cases b:k=t.k
  ·rw[jP b];exact r _ j ⟨rfl,fun _ _=>q⟩
  rw[jN b];exact r _ j ⟨rfl,fun e=>absurd e f⟩
def AF (t:Pu):Own:=if t.put=true then .no else .way t.ep t.es t.ek
def NG (c:Int) (σ:Ab) (t:Pu):Prop:=t.c=c/\(t.hit=true->t.done=false->σ.mg c t.i= .none)/\(t.put=true->t.done=true)
theorem NG.same{t:Pu}(h:NG c σ t)(hs:Same c σ σ'):NG c σ' t:=⟨h.1,fun a b=>(hs.m _).trans (h.2.1 a b),h.2.2⟩
theorem z96{t:Pu}(r:GI s σ)(E:puOk s t)(hd:t.done=false)(D:∀ H,¬ R.w t.ep t.es H)(f:uA σ c (R.add (AF t)))(hi:NG c σ t):Goes s c σ (puA s t σ) R AF (NG c)/\Calm σ (puA s t σ).2  :=by
 obtain⟨rfl,hi⟩:=hi;have j:t.put=false:=by
  cases h:t.put
  ·rfl
  rw[hi.2 h]at hd;cases hd
 have F:AF t= .way t.ep t.es t.ek:=by unfold AF;rw[j];rfl
 rw[F]at f;have G:=(f.w t.ep t.es t.ek).2 (.inl (.inr ⟨rfl,rfl,rfl⟩));obtain⟨⟨b,q⟩,hs⟩:=G;have o:=WH f q;unfold puA;rw[jN (by rw[hd];decide)];by_cases n:t.hit=true
 ·rw[jP n];have l:=hi.1 n hd;have hc:=E.cl hd;refine⟨⟨zqp r q hs o hc.2,?_,⟨rfl,fun _ e=>(by cases e),fun _=>rfl⟩⟩,NP⟩;exact(zn8 f D q l).eqv (.symm (.bD R))
 rw[jN n];have y:∀ t':Pu,t'.put=false->t'.ep=t.ep->t'.es=t.es->t'.ek=t.ek->NG t.c σ t'->Goes s t.c σ (t',σ) R AF (NG t.c)/\Calm σ σ:=fun t' h1 z B C h2=>⟨⟨Kept.refl r,by rw[show AF t'= .way t.ep t.es t.ek by unfold AF;rw[h1,z,B,C];rfl];exact f,h2⟩,Calm.refl _⟩
 by_cases l:σ.mg t.c t.i= .none
 ·rw[jP l];exact y _ j rfl rfl rfl ⟨rfl,fun _ _=>l,fun e=>(by have e:t.put=true:=e;rw[j]at e;cases e)⟩
 rw[jN l];exact y _ j rfl rfl rfl ⟨rfl,fun e=>absurd e n,fun e=>(by have e:t.put=true:=e;rw[j]at e;cases e)⟩
def sF (s:Sh) (t:Sc):Own:=if t.found=true then .way (t.page s) t.i t.k else .no
theorem zsw(s:Sh)(t:Sc):(t.turn s).found=t.found/\(t.turn s).c=t.c:=⟨rfl,rfl⟩
theorem zU(s:Sh)(t:Sc):(t.miss s).found=t.found/\(t.miss s).c=t.c:=by unfold Sc.miss;split<;>exact⟨rfl,rfl⟩
theorem WS{σ:Ab}{p i k:Int}(h:σ.sl p i= .opened k):∀ n,σ.sl p i≠ .taken n:=fun n e=>by rw[h]at e;cases e
theorem AY{t:Sc}(j:GI s σ)(q:scOk s t)(hd:t.done=false)(l:uA σ c (R.add (sF s t)))(hi:t.c=c):Goes s c σ (scA s t σ) R (sF s) (fun _ t=>t.c=c)/\Calm σ (scA s t σ).2  :=by
 subst hi;have o:t.found=false:=ND q.fd hd;have y:sF s t= .no:=by unfold sF;rw[o];rfl
 rw[y]at l;have f:∀ t':Sc,t'.found=t.found/\t'.c=t.c->Goes s t.c σ (t',σ) R (sF s) (fun _ t0=>t0.c=t.c)/\Calm σ σ:=fun t' h=>⟨⟨Kept.refl j,by rw[show sF s t'= .no by unfold sF;rw[h.1,o];rfl];exact l,h.2⟩,Calm.refl _⟩
 have hc:=q.cl hd;unfold scA;rw[jN (by rw[hd];decide)];by_cases h0:t.next=0
 ·rw[jP h0];split
  ·exact f _ ⟨rfl,rfl⟩
  exact f _ (zsw s t)
 rw[jN h0];by_cases h1:t.next=1
 ·rw[jP h1];split
  ·exact f _ ⟨rfl,rfl⟩
  exact f _ (zU s t)
 rw[jN h1];by_cases hs:σ.sl (t.page s) t.i= .opened t.k
 ·rw[jP hs];obtain⟨⟨b,r⟩,_⟩:=CJ j (.inl hs);refine⟨⟨yO j r (.inl hs) hc.1,?_,rfl⟩,iG (fun n e=>by cases e) (WS hs)⟩;exact(zO j l r (.inl hs)).eqv (.trans (.OG _ _ _) (.add R (Own.Eqv.symm (Own.UT rfl))))
 rw[jN hs];exact f _ (zU s t)
def yF (s:Sh) (t:Pc):Own:=if t.found=true then .page (t.page s) else .no
theorem Own.TX{a:Own}{p:Int}(h:a=Own.page p):a.Eqv (Own.no.add (Own.page p)):=by
 subst h;exact⟨fun _=>(or_iff_right id).symm,fun _ _=>(or_iff_right id).symm,fun _ _ _=>(or_iff_right id).symm⟩
theorem uY{t:Pc}(f:GI s σ)(l:pcOk s t)(hd:t.done=false)(b:uA σ c (R.add (yF s t)))(hi:t.c=c):Goes s c σ (pcA s t σ) R (yF s) (fun _ t=>t.c=c)/\Calm σ (pcA s t σ).2  :=by
 subst hi;have j:t.found=false:=ND l.fd hd;have o:yF s t= .no:=by unfold yF;rw[j];rfl
 rw[o]at b;have i:∀ t':Pc,t'.found=t.found/\t'.c=t.c->Goes s t.c σ (t',σ) R (yF s) (fun _ t0=>t0.c=t.c)/\Calm σ σ:=fun t' h=>⟨⟨Kept.refl f,by rw[show yF s t'= .no by unfold yF;rw[h.1,j];rfl];exact b,h.2⟩,Calm.refl _⟩
 have hc:=l.cl hd;have q:0<=t.page s/\t.page s<s.p:=EI (by omega);unfold pcA;rw[jN (by rw[hd];decide)];by_cases h0:t.empty=false
 ·rw[jP h0];split
  ·exact i _ ⟨rfl,rfl⟩
  exact i _ ⟨rfl,rfl⟩
 rw[jN h0];by_cases hs:σ.pg (t.page s)= .empty
 ·rw[jP hs];refine⟨⟨aU f hs q hc.1,?_,rfl⟩,nG (fun n e=>by cases e) (fun n e=>by rw[hs]at e;cases e)⟩;exact(ZT f b hs).eqv (.trans (.OG _ _ _) (.add R (Own.Eqv.symm (Own.TX rfl))))
 rw[jN hs];exact i _ ⟨rfl,rfl⟩
def uD (t:Sp):Own:=if t.held=true then .page t.page else .ways t.page t.i t.k
def BK (c:Int) (t:Sp):Prop:=t.c=c/\(t.done=true->t.held=false->t.i=0)
theorem Own.CP{p n k:Int}(h:0<=n):((Own.ways p n k).add (Own.way p n k)).Eqv (Own.ways p (n+1) k):=by
 refine⟨fun _=>or_iff_left id,fun _ _=>or_iff_left id,fun q i b=>?_⟩;simp only[Own.add,Own.ways,Own.way];omega
theorem xT{t:Sp}(o:GI s σ)(E:spOk s t)(hd:t.done=false)(D:∀ i q,¬ R.w t.page i q)(r:uA σ c (R.add (uD t)))(hi:BK c t):Goes s c σ (spA s t σ) R uD (fun _ t=>BK c t)/\Calm σ (spA s t σ).2/\(spA s t σ).1.page=t.page  :=by
 obtain⟨rfl,hi⟩:=hi;have C:t.held=false:=ND (fun e=>⟨E.fd e,trivial⟩) hd;have I:uD t= .ways t.page t.i t.k:=by unfold uD;rw[C];rfl
 rw[I]at r;obtain⟨c1,c2,c3,c4,c5⟩:=E.cl hd;unfold spA;rw[jN (by rw[hd];decide)];by_cases hb:t.back=true
 ·rw[jP hb];have G:=c5 hb;have z:uA σ t.c ((R.add (.ways t.page (t.i-1) t.k)).add (.way t.page (t.i-1) t.k)):=by refine r.eqv (.trans (.add R (.symm ?_)) (.symm (.OG _ _ _)));have:=Own.CP (p:=t.page) (n:=t.i-1) (k:=t.k) (by omega);rwa [show t.i-1+1=t.i by omega]at this
  obtain⟨⟨b,f⟩,hs⟩:=(z.w t.page (t.i-1) t.k).2 (.inl (.inr ⟨rfl,rfl,rfl⟩));have B:∀ q,¬ (R.add (.ways t.page (t.i-1) t.k)).w t.page (t.i-1) q:=fun q e=>by
   rcases e with e|e
   ·exact D _ _ e
   have:=e.2.1;omega
  refine⟨⟨mI o f hs (.inl rfl) (WH z f),?_,⟨rfl,fun e _=>by simpa using e⟩⟩,iG (fun n e=>by cases e) (fun n e=>by rw[hs]at e;cases e),rfl⟩;have:=nJ (u:= .opened t.k) z B f (.inl rfl);have l:uD {t with i:=t.i-1,done:=decide (t.i-1=0)}= .ways t.page (t.i-1) t.k:=by unfold uD;dsimp only;rw[C];rfl
  dsimp only;rw[l];exact this
 rw[jN hb];by_cases B:t.i=mA t.k
 ·rw[jP B];rw[B]at r;have H:=fun i h0 h1=>(r.w t.page i t.k).2 (.inl (.inr ⟨rfl,⟨h0,h1⟩,rfl⟩));obtain⟨⟨b,f⟩,_⟩:=H 0 (Int.le_refl _) c3;have F:∀ j i q,σ.mg t.c j≠ .entry t.page i q:=fun j i q e=>by obtain⟨J,l⟩:=mG o e;rw[f]at l;injection l with l _;subst l;have y:=o.mf t.c j;rw[e]at y;exact r.d t.page i t.k j (.inr ⟨rfl,y.2.2,rfl⟩) e
  refine⟨⟨zn2 o f c1 (fun i h0 h1=>(H i h0 h1).2) F,?_,⟨rfl,fun _ e=>(by cases e)⟩⟩,nG (fun n e=>by cases e) (fun n e=>by rw[f]at e;cases e),rfl⟩;exact znl o r f (fun i q=>D i q) F
 rw[jN B];by_cases hs:σ.sl t.page t.i= .opened t.k
 ·rw[jP hs];obtain⟨⟨b,f⟩,_⟩:=CJ o (.inl hs);refine⟨⟨yO o f (.inl hs) c1,?_,⟨rfl,fun e=>(by have e:t.done=true:=e;rw[hd]at e;cases e)⟩⟩,iG (fun n e=>by cases e) (WS hs),rfl⟩;have l:uD {t with i:=t.i+1}= .ways t.page (t.i+1) t.k:=by unfold uD;dsimp only;rw[C];rfl
  dsimp only;rw[l];exact(zO o r f (.inl hs)).eqv (.trans (.OG _ _ _) (.add R (Own.CP c4.1)))
 rw[jN hs];refine⟨⟨Kept.refl o,?_,⟨rfl,fun e _=>by simpa using e⟩⟩,Calm.refl _,rfl⟩;have l:uD {t with back:=true,done:=decide (t.i=0)}= .ways t.page t.i t.k:=by unfold uD;dsimp only;rw[C];rfl
 dsimp only;rw[l];exact r
def xD (t:Bn):Own:=if t.bound=true then .ways t.page (t.i + 1) t.k else .page t.page
def bI (c:Int) (σ:Ab) (t:Bn):Prop:=t.c=c/\(t.bound=false->∀ j,0<=j->j < t.i->σ.sl t.page j=if j < mA t.k then .way c else .none)/\(t.done=true->t.bound=true/\t.i=0)
theorem bI.same{t:Bn}(h:bI c σ t)(b:t.bound=false->σ.pg t.page= .held c)(hs:Same c σ σ'):bI c σ' t:=⟨h.1,fun hb j h0 h1=>(hs.hs _ _ (b hb)).trans (h.2.1 hb j h0 h1),h.2.2⟩
theorem mY{t:Bn}(B:GI s σ)(N:bnOk s t)(hd:t.done=false)(M:¬ R.h t.page)(G:∀ q,¬ R.b q t.page)(H:∀ i F,¬ R.w t.page i F)(r:uA σ c (R.add (xD t)))(hi:bI c σ t):Goes s c σ (bnA s t σ) R xD (bI c)/\Calm σ (bnA s t σ).2/\(bnA s t σ).1.page=t.page/\(bnA s t σ).1.k=t.k  :=by
 obtain⟨rfl,hi⟩:=hi;obtain⟨c1,c2,c3,c4,c5⟩:=N.cl hd;unfold bnA;rw[jN (by rw[hd];decide)];by_cases hb:t.bound=true
 ·rw[jP hb];have L:=c5 hb;have I:xD t= .ways t.page (t.i+1) t.k:=by unfold xD;rw[hb];rfl
  rw[I]at r;have y:uA σ t.c ((R.add (.ways t.page t.i t.k)).add (.way t.page t.i t.k)):=r.eqv (.trans (.add R (.symm (Own.CP (by omega)))) (.symm (.OG _ _ _)));obtain⟨⟨b,f⟩,hs⟩:=(y.w t.page t.i t.k).2 (.inl (.inr ⟨rfl,rfl,rfl⟩));have O:∀ F,¬ (R.add (.ways t.page t.i t.k)).w t.page t.i F:=fun F e=>by
   rcases e with e|e
   ·exact H _ _ e
   have:=e.2.1;omega
  refine⟨⟨mI B f hs (.inl rfl) (WH y f),?_,⟨rfl,fun e=>(by have e:t.bound=false:=e;rw[hb]at e;cases e),fun e=>⟨hb,by simpa using e⟩⟩⟩,iG (fun n e=>by cases e) (fun n e=>by rw[hs]at e;cases e),rfl,rfl⟩;have l:xD {t with i:=t.i-1,done:=decide (t.i-1=0)}= .ways t.page t.i t.k:=by unfold xD;dsimp only;rw[jP hb,show t.i-1+1=t.i by omega]
  dsimp only;rw[l];exact nJ (u:= .opened t.k) y O f (.inl rfl)
 rw[jN hb];have o:t.bound=false:=by simpa using hb
 have I:xD t= .page t.page:=by unfold xD;rw[o];rfl
 rw[I]at r;have f:σ.pg t.page= .held t.c:=(r.h t.page).2 (.inr rfl);have D:∀ q,σ.pg q≠ .body t.page:=fun q e=>by
  rcases(r.b q t.page).1 ⟨e,f⟩ with e|e
  ·exact G q e
  exact e
 by_cases C:t.i=16
 ·rw[jP C];have E:∀ i,σ.sl t.page i=if 0<=i/\i<mA t.k then .way t.c else .none:=fun i=>by
   by_cases z:0<=i/\i<16
   ·have:=hi.1 o i z.1 (by omega);rw[this];by_cases h1:i<mA t.k
    ·rw[jP h1,jP ⟨z.1,h1⟩]
    rw[jN h1,jN (fun e=>h1 e.2)]
   have S:=CC t.k;rw[jN (by omega)];rcases qI B f i with e|e
   ·exact e
   exact absurd ⟨e.2.1,e.2.2⟩ z
  refine⟨⟨zpg B f (eL c3) E D,?_,⟨rfl,fun e=>(by cases e),fun e=>(by have e:t.done=true:=e;rw[hd]at e;cases e)⟩⟩,nG (fun n e=>by cases e) (fun n e=>by rw[f]at e;cases e),rfl,rfl⟩;have l:xD {t with bound:=true,i:=mA t.k-1}= .ways t.page (mA t.k) t.k:=by unfold xD;dsimp only;rw[jP rfl,show mA t.k-1+1=mA t.k by omega]
  dsimp only;rw[l];exact zn3 B r M E D
 rw[jN C];have T:(if t.i<mA t.k then SW.way t.c else SW.none)= .none\/((if t.i<mA t.k then SW.way t.c else SW.none)= .way t.c/\0<=t.i/\t.i<16):=by
  split
  ·exact .inr ⟨rfl,by omega,by omega⟩
  exact .inl rfl
 refine⟨⟨DO B f T,?_,⟨rfl,fun _ j h0 h1=>?_,fun e=>(by have e:t.done=true:=e;rw[hd]at e;cases e)⟩⟩,iG (fun n e=>by split at e<;>cases e) (fun n e=>by rcases qI B f t.i with l|l;(rw[l]at e;cases e);(rw[l.1]at e;cases e)),rfl,rfl⟩
 ·have l:xD {t with i:=t.i+1}= .page t.page:=by unfold xD;dsimp only;rw[o];rfl
  dsimp only;rw[l];exact fU r f
 dsimp only at h1 ⊢;by_cases J:j=t.i
 ·subst J;rw[dF]
 rw[OD _ _ (fun e=>J e.2)];exact hi.1 o j h0 (by omega)
end

end Go.Proofs.YtkilokkopbajkaaGreat
