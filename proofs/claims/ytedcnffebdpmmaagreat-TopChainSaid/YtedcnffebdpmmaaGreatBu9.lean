/- Texts bound together: InvM InvE. -/
import Derived.Test.YtedcnffebdpmmaaGreatBu8

set_option linter.all false
namespace Go.Proofs.YtedcnffebdpmmaaGreat

section

def PW.zpv (k:Int):PW->Bool
 | .super k' _=> k'==k
 | _=> false
def tkA (s:Sh) (t:Tk) (σ:Ab):Tk × Ab:=
 if t.done=true then (t,σ)
 else if t.hit=true then ({ t with found:=true,done:=true },σ.mag t.c t.i .none)
 else match σ.mg t.c t.i with
  | .entry p i k=> (if k=t.k then { t with ep:=p,es:=i,ek:=k,hit:=true } else { t with i:=t.i + 1,done:=decide (t.i + 1=s.m) },σ)
  | .none=> ({ t with i:=t.i + 1,done:=decide (t.i + 1=s.m) },σ)
def puA (s:Sh) (t:Pu) (σ:Ab):Pu × Ab:=
 if t.done=true then (t,σ)
 else if t.hit=true then ({ t with put:=true,done:=true },σ.mag t.c t.i (.entry t.ep t.es t.ek))
 else (if σ.mg t.c t.i= .none then { t with hit:=true } else { t with i:=t.i + 1,done:=decide (t.i + 1=s.m) },σ)
def scA (s:Sh) (t:Sc) (σ:Ab):Sc × Ab:=
 if t.done=true then (t,σ)
 else if t.next=0 then (if (σ.pg (t.page s)).zpv t.k=true then { t with next:=1 } else t.turn s,σ)
 else if t.next=1 then (if σ.sl (t.page s) t.i= .opened t.k then { t with next:=2 } else t.miss s,σ)
 else if σ.sl (t.page s) t.i= .opened t.k then ({ t with found:=true,done:=true },σ.slot (t.page s) t.i (.way t.c)) else (t.miss s,σ)
def pcA (s:Sh) (t:Pc) (σ:Ab):Pc × Ab:=
 if t.done=true then (t,σ)
 else if t.empty=false then (if σ.pg (t.page s)= .empty then { t with empty:=true } else { t with empty:=false,many:=t.many + 1,done:=decide (t.many + 1=s.p) },σ)
 else if σ.pg (t.page s)= .empty then ({ t with found:=true,done:=true },σ.page (t.page s) (.held t.c)) else ({ t with empty:=false,many:=t.many + 1,done:=decide (t.many + 1=s.p) },σ)
def spA (s:Sh) (t:Sp) (σ:Ab):Sp × Ab:=
 if t.done=true then (t,σ)
 else if t.back=true then ({ t with i:=t.i - 1,done:=decide (t.i - 1=0) },σ.slot t.page (t.i - 1) (.opened t.k))
 else if t.i=zah t.k then ({ t with held:=true,done:=true },σ.page t.page (.held t.c))
 else if σ.sl t.page t.i= .opened t.k then ({ t with i:=t.i + 1 },σ.slot t.page t.i (.way t.c)) else ({ t with back:=true,done:=decide (t.i=0) },σ)
def bnA (s:Sh) (t:Bn) (σ:Ab):Bn × Ab:=
 if t.done=true then (t,σ)
 else if t.bound=true then ({ t with i:=t.i - 1,done:=decide (t.i - 1=0) },σ.slot t.page t.i (.opened t.k))
 else if t.i=16 then ({ t with bound:=true,i:=zah t.k - 1 },σ.page t.page (.super t.k t.c))
 else ({ t with i:=t.i + 1 },σ.slot t.page t.i (if t.i < zah t.k then .way t.c else .none))
def mcA (s:Sh):Mc->Ab->Mc × Ab
 | .tk t,σ=> (.tk (tkA s t σ).1,(tkA s t σ).2)
 | .sc t,σ=> (.sc (scA s t σ).1,(scA s t σ).2)
 | .pc t,σ=> (.pc (pcA s t σ).1,(pcA s t σ).2)
 | .sp t,σ=> (.sp (spA s t σ).1,(spA s t σ).2)
 | .bn t,σ=> (.bn (bnA s t σ).1,(bnA s t σ).2)
def skA (s:Sh) (t:Sk) (σ:Ab):Sk × Ab:=
 if t.done=true then (t,σ)
 else match t.now with
  | some x=> (za5 s 5 { t with now:=some (mcA s x σ).1 },(mcA s x σ).2)
  | none=> (match σ.pg (t.here s) with | .super k _=> { t with now:=some (.sp (zfa s t.c (t.here s) k)) } | _=> t.turn s,σ)
def rnA (s:Sh) (t:Rn) (σ:Ab):Rn × Ab:=
 if t.done=true then (t,σ)
 else if t.next=0 then (match σ.pg t.at' with | .empty=> { t with next:=1 } | .super k _=> { t with next:=2,strip:=some (zfa s t.c t.at' k) } | _=> t.miss s,σ)
 else if t.next=1 then (if σ.pg t.at'= .empty then (t.own,σ.page t.at' (.held t.c)) else (t.miss s,σ))
 else if t.next=2 then
  match t.strip with
  | some x=> (if (spA s x σ).1.held=true then { t with strip:=some (spA s x σ).1,next:=3,i:=0 } else if (spA s x σ).1.done=true then ({ t with strip:=some (spA s x σ).1 }:Rn).miss s else { t with strip:=some (spA s x σ).1 },(spA s x σ).2)
  | none=> (t,σ)
 else if t.next=3 then (if t.i + 1=16 then ({ t with i:=t.i + 1 }:Rn).own else { t with i:=t.i + 1 },σ.slot t.at' t.i .none)
 else if t.next=4 then (({ t with i:=t.i - 1 }:Rn).gone s,σ.page (t.i - 1) .empty)
 else (t.written,σ.page t.i (.body t.head))
def Sim {T:Type} (s:Sh) (r:T × Mem) (a:T × Ab):Prop:=r.1=a.1/\Rep s r.2 a.2
variable {s:Sh} {m:Mem} {σ:Ab}

theorem zgz{c a was x:Int}(h:m.get a=was):(m.swap c a was x).ws=m.ws.set a.toNat x:=by unfold Mem.swap;rw[if_pos h]
theorem zjl{c a was x:Int}(h:¬ m.get a=was):(m.swap c a was x).ws=m.ws:=by unfold Mem.swap;rw[if_neg h]
theorem zpe{a b:Int}(h:0<b):0<=a%b/\a%b<b:=⟨Int.emod_nonneg _ (by omega),Int.emod_lt_of_pos _ h⟩
theorem zgr{k:Int}(h:0<zah k):0<=k/\k<=3:=by
 unfold zah at h;split at h
 ·omega
 split at h
 ·omega
 split at h
 ·omega
 split at h
 ·omega
 omega
theorem Rep.zlw(b:Rep s m σ)(f:GI s σ){p i:Int}(j:0<=p/\p<s.p)(hi:0<=i/\i<16){u:SW}(hu:u.fit s):m.get (zbk s.p s.c s.m p i)=u.enc↔σ.sl p i=u:=by
 rw[b.sl p i j hi];exact⟨SW.inj b.may (f.sf p i) hu,fun e=>by rw[e]⟩
theorem Rep.zwo(b:Rep s m σ)(f:GI s σ){p q:Int}(i:0<=p/\p<s.p){u:PW}(hu:u.fit s q):m.get (zak s.p s.c s.m p)=u.enc↔σ.pg p=u:=by
 rw[b.pg p i];exact⟨PW.inj b.may (f.pf p) hu,fun e=>by rw[e]⟩
theorem Rep.zwz(b:Rep s m σ)(f:GI s σ){c i:Int}(hc:0<=c/\c<s.c)(hi:0<=i/\i<s.m):m.get (ze9 s.p s.c s.m c i)=0↔σ.mg c i= .none:=by
 rw[b.mg c i hc hi];exact⟨fun e=>MW.inj b.may (f.mf c i) (y:= .none) trivial e,fun e=>by rw[e];rfl⟩
theorem Rep.read(f:Rep s m σ)(i:GI s σ){p:Int}(j:0<=p/\p<s.p):zal s.p s.c s.m p (m.get (zak s.p s.c s.m p))=true/\zbx (m.get (zak s.p s.c s.m p))=(σ.pg p).kind/\za2 (m.get (zak s.p s.c s.m p)) 0=(σ.pg p).pa/\za2 (m.get (zak s.p s.c s.m p)) 1=(σ.pg p).pb:=by
 rw[f.pg p j];obtain⟨a,b,c⟩:=PW.read f.may (i.pf p);exact⟨PW.ya4 f.may j (i.pf p),a,b,c⟩
theorem yd7{t:Tk}(b:Rep s m σ)(r:GI s σ)(h:tkOk s t):Sim s (zd2 s t m) (tkA s t σ):=by
 unfold zd2 tkA;by_cases hd:t.done=true
 ·rw[if_pos hd,if_pos hd];exact⟨rfl,b⟩
 rw[if_neg hd,if_neg hd];have hc:=h.cl (by simpa using hd);by_cases f:t.hit=true
 ·rw[if_pos f,if_pos f];exact⟨rfl,b.z1g hc.1 hc.2 .none rfl⟩
 rw[if_neg f,if_neg f];dsimp only;rw[b.mg _ _ hc.1 hc.2];cases he:σ.mg t.c t.i with
 |none=>rw[if_neg (fun e=>by have:=e.1;rw[show MW.none.enc=0 from rfl,zya]at this;cases this)];exact⟨rfl,b.same rfl⟩
 |entry p i k=>
  have l:=r.mf t.c t.i;rw[he]at l;obtain⟨n,o,q⟩:=MW.read b.may l;rw[MW.ya4 b.may l,n,o,q];by_cases j:k=t.k
  ·rw[if_pos ⟨rfl,j⟩];dsimp only;rw[if_pos j];exact⟨rfl,b.same rfl⟩
  rw[if_neg (fun e=>j e.2)];dsimp only;rw[if_neg j];exact⟨rfl,b.same rfl⟩
theorem yfk{t:Pu}(b:Rep s m σ)(l:GI s σ)(h:puOk s t):Sim s (zd3 s t m) (puA s t σ):=by
 unfold zd3 puA;by_cases hd:t.done=true
 ·rw[if_pos hd,if_pos hd];exact⟨rfl,b⟩
 rw[if_neg hd,if_neg hd];have hc:=h.cl (by simpa using hd);by_cases j:t.hit=true
 ·rw[if_pos j,if_pos j];exact⟨rfl,b.z1g hc.1 hc.2 (.entry _ _ _) rfl⟩
 rw[if_neg j,if_neg j];dsimp only;by_cases f:σ.mg t.c t.i= .none
 ·rw[if_pos ((b.zwz l hc.1 hc.2).2 f),if_pos f];exact⟨rfl,b.same rfl⟩
 rw[if_neg (fun e=>f ((b.zwz l hc.1 hc.2).1 e)),if_neg f];exact⟨rfl,b.same rfl⟩
theorem yfh{t:Sc}(j:Rep s m σ)(q:GI s σ)(h:scOk s t):Sim s (zed s t m) (scA s t σ):=by
 unfold zed scA;by_cases hd:t.done=true
 ·rw[if_pos hd,if_pos hd];exact⟨rfl,j⟩
 rw[if_neg hd,if_neg hd];obtain⟨c1,c2,c3,c4,c5,c6⟩:=h.cl (by simpa using hd);have o:0<=t.page s/\t.page s<s.p:=zpe (by omega);have r:=zgr c2;have hi:0<=t.i/\t.i<16:=by have:=zcy t.k;omega
 have l:m.get (zbk s.p s.c s.m (t.page s) t.i)=zc8 t.k↔σ.sl (t.page s) t.i= .opened t.k:=j.zlw q o hi (u:= .opened t.k) r;dsimp only;by_cases h0:t.next=0
 ·rw[if_pos h0,if_pos h0];obtain⟨y,z,B,_⟩:=j.read q o;rw[y,z,B];refine⟨?_,j.same rfl⟩;cases σ.pg (t.page s) with
  |super k b=>
   by_cases f:k=t.k
   ·rw[if_pos ⟨rfl,rfl,f⟩];simp[PW.zpv,f]
   rw[if_neg (fun e=>f e.2.2)];simp[PW.zpv,f]
  |_=>simp[PW.zpv,PW.kind]
 rw[if_neg h0,if_neg h0];by_cases h1:t.next=1
 ·rw[if_pos h1,if_pos h1];refine⟨?_,j.same rfl⟩;dsimp only;by_cases e:σ.sl (t.page s) t.i= .opened t.k
  ·rw[if_pos (l.2 e),if_pos e]
  rw[if_neg (fun n=>e (l.1 n)),if_neg e]
 rw[if_neg h1,if_neg h1];by_cases e:σ.sl (t.page s) t.i= .opened t.k
 ·rw[if_pos (l.2 e),if_pos e];exact⟨rfl,j.setSlot o hi (.way t.c) (zgz (l.2 e))⟩
 rw[if_neg (fun n=>e (l.1 n)),if_neg e];exact⟨rfl,j.same (zjl (fun n=>e (l.1 n)))⟩
theorem yel{t:Pc}(i:Rep s m σ)(n:GI s σ)(h:pcOk s t):Sim s (ze7 s t m) (pcA s t σ):=by
 unfold ze7 pcA;by_cases hd:t.done=true
 ·rw[if_pos hd,if_pos hd];exact⟨rfl,i⟩
 rw[if_neg hd,if_neg hd];obtain⟨c1,c2,c3⟩:=h.cl (by simpa using hd);have l:0<=t.page s/\t.page s<s.p:=zpe (by omega);have b:m.get (zak s.p s.c s.m (t.page s))=0↔_:=i.zwo n l (q:=0) (u:= .empty) trivial;dsimp only;by_cases j:t.empty=false
 ·rw[if_pos j,if_pos j];refine⟨?_,i.same rfl⟩;dsimp only;by_cases e:σ.pg (t.page s)= .empty
  ·rw[if_pos (b.2 e),if_pos e]
  rw[if_neg (fun f=>e (b.1 f)),if_neg e]
 rw[if_neg j,if_neg j];by_cases e:σ.pg (t.page s)= .empty
 ·rw[if_pos (b.2 e),if_pos e];exact⟨rfl,i.zd7 l (.held t.c) (zgz (b.2 e))⟩
 rw[if_neg (fun f=>e (b.1 f)),if_neg e];exact⟨rfl,i.same (zjl (fun f=>e (b.1 f)))⟩
theorem z8o{t:Sp}(b:Rep s m σ)(n:GI s σ)(h:spOk s t):Sim s (zdu s t m) (spA s t σ):=by
 unfold zdu spA;by_cases hd:t.done=true
 ·rw[if_pos hd,if_pos hd];exact⟨rfl,b⟩
 rw[if_neg hd,if_neg hd];obtain⟨c1,c2,c3,c4,c5⟩:=h.cl (by simpa using hd);have o:=zcy t.k;by_cases hb:t.back=true
 ·rw[if_pos hb,if_pos hb];have:=c5 hb;exact⟨rfl,b.setSlot c2 (by omega) (.opened t.k) rfl⟩
 rw[if_neg hb,if_neg hb];by_cases hi:t.i=zah t.k
 ·rw[if_pos hi,if_pos hi];exact⟨rfl,b.zd7 c2 (.held t.c) rfl⟩
 rw[if_neg hi,if_neg hi];have f:0<=t.i/\t.i<16:=by omega
 have j:m.get (zbk s.p s.c s.m t.page t.i)=zc8 t.k↔σ.sl t.page t.i= .opened t.k:=b.zlw n c2 f (u:= .opened t.k) (zgr c3);by_cases e:σ.sl t.page t.i= .opened t.k
 ·rw[if_pos (j.2 e),if_pos e];exact⟨rfl,b.setSlot c2 f (.way t.c) (zgz (j.2 e))⟩
 rw[if_neg (fun l=>e (j.1 l)),if_neg e];exact⟨rfl,b.same (zjl (fun l=>e (j.1 l)))⟩
theorem yea{t:Bn}(b:Rep s m σ)(h:bnOk s t):Sim s (ze6 s t m) (bnA s t σ):=by
 unfold ze6 bnA;by_cases hd:t.done=true
 ·rw[if_pos hd,if_pos hd];exact⟨rfl,b⟩
 rw[if_neg hd,if_neg hd];obtain⟨c1,c2,c3,c4,c5⟩:=h.cl (by simpa using hd);have f:=zcy t.k;by_cases hb:t.bound=true
 ·rw[if_pos hb,if_pos hb];have:=c5 hb;exact⟨rfl,b.setSlot c2 (by omega) (.opened t.k) rfl⟩
 rw[if_neg hb,if_neg hb];by_cases hi:t.i=16
 ·rw[if_pos hi,if_pos hi];exact⟨rfl,b.zd7 c2 (.super t.k t.c) rfl⟩
 rw[if_neg hi,if_neg hi];refine⟨rfl,b.setSlot c2 (by omega) _ ?_⟩;show m.ws.set _ _=_;split<;>rfl
theorem z9a{x:Mc}(b:Rep s m σ)(f:GI s σ)(h:mcOk s x):Sim s (zbr s x m) (mcA s x σ):=by
 cases x with
 |tk t=>have:=yd7 b f (t:=t) h;exact⟨congrArg Mc.tk this.1,this.2⟩
 |sc t=>have:=yfh b f (t:=t) h;exact⟨congrArg Mc.sc this.1,this.2⟩
 |pc t=>have:=yel b f (t:=t) h;exact⟨congrArg Mc.pc this.1,this.2⟩
 |sp t=>have:=z8o b f (t:=t) h;exact⟨congrArg Mc.sp this.1,this.2⟩
 |bn t=>have:=yea b (t:=t) h;exact⟨congrArg Mc.bn this.1,this.2⟩
theorem yda{t:Sk}(f:Rep s m σ)(i:GI s σ)(h:skOk s t):Sim s (zbv s t m) (skA s t σ):=by
 unfold zbv skA;by_cases hd:t.done=true
 ·rw[if_pos hd,if_pos hd];exact⟨rfl,f⟩
 rw[if_neg hd,if_neg hd];obtain⟨c1,c2,c3,c4,c5⟩:=h.cl (by simpa using hd);cases hn:t.now with
 |some x=>have:=z9a f i (c5 x hn).1;dsimp only;rw[this.1];exact⟨rfl,this.2⟩
 |none=>
  have j:0<=t.here s/\t.here s<s.p:=zpe (by omega)
  obtain⟨l,n,o,_⟩:=f.read i j
  dsimp only
  rw[l,n,o]
  refine⟨?_,f.same rfl⟩
  cases σ.pg (t.here s) with
  |super k b=>rw[if_pos ⟨rfl,rfl⟩];rfl
  |_=>simp[PW.kind]
theorem yc2{t:Rn}(f:Rep s m σ)(o:GI s σ)(h:rnOk s t):Sim s (zcr s t m) (rnA s t σ):=by
 unfold zcr rnA;by_cases hd:t.done=true
 ·rw[if_pos hd,if_pos hd];exact⟨rfl,f⟩
 rw[if_neg hd,if_neg hd];obtain⟨c1,c2,c3,c4,c5,c6,c7,c8,c9,l⟩:=h.cl (by simpa using hd);dsimp only;by_cases h0:t.next=0
 ·rw[if_pos h0,if_pos h0];have i:0<=t.at'/\t.at'<s.p:=by have:=c6 (by omega);omega
  obtain⟨z,B,C,_⟩:=f.read o i;rw[z,B,C];refine⟨?_,f.same rfl⟩;cases σ.pg t.at' with
  |empty=>simp[PW.kind]
  |super k b=>simp[PW.kind,PW.pa]
  |_=>simp[PW.kind]
 rw[if_neg h0,if_neg h0];by_cases h1:t.next=1
 ·rw[if_pos h1,if_pos h1];have i:0<=t.at'/\t.at'<s.p:=by have:=c6 (by omega);omega
  have j:m.get (zak s.p s.c s.m t.at')=0↔_:=f.zwo o i (q:=0) (u:= .empty) trivial;by_cases e:σ.pg t.at'= .empty
  ·rw[if_pos (j.2 e),if_pos e];exact⟨rfl,f.zd7 i (.held t.c) (zgz (j.2 e))⟩
  rw[if_neg (fun n=>e (j.1 n)),if_neg e];exact⟨rfl,f.same (zjl (fun n=>e (j.1 n)))⟩
 rw[if_neg h1,if_neg h1];by_cases h2:t.next=2
 ·rw[if_pos h2,if_pos h2];obtain⟨x,y,r,_⟩:=c7 h2;rw[y];have:=z8o f o r;dsimp only;rw[this.1];exact⟨rfl,this.2⟩
 rw[if_neg h2,if_neg h2];by_cases h3:t.next=3
 ·rw[if_pos h3,if_pos h3];have i:0<=t.at'/\t.at'<s.p:=by have:=c6 (by omega);omega
  exact⟨rfl,f.setSlot i (c8 h3) .none rfl⟩
 rw[if_neg h3,if_neg h3];by_cases h4:t.next=4
 ·rw[if_pos h4,if_pos h4];have:=c9 h4;have:=c6 (by omega);refine⟨rfl,f.zd7 (by omega) .empty ?_⟩;show m.ws.set _ (zb8 0 0 0)=_;rw[show zb8 0 0 0=PW.empty.enc by decide]
 rw[if_neg h4,if_neg h4];have:=l (by omega);exact⟨rfl,f.zd7 (by omega) (.body t.head) rfl⟩
end

section
inductive Bl
 | lar (p n:Int)
 | sm (p i k:Int)
 deriving DecidableEq
def Ab.has (σ:Ab):Bl->Prop
 | .lar p n=> σ.pg p= .large n
 | .sm p i k=> σ.sl p i= .taken k
def Calm (σ σ':Ab):Prop:=∀ b,σ'.has b↔σ.has b
def Plus (b:Bl) (σ σ':Ab):Prop:=¬ σ.has b/\∀ x,σ'.has x↔(σ.has x\/x=b)
def zr4 (b:Bl) (σ σ':Ab):Prop:=σ.has b/\∀ x,σ'.has x↔(σ.has x/\x≠b)
section

variable {s:Sh} {σ:Ab} {c p:Int}

theorem Calm.refl(σ:Ab):Calm σ σ:=fun _=>.rfl
theorem zjk(σ:Ab){q:Int}(v:PW)(n:Int)(h:q≠p):(σ.page p v).has (.lar q n)↔σ.has (.lar q n):=by
 unfold Ab.has;dsimp only;rw[zbd _ _ h]
theorem zjg(σ:Ab){i q j:Int}(u:SW)(k:Int)(h:¬ (q=p/\j=i)):(σ.slot p i u).has (.sm q j k)↔σ.has (.sm q j k):=by
 unfold Ab.has;dsimp only;rw[zbq _ _ h]
theorem zdt{v:PW}(h1:∀ n,v≠ .large n)(h2:∀ n,σ.pg p≠ .large n):Calm σ (σ.page p v):=by
 intro b;cases b with
 |lar q n=>
  by_cases e:q=p
  ·subst e;unfold Ab.has;dsimp only;rw[za4];exact⟨fun e=>absurd e (h1 n),fun e=>absurd e (h2 n)⟩
  exact zjk σ v n e
 |sm q i k=>exact .rfl
theorem zdn{i:Int}{u:SW}(h1:∀ n,u≠ .taken n)(h2:∀ n,σ.sl p i≠ .taken n):Calm σ (σ.slot p i u):=by
 intro b;cases b with
 |lar q n=>exact .rfl;|sm q j k=>
  by_cases e:q=p/\j=i
  ·obtain⟨rfl,rfl⟩:=e;unfold Ab.has;dsimp only;rw[zbs];exact⟨fun e=>absurd e (h1 k),fun e=>absurd e (h2 k)⟩
  exact zjg σ u k e
theorem zpy{i:Int}{u:MW}:Calm σ (σ.mag c i u):=fun b=>by cases b<;>exact .rfl
theorem ztg{u:TW}:Calm σ (σ.stat c u):=fun b=>by cases b<;>exact .rfl
theorem z1n{n:Int}(h2:∀ n,σ.pg p≠ .large n):Plus (.lar p n) σ (σ.page p (.large n)):=by
 refine⟨h2 n,fun b=>?_⟩;cases b with
 |lar q y=>
  by_cases e:q=p
  ·subst e;unfold Ab.has;dsimp only;rw[za4];constructor
   ·intro e;injection e with e;subst e;exact .inr rfl
   rintro(e|e)
   ·exact absurd e (h2 y)
   injection e with _ e;rw[e]
  rw[zjk σ _ y e];exact⟨.inl,fun h=>h.elim id fun h=>by injection h with h _;exact absurd h e⟩
 |sm q i k=>exact⟨.inl,fun h=>h.elim id fun h=>by cases h⟩
theorem z1b{i k:Int}(h2:∀ n,σ.sl p i≠ .taken n):Plus (.sm p i k) σ (σ.slot p i (.taken k)):=by
 refine⟨h2 k,fun b=>?_⟩;cases b with
 |lar q n=>exact⟨.inl,fun h=>h.elim id fun h=>by cases h⟩;|sm q j y=>
  by_cases e:q=p/\j=i
  ·obtain⟨rfl,rfl⟩:=e;unfold Ab.has;dsimp only;rw[zbs];constructor
   ·intro e;injection e with e;subst e;exact .inr rfl
   rintro(e|e)
   ·exact absurd e (h2 y)
   injection e with _ _ e;rw[e]
  rw[zjg σ _ y e];exact⟨.inl,fun h=>h.elim id fun h=>by injection h with h f _;exact absurd ⟨h,f⟩ e⟩
theorem zy2{n:Int}{v:PW}(h1:∀ n,v≠ .large n)(h2:σ.pg p= .large n):zr4 (.lar p n) σ (σ.page p v):=by
 refine⟨h2,fun b=>?_⟩;cases b with
 |lar q y=>
  by_cases e:q=p
  ·subst e;unfold Ab.has;dsimp only;rw[za4];constructor
   ·intro e;exact absurd e (h1 y)
   rintro⟨e,f⟩;rw[h2]at e;injection e with e;subst e;exact absurd rfl f
  rw[zjk σ _ y e];exact⟨fun h=>⟨h,fun h=>by injection h with h _;exact e h⟩,And.left⟩
 |sm q i k=>exact⟨fun h=>⟨h,fun h=>by cases h⟩,And.left⟩
theorem zzw{i k:Int}{u:SW}(h1:∀ n,u≠ .taken n)(h2:σ.sl p i= .taken k):zr4 (.sm p i k) σ (σ.slot p i u):=by
 refine⟨h2,fun b=>?_⟩;cases b with
 |lar q n=>exact⟨fun h=>⟨h,fun h=>by cases h⟩,And.left⟩;|sm q j y=>
  by_cases e:q=p/\j=i
  ·obtain⟨rfl,rfl⟩:=e;unfold Ab.has;dsimp only;rw[zbs];constructor
   ·intro e;exact absurd e (h1 y)
   rintro⟨e,f⟩;rw[h2]at e;injection e with e;subst e;exact absurd rfl f
  rw[zjg σ _ y e];exact⟨fun h=>⟨h,fun h=>by injection h with h l _;exact e ⟨h,l⟩⟩,And.left⟩
end

def Own.Eqv (a b:Own):Prop:=(∀ p,a.h p↔b.h p)/\(∀ p g,a.b p g↔b.b p g)/\∀ p i k,a.w p i k↔b.w p i k
theorem zaz.eqv{σ:Ab}{c:Int}{a b:Own}(h:zaz σ c a)(e:a.Eqv b):zaz σ c b:=h.eq (fun p=>(e.1 p).symm) (fun p g=>(e.2.1 p g).symm) (fun p i k=>(e.2.2 p i k).symm)
theorem Own.Eqv.refl(a:Own):a.Eqv a:=⟨fun _=>.rfl,fun _ _=>.rfl,fun _ _ _=>.rfl⟩
theorem Own.Eqv.symm{a b:Own}(h:a.Eqv b):b.Eqv a:=⟨fun p=>(h.1 p).symm,fun p g=>(h.2.1 p g).symm,fun p i k=>(h.2.2 p i k).symm⟩
theorem Own.Eqv.trans{a b c:Own}(h:a.Eqv b)(k:b.Eqv c):a.Eqv c:=⟨fun p=>(h.1 p).trans (k.1 p),fun p g=>(h.2.1 p g).trans (k.2.1 p g),fun p i j=>(h.2.2 p i j).trans (k.2.2 p i j)⟩
theorem Own.Eqv.add{a b:Own}(R:Own)(h:a.Eqv b):(R.add a).Eqv (R.add b):=⟨fun p=>or_congr .rfl (h.1 p),fun p g=>or_congr .rfl (h.2.1 p g),fun p i k=>or_congr .rfl (h.2.2 p i k)⟩
theorem Own.Eqv.zp7(a b c:Own):((a.add b).add c).Eqv (a.add (b.add c)):=⟨fun _=>or_assoc,fun _ _=>or_assoc,fun _ _ _=>or_assoc⟩
theorem Own.Eqv.zeb(a:Own):(a.add .no).Eqv a:=⟨fun _=>or_iff_left id,fun _ _=>or_iff_left id,fun _ _ _=>or_iff_left id⟩
structure Goes {T:Type} (s:Sh) (c:Int) (σ:Ab) (r:T × Ab) (R:Own) (own:T->Own) (I:Ab->T->Prop):Prop where
 kept:Kept s c σ r.2
 ex:zaz r.2 c (R.add (own r.1))
 inv:I r.2 r.1
variable {s:Sh} {σ σ':Ab} {c:Int} {R:Own}

theorem Own.z9l{a:Own}{p i k:Int}(h:a=Own.way p i k):a.Eqv (Own.no.add (Own.way p i k)):=by
 subst h;exact⟨fun _=>(or_iff_right id).symm,fun _ _=>(or_iff_right id).symm,fun _ _ _=>(or_iff_right id).symm⟩
def zlr (t:Tk):Own:=if t.found=true then .way t.ep t.es t.ek else .no
def zqu (c:Int) (σ:Ab) (t:Tk):Prop:=t.c=c/\(t.hit=true->t.done=false->σ.mg c t.i= .entry t.ep t.es t.ek)
theorem zqu.same{t:Tk}(h:zqu c σ t)(hs:Same c σ σ'):zqu c σ' t:=⟨h.1,fun a b=>(hs.m _).trans (h.2 a b)⟩
theorem yba{t:Tk}(o:GI s σ)(y:tkOk s t)(hd:t.done=false)(n:zaz σ c (R.add (zlr t)))(hi:zqu c σ t):Goes s c σ (tkA s t σ) R zlr (zqu c)/\Calm σ (tkA s t σ).2  :=by
 obtain⟨rfl,hi⟩:=hi;have j:t.found=false:=zb7 (fun e=>⟨(y.fd e).2,trivial⟩) hd;have z:zlr t= .no:=by unfold zlr;rw[j];rfl
 rw[z]at n;have r:∀ t':Tk,t'.found=false->zqu t.c σ t'->Goes s t.c σ (t',σ) R zlr (zqu t.c)/\Calm σ σ:=fun t' h1 h2=>⟨⟨Kept.refl o,by rw[show zlr t'= .no by unfold zlr;rw[h1];rfl];exact n,h2⟩,Calm.refl _⟩
 unfold tkA;rw[if_neg (by rw[hd];decide)];by_cases l:t.hit=true
 ·rw[if_pos l];have q:=hi l hd;refine⟨⟨zi4 o,?_,⟨rfl,fun _ e=>(by cases e)⟩⟩,zpy⟩;exact(znd o n q).eqv (.trans (.zp7 _ _ _) (.add R (Own.Eqv.symm (Own.z9l rfl))))
 rw[if_neg l];have f:¬ t.hit=true:=l;cases q:σ.mg t.c t.i with
 |none=>exact r _ j ⟨rfl,fun e=>absurd e f⟩;|entry p i k=>
  dsimp only;by_cases b:k=t.k
  ·rw[if_pos b];exact r _ j ⟨rfl,fun _ _=>q⟩
  rw[if_neg b];exact r _ j ⟨rfl,fun e=>absurd e f⟩
def zlt (t:Pu):Own:=if t.put=true then .no else .way t.ep t.es t.ek
def zp5 (c:Int) (σ:Ab) (t:Pu):Prop:=t.c=c/\(t.hit=true->t.done=false->σ.mg c t.i= .none)/\(t.put=true->t.done=true)
theorem zp5.same{t:Pu}(h:zp5 c σ t)(hs:Same c σ σ'):zp5 c σ' t:=⟨h.1,fun a b=>(hs.m _).trans (h.2.1 a b),h.2.2⟩
theorem z96{t:Pu}(r:GI s σ)(E:puOk s t)(hd:t.done=false)(D:∀ H,¬ R.w t.ep t.es H)(f:zaz σ c (R.add (zlt t)))(hi:zp5 c σ t):Goes s c σ (puA s t σ) R zlt (zp5 c)/\Calm σ (puA s t σ).2  :=by
 obtain⟨rfl,hi⟩:=hi;have j:t.put=false:=by
  cases h:t.put
  ·rfl
  rw[hi.2 h]at hd;cases hd
 have F:zlt t= .way t.ep t.es t.ek:=by unfold zlt;rw[j];rfl
 rw[F]at f;have G:=(f.w t.ep t.es t.ek).2 (.inl (.inr ⟨rfl,rfl,rfl⟩));obtain⟨⟨b,q⟩,hs⟩:=G;have o:=znc f q;unfold puA;rw[if_neg (by rw[hd];decide)];by_cases n:t.hit=true
 ·rw[if_pos n];have l:=hi.1 n hd;have hc:=E.cl hd;refine⟨⟨zqp r q hs o hc.2,?_,⟨rfl,fun _ e=>(by cases e),fun _=>rfl⟩⟩,zpy⟩;exact(zn8 f D q l).eqv (.symm (.zeb R))
 rw[if_neg n];have y:∀ t':Pu,t'.put=false->t'.ep=t.ep->t'.es=t.es->t'.ek=t.ek->zp5 t.c σ t'->Goes s t.c σ (t',σ) R zlt (zp5 t.c)/\Calm σ σ:=fun t' h1 z B C h2=>⟨⟨Kept.refl r,by rw[show zlt t'= .way t.ep t.es t.ek by unfold zlt;rw[h1,z,B,C];rfl];exact f,h2⟩,Calm.refl _⟩
 by_cases l:σ.mg t.c t.i= .none
 ·rw[if_pos l];exact y _ j rfl rfl rfl ⟨rfl,fun _ _=>l,fun e=>(by have e:t.put=true:=e;rw[j]at e;cases e)⟩
 rw[if_neg l];exact y _ j rfl rfl rfl ⟨rfl,fun e=>absurd e n,fun e=>(by have e:t.put=true:=e;rw[j]at e;cases e)⟩
def zln (s:Sh) (t:Sc):Own:=if t.found=true then .way (t.page s) t.i t.k else .no
theorem zsw(s:Sh)(t:Sc):(t.turn s).found=t.found/\(t.turn s).c=t.c:=⟨rfl,rfl⟩
theorem zlf(s:Sh)(t:Sc):(t.miss s).found=t.found/\(t.miss s).c=t.c:=by unfold Sc.miss;split<;>exact⟨rfl,rfl⟩
theorem z1x{σ:Ab}{p i k:Int}(h:σ.sl p i= .opened k):∀ n,σ.sl p i≠ .taken n:=fun n e=>by rw[h]at e;cases e
theorem yb8{t:Sc}(j:GI s σ)(q:scOk s t)(hd:t.done=false)(l:zaz σ c (R.add (zln s t)))(hi:t.c=c):Goes s c σ (scA s t σ) R (zln s) (fun _ t=>t.c=c)/\Calm σ (scA s t σ).2  :=by
 subst hi;have o:t.found=false:=zb7 q.fd hd;have y:zln s t= .no:=by unfold zln;rw[o];rfl
 rw[y]at l;have f:∀ t':Sc,t'.found=t.found/\t'.c=t.c->Goes s t.c σ (t',σ) R (zln s) (fun _ z=>z.c=t.c)/\Calm σ σ:=fun t' h=>⟨⟨Kept.refl j,by rw[show zln s t'= .no by unfold zln;rw[h.1,o];rfl];exact l,h.2⟩,Calm.refl _⟩
 have hc:=q.cl hd;unfold scA;rw[if_neg (by rw[hd];decide)];by_cases h0:t.next=0
 ·rw[if_pos h0];split
  ·exact f _ ⟨rfl,rfl⟩
  exact f _ (zsw s t)
 rw[if_neg h0];by_cases h1:t.next=1
 ·rw[if_pos h1];split
  ·exact f _ ⟨rfl,rfl⟩
  exact f _ (zlf s t)
 rw[if_neg h1];by_cases hs:σ.sl (t.page s) t.i= .opened t.k
 ·rw[if_pos hs];obtain⟨⟨b,r⟩,_⟩:=zhs j (.inl hs);refine⟨⟨zf3 j r (.inl hs) hc.1,?_,rfl⟩,zdn (fun n e=>by cases e) (z1x hs)⟩;exact(zfc j l r (.inl hs)).eqv (.trans (.zp7 _ _ _) (.add R (Own.Eqv.symm (Own.z9l rfl))))
 rw[if_neg hs];exact f _ (zlf s t)
def zls (s:Sh) (t:Pc):Own:=if t.found=true then .page (t.page s) else .no
theorem Own.yab{a:Own}{p:Int}(h:a=Own.page p):a.Eqv (Own.no.add (Own.page p)):=by
 subst h;exact⟨fun _=>(or_iff_right id).symm,fun _ _=>(or_iff_right id).symm,fun _ _ _=>(or_iff_right id).symm⟩
theorem yb1{t:Pc}(f:GI s σ)(l:pcOk s t)(hd:t.done=false)(b:zaz σ c (R.add (zls s t)))(hi:t.c=c):Goes s c σ (pcA s t σ) R (zls s) (fun _ t=>t.c=c)/\Calm σ (pcA s t σ).2  :=by
 subst hi;have j:t.found=false:=zb7 l.fd hd;have o:zls s t= .no:=by unfold zls;rw[j];rfl
 rw[o]at b;have i:∀ t':Pc,t'.found=t.found/\t'.c=t.c->Goes s t.c σ (t',σ) R (zls s) (fun _ r=>r.c=t.c)/\Calm σ σ:=fun t' h=>⟨⟨Kept.refl f,by rw[show zls s t'= .no by unfold zls;rw[h.1,j];rfl];exact b,h.2⟩,Calm.refl _⟩
 have hc:=l.cl hd;have q:0<=t.page s/\t.page s<s.p:=zpe (by omega);unfold pcA;rw[if_neg (by rw[hd];decide)];by_cases h0:t.empty=false
 ·rw[if_pos h0];split
  ·exact i _ ⟨rfl,rfl⟩
  exact i _ ⟨rfl,rfl⟩
 rw[if_neg h0];by_cases hs:σ.pg (t.page s)= .empty
 ·rw[if_pos hs];refine⟨⟨zi0 f hs q hc.1,?_,rfl⟩,zdt (fun n e=>by cases e) (fun n e=>by rw[hs]at e;cases e)⟩;exact(zh4 f b hs).eqv (.trans (.zp7 _ _ _) (.add R (Own.Eqv.symm (Own.yab rfl))))
 rw[if_neg hs];exact i _ ⟨rfl,rfl⟩
def zhd (t:Sp):Own:=if t.held=true then .page t.page else .ways t.page t.i t.k
def z4y (c:Int) (t:Sp):Prop:=t.c=c/\(t.done=true->t.held=false->t.i=0)
theorem Own.znw{p n k:Int}(h:0<=n):((Own.ways p n k).add (Own.way p n k)).Eqv (Own.ways p (n+1) k):=by
 refine⟨fun _=>or_iff_left id,fun _ _=>or_iff_left id,fun q i b=>?_⟩;simp only[Own.add,Own.ways,Own.way];omega
theorem z4c{t:Sp}(o:GI s σ)(E:spOk s t)(hd:t.done=false)(D:∀ i q,¬ R.w t.page i q)(r:zaz σ c (R.add (zhd t)))(hi:z4y c t):Goes s c σ (spA s t σ) R zhd (fun _ t=>z4y c t)/\Calm σ (spA s t σ).2/\(spA s t σ).1.page=t.page  :=by
 obtain⟨rfl,hi⟩:=hi;have C:t.held=false:=zb7 (fun e=>⟨E.fd e,trivial⟩) hd;have I:zhd t= .ways t.page t.i t.k:=by unfold zhd;rw[C];rfl
 rw[I]at r;obtain⟨c1,c2,c3,c4,c5⟩:=E.cl hd;unfold spA;rw[if_neg (by rw[hd];decide)];by_cases hb:t.back=true
 ·rw[if_pos hb];have G:=c5 hb;have z:zaz σ t.c ((R.add (.ways t.page (t.i-1) t.k)).add (.way t.page (t.i-1) t.k)):=by refine r.eqv (.trans (.add R (.symm ?_)) (.symm (.zp7 _ _ _)));have:=Own.znw (p:=t.page) (n:=t.i-1) (k:=t.k) (by omega);rwa [show t.i-1+1=t.i by omega]at this
  obtain⟨⟨b,f⟩,hs⟩:=(z.w t.page (t.i-1) t.k).2 (.inl (.inr ⟨rfl,rfl,rfl⟩));have B:∀ q,¬ (R.add (.ways t.page (t.i-1) t.k)).w t.page (t.i-1) q:=fun q e=>by
   rcases e with e|e
   ·exact D _ _ e
   have:=e.2.1;omega
  refine⟨⟨zc6 o f hs (.inl rfl) (znc z f),?_,⟨rfl,fun e _=>by simpa using e⟩⟩,zdn (fun n e=>by cases e) (fun n e=>by rw[hs]at e;cases e),rfl⟩;have:=zdd (u:= .opened t.k) z B f (.inl rfl);have l:zhd {t with i:=t.i-1,done:=decide (t.i-1=0)}= .ways t.page (t.i-1) t.k:=by unfold zhd;dsimp only;rw[C];rfl
  dsimp only;rw[l];exact this
 rw[if_neg hb];by_cases B:t.i=zah t.k
 ·rw[if_pos B];rw[B]at r;have H:=fun i h0 h1=>(r.w t.page i t.k).2 (.inl (.inr ⟨rfl,⟨h0,h1⟩,rfl⟩));obtain⟨⟨b,f⟩,_⟩:=H 0 (Int.le_refl _) c3;have F:∀ j i q,σ.mg t.c j≠ .entry t.page i q:=fun j i q e=>by obtain⟨J,l⟩:=zds o e;rw[f]at l;injection l with l _;subst l;have y:=o.mf t.c j;rw[e]at y;exact r.d t.page i t.k j (.inr ⟨rfl,y.2.2,rfl⟩) e
  refine⟨⟨zn2 o f c1 (fun i h0 h1=>(H i h0 h1).2) F,?_,⟨rfl,fun _ e=>(by cases e)⟩⟩,zdt (fun n e=>by cases e) (fun n e=>by rw[f]at e;cases e),rfl⟩;exact znl o r f (fun i q=>D i q) F
 rw[if_neg B];by_cases hs:σ.sl t.page t.i= .opened t.k
 ·rw[if_pos hs];obtain⟨⟨b,f⟩,_⟩:=zhs o (.inl hs);refine⟨⟨zf3 o f (.inl hs) c1,?_,⟨rfl,fun e=>(by have e:t.done=true:=e;rw[hd]at e;cases e)⟩⟩,zdn (fun n e=>by cases e) (z1x hs),rfl⟩;have l:zhd {t with i:=t.i+1}= .ways t.page (t.i+1) t.k:=by unfold zhd;dsimp only;rw[C];rfl
  dsimp only;rw[l];exact(zfc o r f (.inl hs)).eqv (.trans (.zp7 _ _ _) (.add R (Own.znw c4.1)))
 rw[if_neg hs];refine⟨⟨Kept.refl o,?_,⟨rfl,fun e _=>by simpa using e⟩⟩,Calm.refl _,rfl⟩;have l:zhd {t with back:=true,done:=decide (t.i=0)}= .ways t.page t.i t.k:=by unfold zhd;dsimp only;rw[C];rfl
 dsimp only;rw[l];exact r
def zhe (t:Bn):Own:=if t.bound=true then .ways t.page (t.i + 1) t.k else .page t.page
def zu0 (c:Int) (σ:Ab) (t:Bn):Prop:=t.c=c/\(t.bound=false->∀ j,0<=j->j < t.i->σ.sl t.page j=if j < zah t.k then .way c else .none)/\(t.done=true->t.bound=true/\t.i=0)
theorem zu0.same{t:Bn}(h:zu0 c σ t)(b:t.bound=false->σ.pg t.page= .held c)(hs:Same c σ σ'):zu0 c σ' t:=⟨h.1,fun hb j h0 h1=>(hs.hs _ _ (b hb)).trans (h.2.1 hb j h0 h1),h.2.2⟩
theorem yar{t:Bn}(B:GI s σ)(N:bnOk s t)(hd:t.done=false)(M:¬ R.h t.page)(G:∀ q,¬ R.b q t.page)(H:∀ i F,¬ R.w t.page i F)(r:zaz σ c (R.add (zhe t)))(hi:zu0 c σ t):Goes s c σ (bnA s t σ) R zhe (zu0 c)/\Calm σ (bnA s t σ).2/\(bnA s t σ).1.page=t.page/\(bnA s t σ).1.k=t.k  :=by
 obtain⟨rfl,hi⟩:=hi;obtain⟨c1,c2,c3,c4,c5⟩:=N.cl hd;unfold bnA;rw[if_neg (by rw[hd];decide)];by_cases hb:t.bound=true
 ·rw[if_pos hb];have L:=c5 hb;have I:zhe t= .ways t.page (t.i+1) t.k:=by unfold zhe;rw[hb];rfl
  rw[I]at r;have y:zaz σ t.c ((R.add (.ways t.page t.i t.k)).add (.way t.page t.i t.k)):=r.eqv (.trans (.add R (.symm (Own.znw (by omega)))) (.symm (.zp7 _ _ _)));obtain⟨⟨b,f⟩,hs⟩:=(y.w t.page t.i t.k).2 (.inl (.inr ⟨rfl,rfl,rfl⟩));have O:∀ F,¬ (R.add (.ways t.page t.i t.k)).w t.page t.i F:=fun F e=>by
   rcases e with e|e
   ·exact H _ _ e
   have:=e.2.1;omega
  refine⟨⟨zc6 B f hs (.inl rfl) (znc y f),?_,⟨rfl,fun e=>(by have e:t.bound=false:=e;rw[hb]at e;cases e),fun e=>⟨hb,by simpa using e⟩⟩⟩,zdn (fun n e=>by cases e) (fun n e=>by rw[hs]at e;cases e),rfl,rfl⟩;have l:zhe {t with i:=t.i-1,done:=decide (t.i-1=0)}= .ways t.page t.i t.k:=by unfold zhe;dsimp only;rw[if_pos hb,show t.i-1+1=t.i by omega]
  dsimp only;rw[l];exact zdd (u:= .opened t.k) y O f (.inl rfl)
 rw[if_neg hb];have o:t.bound=false:=by simpa using hb
 have I:zhe t= .page t.page:=by unfold zhe;rw[o];rfl
 rw[I]at r;have f:σ.pg t.page= .held t.c:=(r.h t.page).2 (.inr rfl);have D:∀ q,σ.pg q≠ .body t.page:=fun q e=>by
  rcases(r.b q t.page).1 ⟨e,f⟩ with e|e
  ·exact G q e
  exact e
 by_cases C:t.i=16
 ·rw[if_pos C];have E:∀ i,σ.sl t.page i=if 0<=i/\i<zah t.k then .way t.c else .none:=fun i=>by
   by_cases z:0<=i/\i<16
   ·have:=hi.1 o i z.1 (by omega);rw[this];by_cases h1:i<zah t.k
    ·rw[if_pos h1,if_pos ⟨z.1,h1⟩]
    rw[if_neg h1,if_neg (fun e=>h1 e.2)]
   have S:=zcy t.k;rw[if_neg (by omega)];rcases zgg B f i with e|e
   ·exact e
   exact absurd ⟨e.2.1,e.2.2⟩ z
  refine⟨⟨zpg B f (zgr c3) E D,?_,⟨rfl,fun e=>(by cases e),fun e=>(by have e:t.done=true:=e;rw[hd]at e;cases e)⟩⟩,zdt (fun n e=>by cases e) (fun n e=>by rw[f]at e;cases e),rfl,rfl⟩;have l:zhe {t with bound:=true,i:=zah t.k-1}= .ways t.page (zah t.k) t.k:=by unfold zhe;dsimp only;rw[if_pos rfl,show zah t.k-1+1=zah t.k by omega]
  dsimp only;rw[l];exact zn3 B r M E D
 rw[if_neg C];have T:(if t.i<zah t.k then SW.way t.c else SW.none)= .none\/((if t.i<zah t.k then SW.way t.c else SW.none)= .way t.c/\0<=t.i/\t.i<16):=by
  split
  ·exact .inr ⟨rfl,by omega,by omega⟩
  exact .inl rfl
 refine⟨⟨zgw B f T,?_,⟨rfl,fun _ j h0 h1=>?_,fun e=>(by have e:t.done=true:=e;rw[hd]at e;cases e)⟩⟩,zdn (fun n e=>by split at e<;>cases e) (fun n e=>by rcases zgg B f t.i with l|l;(rw[l]at e;cases e);(rw[l.1]at e;cases e)),rfl,rfl⟩
 ·have l:zhe {t with i:=t.i+1}= .page t.page:=by unfold zhe;dsimp only;rw[o];rfl
  dsimp only;rw[l];exact ziy r f
 dsimp only at h1 ⊢;by_cases J:j=t.i
 ·subst J;rw[zbs]
 rw[zbq _ _ (fun e=>J e.2)];exact hi.1 o j h0 (by omega)
end

end Go.Proofs.YtedcnffebdpmmaaGreat
