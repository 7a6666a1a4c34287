/- Lemmas for the claim. -/
import Derived.Test.YtkilokkopbajkaaGreatBw28

import Derived.Test.YtkilokkopbajkaaGreatBw32

set_option linter.all false
namespace Go.Proofs.YtkilokkopbajkaaGreat

section

structure Wd where
 m:Mem
 l:List (Option Kl)
 tr:List Ev
 lg:List Acc
def Ch.op (x:Ch):Op3:=⟨x.ok,x.oa,x.on⟩
def rE (c:Int):Ev:=⟨0,c,0,0,0,0,0,0⟩
def QE (c:Int):Ev:=⟨1,c,0,0,0,0,0,0⟩
def Mem.put (m:Mem) (a x:Int):Mem:=⟨m.ws.set a.toNat x,m.st,m.la⟩
def ZA (s:Sh):Wd:=⟨oF (oB s.p s.c s.m).toNat,List.replicate s.c.toNat none, [], []⟩
def Wd.kl (d:Wd) (c:Int):Option Kl:=if 0<=c then d.l.getD c.toNat none else none
def Wd.stat (d:Wd) (c:Int):Int:=QD (d.m.get c)
def Wd.begin (s:Sh) (d:Wd) (x:Ch):Wd × Int:=
 if d.stat x.client=0 then (⟨d.m.put x.client (WA 1 0),d.l.set x.client.toNat (some (xE x.client (Fl.ZC x.bias s.p))),d.tr ++ [rE x.client],d.lg⟩,0) else (d,5)
def Wd.step (s:Sh) (d:Wd) (c:Int) (k:Kl):Wd × Int:=
 (⟨(k.step s d.m).2.1,d.l.set c.toNat (some (k.step s d.m).1),d.tr ++ (k.step s d.m).2.2.1,if d.m.st < (k.step s d.m).2.1.st then d.lg ++ [(k.step s d.m).2.1.la] else d.lg⟩,(k.step s d.m).2.2.2)
def Wd.ask (s:Sh) (d:Wd) (x:Ch) (k:Kl):Wd × Int:=
 (⟨d.m,d.l.set x.client.toNat (some (k.invoke s x.op).1),d.tr ++ (k.invoke s x.op).2.1,d.lg⟩,(k.invoke s x.op).2.2)
def Wd.kill (d:Wd) (c:Int):Wd × Int:=(⟨d.m.put c (WA 2 0),d.l.set c.toNat none,d.tr ++ [QE c],d.lg⟩,0)
def Ch.bad (s:Sh) (x:Ch):Prop:=x.kind < 1\/4 < x.kind\/x.client < 0\/s.c<=x.client
instance (s:Sh) (x:Ch):Decidable (x.bad s):=by unfold Ch.bad;infer_instance
def Wd.act (s:Sh) (d:Wd) (x:Ch):Wd × Int:=
 if x.bad s then (d,1)
 else if x.kind=1 then d.begin s x
 else match d.kl x.client with
  | none=> (d,2)
  | some k=> if x.kind=3 then d.step s x.client k else if x.kind=2 then d.ask s x k else d.kill x.client
structure wdOk (s:Sh) (d:Wd) (n:Nat):Prop where
 fi:Fits s d.m
 fit:d.m.fit
 len:d.l.length=s.c.toNat
 kl:∀ c k,d.kl c=some k->klOk s k/\k.c=c/\0<=c/\c < s.c
 st:0<=d.m.st/\d.m.st<=n
 tr:d.tr.length<=3 * n
 lg:d.lg.length=d.m.st
theorem Wd.lC{d:Wd}{c:Int}{k:Kl}(h:d.kl c=some k):0<=c/\c.toNat<d.l.length:=by
 unfold Wd.kl at h;split at h
 ·rename_i h0;by_cases hc:c.toNat<d.l.length
  ·exact⟨h0,hc⟩
  rw[List.getD_eq_getElem?_getD,List.getElem?_eq_none (by omega)]at h;simp at h
 cases h
theorem dM{b:Type}(l:List (Option b))(i j:Nat)(v:Option b)(hi:i<l.length):(l.set i v).getD j none=if i=j then v else l.getD j none:=by
 rw[List.getD_eq_getElem?_getD,List.getD_eq_getElem?_getD,List.getElem?_set];by_cases h:i=j
 ·subst h;simp[hi]
 simp[h]
theorem Wd.TB(d:Wd){x:Int}(b:0<=x)(hi:x.toNat<d.l.length)(v:Option Kl)(m:Mem)(tr:List Ev)(lg:List Acc)(c:Int):(⟨m,d.l.set x.toNat v,tr,lg⟩:Wd).kl c=if c=x then v else d.kl c:=by
 unfold Wd.kl;dsimp only;by_cases h0:0<=c
 ·rw[jP h0,jP h0,dM _ _ _ _ hi];by_cases h:c=x
  ·rw[jP (by omega),jP h]
  rw[jN (by omega),jN h]
 rw[jN h0,jN h0,jN (by omega)]
theorem Mem.OS{m:Mem}(h:m.fit)(a x:Int)(b:0<=x/\x<18446744073709551616):(m.put a x).fit:=bQ h b
theorem Kl.z0d(k:Kl)(j:Jb):(k.tells j).length<=3:=by
 unfold Kl.tells;rw[List.length_append];have h1:(if j.gave=true/\k.told=false then [pE k.c k.op.a] else []).length<=1:=by split<;>simp
 have h2:(if j.done=true then(match j.took with|some b=>[kE k.c b.at' b.len]|none=>[])++[OA k.c k.op (sB j.took) j.err] else []).length<=2:=by
  split
  ·rw[List.length_append];have:(match j.took with|some b=>[kE k.c b.at' b.len]|none=>[]).length<=1:=by cases j.took<;>simp
   simp;omega
  simp
 exact Nat.add_le_add h1 h2
theorem Kl.ZW(s:Sh)(k:Kl)(m:Mem):(k.step s m).2.2.1.length<=3:=by
 unfold Kl.step;split
 ·simp
 exact Kl.z0d _ _
theorem Kl.SU(s:Sh)(k:Kl)(o:Op3):(k.invoke s o).2.1.length<=2:=by
 unfold Kl.invoke;split
 ·simp
 split
 ·simp
 split<;>simp
theorem aP{s:Sh}(h:mayB s.p s.c s.m=true):wdOk s (ZA s) 0:=by
 have f:0<=oB s.p s.c s.m:=(z6x _ _ _).1;refine⟨⟨h,?_⟩,eV _,by simp[ZA],fun c k b=>?_,⟨Int.le_refl _,Int.le_refl _⟩,by simp[ZA],rfl⟩
 ·show (((List.replicate _ (0:Int)).length:Nat):Int)=_;rw[List.length_replicate];omega
 unfold Wd.kl ZA at b;dsimp only at b;rw[List.getD_eq_getElem?_getD,List.getElem?_replicate]at b;split at b
 ·split at b<;>simp at b
 cases b
theorem zkh{s:Sh}{k:Kl}{m:Mem}(h:klOk s k)(i:Fits s m)(b:m.fit):(k.job=none/\k.step s m=(k,m, [],2))\/(∃ j,k.job=some j/\Acts k.c m (k.step s m).2.1/\klOk s (k.step s m).1/\(k.step s m).2.2.2=0):=by
 rcases hj:k.job with _|j
 ·exact .inl ⟨rfl,by unfold Kl.step;rw[hj]⟩
 have f:=rW h hj i b;exact .inr ⟨j,rfl,f.1,f.2,by unfold Kl.step;rw[hj]⟩
theorem FG{s:Sh}{d:Wd}{n:Nat}(h:wdOk s d n)(x:Ch):wdOk s (d.act s x).1 (n+1):=by
 have D:=h.fi.may;have hb:=h.fi.bd;have h1:=h.st;have h2:=h.tr;have h3:=h.lg;have h0:wdOk s d (n+1):=⟨h.fi,h.fit,h.len,h.kl,⟨h1.1,by omega⟩,by omega,h3⟩;unfold Wd.act;split
 ·exact h0
 rename_i p;unfold Ch.bad at p;have hc:0<=x.client/\x.client<s.c:=by omega
 have hi:x.client.toNat<d.l.length:=by rw[h.len];omega
 have f:∀ (v:Option Kl),(∀ k,v=some k->klOk s k/\k.c=x.client)->∀ (m:Mem) tr lg c k,(⟨m,d.l.set x.client.toNat v,tr,lg⟩:Wd).kl c=some k->klOk s k/\k.c=c/\0<=c/\c<s.c:=fun v y m tr lg c k i=>by
  rw[d.TB hc.1 hi]at i;split at i
  ·rename_i e;subst e;exact⟨(y k i).1,(y k i).2,hc⟩
  exact h.kl c k i
 split
 ·unfold Wd.begin;split
  ·refine⟨h.fi.TF (by simp[Mem.put]),Mem.OS h.fit _ _ (HH _ _),by simpa using h.len,?_,⟨h1.1,by show d.m.st<=_;omega⟩,by simp;omega,h3⟩;exact f _ (fun k i=>by injection i with i;subst i;exact⟨z6w hc (Fl.z2u _ (by omega)),rfl⟩) _ _ _
  exact h0
 split
 ·exact h0
 rename_i k i;have o:=h.kl _ _ i;split
 ·have C:=Kl.ZW s k d.m;have r:=(z6l s k d.m).1;unfold Wd.step;rcases zkh o.1 h.fi h.fit with⟨B,e⟩|⟨j,B,q,t,F⟩
  ·rw[e];dsimp only;rw[jN (by omega)];exact⟨h.fi,h.fit,by simpa using h.len,f _ (fun z b=>by injection b with b;subst b;exact⟨o.1,o.2.1⟩) _ _ _,⟨h1.1,by show d.m.st<=_;omega⟩,by simp;omega,h3⟩
  have E:=q.st;rw[jP (by omega)];refine⟨q.fits h.fi,q.fit h.fit,by simpa using h.len,f _ (fun z b=>by injection b with b;subst b;exact⟨t,r.trans o.2.1⟩) _ _ _,⟨by dsimp only;omega,by dsimp only;omega⟩,by simp;omega,by simp;omega⟩
 split
 ·have C:=Kl.SU s k x.op;unfold Wd.ask;exact⟨h.fi,h.fit,by simpa using h.len,f _ (fun z b=>by injection b with b;subst b;exact⟨mX x.op D o.1,(SX s k x.op).1.trans o.2.1⟩) _ _ _,⟨h1.1,by dsimp only;omega⟩,by simp;omega,h3⟩
 unfold Wd.kill;exact⟨h.fi.TF (by simp[Mem.put]),Mem.OS h.fit _ _ (HH _ _),by simpa using h.len,f _ (fun k i=>by cases i) _ _ _,⟨h1.1,by show d.m.st<=_;omega⟩,by simp;omega,h3⟩
def Bl.at':Bl->Int
 | .lar p _=> p * 64
 | .sm p i k=> p * 64 + i * qA k
def Bl.len:Bl->Int
 | .lar _ n=> n * 64
 | .sm _ _ k=> qA k
variable {s:Sh} {σ:Ab}

theorem cJ{k:Int}(h:0<=k/\k<=3):(qA k=4/\mA k=16)\/(qA k=8/\mA k=8)\/(qA k=16/\mA k=4)\/(qA k=32/\mA k=2):=by
 have:k=0\/k=1\/k=2\/k=3:=by omega
 rcases this with rfl|rfl|rfl|rfl<;>decide
theorem sH{i k:Int}(j:0<=k/\k<=3)(hi:0<=i/\i<mA k):0<=i*qA k/\i*qA k+qA k<=64/\1<=qA k:=by
 rcases cJ j with⟨b,f⟩|⟨b,f⟩|⟨b,f⟩|⟨b,f⟩<;>rw[b]<;>rw[f]at hi<;>omega
theorem jM{i j k:Int}(m:0<=k/\k<=3)(h:i<j):i*qA k+qA k<=j*qA k:=by
 rcases cJ m with⟨b,f⟩|⟨b,f⟩|⟨b,f⟩|⟨b,f⟩<;>rw[b]<;>omega
theorem AH(f:GI s σ){p i k:Int}(h:σ.has (.sm p i k)):(∃ b,σ.pg p= .super k b)/\(0<=i/\i<mA k)/\(0<=k/\k<=3)/\0<=p/\p<s.p:=by
 obtain⟨⟨b,h1⟩,h2⟩:=CJ f (.inr h);have h3:=GJ f h1;exact⟨⟨b,h1⟩,h2,h3.2.1,h3.1⟩
theorem WJ(f:GI s σ){b:Bl}(h:σ.has b):0<=b.at'/\1<=b.len/\b.at'+b.len<=s.p*64:=by
 cases b with
 |lar p n=>have:=QH f h;simp only[Bl.at',Bl.len];omega
 |sm p i k=>obtain⟨_,h2,h3,h4⟩:=AH f h;have:=sH h3 h2;simp only[Bl.at',Bl.len];omega
theorem xW(f:GI s σ){a b:Bl}(t:σ.has a)(hb:σ.has b)(o:a≠b):¬ (a.at'<b.at'+b.len/\b.at'<a.at'+a.len):=by
 have lar:∀ p n q,σ.pg p= .large n->(∀ g,σ.pg q≠ .body g)->p<q->p+n<=q:=fun p n q h1 h2 h3=>by
  by_cases e:p+n<=q
  ·exact e
  have:=f.lg p n h1 (q-p) (by omega) (by omega);rw[show p+(q-p)=q by omega]at this;exact absurd this (h2 p)
 cases a with
 |lar p n=>
  cases b with
  |lar q m=>
   have h1:σ.pg p= .large n:=t
   have h2:σ.pg q= .large m:=hb
   have z:=QH f h1
   have L:=QH f h2
   simp only[Bl.at',Bl.len]
   rcases Int.lt_trichotomy p q with e|e|e
   ·have:=lar p n q h1 (fun g e=>by rw[h2]at e;cases e) e
    omega
   ·subst e
    rw[h1]at h2;injection h2 with h2;subst h2
    exact absurd rfl o
   ·have:=lar q m p h2 (fun g e=>by rw[h1]at e;cases e) e
    omega
  |sm q i k=>
   have h1:σ.pg p= .large n:=t
   obtain⟨⟨b,h2⟩,h3,h4,E⟩:=AH f hb
   have y:=sH h4 h3
   have z:=QH f h1
   simp only[Bl.at',Bl.len]
   rcases Int.lt_trichotomy p q with e|e|e
   ·have:=lar p n q h1 (fun g e=>by rw[h2]at e;cases e) e
    omega
   ·subst e;rw[h1]at h2;cases h2
   ·omega
 |sm p i k=>
  obtain⟨⟨F,h2⟩,h3,h4,E⟩:=AH f t
  have y:=sH h4 h3
  cases b with
  |lar q m=>
   have h1:σ.pg q= .large m:=hb
   have z:=QH f h1
   simp only[Bl.at',Bl.len]
   rcases Int.lt_trichotomy q p with e|e|e
   ·have:=lar q m p h1 (fun g e=>by rw[h2]at e;cases e) e
    omega
   ·subst e;rw[h1]at h2;cases h2
   ·omega
  |sm q j J=>
   obtain⟨⟨G,r⟩,B,C,I⟩:=AH f hb
   have D:=sH C B
   simp only[Bl.at',Bl.len]
   rcases Int.lt_trichotomy q p with e|e|e
   ·omega
   ·subst e
    rw[h2]at r;injection r with r _;subst r
    rcases Int.lt_trichotomy i j with e|e|e
    ·have:=jM (i:=i) (j:=j) h4 e;omega
    ·subst e;exact absurd rfl o
    ·have:=jM (i:=j) (j:=i) h4 e;omega
   ·omega
theorem NY(f:GI s σ){a b:Bl}(i:σ.has a)(hb:σ.has b)(h:a.at'=b.at'):a=b:=by
 by_cases e:a=b
 ·exact e
 have h1:=WJ f i;have h2:=WJ f hb;exact absurd ⟨by omega,by omega⟩ (xW f i hb e)
structure KD (W:Int) (H:Bl->Prop) (l:List Bk):Prop where
 ok:okK W 0 l
 mem:∀ a n,⟨a,n⟩ ∈ l↔∃ b,H b/\b.at'=a/\b.len=n
def EK (H:Bl->Prop):Prop:=∀ a b,H a->H b->a.at'=b.at'->a=b
variable {W:Int} {H H':Bl->Prop} {l:List Bk}

theorem KD.found(h:KD W H l)(a:Int):iB a l=true↔∃ b,H b/\b.at'=a:=by
 rw[XJ h.ok];constructor
 ·rintro⟨⟨x,n⟩,hb,rfl⟩;obtain⟨b,h1,h2,h3⟩:=(h.mem x n).1 hb;exact⟨b,h1,h2⟩
 rintro⟨b,h1,h2⟩;exact⟨⟨a,b.len⟩,(h.mem _ _).2 ⟨b,h1,h2,rfl⟩,rfl⟩
theorem z90{a n:Int}{x:Bk}:x ∈ putB l a n↔x ∈ l\/x=⟨a,n⟩:=by
 unfold putB;rw[List.mem_append,List.mem_cons];have:x ∈ l↔x ∈ l.take (posB a l)\/x ∈ l.drop (posB a l):=by rw[<-List.mem_append,List.take_append_drop]
 rw[this];constructor
 ·rintro(h|h|h)
  ·exact .inl (.inl h)
  ·exact .inr h
  exact .inl (.inr h)
 rintro((h|h)|h)
 ·exact .inl h
 ·exact .inr (.inr h)
 exact .inr (.inl h)
theorem z7j{lo a:Int}(j:okK W lo l)(m:iB a l=true){x:Bk}:x ∈ NI l a↔x ∈ l/\x.a≠a:=by
 obtain⟨h1,h2⟩:=(LJ a l).1 m;unfold NI;constructor
 ·intro h;have f:x ∈ l:=by
   rcases List.mem_append.1 h with h|h
   ·exact List.mem_of_mem_take h
   exact List.mem_of_mem_drop h
  refine⟨f,fun e=>?_⟩;rcases List.mem_append.1 h with h|h
  ·obtain⟨i,hi,rfl⟩:=List.getElem_of_mem h;rw[List.length_take]at hi;rw[List.getElem_take]at e;have:=XU a l i (by omega) (by omega);omega
  obtain⟨i,hi,rfl⟩:=List.getElem_of_mem h;rw[List.length_drop]at hi;rw[List.getElem_drop]at e;have:=j.lt (posB a l) (posB a l+1+i) (by omega) (by omega);have:=(j.mem _ (List.getElem_mem h1)).2.1;omega
 rintro⟨f,b⟩;have h3:l=l.take (posB a l)++l[posB a l]::l.drop (posB a l+1):=by rw[<-List.drop_eq_getElem_cons h1,List.take_append_drop]
 rw[h3]at f;rcases List.mem_append.1 f with h|h
 ·exact List.mem_append.2 (.inl h)
 rcases List.mem_cons.1 h with h|h
 ·rw[h]at b;exact absurd h2 b
 exact List.mem_append.2 (.inr h)
theorem KD.plus(h:KD W H l){b:Bl}(m:∀ x,H' x↔(H x\/x=b))(f:0<=b.at'/\1<=b.len/\b.at'+b.len<=W)(j:∀ x,H x->¬ (x.at'<b.at'+b.len/\b.at'<x.at'+x.len)):AB W l b.at' b.len=true/\KD W H' (putB l b.at' b.len):=by
 have i:∀ x ∈ l,¬ (x.a<b.at'+b.len/\b.at'<x.a+x.n):=fun x o=>by obtain⟨y,h1,h2,h3⟩:=(h.mem x.a x.n).1 o;have:=j y h1;rw[h2,h3]at this;exact this
 refine⟨?_,⟨bK h.ok f.1 f.2.1 f.2.2 i,fun a n=>?_⟩⟩
 ·unfold AB DF;rw[jT (by omega:1<=b.len/\0<=b.at'/\b.at'<=W/\b.len<=W-b.at'),Bool.true_and];have:l.any (fun x=>meets x b.at' b.len)=false:=by rw[List.any_eq_false];intro x o;simp only[meets,decide_eq_true_eq];exact i x o
  rw[this];rfl
 rw[z90,h.mem a n];constructor
 ·rintro(⟨x,h1,h2,h3⟩|e)
  ·exact⟨x,(m x).2 (.inl h1),h2,h3⟩
  injection e with p q;exact⟨b,(m b).2 (.inr rfl),p.symm,q.symm⟩
 rintro⟨x,h1,h2,h3⟩;rcases(m x).1 h1 with e|e
 ·exact .inl ⟨x,e,h2,h3⟩
 subst e;exact .inr (by rw[h2,h3])
theorem KD.minus(h:KD W H l)(h1:EK H){b:Bl}(hb:H b)(q:∀ x,H' x↔(H x/\x≠b)):iB b.at' l=true/\KD W H' (DB l b.at'):=by
 have m:iB b.at' l=true:=(h.found _).2 ⟨b,hb,rfl⟩;refine⟨m,⟨AT h.ok,fun a n=>?_⟩⟩;unfold DB;rw[jP m,z7j h.ok m,h.mem a n];constructor
 ·rintro⟨⟨x,i,f,j⟩,o⟩;exact⟨x,(q x).2 ⟨i,fun e=>by subst e;exact o f.symm⟩,f,j⟩
 rintro⟨x,i,f,j⟩;obtain⟨p,r⟩:=(q x).1 i;exact⟨⟨x,p,f,j⟩,fun e=>r (h1 x b p hb (by rw[f];exact e))⟩
theorem KD.congr(h:KD W H l)(e:∀ x,H' x↔H x):KD W H' l:=⟨h.ok,fun a n=>(h.mem a n).trans ⟨fun ⟨b,h1,h2⟩=>⟨b,(e b).2 h1,h2⟩,fun ⟨b,h1,h2⟩=>⟨b,(e b).1 h1,h2⟩⟩⟩
end

section

variable {s:Sh} {σ:Ab} {c:Int}

def ZH (n:Int) (t:Rs):Prop:=(wi n 1 32=true/\t.k=BB n/\∃ x,t.seeker=some x)\/(wi n 1 32=false/\wi n 33 512=true/\t.pages=runV n/\t.seeker=none)
theorem pO(b:Blk):(kD b).at'=b.at'/\(kD b).len=b.len:=by
 unfold kD Blk.at' Blk.len;split<;>exact⟨rfl,rfl⟩
theorem PV{n:Int}{t:Rs}{b:Blk}(h:ZH n t)(f:t.got=some b):b.len=lenV n:=by
 obtain⟨k,pg,sk,rn⟩:=t;unfold Rs.got at f;unfold lenV;rcases h with⟨h1,h2,x,h3⟩|⟨h1,h2,h3,h4⟩
 ·dsimp only at h2 h3 f;subst h3;dsimp only at f;split at f
  ·injection f with f;subst f;rw[jP h1,<- h2];rfl
  cases f
 dsimp only at h3 h4 f;subst h4;rcases rn with _|y
 ·cases f
 dsimp only at f;split at f
 ·injection f with f;subst f;rw[jN (by rw[h1];decide),<- h3];rfl
 cases f
theorem KV{n:Int}(h:lenB n=true)(s:Sh)(c f:Int):ZH n (CB s c n f):=by
 have i:=IA.1 (show wi n 1 512=true from h);unfold CB ZH;by_cases h1:wi n 1 32=true
 ·rw[jP h1];exact .inl ⟨h1,rfl,_,rfl⟩
 have b:wi n 1 32=false:=by simpa using h1
 have j:=qG.1 b;have h2:wi n 33 512=true:=IA.2 (by omega);rw[jN h1,jP h2];exact .inr ⟨b,h2,rfl,rfl⟩
theorem oV{n:Int}{t:Rs}(h:ZH n t)(s:Sh)(σ:Ab):ZH n (rsA s t σ).1:=by
 obtain⟨k,pg,sk,rn⟩:=t;unfold rsA;rcases h with⟨h1,h2,x,h3⟩|⟨h1,h2,h3,h4⟩
 ·dsimp only at h2 h3;subst h3;exact .inl ⟨h1,h2,_,rfl⟩
 dsimp only at h3 h4;subst h4;rcases rn with _|y
 ·exact .inr ⟨h1,h2,h3,rfl⟩
 exact .inr ⟨h1,h2,h3,rfl⟩
structure xG (H:Bl->Prop) (ab:Bool) (a:Int) (f:Fe):Prop where
 ad:f.a=a
 pg:f.page=a / 64
 bl:f.done=false->1<=f.next->(feBl f).at'=a
 see:f.done=false->f.next=1->ab=true\/H (feBl f)
 no:f.done=true->f.gave=false->ab=true
theorem zW{a:Int}(hs:mayB s.p s.c s.m=true)(hc:0<=c/\c<s.c)(f:spB s a=true)(H:Bl->Prop)(ab:Bool):xG H ab a (nB s c a):=by
 have b:=IU (c:=c) hs hc f;refine⟨rfl,jP f,fun _ e=>?_,fun _ e=>?_,fun e=>?_⟩
 ·rw[b.2.1]at e;omega
 ·rw[b.2.1]at e;cases e
 rw[b.1]at e;cases e
theorem z4z{t:Fe}{x:PW}(hd:t.done=false):(t.ZB x).a=t.a/\(t.ZB x).page=t.page/\(t.ZB x).gave=t.gave/\(t.ZB x).next=1/\(t.ZB x).pk=x.kind/\(t.ZB x).pa=x.pa/\(((t.ZB x).done=false/\((x.kind=3/\t.a%64=0)\/(x.kind=2/\t.a%64%qA x.pa=0/\(t.ZB x).slot=t.a%64/qA x.pa)))\/((t.ZB x).done=true/\¬ (x.kind=3/\t.a%64=0)/\¬ (x.kind=2/\t.a%64%qA x.pa=0))):=by
 unfold Fe.ZB;dsimp only;split
 ·rename_i h;exact⟨rfl,rfl,rfl,rfl,rfl,rfl,.inl ⟨hd,.inl h⟩⟩
 rename_i h;split
 ·rename_i h2;exact⟨rfl,rfl,rfl,rfl,rfl,rfl,.inl ⟨hd,.inr ⟨h2.1,h2.2,rfl⟩⟩⟩
 rename_i h2;exact⟨rfl,rfl,rfl,rfl,rfl,rfl,.inr ⟨rfl,h,h2⟩⟩
theorem ZV(j:GI s σ){b:Bl}{a:Int}(hb:σ.has b)(f:b.at'=a):(∃ n,b= .lar (a/64) n/\σ.pg (a/64)= .large n/\a%64=0)\/(∃ i k q,b= .sm (a/64) i k/\σ.pg (a/64)= .super k q/\a%64=i*qA k/\0<=k/\k<=3/\0<=i/\i<mA k):=by
 cases b with
 |lar p n=>
  have h1:σ.pg p= .large n:=hb;have:=QH j h1;simp only[Bl.at']at f;have e:p=a/64:=by omega
  subst e;exact .inl ⟨n,rfl,h1,by omega⟩
 |sm p i k=>
  obtain⟨⟨q,h1⟩,h2,h3,h4⟩:=AH j hb;have m:=sH h3 h2;simp only[Bl.at']at f;have e:p=a/64:=by omega
  subst e;exact .inr ⟨i,k,q,rfl,h1,by omega,h3.1,h3.2,h2.1,h2.2⟩
theorem z4u{k:Int}(h:0<=k/\k<=3):0<qA k:=by rcases cJ h with⟨e,_⟩|⟨e,_⟩|⟨e,_⟩|⟨e,_⟩<;>rw[e]<;>decide
theorem RU{m:Mem}{t:Fe}{a:Int}{ab ab':Bool}(hr:Rep s m σ)(Z:GI s σ)(T:feIs s c t)(hd:t.done=false)(hw:t.next=1->t.pk=3->t.word=(PW.large t.pa).enc)(h:xG σ.has ab a t)(I:(∀ b,σ.has b->b.at'≠a)->ab=true)(C:ab=true->ab'=true):
  xG (feA s t σ).2.has ab' a (feA s t σ).1:=by
 obtain⟨c1,c2,c3,c4,c5,c6,c7,c8,c9,b0⟩:=T.ok.cl hd;obtain⟨h1,h2,h3,h4,h5⟩:=h;unfold feA;rw[jN (by rw[hd];decide)];by_cases n0:t.next=0
 ·rw[jP n0];obtain⟨l1,F,l3,l4,V,R,S⟩:=z4z (t:=t) (x:=σ.pg t.page) hd;dsimp only;rw[h2]at l1 F l3 l4 V R S ⊢;refine⟨l1.trans h1,F,fun e _=>?_,fun e _=>?_,fun e _=>?_⟩
  ·rcases S with⟨_,⟨f,o⟩|⟨f,o,G⟩⟩|⟨f,_⟩
   ·unfold feBl;rw[jP (V.trans f)];show (t.ZB _).page*64=a;rw[F];rw[h1]at o;omega
   ·unfold feBl;rw[jN (by omega)];show (t.ZB _).page*64+(t.ZB _).slot*qA (t.ZB _).pa=a;rw[F,G,R];rw[h1]at o ⊢;have:=Int.ediv_mul_cancel (Int.dvd_of_emod_eq_zero o);rw[this];omega
   rw[f]at e;cases e
  ·rcases S with⟨_,⟨f,o⟩|⟨f,o,G⟩⟩|⟨f,_⟩
   ·refine .inr ?_;unfold feBl;rw[jP (V.trans f)];show σ.pg (t.ZB _).page= .large (t.ZB _).pa;rw[F,R];cases p:σ.pg (a/64)<;>rw[p]at f<;>simp[PW.kind]at f;rfl
   ·by_cases r:σ.has (feBl (t.ZB (σ.pg (a/64))))
    ·exact .inr r
    refine .inl (C (I fun b hb z=>r ?_));have j:feBl (t.ZB (σ.pg (a/64)))= .sm (a/64) (a%64/qA (σ.pg (a/64)).pa) (σ.pg (a/64)).pa:=by unfold feBl;rw[jN (by omega),F,G,R,h1]
    rcases ZV Z hb z with⟨n,f1,f2,E⟩|⟨i,k,q,f1,f2,E,X,Y,f6⟩
    ·rw[f2]at f;cases f
    rw[j,f2];show σ.has (.sm (a/64) (a%64/qA k) k);rw[E,Int.mul_ediv_cancel _ (by have:=z4u ⟨X,Y⟩;omega)];rw[f1]at hb;exact hb
   rw[f]at e;cases e
  rcases S with⟨f,_⟩|⟨_,f,o⟩
  ·rw[f]at e;cases e
  refine C (I fun b hb z=>?_);rw[h1]at f o;rcases ZV Z hb z with⟨n,f1,f2,E⟩|⟨i,k,q,f1,f2,E,X,Y,f6⟩
  ·exact f ⟨by rw[f2];rfl,E⟩
  exact o ⟨by rw[f2];rfl,by rw[f2];show a%64%qA k=0;rw[E];exact Int.mul_emod_left _ _⟩
 rw[jN n0];by_cases n1:t.next=1
 ·rw[jP n1];have J:=T.gv (by omega);have L:¬ σ.has (feBl t)->ab'=true:=fun hn=>by
   rcases h4 hd n1 with e|e
   ·exact C e
   exact absurd e hn
  have j:=h3 hd (by omega);by_cases D:t.pk=3
  ·rw[jP D];have B:feBl t= .lar t.page t.pa:=jP D;by_cases p:(σ.pg t.page).enc=t.word
   ·rw[jP p];exact⟨h1,h2,fun _ _=>j,fun _ e=>(by cases e),fun e=>(by cases e)⟩
   rw[jN p];refine⟨h1,h2,fun e=>(by cases e),fun e=>(by cases e),fun _ _=>L fun r=>p ?_⟩;rw[B]at r;have r:σ.pg t.page= .large t.pa:=r;rw[r,hw n1 D]
  rw[jN D];have B:feBl t= .sm t.page t.slot t.pa:=jN D;have keep:∀ g,(t.gotA s g).a=t.a/\(t.gotA s g).page=t.page/\(t.gotA s g).slot=t.slot/\(t.gotA s g).pk=t.pk/\(t.gotA s g).pa=t.pa/\(t.gotA s g).gave=g/\(t.gotA s g).done= !g/\(g=true->(t.gotA s g).next≠1):=fun g=>by
   unfold Fe.gotA;dsimp only;split
   ·unfold Fe.kept;dsimp only;split
    ·exact⟨rfl,rfl,rfl,rfl,rfl,rfl,rfl,fun _=>(by dsimp only;first|decide|omega|simp)⟩
    split<;>exact⟨rfl,rfl,rfl,rfl,rfl,rfl,rfl,fun _=>(by dsimp only;first|decide|omega|simp)⟩
   exact⟨rfl,rfl,rfl,rfl,rfl,rfl,rfl,fun _=>(by dsimp only;first|decide|omega|simp)⟩
  by_cases p:σ.sl t.page t.slot= .taken t.pa
  ·rw[jP p];obtain⟨k1,N,M,k4,k5,k6,O,k8⟩:=keep true;refine⟨k1.trans h1,N.trans h2,fun _ _=>?_,fun _ e=>absurd e (k8 rfl),fun e=>?_⟩
   ·rw[<-j];unfold feBl;rw[k4,jN D,jN D,N,M,k5]
   rw[O]at e;cases e
  rw[jN p];obtain⟨k1,N,M,k4,k5,k6,O,k8⟩:=keep false;refine⟨k1.trans h1,N.trans h2,fun e=>(by rw[O]at e;cases e),fun e=>(by rw[O]at e;cases e),fun _ _=>L fun r=>p ?_⟩;rw[B]at r;exact r
 rw[jN n1];have J:=T.gv2 (by omega) hd;have j:=h3 hd (by omega);have fin:∀ (t':Fe) (σ':Ab),t'.a=t.a->t'.page=t.page->t'.slot=t.slot->t'.pk=t.pk->t'.pa=t.pa->t'.gave=t.gave->(t'.next≠1)->xG σ'.has ab' a t':=fun t' σ' f o G e4 e5 e6 e7=>⟨f.trans h1,o.trans h2,fun _ _=>by rw[<-j];unfold feBl;rw[e4,o,G,e5],fun _ e=>absurd e e7,fun _ e=>by rw[e6,J]at e;cases e⟩
 by_cases n2:t.next=2
 ·rw[jP n2];obtain⟨_,x,p,_⟩:=c8 n2;rw[p];dsimp only;have U:∀ y:Fe,y.kept.a=y.a/\y.kept.page=y.page/\y.kept.slot=y.slot/\y.kept.pk=y.pk/\y.kept.pa=y.pa/\y.kept.gave=y.gave/\(y.next≠1->y.kept.next≠1):=fun y=>by
   unfold Fe.kept;split
   ·split
    ·exact⟨rfl,rfl,rfl,rfl,rfl,rfl,id⟩
    split
    ·exact⟨rfl,rfl,rfl,rfl,rfl,rfl,fun _=>(by dsimp only;first|decide|omega|simp)⟩
    exact⟨rfl,rfl,rfl,rfl,rfl,rfl,id⟩
   exact⟨rfl,rfl,rfl,rfl,rfl,rfl,id⟩
  obtain⟨a1,a2,a3,a4,a5,a6,a7⟩:=U {t with put:=some (puA s x σ).1};exact fin _ _ a1 a2 a3 a4 a5 a6 (a7 n1)
 rw[jN n2];split
 ·exact fin _ _ rfl rfl rfl rfl rfl rfl n1
 split
 ·exact fin _ _ rfl rfl rfl rfl rfl rfl n1
 exact fin _ _ rfl rfl rfl rfl rfl rfl n1
end

section

variable {s:Sh} {σ σ':Ab} {c:Int} {d d':Wd}

def vF (H:Bl->Prop) (ab:Bool) (o:Op3):Jb->Prop
 | .mal r _=> o.k=1/\lenB o.n=true/\ZH o.n r
 | .fre f=> o.k=2/\xG H ab o.a f
 | .aga r=> o.k=3/\lenB o.n=true/\(∀ x,r.res=some x->ZH o.n x)/\(∀ f,r.free=some f->xG H ab o.a f)/\(r.done=true->r.err=0\/(r.err=3/\cC r=false)\/(r.err=1/\cC r=false/\ab=true))
 | .hei a=> o.k=4/\(a.done=true->a.err=0\/a.err=4\/a.err=5)
theorem xG.mono{H H':Bl->Prop}{ab ab':Bool}{a:Int}{f:Fe}(h:xG H ab a f)(h1:ab=true->ab'=true)(h2:∀ b,b.at'=a->H b->ab'=true\/H' b):xG H' ab' a f:=by
 refine⟨h.ad,h.pg,h.bl,fun i j=>?_,fun i j=>h1 (h.no i j)⟩;rcases h.see i j with e|e
 ·exact .inl (h1 e)
 exact h2 _ (h.bl i (by omega)) e
theorem vF.mono{H H':Bl->Prop}{ab ab':Bool}{o:Op3}{j:Jb}(h:vF H ab o j)(h1:ab=true->ab'=true)(h2:∀ b,b.at'=o.a->H b->ab'=true\/H' b):vF H' ab' o j:=by
 cases j with
 |mal r x=>exact h
 |fre f=>exact⟨h.1,h.2.mono h1 h2⟩
 |aga r=>exact⟨h.1,h.2.1,h.2.2.1,fun f i=>(h.2.2.2.1 f i).mono h1 h2,fun e=>(h.2.2.2.2 e).imp id (Or.imp id fun e=>⟨e.1,e.2.1,h1 e.2.2⟩)⟩
 |hei a=>exact h
theorem mV{H:Bl->Prop}{ab:Bool}{o:Op3}{j:Jb}{b:Blk}(h:vF H ab o j)(hb:j.took=some b):b.len=lenV o.n/\lenB o.n=true/\(o.k=1\/o.k=3):=by
 cases j with
 |mal r x=>
  have hb:(if KC x=true then r.got else none)=some b:=hb;split at hb
  ·exact⟨PV h.2.2 hb,h.2.1,.inl h.1⟩
  cases hb
 |fre f=>cases hb;|aga r=>
  have hb:(if r.done=true/\r.err=0 then(match r.res with|some x=>x.got|none=>none) else none)=some b:=hb;split at hb
  ·cases hr:r.res with
   |none=>rw[hr]at hb;cases hb
   |some x=>rw[hr]at hb;exact⟨PV (h.2.2.1 x hr) hb,h.2.1,.inr h.1⟩
  cases hb
 |hei a=>cases hb
theorem rJ(s:Sh)(t:Rr)(r:Rs)(f:Fe)(h1:t.res=some r)(h2:t.free=some f)(hd:t.done=false){ab:Bool}(hu:ED t.undo=true->f.gave=false/\ab=true)(m:r.done=true->r.got=none->f.gave=false):(t.settle s).res=some r/\(t.settle s).free=some f/\((t.settle s).done=true->(t.settle s).err=0\/((t.settle s).err=3/\cC (t.settle s)=false)\/((t.settle s).err=1/\cC (t.settle s)=false/\ab=true)):=by
 have i:∀ t':Rr,t'.free=some f->cC t'=f.gave:=fun t' e=>by unfold cC;rw[e]
 rcases LF s t r f h1 h2 with⟨k1,e⟩|⟨_,k1,e⟩|⟨_,_,k1,e⟩|⟨_,_,k1,j,e⟩|⟨b,_,_,k1,j,n,e⟩|⟨b,_,_,_,_,_,_,k1,_,e⟩|⟨b,_,_,_,_,_,_,k1,_,e⟩<;>rw[e]
 ·exact⟨h1,h2,fun _=>.inr (.inr ⟨rfl,(i _ h2).trans (hu k1).1,(hu k1).2⟩)⟩
 ·exact⟨h1,h2,fun _=>.inl rfl⟩
 ·exact⟨h1,h2,fun e=>(by rw[hd]at e;cases e)⟩
 ·exact⟨h1,h2,fun _=>.inr (.inl ⟨rfl,(i _ h2).trans (m k1 j)⟩)⟩
 ·exact⟨h1,h2,fun e=>(by rw[hd]at e;cases e)⟩
 ·exact⟨h1,h2,fun e=>(by have e:t.done=true:=e;rw[hd]at e;cases e)⟩
 exact⟨h1,h2,fun e=>(by have e:t.done=true:=e;rw[hd]at e;cases e)⟩
theorem z97{s:Sh}{σ:Ab}{t:Ad}(hd:t.done=false)(h4:0<=t.next/\t.next<=13)(e:(adA s t σ).1.done=true):(adA s t σ).1.err=0\/(adA s t σ).1.err=4\/(adA s t σ).1.err=5:=by
 have m:∀ (t':Ad) x y,t'.done=false->(t'.turn s x y).done=false:=fun t' x y h=>by
  unfold Ad.turn;dsimp only;split
  ·split<;>exact h
  split<;>exact h
 have sl:∀ t':Ad,t'.done=false->(t'.slot s).done=false:=fun t' h=>by
  unfold Ad.slot;split
  ·exact m _ _ _ h
  exact h
 have no:∀ (t':Ad),t'.done=false->t'.done=true->t'.err=0\/t'.err=4\/t'.err=5:=fun t' a b=>by rw[a]at b;cases b
 have f:t.next=0\/t.next=1\/t.next=2\/t.next=3\/t.next=4\/t.next=5\/t.next=6\/t.next=7\/t.next=8\/t.next=9\/t.next=10\/t.next=11\/t.next=12\/t.next=13:=by omega
 have j:∀ (p:Prop) [Decidable p] (a b:Ad),a.done=false->(b.done=false)->(if p then a else b).done=false:=fun p _ a b h1 h2=>by split<;>assumption
 have n:∀ (p:Prop) [Decidable p] (a b:Ad),(a.done=true->a.err=0\/a.err=4\/a.err=5)->(b.done=true->b.err=0\/b.err=4\/b.err=5)->(if p then a else b).done=true->(if p then a else b).err=0\/(if p then a else b).err=4\/(if p then a else b).err=5:=fun p _ a b h1 h2=>by split<;>assumption
 rcases f with f|f|f|f|f|f|f|f|f|f|f|f|f|f
 ·rw[aK hd f]at e ⊢;cases i:σ.st t.d with
  |dead=>rw[i]at e;exact no _ hd e
  |owned q=>rw[i]at e;exact no _ hd e
  |_=>exact .inr (.inr rfl)
 ·rw[VM hd f]at e ⊢;exact n _ _ _ (fun _=>.inr (.inl rfl)) (no _ hd) e
 ·rw[mN hd f]at e ⊢;by_cases i:(σ.st t.d).enc=t.was
  ·rw[jP i]at e ⊢;exact no _ hd e
  rw[jN i];exact .inr (.inl rfl)
 ·rw[fN hd f]at e ⊢;cases i:σ.pg t.at' with
  |body h=>rw[i]at e;exact no _ hd e
  |_=>rw[i]at e;exact no _ (m _ _ _ hd) e
 ·rw[dN hd f]at e ⊢;exact no _ (j _ _ _ hd (m _ _ _ hd)) e
 ·rw[iN hd f]at e ⊢;exact no _ (m _ _ _ hd) e
 ·rw[gN hd f]at e ⊢;exact no _ (j _ _ _ hd (m _ _ _ hd)) e
 ·rw[eN hd f]at e ⊢;exact no _ (j _ _ _ hd hd) e
 ·rw[oN hd f]at e ⊢;exact no _ (m _ _ _ hd) e
 ·rw[nN hd f]at e ⊢;exact no _ (j _ _ _ hd hd) e
 ·rw[vO hd f]at e ⊢;cases i:σ.pg t.at' with
  |super k b=>rw[i]at e;exact no _ hd e
  |_=>rw[i]at e;exact no _ (m _ _ _ hd) e
 ·rw[qO hd f]at e ⊢;exact no _ (j _ _ _ hd (sl _ hd)) e
 ·rw[wO hd f]at e ⊢;exact no _ (sl _ hd) e
 rw[CT hd f];exact .inl rfl
theorem zzb{m:Mem}{j:Jb}{o:Op3}{ab ab':Bool}(hr:Rep s m σ)(hg:GI s σ)(G:jbIs s c j)(b3:0<=c/\c<s.c)(hd:j.done=false)(N:JbAt s c σ j)(h:vF σ.has ab o j)(Y:(∀ b,σ.has b->b.at'≠o.a)->ab=true)(O:ab=true->ab'=true)(n:(j.rC s c σ).1.gave=j.gave->∀ b,b.at'=o.a->σ.has b->(j.rC s c σ).2.has b):vF (j.rC s c σ).2.has ab' o (j.rC s c σ).1:=by
 cases j with
 |mal r x=>
  unfold Jb.rC;dsimp only;split
  ·exact⟨h.1,h.2.1,oV h.2.2 s σ⟩
  split
  ·exact h
  exact h
 |fre f=>exact⟨h.1,RU hr hg G hd (N.2.w hd) h.2 Y O⟩;|aga t=>
  obtain⟨h1,h2,h3,h4,h5⟩:=h;obtain⟨r,f,D,p,o1,o2,o3,o4,o5,o6⟩:=G.ok.cl hd;have hd:t.done=false:=hd;have R:=h3 r D;have T:=h4 f p;show vF (rrA s t σ).2.has ab' o (.aga (rrA s t σ).1);have n:cC (rrA s t σ).1=cC t->∀ b,b.at'=o.a->σ.has b->(rrA s t σ).2.has b:=n;have mono:∀ (σ':Ab),(∀ b,b.at'=o.a->σ.has b->σ'.has b)->xG σ'.has ab' o.a f:=fun σ' hb=>T.mono O fun b D p=>.inr (hb b D p);have ng:∀ u,t.undo=some u->f.gave=false:=fun u hu=>by obtain⟨M,a,b⟩:=G.ng u hu;rw[p]at a;injection a with a;subst a;exact b
  have X:∀ u,t.undo=some u->ab'=true:=fun u hu=>by obtain⟨r',M,a1,F,a3,a4⟩:=G.mid hd (.inl (by rw[hu];simp));rw[p]at a3;injection a3 with a3;subst a3;exact O (T.no a4 (ng u hu))
  have gn:r.done=true->r.got≠none:=fun z C=>by
   have E:=N.inv.ph
   have b0:¬ r.done=false:=by rw[z];decide
   cases hu:t.undo with
   |some u=>
    rw[IL hd D p b0 hu]at E
    exact E.2.2 r D C
   |none=>
    cases hc:t.com with
    |some u=>
     obtain⟨r',M,a1,F,_⟩:=G.gv u hc
     rw[D]at a1;injection a1 with a1;subst a1
     rw[C]at F;cases F
    |none=>
     rw[rI hd D p b0 hu hc,C]at E
     have E:t.done=true:=E
     rw[hd]at E;cases E
  by_cases z:r.done=false
  ·rw[VS hd D p z]at n ⊢;have Z:f.gave=false:=by have E:=N.inv.ph;have J:t.ph= .res r:=IP hd D p z;rw[J]at E;exact(G.fre f p).gv (by rw[(E.2 f p).2.1];decide)
   obtain⟨U,L,V⟩:=rJ s {t with res:=some (rsA s r σ).1} (rsA s r σ).1 f rfl p hd (ab:=ab') (fun hu=>by
    cases q:t.undo with
    |none=>have hu:ED t.undo=true:=hu;rw[q]at hu;cases hu
    |some u=>exact⟨Z,X u q⟩) (fun _ _=>Z)
   have I:=n (by unfold cC;rw[L,p]);exact⟨h1,h2,fun x B=>by rw[U]at B;injection B with B;subst B;exact oV R s σ,fun M i=>by rw[L]at i;injection i with i;subst i;exact mono _ I,V⟩
  have S:r.done=true:=by simpa using z
  have C:=gn S;by_cases y:f.done=false
  ·rw[mT hd D p z y]at n ⊢
   have J:∃ b,t.ph= .fre b f:=by
    have b1:t.undo=none/\t.com=none:=by
     constructor
     ·cases hu:t.undo with
      |none=>rfl
      |some u=>obtain⟨r',M,_,_,a1,F⟩:=G.mid hd (.inl (by rw[hu];simp));rw[p]at a1;injection a1 with a1;subst a1;rw[y]at F;cases F
     ·cases hu:t.com with
      |none=>rfl
      |some u=>obtain⟨r',M,_,_,a1,F⟩:=G.mid hd (.inr (by rw[hu];simp));rw[p]at a1;injection a1 with a1;subst a1;rw[y]at F;cases F
    cases hb:r.got with
    |none=>exact absurd hb C
    |some b=>exact⟨b,by rw[rI hd D p z b1.1 b1.2,hb]⟩
   obtain⟨b,J⟩:=J;have E:=N.inv.ph;rw[J]at E;have b2:=RU hr hg (G.fre f p) y (E.2.1.w y) T Y O
   obtain⟨U,L,V⟩:=rJ s {t with free:=some (feA s f σ).1} r (feA s f σ).1 D rfl hd (ab:=ab') (fun hu=>by
    cases q:t.undo with
    |none=>have hu:ED t.undo=true:=hu;rw[q]at hu;cases hu
    |some u=>obtain⟨r',M,_,_,a1,F⟩:=G.mid hd (.inl (by rw[q];simp));rw[p]at a1;injection a1 with a1;subst a1;rw[y]at F;cases F) (fun _ e=>absurd e C)
   exact⟨h1,h2,fun x B=>by rw[U]at B;injection B with B;subst B;exact R,fun M i=>by rw[L]at i;injection i with i;subst i;exact b2,V⟩
  cases hu:t.undo with
  |some u=>rw[XS hd D p z y hu]at n ⊢;obtain⟨U,L,V⟩:=rJ s {t with undo:=some (unA u σ).1} r f D p hd (ab:=ab') (fun _=>⟨ng u hu,X u hu⟩) (fun _ e=>absurd e C);have I:=n (by unfold cC;rw[L,p]);exact⟨h1,h2,fun x B=>by rw[U]at B;injection B with B;subst B;exact R,fun M i=>by rw[L]at i;injection i with i;subst i;exact mono _ I,V⟩
  |none=>
   cases hc:t.com with
   |none=>
    exfalso
    rcases o6 S (by simpa using y) with e|e
    ·exact e hu
    ·exact e hc
   |some u=>
    rw[NX hd D p z y hu hc]at n ⊢
    obtain⟨U,L,V⟩:=rJ s {t with com:=some (cmA u σ).1} r f D p hd (ab:=ab') (fun q=>by have q:ED t.undo=true:=q;rw[hu]at q;cases q) (fun _ e=>absurd e C)
    have I:=n (by unfold cC;rw[L,p])
    exact⟨h1,h2,fun x B=>by rw[U]at B;injection B with B;subst B;exact R,fun M i=>by rw[L]at i;injection i with i;subst i;exact mono _ I,V⟩
 |hei a=>refine⟨h.1,fun e=>?_⟩;have hd:a.done=false:=hd;have e:(adA s a σ).1.done=true:=e;show (adA s a σ).1.err=0\/(adA s a σ).1.err=4\/(adA s a σ).1.err=5;exact z97 (s:=s) (σ:=σ) hd (G.1.cl hd).2.2.2.1 e
end

section

def VA (c:Int):Ch:=⟨3,c,0,0,0,0⟩
def Wd.goS (s:Sh) (c:Int) (d:Wd):Wd:=match d.kl c with
 | some k=> if k.job.isSome=true then (d.act s (VA c)).1 else d
 | none=> d
def Wd.goN (s:Sh) (c:Int):Nat->Wd->Wd
 | 0,d=> d
 | n + 1,d=> (Wd.goN s c n d).goS s c
def JA (s:Sh):Nat:=(110 * s.p + 4 * s.m + 60).toNat
end

end Go.Proofs.YtkilokkopbajkaaGreat
