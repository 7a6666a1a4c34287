/- Texts bound together: MdlP MdlL JudP InvR InvS InvT. -/
import Derived.Test.YtkbddndcegpllaaGreatBg36

set_option linter.all false
namespace Go.Proofs.YtkbddndcegpllaaGreat

section

structure Bk where
 a:Int
 n:Int
 deriving DecidableEq
def okK (W:Int):Int->List Bk->Prop
 | lo, []=> lo<=W
 | lo,b::l=> lo<=b.a/\1<=b.n/\okK W (b.a + b.n) l
theorem okK.le{W:Int}{l:List Bk}:∀ {lo:Int},okK W lo l->lo<=W:=by
 induction l with
 |nil=>exact fun h=>h
 |cons b l f=>exact fun h=>by have:=f h.2.2;have:=h.1;have:=h.2.1;omega
theorem okK.mono{W:Int}{l:List Bk}{lo f:Int}(h:okK W lo l)(i:f<=lo):okK W f l:=by
 cases l with
 |nil=>exact Int.le_trans i h
 |cons b l=>exact⟨Int.le_trans i h.1,h.2⟩
theorem okK.mem{W:Int}{l:List Bk}:∀ {lo:Int},okK W lo l->∀ b ∈ l,lo<=b.a/\1<=b.n/\b.a+b.n<=W:=by
 induction l with
 |nil=>exact fun _ b hb=>by cases hb
 |cons c l f=>
  intro lo h b hb;rcases List.mem_cons.1 hb with rfl|hb
  ·exact⟨h.1,h.2.1,h.2.2.le⟩
  have:=f h.2.2 b hb;have:=h.1;have:=h.2.1;omega
def posB (at':Int):List Bk->Nat
 | []=> 0
 | b::l=> if b.a < at' then posB at' l + 1 else 0
def zd6 (at':Int) (l:List Bk):Bool:=decide (∃ b,l[posB at' l]?=some b/\b.a=at')
theorem yck(at':Int)(l:List Bk):posB at' l<=l.length:=by
 induction l with
 |nil=>exact Nat.le_refl _
 |cons b l f=>simp only[posB,List.length_cons];split<;>omega
theorem zo8(at':Int)(l:List Bk)(i:Nat)(hi:i<posB at' l)(h:i<l.length):l[i].a<at':=by
 induction l generalizing i with
 |nil=>simp at h;|cons b l f=>
  simp only[posB]at hi;split at hi
  ·rename_i hb;cases i with
   |zero=>exact hb
   |succ i=>exact f i (by omega) (by simpa using h)
  omega
theorem z92(at':Int)(l:List Bk)(h:posB at' l<l.length):at'<=l[posB at' l].a:=by
 induction l with
 |nil=>simp at h;|cons b l f=>
  by_cases hb:b.a<at'
  ·simp only[posB,if_pos hb,List.getElem_cons_succ];exact f (by simpa[posB,hb] using h)
  simp only[posB,if_neg hb,List.getElem_cons_zero];omega
theorem okK.lt{W:Int}{l:List Bk}{lo:Int}(h:okK W lo l):∀ i j (_:i<j) (m:j<l.length),(l[i]'(by omega)).a+(l[i]'(by omega)).n<=l[j].a:=by
 induction l generalizing lo with
 |nil=>exact fun i j _ m=>by simp at m
 |cons b l p=>
  intro i j o m
  cases j with
  |zero=>omega
  |succ j=>
   have f:j<l.length:=by simpa using m
   cases i with
   |zero=>exact(h.2.2.mem l[j] (List.getElem_mem f)).1
   |succ i=>exact p h.2.2 i j (by omega) f
theorem zvu(at':Int)(l:List Bk)(i:Nat)(hi:i<=l.length)(b:∀ k (_:k<i) (j:k<l.length),l[k].a<at')(f:∀ j:i<l.length,at'<=l[i].a):posB at' l=i:=by
 rcases Nat.lt_trichotomy (posB at' l) i with h|h|h
 ·have:=b _ h (by omega);have:=z92 at' l (by omega);omega
 ·exact h
 have m:=yck at' l;have:=zo8 at' l i h (by omega);have:=f (by omega);omega
theorem zop(at':Int)(l:List Bk):zd6 at' l=true↔∃ h:posB at' l<l.length,l[posB at' l].a=at':=by
 simp only[zd6,decide_eq_true_eq];constructor
 ·rintro⟨b,f,i⟩;obtain⟨j,rfl⟩:=List.getElem?_eq_some_iff.1 f;exact⟨j,i⟩
 rintro⟨f,i⟩;exact⟨_,List.getElem?_eq_getElem f,i⟩
theorem zym{W lo at':Int}{l:List Bk}(h:okK W lo l):zd6 at' l=true↔∃ b ∈ l,b.a=at':=by
 rw[zop];constructor
 ·rintro⟨j,m⟩;exact⟨_,List.getElem_mem j,m⟩
 rintro⟨b,hb,rfl⟩;obtain⟨i,hi,rfl⟩:=List.getElem_of_mem hb;have o:=zvu l[i].a l i (by omega) (fun k n f=>by have:=h.lt k i n hi;have:=(h.mem _ (List.getElem_mem f)).2.1;omega) (fun _=>Int.le_refl _);exact⟨by omega,by simp only[o]⟩
def meets (b:Bk) (at' n:Int):Bool:=decide (b.a < at' + n/\at' < b.a + b.n)
def ydk (W at' n:Int):Bool:=decide (1<=n/\0<=at'/\at'<=W/\n<=W - at')
def zwf (W:Int) (l:List Bk) (at' n:Int):Bool:=ydk W at' n && !l.any (fun b=> meets b at' n)
def putB (l:List Bk) (at' n:Int):List Bk:=l.take (posB at' l) ++ ⟨at',n⟩::l.drop (posB at' l)
theorem ya9{W lo at' n:Int}{l:List Bk}(h:okK W lo l)(f:lo<=at')(j:1<=n)(m:at'+n<=W)(hc:∀ b ∈ l,¬ (b.a<at'+n/\at'<b.a+b.n)):okK W lo (putB l at' n):=by
 induction l generalizing lo with
 |nil=>exact⟨f,j,m⟩;|cons b l q=>
  have hb:=hc b (by simp);have r:=h.2.1;unfold putB;simp only[posB];split
  ·rename_i p;simp only[List.take_succ_cons,List.drop_succ_cons,List.cons_append];exact⟨h.1,h.2.1,q h.2.2 (by omega) (fun c i=>hc c (by simp[i]))⟩
  rename_i o;simp only[List.take_zero,List.drop_zero,List.nil_append];exact⟨f,j,⟨by show at'+n<=b.a;omega,h.2⟩⟩
def ya7 (l:List Bk) (at':Int):List Bk:=l.take (posB at' l) ++ l.drop (posB at' l + 1)
def zse (l:List Bk) (at':Int):List Bk:=if zd6 at' l then ya7 l at' else l
theorem okK.z7t{W lo:Int}{l:List Bk}(h:okK W lo l)(i:Nat):okK W lo (l.take i++l.drop (i+1)):=by
 induction l generalizing lo i with
 |nil=>simpa using h
 |cons b l f=>
  cases i with
  |zero=>simpa using h.2.2.mono (by have:=h.1;have:=h.2.1;omega)
  |succ i=>exact⟨h.1,h.2.1,f h.2.2 i⟩
theorem z7z{W at':Int}{l:List Bk}(h:okK W 0 l):okK W 0 (zse l at'):=by
 unfold zse;split
 ·exact h.z7t _
 exact h
theorem okK.len{W lo:Int}{l:List Bk}(h:okK W lo l):(l.length:Int)<=W-lo:=by
 induction l generalizing lo with
 |nil=>have:=h.le;simp;omega;|cons b l f=>have:=f h.2.2;have:=h.1;have:=h.2.1;simp only[List.length_cons];omega
structure Pt where
 was:Bool
 lives:Bool
 asks:Bool
 k:Int
 a:Int
 n:Int
 took:Bool
 gave:Bool
 at':Int
 ab:Bool
 deriving DecidableEq
def Pt.zero:Pt:=⟨false,false,false,0,0,0,false,false,0,false⟩
def zf0 (p:Pt) (e:Ev):Int:=
 if e.k=0 then (if p.was=true then 1 else 0)
 else if e.k=1 then (if p.lives=false then 1 else if p.asks=true/\p.took=true then 5 else 0)
 else if p.lives=false\/p.asks=true\/e.ok < 1\/4 < e.ok then 1 else 0
def zkj (p:Pt) (e:Ev):Pt:=
 if zf0 p e≠0 then p
 else if e.k=0 then { p with was:=true,lives:=true }
 else if e.k=1 then { p with lives:=false,asks:=false }
 else ⟨true,true,true,e.ok,e.oa,e.on,false,false,0,false⟩
def mayT (p:Pt):Bool:=decide (p.k=1) || (decide (p.k=3) && p.gave)
def z8g (W:Int) (l:List Bk) (p:Pt) (e:Ev):Int:=
 if mayT p=false\/p.took=true\/lenB p.n=false\/lenV p.n≠e.n then 5 else if zwf W l e.at' e.n=true then 0 else 2
def mayG (p:Pt):Bool:=decide (p.k=2) || decide (p.k=3)
def z8m (l:List Bk) (p:Pt) (e:Ev):Int:=
 if mayG p=false\/p.gave=true\/e.at'≠p.a then 5 else if zd6 e.at' l=true then 0 else 3
def zzo (p:Pt) (at':Int):Bool:=if p.k=1\/p.k=3 then p.took && (at'==p.at') else if p.k=2 then p.gave && (at'==0) else at'==0
def zie (p:Pt):Bool:=if p.k=1 then !lenB p.n else if p.k=2 then p.ab else if p.k=3 then p.ab || !lenB p.n else true
def zd9 (p:Pt) (e:Ev):Bool:=
 if e.er=0 then zzo p e.at' else if p.took=true\/p.gave=true\/e.at'≠0 then false
 else if e.er=1 then zie p else if e.er=3 then p.k==1 || p.k==3 else if e.er=4\/e.er=5 then p.k==4 else false
structure Wy where
 c:Int
 l:List Bk
 ps:List Pt
def whyJ (W:Int) (l:List Bk) (ps:List Pt) (e:Ev):Wy:=
 if e.c < 0\/(ps.length:Int)<=e.c\/e.k < 0\/5 < e.k then ⟨1,l,ps⟩
 else if e.k < 3 then ⟨zf0 (ps.getD e.c.toNat Pt.zero) e,l,ps.set e.c.toNat (zkj (ps.getD e.c.toNat Pt.zero) e)⟩
 else if (ps.getD e.c.toNat Pt.zero).lives=false\/(ps.getD e.c.toNat Pt.zero).asks=false then ⟨1,l,ps⟩
 else if e.k=3 then
  (if z8g W l (ps.getD e.c.toNat Pt.zero) e=0 then ⟨0,putB l e.at' e.n,ps.set e.c.toNat { ps.getD e.c.toNat Pt.zero with took:=true,at':=e.at' }⟩ else ⟨z8g W l (ps.getD e.c.toNat Pt.zero) e,l,ps⟩)
 else if e.k=4 then
  (if z8m l (ps.getD e.c.toNat Pt.zero) e=0 then ⟨0,zse l e.at',ps.set e.c.toNat { ps.getD e.c.toNat Pt.zero with gave:=true }⟩ else ⟨z8m l (ps.getD e.c.toNat Pt.zero) e,l,ps⟩)
 else if zd9 (ps.getD e.c.toNat Pt.zero) e=true then ⟨0,l,ps.set e.c.toNat { ps.getD e.c.toNat Pt.zero with asks:=false }⟩ else ⟨4,l,ps⟩
def abP (l:List Bk) (p:Pt):Pt:=if zd6 p.a l=false/\p.asks=true then { p with ab:=true } else p
structure Jd where
 W:Int
 l:List Bk
 ps:List Pt
 m:Int
 at':Int
 why:Int
def z4x (j:Jd) (e:Ev):Bool:=decide (j.why=0) && decide ((whyJ j.W j.l j.ps e).c=0)
def zdo (j:Jd) (e:Ev):Jd:=
 if j.why≠0 then j
 else if (whyJ j.W j.l j.ps e).c≠0 then { j with l:=(whyJ j.W j.l j.ps e).l,ps:=(whyJ j.W j.l j.ps e).ps,at':=j.m,why:=(whyJ j.W j.l j.ps e).c }
 else { j with l:=(whyJ j.W j.l j.ps e).l,ps:=(whyJ j.W j.l j.ps e).ps.map (abP (whyJ j.W j.l j.ps e).l),m:=j.m + 1 }
def newJ (p c m:Int):Jd:=if mayB p c m=true then ⟨p * 64, [],List.replicate c.toNat Pt.zero,0, -1,0⟩ else ⟨0, [], [],0, -1,0⟩
def runJ (j:Jd) (es:List Ev):Jd:=es.foldl zdo j
theorem yh5(j:Jd)(a b:List Ev):runJ j (a++b)=runJ (runJ j a) b:=by simp[runJ]
theorem yhy(j:Jd)(e:Ev)(b:List Ev):runJ j (e::b)=runJ (zdo j e) b:=rfl
theorem yit{j:Jd}(h:j.why≠0)(e:Ev):zdo j e=j:=by unfold zdo;rw[if_pos h]
theorem yir{j:Jd}(h:j.why≠0)(es:List Ev):runJ j es=j:=by
 induction es with
 |nil=>rfl
 |cons e es b=>rw[yhy,yit h,b]
theorem zsk(j:Jd)(e:Ev):z4x j e=true↔j.why=0/\(whyJ j.W j.l j.ps e).c=0:=by simp[z4x]
theorem z9p{j:Jd}{e:Ev}(h:z4x j e=true):zdo j e= {j with l:=(whyJ j.W j.l j.ps e).l,ps:=(whyJ j.W j.l j.ps e).ps.map (abP (whyJ j.W j.l j.ps e).l),m:=j.m+1}:=by
 obtain⟨b,f⟩:=(zsk j e).1 h;unfold zdo;rw[if_neg (by omega),if_neg (by omega)]
def Bl.at':Bl->Int
 | .lar p _=> p * 64
 | .sm p i k=> p * 64 + i * zbj k
def Bl.len:Bl->Int
 | .lar _ n=> n * 64
 | .sm _ _ k=> zbj k
variable {s:Sh} {σ:Ab}

theorem z1t{k:Int}(h:0<=k/\k<=3):(zbj k=4/\zah k=16)\/(zbj k=8/\zah k=8)\/(zbj k=16/\zah k=4)\/(zbj k=32/\zah k=2):=by
 have:k=0\/k=1\/k=2\/k=3:=by omega
 rcases this with rfl|rfl|rfl|rfl<;>decide
theorem zjt{i k:Int}(j:0<=k/\k<=3)(hi:0<=i/\i<zah k):0<=i*zbj k/\i*zbj k+zbj k<=64/\1<=zbj k:=by
 rcases z1t j with⟨b,f⟩|⟨b,f⟩|⟨b,f⟩|⟨b,f⟩<;>rw[b]<;>rw[f]at hi<;>omega
theorem zmt{i j k:Int}(m:0<=k/\k<=3)(h:i<j):i*zbj k+zbj k<=j*zbj k:=by
 rcases z1t m with⟨b,f⟩|⟨b,f⟩|⟨b,f⟩|⟨b,f⟩<;>rw[b]<;>omega
theorem zto(m:GI s σ){p i k:Int}(h:σ.has (.sm p i k)):(∃ b,σ.pg p= .super k b)/\(0<=i/\i<zah k)/\(0<=k/\k<=3)/\0<=p/\p<s.p:=by
 obtain⟨⟨b,f⟩,n⟩:=zhs m (.inr h);have j:=zjs m f;exact⟨⟨b,f⟩,n,j.2.1,j.1⟩
theorem zwn(f:GI s σ){b:Bl}(h:σ.has b):0<=b.at'/\1<=b.len/\b.at'+b.len<=s.p*64:=by
 cases b with
 |lar p n=>have:=zgt f h;simp only[Bl.at',Bl.len];omega
 |sm p i k=>obtain⟨_,j,m,o⟩:=zto f h;have:=zjt m j;simp only[Bl.at',Bl.len];omega
theorem zsn(r:GI s σ){a b:Bl}(C:σ.has a)(hb:σ.has b)(y:a≠b):¬ (a.at'<b.at'+b.len/\b.at'<a.at'+a.len):=by
 have lar:∀ p n q,σ.pg p= .large n->(∀ g,σ.pg q≠ .body g)->p<q->p+n<=q:=fun p n q o f B=>by
  by_cases e:p+n<=q
  ·exact e
  have:=r.lg p n o (q-p) (by omega) (by omega);rw[show p+(q-p)=q by omega]at this;exact absurd this (f p)
 cases a with
 |lar p n=>
  cases b with
  |lar q m=>
   have o:σ.pg p= .large n:=C
   have f:σ.pg q= .large m:=hb
   have E:=zgt r o
   have R:=zgt r f
   simp only[Bl.at',Bl.len]
   rcases Int.lt_trichotomy p q with e|e|e
   ·have:=lar p n q o (fun g e=>by rw[f]at e;cases e) e
    omega
   ·subst e
    rw[o]at f;injection f with f;subst f
    exact absurd rfl y
   ·have:=lar q m p f (fun g e=>by rw[o]at e;cases e) e
    omega
  |sm q i k=>
   have o:σ.pg p= .large n:=C
   obtain⟨⟨b,f⟩,B,t,J⟩:=zto r hb
   have D:=zjt t B
   have E:=zgt r o
   simp only[Bl.at',Bl.len]
   rcases Int.lt_trichotomy p q with e|e|e
   ·have:=lar p n q o (fun g e=>by rw[f]at e;cases e) e
    omega
   ·subst e;rw[o]at f;cases f
   ·omega
 |sm p i k=>
  obtain⟨⟨L,f⟩,B,t,J⟩:=zto r C
  have D:=zjt t B
  cases b with
  |lar q m=>
   have o:σ.pg q= .large m:=hb
   have E:=zgt r o
   simp only[Bl.at',Bl.len]
   rcases Int.lt_trichotomy q p with e|e|e
   ·have:=lar q m p o (fun g e=>by rw[f]at e;cases e) e
    omega
   ·subst e;rw[o]at f;cases f
   ·omega
  |sm q j O=>
   obtain⟨⟨M,z⟩,F,G,N⟩:=zto r hb
   have I:=zjt G F
   simp only[Bl.at',Bl.len]
   rcases Int.lt_trichotomy q p with e|e|e
   ·omega
   ·subst e
    rw[f]at z;injection z with z _;subst z
    rcases Int.lt_trichotomy i j with e|e|e
    ·have:=zmt (i:=i) (j:=j) t e;omega
    ·subst e;exact absurd rfl y
    ·have:=zmt (i:=j) (j:=i) t e;omega
   ·omega
theorem ybm(f:GI s σ){a b:Bl}(i:σ.has a)(hb:σ.has b)(h:a.at'=b.at'):a=b:=by
 by_cases e:a=b
 ·exact e
 have j:=zwn f i;have m:=zwn f hb;exact absurd ⟨by omega,by omega⟩ (zsn f i hb e)
structure zjj (W:Int) (H:Bl->Prop) (l:List Bk):Prop where
 ok:okK W 0 l
 mem:∀ a n,⟨a,n⟩ ∈ l↔∃ b,H b/\b.at'=a/\b.len=n
def z5i (H:Bl->Prop):Prop:=∀ a b,H a->H b->a.at'=b.at'->a=b
variable {W:Int} {H H':Bl->Prop} {l:List Bk}

theorem zjj.found(h:zjj W H l)(a:Int):zd6 a l=true↔∃ b,H b/\b.at'=a:=by
 rw[zym h.ok];constructor
 ·rintro⟨⟨x,n⟩,hb,rfl⟩;obtain⟨b,f,i,j⟩:=(h.mem x n).1 hb;exact⟨b,f,i⟩
 rintro⟨b,f,i⟩;exact⟨⟨a,b.len⟩,(h.mem _ _).2 ⟨b,f,i,rfl⟩,rfl⟩
theorem z90{a n:Int}{x:Bk}:x ∈ putB l a n↔x ∈ l\/x=⟨a,n⟩:=by
 unfold putB;rw[List.mem_append,List.mem_cons];have:x ∈ l↔x ∈ l.take (posB a l)\/x ∈ l.drop (posB a l):=by rw[<-List.mem_append,List.take_append_drop]
 rw[this];constructor
 ·rintro(h|h|h)
  ·exact .inl (.inl h)
  ·exact .inr h
  exact .inl (.inr h)
 rintro((h|h)|h)
 ·exact .inl h
 ·exact .inr (.inr h)
 exact .inr (.inl h)
theorem z7j{lo a:Int}(m:okK W lo l)(p:zd6 a l=true){x:Bk}:x ∈ ya7 l a↔x ∈ l/\x.a≠a:=by
 obtain⟨j,n⟩:=(zop a l).1 p;unfold ya7;constructor
 ·intro h;have f:x ∈ l:=by
   rcases List.mem_append.1 h with h|h
   ·exact List.mem_of_mem_take h
   exact List.mem_of_mem_drop h
  refine⟨f,fun e=>?_⟩;rcases List.mem_append.1 h with h|h
  ·obtain⟨i,hi,rfl⟩:=List.getElem_of_mem h;rw[List.length_take]at hi;rw[List.getElem_take]at e;have:=zo8 a l i (by omega) (by omega);omega
  obtain⟨i,hi,rfl⟩:=List.getElem_of_mem h;rw[List.length_drop]at hi;rw[List.getElem_drop]at e;have:=m.lt (posB a l) (posB a l+1+i) (by omega) (by omega);have:=(m.mem _ (List.getElem_mem j)).2.1;omega
 rintro⟨f,b⟩;have o:l=l.take (posB a l)++l[posB a l]::l.drop (posB a l+1):=by rw[<-List.drop_eq_getElem_cons j,List.take_append_drop]
 rw[o]at f;rcases List.mem_append.1 f with h|h
 ·exact List.mem_append.2 (.inl h)
 rcases List.mem_cons.1 h with h|h
 ·rw[h]at b;exact absurd n b
 exact List.mem_append.2 (.inr h)
theorem zjj.plus(h:zjj W H l){b:Bl}(q:∀ x,H' x↔(H x\/x=b))(f:0<=b.at'/\1<=b.len/\b.at'+b.len<=W)(p:∀ x,H x->¬ (x.at'<b.at'+b.len/\b.at'<x.at'+x.len)):zwf W l b.at' b.len=true/\zjj W H' (putB l b.at' b.len):=by
 have o:∀ x ∈ l,¬ (x.a<b.at'+b.len/\b.at'<x.a+x.n):=fun x r=>by obtain⟨y,m,i,j⟩:=(h.mem x.a x.n).1 r;have:=p y m;rw[i,j]at this;exact this
 refine⟨?_,⟨ya9 h.ok f.1 f.2.1 f.2.2 o,fun a n=>?_⟩⟩
 ·unfold zwf ydk;rw[decide_eq_true (by omega:1<=b.len/\0<=b.at'/\b.at'<=W/\b.len<=W-b.at'),Bool.true_and];have:l.any (fun x=>meets x b.at' b.len)=false:=by rw[List.any_eq_false];intro x r;simp only[meets,decide_eq_true_eq];exact o x r
  rw[this];rfl
 rw[z90,h.mem a n];constructor
 ·rintro(⟨x,m,i,j⟩|e)
  ·exact⟨x,(q x).2 (.inl m),i,j⟩
  injection e with t z;exact⟨b,(q b).2 (.inr rfl),t.symm,z.symm⟩
 rintro⟨x,m,i,j⟩;rcases(q x).1 m with e|e
 ·exact .inl ⟨x,e,i,j⟩
 subst e;exact .inr (by rw[i,j])
theorem zjj.minus(h:zjj W H l)(t:z5i H){b:Bl}(hb:H b)(q:∀ x,H' x↔(H x/\x≠b)):zd6 b.at' l=true/\zjj W H' (zse l b.at'):=by
 have m:zd6 b.at' l=true:=(h.found _).2 ⟨b,hb,rfl⟩;refine⟨m,⟨z7z h.ok,fun a n=>?_⟩⟩;unfold zse;rw[if_pos m,z7j h.ok m,h.mem a n];constructor
 ·rintro⟨⟨x,i,f,j⟩,o⟩;exact⟨x,(q x).2 ⟨i,fun e=>by subst e;exact o f.symm⟩,f,j⟩
 rintro⟨x,i,f,j⟩;obtain⟨p,r⟩:=(q x).1 i;exact⟨⟨x,p,f,j⟩,fun e=>r (t x b p hb (by rw[f];exact e))⟩
theorem zjj.congr(h:zjj W H l)(e:∀ x,H' x↔H x):zjj W H' l:=⟨h.ok,fun a n=>(h.mem a n).trans ⟨fun ⟨b,f,i⟩=>⟨b,(e b).2 f,i⟩,fun ⟨b,f,i⟩=>⟨b,(e b).1 f,i⟩⟩⟩
end

section

variable {s:Sh} {σ:Ab} {c:Int}

def zt2 (n:Int) (t:Rs):Prop:=(wi n 1 32=true/\t.k=zcn n/\∃ x,t.seeker=some x)\/(wi n 1 32=false/\wi n 33 512=true/\t.pages=runV n/\t.seeker=none)
theorem z7l(b:Blk):(zoa b).at'=b.at'/\(zoa b).len=b.len:=by
 unfold zoa Blk.at' Blk.len;split<;>exact⟨rfl,rfl⟩
theorem zrf{n:Int}{t:Rs}{b:Blk}(h:zt2 n t)(f:t.got=some b):b.len=lenV n:=by
 obtain⟨k,pg,sk,rn⟩:=t;unfold Rs.got at f;unfold lenV;rcases h with⟨j,m,x,i⟩|⟨j,m,i,o⟩
 ·dsimp only at m i f;subst i;dsimp only at f;split at f
  ·injection f with f;subst f;rw[if_pos j,<- m];rfl
  cases f
 dsimp only at i o f;subst o;rcases rn with _|y
 ·cases f
 dsimp only at f;split at f
 ·injection f with f;subst f;rw[if_neg (by rw[j];decide),<- i];rfl
 cases f
theorem zr2{n:Int}(h:lenB n=true)(s:Sh)(c f:Int):zt2 n (zdh s c n f):=by
 have m:=zbc.1 (show wi n 1 512=true from h);unfold zdh zt2;by_cases i:wi n 1 32=true
 ·rw[if_pos i];exact .inl ⟨i,rfl,_,rfl⟩
 have b:wi n 1 32=false:=by simpa using i
 have o:=zgo.1 b;have j:wi n 33 512=true:=zbc.2 (by omega);rw[if_neg i,if_pos j];exact .inr ⟨b,j,rfl,rfl⟩
theorem zot{n:Int}{t:Rs}(h:zt2 n t)(s:Sh)(σ:Ab):zt2 n (rsA s t σ).1:=by
 obtain⟨k,pg,sk,rn⟩:=t;unfold rsA;rcases h with⟨i,f,x,b⟩|⟨i,f,b,j⟩
 ·dsimp only at f b;subst b;exact .inl ⟨i,f,_,rfl⟩
 dsimp only at b j;subst j;rcases rn with _|y
 ·exact .inr ⟨i,f,b,rfl⟩
 exact .inr ⟨i,f,b,rfl⟩
structure zn9 (H:Bl->Prop) (ab:Bool) (a:Int) (f:Fe):Prop where
 ad:f.a=a
 pg:f.page=a / 64
 bl:f.done=false->1<=f.next->(feBl f).at'=a
 see:f.done=false->f.next=1->ab=true\/H (feBl f)
 no:f.done=true->f.gave=false->ab=true
theorem zsr{a:Int}(hs:mayB s.p s.c s.m=true)(hc:0<=c/\c<s.c)(f:spB s a=true)(H:Bl->Prop)(ab:Bool):zn9 H ab a (zc2 s c a):=by
 have b:=zmw (c:=c) hs hc f;refine⟨rfl,if_pos f,fun _ e=>?_,fun _ e=>?_,fun e=>?_⟩
 ·rw[b.2.1]at e;omega
 ·rw[b.2.1]at e;cases e
 rw[b.1]at e;cases e
theorem z4z{t:Fe}{x:PW}(hd:t.done=false):(t.zeg x).a=t.a/\(t.zeg x).page=t.page/\(t.zeg x).gave=t.gave/\(t.zeg x).next=1/\(t.zeg x).pk=x.kind/\(t.zeg x).pa=x.pa/\
  (((t.zeg x).done=false/\((x.kind=3/\t.a%64=0)\/(x.kind=2/\t.a%64%zbj x.pa=0/\(t.zeg x).slot=t.a%64/zbj x.pa)))\/((t.zeg x).done=true/\¬ (x.kind=3/\t.a%64=0)/\¬ (x.kind=2/\t.a%64%zbj x.pa=0))):=by
 unfold Fe.zeg;dsimp only;split
 ·rename_i h;exact⟨rfl,rfl,rfl,rfl,rfl,rfl,.inl ⟨hd,.inl h⟩⟩
 rename_i h;split
 ·rename_i b;exact⟨rfl,rfl,rfl,rfl,rfl,rfl,.inl ⟨hd,.inr ⟨b.1,b.2,rfl⟩⟩⟩
 rename_i b;exact⟨rfl,rfl,rfl,rfl,rfl,rfl,.inr ⟨rfl,h,b⟩⟩
theorem zrx(r:GI s σ){b:Bl}{a:Int}(hb:σ.has b)(o:b.at'=a):(∃ n,b= .lar (a/64) n/\σ.pg (a/64)= .large n/\a%64=0)\/(∃ i k q,b= .sm (a/64) i k/\σ.pg (a/64)= .super k q/\a%64=i*zbj k/\0<=k/\k<=3/\0<=i/\i<zah k):=by
 cases b with
 |lar p n=>
  have f:σ.pg p= .large n:=hb;have:=zgt r f;simp only[Bl.at']at o;have e:p=a/64:=by omega
  subst e;exact .inl ⟨n,rfl,f,by omega⟩
 |sm p i k=>
  obtain⟨⟨q,f⟩,j,m,y⟩:=zto r hb;have t:=zjt m j;simp only[Bl.at']at o;have e:p=a/64:=by omega
  subst e;exact .inr ⟨i,k,q,rfl,f,by omega,m.1,m.2,j.1,j.2⟩
theorem z4u{k:Int}(h:0<=k/\k<=3):0<zbj k:=by rcases z1t h with⟨e,_⟩|⟨e,_⟩|⟨e,_⟩|⟨e,_⟩<;>rw[e]<;>decide
theorem zo2{m:Mem}{t:Fe}{a:Int}{ab ab':Bool}(hr:Rep s m σ)(hg:GI s σ)(V:feIs s c t)(hd:t.done=false)(hw:t.next=1->t.pk=3->t.word=(PW.large t.pa).enc)(h:zn9 σ.has ab a t)(L:(∀ b,σ.has b->b.at'≠a)->ab=true)(D:ab=true->ab'=true):
  zn9 (feA s t σ).2.has ab' a (feA s t σ).1:=by
 obtain⟨c1,c2,c3,c4,c5,c6,c7,c8,c9,b0⟩:=V.ok.cl hd;obtain⟨r,G,h3,h4,h5⟩:=h;unfold feA;rw[if_neg (by rw[hd];decide)];by_cases n0:t.next=0
 ·rw[if_pos n0];obtain⟨l1,I,l3,l4,Y,T,U⟩:=z4z (t:=t) (x:=σ.pg t.page) hd;dsimp only;rw[G]at l1 I l3 l4 Y T U ⊢;refine⟨l1.trans r,I,fun e _=>?_,fun e _=>?_,fun e _=>?_⟩
  ·rcases U with⟨_,⟨f,o⟩|⟨f,o,J⟩⟩|⟨f,_⟩
   ·unfold feBl;rw[if_pos (Y.trans f)];show (t.zeg _).page*64=a;rw[I];rw[r]at o;omega
   ·unfold feBl;rw[if_neg (by omega)];show (t.zeg _).page*64+(t.zeg _).slot*zbj (t.zeg _).pa=a;rw[I,J,T];rw[r]at o ⊢;have:=Int.ediv_mul_cancel (Int.dvd_of_emod_eq_zero o);rw[this];omega
   rw[f]at e;cases e
  ·rcases U with⟨_,⟨f,o⟩|⟨f,o,J⟩⟩|⟨f,_⟩
   ·refine .inr ?_;unfold feBl;rw[if_pos (Y.trans f)];show σ.pg (t.zeg _).page= .large (t.zeg _).pa;rw[I,T];cases p:σ.pg (a/64)<;>rw[p]at f<;>simp[PW.kind]at f;rfl
   ·by_cases z:σ.has (feBl (t.zeg (σ.pg (a/64))))
    ·exact .inr z
    refine .inl (D (L fun b hb B=>z ?_));have j:feBl (t.zeg (σ.pg (a/64)))= .sm (a/64) (a%64/zbj (σ.pg (a/64)).pa) (σ.pg (a/64)).pa:=by unfold feBl;rw[if_neg (by omega),I,J,T,r]
    rcases zrx hg hb B with⟨n,f1,f2,F⟩|⟨i,k,q,f1,f2,F,Z,f5,f6⟩
    ·rw[f2]at f;cases f
    rw[j,f2];show σ.has (.sm (a/64) (a%64/zbj k) k);rw[F,Int.mul_ediv_cancel _ (by have:=z4u ⟨Z,f5⟩;omega)];rw[f1]at hb;exact hb
   rw[f]at e;cases e
  rcases U with⟨f,_⟩|⟨_,f,o⟩
  ·rw[f]at e;cases e
  refine D (L fun b hb B=>?_);rw[r]at f o;rcases zrx hg hb B with⟨n,f1,f2,F⟩|⟨i,k,q,f1,f2,F,Z,f5,f6⟩
  ·exact f ⟨by rw[f2];rfl,F⟩
  exact o ⟨by rw[f2];rfl,by rw[f2];show a%64%zbj k=0;rw[F];exact Int.mul_emod_left _ _⟩
 rw[if_neg n0];by_cases n1:t.next=1
 ·rw[if_pos n1];have M:=V.gv (by omega);have N:¬ σ.has (feBl t)->ab'=true:=fun hn=>by
   rcases h4 hd n1 with e|e
   ·exact D e
   exact absurd e hn
  have j:=h3 hd (by omega);by_cases E:t.pk=3
  ·rw[if_pos E];have C:feBl t= .lar t.page t.pa:=if_pos E;by_cases p:(σ.pg t.page).enc=t.word
   ·rw[if_pos p];exact⟨r,G,fun _ _=>j,fun _ e=>(by cases e),fun e=>(by cases e)⟩
   rw[if_neg p];refine⟨r,G,fun e=>(by cases e),fun e=>(by cases e),fun _ _=>N fun z=>p ?_⟩;rw[C]at z;have z:σ.pg t.page= .large t.pa:=z;rw[z,hw n1 E]
  rw[if_neg E];have C:feBl t= .sm t.page t.slot t.pa:=if_neg E;have keep:∀ g,(t.gotA s g).a=t.a/\(t.gotA s g).page=t.page/\(t.gotA s g).slot=t.slot/\(t.gotA s g).pk=t.pk/\(t.gotA s g).pa=t.pa/\(t.gotA s g).gave=g/\(t.gotA s g).done= !g/\(g=true->(t.gotA s g).next≠1):=fun g=>by
   unfold Fe.gotA;dsimp only;split
   ·unfold Fe.kept;dsimp only;split
    ·exact⟨rfl,rfl,rfl,rfl,rfl,rfl,rfl,fun _=>(by dsimp only;first|decide|omega|simp)⟩
    split<;>exact⟨rfl,rfl,rfl,rfl,rfl,rfl,rfl,fun _=>(by dsimp only;first|decide|omega|simp)⟩
   exact⟨rfl,rfl,rfl,rfl,rfl,rfl,rfl,fun _=>(by dsimp only;first|decide|omega|simp)⟩
  by_cases p:σ.sl t.page t.slot= .taken t.pa
  ·rw[if_pos p];obtain⟨k1,R,O,k4,k5,k6,S,k8⟩:=keep true;refine⟨k1.trans r,R.trans G,fun _ _=>?_,fun _ e=>absurd e (k8 rfl),fun e=>?_⟩
   ·rw[<-j];unfold feBl;rw[k4,if_neg E,if_neg E,R,O,k5]
   rw[S]at e;cases e
  rw[if_neg p];obtain⟨k1,R,O,k4,k5,k6,S,k8⟩:=keep false;refine⟨k1.trans r,R.trans G,fun e=>(by rw[S]at e;cases e),fun e=>(by rw[S]at e;cases e),fun _ _=>N fun z=>p ?_⟩;rw[C]at z;exact z
 rw[if_neg n1];have M:=V.gv2 (by omega) hd;have j:=h3 hd (by omega);have fin:∀ (t':Fe) (σ':Ab),t'.a=t.a->t'.page=t.page->t'.slot=t.slot->t'.pk=t.pk->t'.pa=t.pa->t'.gave=t.gave->(t'.next≠1)->zn9 σ'.has ab' a t':=fun t' σ' f o J e4 e5 e6 e7=>⟨f.trans r,o.trans G,fun _ _=>by rw[<-j];unfold feBl;rw[e4,o,J,e5],fun _ e=>absurd e e7,fun _ e=>by rw[e6,M]at e;cases e⟩
 by_cases n2:t.next=2
 ·rw[if_pos n2];obtain⟨_,x,p,_⟩:=c8 n2;rw[p];dsimp only;have X:∀ y:Fe,y.kept.a=y.a/\y.kept.page=y.page/\y.kept.slot=y.slot/\y.kept.pk=y.pk/\y.kept.pa=y.pa/\y.kept.gave=y.gave/\(y.next≠1->y.kept.next≠1):=fun y=>by
   unfold Fe.kept;split
   ·split
    ·exact⟨rfl,rfl,rfl,rfl,rfl,rfl,id⟩
    split
    ·exact⟨rfl,rfl,rfl,rfl,rfl,rfl,fun _=>(by dsimp only;first|decide|omega|simp)⟩
    exact⟨rfl,rfl,rfl,rfl,rfl,rfl,id⟩
   exact⟨rfl,rfl,rfl,rfl,rfl,rfl,id⟩
  obtain⟨a1,a2,a3,a4,a5,a6,a7⟩:=X {t with put:=some (puA s x σ).1};exact fin _ _ a1 a2 a3 a4 a5 a6 (a7 n1)
 rw[if_neg n2];split
 ·exact fin _ _ rfl rfl rfl rfl rfl rfl n1
 split
 ·exact fin _ _ rfl rfl rfl rfl rfl rfl n1
 exact fin _ _ rfl rfl rfl rfl rfl rfl n1
end

section

variable {s:Sh} {σ σ':Ab} {c:Int} {d d':Wd}

def zlq (H:Bl->Prop) (ab:Bool) (o:Op3):Jb->Prop
 | .mal r _=> o.k=1/\lenB o.n=true/\zt2 o.n r
 | .fre f=> o.k=2/\zn9 H ab o.a f
 | .aga r=> o.k=3/\lenB o.n=true/\(∀ x,r.res=some x->zt2 o.n x)/\(∀ f,r.free=some f->zn9 H ab o.a f)/\(r.done=true->r.err=0\/(r.err=3/\zb2 r=false)\/(r.err=1/\zb2 r=false/\ab=true))
 | .hei a=> o.k=4/\(a.done=true->a.err=0\/a.err=4\/a.err=5)
theorem zn9.mono{H H':Bl->Prop}{ab ab':Bool}{a:Int}{f:Fe}(h:zn9 H ab a f)(m:ab=true->ab'=true)(n:∀ b,b.at'=a->H b->ab'=true\/H' b):zn9 H' ab' a f:=by
 refine⟨h.ad,h.pg,h.bl,fun i j=>?_,fun i j=>m (h.no i j)⟩;rcases h.see i j with e|e
 ·exact .inl (m e)
 exact n _ (h.bl i (by omega)) e
theorem zlq.mono{H H':Bl->Prop}{ab ab':Bool}{o:Op3}{j:Jb}(h:zlq H ab o j)(i:ab=true->ab'=true)(m:∀ b,b.at'=o.a->H b->ab'=true\/H' b):zlq H' ab' o j:=by
 cases j with
 |mal r x=>exact h
 |fre f=>exact⟨h.1,h.2.mono i m⟩
 |aga r=>exact⟨h.1,h.2.1,h.2.2.1,fun f n=>(h.2.2.2.1 f n).mono i m,fun e=>(h.2.2.2.2 e).imp id (Or.imp id fun e=>⟨e.1,e.2.1,i e.2.2⟩)⟩
 |hei a=>exact h
theorem zor{H:Bl->Prop}{ab:Bool}{o:Op3}{j:Jb}{b:Blk}(h:zlq H ab o j)(hb:j.took=some b):b.len=lenV o.n/\lenB o.n=true/\(o.k=1\/o.k=3):=by
 cases j with
 |mal r x=>
  have hb:(if zck x=true then r.got else none)=some b:=hb;split at hb
  ·exact⟨zrf h.2.2 hb,h.2.1,.inl h.1⟩
  cases hb
 |fre f=>cases hb;|aga r=>
  have hb:(if r.done=true/\r.err=0 then(match r.res with|some x=>x.got|none=>none) else none)=some b:=hb;split at hb
  ·cases hr:r.res with
   |none=>rw[hr]at hb;cases hb
   |some x=>rw[hr]at hb;exact⟨zrf (h.2.2.1 x hr) hb,h.2.1,.inr h.1⟩
  cases hb
 |hei a=>cases hb
theorem zer(s:Sh)(t:Rr)(r:Rs)(f:Fe)(j:t.res=some r)(i:t.free=some f)(hd:t.done=false){ab:Bool}(hu:zev t.undo=true->f.gave=false/\ab=true)(o:r.done=true->r.got=none->f.gave=false):
  (t.settle s).res=some r/\(t.settle s).free=some f/\((t.settle s).done=true->(t.settle s).err=0\/((t.settle s).err=3/\zb2 (t.settle s)=false)\/((t.settle s).err=1/\zb2 (t.settle s)=false/\ab=true)):=by
 have m:∀ t':Rr,t'.free=some f->zb2 t'=f.gave:=fun t' e=>by unfold zb2;rw[e]
 rcases zcp s t r f j i with⟨k1,e⟩|⟨_,k1,e⟩|⟨_,_,k1,e⟩|⟨_,_,k1,n,e⟩|⟨b,_,_,k1,n,p,e⟩|⟨b,_,_,_,_,_,_,k1,_,e⟩|⟨b,_,_,_,_,_,_,k1,_,e⟩<;>rw[e]
 ·exact⟨j,i,fun _=>.inr (.inr ⟨rfl,(m _ i).trans (hu k1).1,(hu k1).2⟩)⟩
 ·exact⟨j,i,fun _=>.inl rfl⟩
 ·exact⟨j,i,fun e=>(by rw[hd]at e;cases e)⟩
 ·exact⟨j,i,fun _=>.inr (.inl ⟨rfl,(m _ i).trans (o k1 n)⟩)⟩
 ·exact⟨j,i,fun e=>(by rw[hd]at e;cases e)⟩
 ·exact⟨j,i,fun e=>(by have e:t.done=true:=e;rw[hd]at e;cases e)⟩
 exact⟨j,i,fun e=>(by have e:t.done=true:=e;rw[hd]at e;cases e)⟩
theorem z97{s:Sh}{σ:Ab}{t:Ad}(hd:t.done=false)(z:0<=t.next/\t.next<=13)(e:(adA s t σ).1.done=true):(adA s t σ).1.err=0\/(adA s t σ).1.err=4\/(adA s t σ).1.err=5:=by
 have m:∀ (t':Ad) x y,t'.done=false->(t'.turn s x y).done=false:=fun t' x y h=>by
  unfold Ad.turn;dsimp only;split
  ·split<;>exact h
  split<;>exact h
 have sl:∀ t':Ad,t'.done=false->(t'.slot s).done=false:=fun t' h=>by
  unfold Ad.slot;split
  ·exact m _ _ _ h
  exact h
 have no:∀ (t':Ad),t'.done=false->t'.done=true->t'.err=0\/t'.err=4\/t'.err=5:=fun t' a b=>by rw[a]at b;cases b
 have f:t.next=0\/t.next=1\/t.next=2\/t.next=3\/t.next=4\/t.next=5\/t.next=6\/t.next=7\/t.next=8\/t.next=9\/t.next=10\/t.next=11\/t.next=12\/t.next=13:=by omega
 have j:∀ (p:Prop) [Decidable p] (a b:Ad),a.done=false->(b.done=false)->(if p then a else b).done=false:=fun p _ a b o r=>by split<;>assumption
 have n:∀ (p:Prop) [Decidable p] (a b:Ad),(a.done=true->a.err=0\/a.err=4\/a.err=5)->(b.done=true->b.err=0\/b.err=4\/b.err=5)->(if p then a else b).done=true->(if p then a else b).err=0\/(if p then a else b).err=4\/(if p then a else b).err=5:=fun p _ a b o r=>by split<;>assumption
 rcases f with f|f|f|f|f|f|f|f|f|f|f|f|f|f
 ·rw[ya2 hd f]at e ⊢;cases i:σ.st t.d with
  |dead=>rw[i]at e;exact no _ hd e
  |owned q=>rw[i]at e;exact no _ hd e
  |_=>exact .inr (.inr rfl)
 ·rw[yc1 hd f]at e ⊢;exact n _ _ _ (fun _=>.inr (.inl rfl)) (no _ hd) e
 ·rw[yee hd f]at e ⊢;by_cases i:(σ.st t.d).enc=t.was
  ·rw[if_pos i]at e ⊢;exact no _ hd e
  rw[if_neg i];exact .inr (.inl rfl)
 ·rw[ydj hd f]at e ⊢;cases i:σ.pg t.at' with
  |body h=>rw[i]at e;exact no _ hd e
  |_=>rw[i]at e;exact no _ (m _ _ _ hd) e
 ·rw[yd0 hd f]at e ⊢;exact no _ (j _ _ _ hd (m _ _ _ hd)) e
 ·rw[ydy hd f]at e ⊢;exact no _ (m _ _ _ hd) e
 ·rw[ydn hd f]at e ⊢;exact no _ (j _ _ _ hd (m _ _ _ hd)) e
 ·rw[yd2 hd f]at e ⊢;exact no _ (j _ _ _ hd hd) e
 ·rw[yei hd f]at e ⊢;exact no _ (m _ _ _ hd) e
 ·rw[yeh hd f]at e ⊢;exact no _ (j _ _ _ hd hd) e
 ·rw[z9b hd f]at e ⊢;cases i:σ.pg t.at' with
  |super k b=>rw[i]at e;exact no _ hd e
  |_=>rw[i]at e;exact no _ (m _ _ _ hd) e
 ·rw[z8z hd f]at e ⊢;exact no _ (j _ _ _ hd (sl _ hd)) e
 ·rw[z9f hd f]at e ⊢;exact no _ (sl _ hd) e
 rw[z8n hd f];exact .inl rfl
theorem zzb{m:Mem}{j:Jb}{o:Op3}{ab ab':Bool}(hr:Rep s m σ)(hg:GI s σ)(G:jbIs s c j)(b3:0<=c/\c<s.c)(hd:j.done=false)(N:JbAt s c σ j)(h:zlq σ.has ab o j)(Y:(∀ b,σ.has b->b.at'≠o.a)->ab=true)(O:ab=true->ab'=true)
  (n:(j.zhf s c σ).1.gave=j.gave->∀ b,b.at'=o.a->σ.has b->(j.zhf s c σ).2.has b):zlq (j.zhf s c σ).2.has ab' o (j.zhf s c σ).1:=by
 cases j with
 |mal r x=>
  unfold Jb.zhf;dsimp only;split
  ·exact⟨h.1,h.2.1,zot h.2.2 s σ⟩
  split
  ·exact h
  exact h
 |fre f=>exact⟨h.1,zo2 hr hg G hd (N.2.w hd) h.2 Y O⟩;|aga t=>
  obtain⟨h1,h2,h3,h4,h5⟩:=h;obtain⟨r,f,D,p,o1,o2,o3,o4,o5,o6⟩:=G.ok.cl hd;have hd:t.done=false:=hd;have R:=h3 r D;have T:=h4 f p;show zlq (rrA s t σ).2.has ab' o (.aga (rrA s t σ).1);have n:zb2 (rrA s t σ).1=zb2 t->∀ b,b.at'=o.a->σ.has b->(rrA s t σ).2.has b:=n;have mono:∀ (σ':Ab),(∀ b,b.at'=o.a->σ.has b->σ'.has b)->zn9 σ'.has ab' o.a f:=fun σ' hb=>T.mono O fun b D p=>.inr (hb b D p);have ng:∀ u,t.undo=some u->f.gave=false:=fun u hu=>by obtain⟨M,a,b⟩:=G.ng u hu;rw[p]at a;injection a with a;subst a;exact b
  have X:∀ u,t.undo=some u->ab'=true:=fun u hu=>by obtain⟨r',M,a1,F,a3,a4⟩:=G.mid hd (.inl (by rw[hu];simp));rw[p]at a3;injection a3 with a3;subst a3;exact O (T.no a4 (ng u hu))
  have gn:r.done=true->r.got≠none:=fun z C=>by
   have E:=N.inv.ph
   have b0:¬ r.done=false:=by rw[z];decide
   cases hu:t.undo with
   |some u=>
    rw[zl0 hd D p b0 hu]at E
    exact E.2.2 r D C
   |none=>
    cases hc:t.com with
    |some u=>
     obtain⟨r',M,a1,F,_⟩:=G.gv u hc
     rw[D]at a1;injection a1 with a1;subst a1
     rw[C]at F;cases F
    |none=>
     rw[zgm hd D p b0 hu hc,C]at E
     have E:t.done=true:=E
     rw[hd]at E;cases E
  by_cases z:r.done=false
  ·rw[z1v hd D p z]at n ⊢;have Z:f.gave=false:=by have E:=N.inv.ph;have J:t.ph= .res r:=zpi hd D p z;rw[J]at E;exact(G.fre f p).gv (by rw[(E.2 f p).2.1];decide)
   obtain⟨U,L,V⟩:=zer s {t with res:=some (rsA s r σ).1} (rsA s r σ).1 f rfl p hd (ab:=ab') (fun hu=>by
    cases q:t.undo with
    |none=>have hu:zev t.undo=true:=hu;rw[q]at hu;cases hu
    |some u=>exact⟨Z,X u q⟩) (fun _ _=>Z)
   have I:=n (by unfold zb2;rw[L,p]);exact⟨h1,h2,fun x B=>by rw[U]at B;injection B with B;subst B;exact zot R s σ,fun M i=>by rw[L]at i;injection i with i;subst i;exact mono _ I,V⟩
  have S:r.done=true:=by simpa using z
  have C:=gn S;by_cases y:f.done=false
  ·rw[z3m hd D p z y]at n ⊢
   have J:∃ b,t.ph= .fre b f:=by
    have b1:t.undo=none/\t.com=none:=by
     constructor
     ·cases hu:t.undo with
      |none=>rfl
      |some u=>obtain⟨r',M,_,_,a1,F⟩:=G.mid hd (.inl (by rw[hu];simp));rw[p]at a1;injection a1 with a1;subst a1;rw[y]at F;cases F
     ·cases hu:t.com with
      |none=>rfl
      |some u=>obtain⟨r',M,_,_,a1,F⟩:=G.mid hd (.inr (by rw[hu];simp));rw[p]at a1;injection a1 with a1;subst a1;rw[y]at F;cases F
    cases hb:r.got with
    |none=>exact absurd hb C
    |some b=>exact⟨b,by rw[zgm hd D p z b1.1 b1.2,hb]⟩
   obtain⟨b,J⟩:=J;have E:=N.inv.ph;rw[J]at E;have b2:=zo2 hr hg (G.fre f p) y (E.2.1.w y) T Y O
   obtain⟨U,L,V⟩:=zer s {t with free:=some (feA s f σ).1} r (feA s f σ).1 D rfl hd (ab:=ab') (fun hu=>by
    cases q:t.undo with
    |none=>have hu:zev t.undo=true:=hu;rw[q]at hu;cases hu
    |some u=>obtain⟨r',M,_,_,a1,F⟩:=G.mid hd (.inl (by rw[q];simp));rw[p]at a1;injection a1 with a1;subst a1;rw[y]at F;cases F) (fun _ e=>absurd e C)
   exact⟨h1,h2,fun x B=>by rw[U]at B;injection B with B;subst B;exact R,fun M i=>by rw[L]at i;injection i with i;subst i;exact b2,V⟩
  cases hu:t.undo with
  |some u=>rw[z2h hd D p z y hu]at n ⊢;obtain⟨U,L,V⟩:=zer s {t with undo:=some (unA u σ).1} r f D p hd (ab:=ab') (fun _=>⟨ng u hu,X u hu⟩) (fun _ e=>absurd e C);have I:=n (by unfold zb2;rw[L,p]);exact⟨h1,h2,fun x B=>by rw[U]at B;injection B with B;subst B;exact R,fun M i=>by rw[L]at i;injection i with i;subst i;exact mono _ I,V⟩
  |none=>
   cases hc:t.com with
   |none=>
    exfalso
    rcases o6 S (by simpa using y) with e|e
    ·exact e hu
    ·exact e hc
   |some u=>
    rw[zz2 hd D p z y hu hc]at n ⊢
    obtain⟨U,L,V⟩:=zer s {t with com:=some (cmA u σ).1} r f D p hd (ab:=ab') (fun q=>by have q:zev t.undo=true:=q;rw[hu]at q;cases q) (fun _ e=>absurd e C)
    have I:=n (by unfold zb2;rw[L,p])
    exact⟨h1,h2,fun x B=>by rw[U]at B;injection B with B;subst B;exact R,fun M i=>by rw[L]at i;injection i with i;subst i;exact mono _ I,V⟩
 |hei a=>refine⟨h.1,fun e=>?_⟩;have hd:a.done=false:=hd;have e:(adA s a σ).1.done=true:=e;show (adA s a σ).1.err=0\/(adA s a σ).1.err=4\/(adA s a σ).1.err=5;exact z97 (s:=s) (σ:=σ) hd (G.1.cl hd).2.2.2.1 e
end

end Go.Proofs.YtkbddndcegpllaaGreat
