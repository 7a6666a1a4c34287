/- Many ask for a block each, and none gives: the worlds, one after another. Plain. -/
import Derived.Test.YtkilokkopbajkaaGreatBw47

set_option linter.all false
namespace Go.Proofs.YtkilokkopbajkaaGreat

def manL (l:List Ev):List Bk:=l.foldl manM []
theorem HR{l:List Ev}{i:Nat}(h:i<l.length):manL (l.take (i+1))=manM (manL (l.take i)) l[i]:=by
 unfold manL;rw[List.take_succ_eq_append_getElem h,List.foldl_append];rfl
theorem YR(M:List Bk)(e:Ev):(manM M e).length=M.length+(if e.k=5/\e.er=0 then 1 else 0):=by
 unfold manM;split
 ·rw[MQ]
 rfl
theorem yp4{J:Jd}{M:List Bk}{N:Nat}{es:List Ev}(h:ManI J M N)(p:(runJ J es).why=0)(f:∀ e ∈ es,e.k≠1)(j:∀ e ∈ es,e.k=2->e.ok=1)(l:∀ i (hi:i<es.length),(es[i]).k=5->(es[i]).on=((runJ J (es.take i)).pt (es[i]).c).n):
  ManI (runJ J es) (es.foldl manM M) N/\∀ i (hi:i<es.length),(es[i]).k=5->(es[i]).er=0->AB J.W ((es.take i).foldl manM M) (es[i]).at' (lenV (es[i]).on)=true:=by
 induction es generalizing J M with
 |nil=>exact⟨h,fun i hi=>absurd hi (Nat.not_lt_zero _)⟩
 |cons e es y=>
  have m:(CA J e).why=0:=ZE (es:=es) p
  obtain⟨a1,q⟩:=yo3 h m (f e List.mem_cons_self) (j e List.mem_cons_self) (fun b=>l 0 (by simp) b)
  obtain⟨r,t⟩:=y a1 p (fun x o=>f x (List.mem_cons_of_mem _ o)) (fun x o=>j x (List.mem_cons_of_mem _ o)) (fun i hi b=>l (i+1) (by simpa using hi) b)
  refine⟨r,fun i hi b k0=>?_⟩
  cases i with
  |zero=>exact q b k0
  |succ i=>
   have h3:=t i (by simpa using hi) b k0
   have h4:(CA J e).W=J.W:=by
    unfold CA
    split
    ·rfl
    ·split<;>rfl
   rw[h4]at h3
   exact h3
structure MnI (s:Sh) (d:Wd):Prop where
 mi:ManI (jdOf s d) (manL d.tr) s.c.toNat
 tk:∀ i (h:i < d.tr.length),(d.tr[i]).k=5->(d.tr[i]).er=0->AB (s.p * 64) (manL (d.tr.take i)) (d.tr[i]).at' (lenV (d.tr[i]).on)=true
section

variable {s:Sh} {d:Wd} {n:Nat} {c:Int}

theorem yri(j:mayB s.p s.c s.m=true):MnI s (ZA s):=by
 have h0:jdOf s (ZA s)=newJ s.p s.c s.m:=rfl;have h1:newJ s.p s.c s.m=⟨s.p*64, [],List.replicate s.c.toNat Pt.zero,0, -1,0⟩:=by unfold newJ;rw[jP j]
 refine⟨?_,fun i h=>absurd h (Nat.not_lt_zero _)⟩;rw[h0,h1];have l:=(LA.1 j).1;have b:okK (s.p*64) 0 []:=show (0:Int)<=s.p*64 by omega
 refine⟨rfl,(List.length_replicate).symm,b,?_,fun i hi f=>?_,b⟩
 ·show ([]:List Bk).Perm ([]++aH _ _);have:aH (⟨s.p*64, [],List.replicate s.c.toNat Pt.zero,0, -1,0⟩:Jd) s.c.toNat= []:=by unfold aH;rw[List.flatMap_eq_nil_iff];intro i hi;have hi:=List.mem_range.1 hi;unfold Jd.pt pf;dsimp only;rw[Int.toNat_natCast,List.getD_eq_getElem?_getD,List.getElem?_replicate,jP hi];rfl
  rw[this];exact List.Perm.nil
 unfold Jd.pt at f;dsimp only at f;rw[Int.toNat_natCast,List.getD_eq_getElem?_getD,List.getElem?_replicate,jP hi]at f;cases f
theorem gI{d':Wd}{es:List Ev}(h:MnI s d)(B:(jdOf s d).W=s.p*64)(l:d'.tr=d.tr++es)(C:(runJ (jdOf s d) es).why=0)(m:∀ e ∈ es,e.k≠1)(o:∀ e ∈ es,e.k=2->e.ok=1)(q:∀ i (hi:i<es.length),(es[i]).k=5->(es[i]).on=((runJ (jdOf s d) (es.take i)).pt (es[i]).c).n):MnI s d':=by
 obtain⟨a1,r⟩:=yp4 h.mi C m o q;have t:jdOf s d'=runJ (jdOf s d) es:=by unfold jdOf;rw[l,YE]
 have y:manL d'.tr=es.foldl manM (manL d.tr):=by unfold manL;rw[l,List.foldl_append]
 refine⟨by rw[t,y];exact a1,?_⟩;rw[l];intro i hi j k0;by_cases f:i<d.tr.length
 ·rw[List.getElem_append_left f]at j k0 ⊢;rw[List.take_append_of_le_length (by omega)];exact h.tk i f j k0
 have b:d.tr.length<=i:=by omega
 rw[List.getElem_append_right b]at j k0 ⊢;have h3:=r (i-d.tr.length) (by rw[List.length_append]at hi;omega) j k0;rw[B]at h3;have z:manL ((d.tr++es).take i)=(es.take (i-d.tr.length)).foldl manM (manL d.tr):=by unfold manL;rw[List.take_append,List.take_of_length_le b,List.foldl_append]
 rw[z];exact h3
theorem ai_W(h:AI s d n):(jdOf s d).W=s.p*64:=by
 obtain⟨_,_,_,b⟩:=h;exact b.W
theorem ai_y(h:AI s d n):(jdOf s d).why=0:=by
 obtain⟨_,_,_,b⟩:=h;exact b.why
theorem pt_n{J:Jd}{es:List Ev}(i:(runJ J es).why=0)(hc:∀ e ∈ es,e.c=c/\(e.k=3\/e.k=4)):((runJ J es).pt c).n=(J.pt c).n:=by
 induction es generalizing J with
 |nil=>rfl;|cons e es l=>
  have b:(CA J e).why=0:=ZE (es:=es) i;have f:J.why=0:=ZE (es:= [e]) b;obtain⟨h1,h2⟩:=hc e List.mem_cons_self;have h3:=l (J:=CA J e) i fun x j=>hc x (List.mem_cons_of_mem _ j);refine Eq.trans h3 ?_;rcases h2 with m|o
  ·obtain⟨_,hd⟩:=DN f b m;have:=hd.mine;rw[h1]at this;rw[this];exact(VD _ _).2.2.2.2.2.1
  obtain⟨_,hd⟩:=CN f b o;have:=hd.mine;rw[h1]at this;rw[this];exact(VD _ _).2.2.2.2.2.1
theorem yms(k:Kl)(j:Jb):∃ a b,k.tells j=a++b/\(∀ e ∈ a,e.c=k.c/\(e.k=3\/e.k=4))/\(b= []\/∃ e,b= [e]/\e.c=k.c/\e.k=5/\e.on=k.op.n):=by
 unfold Kl.tells;have i:∀ e ∈ (if j.gave=true/\k.told=false then [pE k.c k.op.a] else []),e.c=k.c/\(e.k=3\/e.k=4):=fun e f=>by
  split at f
  ·rw[List.mem_singleton]at f;subst f;exact⟨rfl,.inr rfl⟩
  cases f
 by_cases hd:j.done=true
 ·rw[jP hd];refine⟨(if j.gave=true/\k.told=false then [pE k.c k.op.a] else [])++(match j.took with|some b=>[kE k.c b.at' b.len]|none=>[]), [OA k.c k.op (sB j.took) j.err],(List.append_assoc _ _ _).symm,fun e f=>?_,.inr ⟨_,rfl,rfl,rfl,rfl⟩⟩;rcases List.mem_append.1 f with f|f
  ·exact i e f
  cases ht:j.took with
  |none=>rw[ht]at f;cases f
  |some b=>rw[ht,List.mem_singleton]at f;subst f;exact⟨rfl,.inl rfl⟩
 rw[jN hd];exact⟨_, [],rfl,i,.inl rfl⟩
theorem yqb(r:AI s d n)(h:MnI s d)(c:Int):MnI s (d.act s (VA c)).1:=by
 have t:=mC r (VA c);by_cases hb:(VA c).bad s
 ·unfold Wd.act;rw[jP hb];exact h
 have p:0<=c/\c<s.c:=by unfold Ch.bad VA at hb;dsimp only at hb;omega
 cases hk:d.kl c with
 |none=>
  have:(d.act s (VA c)).1=d:=by unfold Wd.act;rw[jN hb,jN (show ¬ (VA c).kind=1 from (show ¬ (3:Int)=1 by decide))];have e:d.kl (VA c).client=none:=hk;rw[e]
  rw[this];exact h
 |some k=>
  rw[FH hk p]at t ⊢
  cases hj:k.job with
  |none=>
   have e:k.step s d.m=(k,d.m, [],2):=by unfold Kl.step;rw[hj]
   refine gI (es:= []) h (ai_W r) (by unfold Wd.step;rw[e]) (ai_y r) (fun e f=>by cases f) (fun e f=>by cases f) (fun i hi=>absurd hi (Nat.not_lt_zero _))
  |some j=>
   have e:k.step s d.m=(k.after (j.step s k.c d.m).1,(j.step s k.c d.m).2,k.tells (j.step s k.c d.m).1,0):=by unfold Kl.step;rw[hj]
   have o:(d.step s c k).1.tr=d.tr++k.tells (j.step s k.c d.m).1:=by unfold Wd.step;rw[e]
   obtain⟨_,z,_⟩:=r.1.kl _ _ hk
   obtain⟨a,b,f1,f2,l⟩:=yms k (j.step s k.c d.m).1
   rw[f1]at o
   have D:(runJ (jdOf s d) (a++b)).why=0:=by
    have:=ai_y t
    unfold jdOf at this ⊢
    rwa [o,YE]at this
   obtain⟨_,σ,L,H⟩:=id r
   obtain⟨⟨_,_,I⟩,_⟩:=(H.pt c p.1 p.2).op k j hk hj
   have y:∀ e ∈ a++b,e.k=3\/e.k=4\/e.k=5:=fun e f=>by
    rcases List.mem_append.1 f with f|f
    ·have:=(f2 e f).2;omega
    ·rcases l with l|⟨x,l,_,C,_⟩
     ·rw[l]at f;cases f
     ·rw[l,List.mem_singleton]at f;subst f;omega
   refine gI h (ai_W r) o D (fun e f=>by have:=y e f;omega) (fun e f=>by have:=y e f;omega) (fun i hi J=>?_)
   by_cases q:i<a.length
   ·rw[List.getElem_append_left q]at J
    have:=(f2 _ (List.getElem_mem q)).2
    omega
   ·rcases l with l|⟨x,l,C,_,F⟩
    ·subst l;rw[List.append_nil]at hi;exact absurd hi q
    ·subst l
     have B:i=a.length:=by rw[List.length_append,List.length_singleton]at hi;omega
     subst B
     have E:(a++[x])[a.length]=x:=by rw[List.getElem_append_right lr];simp
     rw[E,List.take_append_of_le_length lr,List.take_length,F,C,z]
     have G:=pt_n (c:=c) (run2 D) (fun e f=>by have:=f2 e f;rw[z]at this;exact this)
     rw[G,I]
theorem yo4(o:AI s d n)(h:MnI s d)(c:Int)(b:Nat):MnI s (d.act s ⟨1,c,0,0,0,b⟩).1:=by
 have l:=mC o ⟨1,c,0,0,0,b⟩;have f:=ai_y l;unfold Wd.act at f ⊢;by_cases hb:(⟨1,c,0,0,0,b⟩:Ch).bad s
 ·rw[jP hb];exact h
 rw[jN hb,jP rfl]at f ⊢;unfold Wd.begin at f ⊢;by_cases h0:d.stat (⟨1,c,0,0,0,b⟩:Ch).client=0
 ·rw[jP h0]at f ⊢;have m:(runJ (jdOf s d) [rE c]).why=0:=by unfold jdOf at f ⊢;rwa [YE]at f
  refine gI (es:= [rE c]) h (ai_W o) rfl m (fun e j=>by rw[List.mem_singleton]at j;subst j;exact(by decide:(0:Int)≠1)) (fun e j p=>by rw[List.mem_singleton]at j;subst j;exact absurd p (by decide:¬ (0:Int)=2)) (fun i hi q=>?_);have:i=0:=by simpa using hi
  subst this;exact absurd q (by decide:¬ (0:Int)=5)
 rw[jN h0];exact h
theorem yqv(q:AI s d n)(h:MnI s d)(c m:Int):MnI s (d.act s ⟨2,c,1,0,m,0⟩).1:=by
 have t:=mC q ⟨2,c,1,0,m,0⟩;have p:=ai_y t;unfold Wd.act at p ⊢;by_cases hb:(⟨2,c,1,0,m,0⟩:Ch).bad s
 ·rw[jP hb];exact h
 rw[jN hb,jN (show ¬ (2:Int)=1 by decide)]at p ⊢;dsimp only at p ⊢;cases hk:d.kl c with
 |none=>exact h;|some k=>
  rw[hk]at p;dsimp only at p ⊢;rw[jN (show ¬ (2:Int)=3 by decide),jP rfl]at p ⊢;have y:=(q.1.kl _ _ hk).2.1;have z:Ch.op (⟨2,c,1,0,m,0⟩:Ch)=⟨1,0,m⟩:=rfl;have j:(d.ask s ⟨2,c,1,0,m,0⟩ k).1.tr=d.tr++(k.invoke s ⟨1,0,m⟩).2.1:=rfl;have o:(runJ (jdOf s d) (k.invoke s ⟨1,0,m⟩).2.1).why=0:=by unfold jdOf at p ⊢;rwa [j,YE]at p
  have key:(k.invoke s ⟨1,0,m⟩).2.1= []\/(k.invoke s ⟨1,0,m⟩).2.1= [NA c ⟨1,0,m⟩]\/∃ er,(k.invoke s ⟨1,0,m⟩).2.1= [NA c ⟨1,0,m⟩,OA c ⟨1,0,m⟩ 0 er]:=by
   unfold Kl.invoke;rw[y];split
   ·exact .inl rfl
   split
   ·exact .inl rfl
   split
   ·exact .inr (.inr ⟨_,rfl⟩)
   exact .inr (.inl rfl)
  generalize (k.invoke s ⟨1,0,m⟩).2.1=es at *;rcases key with rfl|rfl|⟨er,rfl⟩
  ·exact gI (es:= []) h (ai_W q) j o (fun e b=>by cases b) (fun e b=>by cases b) (fun i hi=>absurd hi (Nat.not_lt_zero _))
  ·refine gI h (ai_W q) j o (fun e b=>by rw[List.mem_singleton]at b;subst b;exact(by decide:(2:Int)≠1)) (fun e b _=>by rw[List.mem_singleton]at b;subst b;rfl) (fun i hi r=>?_);have:i=0:=by simpa using hi
   subst this;exact absurd r (by decide:¬ (2:Int)=5)
  refine gI h (ai_W q) j o (fun e b=>?_) (fun e b B=>?_) (fun i hi r=>?_)
  ·rcases List.mem_cons.1 b with f|f
   ·subst f;exact(by decide:(2:Int)≠1)
   rw[List.mem_singleton]at f;subst f;exact(by decide:(5:Int)≠1)
  ·rcases List.mem_cons.1 b with f|f
   ·subst f;rfl
   rw[List.mem_singleton]at f;subst f;exact absurd B (by decide:¬ (5:Int)=2)
  match i,hi,r with
  |0,_,r=>exact absurd r (by decide:¬ (2:Int)=5);|1,_,_=>have hd:=rR (ai_y q) (ZE (es:= [OA c ⟨1,0,m⟩ 0 er]) o);show m=((CA (jdOf s d) (NA c ⟨1,0,m⟩)).pt c).n;rw[hd.mine];exact(VD (jdOf s d).l ⟨true,true,true,1,0,m,false,false,0,false⟩).2.2.2.2.2.1.symm
  |i+2,hi,_=>exact absurd hi (by simp)
theorem TR(b:AI s d n)(h:MnI s d)(l:List Int):MnI s (yC s d l):=by
 induction l generalizing d n with
 |nil=>exact h
 |cons x l f=>exact f (mC b (VA x)) (yqb b h x)
def rdyL (d:Wd):List Int:=whoL (fun k=> !k.rests) d.l d.l.length
theorem ON(d:Wd):(rdyL d).length<=d.l.length:=VJ _ _ _
def rdN (s:Sh) (d:Wd):Nat->Wd
 | 0=> d
 | i + 1=> yC s (rdN s d i) (rdyL (rdN s d i))
theorem vK(h:AI s d n)(i:Nat):AI s (rdN s d i) (n+i*12):=by
 induction i with
 |zero=>simpa[rdN] using h;|succ i b=>have h1:=uK b (rdyL (rdN s d i));have h2:=ON (rdN s d i);have h3:=b.1.len;have h4:=b.1.fi.bd;exact sC h1 (by rw[Nat.add_mul];omega)
theorem yq9(b:AI s d n)(h:MnI s d)(i:Nat):MnI s (rdN s d i):=by
 induction i with
 |zero=>exact h
 |succ i f=>exact TR (vK b i) f _
theorem yqo{k:Kl}(f:d.kl c=some k)(i:k.job≠none):c ∈ rdyL d:=by
 have b:=Wd.lC f;unfold Wd.kl at f;rw[jP b.1]at f;unfold rdyL whoL;rw[List.mem_map];refine⟨c.toNat,?_,by omega⟩;rw[List.mem_filter];refine⟨List.mem_range.2 b.2,?_⟩;unfold whoB;rw[f];show (!k.rests)=true;unfold Kl.rests;cases hx:k.job with
 |none=>exact absurd hx i
 |some j=>rfl
theorem yqw(h:AI s d n)(x:Int)(i:Nat):Bd (rdN s d i) i x:=by
 induction i with
 |zero=>exact fun k b _=>((h.1.kl x k b).1).st;|succ i q=>
  have l:=vK h i;show Bd (yC s (rdN s d i) (rdyL (rdN s d i))) ((i+1:Nat):Int) x;by_cases m:∀ k,(rdN s d i).kl x=some k->k.job=none
  ·exact fun k b f=>absurd (yl0 l m (rdyL (rdN s d i)) k b) f
  have p:x ∈ rdyL (rdN s d i):=by
   refine Classical.byContradiction fun o=>m fun k b=>?_
   cases f:k.job with
   |none=>rfl
   |some j=>exact absurd (yqo b (by rw[f];exact fun e=>by cases e)) o
  exact_mod_cast yo0 l q p
theorem yn8(h:AI s d n){i:Nat}(hi:JA s<=i):∀ x k,(rdN s d i).kl x=some k->k.job=none:=fun x=>yq4 (vK h i).1 (kS (yqw h x i) (by omega))
theorem yqt(o:AI s d n)(h:MnI s d)(r:∀ x k,d.kl x=some k->k.job=none):(jdOf s d).l=manL d.tr:=by
 obtain⟨_,σ,y,m⟩:=id o;have q:aH (jdOf s d) s.c.toNat= []:=by unfold aH;rw[List.flatMap_eq_nil_iff];intro i hi;have hi:=List.mem_range.1 hi;unfold pf;refine jN fun t=>?_;obtain⟨k,j,h1,h2⟩:=(m.pt (i:Int) (by omega) (by omega)).asks.1 t.1;rw[r _ k h1]at h2;cases h2
 have f:=h.mi.pm;rw[q,List.append_nil]at f;have p:=h.mi.ok;have h0:=h.mi.m0;exact okK.same p h0 fun b=>f.mem_iff
end

def GF (i:Nat):Nat:=(floatBits .quo .f64 (floatOfInt .f64 (i:Int)) 4616189618054758400).getD 0
theorem yoq:∀ i:Nat,i<12->floatBits .quo .f64 (floatOfInt .f64 (i:Int)) 4616189618054758400=some (GF i):=by decide +kernel
def DH (zs:List Int) (i:Nat):Int:=1 + (zs.getD (i % zs.length) 0) % 512
def bgN (s:Sh) (zs:List Int):Nat->Wd
 | 0=> ZA s
 | i + 1=> ((((bgN s zs i).act s ⟨1,i,0,0,0,GF i⟩).1).act s ⟨2,i,1,0,DH zs i,0⟩).1
theorem yq0{s:Sh}(f:mayB s.p s.c s.m=true)(zs:List Int)(i:Nat):AI s (bgN s zs i) (2*i)/\MnI s (bgN s zs i):=by
 induction i with
 |zero=>exact⟨RN f,yri f⟩;|succ i b=>have h1:=mC b.1 ⟨1,i,0,0,0,GF i⟩;exact⟨sC (mC h1 ⟨2,i,1,0,DH zs i,0⟩) (by omega),yqv h1 (yo4 b.1 b.2 i (GF i)) i (DH zs i)⟩
def modL (s:Sh) (us:List Int):List Int:=us.map fun u=> u % s.c
end Go.Proofs.YtkilokkopbajkaaGreat
