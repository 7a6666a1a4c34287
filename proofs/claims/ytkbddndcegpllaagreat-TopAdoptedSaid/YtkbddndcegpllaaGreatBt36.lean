/- One asks alone: what it is told, and what the blocks are behind its answer, as a judge that heard the history has them. Plain. -/
import Derived.Test.YtkbddndcegpllaaGreatBt35

set_option linter.all false
namespace Go.Proofs.YtkbddndcegpllaaGreat

def jdOf (s:Sh) (d:Wd):Jd:=runJ (newJ s.p s.c s.m) d.tr
def AI (s:Sh) (d:Wd) (n:Nat):Prop:=wdOk s d n/\∃ σ,WI s σ d/\JI s σ d (jdOf s d)
theorem ai_new{s:Sh}(h:mayB s.p s.c s.m=true):AI s (zde s) 0:=⟨zl9 h,z9x,ydc h,ji_new h⟩
theorem ai_act{s:Sh}{d:Wd}{n:Nat}(h:AI s d n)(x:Ch):AI s (d.act s x).1 (n+1):=by
 obtain⟨b,σ,m,l⟩:=h;obtain⟨σ',es,f,i,j⟩:=ji_act l m b x;refine⟨zeo b x,σ',f,?_⟩;unfold jdOf;rw[i,yh5];exact j
theorem ai_goS{s:Sh}{d:Wd}{n:Nat}{c:Int}(h:AI s d n):AI s (d.goS s c) (n+1):=by
 have b:=ai_act h (zjx c);refine⟨ye0 h.1,?_⟩;unfold Wd.goS;split
 ·split
  ·exact b.2
  exact h.2
 exact h.2
theorem ai_goN{s:Sh}{d:Wd}{n:Nat}{c:Int}(h:AI s d n)(i:Nat):AI s (d.goN s c i) (n+i):=by
 induction i with
 |zero=>exact h
 |succ i b=>exact ai_goS b
theorem ff{p:Prop}{b:Bool}(h:b=false)(k:b=true):p:=by rw[h]at k;cases k
section

variable {J:Jd} {e:Ev} {W:Int} {L:List Bk} {o:Op3} {c:Int}

theorem run_why{es:List Ev}(h:(runJ J es).why=0):J.why=0:=by
 rcases Decidable.em (J.why=0) with b|b
 ·exact b
 rw[yir b]at h;exact h
theorem hear_c(f:J.why=0)(h:(zdo J e).why=0):(whyJ J.W J.l J.ps e).c=0:=by
 unfold zdo at h;rw[if_neg (by omega)]at h;rcases Decidable.em ((whyJ J.W J.l J.ps e).c=0) with b|b
 ·exact b
 rw[if_pos b]at h;exact absurd h b
theorem hear_in(h:(whyJ J.W J.l J.ps e).c=0):¬ (e.c<0\/(J.ps.length:Int)<=e.c\/e.k<0\/5<e.k):=by
 intro b;unfold whyJ at h;rw[if_pos b]at h;exact absurd h (show (1:Int)≠0 by decide)
theorem hear_asks(h:(whyJ J.W J.l J.ps e).c=0)(m:3<=e.k):(J.pt e.c).lives=true/\(J.pt e.c).asks=true:=by
 have f:=hear_in h;unfold whyJ at h;rw[if_neg f,if_neg (by omega)]at h;by_cases b:(J.ps.getD e.c.toNat Pt.zero).lives=false\/(J.ps.getD e.c.toNat Pt.zero).asks=false
 ·rw[if_pos b]at h;exact absurd h (show (1:Int)≠0 by decide)
 have i:(J.pt e.c).lives=true:=by
  cases h4:(J.pt e.c).lives
  ·exact absurd (.inl h4) b
  rfl
 have j:(J.pt e.c).asks=true:=by
  cases h4:(J.pt e.c).asks
  ·exact absurd (.inr h4) b
  rfl
 exact⟨i,j⟩
theorem heard_gave(j:J.why=0)(h:(zdo J e).why=0)(q:e.k=4):z8m J.l (J.pt e.c) e=0/\yex J (zdo J e) e.c (zse J.l e.at') { J.pt e.c with gave:=true}:=by
 have i:=hear_c j h;have m:=hear_in i;obtain⟨n,p⟩:=hear_asks i (by omega);have f:whyJ J.W J.l J.ps e=if z8m J.l (J.pt e.c) e=0 then⟨0,zse J.l e.at',J.ps.set e.c.toNat { J.pt e.c with gave:=true}⟩ else⟨z8m J.l (J.pt e.c) e,J.l,J.ps⟩:=by
  unfold whyJ
  rw[if_neg m,if_neg (by omega),if_neg (by
   intro b
   rcases b with b|b
   ·exact absurd (n.symm.trans b) (by decide)
   ·exact absurd (p.symm.trans b) (by decide)),if_neg (by omega),if_pos q]
  rfl
 by_cases b:z8m J.l (J.pt e.c) e=0
 ·rw[if_pos b]at f;exact⟨b,zfu j ⟨by omega,by omega⟩ f⟩
 rw[if_neg b]at f;rw[f]at i;exact absurd i b
theorem heard_took(j:J.why=0)(h:(zdo J e).why=0)(r:e.k=3):z8g J.W J.l (J.pt e.c) e=0/\yex J (zdo J e) e.c (putB J.l e.at' e.n) { J.pt e.c with took:=true,at':=e.at'}:=by
 have i:=hear_c j h;have m:=hear_in i;obtain⟨p,q⟩:=hear_asks i (by omega);have f:whyJ J.W J.l J.ps e=if z8g J.W J.l (J.pt e.c) e=0 then⟨0,putB J.l e.at' e.n,J.ps.set e.c.toNat { J.pt e.c with took:=true,at':=e.at'}⟩ else⟨z8g J.W J.l (J.pt e.c) e,J.l,J.ps⟩:=by
  unfold whyJ
  rw[if_neg m,if_neg (by omega),if_neg (by
   intro b
   rcases b with b|b
   ·exact absurd (p.symm.trans b) (by decide)
   ·exact absurd (q.symm.trans b) (by decide)),if_pos r]
  rfl
 by_cases b:z8g J.W J.l (J.pt e.c) e=0
 ·rw[if_pos b]at f;exact⟨b,zfu j ⟨by omega,by omega⟩ f⟩
 rw[if_neg b]at f;rw[f]at i;exact absurd i b
theorem heard_answer(j:J.why=0)(h:(zdo J e).why=0)(q:e.k=5):zd9 (J.pt e.c) e=true/\yex J (zdo J e) e.c J.l { J.pt e.c with asks:=false}:=by
 have i:=hear_c j h;have m:=hear_in i;obtain⟨n,p⟩:=hear_asks i (by omega);have f:whyJ J.W J.l J.ps e=if zd9 (J.pt e.c) e=true then⟨0,J.l,J.ps.set e.c.toNat { J.pt e.c with asks:=false}⟩ else⟨4,J.l,J.ps⟩:=by
  unfold whyJ
  rw[if_neg m,if_neg (by omega),if_neg (by
   intro b
   rcases b with b|b
   ·exact absurd (n.symm.trans b) (by decide)
   ·exact absurd (p.symm.trans b) (by decide)),if_neg (by omega),if_neg (by omega)]
  rfl
 by_cases b:zd9 (J.pt e.c) e=true
 ·rw[if_pos b]at f;exact⟨b,zfu j ⟨by omega,by omega⟩ f⟩
 rw[if_neg b]at f;rw[f]at i;exact absurd i (show (4:Int)≠0 by decide)
theorem heard_asked(j:J.why=0)(h:(zdo J (zbh c o)).why=0):yex J (zdo J (zbh c o)) c J.l ⟨true,true,true,o.k,o.a,o.n,false,false,0,false⟩:=by
 have f:=hear_c j h;have i:=hear_in f;have b:whyJ J.W J.l J.ps (zbh c o)=⟨zf0 (J.pt c) (zbh c o),J.l,J.ps.set c.toNat (zkj (J.pt c) (zbh c o))⟩:=by unfold whyJ;rw[if_neg i,if_pos (show (zbh c o).k<3 from (show (2:Int)<3 by decide))];rfl
 have m:zf0 (J.pt c) (zbh c o)=0:=by rw[b]at f;exact f
 have p:zkj (J.pt c) (zbh c o)=⟨true,true,true,o.k,o.a,o.n,false,false,0,false⟩:=by unfold zkj;rw[if_neg (by omega),if_neg (show ¬ (zbh c o).k=0 from (show ¬ (2:Int)=0 by decide)),if_neg (show ¬ (zbh c o).k=1 from (show ¬ (2:Int)=1 by decide))];rfl
 rw[m,p]at b;have q:¬ (c<0\/(J.ps.length:Int)<=c\/(2:Int)<0\/(5:Int)<2):=i;exact zfu j (e:=zbh c o) ⟨show 0<=c by omega,show c.toNat<J.ps.length by omega⟩ b
structure Mid (W:Int) (L:List Bk) (o:Op3) (c:Int) (J:Jd):Prop where
 why:J.why=0
 wj:J.W=W
 k:(J.pt c).k=o.k
 a:(J.pt c).a=o.a
 n:(J.pt c).n=o.n
 ab:(J.pt c).gave=false->(J.pt c).took=false->(J.pt c).ab=true->zd6 o.a L=false
 no:(J.pt c).gave=false->(J.pt c).took=false->J.l=L
 gv:(J.pt c).gave=true->(o.k=2\/o.k=3)/\zd6 o.a L=true
 g0:(J.pt c).gave=true->(J.pt c).took=false->J.l=zse L o.a
 tk:(J.pt c).took=true->(o.k=1\/(o.k=3/\(J.pt c).gave=true))/\lenB o.n=true
 t1:(J.pt c).took=true->(J.pt c).gave=false->zwf W L (J.pt c).at' (lenV o.n)=true/\J.l=putB L (J.pt c).at' (lenV o.n)
 t3:(J.pt c).took=true->(J.pt c).gave=true->zwf W (zse L o.a) (J.pt c).at' (lenV o.n)=true/\J.l=putB (zse L o.a) (J.pt c).at' (lenV o.n)
 t0:(J.pt c).took=true->(J.pt c).gave=true->∀ x,⟨o.a,x⟩ ∈ L->¬ (o.a < (J.pt c).at' + lenV o.n/\(J.pt c).at' < o.a + x)
theorem mid_asked(C:J.why=0)(h:(zdo J (zbh c o)).why=0):Mid J.W J.l o c (zdo J (zbh c o)):=by
 obtain⟨t,y,z,D,p,_⟩:=heard_asked C h;obtain⟨a1,q,r,i,j,m,b,f,s,_,_⟩:=zi2 J.l ⟨true,true,true,o.k,o.a,o.n,false,false,0,false⟩;rw[<-p]at a1 q r i j m b f s;refine⟨y,t,i,j,m,fun _ _ e=>?_,fun _ _=>z,fun e=>ff f e,fun e=>ff f e,fun e=>ff b e,fun e=>ff b e,fun e=>ff b e,fun e=>ff b e⟩;rw[p]at e;unfold abP at e;dsimp only at e;split at e
 ·rename_i B;exact B.1
 exact ff rfl e
theorem mid_gave(h:Mid W L o c J)(hc:e.c=c)(Y:e.k=4)(O:(zdo J e).why=0):Mid W L o c (zdo J e):=by
 obtain⟨p,V⟩:=heard_gave h.why O Y;subst hc;obtain⟨R,S,T,Z,U,_⟩:=V;obtain⟨a1,I,M,t,y,z,B,C,N,_,_⟩:=zi2 (zse J.l e.at') { J.pt e.c with gave:=true};rw[<-U]at a1 I M t y z B C N;have b:mayG (J.pt e.c)=true/\(J.pt e.c).gave=false/\e.at'=o.a/\zd6 e.at' J.l=true:=by
  unfold z8m at p;split at p
  ·exact absurd p (by decide)
  rename_i s;split at p
  ·rename_i X;refine⟨?_,?_,?_,X⟩
   ·cases hm:mayG (J.pt e.c)
    ·exact absurd (.inl hm) s
    rfl
   ·cases hm:(J.pt e.c).gave
    ·rfl
    exact absurd (.inr (.inl hm)) s
   rcases Decidable.em (e.at'=(J.pt e.c).a) with j|j
   ·exact j.trans h.a
   exact absurd (.inr (.inr j)) s
  exact absurd p (by decide)
 obtain⟨r,D,E,F⟩:=b;have q:o.k=2\/o.k=3:=by unfold mayG at r;rw[h.k]at r;simpa using r
 have H:(J.pt e.c).took=false:=by
  cases hm:(J.pt e.c).took
  ·rfl
  rcases(h.tk hm).1 with j|j
  ·omega
  exact absurd (D.symm.trans j.2) (by decide)
 have G:=h.no D H;rw[G,E]at F;have i:=B.trans H;have m:((zdo J e).pt e.c).gave=true:=C;refine⟨S,R.trans h.wj,t.trans h.k,y.trans h.a,z.trans h.n,fun f=>ff f m,fun f=>ff f m,fun _=>⟨q,F⟩,fun _ _=>?_,fun f=>ff i f,fun f=>ff i f,fun f=>ff i f,fun f=>ff i f⟩;rw[T,G,E]
theorem mid_took(h:Mid W L o c J)(hc:e.c=c)(Z:e.k=3)(R:(zdo J e).why=0)(X:(J.pt c).gave=true->∀ x,⟨o.a,x⟩ ∈ L->¬ (o.a<e.at'+e.n/\e.at'<o.a+x)):Mid W L o c (zdo J e):=by
 obtain⟨q,V⟩:=heard_took h.why R Z;subst hc;obtain⟨S,T,I,h4,U,_⟩:=V;obtain⟨a1,M,N,C,D,E,F,m,G,_,_⟩:=zi2 (putB J.l e.at' e.n) { J.pt e.c with took:=true,at':=e.at'};rw[<-U]at a1 M N C D E F m G;have b:mayT (J.pt e.c)=true/\(J.pt e.c).took=false/\lenB o.n=true/\lenV o.n=e.n/\zwf J.W J.l e.at' e.n=true:=by
  unfold z8g at q;rw[h.n]at q;split at q
  ·exact absurd q (by decide)
  rename_i t;split at q
  ·rename_i Y;refine⟨?_,?_,?_,?_,Y⟩
   ·cases hm:mayT (J.pt e.c)
    ·exact absurd (.inl hm) t
    rfl
   ·cases hm:(J.pt e.c).took
    ·rfl
    exact absurd (.inr (.inl hm)) t
   ·cases hm:lenB o.n
    ·exact absurd (.inr (.inr (.inl hm))) t
    rfl
   rcases Decidable.em (lenV o.n=e.n) with p|p
   ·exact p
   exact absurd (.inr (.inr (.inr p))) t
  exact absurd q (by decide)
 obtain⟨y,H,O,z,s⟩:=b;have B:o.k=1\/(o.k=3/\(J.pt e.c).gave=true):=by unfold mayT at y;rw[h.k]at y;simpa using y
 have i:((zdo J e).pt e.c).took=true:=F;have j:((zdo J e).pt e.c).at'=e.at':=G;refine⟨T,S.trans h.wj,C.trans h.k,D.trans h.a,E.trans h.n,fun _ f=>ff f i,fun _ f=>ff f i,fun f=>h.gv (m.symm.trans f),fun _ f=>ff f i,fun _=>⟨B.imp id (fun p=>⟨p.1,m.trans p.2⟩),O⟩,fun _ f=>?_,fun _ f=>?_,fun _ f=>by rw[j,z];exact X (m.symm.trans f)⟩
 ·have r:=h.no (m.symm.trans f) H;rw[j,I,r,z];rw[r,h.wj]at s;exact⟨s,rfl⟩
 have r:=h.g0 (m.symm.trans f) H;rw[j,I,r,z];rw[r,h.wj]at s;exact⟨s,rfl⟩
structure AnsF (W:Int) (L:List Bk) (o:Op3) (er at':Int) (L':List Bk):Prop where
 no:er≠0->L'=L/\at'=0
 ers:er≠0->er=1\/(er=3/\(o.k=1\/o.k=3))\/((er=4\/er=5)/\o.k=4)
 m1:o.k=1->er=0->lenB o.n=true/\zwf W L at' (lenV o.n)=true/\L'=putB L at' (lenV o.n)
 m2:o.k=1->er=1->lenB o.n=false
 f1:o.k=2->(er=0↔zd6 o.a L=true)
 f2:o.k=2->er=0->L'=zse L o.a
 r1:o.k=3->er=0->lenB o.n=true/\zd6 o.a L=true/\zwf W (zse L o.a) at' (lenV o.n)=true/\L'=putB (zse L o.a) at' (lenV o.n)
 a1:o.k=4->L'=L
 r0:o.k=3->er=0->∀ x,⟨o.a,x⟩ ∈ L->¬ (o.a < at' + lenV o.n/\at' < o.a + x)
theorem mid_answer(h:Mid W L o c J)(hc:e.c=c)(I:e.k=5)(F:(zdo J e).why=0):AnsF W L o e.er e.at' (zdo J e).l:=by
 obtain⟨s,G⟩:=heard_answer h.why F I;subst hc;have N:(zdo J e).l=J.l:=G.l;rw[N];have r:e.er≠0->(J.pt e.c).took=false/\(J.pt e.c).gave=false/\e.at'=0/\(if e.er=1 then zie (J.pt e.c) else if e.er=3 then(J.pt e.c).k==1||(J.pt e.c).k==3 else if e.er=4\/e.er=5 then(J.pt e.c).k==4 else false)=true:=by
  intro i;unfold zd9 at s;rw[if_neg i]at s;split at s
  ·exact absurd s (by decide)
  rename_i E;refine⟨?_,?_,?_,?_⟩
  ·cases hm:(J.pt e.c).took
   ·rfl
   exact absurd (.inl hm) E
  ·cases hm:(J.pt e.c).gave
   ·rfl
   exact absurd (.inr (.inl hm)) E
  ·rcases Decidable.em (e.at'=0) with q|q
   ·exact q
   exact absurd (.inr (.inr q)) E
  exact s
 have j:e.er=0->zzo (J.pt e.c) e.at'=true:=fun i=>by rw[ycg i]at s;exact s
 refine⟨fun i=>?_,fun i=>?_,fun t i=>?_,fun t i=>?_,fun p=>?_,fun p i=>?_,fun y i=>?_,fun M=>?_,fun y i=>?_⟩
 ·obtain⟨b,m,D,_⟩:=r i;exact⟨h.no m b,D⟩
 ·obtain⟨b,m,D,f⟩:=r i;rw[h.k]at f;by_cases C:e.er=1
  ·exact .inl C
  rw[if_neg C]at f;by_cases z:e.er=3
  ·rw[if_pos z]at f;exact .inr (.inl ⟨z,by simpa using f⟩)
  rw[if_neg z]at f;by_cases B:e.er=4\/e.er=5
  ·rw[if_pos B]at f;exact .inr (.inr ⟨B,by simpa using f⟩)
  rw[if_neg B]at f;exact absurd f (by decide)
 ·have b:=j i;unfold zzo at b;rw[h.k,if_pos (.inl t),Bool.and_eq_true,beq_iff_eq]at b;have m:(J.pt e.c).gave=false:=by
   cases hm:(J.pt e.c).gave
   ·rfl
   have:=(h.gv hm).1;omega
  rw[b.2];exact⟨(h.tk b.1).2,h.t1 b.1 m⟩
 ·obtain⟨_,_,_,f⟩:=r (by omega);rw[if_pos i]at f;unfold zie at f;rw[h.k,if_pos t,h.n]at f;simpa using f
 ·constructor
  ·intro i;have b:=j i;unfold zzo at b;rw[h.k,if_neg (by omega),if_pos p,Bool.and_eq_true]at b;exact(h.gv b.1).2
  intro H;rcases Decidable.em (e.er=0) with i|i
  ·exact i
  obtain⟨b,m,D,f⟩:=r i;rw[h.k]at f;by_cases C:e.er=1
  ·rw[if_pos C]at f;unfold zie at f;rw[h.k,if_neg (by omega),if_pos p]at f;exact absurd (H.symm.trans (h.ab m b f)) (by decide)
  rw[if_neg C]at f;by_cases z:e.er=3
  ·rw[if_pos z,p]at f;exact absurd f (by decide)
  rw[if_neg z]at f;by_cases B:e.er=4\/e.er=5
  ·rw[if_pos B,p]at f;exact absurd f (by decide)
  rw[if_neg B]at f;exact absurd f (by decide)
 ·have b:=j i;unfold zzo at b;rw[h.k,if_neg (by omega),if_pos p,Bool.and_eq_true]at b;have m:(J.pt e.c).took=false:=by
   cases hm:(J.pt e.c).took
   ·rfl
   have:=(h.tk hm).1;omega
  exact h.g0 b.1 m
 ·have b:=j i;unfold zzo at b;rw[h.k,if_pos (.inr y),Bool.and_eq_true,beq_iff_eq]at b;have m:(J.pt e.c).gave=true:=by
   rcases(h.tk b.1).1 with q|q
   ·omega
   exact q.2
  rw[b.2];exact⟨(h.tk b.1).2,(h.gv m).2,h.t3 b.1 m⟩
 ·have b:(J.pt e.c).gave=false:=by
   cases hm:(J.pt e.c).gave
   ·rfl
   have:=(h.gv hm).1;omega
  have m:(J.pt e.c).took=false:=by
   cases hm:(J.pt e.c).took
   ·rfl
   have:=(h.tk hm).1;omega
  exact h.no b m
 have b:=j i;unfold zzo at b;rw[h.k,if_pos (.inr y),Bool.and_eq_true,beq_iff_eq]at b;have m:(J.pt e.c).gave=true:=by
  rcases(h.tk b.1).1 with q|q
  ·omega
  exact q.2
 rw[b.2];exact h.t0 b.1 m
end

theorem own_apart{s:Sh}{σ:Ab}{b:Blk}{c:Int}{R:Own}(y:GI s σ)(Z:b.fits s c=true)(N:zaz σ c ((zgb b).add R)){x:Bl}(C:σ.has x):¬ (x.at'<(zoa b).at'+(zoa b).len/\(zoa b).at'<x.at'+x.len):=by
 obtain⟨_,_,h3,V,h5⟩:=zdi.1 Z;have b2:=zwn y C;by_cases B:b.large=true
 ·have X:=V B;have S:∀ q,b.page<=q->q<b.page+b.pages->σ.pg q= .held c\/σ.pg q= .body b.page:=by
   intro q q1 q2;by_cases e:q=b.page
   ·refine .inl ((N.h q).2 (.inl ?_));unfold zgb;rw[if_pos B];exact .inl e
   refine .inr ((N.b q b.page).2 (.inl ?_)).1;unfold zgb;rw[if_pos B];exact .inr ⟨rfl,by omega,q2⟩
  have D:(zoa b).at'=b.page*64/\(zoa b).len=b.pages*64:=by unfold zoa;rw[if_pos B];exact⟨rfl,rfl⟩
  rw[D.1,D.2];rintro⟨k1,r⟩;cases x with
  |lar p n=>
   have m:σ.pg p= .large n:=C;have k1:p*64<b.page*64+b.pages*64:=k1;have r:b.page*64<p*64+n*64:=r;rcases Int.lt_or_le p b.page with H|H
   ·have z:=y.lg p n m (b.page-p) (by omega) (by omega);rw[show p+(b.page-p)=b.page by omega]at z;rcases S b.page (by omega) (by omega) with f|f
    ·rw[z]at f;cases f
    rw[z]at f;injection f with f;omega
   rcases S p H (by omega) with f|f<;>rw[m]at f<;>cases f
  |sm p i k=>obtain⟨⟨I,m⟩,hi,O,_⟩:=zto y C;have Y:=zjt O hi;have k1:p*64+i*zbj k<b.page*64+b.pages*64:=k1;have r:b.page*64<p*64+i*zbj k+zbj k:=r;rcases S p (by omega) (by omega) with f|f<;>rw[m]at f<;>cases f
 have H:(∃ I,σ.pg b.page= .super b.k I)/\σ.sl b.page b.slot= .way c:=(N.w b.page b.slot b.k).2 (.inl (.inl (by
  unfold zgb
  rw[if_neg B]
  exact⟨rfl,rfl,rfl⟩)))
 obtain⟨⟨I,j⟩,F⟩:=H;have D:(zoa b).at'=b.page*64+b.slot*zbj b.k/\(zoa b).len=zbj b.k:=by unfold zoa;rw[if_neg B];exact⟨rfl,rfl⟩
 rw[D.1,D.2];have E:=y.pf b.page;rw[j]at E;have t:0<=b.k/\b.k<=3:=E.2.1;have l:=y.sk b.page b.slot;rw[j,F]at l;have M:0<=b.slot/\b.slot<zah b.k:=by
  unfold zhi at l;dsimp only at l;rcases Decidable.em (0<=b.slot/\b.slot<zah b.k) with h|h
  ·exact h
  rw[if_neg h]at l;cases l
 have Y:=zjt t M;rintro⟨k1,r⟩;cases x with
 |lar p n=>
  have m:σ.pg p= .large n:=C;have k1:p*64<b.page*64+b.slot*zbj b.k+zbj b.k:=k1;have r:b.page*64+b.slot*zbj b.k<p*64+n*64:=r;by_cases e:b.page=p
  ·rw[e,m]at j;cases j
  have z:=y.lg p n m (b.page-p) (by omega) (by omega);rw[show p+(b.page-p)=b.page by omega,j]at z;cases z
 |sm p i k=>
  obtain⟨⟨b1,m⟩,hi,O,_⟩:=zto y C;have G:σ.sl p i= .taken k:=C;have U:=zjt O hi;have k1:p*64+i*zbj k<b.page*64+b.slot*zbj b.k+zbj b.k:=k1;have r:b.page*64+b.slot*zbj b.k<p*64+i*zbj k+zbj k:=r;have e:p=b.page:=by omega
  subst e;rw[j]at m;injection m with T _;subst T;rcases Int.lt_trichotomy i b.slot with h|h|h
  ·have:=zmt t h;omega
  ·rw[h,F]at G;cases G
  have:=zmt t h;omega
theorem settle_keeps(s:Sh)(t:Rr):(t.settle s).res=t.res/\(t.settle s).free=t.free:=by
 unfold Rr.settle;repeat' split
 all_goals exact⟨rfl,rfl⟩
def RX (L:List Bk) (o:Op3) (j:Jb):Prop:=∀ t r b f,j= .aga t->t.res=some r->r.got=some b->t.free=some f->f.gave=true->∀ x,⟨o.a,x⟩ ∈ L->¬ (o.a < b.at' + b.len/\b.at' < o.a + x)
theorem rx_step{s:Sh}{σ:Ab}{d:Wd}{n:Nat}{c W:Int}{k:Kl}{j:Jb}{L:List Bk}{o:Op3}(T:WI s σ d)(hd:wdOk s d n)(hk:d.kl c=some k)(Z:k.job=some j)(h:RX L o j)(hL:j.gave=false->zjj W σ.has L):RX L o (j.step s c d.m).1:=by
 obtain⟨ho,V,X⟩:=hd.kl c k hk;obtain⟨p,l,_,_⟩:=ho.jb j Z;rw[(zt5 T hd hk Z).2.2];have q:=(T.li c k hk).2;unfold KlAt at q;rw[Z]at q;rw[V]at p;cases j with
 |mal r x=>
  unfold Jb.zhf;dsimp only;split
  ·intro t r b f e;cases e
  split<;>(intro t r b f e;cases e)
 |fre f=>intro t r b U e;cases e
 |hei a=>intro t r b U e;cases e;|aga t=>
  have q:RrAt s c σ t:=q;have p:rrIs s c t:=p;have l:t.done=false:=l;obtain⟨r,f,D,C,_⟩:=p.ok.cl l;intro t' r' b U i B hb z M x hx;injection i with i;unfold rrA at i;rw[if_neg (by rw[l];decide),D,C]at i;dsimp only at i;by_cases E:r.done=false
  ·rw[if_pos E]at i;have I:t'.free=t.free:=by rw[<-i,C];exact(settle_keeps s _).2
   rw[I,C]at z;injection z with z;subst z;have H:t.ph= .res r:=by unfold Rr.ph;rw[if_neg (by rw[l];decide),D,C];dsimp only;rw[if_pos E]
   have N:=q.inv.ph;rw[H]at N;have h2:=(N.2 f C).2.1;exact absurd (((p.fre f C).gv (by omega)).symm.trans M) (by decide)
  rw[if_neg E]at i;by_cases G:f.done=false
  ·rw[if_pos G]at i;have I:t'.res=t.res:=by rw[<-i,D];exact(settle_keeps s _).1
   rw[I,D]at B;injection B with B;subst B;cases hfg:f.gave
   ·have O:t.undo=none/\t.com=none:=by
     rcases Decidable.em (t.undo≠none\/t.com≠none) with S|S
     ·obtain⟨r2,f2,_,_,R,g4⟩:=p.mid l S;rw[C]at R;injection R with R;subst R;exact absurd (G.symm.trans g4) (by decide)
     simp only[not_or,Decidable.not_not]at S;exact S
    have H:t.ph= .fre b f:=by unfold Rr.ph;rw[if_neg (by rw[l];decide),D,C];dsimp only;rw[if_neg E,O.1,O.2,hb]
    have F:=q.ex;unfold zjm at F;rw[H]at F;have Y:(Jb.aga t).gave=false:=by unfold Jb.gave;dsimp only;rw[C];exact hfg
    obtain⟨y,y1,y2,y3⟩:=((hL Y).mem o.a x).1 hx;have h7:=own_apart T.gi (zlb (p.res r D) T.rep.may X hb).1 F y1;rw[(z7l b).1,(z7l b).2,y2,y3]at h7;exact h7
   exact h t r b f rfl D hb C hfg x hx
  rw[if_neg G]at i;have I:t'.res=t.res/\t'.free=t.free:=by
   split at i
   ·rw[<-i,D,C];exact settle_keeps s _
   ·rw[<-i,D,C];exact settle_keeps s _
   rw[<-i];exact⟨rfl,rfl⟩
  rw[I.1]at B;rw[I.2]at z;exact h t r' b U rfl B hb z M x hx
structure Ans (W:Int) (L:List Bk) (o:Op3) (c:Int) (d:Wd) (L':List Bk):Prop where
 ex:∃ l e,d.tr=l ++ [e]/\e.k=5/\e.c=c/\AnsF W L o e.er e.at' L'
def Alo (s:Sh) (L:List Bk) (o:Op3) (c:Int) (d:Wd):Prop:=
 ∃ k,d.kl c=some k/\((k.job≠none/\k.op=o/\Mid (s.p * 64) L o c (jdOf s d)/\∀ j,k.job=some j->RX L o j)\/(k.job=none/\Ans (s.p * 64) L o c d (jdOf s d).l))
theorem alo_tells{s:Sh}{L:List Bk}{o:Op3}{c W:Int}{k:Kl}{j:Jb}{J:Jd}(z:Mid W L o c J)(t:k.c=c)(y:k.op=o)(f:(runJ J (k.tells j)).why=0)(B:(J.pt c).gave=true\/j.gave=true->∀ b,j.took=some b->∀ x,⟨o.a,x⟩ ∈ L->¬ (o.a<b.at'+b.len/\b.at'<o.a+x)):
  (j.done=false->Mid W L o c (runJ J (k.tells j)))/\(j.done=true->∃ l e,k.tells j=l++[e]/\e.k=5/\e.c=c/\AnsF W L o e.er e.at' (runJ J (k.tells j)).l):=by
 unfold Kl.tells at f ⊢;rw[t,y]at *;obtain⟨n,i⟩:∃ n,n=runJ J (if j.gave=true/\k.told=false then [zbw c o.a] else []):=⟨_,rfl⟩;rw[yh5,<- i]at f;have p:Mid W L o c n/\((n.pt c).gave=true->(J.pt c).gave=true\/j.gave=true):=by
  have m:=run_why f;rw[i]at m ⊢;split at m
  ·rename_i q;rw[if_pos q];exact⟨mid_gave z rfl rfl m,fun _=>.inr q.1⟩
  rename_i q;rw[if_neg q];exact⟨z,.inl⟩
 obtain⟨p,r⟩:=p;rw[yh5,<- i];cases hd:j.done
 ·exact⟨fun _=>by rw[if_neg (by decide)];exact p,fun e=>absurd e (by decide)⟩
 refine⟨fun e=>absurd e (by decide),fun _=>?_⟩;rw[hd,if_pos rfl]at f;rw[if_pos rfl];cases ht:j.took with
 |none=>rw[ht]at f;have f:(runJ n [zaf c o (zb1 none) j.err]).why=0:=f;exact⟨(if j.gave=true/\k.told=false then [zbw c o.a] else []),zaf c o (zb1 none) j.err,rfl,rfl,rfl,mid_answer p rfl rfl f⟩
 |some b=>rw[ht]at f;have f:(runJ (zdo n (zb5 c b.at' b.len)) [zaf c o (zb1 (some b)) j.err]).why=0:=f;exact⟨(if j.gave=true/\k.told=false then [zbw c o.a] else [])++[zb5 c b.at' b.len],zaf c o (zb1 (some b)) j.err,by simp,rfl,rfl,mid_answer (mid_took p rfl rfl (run_why f) (fun e=>B (r e) b ht)) rfl rfl f⟩
theorem alo_goS{s:Sh}{d:Wd}{n:Nat}{c:Int}{L:List Bk}{o:Op3}(h:AI s d n)(ha:Alo s L o c d):Alo s L o c (d.goS s c):=by
 obtain⟨k,B,hc⟩:=ha;rcases hj:k.job with _|j
 ·rw[zw5 B hj];exact⟨k,B,hc⟩
 rcases hc with⟨_,M,hM,R⟩|⟨h1,_⟩
 ·have hg:d.goS s c=(d.act s (zjx c)).1:=z5n B (by rw[hj];exact fun e=>by cases e);obtain⟨_,F,y⟩:=h.1.kl _ _ B;have S:=ai_goS (c:=c) h;obtain⟨_,σ',b0,E⟩:=S;rw[hg]at E ⊢;rw[z5q B y]at E ⊢;have hi:c.toNat<d.l.length:=by rw[h.1.len];omega
  have e:k.step s d.m=(k.after (j.step s k.c d.m).1,(j.step s k.c d.m).2,k.tells (j.step s k.c d.m).1,0):=by unfold Kl.step;rw[hj]
  have C:=E.why;have H:(d.step s c k).1.tr=d.tr++k.tells (j.step s k.c d.m).1:=by unfold Wd.step;rw[e]
  have D:jdOf s (d.step s c k).1=runJ (jdOf s d) (k.tells (j.step s k.c d.m).1):=by unfold jdOf;rw[H,yh5]
  rw[D]at C;obtain⟨z,σ,hw,Z⟩:=h;have G:=(Z.pt c y.1 y.2).op k j B hj;have q:RX L o (j.step s c d.m).1:=rx_step hw z B hj (R j hj) fun U=>by have h3:=hM.no (G.2.2.1.trans U) G.2.1;rw[<-h3];exact Z.bl
  rw[<-F]at q;have X:=(zqw ((z.kl _ _ B).1.jb j hj).1 (by rw[F];exact y) ((z.kl _ _ B).1.jb j hj).2.1 z.fi z.fit).2.1
  obtain⟨t1,t2⟩:=alo_tells (s:=s) hM F M C fun T b hb x hx=>by
   generalize i:(j.step s k.c d.m).1=Y at *
   cases Y with
   |mal r c2=>
    have V:j.gave=false:=by
     cases j with
     |mal r3 c3=>rfl
     |fre f=>unfold Jb.step at i;cases i
     |aga t=>unfold Jb.step at i;cases i
     |hei a=>unfold Jb.step at i;cases i
    rcases T with N|N
    ·rw[G.2.2.1,V]at N;cases N
    ·cases N
   |fre f=>cases hb
   |hei a=>cases hb
   |aga t=>
    have p:(if t.done=true/\t.err=0 then(match t.res with|some x=>x.got|none=>none) else none)=some b:=hb
    split at p
    ·rename_i I
     obtain⟨r,b2,f,q1,q2,q3,q4⟩:=X.fin I.1 I.2
     rw[q1]at p
     have p:r.got=some b:=p
     exact q t r b f rfl q1 p q3 q4 x hx
    ·cases p
  have O:(d.step s c k).1.kl c=some (k.after (j.step s k.c d.m).1):=by unfold Wd.step;rw[e];dsimp only;rw[d.zdk y.1 hi,if_pos rfl]
  refine⟨_,O,?_⟩;cases hd:(j.step s k.c d.m).1.done
  ·refine .inl ⟨by unfold Kl.after;rw[hd];simp,by unfold Kl.after;exact M,?_,fun Y i=>?_⟩
   ·rw[D];exact t1 hd
   unfold Kl.after at i;rw[hd]at i;have i:some (j.step s k.c d.m).1=some Y:=i;injection i with i;rw[<-i];exact q
  refine .inr ⟨by unfold Kl.after;rw[hd];simp,?_⟩;obtain⟨l,ev,q1,q2,q3,q4⟩:=t2 hd;rw[D];exact⟨⟨d.tr++l,ev,by rw[H,q1,List.append_assoc],q2,q3,q4⟩⟩
 rw[h1]at hj;cases hj
theorem alo_goN{s:Sh}{d:Wd}{n:Nat}{c:Int}{L:List Bk}{o:Op3}(h:AI s d n)(b:Alo s L o c d)(i:Nat):Alo s L o c (d.goN s c i):=by
 induction i with
 |zero=>exact b
 |succ i f=>exact alo_goS (ai_goN h i) f
theorem alo_ask{s:Sh}{d:Wd}{n:Nat}{c:Int}{o:Op3}(h:AI s d n)(q:(d.act s ⟨2,c,o.k,o.a,o.n,0⟩).2=0):Alo s (jdOf s d).l o c (d.act s ⟨2,c,o.k,o.a,o.n,0⟩).1:=by
 obtain⟨R,σ,hw,O⟩:=h;obtain⟨C,M,_⟩:=yct R (x:=⟨2,c,o.k,o.a,o.n,0⟩) rfl q;dsimp only at C M;obtain⟨_,σ',b1,U⟩:=ai_act ⟨R,σ,hw,O⟩ ⟨2,c,o.k,o.a,o.n,0⟩;have i:=U.why;unfold Wd.act at q i ⊢;rw[if_neg (by unfold Ch.bad;dsimp only;omega),if_neg (show ¬ (2:Int)=1 by decide)]at q i ⊢;dsimp only at q i ⊢;cases hk:d.kl c with
 |none=>rw[hk]at q;exact absurd q (show (2:Int)≠0 by decide);|some k=>
  rw[hk]at q i;dsimp only at q i ⊢;rw[if_neg (show ¬ (2:Int)=3 by decide),if_pos rfl]at q i ⊢;have hi:c.toNat<d.l.length:=by rw[R.len];omega
  have y:=(R.kl _ _ hk).2.1;have b0:Ch.op (⟨2,c,o.k,o.a,o.n,0⟩:Ch)=o:=rfl;unfold Wd.ask at q i ⊢;dsimp only at q i ⊢;rw[b0]at q i ⊢;have H:∀ l es m lg,jdOf s {d with l:=l,tr:=d.tr++es,m:=m,lg:=lg}=runJ (jdOf s d) es:=fun _ _ _ _=>by unfold jdOf;rw[yh5]
  have I:=O.W;unfold Kl.invoke at q i ⊢;split at q
  ·exact absurd q (show (4:Int)≠0 by decide)
  rename_i S;rw[if_neg S]at i ⊢;split at q
  ·exact absurd q (show (1:Int)≠0 by decide)
  rename_i Y;rw[if_neg Y]at i ⊢;have X:k.job=none:=by
   unfold Kl.rests at S;rcases hj:k.job with _|j
   ·rfl
   rw[hj]at S;simp at S
  split at i
  ·rename_i E;rw[if_pos E];dsimp only at i ⊢;refine⟨{k with op:=o,told:=false,steps:=0},by rw[d.zdk C hi,if_pos rfl],.inr ⟨X,?_⟩⟩;have G:=H (d.l.set c.toNat (some {k with op:=o,told:=false,steps:=0})) [zbh k.c o,zaf k.c o 0 (zjw s k.c o.k o.a o.n)] d.m d.lg;refine⟨⟨d.tr++[zbh k.c o],zaf k.c o 0 (zjw s k.c o.k o.a o.n),by simp,rfl,y,?_⟩⟩;have p:(runJ (jdOf s d) [zbh k.c o,zaf k.c o 0 (zjw s k.c o.k o.a o.n)]).why=0:=by rw[<-G];exact i
   have D:=mid_asked O.why (run_why (es:= [zaf k.c o 0 (zjw s k.c o.k o.a o.n)]) p);rw[I]at D;have:=mid_answer D (e:=zaf k.c o 0 (zjw s k.c o.k o.a o.n)) rfl rfl p;have N:runJ (jdOf s d) [zbh k.c o,zaf k.c o 0 (zjw s k.c o.k o.a o.n)]=zdo (zdo (jdOf s d) (zbh k.c o)) (zaf k.c o 0 (zjw s k.c o.k o.a o.n)):=rfl;rw[<-N,<- G]at this;exact this
  rename_i E;rw[if_neg E];dsimp only at i ⊢;refine⟨{k with op:=o,told:=false,steps:=0,job:=some (zgl s k.c k.first o.k o.a o.n)},by rw[d.zdk C hi,if_pos rfl],.inl ⟨by simp,rfl,?_,fun j2 B=>?_⟩⟩;rotate_left
  ·have B:some (zgl s k.c k.first o.k o.a o.n)=some j2:=B;injection B with B;rw[<-B];intro t r b f z g1 g2 F g4;have Z:=(yer (s:=s) k.c k.first o.k o.a o.n hw.rep.may (by rw[y];exact⟨C,M⟩)).1;rw[z]at Z;have V:t.free=some (zc2 s k.c o.a)\/t.free=none:=by
    unfold zgl at z;split at z
    ·cases z
    split at z
    ·cases z
    split at z
    ·injection z with z;rw[<-z];unfold zhh;split
     ·exact .inl (settle_keeps s _).2
     exact .inr rfl
    cases z
   rcases V with T|T
   ·rw[T]at F;injection F with F;rw[<-F]at g4;cases g4
   rw[T]at F;cases F
  have G:=H (d.l.set c.toNat (some {k with op:=o,told:=false,steps:=0,job:=some (zgl s k.c k.first o.k o.a o.n)})) [zbh k.c o] d.m d.lg;have p:(runJ (jdOf s d) [zbh k.c o]).why=0:=by rw[<-G];exact i
  have D:=mid_asked O.why p;rw[I,y]at D;have N:runJ (jdOf s d) [zbh k.c o]=zdo (jdOf s d) (zbh k.c o):=rfl;rw[y,<- y]at N;rw[<-y]at D ⊢;rw[<-N,<- G]at D;exact D
theorem ask_fin{s:Sh}{d:Wd}{n:Nat}{c:Int}{o:Op3}(h:AI s d n)(j:(d.act s ⟨2,c,o.k,o.a,o.n,0⟩).2=0):
  AI s (askW s d c o) (n+1+z5k s)/\∃ k l e,(askW s d c o).kl c=some k/\k.job=none/\(askW s d c o).tr=l++[e]/\e.k=5/\e.c=c/\AnsF (s.p*64) (jdOf s d).l o e.er e.at' (jdOf s (askW s d c o)).l:=by
 have m:=ai_act h ⟨2,c,o.k,o.a,o.n,0⟩;refine⟨ai_goN m _,?_⟩;have y:=alo_goN m (alo_ask h j) (z5k s);obtain⟨k,r,q,_⟩:=yfn h.1 j;obtain⟨i,f,hc⟩:=y;have e:i=k:=by have:(askW s d c o).kl c=some i:=f;rw[r]at this;injection this with this;exact this.symm
 subst e;rcases hc with⟨b,_⟩|⟨_,b⟩
 ·exact absurd q b
 obtain⟨l,t,q1,q2,q3,q4⟩:=b.ex;exact⟨i,l,t,r,q,q1,q2,q3,q4⟩
end Go.Proofs.YtkbddndcegpllaaGreat
