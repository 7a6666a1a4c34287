/- Texts bound together: InvD InvM. -/
import Derived.Test.YtampacmmhhilaaaGreatBq36

set_option linter.all false
namespace Go.Proofs.YtampacmmhhilaaaGreat

section

variable {s:Sh} {σ:Ab} {c p:Int} {o:Own}

def Kept (s:Sh) (c:Int) (σ σ':Ab):Prop:=GI s σ'/\(∀ x,x≠c->Same x σ σ')/\∀ x,σ'.st x=σ.st x
theorem Kept.refl (h:GI s σ):Kept s c σ σ:=⟨h,fun _ _=> Same.refl _ _,fun _=> rfl⟩
theorem zm3 (h:GI s σ) (hp:σ.pg p= .empty\/(∃ n,σ.pg p= .large n)\/∃ g,σ.pg p= .body g) (i:Int):σ.sl p i= .none:=by
 have:=h.sk p i
 rcases hp with e | ⟨n,e⟩ | ⟨g,e⟩ <;> rw [e] at this <;> exact this
theorem zgg (h:GI s σ) (hp:σ.pg p= .held c) (i:Int):σ.sl p i= .none\/(σ.sl p i= .way c/\0<=i/\i < 16):=by
 have:=h.sk p i
 rw [hp] at this
 exact this
theorem zov (h:GI s σ) {k b:Int} (hp:σ.pg p= .super k b) (i:Int):if 0<=i/\i < zah k then σ.sl p i= .opened k\/σ.sl p i= .taken k\/∃ c,σ.sl p i= .way c else σ.sl p i= .none:=by
 have:=h.sk p i
 rw [hp] at this
 exact this
theorem zhs (h:GI s σ) {i k:Int} (hs:σ.sl p i= .opened k\/σ.sl p i= .taken k):(∃ b,σ.pg p= .super k b)/\0<=i/\i < zah k:=by
 have:=h.sk p i
 cases hp:σ.pg p with
 | super k' b=>
  rw [hp] at this
  simp only [zhi] at this
  split at this
  ·rename_i hi
   have e:k'=k:=by
    rcases hs with e | e <;> rw [e] at this <;> exact (by simpa using this:k=k').symm
   subst e
   exact ⟨⟨b,rfl⟩,hi⟩
  ·rcases hs with e | e <;> rw [e] at this <;> cases this
 | held o=>
  rw [hp] at this
  simp only [zhi] at this
  rcases hs with e | e <;> rw [e] at this <;> simp at this
 | empty=> rw [hp] at this;simp only [zhi] at this;rcases hs with e | e <;> rw [e] at this <;> cases this
 | large n=> rw [hp] at this;simp only [zhi] at this;rcases hs with e | e <;> rw [e] at this <;> cases this
 | body g=> rw [hp] at this;simp only [zhi] at this;rcases hs with e | e <;> rw [e] at this <;> cases this
theorem zke (h:GI s σ) {i k b x:Int} (hp:σ.pg p= .super k b) (hs:σ.sl p i= .way x):0<=i/\i < zah k:=by
 have:=zov h hp i
 split at this
 ·assumption
 ·rw [hs] at this;cases this
theorem zds (h:GI s σ) {j i k d:Int} (he:σ.mg d j= .entry p i k):∃ b,σ.pg p= .super k b:=(h.mv d j p i k he).1
theorem zi0 (h:GI s σ) (hp:σ.pg p= .empty) (hr:0<=p/\p < s.p) (hc:0<=c/\c < s.c):Kept s c σ (σ.page p (.held c)):=by
 refine ⟨h.page ⟨hr,hc⟩ (fun i=> .inl (zm3 h (.inl hp) i)) (fun g e=> by cases e) (fun q _ _=> .inl ⟨c,rfl⟩) (fun n e=> by cases e) (fun g e=> by rw [hp] at e;cases e) (fun d j i k e=> ?_),fun x hx=> Same.page ?_ ?_ ?_,fun _=> rfl⟩
 ·obtain ⟨b,e⟩:=zds h e;rw [hp] at e;cases e
 ·rw [hp];simp;exact fun e=> hx e.symm
 ·intro g _;rw [hp];simp
 ·intro i k _;rw [hp];simp
theorem zh4 (h:GI s σ) (he:zaz σ c o) (hp:σ.pg p= .empty):zaz (σ.page p (.held c)) c (o.add (.page p)):=by
 have hno:¬ o.h p:=fun e=> by have:=(he.h p).2 e;rw [hp] at this;cases this
 have hnb:∀ q,σ.pg q≠ .body p:=fun q e=> by
  rcases h.bd q p e with ⟨_,e⟩ | ⟨_,e,_⟩ <;> rw [hp] at e <;> cases e
 refine he.page (fun q hq=> ?_) ?_ (fun q g hq hg=> ?_) (fun g hg=> ?_) (fun q hq=> ?_) ?_ (fun q i k hq=> ?_) (fun i k=> ?_) (fun i k j hw=> ?_)
 ·simp [Own.add,Own.page,hq]
 ·simp [Own.add,Own.page]
 ·simp [Own.add,Own.page]
 ·simp only [Own.add,Own.page,or_false]
  rw [<- he.b p g,hp];simp
 ·simp only [Own.add,Own.page,or_false]
  rw [<- he.b q p]
  exact ⟨fun e=> absurd e.1 (hnb q),fun e=> absurd e.1 (hnb q)⟩
 ·simp only [Own.add,Own.page,or_false]
  rw [<- he.b p p,hp];simp
 ·simp [Own.add,Own.page]
 ·simp only [Own.add,Own.page,or_false]
  rw [<- he.w p i k,hp];simp
 ·simp only [Own.add,Own.page,or_false] at hw
  exact he.d p i k j hw
theorem zg7 (h:GI s σ) (hp:σ.pg p= .held c) (hs:∀ i,σ.sl p i= .none) (hb:∀ q,σ.pg q≠ .body p):Kept s c σ (σ.page p .empty):=by
 refine ⟨h.page trivial hs (fun g e=> by cases e) (fun q _ e=> absurd e (hb q)) (fun n e=> by cases e) (fun g e=> by rw [hp] at e;cases e) (fun d j i k e=> ?_),fun x hx=> Same.page ?_ ?_ ?_,fun _=> rfl⟩
 ·obtain ⟨b,e⟩:=zds h e;rw [hp] at e;cases e
 ·rw [hp];simp;exact fun e=> hx e.symm
 ·intro g _;rw [hp];simp
 ·intro i k _;rw [hp];simp
theorem zi1 (he:zaz σ c (o.add (.page p))) (hn:¬ o.h p) (hb:∀ q,σ.pg q≠ .body p):zaz (σ.page p .empty) c o:=by
 have hp:σ.pg p= .held c:=(he.h p).2 (.inr rfl)
 refine he.page (fun q hq=> ?_) ?_ (fun q g hq hg=> ?_) (fun g hg=> ?_) (fun q hq=> ?_) ?_ (fun q i k hq=> ?_) (fun i k=> ?_) (fun i k j hw=> ?_)
 ·simp [Own.add,Own.page,hq]
 ·simp [hn]
 ·simp [Own.add,Own.page]
 ·have:=he.b p g
  simp only [Own.add,Own.page,or_false] at this
  rw [<- this,hp];simp
 ·have:=he.b q p
  simp only [Own.add,Own.page,or_false] at this
  rw [<- this]
  exact ⟨fun e=> absurd e.1 (hb q),fun e=> absurd e.1 (hb q)⟩
 ·have:=he.b p p
  simp only [Own.add,Own.page,or_false] at this
  rw [<- this,hp];simp
 ·simp [Own.add,Own.page]
 ·have:=he.w p i k
  simp only [Own.add,Own.page,or_false] at this
  rw [<- this,hp];simp
 ·exact he.d p i k j (.inl hw)
theorem zqm (h:GI s σ) {g:Int} (hp:σ.pg p= .held c) (hs:∀ i,σ.sl p i= .none) (hb:∀ q,σ.pg q≠ .body p) (hg:σ.pg g= .held c) (hf:g < p/\p - 8 < g):Kept s c σ (σ.page p (.body g)):=by
 have hin:=zkn h hp
 have hig:=zkn h hg
 refine ⟨h.page ⟨hin.1,by omega⟩ hs (fun g' e=> by injection e with e;subst e;exact .inl ⟨c,hg⟩) (fun q _ e=> absurd e (hb q)) (fun n e=> by cases e) (fun g e=> by rw [hp] at e;cases e) (fun d j i k e=> ?_),fun x hx=> Same.page ?_ ?_ ?_,fun _=> rfl⟩
 ·obtain ⟨b,e⟩:=zds h e;rw [hp] at e;cases e
 ·rw [hp];simp;exact fun e=> hx e.symm
 ·intro g' hg';rw [hp];simp only [reduceCtorEq,iff_false,PW.body.injEq]
  intro e;subst e;rw [hg] at hg';injection hg' with e;exact hx e.symm
 ·intro i k _;rw [hp];simp
theorem zn5 {g:Int} (he:zaz σ c (o.add (.page p))) (hn:¬ o.h p) (hb:∀ q,σ.pg q≠ .body p) (hg:o.h g) (hpg:g≠p):zaz (σ.page p (.body g)) c (o.add (.bodies g p (p + 1))):=by
 have hp:σ.pg p= .held c:=(he.h p).2 (.inr rfl)
 refine he.page (fun q hq=> ?_) ?_ (fun q g' hq hg'=> ?_) (fun g' hg'=> ?_) (fun q hq=> ?_) ?_ (fun q i k hq=> ?_) (fun i k=> ?_) (fun i k j hw=> ?_)
 ·simp [Own.add,Own.page,Own.bodies,hq]
 ·simp [Own.add,Own.bodies,hn]
 ·simp only [Own.add,Own.page,Own.bodies,or_false]
  refine ⟨fun e=> ?_,.inl⟩
  rcases e with e | e
  ·exact e
  ·exact absurd (show q=p by omega) hq
 ·have:=he.b p g'
  simp only [Own.add,Own.page,or_false] at this
  simp only [Own.add,Own.bodies,Own.page,PW.body.injEq]
  rw [<- this,hp]
  simp only [reduceCtorEq,false_and,false_or]
  constructor
  ·rintro ⟨e,_⟩;subst e;exact ⟨rfl,.inl hg⟩
  ·rintro ⟨e,_⟩;exact ⟨e.symm,by omega,by omega⟩
 ·have:=he.b q p
  simp only [Own.add,Own.page,or_false] at this
  simp only [Own.add,Own.bodies]
  rw [<- this]
  constructor
  ·rintro (e | e)
   ·exact absurd e.1 (hb q)
   ·exact absurd e.1.symm hpg
  ·intro e;exact absurd e.1 (hb q)
 ·have:=he.b p p
  simp only [Own.add,Own.page,or_false] at this
  simp only [Own.add,Own.bodies]
  rw [<- this,hp]
  simp only [reduceCtorEq,false_and,false_or]
  exact fun e=> hpg e.1.symm
 ·simp [Own.add,Own.page,Own.bodies]
 ·have:=he.w p i k
  simp only [Own.add,Own.page,or_false] at this
  simp only [Own.add,Own.bodies,or_false]
  rw [<- this,hp];simp
 ·simp only [Own.add,Own.bodies,or_false] at hw
  exact he.d p i k j (.inl hw)
theorem zjz (h:GI s σ) {g:Int} (hp:σ.pg p= .body g) (hg:σ.pg g= .held c):Kept s c σ (σ.page p .empty):=by
 have hnb:∀ q,σ.pg q≠ .body p:=fun q e=> by
  rcases h.bd q p e with ⟨_,e⟩ | ⟨_,e,_⟩ <;> rw [hp] at e <;> cases e
 refine ⟨h.page trivial (fun i=> zm3 h (.inr (.inr ⟨g,hp⟩)) i) (fun g e=> by cases e) (fun q _ e=> absurd e (hnb q)) (fun n e=> by cases e) (fun g' e=> .inr fun n e2=> ?_) (fun d j i k e=> ?_),fun x hx=> Same.page ?_ ?_ ?_,fun _=> rfl⟩
 ·rw [hp] at e;injection e with e;subst e;rw [hg] at e2;cases e2
 ·obtain ⟨b,e⟩:=zds h e;rw [hp] at e;cases e
 ·rw [hp];simp
 ·intro g' hg';rw [hp];simp only [reduceCtorEq,false_iff,PW.body.injEq]
  intro e;subst e;rw [hg] at hg';injection hg' with e;exact hx e.symm
 ·intro i k _;rw [hp];simp
theorem zoe (h:GI s σ) {g:Int} (he:zaz σ c (o.add (.bodies g p (p + 1)))) (hn:∀ g,¬ o.b p g):zaz (σ.page p .empty) c o:=by
 have hpb:σ.pg p= .body g/\σ.pg g= .held c:=(he.b p g).2 (.inr ⟨rfl,Int.le_refl _,by omega⟩)
 have hp:=hpb.1
 have hnb:∀ q,σ.pg q≠ .body p:=fun q e=> by
  rcases h.bd q p e with ⟨_,e⟩ | ⟨_,e,_⟩ <;> rw [hp] at e <;> cases e
 have hgp:g≠p:=fun e=> by have:=zvc h hp;omega
 refine he.page (fun q hq=> ?_) ?_ (fun q g' hq hg'=> ?_) (fun g' hg'=> ?_) (fun q hq=> ?_) ?_ (fun q i k hq=> ?_) (fun i k=> ?_) (fun i k j hw=> ?_)
 ·simp [Own.add,Own.bodies]
 ·have:=he.h p
  simp only [Own.add,Own.bodies,or_false] at this
  rw [<- this,hp];simp
 ·simp only [Own.add,Own.bodies]
  refine ⟨.inl,fun e=> ?_⟩
  rcases e with e | e
  ·exact e
  ·exact absurd (show q=p by omega) hq
 ·simp [hn g']
 ·have:=he.b q p
  simp only [Own.add,Own.bodies] at this
  constructor
  ·intro e;exact absurd (this.2 (.inl e)).1 (hnb q)
  ·intro e;exact absurd e.1 (hnb q)
 ·exact hn p
 ·simp [Own.add,Own.bodies]
 ·have:=he.w p i k
  simp only [Own.add,Own.bodies,or_false] at this
  rw [<- this,hp];simp
 ·exact he.d p i k j (.inl hw)
theorem zlp (h:GI s σ) {n:Int} (hp:σ.pg p= .held c) (hs:∀ i,σ.sl p i= .none) (hn:1<=n/\n<=8/\n<=s.p - p) (hb:∀ j,1<=j->j < n->σ.pg (p + j)= .body p) (hl:∀ q,σ.pg q= .body p->q < p + n):Kept s c σ (σ.page p (.large n)):=by
 have hin:=zkn h hp
 refine ⟨h.page ⟨hin.1,hn⟩ hs (fun g' e=> by cases e) (fun q _ e=> .inr ⟨n,rfl,hl q e⟩) (fun n' e=> by injection e with e;subst e;exact hb) (fun g e=> by rw [hp] at e;cases e) (fun d j i k e=> ?_),fun x hx=> Same.page ?_ ?_ ?_,fun _=> rfl⟩
 ·obtain ⟨b,e⟩:=zds h e;rw [hp] at e;cases e
 ·rw [hp];simp;exact fun e=> hx e.symm
 ·intro g' _;rw [hp];simp
 ·intro i k _;rw [hp];simp
theorem zkr {n:Int} (he:zaz σ c ((o.add (.page p)).add (.bodies p (p + 1) (p + n)))) (hn:¬ o.h p) (hb:∀ q,¬ o.b q p):zaz (σ.page p (.large n)) c o:=by
 have hp:σ.pg p= .held c:=(he.h p).2 (.inl (.inr rfl))
 refine he.page (fun q hq=> ?_) ?_ (fun q g' hq hg'=> ?_) (fun g' hg'=> ?_) (fun q hq=> ?_) ?_ (fun q i k hq=> ?_) (fun i k=> ?_) (fun i k j hw=> ?_)
 ·simp [Own.add,Own.page,Own.bodies,hq]
 ·simp [hn]
 ·simp [Own.add,Own.page,Own.bodies,hg']
 ·have:=he.b p g'
  simp only [Own.add,Own.page,Own.bodies,or_false] at this
  simp only [reduceCtorEq,false_and,iff_false]
  intro e;have:=this.2 (.inl e);rw [hp] at this;cases this.1
 ·simp [hb q]
 ·exact hb p
 ·simp [Own.add,Own.page,Own.bodies]
 ·have:=he.w p i k
  simp only [Own.add,Own.page,Own.bodies,or_false] at this
  rw [<- this,hp];simp
 ·exact he.d p i k j (.inl (.inl hw))
theorem zmq (h:GI s σ) {n:Int} (hp:σ.pg p= .large n) (hc:0<=c/\c < s.c):Kept s c σ (σ.page p (.held c)):=by
 have hin:=zgt h hp
 refine ⟨h.page ⟨hin.1,hc⟩ (fun i=> .inl (zm3 h (.inr (.inl ⟨n,hp⟩)) i)) (fun g' e=> by cases e) (fun q _ e=> .inl ⟨c,rfl⟩) (fun n' e=> by cases e) (fun g e=> by rw [hp] at e;cases e) (fun d j i k e=> ?_),fun x hx=> Same.page ?_ ?_ ?_,fun _=> rfl⟩
 ·obtain ⟨b,e⟩:=zds h e;rw [hp] at e;cases e
 ·rw [hp];simp;exact fun e=> hx e.symm
 ·intro g' _;rw [hp];simp
 ·intro i k _;rw [hp];simp
theorem zlv (h:GI s σ) {n:Int} (he:zaz σ c o) (hp:σ.pg p= .large n):zaz (σ.page p (.held c)) c ((o.add (.page p)).add (.bodies p (p + 1) (p + n))):=by
 have hno:¬ o.h p:=fun e=> by have:=(he.h p).2 e;rw [hp] at this;cases this
 have hnb:∀ q,¬ o.b q p:=fun q e=> by have:=((he.b q p).2 e).2;rw [hp] at this;cases this
 refine he.page (fun q hq=> ?_) ?_ (fun q g' hq hg'=> ?_) (fun g' hg'=> ?_) (fun q hq=> ?_) ?_ (fun q i k hq=> ?_) (fun i k=> ?_) (fun i k j hw=> ?_)
 ·simp [Own.add,Own.page,Own.bodies,hq]
 ·simp [Own.add,Own.page,Own.bodies]
 ·simp [Own.add,Own.page,Own.bodies,hg']
 ·simp only [Own.add,Own.page,Own.bodies,or_false]
  have:=he.b p g'
  rw [hp] at this
  simp only [reduceCtorEq,false_and,false_iff] at this
  simp [this,hg']
 ·simp only [Own.add,Own.page,Own.bodies,or_false,true_and,and_true]
  constructor
  ·rintro (e | e)
   ·exact absurd e (hnb q)
   ·have:=h.lg p n hp (q - p) (by omega) (by omega)
    rwa [show p + (q - p)=q by omega] at this
  ·intro e
   have h1:=zvc h e
   rcases h.bd q p e with ⟨_,e2⟩ | ⟨n',e2,h2⟩
   ·rw [hp] at e2;cases e2
   ·rw [hp] at e2;injection e2 with e2;subst e2;exact .inr ⟨by omega,h2⟩
 ·simp only [Own.add,Own.page,Own.bodies,or_false]
  rintro (e | e)
  ·exact hnb p e
  ·omega
 ·simp [Own.add,Own.page,Own.bodies]
 ·simp only [Own.add,Own.page,Own.bodies,or_false]
  rw [<- he.w p i k,hp];simp
 ·simp only [Own.add,Own.page,Own.bodies,or_false] at hw
  exact he.d p i k j hw
theorem zgw (h:GI s σ) {i:Int} {u:SW} (hp:σ.pg p= .held c) (hu:u= .none\/(u= .way c/\0<=i/\i < 16)):Kept s c σ (σ.slot p i u):=by
 have hin:=zkn h hp
 refine ⟨h.slot ?_ (by rw [hp];exact hu) (fun d j k e=> ?_),fun x hx=> Same.slot (by rw [hp];simp;exact fun e=> hx e.symm) (fun k b e=> by rw [hp] at e;cases e),fun _=> rfl⟩
 ·rcases hu with rfl | ⟨rfl,_⟩
  ·trivial
  ·exact hin.2
 ·obtain ⟨b,e⟩:=zds h e;rw [hp] at e;cases e
theorem ziy {i x:Int} {u:SW} (he:zaz σ c o) (hp:σ.pg p= .held x):zaz (σ.slot p i u) c o:=by
 refine he.slot (fun _=> .rfl) (fun _ _=> .rfl) (fun _ _ _ _=> .rfl) (fun k=> ?_) (fun k j hw=> he.d p i k j hw)
 rw [<- he.w p i k,hp];simp
theorem zpg (h:GI s σ) {k:Int} (hp:σ.pg p= .held c) (hk:0<=k/\k<=3) (hs:∀ i,σ.sl p i=if 0<=i/\i < zah k then .way c else .none) (hb:∀ q,σ.pg q≠ .body p):Kept s c σ (σ.page p (.super k c)):=by
 have hin:=zkn h hp
 refine ⟨h.page ⟨hin.1,hk,hin.2⟩ (fun i=> ?_) (fun g' e=> by cases e) (fun q _ e=> absurd e (hb q)) (fun n' e=> by cases e) (fun g e=> by rw [hp] at e;cases e) (fun d j i k e=> ?_),fun x hx=> Same.page ?_ ?_ ?_,fun _=> rfl⟩
 ·rw [hs i]
  simp only [zhi]
  split
  ·exact .inr (.inr ⟨c,rfl⟩)
  ·rfl
 ·obtain ⟨b,e⟩:=zds h e;rw [hp] at e;cases e
 ·rw [hp];simp;exact fun e=> hx e.symm
 ·intro g' _;rw [hp];simp
 ·intro i k' e
  rw [hs i] at e
  split at e
  ·injection e with e;exact absurd e.symm hx
  ·cases e
theorem zn3 (h:GI s σ) {k b:Int} (he:zaz σ c (o.add (.page p))) (hn:¬ o.h p) (hs:∀ i,σ.sl p i=if 0<=i/\i < zah k then .way c else .none) (hb:∀ q,σ.pg q≠ .body p):zaz (σ.page p (.super k b)) c (o.add (.ways p (zah k) k)):=by
 have hp:σ.pg p= .held c:=(he.h p).2 (.inr rfl)
 have hnm:∀ d j i k',σ.mg d j≠ .entry p i k':=fun d j i k' e=> by obtain ⟨b,e⟩:=zds h e;rw [hp] at e;cases e
 have hnw:∀ i k',¬ o.w p i k':=fun i k' e=> by
  have:=(he.w p i k').2 (.inl (.inl e));rw [hp] at this
  obtain ⟨⟨_,e⟩,_⟩:=this;cases e
 refine he.page (fun q hq=> ?_) ?_ (fun q g' hq hg'=> ?_) (fun g' hg'=> ?_) (fun q hq=> ?_) ?_ (fun q i k hq=> ?_) (fun i k'=> ?_) (fun i k j hw=> hnm _ _ _ _)
 ·simp [Own.add,Own.page,Own.ways,hq]
 ·simp [Own.add,Own.ways,hn]
 ·simp [Own.add,Own.page,Own.ways]
 ·have:=he.b p g'
  simp only [Own.add,Own.page,or_false] at this
  simp only [Own.add,Own.ways,or_false]
  rw [<- this,hp];simp
 ·have:=he.b q p
  simp only [Own.add,Own.page,or_false] at this
  simp only [Own.add,Own.ways,or_false]
  rw [<- this]
  exact ⟨fun e=> absurd e.1 (hb q),fun e=> absurd e.1 (hb q)⟩
 ·have:=he.b p p
  simp only [Own.add,Own.page,or_false] at this
  simp only [Own.add,Own.ways,or_false]
  rw [<- this,hp];simp
 ·simp [Own.add,Own.page,Own.ways,hq]
 ·simp only [Own.add,Own.ways,hnw,false_or,true_and]
  rw [hs i]
  constructor
  ·rintro (⟨e1,rfl⟩ | ⟨j,e⟩)
   ·exact ⟨⟨b,rfl⟩,by rw [if_pos e1]⟩
   ·exact absurd e (hnm _ _ _ _)
  ·rintro ⟨⟨b',e1⟩,e2⟩
   injection e1 with e1 _
   split at e2
   ·rename_i hi;exact .inl ⟨hi,e1.symm⟩
   ·cases e2
theorem zn2 (h:GI s σ) {k b:Int} (hp:σ.pg p= .super k b) (hc:0<=c/\c < s.c) (hs:∀ i,0<=i->i < zah k->σ.sl p i= .way c) (hm:∀ j i k',σ.mg c j≠ .entry p i k'):Kept s c σ (σ.page p (.held c)):=by
 have hin:=zjs h hp
 have hsl:∀ i,(0<=i/\i < zah k/\σ.sl p i= .way c)\/σ.sl p i= .none:=fun i=> by
  have:=zov h hp i
  split at this
  ·rename_i hi;exact .inl ⟨hi.1,hi.2,hs i hi.1 hi.2⟩
  ·exact .inr this
 have hsb:=zcy k
 refine ⟨h.page ⟨hin.1,hc⟩ (fun i=> ?_) (fun g' e=> by cases e) (fun q _ e=> .inl ⟨c,rfl⟩) (fun n' e=> by cases e) (fun g e=> by rw [hp] at e;cases e) (fun d j i k' e=> ?_),fun x hx=> Same.page ?_ ?_ ?_,fun _=> rfl⟩
 ·rcases hsl i with ⟨h1,h2,h3⟩ | h1
  ·exact .inr ⟨h3,h1,by omega⟩
  ·exact .inl h1
 ·exfalso
  obtain ⟨⟨b',e1⟩,e2⟩:=h.mv d j p i k' e
  rcases hsl i with ⟨_,_,h3⟩ | h1
  ·rw [h3] at e2;injection e2 with e2;subst e2;exact hm j i k' e
  ·rw [h1] at e2;cases e2
 ·rw [hp];simp;exact fun e=> hx e.symm
 ·intro g' _;rw [hp];simp
 ·intro i k' e
  rcases hsl i with ⟨_,_,h3⟩ | h1
  ·rw [h3] at e;injection e with e;exact absurd e.symm hx
  ·rw [h1] at e;cases e
theorem znl (h:GI s σ) {k b:Int} (he:zaz σ c (o.add (.ways p (zah k) k))) (hp:σ.pg p= .super k b) (hn:∀ i k',¬ o.w p i k') (hm:∀ j i k',σ.mg c j≠ .entry p i k'):zaz (σ.page p (.held c)) c (o.add (.page p)):=by
 have hno:¬ o.h p:=fun e=> by have:=(he.h p).2 (.inl e);rw [hp] at this;cases this
 have hnb:∀ q,σ.pg q≠ .body p:=fun q e=> by
  rcases h.bd q p e with ⟨_,e⟩ | ⟨_,e,_⟩ <;> rw [hp] at e <;> cases e
 refine he.page (fun q hq=> ?_) ?_ (fun q g' hq hg'=> ?_) (fun g' hg'=> ?_) (fun q hq=> ?_) ?_ (fun q i k hq=> ?_) (fun i k'=> ?_) (fun i k' j hw=> hm _ _ _)
 ·simp [Own.add,Own.page,Own.ways,hq]
 ·simp [Own.add,Own.page]
 ·simp [Own.add,Own.page,Own.ways]
 ·have:=he.b p g'
  simp only [Own.add,Own.ways,or_false] at this
  simp only [Own.add,Own.page,or_false]
  rw [<- this,hp];simp
 ·have:=he.b q p
  simp only [Own.add,Own.ways,or_false] at this
  simp only [Own.add,Own.page,or_false]
  rw [<- this]
  exact ⟨fun e=> absurd e.1 (hnb q),fun e=> absurd e.1 (hnb q)⟩
 ·have:=he.b p p
  simp only [Own.add,Own.ways,or_false] at this
  simp only [Own.add,Own.page,or_false]
  rw [<- this,hp];simp
 ·simp [Own.add,Own.page,Own.ways,hq]
 ·simp only [Own.add,Own.page,or_false]
  constructor
  ·rintro (e | ⟨j,e⟩)
   ·exact absurd e (hn i k')
   ·exact absurd e (hm _ _ _)
  ·rintro ⟨⟨_,e⟩,_⟩;cases e
theorem zf3 (h:GI s σ) {i k b:Int} (hp:σ.pg p= .super k b) (hs:σ.sl p i= .opened k\/σ.sl p i= .taken k) (hc:0<=c/\c < s.c):Kept s c σ (σ.slot p i (.way c)):=by
 have hin:=(zhs h hs).2
 refine ⟨h.slot hc (by rw [hp];simp only [zhi];rw [if_pos hin];exact .inr (.inr ⟨c,rfl⟩)) (fun d j k' e=> ?_),fun x hx=> Same.slot (by rw [hp];simp) (fun k' b' e=> ?_),fun _=> rfl⟩
 ·have:=(h.mv d j p i k' e).2
  rcases hs with e | e <;> rw [e] at this <;> cases this
 ·constructor
  ·intro e;injection e with e;exact absurd e.symm hx
  ·intro e;rcases hs with e2 | e2 <;> rw [e2] at e <;> cases e
theorem zfc (h:GI s σ) {i k b:Int} (he:zaz σ c o) (hp:σ.pg p= .super k b) (hs:σ.sl p i= .opened k\/σ.sl p i= .taken k):zaz (σ.slot p i (.way c)) c (o.add (.way p i k)):=by
 have hnm:∀ j k',σ.mg c j≠ .entry p i k':=fun j k' e=> by
  have:=(h.mv c j p i k' e).2
  rcases hs with e | e <;> rw [e] at this <;> cases this
 have hnw:∀ k',¬ o.w p i k':=fun k' e=> by
  have:=((he.w p i k').2 (.inl e)).2
  rcases hs with e | e <;> rw [e] at this <;> cases this
 refine he.slot (fun _=> ?_) (fun _ _=> ?_) (fun q j k' hq=> ?_) (fun k'=> ?_) (fun k' j hw=> hnm _ _)
 ·simp [Own.add,Own.way]
 ·simp [Own.add,Own.way]
 ·simp only [Own.add,Own.way]
  exact ⟨fun e=> e.elim id fun e=> absurd ⟨e.1,e.2.1⟩ hq,.inl⟩
 ·simp only [Own.add,Own.way,hnw,false_or,true_and,and_true]
  rw [hp]
  constructor
  ·rintro (rfl | ⟨j,e⟩)
   ·exact ⟨b,rfl⟩
   ·exact absurd e (hnm _ _)
  ·rintro ⟨b',e⟩;injection e with e _;exact .inl e.symm
theorem zc6 (h:GI s σ) {i k b:Int} {u:SW} (hp:σ.pg p= .super k b) (hs:σ.sl p i= .way c) (hu:u= .opened k\/u= .taken k) (hm:∀ j k',σ.mg c j≠ .entry p i k'):Kept s c σ (σ.slot p i u):=by
 have hin:=zjs h hp
 have hr:=zke h hp hs
 refine ⟨h.slot (by rcases hu with rfl | rfl <;> exact hin.2.1) (by rw [hp];simp only [zhi];rw [if_pos hr];exact hu.elim .inl fun e=> .inr (.inl e)) (fun d j k' e=> ?_),fun x hx=> Same.slot (by rw [hp];simp) (fun k' b' e=> ?_),fun _=> rfl⟩
 ·have:=(h.mv d j p i k' e).2
  rw [hs] at this;injection this with e2;subst e2;exact absurd e (hm j k')
 ·rw [hs]
  constructor
  ·intro e;rcases hu with rfl | rfl <;> cases e
  ·intro e;injection e with e;exact absurd e.symm hx
theorem zdd {i k b:Int} {u:SW} (he:zaz σ c (o.add (.way p i k))) (hn:∀ k',¬ o.w p i k') (hp:σ.pg p= .super k b) (hu:u= .opened k\/u= .taken k):zaz (σ.slot p i u) c o:=by
 have hnm:∀ j k',σ.mg c j≠ .entry p i k':=fun j k' e=> by
  have h1:=(he.w p i k').2 (.inr ⟨j,e⟩)
  obtain ⟨⟨b',e1⟩,_⟩:=h1
  rw [hp] at e1
  injection e1 with e1 _
  subst e1
  exact he.d p i k j (.inr ⟨rfl,rfl,rfl⟩) e
 refine he.slot (fun _=> ?_) (fun _ _=> ?_) (fun q j k' hq=> ?_) (fun k'=> ?_) (fun k' j hw=> hnm _ _)
 ·simp [Own.add,Own.way]
 ·simp [Own.add,Own.way]
 ·simp only [Own.add,Own.way]
  exact ⟨.inl,fun e=> e.elim id fun e=> absurd ⟨e.1,e.2.1⟩ hq⟩
 ·constructor
  ·rintro (e | ⟨j,e⟩)
   ·exact absurd e (hn k')
   ·exact absurd e (hnm _ _)
  ·rintro ⟨_,e⟩;rcases hu with rfl | rfl <;> cases e
theorem znc {i k b:Int} (he:zaz σ c (o.add (.way p i k))) (hp:σ.pg p= .super k b):∀ j k',σ.mg c j≠ .entry p i k':=fun j k' e=> by
 have h1:=(he.w p i k').2 (.inr ⟨j,e⟩)
 obtain ⟨⟨b',e1⟩,_⟩:=h1
 rw [hp] at e1
 injection e1 with e1 _
 subst e1
 exact he.d p i k j (.inr ⟨rfl,rfl,rfl⟩) e
theorem zqp (h:GI s σ) {j i k b:Int} (hp:σ.pg p= .super k b) (hs:σ.sl p i= .way c) (hm:∀ j k',σ.mg c j≠ .entry p i k') (hj:0<=j/\j < s.m):Kept s c σ (σ.mag c j (.entry p i k)):=by
 have hin:=zjs h hp
 have hr:=zke h hp hs
 have hc:0<=c/\c < s.c:=by have:=h.sf p i;rw [hs] at this;exact this
 refine ⟨h.mag ⟨hin.1,hin.2.1,hr⟩ (fun _=> ⟨hc,hj⟩) (fun p' i' k' e=> ?_) (fun p' y k' k'' j' e e2=> ?_),fun x hx=> Same.mag hx,fun _=> rfl⟩
 ·injection e with e1 e2 e3;subst e1 e2 e3;exact ⟨⟨b,hp⟩,hs⟩
 ·injection e with e1 e3 e4;subst e1 e3;exact absurd e2 (hm _ _)
theorem zn8 {j i k b:Int} (he:zaz σ c (o.add (.way p i k))) (hn:∀ k',¬ o.w p i k') (hp:σ.pg p= .super k b) (hj:σ.mg c j= .none):zaz (σ.mag c j (.entry p i k)) c o:=by
 have hnm:=znc he hp
 refine ⟨fun q=> (he.h q).trans (by simp [Own.add,Own.way]),fun q g=> (he.b q g).trans (by simp [Own.add,Own.way]),fun q y k'=> (he.w q y k').trans ?_,fun q y k' j' hw=> ?_⟩
 ·simp only [Own.add,Own.way]
  constructor
  ·rintro ((e | ⟨rfl,rfl,rfl⟩) | ⟨j',e⟩)
   ·exact .inl e
   ·exact .inr ⟨j,zcb _ _ _ _⟩
   ·refine .inr ⟨j',?_⟩
    rw [zci _ _ (fun h=> by rw [h.2,hj] at e;cases e)]
    exact e
  ·rintro (e | ⟨j',e⟩)
   ·exact .inl (.inl e)
   ·by_cases h:j'=j
    ·subst h;rw [zcb] at e;injection e with e1 e2 e3;exact .inl (.inr ⟨e1.symm,e2.symm,e3.symm⟩)
    ·rw [zci _ _ (fun e=> h e.2)] at e;exact .inr ⟨j',e⟩
 ·by_cases h:j'=j
  ·subst h;rw [zcb];intro e;injection e with e1 e2 e3;subst e1 e2 e3;exact hn _ hw
  ·rw [zci _ _ (fun e=> h e.2)];exact he.d q y k' j' (.inl hw)
theorem zi4 (h:GI s σ) {j:Int}:Kept s c σ (σ.mag c j .none):=
 ⟨h.mag trivial (fun e=> absurd rfl e) (fun p' i' k' e=> by cases e) (fun p' y k' k'' j' e e2=> by cases e),fun x hx=> Same.mag hx,fun _=> rfl⟩
theorem znd (h:GI s σ) {j i k:Int} (he:zaz σ c o) (hj:σ.mg c j= .entry p i k):zaz (σ.mag c j .none) c (o.add (.way p i k)):=by
 refine ⟨fun q=> (he.h q).trans (by simp [Own.add,Own.way]),fun q g=> (he.b q g).trans (by simp [Own.add,Own.way]),fun q y k'=> (he.w q y k').trans ?_,fun q y k' j' hw=> ?_⟩
 ·simp only [Own.add,Own.way]
  constructor
  ·rintro (e | ⟨j',e⟩)
   ·exact .inl (.inl e)
   ·by_cases h:j'=j
    ·subst h;rw [hj] at e;injection e with e1 e2 e3;exact .inl (.inr ⟨e1.symm,e2.symm,e3.symm⟩)
    ·exact .inr ⟨j',by rw [zci _ _ (fun e=> h e.2)];exact e⟩
  ·rintro ((e | ⟨rfl,rfl,rfl⟩) | ⟨j',e⟩)
   ·exact .inl e
   ·exact .inr ⟨j,hj⟩
   ·by_cases h:j'=j
    ·subst h;rw [zcb] at e;cases e
    ·rw [zci _ _ (fun e=> h e.2)] at e;exact .inr ⟨j',e⟩
 ·by_cases h':j'=j
  ·subst h';rw [zcb];intro e;cases e
  ·rw [zci _ _ (fun e=> h' e.2)]
   rcases hw with hw | ⟨rfl,rfl,rfl⟩
   ·exact he.d q y k' j' hw
   ·intro e;exact h' (h.mi c j' j q y k' k' e hj)
end

section

def PW.zpv (k:Int):PW->Bool
 | .super k' _=> k'==k
 | _=> false
def tkA (s:Sh) (t:Tk) (σ:Ab):Tk × Ab:=
 if t.done=true then (t,σ)
 else if t.hit=true then ({ t with found:=true,done:=true },σ.mag t.c t.i .none)
 else match σ.mg t.c t.i with
  | .entry p i k=> (if k=t.k then { t with ep:=p,es:=i,ek:=k,hit:=true } else { t with i:=t.i + 1,done:=decide (t.i + 1=s.m) },σ)
  | .none=> ({ t with i:=t.i + 1,done:=decide (t.i + 1=s.m) },σ)
def puA (s:Sh) (t:Pu) (σ:Ab):Pu × Ab:=
 if t.done=true then (t,σ)
 else if t.hit=true then ({ t with put:=true,done:=true },σ.mag t.c t.i (.entry t.ep t.es t.ek))
 else (if σ.mg t.c t.i= .none then { t with hit:=true } else { t with i:=t.i + 1,done:=decide (t.i + 1=s.m) },σ)
def scA (s:Sh) (t:Sc) (σ:Ab):Sc × Ab:=
 if t.done=true then (t,σ)
 else if t.next=0 then (if (σ.pg (t.page s)).zpv t.k=true then { t with next:=1 } else t.turn s,σ)
 else if t.next=1 then (if σ.sl (t.page s) t.i= .opened t.k then { t with next:=2 } else t.miss s,σ)
 else if σ.sl (t.page s) t.i= .opened t.k then ({ t with found:=true,done:=true },σ.slot (t.page s) t.i (.way t.c)) else (t.miss s,σ)
def pcA (s:Sh) (t:Pc) (σ:Ab):Pc × Ab:=
 if t.done=true then (t,σ)
 else if t.empty=false then (if σ.pg (t.page s)= .empty then { t with empty:=true } else { t with empty:=false,many:=t.many + 1,done:=decide (t.many + 1=s.p) },σ)
 else if σ.pg (t.page s)= .empty then ({ t with found:=true,done:=true },σ.page (t.page s) (.held t.c)) else ({ t with empty:=false,many:=t.many + 1,done:=decide (t.many + 1=s.p) },σ)
def spA (s:Sh) (t:Sp) (σ:Ab):Sp × Ab:=
 if t.done=true then (t,σ)
 else if t.back=true then ({ t with i:=t.i - 1,done:=decide (t.i - 1=0) },σ.slot t.page (t.i - 1) (.opened t.k))
 else if t.i=zah t.k then ({ t with held:=true,done:=true },σ.page t.page (.held t.c))
 else if σ.sl t.page t.i= .opened t.k then ({ t with i:=t.i + 1 },σ.slot t.page t.i (.way t.c)) else ({ t with back:=true,done:=decide (t.i=0) },σ)
def bnA (s:Sh) (t:Bn) (σ:Ab):Bn × Ab:=
 if t.done=true then (t,σ)
 else if t.bound=true then ({ t with i:=t.i - 1,done:=decide (t.i - 1=0) },σ.slot t.page t.i (.opened t.k))
 else if t.i=16 then ({ t with bound:=true,i:=zah t.k - 1 },σ.page t.page (.super t.k t.c))
 else ({ t with i:=t.i + 1 },σ.slot t.page t.i (if t.i < zah t.k then .way t.c else .none))
def mcA (s:Sh):Mc->Ab->Mc × Ab
 | .tk t,σ=> (.tk (tkA s t σ).1,(tkA s t σ).2)
 | .sc t,σ=> (.sc (scA s t σ).1,(scA s t σ).2)
 | .pc t,σ=> (.pc (pcA s t σ).1,(pcA s t σ).2)
 | .sp t,σ=> (.sp (spA s t σ).1,(spA s t σ).2)
 | .bn t,σ=> (.bn (bnA s t σ).1,(bnA s t σ).2)
def skA (s:Sh) (t:Sk) (σ:Ab):Sk × Ab:=
 if t.done=true then (t,σ)
 else match t.now with
  | some x=> (za5 s 5 { t with now:=some (mcA s x σ).1 },(mcA s x σ).2)
  | none=> (match σ.pg (t.here s) with | .super k _=> { t with now:=some (.sp (zfa s t.c (t.here s) k)) } | _=> t.turn s,σ)
def rnA (s:Sh) (t:Rn) (σ:Ab):Rn × Ab:=
 if t.done=true then (t,σ)
 else if t.next=0 then (match σ.pg t.at' with | .empty=> { t with next:=1 } | .super k _=> { t with next:=2,strip:=some (zfa s t.c t.at' k) } | _=> t.miss s,σ)
 else if t.next=1 then (if σ.pg t.at'= .empty then (t.own,σ.page t.at' (.held t.c)) else (t.miss s,σ))
 else if t.next=2 then
  match t.strip with
  | some x=> (if (spA s x σ).1.held=true then { t with strip:=some (spA s x σ).1,next:=3,i:=0 } else if (spA s x σ).1.done=true then ({ t with strip:=some (spA s x σ).1 }:Rn).miss s else { t with strip:=some (spA s x σ).1 },(spA s x σ).2)
  | none=> (t,σ)
 else if t.next=3 then (if t.i + 1=16 then ({ t with i:=t.i + 1 }:Rn).own else { t with i:=t.i + 1 },σ.slot t.at' t.i .none)
 else if t.next=4 then (({ t with i:=t.i - 1 }:Rn).gone s,σ.page (t.i - 1) .empty)
 else (t.written,σ.page t.i (.body t.head))
def Sim {T:Type} (s:Sh) (r:T × Mem) (a:T × Ab):Prop:=r.1=a.1/\Rep s r.2 a.2
variable {s:Sh} {m:Mem} {σ:Ab}

theorem zgz {c a was x:Int} (h:m.get a=was):(m.swap c a was x).ws=m.ws.set a.toNat x:=by unfold Mem.swap;rw [if_pos h]
theorem zjl {c a was x:Int} (h:¬ m.get a=was):(m.swap c a was x).ws=m.ws:=by unfold Mem.swap;rw [if_neg h]
theorem zpe {a b:Int} (h:0 < b):0<=a % b/\a % b < b:=⟨Int.emod_nonneg _ (by omega),Int.emod_lt_of_pos _ h⟩
theorem zgr {k:Int} (h:0 < zah k):0<=k/\k<=3:=by
 unfold zah at h
 split at h
 ·omega
 ·split at h
  ·omega
  ·split at h
   ·omega
   ·split at h
    ·omega
    ·omega
theorem Rep.zlw (hr:Rep s m σ) (hg:GI s σ) {p i:Int} (hp:0<=p/\p < s.p) (hi:0<=i/\i < 16) {u:SW} (hu:u.fit s):m.get (zbk s.p s.c s.m p i)=u.enc↔σ.sl p i=u:=by
 rw [hr.sl p i hp hi]
 exact ⟨SW.inj hr.may (hg.sf p i) hu,fun e=> by rw [e]⟩
theorem Rep.zwo (hr:Rep s m σ) (hg:GI s σ) {p q:Int} (hp:0<=p/\p < s.p) {u:PW} (hu:u.fit s q):m.get (zak s.p s.c s.m p)=u.enc↔σ.pg p=u:=by
 rw [hr.pg p hp]
 exact ⟨PW.inj hr.may (hg.pf p) hu,fun e=> by rw [e]⟩
theorem Rep.zwz (hr:Rep s m σ) (hg:GI s σ) {c i:Int} (hc:0<=c/\c < s.c) (hi:0<=i/\i < s.m):m.get (ze9 s.p s.c s.m c i)=0↔σ.mg c i= .none:=by
 rw [hr.mg c i hc hi]
 exact ⟨fun e=> MW.inj hr.may (hg.mf c i) (y:= .none) trivial e,fun e=> by rw [e];rfl⟩
theorem Rep.read (hr:Rep s m σ) (hg:GI s σ) {p:Int} (hp:0<=p/\p < s.p):zal s.p s.c s.m p (m.get (zak s.p s.c s.m p))=true/\zbx (m.get (zak s.p s.c s.m p))=(σ.pg p).kind/\za2 (m.get (zak s.p s.c s.m p)) 0=(σ.pg p).pa/\za2 (m.get (zak s.p s.c s.m p)) 1=(σ.pg p).pb:=by
 rw [hr.pg p hp]
 obtain ⟨a,b,c⟩:=PW.read hr.may (hg.pf p)
 exact ⟨PW.ya4 hr.may hp (hg.pf p),a,b,c⟩
theorem yd7 {t:Tk} (hr:Rep s m σ) (hg:GI s σ) (h:tkOk s t):Sim s (zd2 s t m) (tkA s t σ):=by
 unfold zd2 tkA
 by_cases hd:t.done=true
 ·rw [if_pos hd,if_pos hd];exact ⟨rfl,hr⟩
 ·rw [if_neg hd,if_neg hd]
  have hc:=h.cl (by simpa using hd)
  by_cases hh:t.hit=true
  ·rw [if_pos hh,if_pos hh];exact ⟨rfl,hr.z1g hc.1 hc.2 .none rfl⟩
  ·rw [if_neg hh,if_neg hh]
   dsimp only
   rw [hr.mg _ _ hc.1 hc.2]
   cases he:σ.mg t.c t.i with
   | none=>
    rw [if_neg (fun e=> by have:=e.1;rw [show MW.none.enc=0 from rfl,zya] at this;cases this)]
    exact ⟨rfl,hr.same rfl⟩
   | entry p i k=>
    have hf:=hg.mf t.c t.i
    rw [he] at hf
    obtain ⟨e1,e2,e3⟩:=MW.read hr.may hf
    rw [MW.ya4 hr.may hf,e1,e2,e3]
    by_cases hk:k=t.k
    ·rw [if_pos ⟨rfl,hk⟩];dsimp only;rw [if_pos hk];exact ⟨rfl,hr.same rfl⟩
    ·rw [if_neg (fun e=> hk e.2)];dsimp only;rw [if_neg hk];exact ⟨rfl,hr.same rfl⟩
theorem yfk {t:Pu} (hr:Rep s m σ) (hg:GI s σ) (h:puOk s t):Sim s (zd3 s t m) (puA s t σ):=by
 unfold zd3 puA
 by_cases hd:t.done=true
 ·rw [if_pos hd,if_pos hd];exact ⟨rfl,hr⟩
 ·rw [if_neg hd,if_neg hd]
  have hc:=h.cl (by simpa using hd)
  by_cases hh:t.hit=true
  ·rw [if_pos hh,if_pos hh];exact ⟨rfl,hr.z1g hc.1 hc.2 (.entry _ _ _) rfl⟩
  ·rw [if_neg hh,if_neg hh]
   dsimp only
   by_cases he:σ.mg t.c t.i= .none
   ·rw [if_pos ((hr.zwz hg hc.1 hc.2).2 he),if_pos he];exact ⟨rfl,hr.same rfl⟩
   ·rw [if_neg (fun e=> he ((hr.zwz hg hc.1 hc.2).1 e)),if_neg he];exact ⟨rfl,hr.same rfl⟩
theorem yfh {t:Sc} (hr:Rep s m σ) (hg:GI s σ) (h:scOk s t):Sim s (zed s t m) (scA s t σ):=by
 unfold zed scA
 by_cases hd:t.done=true
 ·rw [if_pos hd,if_pos hd];exact ⟨rfl,hr⟩
 ·rw [if_neg hd,if_neg hd]
  obtain ⟨c1,c2,c3,c4,c5,c6⟩:=h.cl (by simpa using hd)
  have hp:0<=t.page s/\t.page s < s.p:=zpe (by omega)
  have hk:=zgr c2
  have hi:0<=t.i/\t.i < 16:=by have:=zcy t.k;omega
  have ho:m.get (zbk s.p s.c s.m (t.page s) t.i)=zc8 t.k↔σ.sl (t.page s) t.i= .opened t.k:=hr.zlw hg hp hi (u:= .opened t.k) hk
  dsimp only
  by_cases h0:t.next=0
  ·rw [if_pos h0,if_pos h0]
   obtain ⟨r1,r2,r3,_⟩:=hr.read hg hp
   rw [r1,r2,r3]
   refine ⟨?_,hr.same rfl⟩
   cases σ.pg (t.page s) with
   | super k b=>
    by_cases hkk:k=t.k
    ·rw [if_pos ⟨rfl,rfl,hkk⟩];simp [PW.zpv,hkk]
    ·rw [if_neg (fun e=> hkk e.2.2)];simp [PW.zpv,hkk]
   | _=> simp [PW.zpv,PW.kind]
  ·rw [if_neg h0,if_neg h0]
   by_cases h1:t.next=1
   ·rw [if_pos h1,if_pos h1]
    refine ⟨?_,hr.same rfl⟩
    dsimp only
    by_cases e:σ.sl (t.page s) t.i= .opened t.k
    ·rw [if_pos (ho.2 e),if_pos e]
    ·rw [if_neg (fun e2=> e (ho.1 e2)),if_neg e]
   ·rw [if_neg h1,if_neg h1]
    by_cases e:σ.sl (t.page s) t.i= .opened t.k
    ·rw [if_pos (ho.2 e),if_pos e];exact ⟨rfl,hr.setSlot hp hi (.way t.c) (zgz (ho.2 e))⟩
    ·rw [if_neg (fun e2=> e (ho.1 e2)),if_neg e];exact ⟨rfl,hr.same (zjl (fun e2=> e (ho.1 e2)))⟩
theorem yel {t:Pc} (hr:Rep s m σ) (hg:GI s σ) (h:pcOk s t):Sim s (ze7 s t m) (pcA s t σ):=by
 unfold ze7 pcA
 by_cases hd:t.done=true
 ·rw [if_pos hd,if_pos hd];exact ⟨rfl,hr⟩
 ·rw [if_neg hd,if_neg hd]
  obtain ⟨c1,c2,c3⟩:=h.cl (by simpa using hd)
  have hp:0<=t.page s/\t.page s < s.p:=zpe (by omega)
  have ho:m.get (zak s.p s.c s.m (t.page s))=0↔_:=hr.zwo hg hp (q:=0) (u:= .empty) trivial
  dsimp only
  by_cases he:t.empty=false
  ·rw [if_pos he,if_pos he]
   refine ⟨?_,hr.same rfl⟩
   dsimp only
   by_cases e:σ.pg (t.page s)= .empty
   ·rw [if_pos (ho.2 e),if_pos e]
   ·rw [if_neg (fun e2=> e (ho.1 e2)),if_neg e]
  ·rw [if_neg he,if_neg he]
   by_cases e:σ.pg (t.page s)= .empty
   ·rw [if_pos (ho.2 e),if_pos e];exact ⟨rfl,hr.zd7 hp (.held t.c) (zgz (ho.2 e))⟩
   ·rw [if_neg (fun e2=> e (ho.1 e2)),if_neg e];exact ⟨rfl,hr.same (zjl (fun e2=> e (ho.1 e2)))⟩
theorem z8o {t:Sp} (hr:Rep s m σ) (hg:GI s σ) (h:spOk s t):Sim s (zdu s t m) (spA s t σ):=by
 unfold zdu spA
 by_cases hd:t.done=true
 ·rw [if_pos hd,if_pos hd];exact ⟨rfl,hr⟩
 ·rw [if_neg hd,if_neg hd]
  obtain ⟨c1,c2,c3,c4,c5⟩:=h.cl (by simpa using hd)
  have hsb:=zcy t.k
  by_cases hb:t.back=true
  ·rw [if_pos hb,if_pos hb]
   have:=c5 hb
   exact ⟨rfl,hr.setSlot c2 (by omega) (.opened t.k) rfl⟩
  ·rw [if_neg hb,if_neg hb]
   by_cases hi:t.i=zah t.k
   ·rw [if_pos hi,if_pos hi];exact ⟨rfl,hr.zd7 c2 (.held t.c) rfl⟩
   ·rw [if_neg hi,if_neg hi]
    have hi':0<=t.i/\t.i < 16:=by omega
    have ho:m.get (zbk s.p s.c s.m t.page t.i)=zc8 t.k↔σ.sl t.page t.i= .opened t.k:=hr.zlw hg c2 hi' (u:= .opened t.k) (zgr c3)
    by_cases e:σ.sl t.page t.i= .opened t.k
    ·rw [if_pos (ho.2 e),if_pos e];exact ⟨rfl,hr.setSlot c2 hi' (.way t.c) (zgz (ho.2 e))⟩
    ·rw [if_neg (fun e2=> e (ho.1 e2)),if_neg e];exact ⟨rfl,hr.same (zjl (fun e2=> e (ho.1 e2)))⟩
theorem yea {t:Bn} (hr:Rep s m σ) (h:bnOk s t):Sim s (ze6 s t m) (bnA s t σ):=by
 unfold ze6 bnA
 by_cases hd:t.done=true
 ·rw [if_pos hd,if_pos hd];exact ⟨rfl,hr⟩
 ·rw [if_neg hd,if_neg hd]
  obtain ⟨c1,c2,c3,c4,c5⟩:=h.cl (by simpa using hd)
  have hsb:=zcy t.k
  by_cases hb:t.bound=true
  ·rw [if_pos hb,if_pos hb]
   have:=c5 hb
   exact ⟨rfl,hr.setSlot c2 (by omega) (.opened t.k) rfl⟩
  ·rw [if_neg hb,if_neg hb]
   by_cases hi:t.i=16
   ·rw [if_pos hi,if_pos hi];exact ⟨rfl,hr.zd7 c2 (.super t.k t.c) rfl⟩
   ·rw [if_neg hi,if_neg hi]
    refine ⟨rfl,hr.setSlot c2 (by omega) _ ?_⟩
    show m.ws.set _ _=_
    split <;> rfl
theorem z9a {x:Mc} (hr:Rep s m σ) (hg:GI s σ) (h:mcOk s x):Sim s (zbr s x m) (mcA s x σ):=by
 cases x with
 | tk t=> have:=yd7 hr hg (t:=t) h;exact ⟨congrArg Mc.tk this.1,this.2⟩
 | sc t=> have:=yfh hr hg (t:=t) h;exact ⟨congrArg Mc.sc this.1,this.2⟩
 | pc t=> have:=yel hr hg (t:=t) h;exact ⟨congrArg Mc.pc this.1,this.2⟩
 | sp t=> have:=z8o hr hg (t:=t) h;exact ⟨congrArg Mc.sp this.1,this.2⟩
 | bn t=> have:=yea hr (t:=t) h;exact ⟨congrArg Mc.bn this.1,this.2⟩
theorem yda {t:Sk} (hr:Rep s m σ) (hg:GI s σ) (h:skOk s t):Sim s (zbv s t m) (skA s t σ):=by
 unfold zbv skA
 by_cases hd:t.done=true
 ·rw [if_pos hd,if_pos hd];exact ⟨rfl,hr⟩
 ·rw [if_neg hd,if_neg hd]
  obtain ⟨c1,c2,c3,c4,c5⟩:=h.cl (by simpa using hd)
  cases hn:t.now with
  | some x=>
   have:=z9a hr hg (c5 x hn).1
   dsimp only
   rw [this.1]
   exact ⟨rfl,this.2⟩
  | none=>
   have hp:0<=t.here s/\t.here s < s.p:=zpe (by omega)
   obtain ⟨r1,r2,r3,_⟩:=hr.read hg hp
   dsimp only
   rw [r1,r2,r3]
   refine ⟨?_,hr.same rfl⟩
   cases σ.pg (t.here s) with
   | super k b=> rw [if_pos ⟨rfl,rfl⟩];rfl
   | _=> simp [PW.kind]
theorem yc2 {t:Rn} (hr:Rep s m σ) (hg:GI s σ) (h:rnOk s t):Sim s (zcr s t m) (rnA s t σ):=by
 unfold zcr rnA
 by_cases hd:t.done=true
 ·rw [if_pos hd,if_pos hd];exact ⟨rfl,hr⟩
 ·rw [if_neg hd,if_neg hd]
  obtain ⟨c1,c2,c3,c4,c5,c6,c7,c8,c9,c10⟩:=h.cl (by simpa using hd)
  dsimp only
  by_cases h0:t.next=0
  ·rw [if_pos h0,if_pos h0]
   have hp:0<=t.at'/\t.at' < s.p:=by have:=c6 (by omega);omega
   obtain ⟨r1,r2,r3,_⟩:=hr.read hg hp
   rw [r1,r2,r3]
   refine ⟨?_,hr.same rfl⟩
   cases σ.pg t.at' with
   | empty=> simp [PW.kind]
   | super k b=> simp [PW.kind,PW.pa]
   | _=> simp [PW.kind]
  ·rw [if_neg h0,if_neg h0]
   by_cases h1:t.next=1
   ·rw [if_pos h1,if_pos h1]
    have hp:0<=t.at'/\t.at' < s.p:=by have:=c6 (by omega);omega
    have ho:m.get (zak s.p s.c s.m t.at')=0↔_:=hr.zwo hg hp (q:=0) (u:= .empty) trivial
    by_cases e:σ.pg t.at'= .empty
    ·rw [if_pos (ho.2 e),if_pos e];exact ⟨rfl,hr.zd7 hp (.held t.c) (zgz (ho.2 e))⟩
    ·rw [if_neg (fun e2=> e (ho.1 e2)),if_neg e];exact ⟨rfl,hr.same (zjl (fun e2=> e (ho.1 e2)))⟩
   ·rw [if_neg h1,if_neg h1]
    by_cases h2:t.next=2
    ·rw [if_pos h2,if_pos h2]
     obtain ⟨x,hx,hxo,_⟩:=c7 h2
     rw [hx]
     have:=z8o hr hg hxo
     dsimp only
     rw [this.1]
     exact ⟨rfl,this.2⟩
    ·rw [if_neg h2,if_neg h2]
     by_cases h3:t.next=3
     ·rw [if_pos h3,if_pos h3]
      have hp:0<=t.at'/\t.at' < s.p:=by have:=c6 (by omega);omega
      exact ⟨rfl,hr.setSlot hp (c8 h3) .none rfl⟩
     ·rw [if_neg h3,if_neg h3]
      by_cases h4:t.next=4
      ·rw [if_pos h4,if_pos h4]
       have:=c9 h4
       have:=c6 (by omega)
       refine ⟨rfl,hr.zd7 (by omega) .empty ?_⟩
       show m.ws.set _ (zb8 0 0 0)=_
       rw [show zb8 0 0 0=PW.empty.enc by decide]
      ·rw [if_neg h4,if_neg h4]
       have:=c10 (by omega)
       exact ⟨rfl,hr.zd7 (by omega) (.body t.head) rfl⟩
end

end Go.Proofs.YtampacmmhhilaaaGreat
