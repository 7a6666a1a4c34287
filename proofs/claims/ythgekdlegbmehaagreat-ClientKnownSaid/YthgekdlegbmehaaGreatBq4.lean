/- Texts bound together: MchO MchN. -/
import Derived.Test.YthgekdlegbmehaaGreatBq3

set_option linter.all false
namespace Go.Proofs.YthgekdlegbmehaaGreat

theorem zea {p c m a x:Int}:zal p c m a x=true↔zb8 (zbx x) (za2 x 0) (za2 x 1)=x/\0<=zak p c m a/\zkb p c a (zbx x) (za2 x 0) (za2 x 1)=true:=by
 unfold zal;simp only [Bool.and_eq_true,beq_iff_eq,decide_eq_true_eq];exact and_assoc
theorem zdq {p c m a x:Int} (h:zal p c m a x=true) (hk:zbx x=2):(0<=za2 x 0/\za2 x 0<=3)/\(0<=za2 x 1/\za2 x 1 < c)/\0 < zah (za2 x 0):=by
 obtain ⟨_,_,h3⟩:=zea.1 h
 unfold zkb at h3
 rw [if_neg (by omega),if_pos hk] at h3
 simp only [Bool.and_eq_true,decide_eq_true_eq] at h3
 have h1:=zgv x 0
 have h2:=zgv x 1
 refine ⟨by omega,by omega,?_⟩
 have:za2 x 0=0\/za2 x 0=1\/za2 x 0=2\/za2 x 0=3:=by omega
 rcases this with e | e | e | e <;> rw [e] <;> decide
theorem zn1 {p c m a x:Int} (h:zal p c m a x=true) (hk:zbx x=3):1<=za2 x 0/\za2 x 0<=8/\za2 x 0<=p - a:=by
 obtain ⟨_,_,h3⟩:=zea.1 h
 unfold zkb at h3
 rw [if_neg (by omega),if_neg (by omega),if_pos hk] at h3
 simp only [Bool.and_eq_true,decide_eq_true_eq] at h3
 omega
theorem zpu {p c m a x:Int} (h:zal p c m a x=true) (hk:zbx x=4):0<=za2 x 0/\za2 x 0 < a/\a - 8 < za2 x 0:=by
 obtain ⟨_,_,h3⟩:=zea.1 h
 unfold zkb at h3
 rw [if_neg (by omega),if_neg (by omega),if_neg (by omega),if_pos hk] at h3
 simp only [Bool.and_eq_true,decide_eq_true_eq] at h3
 have h1:=zgv x 0
 omega
theorem zsv {p c m x:Int} (h:zbi p c m x=true):(0<=za2 x 0/\za2 x 0 < p)/\(0<=za2 x 1/\za2 x 1 < zah (za2 x 2)):=by
 unfold zbi at h
 simp only [Bool.and_eq_true,beq_iff_eq,decide_eq_true_eq] at h
 have h1:=zcs h.1.2
 have h2:=zgv x 1
 omega
theorem zdg {k:Int} (h:0 < zah k):zah k=16\/zah k=8\/zah k=4\/zah k=2:=by
 unfold zah at *
 split <;> (try split) <;> (try split) <;> (try split) <;> simp_all
structure tkOk (s:Sh) (t:Tk):Prop where
 cl:t.done=false->(0<=t.c/\t.c < s.c)/\(0<=t.i/\t.i < s.m)
 en:t.hit=true->(0<=t.ep/\t.ep < s.p)/\(0<=t.es/\t.es < zah t.ek)/\t.ek=t.k
 fd:t.found=true->t.hit=true/\t.done=true
theorem zl1 (s:Sh) (c k:Int):tkOk s (zg3 s c k):=by
 refine ⟨fun h=> ?_,fun h=> (by cases h),fun h=> (by cases h)⟩
 simp only [zg3,Bool.or_eq_false_iff,Bool.not_eq_false',Bool.and_eq_true,decide_eq_true_eq,beq_eq_false_iff_ne] at h ⊢
 obtain ⟨⟨h1,h2⟩,h3⟩:=h
 have h4:=zbe h1
 have h5:=zar.1 h4.1
 omega
theorem z1c {s:Sh} {t:Tk} (m:Mem) (h:tkOk s t):tkOk s (zd2 s t m).1:=by
 obtain ⟨h1,h2,h3⟩:=h
 unfold zd2
 dsimp only
 split
 ·exact ⟨h1,h2,h3⟩
 ·rename_i hd
  have hd:t.done=false:=by simpa using hd
  have hc:=h1 hd
  split
  ·rename_i hh
   exact ⟨fun e=> (by cases e),fun _=> h2 hh,fun _=> ⟨hh,rfl⟩⟩
  ·split
   ·rename_i hr
    have:=zsv hr.1
    exact ⟨fun _=> hc,fun _=> ⟨this.1,this.2,hr.2⟩,fun e=> by have:=(h3 e).2;rw [hd] at this;cases this⟩
   ·rename_i hh _
    refine ⟨fun e=> ?_,fun e=> absurd e hh,fun e=> absurd (h3 e).1 hh⟩
    have:¬ t.i + 1=s.m:=by simpa using e
    dsimp only
    omega
structure puOk (s:Sh) (t:Pu):Prop where
 cl:t.done=false->(0<=t.c/\t.c < s.c)/\(0<=t.i/\t.i < s.m)
theorem z4n (s:Sh) (c pg sl k:Int):puOk s (zg5 s c pg sl k):=by
 refine ⟨fun h=> ?_⟩
 simp only [zg5,Bool.or_eq_false_iff,Bool.not_eq_false',Bool.and_eq_true,decide_eq_true_eq,beq_eq_false_iff_ne] at h ⊢
 obtain ⟨⟨⟨⟨⟨h1,h2⟩,h6⟩,h7⟩,h8⟩,h3⟩:=h
 have h4:=zbe h1
 have h5:=zar.1 h4.1
 omega
theorem zq5 {s:Sh} {t:Pu} (m:Mem) (h:puOk s t):puOk s (zd3 s t m).1:=by
 obtain ⟨h1⟩:=h
 unfold zd3
 dsimp only
 split
 ·exact ⟨h1⟩
 ·rename_i hd
  have hd:t.done=false:=by simpa using hd
  have hc:=h1 hd
  split
  ·exact ⟨fun e=> (by cases e)⟩
  ·split
   ·exact ⟨fun _=> hc⟩
   ·refine ⟨fun e=> ?_⟩
    have:¬ t.i + 1=s.m:=by simpa using e
    dsimp only
    omega
structure scOk (s:Sh) (t:Sc):Prop where
 cl:t.done=false->(0<=t.c/\t.c < s.c)/\0 < zah t.k/\(0<=t.first/\t.first < s.p)/\(0<=t.many/\t.many < s.p)/\(0<=t.i/\t.i < zah t.k)/\(0<=t.next/\t.next<=2)
 fd:t.found=true->t.done=true/\(0<=t.first/\t.first < s.p)/\(0<=t.many/\t.many < s.p)/\(0<=t.i/\t.i < zah t.k)
theorem z4p (s:Sh) (c k f:Int):scOk s (ziq s c k f):=by
 refine ⟨fun h=> ?_,fun h=> (by cases h)⟩
 simp only [ziq,Bool.not_eq_false',Bool.and_eq_true,decide_eq_true_eq] at h ⊢
 obtain ⟨⟨h1,h2⟩,h3⟩:=h
 have h4:=zbe h1
 have h5:=zcs h3
 omega
theorem zrd {s:Sh} {t:Sc} (hf:t.found=false) (h:(0<=t.c/\t.c < s.c)/\0 < zah t.k/\(0<=t.first/\t.first < s.p)/\(0<=t.many/\t.many < s.p)):scOk s (t.turn s):=by
 refine ⟨fun e=> ?_,fun e=> ?_⟩
 ·have:¬ t.many + 1=s.p:=by simpa [Sc.turn] using e
  simp only [Sc.turn]
  omega
 ·simp only [Sc.turn] at e
  rw [hf] at e;cases e
theorem z0q {s:Sh} {t:Sc} (hf:t.found=false) (h:(0<=t.c/\t.c < s.c)/\0 < zah t.k/\(0<=t.first/\t.first < s.p)/\(0<=t.many/\t.many < s.p)/\(0<=t.i/\t.i < zah t.k)):scOk s (t.miss s):=by
 unfold Sc.miss
 split
 ·exact zrd hf ⟨h.1,h.2.1,h.2.2.1,h.2.2.2.1⟩
 ·refine ⟨fun _=> ?_,fun e=> ?_⟩
  ·dsimp only;omega
  ·dsimp only at e;rw [hf] at e;cases e
theorem zb7 {f d:Bool} {Q:Prop} (h:f=true->d=true/\Q) (hd:d=false):f=false:=by
 cases f
 ·rfl
 ·have:=(h rfl).1;rw [hd] at this;cases this
theorem z2k {s:Sh} {t:Sc} (m:Mem) (h:scOk s t):scOk s (zed s t m).1:=by
 have hcl:=h.cl
 unfold zed
 dsimp only
 split
 ·exact h
 ·rename_i hd
  have hd:t.done=false:=by simpa using hd
  have hc:=hcl hd
  have hf:t.found=false:=zb7 h.fd hd
  have hp:scOk s (t.turn s):=zrd hf ⟨hc.1,hc.2.1,hc.2.2.1,hc.2.2.2.1⟩
  have hm:scOk s (t.miss s):=z0q hf ⟨hc.1,hc.2.1,hc.2.2.1,hc.2.2.2.1,hc.2.2.2.2.1⟩
  split
  ·dsimp only
   split
   ·refine ⟨fun _=> ?_,fun e=> ?_⟩
    ·dsimp only;omega
    ·dsimp only at e;rw [hf] at e;cases e
   ·exact hp
  ·split
   ·dsimp only
    split
    ·refine ⟨fun _=> ?_,fun e=> ?_⟩
     ·dsimp only;omega
     ·dsimp only at e;rw [hf] at e;cases e
    ·exact hm
   ·dsimp only
    split
    ·exact ⟨fun e=> (by cases e),fun _=> ⟨rfl,hc.2.2.1,hc.2.2.2.1,hc.2.2.2.2.1⟩⟩
    ·exact hm
structure pcOk (s:Sh) (t:Pc):Prop where
 cl:t.done=false->(0<=t.c/\t.c < s.c)/\(0<=t.first/\t.first < s.p)/\(0<=t.many/\t.many < s.p)
 fd:t.found=true->t.done=true/\(0<=t.first/\t.first < s.p)/\(0<=t.many/\t.many < s.p)
theorem z5p (s:Sh) (c f:Int):pcOk s (zlu s c f):=by
 refine ⟨fun h=> ?_,fun h=> (by cases h)⟩
 simp only [zlu,Bool.or_eq_false_iff,decide_eq_false_iff_not] at h ⊢
 obtain ⟨h1,h3⟩:=h
 have h4:=zbe (by omega:0<=zae s.p s.c s.m c)
 have h5:=zcs (by omega:0<=zak s.p s.c s.m f)
 omega
theorem z3v {s:Sh} {t:Pc} (m:Mem) (h:pcOk s t):pcOk s (ze7 s t m).1:=by
 have hcl:=h.cl
 unfold ze7
 dsimp only
 split
 ·exact h
 ·rename_i hd
  have hd:t.done=false:=by simpa using hd
  have hc:=hcl hd
  have hf:t.found=false:=zb7 h.fd hd
  have hmiss:pcOk s { t with empty:=false,many:=t.many + 1,done:=decide (t.many + 1=s.p) }:=by
   refine ⟨fun e=> ?_,fun e=> ?_⟩
   ·have:¬ t.many + 1=s.p:=by simpa using e
    dsimp only;omega
   ·dsimp only at e;rw [hf] at e;cases e
  split
  ·dsimp only
   split
   ·refine ⟨fun _=> hc,fun e=> ?_⟩
    dsimp only at e;rw [hf] at e;cases e
   ·exact hmiss
  ·dsimp only
   split
   ·exact ⟨fun e=> (by cases e),fun _=> ⟨rfl,hc.2⟩⟩
   ·exact hmiss
structure spOk (s:Sh) (t:Sp):Prop where
 cl:t.done=false->(0<=t.c/\t.c < s.c)/\(0<=t.page/\t.page < s.p)/\0 < zah t.k/\(0<=t.i/\t.i<=zah t.k)/\(t.back=true->0 < t.i)
 fd:t.held=true->t.done=true
theorem zwx (s:Sh) (c pg k:Int):spOk s (zfa s c pg k):=by
 refine ⟨fun h=> ?_,fun h=> (by cases h)⟩
 simp only [zfa,Bool.not_eq_false',Bool.and_eq_true,decide_eq_true_eq] at h ⊢
 obtain ⟨⟨h1,h2⟩,h3⟩:=h
 have h4:=zbe h1
 have h5:=zcs h2
 refine ⟨by omega,by omega,by omega,by omega,fun e=> (by cases e)⟩
theorem znr {s:Sh} {t:Sp} (m:Mem) (h:spOk s t):spOk s (zdu s t m).1:=by
 have hcl:=h.cl
 unfold zdu
 split
 ·exact h
 ·rename_i hd
  have hd:t.done=false:=by simpa using hd
  have hc:=hcl hd
  have hf:t.held=false:=by
   rcases Bool.eq_false_or_eq_true t.held with e | e
   ·have:=h.fd e;rw [hd] at this;cases this
   ·exact e
  split
  ·rename_i hb
   refine ⟨fun e=> ?_,fun e=> ?_⟩
   ·have:¬ t.i - 1=0:=by simpa using e
    have:=hc.2.2.2.2 hb
    refine ⟨hc.1,hc.2.1,hc.2.2.1,by dsimp only;omega,fun _=> by dsimp only;omega⟩
   ·dsimp only at e;rw [hf] at e;cases e
  ·rename_i hb
   split
   ·exact ⟨fun e=> (by cases e),fun _=> rfl⟩
   ·rename_i hi
    dsimp only
    split
    ·refine ⟨fun _=> ⟨hc.1,hc.2.1,hc.2.2.1,by dsimp only;omega,fun e=> absurd e hb⟩,fun e=> ?_⟩
     dsimp only at e;rw [hf] at e;cases e
    ·refine ⟨fun e=> ?_,fun e=> ?_⟩
     ·have:¬ t.i=0:=by simpa using e
      exact ⟨hc.1,hc.2.1,hc.2.2.1,hc.2.2.2.1,fun _=> by dsimp only;omega⟩
     ·dsimp only at e;rw [hf] at e;cases e
structure bnOk (s:Sh) (t:Bn):Prop where
 cl:t.done=false->(0<=t.c/\t.c < s.c)/\(0<=t.page/\t.page < s.p)/\0 < zah t.k/\(0<=t.i/\t.i<=16)/\(t.bound=true->0 < t.i/\t.i < zah t.k)
theorem z7r (s:Sh) (c pg k:Int):bnOk s (zfi s c pg k):=by
 refine ⟨fun h=> ?_⟩
 simp only [zfi,Bool.not_eq_false',Bool.and_eq_true,decide_eq_true_eq] at h ⊢
 obtain ⟨⟨h1,h2⟩,h3⟩:=h
 have h4:=zbe h1
 have h5:=zcs h2
 refine ⟨by omega,by omega,by omega,by omega,fun e=> (by cases e)⟩
theorem z3k {s:Sh} {t:Bn} (m:Mem) (h:bnOk s t):bnOk s (ze6 s t m).1:=by
 have hcl:=h.cl
 unfold ze6
 split
 ·exact h
 ·rename_i hd
  have hd:t.done=false:=by simpa using hd
  have hc:=hcl hd
  split
  ·rename_i hb
   refine ⟨fun e=> ?_⟩
   have:¬ t.i - 1=0:=by simpa using e
   have:=hc.2.2.2.2 hb
   refine ⟨hc.1,hc.2.1,hc.2.2.1,by dsimp only;omega,fun _=> by dsimp only;omega⟩
  ·rename_i hb
   split
   ·refine ⟨fun _=> ⟨hc.1,hc.2.1,hc.2.2.1,?_,fun _=> ?_⟩⟩ <;> have:=zdg hc.2.2.1 <;> dsimp only <;> omega
   ·exact ⟨fun _=> ⟨hc.1,hc.2.1,hc.2.2.1,by dsimp only;omega,fun e=> absurd e hb⟩⟩
def mcOk (s:Sh):Mc->Prop
 | .tk t=> tkOk s t
 | .sc t=> scOk s t
 | .pc t=> pcOk s t
 | .sp t=> spOk s t
 | .bn t=> bnOk s t
theorem zjq {s:Sh} {x:Mc} (m:Mem) (h:mcOk s x):mcOk s (zbr s x m).1:=by
 cases x with
 | tk t=> exact z1c m h
 | sc t=> exact z2k m h
 | pc t=> exact z3v m h
 | sp t=> exact znr m h
 | bn t=> exact z3k m h
def zxi (s:Sh) (t:Sk):Mc->Prop
 | .tk x=> x.k=t.k
 | .sc x=> x.k=t.k
 | .pc _=> True
 | .sp _=> True
 | .bn _=> 0<=t.page/\t.page < s.p
theorem z4s (s:Sh) (t:Tk) (m:Mem):(zd2 s t m).1.k=t.k:=by unfold zd2;dsimp only;split <;> (try split) <;> (try split) <;> rfl
theorem z6f (s:Sh) (t:Sc) (m:Mem):(zed s t m).1.k=t.k:=by
 have h1:(t.miss s).k=t.k:=by unfold Sc.miss;split <;> rfl
 unfold zed;dsimp only
 split
 ·rfl
 ·split
  ·dsimp only;split <;> rfl
  ·split
   ·dsimp only;split <;> first | rfl | exact h1
   ·dsimp only;split <;> first | rfl | exact h1
theorem zg1 {s:Sh} {t:Sk} {x:Mc} (m:Mem) (h:zxi s t x):zxi s t (zbr s x m).1:=by
 cases x with
 | tk y=> exact (z4s s y m).trans h
 | sc y=> exact (z6f s y m).trans h
 | pc y=> trivial
 | sp y=> trivial
 | bn y=> exact h
structure skOk (s:Sh) (t:Sk):Prop where
 cl:t.done=false->(0<=t.c/\t.c < s.c)/\0 < zah t.k/\(0<=t.first/\t.first < s.p)/\(0<=t.many/\t.many < s.p)/\(∀ x,t.now=some x->mcOk s x/\zxi s t x)
 fd:t.found=true->t.done=true/\(0<=t.page/\t.page < s.p)/\(0<=t.slot/\t.slot < zah t.k)
theorem zqd {s:Sh} {t:Sk} {pg sl:Int} (h1:0<=pg/\pg < s.p) (h2:0<=sl/\sl < zah t.k):skOk s (t.fin pg sl):=⟨fun e=> (by cases e),fun _=> ⟨rfl,h1,h2⟩⟩
theorem zrr {s:Sh} {t:Sk} {pg:Int} (h:skOk s t) (hd:t.done=false) (h1:0<=pg/\pg < s.p):skOk s (t.bind s pg):=by
 obtain ⟨c1,c2,c3,c4,c5⟩:=h.cl hd
 refine ⟨fun _=> ⟨c1,c2,c3,c4,fun x hx=> ?_⟩,fun e=> ?_⟩
 ·simp only [Sk.bind,Option.some.injEq] at hx
  subst hx
  exact ⟨z7r _ _ _ _,h1⟩
 ·have:=zb7 h.fd hd
  simp only [Sk.bind] at e
  rw [this] at e;cases e
theorem zsb {s:Sh} {t:Sk} (h:skOk s t) (hd:t.done=false):skOk s (t.turn s):=by
 obtain ⟨c1,c2,c3,c4,c5⟩:=h.cl hd
 refine ⟨fun e=> ⟨c1,c2,c3,?_,fun x hx=> (by cases hx)⟩,fun e=> ?_⟩
 ·have:¬ t.many + 1=s.p:=by simpa [Sk.turn] using e
  simp only [Sk.turn];omega
 ·have:=zb7 h.fd hd
  simp only [Sk.turn] at e
  rw [this] at e;cases e
theorem Sk.zt4 {s:Sh} (t:Sk) (h:1<=s.p):0<=t.here s/\t.here s < s.p:=⟨Int.emod_nonneg _ (by omega),Int.emod_lt_of_pos _ (by omega)⟩
theorem zid {s:Sh} {t:Sk} {x:Mc} (h:skOk s t) (hd:t.done=false) (hx:t.now=some x) (hxd:x.done=true) (hp:1<=s.p):skOk s (t.after s x):=by
 obtain ⟨c1,c2,c3,c4,c5⟩:=h.cl hd
 obtain ⟨ho,hm⟩:=c5 x hx
 have hf:=zb7 h.fd hd
 have nx:∀ y,mcOk s y->zxi s t y->skOk s { t with now:=some y }:=fun y hy1 hy2=> ⟨fun _=> ⟨c1,c2,c3,c4,fun z hz=> by simp only [Option.some.injEq] at hz;subst hz;exact ⟨hy1,hy2⟩⟩,fun e=> (by have e:t.found=true:=e;rw [hf] at e;cases e)⟩
 cases x with
 | tk y=>
  simp only [Sk.after]
  split
  ·rename_i hyf
   obtain ⟨e1,e2,e3⟩:=ho.en (ho.fd hyf).1
   have hk:y.k=t.k:=hm
   exact zqd e1 (by rw [<- hk,<- e3];exact e2)
  ·exact nx (.sc _) (z4p _ _ _ _) rfl
 | sc y=>
  simp only [Sk.after]
  split
  ·rename_i hyf
   obtain ⟨_,e1,e2,e3⟩:=ho.fd hyf
   have hk:y.k=t.k:=hm
   exact zqd ⟨Int.emod_nonneg _ (by omega),Int.emod_lt_of_pos _ (by omega)⟩ (by rw [<- hk];exact e3)
  ·exact nx (.pc _) (z5p _ _ _) trivial
 | pc y=>
  simp only [Sk.after]
  split
  ·exact zrr h hd ⟨Int.emod_nonneg _ (by omega),Int.emod_lt_of_pos _ (by omega)⟩
  ·exact ⟨fun _=> ⟨c1,c2,c3,c4,fun z hz=> (by cases hz)⟩,fun e=> (by have e:t.found=true:=e;rw [hf] at e;cases e)⟩
 | sp y=>
  simp only [Sk.after]
  split
  ·exact zrr h hd (t.zt4 hp)
  ·exact zsb h hd
 | bn y=>
  simp only [Sk.after]
  exact zqd hm (by omega)
theorem znn {s:Sh} (hp:1<=s.p) (n:Nat):∀ {t:Sk},skOk s t->skOk s (za5 s n t):=by
 induction n with
 | zero=> intro t h;exact h
 | succ n ih=>
  intro t h
  unfold za5
  split
  ·rename_i x hx
   split
   ·rename_i hc
    exact ih (zid h hc.1 hx hc.2 hp)
   ·exact h
  ·exact h
theorem zwd (s:Sh) (c k f:Int):skOk s (zhb s c k f):=by
 unfold zhb
 split
 ·rename_i h
  have h1:=zbe h.1
  have h2:=zar.1 h1.1
  have h3:=zcs h.2.2
  refine znn h2.1 5 ⟨fun _=> ⟨by dsimp only;omega,h.2.1,by dsimp only;omega,by dsimp only;omega,fun x hx=> ?_⟩,fun e=> (by cases e)⟩
  simp only [Option.some.injEq] at hx
  subst hx
  exact ⟨zl1 _ _ _,rfl⟩
 ·exact ⟨fun e=> (by cases e),fun e=> (by cases e)⟩
theorem z2o {s:Sh} {t:Sk} (m:Mem) (hp:1<=s.p) (h:skOk s t):skOk s (zbv s t m).1:=by
 unfold zbv
 split
 ·exact h
 ·rename_i hd
  have hd:t.done=false:=by simpa using hd
  obtain ⟨c1,c2,c3,c4,c5⟩:=h.cl hd
  have hf:=zb7 h.fd hd
  split
  ·rename_i x hx
   obtain ⟨ho,hm⟩:=c5 x hx
   show skOk s (za5 s 5 { t with now:=some (zbr s x m).1 })
   refine znn hp 5 ⟨fun _=> ⟨c1,c2,c3,c4,fun z hz=> ?_⟩,fun e=> (by have e:t.found=true:=e;rw [hf] at e;cases e)⟩
   simp only [Option.some.injEq] at hz
   subst hz
   exact ⟨zjq m ho,zg1 (t:=t) m hm⟩
  ·dsimp only
   split
   ·refine ⟨fun _=> ⟨c1,c2,c3,c4,fun z hz=> ?_⟩,fun e=> (by have e:t.found=true:=e;rw [hf] at e;cases e)⟩
    simp only [Option.some.injEq] at hz
    subst hz
    exact ⟨zwx _ _ _ _,trivial⟩
   ·exact zsb h hd
def zdj (t:Sk):Nat:=if t.done=true then 0 else match t.now with
 | none=> 0
 | some (.tk _)=> 4
 | some (.sc _)=> 3
 | some (.pc _)=> 2
 | some (.sp _)=> 2
 | some (.bn _)=> 1
theorem ze1 {s:Sh} {t:Sk} {x:Mc} (hd:t.done=false) (hx:t.now=some x):zdj (t.after s x) < zdj t:=by
 have h0:zdj t=match (some x:Option Mc) with | none=> 0 | some (.tk _)=> 4 | some (.sc _)=> 3 | some (.pc _)=> 2 | some (.sp _)=> 2 | some (.bn _)=> 1:=by
  unfold zdj;rw [if_neg (by rw [hd];decide),hx]
 rw [h0]
 have hturn:zdj (t.turn s)=0:=by unfold zdj Sk.turn;dsimp only;split <;> rfl
 have hfin:∀ a b,zdj (t.fin a b)=0:=fun _ _=> by unfold zdj Sk.fin;rw [if_pos rfl]
 have hnow:∀ y,zdj { t with now:=some y }=match (some y:Option Mc) with | none=> 0 | some (.tk _)=> 4 | some (.sc _)=> 3 | some (.pc _)=> 2 | some (.sp _)=> 2 | some (.bn _)=> 1:=fun y=> by unfold zdj;rw [if_neg (by dsimp only;rw [hd];decide)]
 have hbind:∀ a,zdj (t.bind s a)=1:=fun a=> by unfold zdj Sk.bind;rw [if_neg (by dsimp only;rw [hd];decide)]
 have hnone:zdj { t with now:=none }=0:=by unfold zdj;rw [if_neg (by dsimp only;rw [hd];decide)]
 cases x <;> simp only [Sk.after] <;> (try split) <;> simp only [hturn,hfin,hnow,hbind,hnone] <;> decide
theorem zp9 {s:Sh} (n:Nat):∀ (t:Sk),zdj t<=n->za5 s (n + 1) t=za5 s n t:=by
 induction n with
 | zero=>
  intro t h
  conv=> lhs;unfold za5
  conv=> rhs;unfold za5
  split
  ·rename_i x hx
   rw [if_neg]
   intro hc
   have:=ze1 (s:=s) hc.1 hx
   omega
  ·rfl
 | succ n ih=>
  intro t h
  conv=> lhs;unfold za5
  conv=> rhs;unfold za5
  split
  ·rename_i x hx
   split
   ·rename_i hc
    have:=ze1 (s:=s) hc.1 hx
    exact ih (t.after s x) (by omega)
   ·rfl
  ·rfl
theorem zpr {s:Sh} {t:Sk} {n:Nat} (h:zdj t<=n) (k:Nat):za5 s (n + k) t=za5 s n t:=by
 induction k with
 | zero=> rfl
 | succ k ih=> rw [<- ih];exact zp9 (n + k) t (by omega)
theorem zrw (t:Sk):zdj t<=4:=by unfold zdj;split <;> (try split) <;> omega
theorem zgs {s:Sh} {t:Sk} (h:t.done=true\/t.now=none\/∃ x,t.now=some x/\x.done=false) (n:Nat):za5 s n t=t:=by
 cases n with
 | zero=> rfl
 | succ n=>
  unfold za5
  split
  ·rename_i x hx
   rw [if_neg]
   rintro ⟨h1,h2⟩
   rcases h with h | h | ⟨y,h,h3⟩
   ·rw [h1] at h;cases h
   ·rw [hx] at h;cases h
   ·rw [hx] at h;obtain rfl:=Option.some.inj h;rw [h2] at h3;cases h3
  ·rfl
theorem zm5 {s:Sh} {t:Sk} {x:Mc} (hd:t.done=false) (hx:t.now=some x) (hxd:x.done=true):za5 s 5 t=za5 s 5 (t.after s x):=by
 have h1:=ze1 (s:=s) hd hx
 have h2:=zrw t
 rw [zpr (n:=4) (t:=t.after s x) (by omega) 1]
 show za5 s (4 + 1) t=_
 conv=> lhs;unfold za5
 rw [hx]
 dsimp only
 rw [if_pos ⟨hd,hxd⟩]
structure rnOk (s:Sh) (t:Rn):Prop where
 cl:t.done=false->(0<=t.c/\t.c < s.c)/\(1<=t.pages/\t.pages<=8)/\(0<=t.head/\t.head + t.pages<=s.p)/\(t.head<=t.at'/\t.at'<=t.head + t.pages)/\(0<=t.next/\t.next<=5)/\
  (t.next≠5->t.at' < t.head + t.pages)/\(t.next=2->∃ x,t.strip=some x/\spOk s x/\x.done=false)/\(t.next=3->0<=t.i/\t.i < 16)/\(t.next=4->t.head < t.i/\t.i<=t.at')/\(t.next=5->t.head < t.i/\t.i < t.head + t.pages)
 fd:t.found=true->t.done=true/\(1<=t.pages/\t.pages<=8)/\(0<=t.head/\t.head + t.pages<=s.p)
theorem zwt (s:Sh) (c n:Int):rnOk s (zf8 s c n):=by
 refine ⟨fun h=> ?_,fun h=> (by cases h)⟩
 simp only [zf8,Bool.not_eq_false',Bool.and_eq_true,decide_eq_true_eq] at h ⊢
 obtain ⟨⟨⟨h1,h2⟩,h3⟩,h5⟩:=h
 have h4:=zbe h1
 refine ⟨by omega,by omega,by omega,by omega,by omega,fun _=> by omega,fun e=> (by cases e),fun e=> (by cases e),fun e=> (by cases e),fun e=> (by cases e)⟩
theorem zld {s:Sh} {t:Rn} (hf:t.found=false) (h1:0<=t.c/\t.c < s.c) (h2:1<=t.pages/\t.pages<=8) (h3:0<=t.head/\t.head + t.pages<=s.p) (h4:t.head<=t.at'/\t.at'<=t.head + t.pages) (h5:t.next=5) (h6:t.head<=t.i/\t.i < t.head + t.pages):rnOk s t.written:=by
 unfold Rn.written
 split
 ·exact ⟨fun e=> (by cases e),fun _=> ⟨rfl,h2,h3⟩⟩
 ·refine ⟨fun _=> ⟨h1,h2,h3,h4,by dsimp only;omega,fun e=> ?_,fun e=> ?_,fun e=> ?_,fun e=> ?_,fun _=> ?_⟩,fun e=> ?_⟩
  ·dsimp only at e;omega
  ·dsimp only at e;omega
  ·dsimp only at e;omega
  ·dsimp only at e;omega
  ·dsimp only;omega
  ·dsimp only at e;rw [hf] at e;cases e
theorem zxd {s:Sh} {t:Rn} (hf:t.found=false) (h1:0<=t.c/\t.c < s.c) (h2:1<=t.pages/\t.pages<=8) (h3:0<=t.head/\t.head + t.pages<=s.p) (h4:t.head<=t.at'/\t.at' < t.head + t.pages):rnOk s t.own:=by
 unfold Rn.own
 split
 ·exact zld hf h1 h2 h3 (by dsimp only;omega) rfl (by dsimp only;omega)
 ·refine ⟨fun _=> ⟨h1,h2,h3,by dsimp only;omega,by dsimp only;omega,fun _=> by dsimp only;omega,fun e=> (by cases e),fun e=> (by cases e),fun e=> (by cases e),fun e=> (by cases e)⟩,fun e=> ?_⟩
  dsimp only at e;rw [hf] at e;cases e
theorem zrn {s:Sh} {t:Rn} (hf:t.found=false) (hd:t.done=false) (h1:0<=t.c/\t.c < s.c) (h2:1<=t.pages/\t.pages<=8) (h3:0<=t.head/\t.head + t.pages<=s.p) (h4:t.head<=t.at'/\t.at' < t.head + t.pages) (h5:t.next=4) (h6:t.i<=t.at'):rnOk s (t.gone s):=by
 unfold Rn.gone
 split
 ·refine ⟨fun _=> ⟨h1,h2,h3,by omega,by omega,fun _=> h4.2,fun e=> by omega,fun e=> by omega,fun _=> by omega,fun e=> by omega⟩,fun e=> ?_⟩
  rw [hf] at e;cases e
 ·refine ⟨fun e=> ?_,fun e=> ?_⟩
  ·have:¬ s.p - t.pages < t.at' + 1:=by simpa using e
   exact ⟨h1,h2,by dsimp only;omega,by dsimp only;omega,by dsimp only;omega,fun _=> by dsimp only;omega,fun e=> (by cases e),fun e=> (by cases e),fun e=> (by cases e),fun e=> (by cases e)⟩
  ·dsimp only at e;rw [hf] at e;cases e
theorem zmm {s:Sh} {t:Rn} (hf:t.found=false) (hd:t.done=false) (h1:0<=t.c/\t.c < s.c) (h2:1<=t.pages/\t.pages<=8) (h3:0<=t.head/\t.head + t.pages<=s.p) (h4:t.head<=t.at'/\t.at' < t.head + t.pages):rnOk s (t.miss s):=
 zrn hf hd h1 h2 h3 h4 rfl (Int.le_refl _)
theorem z0v {s:Sh} {t:Rn} (m:Mem) (h:rnOk s t):rnOk s (zcr s t m).1:=by
 unfold zcr
 dsimp only
 split
 ·exact h
 ·rename_i hd
  have hd:t.done=false:=by simpa using hd
  obtain ⟨c1,c2,c3,c4,c5,c6,c7,c8,c9,c10⟩:=h.cl hd
  have hf:=zb7 h.fd hd
  by_cases n0:t.next=0
  ·have c6:=c6 (by omega)
   rw [if_pos n0]
   dsimp only
   split
   ·refine ⟨fun _=> ⟨c1,c2,c3,c4,by dsimp only;omega,fun _=> c6,fun e=> (by cases e),fun e=> (by cases e),fun e=> (by cases e),fun e=> (by cases e)⟩,fun e=> ?_⟩
    dsimp only at e;rw [hf] at e;cases e
   ·split
    ·rename_i hr
     refine ⟨fun _=> ⟨c1,c2,c3,c4,by dsimp only;omega,fun _=> c6,fun _=> ⟨_,rfl,zwx _ _ _ _,?_⟩,fun e=> (by cases e),fun e=> (by cases e),fun e=> (by cases e)⟩,fun e=> ?_⟩
     ·have h1:=(zea.1 hr.1).2.1
      have h2:=zcs h1
      have h3:=(zdq hr.1 hr.2).2.2
      have h4:0<=zae s.p s.c s.m t.c:=by
       unfold zae
       rw [if_pos ⟨h2.1,zbc.2 (by omega)⟩]
       exact c1.1
      simp [zfa,h1,h3,h4]
     ·dsimp only at e;rw [hf] at e;cases e
    ·exact zmm hf hd c1 c2 c3 (by omega)
  rw [if_neg n0]
  by_cases n1:t.next=1
  ·have c6:=c6 (by omega)
   rw [if_pos n1]
   dsimp only
   split
   ·exact zxd hf c1 c2 c3 (by omega)
   ·exact zmm hf hd c1 c2 c3 (by omega)
  rw [if_neg n1]
  by_cases n2:t.next=2
  ·have c6:=c6 (by omega)
   obtain ⟨x,hx,hxo,hxd⟩:=c7 n2
   rw [if_pos n2,hx]
   dsimp only
   split
   ·refine ⟨fun _=> ⟨c1,c2,c3,c4,by dsimp only;omega,fun _=> c6,fun e=> (by cases e),fun _=> by dsimp only;omega,fun e=> (by cases e),fun e=> (by cases e)⟩,fun e=> ?_⟩
    dsimp only at e;rw [hf] at e;cases e
   ·split
    ·exact zmm hf hd c1 c2 c3 (by dsimp only;omega)
    ·rename_i hnd
     refine ⟨fun _=> ⟨c1,c2,c3,c4,c5,fun _=> c6,fun _=> ⟨_,rfl,znr m hxo,by simpa using hnd⟩,fun e=> ?_,fun e=> ?_,fun e=> ?_⟩,fun e=> ?_⟩
     ·exact c8 e
     ·exact c9 e
     ·exact c10 e
     ·dsimp only at e;rw [hf] at e;cases e
  rw [if_neg n2]
  by_cases n3:t.next=3
  ·have c6:=c6 (by omega)
   have c8:=c8 n3
   rw [if_pos n3]
   dsimp only
   split
   ·exact zxd hf c1 c2 c3 (by dsimp only;omega)
   ·refine ⟨fun _=> ⟨c1,c2,c3,c4,c5,fun _=> c6,fun e=> absurd e n2,fun _=> by dsimp only;omega,fun e=> by dsimp only at e;omega,fun e=> by dsimp only at e;omega⟩,fun e=> ?_⟩
    dsimp only at e;rw [hf] at e;cases e
  rw [if_neg n3]
  by_cases n4:t.next=4
  ·have c6:=c6 (by omega)
   have c9:=c9 n4
   rw [if_pos n4]
   exact zrn hf hd c1 c2 c3 (by dsimp only;omega) n4 (by dsimp only;omega)
  rw [if_neg n4]
  have n5:t.next=5:=by omega
  have c10:=c10 n5
  exact zld hf c1 c2 c3 c4 n5 (by omega)
theorem zdi {s:Sh} {c:Int} {b:Blk}:b.fits s c=true↔mayB s.p s.c s.m=true/\(0<=c/\c < s.c)/\(0<=b.page/\b.page < s.p)/\(b.large=true->1<=b.pages/\b.pages<=8/\b.pages<=s.p - b.page)/\(b.large=false->0<=b.slot/\b.slot < zah b.k):=by
 unfold Blk.fits
 by_cases h1:zae s.p s.c s.m c < 0
 ·rw [if_pos (.inl h1)]
  refine ⟨fun e=> (by cases e),fun h=> ?_⟩
  have:zae s.p s.c s.m c=c:=by unfold zae;rw [if_pos ⟨h.1,zbc.2 (by omega)⟩]
  omega
 ·by_cases h2:zak s.p s.c s.m b.page < 0
  ·rw [if_pos (.inr h2)]
   refine ⟨fun e=> (by cases e),fun h=> ?_⟩
   have h3:=zar.1 h.1
   have:zak s.p s.c s.m b.page=s.c + b.page:=by unfold zak;rw [if_pos ⟨h.1,zbc.2 (by omega)⟩]
   omega
  ·rw [if_neg (by omega)]
   have h3:=zbe (by omega:0<=zae s.p s.c s.m c)
   have h4:=zcs (by omega:0<=zak s.p s.c s.m b.page)
   cases hl:b.large
   ·simp only [Bool.false_eq_true,if_false,Bool.and_eq_true,decide_eq_true_eq]
    exact ⟨fun h=> ⟨h3.1,h3.2,h4.2,fun e=> (by cases e),fun _=> h⟩,fun h=> h.2.2.2.2 (by simp)⟩
   ·simp only [if_true,Bool.and_eq_true,decide_eq_true_eq]
    exact ⟨fun h=> ⟨h3.1,h3.2,h4.2,fun _=> ⟨h.1.1,h.1.2,h.2⟩,fun e=> (by cases e)⟩,fun h=> by have:=h.2.2.2.1 (by simp);exact ⟨⟨this.1,this.2.1⟩,this.2.2⟩⟩
def cmOk (s:Sh) (t:Cm):Prop:=t.done=false->t.b.fits s t.c=true
theorem zpt (s:Sh) (c:Int) (b:Blk):cmOk s (zc4 s c b):=fun h=> by simpa [zc4] using h
structure unOk (s:Sh) (t:Un):Prop where
 cl:t.done=false->t.b.fits s t.c=true/\(t.b.large=true->0<=t.i/\t.i < t.b.pages)
theorem z8l (s:Sh) (c:Int) (b:Blk):unOk s (zf1 s c b):=by
 refine ⟨fun h=> ?_⟩
 have h:b.fits s c=true:=by simpa [zf1] using h
 refine ⟨h,fun hl=> ?_⟩
 have:=(zdi.1 h).2.2.2.1 hl
 simp only [zf1];omega
theorem z0o {s:Sh} {t:Un} (m:Mem) (h:unOk s t):unOk s (zcf s t m).1:=by
 unfold zcf
 split
 ·exact h
 ·rename_i hd
  obtain ⟨h1,h2⟩:=h.cl (by simpa using hd)
  split
  ·exact ⟨fun e=> (by cases e)⟩
  ·rename_i hl
   have hl:t.b.large=true:=by simpa using hl
   have h3:=h2 hl
   split
   ·exact ⟨fun e=> (by cases e)⟩
   ·exact ⟨fun _=> ⟨h1,fun _=> by dsimp only;omega⟩⟩
structure feOk (s:Sh) (t:Fe):Prop where
 cl:t.done=false->(0<=t.c/\t.c < s.c)/\(0<=t.page/\t.page < s.p)/\spB s t.a=true/\(0<=t.next/\t.next<=4)/\(t.next<=1->t.i=0)/\
  (1<=t.next->(t.pk=3/\1<=t.pa/\t.pa<=8/\t.pa<=s.p - t.page)\/(t.pk=2/\0 < zah t.pa/\(0<=t.slot/\t.slot < zah t.pa)))/\
  (t.next=1->0<=t.word/\t.word < 18446744073709551616)/\(t.next=2->t.pk=2/\∃ x,t.put=some x/\puOk s x/\x.done=false)/\(t.next=3->t.pk=2)/\(t.next=4->t.pk=3/\0<=t.i/\t.i < t.pa)
theorem z05 {s:Sh} {a:Int}:spB s a=true↔mayB s.p s.c s.m=true/\0<=a/\a < s.p * 64:=by
 unfold spB;simp only [Bool.and_eq_true,zbc]
 exact ⟨fun h=> ⟨h.1,h.2.1,by omega⟩,fun h=> ⟨h.1,h.2.1,by omega⟩⟩
theorem zwa (s:Sh) (c a:Int):feOk s (zc2 s c a):=by
 refine ⟨fun h=> ?_⟩
 simp only [zc2,Bool.or_eq_false_iff,Bool.not_eq_false',decide_eq_false_iff_not] at h ⊢
 obtain ⟨h1,h2⟩:=h
 have h3:=z05.1 h1
 have h4:=zbe (by omega:0<=zae s.p s.c s.m c)
 rw [if_pos h1]
 exact ⟨h4.2,by omega,h1,by omega,(fun _=> by first | rfl | trivial),fun e=> by omega,fun e=> by omega,fun e=> by omega,fun e=> by omega,fun e=> by omega⟩
theorem zcv (t:Fe) (x:Pu) (hx:t.put=some x):(x.put=true/\t.kept= { t with done:=true })\/(x.put=false/\x.done=true/\t.kept= { t with next:=3 })\/(x.put=false/\x.done=false/\t.kept=t):=by
 unfold Fe.kept
 rw [hx]
 dsimp only
 cases h1:x.put
 ·cases h2:x.done
  ·exact .inr (.inr ⟨rfl,rfl,by simp⟩)
  ·exact .inr (.inl ⟨rfl,rfl,by simp⟩)
 ·exact .inl ⟨rfl,by simp⟩
theorem zwy {off k:Int} (h:0<=off/\off < 64) (hk:0 < zah k):0 < zbj k/\0<=off / zbj k/\off / zbj k < zah k:=by
 have h1:=zb4 hk
 have:k=0\/k=1\/k=2\/k=3:=by omega
 rcases this with rfl | rfl | rfl | rfl
 ·rw [show zbj 0=4 from rfl,show zah 0=16 from rfl];omega
 ·rw [show zbj 1=8 from rfl,show zah 1=8 from rfl];omega
 ·rw [show zbj 2=16 from rfl,show zah 2=4 from rfl];omega
 ·rw [show zbj 3=32 from rfl,show zah 3=2 from rfl];omega
theorem z1a {s:Sh} {t:Fe} (m:Mem) (hm:m.fit) (h:feOk s t):feOk s (zca s t m).1:=by
 unfold zca
 split
 ·exact h
 ·rename_i hd
  have hd:t.done=false:=by simpa using hd
  obtain ⟨c1,c2,c3,c4,c5,c6,c7,c8,c9,c10⟩:=h.cl hd
  by_cases n0:t.next=0
  ·rw [if_pos n0]
   unfold Fe.look
   dsimp only
   have hoff:0<=t.a % 64/\t.a % 64 < 64:=by omega
   split
   ·rename_i hb
    have h3:=zn1 hb.1 hb.2.1
    refine ⟨fun _=> ⟨c1,c2,c3,by dsimp only;omega,fun _=> c5 (by omega),fun _=> .inl ?_,fun _=> Mem.ze4 hm _,fun e=> by dsimp only at e;omega,fun e=> by dsimp only at e;omega,fun e=> by dsimp only at e;omega⟩⟩
    dsimp only
    rw [if_pos hb.1,if_pos hb.1]
    exact ⟨hb.2.1,h3⟩
   ·split
    ·rename_i hb
     have h3:=(zdq hb.1 hb.2.1).2.2
     refine ⟨fun _=> ⟨c1,c2,c3,by dsimp only;omega,fun _=> c5 (by omega),fun _=> .inr ?_,fun _=> Mem.ze4 hm _,fun e=> by dsimp only at e;omega,fun e=> by dsimp only at e;omega,fun e=> by dsimp only at e;omega⟩⟩
     dsimp only
     rw [if_pos hb.1,if_pos hb.1]
     exact ⟨hb.2.1,h3,(zwy hoff h3).2⟩
    ·exact ⟨fun e=> (by cases e)⟩
  rw [if_neg n0]
  by_cases n1:t.next=1
  ·rw [if_pos n1]
   have c6:=c6 (by omega)
   have c5:=c5 (by omega)
   unfold Fe.claim
   split
   ·rename_i hk
    have c6:1<=t.pa/\t.pa<=8/\t.pa<=s.p - t.page:=by rcases c6 with h | h <;> omega
    refine ⟨fun _=> ⟨c1,c2,c3,by dsimp only;omega,fun e=> by dsimp only at e;omega,fun _=> .inl ⟨hk,c6⟩,fun e=> by dsimp only at e;omega,fun e=> by dsimp only at e;omega,fun e=> by dsimp only at e;omega,fun _=> ⟨hk,by dsimp only;omega,by dsimp only;omega⟩⟩⟩
   ·rename_i hk
    have c6:t.pk=2/\0 < zah t.pa/\(0<=t.slot/\t.slot < zah t.pa):=by rcases c6 with h | h;exact absurd h.1 hk;exact h
    dsimp only
    have three:∀ (u:Fe),u.c=t.c->u.page=t.page->u.a=t.a->u.next=3->u.pk=t.pk->u.pa=t.pa->u.slot=t.slot->feOk s u:=fun u e1 e2 e3 e4 e5 e6 e7=> by
     refine ⟨fun _=> ⟨by rw [e1];exact c1,by rw [e2];exact c2,by rw [e3];exact c3,by omega,fun e=> by omega,fun _=> .inr ?_,fun e=> by omega,fun e=> by omega,fun _=> by rw [e5];exact c6.1,fun e=> by omega⟩⟩
     rw [e5,e6,e7];exact c6
    split
    ·rcases zcv ({ t with gave:=decide (m.get (zbk s.p s.c s.m t.page t.slot)=zfl t.pa),next:=2,put:=some (zg5 s t.c t.page t.slot t.pa) }:Fe) _ rfl with ⟨h1,_⟩ | ⟨h1,h2,h3⟩ | ⟨h1,h2,h3⟩
     ·simp [zg5] at h1
     ·rw [h3]
      exact three _ rfl rfl rfl rfl rfl rfl rfl
     ·rw [h3]
      exact ⟨fun _=> ⟨c1,c2,c3,by dsimp only;omega,fun e=> by dsimp only at e;omega,fun _=> .inr c6,fun e=> by dsimp only at e;omega,fun _=> ⟨c6.1,_,rfl,z4n _ _ _ _ _,h2⟩,fun e=> by dsimp only at e;omega,fun e=> by dsimp only at e;omega⟩⟩
    ·exact three _ rfl rfl rfl rfl rfl rfl rfl
  rw [if_neg n1]
  by_cases n2:t.next=2
  ·rw [if_pos n2]
   have c6:=c6 (by omega)
   obtain ⟨hk,x,hx,hxo,hxd⟩:=c8 n2
   rw [hx]
   dsimp only
   rcases zcv ({ t with put:=some (zd3 s x m).1 }:Fe) _ rfl with ⟨h1,h3⟩ | ⟨h1,h2,h3⟩ | ⟨h1,h2,h3⟩
   ·rw [h3];exact ⟨fun e=> (by cases e)⟩
   ·rw [h3]
    exact ⟨fun _=> ⟨c1,c2,c3,by dsimp only;omega,fun e=> by dsimp only at e;omega,fun _=> c6,fun e=> by dsimp only at e;omega,fun e=> by dsimp only at e;omega,fun _=> hk,fun e=> by dsimp only at e;omega⟩⟩
   ·rw [h3]
    exact ⟨fun _=> ⟨c1,c2,c3,c4,fun e=> by dsimp only at e;omega,fun _=> c6,fun e=> by dsimp only at e;omega,fun _=> ⟨hk,_,rfl,zq5 m hxo,h2⟩,fun _=> hk,fun e=> by dsimp only at e;omega⟩⟩
  rw [if_neg n2]
  by_cases n3:t.next=3
  ·rw [if_pos n3];exact ⟨fun e=> (by cases e)⟩
  rw [if_neg n3]
  have n4:t.next=4:=by omega
  have c10:=c10 n4
  split
  ·exact ⟨fun e=> (by cases e)⟩
  ·exact ⟨fun _=> ⟨c1,c2,c3,c4,fun e=> by dsimp only at e;omega,fun _=> c6 (by omega),fun e=> by dsimp only at e;omega,fun e=> by dsimp only at e;omega,fun e=> by dsimp only at e;omega,fun _=> ⟨c10.1,by dsimp only;omega,by dsimp only;omega⟩⟩⟩
end Go.Proofs.YthgekdlegbmehaaGreat
