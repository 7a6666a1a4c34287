/- Texts bound together: MchO MchN. -/
import Derived.Test.YtampacmmhhilaaaGreatBm3

set_option linter.all false
/- What each machine keeps: its numbers within the heap's bounds, from its making on; so each access is to a word that is there. Plain. -/
namespace Go.Proofs.YtampacmmhhilaaaGreat

theorem readPageB_iff {p c m a x:Int}:readPageB p c m a x=true↔pageV (kindV x) (partV x 0) (partV x 1)=x∧0≤pageIx p c m a∧fitsB p c a (kindV x) (partV x 0) (partV x 1)=true:=by
 unfold readPageB;simp only [Bool.and_eq_true,beq_iff_eq,decide_eq_true_eq];exact and_assoc
theorem readPage_super {p c m a x:Int} (h:readPageB p c m a x=true) (hk:kindV x=2):(0≤partV x 0∧partV x 0≤3)∧(0≤partV x 1∧partV x 1 < c)∧0 < slotsV (partV x 0):=by
 obtain ⟨_,_,h3⟩:=readPageB_iff.1 h
 unfold fitsB at h3
 rw [if_neg (by omega),if_pos hk] at h3
 simp only [Bool.and_eq_true,decide_eq_true_eq] at h3
 have h1:=partV_bd x 0
 have h2:=partV_bd x 1
 refine ⟨by omega,by omega,?_⟩
 have:partV x 0=0∨partV x 0=1∨partV x 0=2∨partV x 0=3:=by omega
 rcases this with e | e | e | e <;> rw [e] <;> decide
theorem readPage_large {p c m a x:Int} (h:readPageB p c m a x=true) (hk:kindV x=3):1≤partV x 0∧partV x 0≤8∧partV x 0≤p - a:=by
 obtain ⟨_,_,h3⟩:=readPageB_iff.1 h
 unfold fitsB at h3
 rw [if_neg (by omega),if_neg (by omega),if_pos hk] at h3
 simp only [Bool.and_eq_true,decide_eq_true_eq] at h3
 omega
theorem readPage_body {p c m a x:Int} (h:readPageB p c m a x=true) (hk:kindV x=4):0≤partV x 0∧partV x 0 < a∧a - 8 < partV x 0:=by
 obtain ⟨_,_,h3⟩:=readPageB_iff.1 h
 unfold fitsB at h3
 rw [if_neg (by omega),if_neg (by omega),if_neg (by omega),if_pos hk] at h3
 simp only [Bool.and_eq_true,decide_eq_true_eq] at h3
 have h1:=partV_bd x 0
 omega
theorem readEntry_in {p c m x:Int} (h:readEntryB p c m x=true):(0≤partV x 0∧partV x 0 < p)∧(0≤partV x 1∧partV x 1 < slotsV (partV x 2)):=by
 unfold readEntryB at h
 simp only [Bool.and_eq_true,beq_iff_eq,decide_eq_true_eq] at h
 have h1:=pageIx_ok h.1.2
 have h2:=partV_bd x 1
 omega
theorem slots_range {k:Int} (h:0 < slotsV k):slotsV k=16∨slotsV k=8∨slotsV k=4∨slotsV k=2:=by
 unfold slotsV at *
 split <;> (try split) <;> (try split) <;> (try split) <;> simp_all
/-- What a Taker keeps. -/
structure tkOk (s:Sh) (t:Tk):Prop where
 cl:t.done=false→(0≤t.c∧t.c < s.c)∧(0≤t.i∧t.i < s.m)
 en:t.hit=true→(0≤t.ep∧t.ep < s.p)∧(0≤t.es∧t.es < slotsV t.ek)∧t.ek=t.k
 fd:t.found=true→t.hit=true∧t.done=true
theorem tkNew_ok (s:Sh) (c k:Int):tkOk s (tkNew s c k):=by
 refine ⟨fun h=> ?_,fun h=> (by cases h),fun h=> (by cases h)⟩
 simp only [tkNew,Bool.or_eq_false_iff,Bool.not_eq_false',Bool.and_eq_true,decide_eq_true_eq,beq_eq_false_iff_ne] at h ⊢
 obtain ⟨⟨h1,h2⟩,h3⟩:=h
 have h4:=statusIx_ok h1
 have h5:=mayB_iff.1 h4.1
 omega
theorem tkStep_ok {s:Sh} {t:Tk} (m:Mem) (h:tkOk s t):tkOk s (tkStep s t m).1:=by
 obtain ⟨h1,h2,h3⟩:=h
 unfold tkStep
 dsimp only
 split
 ·exact ⟨h1,h2,h3⟩
 ·rename_i hd
  have hd:t.done=false:=by simpa using hd
  have hc:=h1 hd
  split
  ·rename_i hh
   exact ⟨fun e=> (by cases e),fun _=> h2 hh,fun _=> ⟨hh,rfl⟩⟩
  ·split
   ·rename_i hr
    have:=readEntry_in hr.1
    exact ⟨fun _=> hc,fun _=> ⟨this.1,this.2,hr.2⟩,fun e=> by have:=(h3 e).2;rw [hd] at this;cases this⟩
   ·rename_i hh _
    refine ⟨fun e=> ?_,fun e=> absurd e hh,fun e=> absurd (h3 e).1 hh⟩
    have:¬ t.i + 1=s.m:=by simpa using e
    dsimp only
    omega
/-- What a Putter keeps. -/
structure puOk (s:Sh) (t:Pu):Prop where
 cl:t.done=false→(0≤t.c∧t.c < s.c)∧(0≤t.i∧t.i < s.m)
theorem puNew_ok (s:Sh) (c pg sl k:Int):puOk s (puNew s c pg sl k):=by
 refine ⟨fun h=> ?_⟩
 simp only [puNew,Bool.or_eq_false_iff,Bool.not_eq_false',Bool.and_eq_true,decide_eq_true_eq,beq_eq_false_iff_ne] at h ⊢
 obtain ⟨⟨⟨⟨⟨h1,h2⟩,h6⟩,h7⟩,h8⟩,h3⟩:=h
 have h4:=statusIx_ok h1
 have h5:=mayB_iff.1 h4.1
 omega
theorem puStep_ok {s:Sh} {t:Pu} (m:Mem) (h:puOk s t):puOk s (puStep s t m).1:=by
 obtain ⟨h1⟩:=h
 unfold puStep
 dsimp only
 split
 ·exact ⟨h1⟩
 ·rename_i hd
  have hd:t.done=false:=by simpa using hd
  have hc:=h1 hd
  split
  ·exact ⟨fun e=> (by cases e)⟩
  ·split
   ·exact ⟨fun _=> hc⟩
   ·refine ⟨fun e=> ?_⟩
    have:¬ t.i + 1=s.m:=by simpa using e
    dsimp only
    omega
/-- What a Claimer of slots keeps. -/
structure scOk (s:Sh) (t:Sc):Prop where
 cl:t.done=false→(0≤t.c∧t.c < s.c)∧0 < slotsV t.k∧(0≤t.first∧t.first < s.p)∧(0≤t.many∧t.many < s.p)∧(0≤t.i∧t.i < slotsV t.k)∧(0≤t.next∧t.next≤2)
 fd:t.found=true→t.done=true∧(0≤t.first∧t.first < s.p)∧(0≤t.many∧t.many < s.p)∧(0≤t.i∧t.i < slotsV t.k)
theorem scNew_ok (s:Sh) (c k f:Int):scOk s (scNew s c k f):=by
 refine ⟨fun h=> ?_,fun h=> (by cases h)⟩
 simp only [scNew,Bool.not_eq_false',Bool.and_eq_true,decide_eq_true_eq] at h ⊢
 obtain ⟨⟨h1,h2⟩,h3⟩:=h
 have h4:=statusIx_ok h1
 have h5:=pageIx_ok h3
 omega
theorem scTurn_ok {s:Sh} {t:Sc} (hf:t.found=false) (h:(0≤t.c∧t.c < s.c)∧0 < slotsV t.k∧(0≤t.first∧t.first < s.p)∧(0≤t.many∧t.many < s.p)):scOk s (t.turn s):=by
 refine ⟨fun e=> ?_,fun e=> ?_⟩
 ·have:¬ t.many + 1=s.p:=by simpa [Sc.turn] using e
  simp only [Sc.turn]
  omega
 ·simp only [Sc.turn] at e
  rw [hf] at e;cases e
theorem scMiss_ok {s:Sh} {t:Sc} (hf:t.found=false) (h:(0≤t.c∧t.c < s.c)∧0 < slotsV t.k∧(0≤t.first∧t.first < s.p)∧(0≤t.many∧t.many < s.p)∧(0≤t.i∧t.i < slotsV t.k)):scOk s (t.miss s):=by
 unfold Sc.miss
 split
 ·exact scTurn_ok hf ⟨h.1,h.2.1,h.2.2.1,h.2.2.2.1⟩
 ·refine ⟨fun _=> ?_,fun e=> ?_⟩
  ·dsimp only;omega
  ·dsimp only at e;rw [hf] at e;cases e
theorem not_found {f d:Bool} {Q:Prop} (h:f=true→d=true∧Q) (hd:d=false):f=false:=by
 cases f
 ·rfl
 ·have:=(h rfl).1;rw [hd] at this;cases this
theorem scStep_ok {s:Sh} {t:Sc} (m:Mem) (h:scOk s t):scOk s (scStep s t m).1:=by
 have hcl:=h.cl
 unfold scStep
 dsimp only
 split
 ·exact h
 ·rename_i hd
  have hd:t.done=false:=by simpa using hd
  have hc:=hcl hd
  have hf:t.found=false:=not_found h.fd hd
  have hp:scOk s (t.turn s):=scTurn_ok hf ⟨hc.1,hc.2.1,hc.2.2.1,hc.2.2.2.1⟩
  have hm:scOk s (t.miss s):=scMiss_ok hf ⟨hc.1,hc.2.1,hc.2.2.1,hc.2.2.2.1,hc.2.2.2.2.1⟩
  split
  ·dsimp only
   split
   ·refine ⟨fun _=> ?_,fun e=> ?_⟩
    ·dsimp only;omega
    ·dsimp only at e;rw [hf] at e;cases e
   ·exact hp
  ·split
   ·dsimp only
    split
    ·refine ⟨fun _=> ?_,fun e=> ?_⟩
     ·dsimp only;omega
     ·dsimp only at e;rw [hf] at e;cases e
    ·exact hm
   ·dsimp only
    split
    ·exact ⟨fun e=> (by cases e),fun _=> ⟨rfl,hc.2.2.1,hc.2.2.2.1,hc.2.2.2.2.1⟩⟩
    ·exact hm
/-- What a Claimer of pages keeps. -/
structure pcOk (s:Sh) (t:Pc):Prop where
 cl:t.done=false→(0≤t.c∧t.c < s.c)∧(0≤t.first∧t.first < s.p)∧(0≤t.many∧t.many < s.p)
 fd:t.found=true→t.done=true∧(0≤t.first∧t.first < s.p)∧(0≤t.many∧t.many < s.p)
theorem pcNew_ok (s:Sh) (c f:Int):pcOk s (pcNew s c f):=by
 refine ⟨fun h=> ?_,fun h=> (by cases h)⟩
 simp only [pcNew,Bool.or_eq_false_iff,decide_eq_false_iff_not] at h ⊢
 obtain ⟨h1,h3⟩:=h
 have h4:=statusIx_ok (by omega:0≤statusIx s.p s.c s.m c)
 have h5:=pageIx_ok (by omega:0≤pageIx s.p s.c s.m f)
 omega
theorem pcStep_ok {s:Sh} {t:Pc} (m:Mem) (h:pcOk s t):pcOk s (pcStep s t m).1:=by
 have hcl:=h.cl
 unfold pcStep
 dsimp only
 split
 ·exact h
 ·rename_i hd
  have hd:t.done=false:=by simpa using hd
  have hc:=hcl hd
  have hf:t.found=false:=not_found h.fd hd
  have hmiss:pcOk s { t with empty:=false,many:=t.many + 1,done:=decide (t.many + 1=s.p) }:=by
   refine ⟨fun e=> ?_,fun e=> ?_⟩
   ·have:¬ t.many + 1=s.p:=by simpa using e
    dsimp only;omega
   ·dsimp only at e;rw [hf] at e;cases e
  split
  ·dsimp only
   split
   ·refine ⟨fun _=> hc,fun e=> ?_⟩
    dsimp only at e;rw [hf] at e;cases e
   ·exact hmiss
  ·dsimp only
   split
   ·exact ⟨fun e=> (by cases e),fun _=> ⟨rfl,hc.2⟩⟩
   ·exact hmiss
/-- What a Stripper keeps. -/
structure spOk (s:Sh) (t:Sp):Prop where
 cl:t.done=false→(0≤t.c∧t.c < s.c)∧(0≤t.page∧t.page < s.p)∧0 < slotsV t.k∧(0≤t.i∧t.i≤slotsV t.k)∧(t.back=true→0 < t.i)
 fd:t.held=true→t.done=true
theorem spNew_ok (s:Sh) (c pg k:Int):spOk s (spNew s c pg k):=by
 refine ⟨fun h=> ?_,fun h=> (by cases h)⟩
 simp only [spNew,Bool.not_eq_false',Bool.and_eq_true,decide_eq_true_eq] at h ⊢
 obtain ⟨⟨h1,h2⟩,h3⟩:=h
 have h4:=statusIx_ok h1
 have h5:=pageIx_ok h2
 refine ⟨by omega,by omega,by omega,by omega,fun e=> (by cases e)⟩
theorem spStep_ok {s:Sh} {t:Sp} (m:Mem) (h:spOk s t):spOk s (spStep s t m).1:=by
 have hcl:=h.cl
 unfold spStep
 split
 ·exact h
 ·rename_i hd
  have hd:t.done=false:=by simpa using hd
  have hc:=hcl hd
  have hf:t.held=false:=by
   rcases Bool.eq_false_or_eq_true t.held with e | e
   ·have:=h.fd e;rw [hd] at this;cases this
   ·exact e
  split
  ·rename_i hb
   refine ⟨fun e=> ?_,fun e=> ?_⟩
   ·have:¬ t.i - 1=0:=by simpa using e
    have:=hc.2.2.2.2 hb
    refine ⟨hc.1,hc.2.1,hc.2.2.1,by dsimp only;omega,fun _=> by dsimp only;omega⟩
   ·dsimp only at e;rw [hf] at e;cases e
  ·rename_i hb
   split
   ·exact ⟨fun e=> (by cases e),fun _=> rfl⟩
   ·rename_i hi
    dsimp only
    split
    ·refine ⟨fun _=> ⟨hc.1,hc.2.1,hc.2.2.1,by dsimp only;omega,fun e=> absurd e hb⟩,fun e=> ?_⟩
     dsimp only at e;rw [hf] at e;cases e
    ·refine ⟨fun e=> ?_,fun e=> ?_⟩
     ·have:¬ t.i=0:=by simpa using e
      exact ⟨hc.1,hc.2.1,hc.2.2.1,hc.2.2.2.1,fun _=> by dsimp only;omega⟩
     ·dsimp only at e;rw [hf] at e;cases e
/-- What a Binder keeps. -/
structure bnOk (s:Sh) (t:Bn):Prop where
 cl:t.done=false→(0≤t.c∧t.c < s.c)∧(0≤t.page∧t.page < s.p)∧0 < slotsV t.k∧(0≤t.i∧t.i≤16)∧(t.bound=true→0 < t.i∧t.i < slotsV t.k)
theorem bnNew_ok (s:Sh) (c pg k:Int):bnOk s (bnNew s c pg k):=by
 refine ⟨fun h=> ?_⟩
 simp only [bnNew,Bool.not_eq_false',Bool.and_eq_true,decide_eq_true_eq] at h ⊢
 obtain ⟨⟨h1,h2⟩,h3⟩:=h
 have h4:=statusIx_ok h1
 have h5:=pageIx_ok h2
 refine ⟨by omega,by omega,by omega,by omega,fun e=> (by cases e)⟩
theorem bnStep_ok {s:Sh} {t:Bn} (m:Mem) (h:bnOk s t):bnOk s (bnStep s t m).1:=by
 have hcl:=h.cl
 unfold bnStep
 split
 ·exact h
 ·rename_i hd
  have hd:t.done=false:=by simpa using hd
  have hc:=hcl hd
  split
  ·rename_i hb
   refine ⟨fun e=> ?_⟩
   have:¬ t.i - 1=0:=by simpa using e
   have:=hc.2.2.2.2 hb
   refine ⟨hc.1,hc.2.1,hc.2.2.1,by dsimp only;omega,fun _=> by dsimp only;omega⟩
  ·rename_i hb
   split
   ·refine ⟨fun _=> ⟨hc.1,hc.2.1,hc.2.2.1,?_,fun _=> ?_⟩⟩ <;> have:=slots_range hc.2.2.1 <;> dsimp only <;> omega
   ·exact ⟨fun _=> ⟨hc.1,hc.2.1,hc.2.2.1,by dsimp only;omega,fun e=> absurd e hb⟩⟩
def mcOk (s:Sh):Mc→Prop
 | .tk t=> tkOk s t
 | .sc t=> scOk s t
 | .pc t=> pcOk s t
 | .sp t=> spOk s t
 | .bn t=> bnOk s t
theorem mcStep_ok {s:Sh} {x:Mc} (m:Mem) (h:mcOk s x):mcOk s (mcStep s x m).1:=by
 cases x with
 | tk t=> exact tkStep_ok m h
 | sc t=> exact scStep_ok m h
 | pc t=> exact pcStep_ok m h
 | sp t=> exact spStep_ok m h
 | bn t=> exact bnStep_ok m h
/-- What the machine at hand is to a Seeker. -/
def mcMine (s:Sh) (t:Sk):Mc→Prop
 | .tk x=> x.k=t.k
 | .sc x=> x.k=t.k
 | .pc _=> True
 | .sp _=> True
 | .bn _=> 0≤t.page∧t.page < s.p
theorem tkStep_k (s:Sh) (t:Tk) (m:Mem):(tkStep s t m).1.k=t.k:=by unfold tkStep;dsimp only;split <;> (try split) <;> (try split) <;> rfl
theorem scStep_k (s:Sh) (t:Sc) (m:Mem):(scStep s t m).1.k=t.k:=by
 have h1:(t.miss s).k=t.k:=by unfold Sc.miss;split <;> rfl
 unfold scStep;dsimp only
 split
 ·rfl
 ·split
  ·dsimp only;split <;> rfl
  ·split
   ·dsimp only;split <;> first | rfl | exact h1
   ·dsimp only;split <;> first | rfl | exact h1
theorem mcStep_mine {s:Sh} {t:Sk} {x:Mc} (m:Mem) (h:mcMine s t x):mcMine s t (mcStep s x m).1:=by
 cases x with
 | tk y=> exact (tkStep_k s y m).trans h
 | sc y=> exact (scStep_k s y m).trans h
 | pc y=> trivial
 | sp y=> trivial
 | bn y=> exact h
/-- What a Seeker keeps. -/
structure skOk (s:Sh) (t:Sk):Prop where
 cl:t.done=false→(0≤t.c∧t.c < s.c)∧0 < slotsV t.k∧(0≤t.first∧t.first < s.p)∧(0≤t.many∧t.many < s.p)∧(∀ x,t.now=some x→mcOk s x∧mcMine s t x)
 fd:t.found=true→t.done=true∧(0≤t.page∧t.page < s.p)∧(0≤t.slot∧t.slot < slotsV t.k)
theorem skFin_ok {s:Sh} {t:Sk} {pg sl:Int} (h1:0≤pg∧pg < s.p) (h2:0≤sl∧sl < slotsV t.k):skOk s (t.fin pg sl):=⟨fun e=> (by cases e),fun _=> ⟨rfl,h1,h2⟩⟩
theorem skBind_ok {s:Sh} {t:Sk} {pg:Int} (h:skOk s t) (hd:t.done=false) (h1:0≤pg∧pg < s.p):skOk s (t.bind s pg):=by
 obtain ⟨c1,c2,c3,c4,c5⟩:=h.cl hd
 refine ⟨fun _=> ⟨c1,c2,c3,c4,fun x hx=> ?_⟩,fun e=> ?_⟩
 ·simp only [Sk.bind,Option.some.injEq] at hx
  subst hx
  exact ⟨bnNew_ok _ _ _ _,h1⟩
 ·have:=not_found h.fd hd
  simp only [Sk.bind] at e
  rw [this] at e;cases e
theorem skTurn_ok {s:Sh} {t:Sk} (h:skOk s t) (hd:t.done=false):skOk s (t.turn s):=by
 obtain ⟨c1,c2,c3,c4,c5⟩:=h.cl hd
 refine ⟨fun e=> ⟨c1,c2,c3,?_,fun x hx=> (by cases hx)⟩,fun e=> ?_⟩
 ·have:¬ t.many + 1=s.p:=by simpa [Sk.turn] using e
  simp only [Sk.turn];omega
 ·have:=not_found h.fd hd
  simp only [Sk.turn] at e
  rw [this] at e;cases e
theorem Sk.here_in {s:Sh} (t:Sk) (h:1≤s.p):0≤t.here s∧t.here s < s.p:=⟨Int.emod_nonneg _ (by omega),Int.emod_lt_of_pos _ (by omega)⟩
theorem skAfter_ok {s:Sh} {t:Sk} {x:Mc} (h:skOk s t) (hd:t.done=false) (hx:t.now=some x) (hxd:x.done=true) (hp:1≤s.p):skOk s (t.after s x):=by
 obtain ⟨c1,c2,c3,c4,c5⟩:=h.cl hd
 obtain ⟨ho,hm⟩:=c5 x hx
 have hf:=not_found h.fd hd
 have nx:∀ y,mcOk s y→mcMine s t y→skOk s { t with now:=some y }:=fun y hy1 hy2=> ⟨fun _=> ⟨c1,c2,c3,c4,fun z hz=> by simp only [Option.some.injEq] at hz;subst hz;exact ⟨hy1,hy2⟩⟩,fun e=> (by have e:t.found=true:=e;rw [hf] at e;cases e)⟩
 cases x with
 | tk y=>
  simp only [Sk.after]
  split
  ·rename_i hyf
   obtain ⟨e1,e2,e3⟩:=ho.en (ho.fd hyf).1
   have hk:y.k=t.k:=hm
   exact skFin_ok e1 (by rw [← hk,← e3];exact e2)
  ·exact nx (.sc _) (scNew_ok _ _ _ _) rfl
 | sc y=>
  simp only [Sk.after]
  split
  ·rename_i hyf
   obtain ⟨_,e1,e2,e3⟩:=ho.fd hyf
   have hk:y.k=t.k:=hm
   exact skFin_ok ⟨Int.emod_nonneg _ (by omega),Int.emod_lt_of_pos _ (by omega)⟩ (by rw [← hk];exact e3)
  ·exact nx (.pc _) (pcNew_ok _ _ _) trivial
 | pc y=>
  simp only [Sk.after]
  split
  ·exact skBind_ok h hd ⟨Int.emod_nonneg _ (by omega),Int.emod_lt_of_pos _ (by omega)⟩
  ·exact ⟨fun _=> ⟨c1,c2,c3,c4,fun z hz=> (by cases hz)⟩,fun e=> (by have e:t.found=true:=e;rw [hf] at e;cases e)⟩
 | sp y=>
  simp only [Sk.after]
  split
  ·exact skBind_ok h hd (t.here_in hp)
  ·exact skTurn_ok h hd
 | bn y=>
  simp only [Sk.after]
  exact skFin_ok hm (by omega)
theorem skSettle_ok {s:Sh} (hp:1≤s.p) (n:Nat):∀ {t:Sk},skOk s t→skOk s (skSettle s n t):=by
 induction n with
 | zero=> intro t h;exact h
 | succ n ih=>
  intro t h
  unfold skSettle
  split
  ·rename_i x hx
   split
   ·rename_i hc
    exact ih (skAfter_ok h hc.1 hx hc.2 hp)
   ·exact h
  ·exact h
theorem skNew_ok (s:Sh) (c k f:Int):skOk s (skNew s c k f):=by
 unfold skNew
 split
 ·rename_i h
  have h1:=statusIx_ok h.1
  have h2:=mayB_iff.1 h1.1
  have h3:=pageIx_ok h.2.2
  refine skSettle_ok h2.1 5 ⟨fun _=> ⟨by dsimp only;omega,h.2.1,by dsimp only;omega,by dsimp only;omega,fun x hx=> ?_⟩,fun e=> (by cases e)⟩
  simp only [Option.some.injEq] at hx
  subst hx
  exact ⟨tkNew_ok _ _ _,rfl⟩
 ·exact ⟨fun e=> (by cases e),fun e=> (by cases e)⟩
theorem skStep_ok {s:Sh} {t:Sk} (m:Mem) (hp:1≤s.p) (h:skOk s t):skOk s (skStep s t m).1:=by
 unfold skStep
 split
 ·exact h
 ·rename_i hd
  have hd:t.done=false:=by simpa using hd
  obtain ⟨c1,c2,c3,c4,c5⟩:=h.cl hd
  have hf:=not_found h.fd hd
  split
  ·rename_i x hx
   obtain ⟨ho,hm⟩:=c5 x hx
   show skOk s (skSettle s 5 { t with now:=some (mcStep s x m).1 })
   refine skSettle_ok hp 5 ⟨fun _=> ⟨c1,c2,c3,c4,fun z hz=> ?_⟩,fun e=> (by have e:t.found=true:=e;rw [hf] at e;cases e)⟩
   simp only [Option.some.injEq] at hz
   subst hz
   exact ⟨mcStep_ok m ho,mcStep_mine (t:=t) m hm⟩
  ·dsimp only
   split
   ·refine ⟨fun _=> ⟨c1,c2,c3,c4,fun z hz=> ?_⟩,fun e=> (by have e:t.found=true:=e;rw [hf] at e;cases e)⟩
    simp only [Option.some.injEq] at hz
    subst hz
    exact ⟨spNew_ok _ _ _ _,trivial⟩
   ·exact skTurn_ok h hd
/-- How many machines may still follow at once. -/
def skRank (t:Sk):Nat:=if t.done=true then 0 else match t.now with
 | none=> 0
 | some (.tk _)=> 4
 | some (.sc _)=> 3
 | some (.pc _)=> 2
 | some (.sp _)=> 2
 | some (.bn _)=> 1
theorem skAfter_rank {s:Sh} {t:Sk} {x:Mc} (hd:t.done=false) (hx:t.now=some x):skRank (t.after s x) < skRank t:=by
 have h0:skRank t=match (some x:Option Mc) with | none=> 0 | some (.tk _)=> 4 | some (.sc _)=> 3 | some (.pc _)=> 2 | some (.sp _)=> 2 | some (.bn _)=> 1:=by
  unfold skRank;rw [if_neg (by rw [hd];decide),hx]
 rw [h0]
 have hturn:skRank (t.turn s)=0:=by unfold skRank Sk.turn;dsimp only;split <;> rfl
 have hfin:∀ a b,skRank (t.fin a b)=0:=fun _ _=> by unfold skRank Sk.fin;rw [if_pos rfl]
 have hnow:∀ y,skRank { t with now:=some y }=match (some y:Option Mc) with | none=> 0 | some (.tk _)=> 4 | some (.sc _)=> 3 | some (.pc _)=> 2 | some (.sp _)=> 2 | some (.bn _)=> 1:=fun y=> by unfold skRank;rw [if_neg (by dsimp only;rw [hd];decide)]
 have hbind:∀ a,skRank (t.bind s a)=1:=fun a=> by unfold skRank Sk.bind;rw [if_neg (by dsimp only;rw [hd];decide)]
 have hnone:skRank { t with now:=none }=0:=by unfold skRank;rw [if_neg (by dsimp only;rw [hd];decide)]
 cases x <;> simp only [Sk.after] <;> (try split) <;> simp only [hturn,hfin,hnow,hbind,hnone] <;> decide
theorem skSettle_more {s:Sh} (n:Nat):∀ (t:Sk),skRank t≤n→skSettle s (n + 1) t=skSettle s n t:=by
 induction n with
 | zero=>
  intro t h
  conv=> lhs;unfold skSettle
  conv=> rhs;unfold skSettle
  split
  ·rename_i x hx
   rw [if_neg]
   intro hc
   have:=skAfter_rank (s:=s) hc.1 hx
   omega
  ·rfl
 | succ n ih=>
  intro t h
  conv=> lhs;unfold skSettle
  conv=> rhs;unfold skSettle
  split
  ·rename_i x hx
   split
   ·rename_i hc
    have:=skAfter_rank (s:=s) hc.1 hx
    exact ih (t.after s x) (by omega)
   ·rfl
  ·rfl
theorem skSettle_same {s:Sh} {t:Sk} {n:Nat} (h:skRank t≤n) (k:Nat):skSettle s (n + k) t=skSettle s n t:=by
 induction k with
 | zero=> rfl
 | succ k ih=> rw [← ih];exact skSettle_more (n + k) t (by omega)
theorem skRank_le (t:Sk):skRank t≤4:=by unfold skRank;split <;> (try split) <;> omega
/-- Where nothing follows the settled state is the state. -/
theorem skSettle_stop {s:Sh} {t:Sk} (h:t.done=true∨t.now=none∨∃ x,t.now=some x∧x.done=false) (n:Nat):skSettle s n t=t:=by
 cases n with
 | zero=> rfl
 | succ n=>
  unfold skSettle
  split
  ·rename_i x hx
   rw [if_neg]
   rintro ⟨h1,h2⟩
   rcases h with h | h | ⟨y,h,h3⟩
   ·rw [h1] at h;cases h
   ·rw [hx] at h;cases h
   ·rw [hx] at h;obtain rfl:=Option.some.inj h;rw [h2] at h3;cases h3
  ·rfl
theorem skSettle_go {s:Sh} {t:Sk} {x:Mc} (hd:t.done=false) (hx:t.now=some x) (hxd:x.done=true):skSettle s 5 t=skSettle s 5 (t.after s x):=by
 have h1:=skAfter_rank (s:=s) hd hx
 have h2:=skRank_le t
 rw [skSettle_same (n:=4) (t:=t.after s x) (by omega) 1]
 show skSettle s (4 + 1) t=_
 conv=> lhs;unfold skSettle
 rw [hx]
 dsimp only
 rw [if_pos ⟨hd,hxd⟩]
end Go.Proofs.YtampacmmhhilaaaGreat
/- What the machines that are made of others keep: Runner, Reserver, Committer, Undoer, Freer, Renewer, Adopter. Plain. -/
namespace Go.Proofs.YtampacmmhhilaaaGreat

/-- What a Runner keeps. -/
structure rnOk (s:Sh) (t:Rn):Prop where
 cl:t.done=false→(0≤t.c∧t.c < s.c)∧(1≤t.pages∧t.pages≤8)∧(0≤t.head∧t.head + t.pages≤s.p)∧(t.head≤t.at'∧t.at'≤t.head + t.pages)∧(0≤t.next∧t.next≤5)∧
  (t.next≠5→t.at' < t.head + t.pages)∧(t.next=2→∃ x,t.strip=some x∧spOk s x∧x.done=false)∧(t.next=3→0≤t.i∧t.i < 16)∧(t.next=4→t.head < t.i∧t.i≤t.at')∧(t.next=5→t.head < t.i∧t.i < t.head + t.pages)
 fd:t.found=true→t.done=true∧(1≤t.pages∧t.pages≤8)∧(0≤t.head∧t.head + t.pages≤s.p)
theorem rnNew_ok (s:Sh) (c n:Int):rnOk s (rnNew s c n):=by
 refine ⟨fun h=> ?_,fun h=> (by cases h)⟩
 simp only [rnNew,Bool.not_eq_false',Bool.and_eq_true,decide_eq_true_eq] at h ⊢
 obtain ⟨⟨⟨h1,h2⟩,h3⟩,h5⟩:=h
 have h4:=statusIx_ok h1
 refine ⟨by omega,by omega,by omega,by omega,by omega,fun _=> by omega,fun e=> (by cases e),fun e=> (by cases e),fun e=> (by cases e),fun e=> (by cases e)⟩
theorem rnWritten_ok {s:Sh} {t:Rn} (hf:t.found=false) (h1:0≤t.c∧t.c < s.c) (h2:1≤t.pages∧t.pages≤8) (h3:0≤t.head∧t.head + t.pages≤s.p) (h4:t.head≤t.at'∧t.at'≤t.head + t.pages) (h5:t.next=5) (h6:t.head≤t.i∧t.i < t.head + t.pages):rnOk s t.written:=by
 unfold Rn.written
 split
 ·exact ⟨fun e=> (by cases e),fun _=> ⟨rfl,h2,h3⟩⟩
 ·refine ⟨fun _=> ⟨h1,h2,h3,h4,by dsimp only;omega,fun e=> ?_,fun e=> ?_,fun e=> ?_,fun e=> ?_,fun _=> ?_⟩,fun e=> ?_⟩
  ·dsimp only at e;omega
  ·dsimp only at e;omega
  ·dsimp only at e;omega
  ·dsimp only at e;omega
  ·dsimp only;omega
  ·dsimp only at e;rw [hf] at e;cases e
theorem rnOwn_ok {s:Sh} {t:Rn} (hf:t.found=false) (h1:0≤t.c∧t.c < s.c) (h2:1≤t.pages∧t.pages≤8) (h3:0≤t.head∧t.head + t.pages≤s.p) (h4:t.head≤t.at'∧t.at' < t.head + t.pages):rnOk s t.own:=by
 unfold Rn.own
 split
 ·exact rnWritten_ok hf h1 h2 h3 (by dsimp only;omega) rfl (by dsimp only;omega)
 ·refine ⟨fun _=> ⟨h1,h2,h3,by dsimp only;omega,by dsimp only;omega,fun _=> by dsimp only;omega,fun e=> (by cases e),fun e=> (by cases e),fun e=> (by cases e),fun e=> (by cases e)⟩,fun e=> ?_⟩
  dsimp only at e;rw [hf] at e;cases e
theorem rnGone_ok {s:Sh} {t:Rn} (hf:t.found=false) (hd:t.done=false) (h1:0≤t.c∧t.c < s.c) (h2:1≤t.pages∧t.pages≤8) (h3:0≤t.head∧t.head + t.pages≤s.p) (h4:t.head≤t.at'∧t.at' < t.head + t.pages) (h5:t.next=4) (h6:t.i≤t.at'):rnOk s (t.gone s):=by
 unfold Rn.gone
 split
 ·refine ⟨fun _=> ⟨h1,h2,h3,by omega,by omega,fun _=> h4.2,fun e=> by omega,fun e=> by omega,fun _=> by omega,fun e=> by omega⟩,fun e=> ?_⟩
  rw [hf] at e;cases e
 ·refine ⟨fun e=> ?_,fun e=> ?_⟩
  ·have:¬ s.p - t.pages < t.at' + 1:=by simpa using e
   exact ⟨h1,h2,by dsimp only;omega,by dsimp only;omega,by dsimp only;omega,fun _=> by dsimp only;omega,fun e=> (by cases e),fun e=> (by cases e),fun e=> (by cases e),fun e=> (by cases e)⟩
  ·dsimp only at e;rw [hf] at e;cases e
theorem rnMiss_ok {s:Sh} {t:Rn} (hf:t.found=false) (hd:t.done=false) (h1:0≤t.c∧t.c < s.c) (h2:1≤t.pages∧t.pages≤8) (h3:0≤t.head∧t.head + t.pages≤s.p) (h4:t.head≤t.at'∧t.at' < t.head + t.pages):rnOk s (t.miss s):=
 rnGone_ok hf hd h1 h2 h3 h4 rfl (Int.le_refl _)
theorem rnStep_ok {s:Sh} {t:Rn} (m:Mem) (h:rnOk s t):rnOk s (rnStep s t m).1:=by
 unfold rnStep
 dsimp only
 split
 ·exact h
 ·rename_i hd
  have hd:t.done=false:=by simpa using hd
  obtain ⟨c1,c2,c3,c4,c5,c6,c7,c8,c9,c10⟩:=h.cl hd
  have hf:=not_found h.fd hd
  by_cases n0:t.next=0
  ·have c6:=c6 (by omega)
   rw [if_pos n0]
   dsimp only
   split
   ·refine ⟨fun _=> ⟨c1,c2,c3,c4,by dsimp only;omega,fun _=> c6,fun e=> (by cases e),fun e=> (by cases e),fun e=> (by cases e),fun e=> (by cases e)⟩,fun e=> ?_⟩
    dsimp only at e;rw [hf] at e;cases e
   ·split
    ·rename_i hr
     refine ⟨fun _=> ⟨c1,c2,c3,c4,by dsimp only;omega,fun _=> c6,fun _=> ⟨_,rfl,spNew_ok _ _ _ _,?_⟩,fun e=> (by cases e),fun e=> (by cases e),fun e=> (by cases e)⟩,fun e=> ?_⟩
     ·have h1:=(readPageB_iff.1 hr.1).2.1
      have h2:=pageIx_ok h1
      have h3:=(readPage_super hr.1 hr.2).2.2
      have h4:0≤statusIx s.p s.c s.m t.c:=by
       unfold statusIx
       rw [if_pos ⟨h2.1,wi_iff.2 (by omega)⟩]
       exact c1.1
      simp [spNew,h1,h3,h4]
     ·dsimp only at e;rw [hf] at e;cases e
    ·exact rnMiss_ok hf hd c1 c2 c3 (by omega)
  rw [if_neg n0]
  by_cases n1:t.next=1
  ·have c6:=c6 (by omega)
   rw [if_pos n1]
   dsimp only
   split
   ·exact rnOwn_ok hf c1 c2 c3 (by omega)
   ·exact rnMiss_ok hf hd c1 c2 c3 (by omega)
  rw [if_neg n1]
  by_cases n2:t.next=2
  ·have c6:=c6 (by omega)
   obtain ⟨x,hx,hxo,hxd⟩:=c7 n2
   rw [if_pos n2,hx]
   dsimp only
   split
   ·refine ⟨fun _=> ⟨c1,c2,c3,c4,by dsimp only;omega,fun _=> c6,fun e=> (by cases e),fun _=> by dsimp only;omega,fun e=> (by cases e),fun e=> (by cases e)⟩,fun e=> ?_⟩
    dsimp only at e;rw [hf] at e;cases e
   ·split
    ·exact rnMiss_ok hf hd c1 c2 c3 (by dsimp only;omega)
    ·rename_i hnd
     refine ⟨fun _=> ⟨c1,c2,c3,c4,c5,fun _=> c6,fun _=> ⟨_,rfl,spStep_ok m hxo,by simpa using hnd⟩,fun e=> ?_,fun e=> ?_,fun e=> ?_⟩,fun e=> ?_⟩
     ·exact c8 e
     ·exact c9 e
     ·exact c10 e
     ·dsimp only at e;rw [hf] at e;cases e
  rw [if_neg n2]
  by_cases n3:t.next=3
  ·have c6:=c6 (by omega)
   have c8:=c8 n3
   rw [if_pos n3]
   dsimp only
   split
   ·exact rnOwn_ok hf c1 c2 c3 (by dsimp only;omega)
   ·refine ⟨fun _=> ⟨c1,c2,c3,c4,c5,fun _=> c6,fun e=> absurd e n2,fun _=> by dsimp only;omega,fun e=> by dsimp only at e;omega,fun e=> by dsimp only at e;omega⟩,fun e=> ?_⟩
    dsimp only at e;rw [hf] at e;cases e
  rw [if_neg n3]
  by_cases n4:t.next=4
  ·have c6:=c6 (by omega)
   have c9:=c9 n4
   rw [if_pos n4]
   exact rnGone_ok hf hd c1 c2 c3 (by dsimp only;omega) n4 (by dsimp only;omega)
  rw [if_neg n4]
  have n5:t.next=5:=by omega
  have c10:=c10 n5
  exact rnWritten_ok hf c1 c2 c3 c4 n5 (by omega)
theorem fits_iff {s:Sh} {c:Int} {b:Blk}:b.fits s c=true↔mayB s.p s.c s.m=true∧(0≤c∧c < s.c)∧(0≤b.page∧b.page < s.p)∧(b.large=true→1≤b.pages∧b.pages≤8∧b.pages≤s.p - b.page)∧(b.large=false→0≤b.slot∧b.slot < slotsV b.k):=by
 unfold Blk.fits
 by_cases h1:statusIx s.p s.c s.m c < 0
 ·rw [if_pos (.inl h1)]
  refine ⟨fun e=> (by cases e),fun h=> ?_⟩
  have:statusIx s.p s.c s.m c=c:=by unfold statusIx;rw [if_pos ⟨h.1,wi_iff.2 (by omega)⟩]
  omega
 ·by_cases h2:pageIx s.p s.c s.m b.page < 0
  ·rw [if_pos (.inr h2)]
   refine ⟨fun e=> (by cases e),fun h=> ?_⟩
   have h3:=mayB_iff.1 h.1
   have:pageIx s.p s.c s.m b.page=s.c + b.page:=by unfold pageIx;rw [if_pos ⟨h.1,wi_iff.2 (by omega)⟩]
   omega
  ·rw [if_neg (by omega)]
   have h3:=statusIx_ok (by omega:0≤statusIx s.p s.c s.m c)
   have h4:=pageIx_ok (by omega:0≤pageIx s.p s.c s.m b.page)
   cases hl:b.large
   ·simp only [Bool.false_eq_true,if_false,Bool.and_eq_true,decide_eq_true_eq]
    exact ⟨fun h=> ⟨h3.1,h3.2,h4.2,fun e=> (by cases e),fun _=> h⟩,fun h=> h.2.2.2.2 (by simp)⟩
   ·simp only [if_true,Bool.and_eq_true,decide_eq_true_eq]
    exact ⟨fun h=> ⟨h3.1,h3.2,h4.2,fun _=> ⟨h.1.1,h.1.2,h.2⟩,fun e=> (by cases e)⟩,fun h=> by have:=h.2.2.2.1 (by simp);exact ⟨⟨this.1,this.2.1⟩,this.2.2⟩⟩
/-- What a Committer keeps. -/
def cmOk (s:Sh) (t:Cm):Prop:=t.done=false→t.b.fits s t.c=true
theorem cmNew_ok (s:Sh) (c:Int) (b:Blk):cmOk s (cmNew s c b):=fun h=> by simpa [cmNew] using h
/-- What an Undoer keeps. -/
structure unOk (s:Sh) (t:Un):Prop where
 cl:t.done=false→t.b.fits s t.c=true∧(t.b.large=true→0≤t.i∧t.i < t.b.pages)
theorem unNew_ok (s:Sh) (c:Int) (b:Blk):unOk s (unNew s c b):=by
 refine ⟨fun h=> ?_⟩
 have h:b.fits s c=true:=by simpa [unNew] using h
 refine ⟨h,fun hl=> ?_⟩
 have:=(fits_iff.1 h).2.2.2.1 hl
 simp only [unNew];omega
theorem unStep_ok {s:Sh} {t:Un} (m:Mem) (h:unOk s t):unOk s (unStep s t m).1:=by
 unfold unStep
 split
 ·exact h
 ·rename_i hd
  obtain ⟨h1,h2⟩:=h.cl (by simpa using hd)
  split
  ·exact ⟨fun e=> (by cases e)⟩
  ·rename_i hl
   have hl:t.b.large=true:=by simpa using hl
   have h3:=h2 hl
   split
   ·exact ⟨fun e=> (by cases e)⟩
   ·exact ⟨fun _=> ⟨h1,fun _=> by dsimp only;omega⟩⟩
/-- What a Freer keeps. -/
structure feOk (s:Sh) (t:Fe):Prop where
 cl:t.done=false→(0≤t.c∧t.c < s.c)∧(0≤t.page∧t.page < s.p)∧spB s t.a=true∧(0≤t.next∧t.next≤4)∧(t.next≤1→t.i=0)∧
  (1≤t.next→(t.pk=3∧1≤t.pa∧t.pa≤8∧t.pa≤s.p - t.page)∨(t.pk=2∧0 < slotsV t.pa∧(0≤t.slot∧t.slot < slotsV t.pa)))∧
  (t.next=1→0≤t.word∧t.word < 18446744073709551616)∧(t.next=2→t.pk=2∧∃ x,t.put=some x∧puOk s x∧x.done=false)∧(t.next=3→t.pk=2)∧(t.next=4→t.pk=3∧0≤t.i∧t.i < t.pa)
theorem spB_iff {s:Sh} {a:Int}:spB s a=true↔mayB s.p s.c s.m=true∧0≤a∧a < s.p * 64:=by
 unfold spB;simp only [Bool.and_eq_true,wi_iff]
 exact ⟨fun h=> ⟨h.1,h.2.1,by omega⟩,fun h=> ⟨h.1,h.2.1,by omega⟩⟩
theorem feNew_ok (s:Sh) (c a:Int):feOk s (feNew s c a):=by
 refine ⟨fun h=> ?_⟩
 simp only [feNew,Bool.or_eq_false_iff,Bool.not_eq_false',decide_eq_false_iff_not] at h ⊢
 obtain ⟨h1,h2⟩:=h
 have h3:=spB_iff.1 h1
 have h4:=statusIx_ok (by omega:0≤statusIx s.p s.c s.m c)
 rw [if_pos h1]
 exact ⟨h4.2,by omega,h1,by omega,(fun _=> by first | rfl | trivial),fun e=> by omega,fun e=> by omega,fun e=> by omega,fun e=> by omega,fun e=> by omega⟩
theorem feKept_cases (t:Fe) (x:Pu) (hx:t.put=some x):(x.put=true∧t.kept= { t with done:=true })∨(x.put=false∧x.done=true∧t.kept= { t with next:=3 })∨(x.put=false∧x.done=false∧t.kept=t):=by
 unfold Fe.kept
 rw [hx]
 dsimp only
 cases h1:x.put
 ·cases h2:x.done
  ·exact .inr (.inr ⟨rfl,rfl,by simp⟩)
  ·exact .inr (.inl ⟨rfl,rfl,by simp⟩)
 ·exact .inl ⟨rfl,by simp⟩
theorem off_slot {off k:Int} (h:0≤off∧off < 64) (hk:0 < slotsV k):0 < sizeV k∧0≤off / sizeV k∧off / sizeV k < slotsV k:=by
 have h1:=slotsV_ok hk
 have:k=0∨k=1∨k=2∨k=3:=by omega
 rcases this with rfl | rfl | rfl | rfl
 ·rw [show sizeV 0=4 from rfl,show slotsV 0=16 from rfl];omega
 ·rw [show sizeV 1=8 from rfl,show slotsV 1=8 from rfl];omega
 ·rw [show sizeV 2=16 from rfl,show slotsV 2=4 from rfl];omega
 ·rw [show sizeV 3=32 from rfl,show slotsV 3=2 from rfl];omega
theorem feStep_ok {s:Sh} {t:Fe} (m:Mem) (hm:m.fit) (h:feOk s t):feOk s (feStep s t m).1:=by
 unfold feStep
 split
 ·exact h
 ·rename_i hd
  have hd:t.done=false:=by simpa using hd
  obtain ⟨c1,c2,c3,c4,c5,c6,c7,c8,c9,c10⟩:=h.cl hd
  by_cases n0:t.next=0
  ·rw [if_pos n0]
   unfold Fe.look
   dsimp only
   have hoff:0≤t.a % 64∧t.a % 64 < 64:=by omega
   split
   ·rename_i hb
    have h3:=readPage_large hb.1 hb.2.1
    refine ⟨fun _=> ⟨c1,c2,c3,by dsimp only;omega,fun _=> c5 (by omega),fun _=> .inl ?_,fun _=> Mem.get_fit hm _,fun e=> by dsimp only at e;omega,fun e=> by dsimp only at e;omega,fun e=> by dsimp only at e;omega⟩⟩
    dsimp only
    rw [if_pos hb.1,if_pos hb.1]
    exact ⟨hb.2.1,h3⟩
   ·split
    ·rename_i hb
     have h3:=(readPage_super hb.1 hb.2.1).2.2
     refine ⟨fun _=> ⟨c1,c2,c3,by dsimp only;omega,fun _=> c5 (by omega),fun _=> .inr ?_,fun _=> Mem.get_fit hm _,fun e=> by dsimp only at e;omega,fun e=> by dsimp only at e;omega,fun e=> by dsimp only at e;omega⟩⟩
     dsimp only
     rw [if_pos hb.1,if_pos hb.1]
     exact ⟨hb.2.1,h3,(off_slot hoff h3).2⟩
    ·exact ⟨fun e=> (by cases e)⟩
  rw [if_neg n0]
  by_cases n1:t.next=1
  ·rw [if_pos n1]
   have c6:=c6 (by omega)
   have c5:=c5 (by omega)
   unfold Fe.claim
   split
   ·rename_i hk
    have c6:1≤t.pa∧t.pa≤8∧t.pa≤s.p - t.page:=by rcases c6 with h | h <;> omega
    refine ⟨fun _=> ⟨c1,c2,c3,by dsimp only;omega,fun e=> by dsimp only at e;omega,fun _=> .inl ⟨hk,c6⟩,fun e=> by dsimp only at e;omega,fun e=> by dsimp only at e;omega,fun e=> by dsimp only at e;omega,fun _=> ⟨hk,by dsimp only;omega,by dsimp only;omega⟩⟩⟩
   ·rename_i hk
    have c6:t.pk=2∧0 < slotsV t.pa∧(0≤t.slot∧t.slot < slotsV t.pa):=by rcases c6 with h | h;exact absurd h.1 hk;exact h
    dsimp only
    have three:∀ (u:Fe),u.c=t.c→u.page=t.page→u.a=t.a→u.next=3→u.pk=t.pk→u.pa=t.pa→u.slot=t.slot→feOk s u:=fun u e1 e2 e3 e4 e5 e6 e7=> by
     refine ⟨fun _=> ⟨by rw [e1];exact c1,by rw [e2];exact c2,by rw [e3];exact c3,by omega,fun e=> by omega,fun _=> .inr ?_,fun e=> by omega,fun e=> by omega,fun _=> by rw [e5];exact c6.1,fun e=> by omega⟩⟩
     rw [e5,e6,e7];exact c6
    split
    ·rcases feKept_cases ({ t with gave:=decide (m.get (slotIx s.p s.c s.m t.page t.slot)=takenW t.pa),next:=2,put:=some (puNew s t.c t.page t.slot t.pa) }:Fe) _ rfl with ⟨h1,_⟩ | ⟨h1,h2,h3⟩ | ⟨h1,h2,h3⟩
     ·simp [puNew] at h1
     ·rw [h3]
      exact three _ rfl rfl rfl rfl rfl rfl rfl
     ·rw [h3]
      exact ⟨fun _=> ⟨c1,c2,c3,by dsimp only;omega,fun e=> by dsimp only at e;omega,fun _=> .inr c6,fun e=> by dsimp only at e;omega,fun _=> ⟨c6.1,_,rfl,puNew_ok _ _ _ _ _,h2⟩,fun e=> by dsimp only at e;omega,fun e=> by dsimp only at e;omega⟩⟩
    ·exact three _ rfl rfl rfl rfl rfl rfl rfl
  rw [if_neg n1]
  by_cases n2:t.next=2
  ·rw [if_pos n2]
   have c6:=c6 (by omega)
   obtain ⟨hk,x,hx,hxo,hxd⟩:=c8 n2
   rw [hx]
   dsimp only
   rcases feKept_cases ({ t with put:=some (puStep s x m).1 }:Fe) _ rfl with ⟨h1,h3⟩ | ⟨h1,h2,h3⟩ | ⟨h1,h2,h3⟩
   ·rw [h3];exact ⟨fun e=> (by cases e)⟩
   ·rw [h3]
    exact ⟨fun _=> ⟨c1,c2,c3,by dsimp only;omega,fun e=> by dsimp only at e;omega,fun _=> c6,fun e=> by dsimp only at e;omega,fun e=> by dsimp only at e;omega,fun _=> hk,fun e=> by dsimp only at e;omega⟩⟩
   ·rw [h3]
    exact ⟨fun _=> ⟨c1,c2,c3,c4,fun e=> by dsimp only at e;omega,fun _=> c6,fun e=> by dsimp only at e;omega,fun _=> ⟨hk,_,rfl,puStep_ok m hxo,h2⟩,fun _=> hk,fun e=> by dsimp only at e;omega⟩⟩
  rw [if_neg n2]
  by_cases n3:t.next=3
  ·rw [if_pos n3];exact ⟨fun e=> (by cases e)⟩
  rw [if_neg n3]
  have n4:t.next=4:=by omega
  have c10:=c10 n4
  split
  ·exact ⟨fun e=> (by cases e)⟩
  ·exact ⟨fun _=> ⟨c1,c2,c3,c4,fun e=> by dsimp only at e;omega,fun _=> c6 (by omega),fun e=> by dsimp only at e;omega,fun e=> by dsimp only at e;omega,fun e=> by dsimp only at e;omega,fun _=> ⟨c10.1,by dsimp only;omega,by dsimp only;omega⟩⟩⟩
end Go.Proofs.YtampacmmhhilaaaGreat
