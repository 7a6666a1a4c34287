/- Texts bound together: InvE InvF InvG. -/
import Derived.Test.YtampacmmhhilaaaGreatBq37

set_option linter.all false
namespace Go.Proofs.YtampacmmhhilaaaGreat

section
inductive Bl
 | lar (p n:Int)
 | sm (p i k:Int)
 deriving DecidableEq
def Ab.has (σ:Ab):Bl->Prop
 | .lar p n=> σ.pg p= .large n
 | .sm p i k=> σ.sl p i= .taken k
def Calm (σ σ':Ab):Prop:=∀ b,σ'.has b↔σ.has b
def Plus (b:Bl) (σ σ':Ab):Prop:=¬ σ.has b/\∀ x,σ'.has x↔(σ.has x\/x=b)
def zr4 (b:Bl) (σ σ':Ab):Prop:=σ.has b/\∀ x,σ'.has x↔(σ.has x/\x≠b)
section

variable {s:Sh} {σ:Ab} {c p:Int}

theorem Calm.refl (σ:Ab):Calm σ σ:=fun _=> .rfl
theorem zjk (σ:Ab) {q:Int} (v:PW) (n:Int) (h:q≠p):(σ.page p v).has (.lar q n)↔σ.has (.lar q n):=by
 unfold Ab.has;dsimp only;rw [zbd _ _ h]
theorem zjg (σ:Ab) {i q j:Int} (u:SW) (k:Int) (h:¬ (q=p/\j=i)):(σ.slot p i u).has (.sm q j k)↔σ.has (.sm q j k):=by
 unfold Ab.has;dsimp only;rw [zbq _ _ h]
theorem zdt {v:PW} (h1:∀ n,v≠ .large n) (h2:∀ n,σ.pg p≠ .large n):Calm σ (σ.page p v):=by
 intro b
 cases b with
 | lar q n=>
  by_cases e:q=p
  ·subst e
   unfold Ab.has;dsimp only;rw [za4]
   exact ⟨fun e=> absurd e (h1 n),fun e=> absurd e (h2 n)⟩
  ·exact zjk σ v n e
 | sm q i k=> exact .rfl
theorem zdn {i:Int} {u:SW} (h1:∀ n,u≠ .taken n) (h2:∀ n,σ.sl p i≠ .taken n):Calm σ (σ.slot p i u):=by
 intro b
 cases b with
 | lar q n=> exact .rfl
 | sm q j k=>
  by_cases e:q=p/\j=i
  ·obtain ⟨rfl,rfl⟩:=e
   unfold Ab.has;dsimp only;rw [zbs]
   exact ⟨fun e=> absurd e (h1 k),fun e=> absurd e (h2 k)⟩
  ·exact zjg σ u k e
theorem zpy {i:Int} {u:MW}:Calm σ (σ.mag c i u):=fun b=> by cases b <;> exact .rfl
theorem ztg {u:TW}:Calm σ (σ.stat c u):=fun b=> by cases b <;> exact .rfl
theorem z1n {n:Int} (h2:∀ n,σ.pg p≠ .large n):Plus (.lar p n) σ (σ.page p (.large n)):=by
 refine ⟨h2 n,fun b=> ?_⟩
 cases b with
 | lar q y=>
  by_cases e:q=p
  ·subst e
   unfold Ab.has;dsimp only;rw [za4]
   constructor
   ·intro e;injection e with e;subst e;exact .inr rfl
   ·rintro (e | e)
    ·exact absurd e (h2 y)
    ·injection e with _ e;rw [e]
  ·rw [zjk σ _ y e]
   exact ⟨.inl,fun h=> h.elim id fun h=> by injection h with h _;exact absurd h e⟩
 | sm q i k=> exact ⟨.inl,fun h=> h.elim id fun h=> by cases h⟩
theorem z1b {i k:Int} (h2:∀ n,σ.sl p i≠ .taken n):Plus (.sm p i k) σ (σ.slot p i (.taken k)):=by
 refine ⟨h2 k,fun b=> ?_⟩
 cases b with
 | lar q n=> exact ⟨.inl,fun h=> h.elim id fun h=> by cases h⟩
 | sm q j y=>
  by_cases e:q=p/\j=i
  ·obtain ⟨rfl,rfl⟩:=e
   unfold Ab.has;dsimp only;rw [zbs]
   constructor
   ·intro e;injection e with e;subst e;exact .inr rfl
   ·rintro (e | e)
    ·exact absurd e (h2 y)
    ·injection e with _ _ e;rw [e]
  ·rw [zjg σ _ y e]
   exact ⟨.inl,fun h=> h.elim id fun h=> by injection h with h h' _;exact absurd ⟨h,h'⟩ e⟩
theorem zy2 {n:Int} {v:PW} (h1:∀ n,v≠ .large n) (h2:σ.pg p= .large n):zr4 (.lar p n) σ (σ.page p v):=by
 refine ⟨h2,fun b=> ?_⟩
 cases b with
 | lar q y=>
  by_cases e:q=p
  ·subst e
   unfold Ab.has;dsimp only;rw [za4]
   constructor
   ·intro e;exact absurd e (h1 y)
   ·rintro ⟨e,e2⟩
    rw [h2] at e;injection e with e;subst e;exact absurd rfl e2
  ·rw [zjk σ _ y e]
   exact ⟨fun h=> ⟨h,fun h=> by injection h with h _;exact e h⟩,And.left⟩
 | sm q i k=> exact ⟨fun h=> ⟨h,fun h=> by cases h⟩,And.left⟩
theorem zzw {i k:Int} {u:SW} (h1:∀ n,u≠ .taken n) (h2:σ.sl p i= .taken k):zr4 (.sm p i k) σ (σ.slot p i u):=by
 refine ⟨h2,fun b=> ?_⟩
 cases b with
 | lar q n=> exact ⟨fun h=> ⟨h,fun h=> by cases h⟩,And.left⟩
 | sm q j y=>
  by_cases e:q=p/\j=i
  ·obtain ⟨rfl,rfl⟩:=e
   unfold Ab.has;dsimp only;rw [zbs]
   constructor
   ·intro e;exact absurd e (h1 y)
   ·rintro ⟨e,e2⟩
    rw [h2] at e;injection e with e;subst e;exact absurd rfl e2
  ·rw [zjg σ _ y e]
   exact ⟨fun h=> ⟨h,fun h=> by injection h with h h' _;exact e ⟨h,h'⟩⟩,And.left⟩
end

def Own.Eqv (a b:Own):Prop:=(∀ p,a.h p↔b.h p)/\(∀ p g,a.b p g↔b.b p g)/\∀ p i k,a.w p i k↔b.w p i k
theorem zaz.eqv {σ:Ab} {c:Int} {a b:Own} (h:zaz σ c a) (e:a.Eqv b):zaz σ c b:=h.eq (fun p=> (e.1 p).symm) (fun p g=> (e.2.1 p g).symm) (fun p i k=> (e.2.2 p i k).symm)
theorem Own.Eqv.refl (a:Own):a.Eqv a:=⟨fun _=> .rfl,fun _ _=> .rfl,fun _ _ _=> .rfl⟩
theorem Own.Eqv.symm {a b:Own} (h:a.Eqv b):b.Eqv a:=⟨fun p=> (h.1 p).symm,fun p g=> (h.2.1 p g).symm,fun p i k=> (h.2.2 p i k).symm⟩
theorem Own.Eqv.trans {a b c:Own} (h:a.Eqv b) (k:b.Eqv c):a.Eqv c:=⟨fun p=> (h.1 p).trans (k.1 p),fun p g=> (h.2.1 p g).trans (k.2.1 p g),fun p i j=> (h.2.2 p i j).trans (k.2.2 p i j)⟩
theorem Own.Eqv.add {a b:Own} (R:Own) (h:a.Eqv b):(R.add a).Eqv (R.add b):=⟨fun p=> or_congr .rfl (h.1 p),fun p g=> or_congr .rfl (h.2.1 p g),fun p i k=> or_congr .rfl (h.2.2 p i k)⟩
theorem Own.Eqv.zp7 (a b c:Own):((a.add b).add c).Eqv (a.add (b.add c)):=⟨fun _=> or_assoc,fun _ _=> or_assoc,fun _ _ _=> or_assoc⟩
theorem Own.Eqv.zeb (a:Own):(a.add .no).Eqv a:=⟨fun _=> or_iff_left id,fun _ _=> or_iff_left id,fun _ _ _=> or_iff_left id⟩
structure Goes {T:Type} (s:Sh) (c:Int) (σ:Ab) (r:T × Ab) (R:Own) (own:T->Own) (I:Ab->T->Prop):Prop where
 kept:Kept s c σ r.2
 ex:zaz r.2 c (R.add (own r.1))
 inv:I r.2 r.1
variable {s:Sh} {σ σ':Ab} {c:Int} {R:Own}

theorem Own.z9l {a:Own} {p i k:Int} (h:a=Own.way p i k):a.Eqv (Own.no.add (Own.way p i k)):=by
 subst h;exact ⟨fun _=> (or_iff_right id).symm,fun _ _=> (or_iff_right id).symm,fun _ _ _=> (or_iff_right id).symm⟩
def zlr (t:Tk):Own:=if t.found=true then .way t.ep t.es t.ek else .no
def zqu (c:Int) (σ:Ab) (t:Tk):Prop:=t.c=c/\(t.hit=true->t.done=false->σ.mg c t.i= .entry t.ep t.es t.ek)
theorem zqu.same {t:Tk} (h:zqu c σ t) (hs:Same c σ σ'):zqu c σ' t:=⟨h.1,fun a b=> (hs.m _).trans (h.2 a b)⟩
theorem yba {t:Tk} (hg:GI s σ) (hk:tkOk s t) (hd:t.done=false) (he:zaz σ c (R.add (zlr t))) (hi:zqu c σ t):Goes s c σ (tkA s t σ) R zlr (zqu c)/\Calm σ (tkA s t σ).2  :=by
 obtain ⟨rfl,hi⟩:=hi
 have hf:t.found=false:=zb7 (fun e=> ⟨(hk.fd e).2,trivial⟩) hd
 have ho:zlr t= .no:=by unfold zlr;rw [hf];rfl
 rw [ho] at he
 have hq:∀ t':Tk,t'.found=false->zqu t.c σ t'->Goes s t.c σ (t',σ) R zlr (zqu t.c)/\Calm σ σ:=fun t' h1 h2=>
  ⟨⟨Kept.refl hg,by rw [show zlr t'= .no by unfold zlr;rw [h1];rfl];exact he,h2⟩,Calm.refl _⟩
 unfold tkA
 rw [if_neg (by rw [hd];decide)]
 by_cases hh:t.hit=true
 ·rw [if_pos hh]
  have hm:=hi hh hd
  refine ⟨⟨zi4 hg,?_,⟨rfl,fun _ e=> (by cases e)⟩⟩,zpy⟩
  exact (znd hg he hm).eqv (.trans (.zp7 _ _ _) (.add R (Own.Eqv.symm (Own.z9l rfl))))
 ·rw [if_neg hh]
  have hno:¬ t.hit=true:=hh
  cases hm:σ.mg t.c t.i with
  | none=> exact hq _ hf ⟨rfl,fun e=> absurd e hno⟩
  | entry p i k=>
   dsimp only
   by_cases hkk:k=t.k
   ·rw [if_pos hkk]
    exact hq _ hf ⟨rfl,fun _ _=> hm⟩
   ·rw [if_neg hkk]
    exact hq _ hf ⟨rfl,fun e=> absurd e hno⟩
def zlt (t:Pu):Own:=if t.put=true then .no else .way t.ep t.es t.ek
def zp5 (c:Int) (σ:Ab) (t:Pu):Prop:=t.c=c/\(t.hit=true->t.done=false->σ.mg c t.i= .none)/\(t.put=true->t.done=true)
theorem zp5.same {t:Pu} (h:zp5 c σ t) (hs:Same c σ σ'):zp5 c σ' t:=⟨h.1,fun a b=> (hs.m _).trans (h.2.1 a b),h.2.2⟩
theorem z96 {t:Pu} (hg:GI s σ) (hk:puOk s t) (hd:t.done=false) (hR:∀ k',¬ R.w t.ep t.es k') (he:zaz σ c (R.add (zlt t))) (hi:zp5 c σ t):Goes s c σ (puA s t σ) R zlt (zp5 c)/\Calm σ (puA s t σ).2  :=by
 obtain ⟨rfl,hi⟩:=hi
 have hf:t.put=false:=by
  cases h:t.put
  ·rfl
  ·rw [hi.2 h] at hd;cases hd
 have ho:zlt t= .way t.ep t.es t.ek:=by unfold zlt;rw [hf];rfl
 rw [ho] at he
 have hw:=(he.w t.ep t.es t.ek).2 (.inl (.inr ⟨rfl,rfl,rfl⟩))
 obtain ⟨⟨b,hp⟩,hs⟩:=hw
 have hnm:=znc he hp
 unfold puA
 rw [if_neg (by rw [hd];decide)]
 by_cases hh:t.hit=true
 ·rw [if_pos hh]
  have hm:=hi.1 hh hd
  have hc:=hk.cl hd
  refine ⟨⟨zqp hg hp hs hnm hc.2,?_,⟨rfl,fun _ e=> (by cases e),fun _=> rfl⟩⟩,zpy⟩
  exact (zn8 he hR hp hm).eqv (.symm (.zeb R))
 ·rw [if_neg hh]
  have hq:∀ t':Pu,t'.put=false->t'.ep=t.ep->t'.es=t.es->t'.ek=t.ek->zp5 t.c σ t'->Goes s t.c σ (t',σ) R zlt (zp5 t.c)/\Calm σ σ:=fun t' h1 e1 e2 e3 h2=>
   ⟨⟨Kept.refl hg,by rw [show zlt t'= .way t.ep t.es t.ek by unfold zlt;rw [h1,e1,e2,e3];rfl];exact he,h2⟩,Calm.refl _⟩
  by_cases hm:σ.mg t.c t.i= .none
  ·rw [if_pos hm]
   exact hq _ hf rfl rfl rfl ⟨rfl,fun _ _=> hm,fun e=> (by have e:t.put=true:=e;rw [hf] at e;cases e)⟩
  ·rw [if_neg hm]
   exact hq _ hf rfl rfl rfl ⟨rfl,fun e=> absurd e hh,fun e=> (by have e:t.put=true:=e;rw [hf] at e;cases e)⟩
def zln (s:Sh) (t:Sc):Own:=if t.found=true then .way (t.page s) t.i t.k else .no
theorem zsw (s:Sh) (t:Sc):(t.turn s).found=t.found/\(t.turn s).c=t.c:=⟨rfl,rfl⟩
theorem zlf (s:Sh) (t:Sc):(t.miss s).found=t.found/\(t.miss s).c=t.c:=by unfold Sc.miss;split <;> exact ⟨rfl,rfl⟩
theorem z1x {σ:Ab} {p i k:Int} (h:σ.sl p i= .opened k):∀ n,σ.sl p i≠ .taken n:=fun n e=> by rw [h] at e;cases e
theorem yb8 {t:Sc} (hg:GI s σ) (hk:scOk s t) (hd:t.done=false) (he:zaz σ c (R.add (zln s t))) (hi:t.c=c):Goes s c σ (scA s t σ) R (zln s) (fun _ t=> t.c=c)/\Calm σ (scA s t σ).2  :=by
 subst hi
 have hf:t.found=false:=zb7 hk.fd hd
 have ho:zln s t= .no:=by unfold zln;rw [hf];rfl
 rw [ho] at he
 have hq:∀ t':Sc,t'.found=t.found/\t'.c=t.c->Goes s t.c σ (t',σ) R (zln s) (fun _ t0=> t0.c=t.c)/\Calm σ σ:=fun t' h=>
  ⟨⟨Kept.refl hg,by rw [show zln s t'= .no by unfold zln;rw [h.1,hf];rfl];exact he,h.2⟩,Calm.refl _⟩
 have hc:=hk.cl hd
 unfold scA
 rw [if_neg (by rw [hd];decide)]
 by_cases h0:t.next=0
 ·rw [if_pos h0]
  split
  ·exact hq _ ⟨rfl,rfl⟩
  ·exact hq _ (zsw s t)
 ·rw [if_neg h0]
  by_cases h1:t.next=1
  ·rw [if_pos h1]
   split
   ·exact hq _ ⟨rfl,rfl⟩
   ·exact hq _ (zlf s t)
  ·rw [if_neg h1]
   by_cases hs:σ.sl (t.page s) t.i= .opened t.k
   ·rw [if_pos hs]
    obtain ⟨⟨b,hp⟩,_⟩:=zhs hg (.inl hs)
    refine ⟨⟨zf3 hg hp (.inl hs) hc.1,?_,rfl⟩,zdn (fun n e=> by cases e) (z1x hs)⟩
    exact (zfc hg he hp (.inl hs)).eqv (.trans (.zp7 _ _ _) (.add R (Own.Eqv.symm (Own.z9l rfl))))
   ·rw [if_neg hs]
    exact hq _ (zlf s t)
def zls (s:Sh) (t:Pc):Own:=if t.found=true then .page (t.page s) else .no
theorem Own.yab {a:Own} {p:Int} (h:a=Own.page p):a.Eqv (Own.no.add (Own.page p)):=by
 subst h;exact ⟨fun _=> (or_iff_right id).symm,fun _ _=> (or_iff_right id).symm,fun _ _ _=> (or_iff_right id).symm⟩
theorem yb1 {t:Pc} (hg:GI s σ) (hk:pcOk s t) (hd:t.done=false) (he:zaz σ c (R.add (zls s t))) (hi:t.c=c):Goes s c σ (pcA s t σ) R (zls s) (fun _ t=> t.c=c)/\Calm σ (pcA s t σ).2  :=by
 subst hi
 have hf:t.found=false:=zb7 hk.fd hd
 have ho:zls s t= .no:=by unfold zls;rw [hf];rfl
 rw [ho] at he
 have hq:∀ t':Pc,t'.found=t.found/\t'.c=t.c->Goes s t.c σ (t',σ) R (zls s) (fun _ t0=> t0.c=t.c)/\Calm σ σ:=fun t' h=>
  ⟨⟨Kept.refl hg,by rw [show zls s t'= .no by unfold zls;rw [h.1,hf];rfl];exact he,h.2⟩,Calm.refl _⟩
 have hc:=hk.cl hd
 have hp:0<=t.page s/\t.page s < s.p:=zpe (by omega)
 unfold pcA
 rw [if_neg (by rw [hd];decide)]
 by_cases h0:t.empty=false
 ·rw [if_pos h0]
  split
  ·exact hq _ ⟨rfl,rfl⟩
  ·exact hq _ ⟨rfl,rfl⟩
 ·rw [if_neg h0]
  by_cases hs:σ.pg (t.page s)= .empty
  ·rw [if_pos hs]
   refine ⟨⟨zi0 hg hs hp hc.1,?_,rfl⟩,zdt (fun n e=> by cases e) (fun n e=> by rw [hs] at e;cases e)⟩
   exact (zh4 hg he hs).eqv (.trans (.zp7 _ _ _) (.add R (Own.Eqv.symm (Own.yab rfl))))
  ·rw [if_neg hs]
   exact hq _ ⟨rfl,rfl⟩
def zhd (t:Sp):Own:=if t.held=true then .page t.page else .ways t.page t.i t.k
def z4y (c:Int) (t:Sp):Prop:=t.c=c/\(t.done=true->t.held=false->t.i=0)
theorem Own.znw {p n k:Int} (h:0<=n):((Own.ways p n k).add (Own.way p n k)).Eqv (Own.ways p (n + 1) k):=by
 refine ⟨fun _=> or_iff_left id,fun _ _=> or_iff_left id,fun q i k'=> ?_⟩
 simp only [Own.add,Own.ways,Own.way]
 omega
theorem z4c {t:Sp} (hg:GI s σ) (hk:spOk s t) (hd:t.done=false) (hR:∀ i k',¬ R.w t.page i k') (he:zaz σ c (R.add (zhd t))) (hi:z4y c t):Goes s c σ (spA s t σ) R zhd (fun _ t=> z4y c t)/\Calm σ (spA s t σ).2/\(spA s t σ).1.page=t.page  :=by
 obtain ⟨rfl,hi⟩:=hi
 have hf:t.held=false:=zb7 (fun e=> ⟨hk.fd e,trivial⟩) hd
 have ho:zhd t= .ways t.page t.i t.k:=by unfold zhd;rw [hf];rfl
 rw [ho] at he
 obtain ⟨c1,c2,c3,c4,c5⟩:=hk.cl hd
 unfold spA
 rw [if_neg (by rw [hd];decide)]
 by_cases hb:t.back=true
 ·rw [if_pos hb]
  have hpos:=c5 hb
  have he2:zaz σ t.c ((R.add (.ways t.page (t.i - 1) t.k)).add (.way t.page (t.i - 1) t.k)):=by
   refine he.eqv (.trans (.add R (.symm ?_)) (.symm (.zp7 _ _ _)))
   have:=Own.znw (p:=t.page) (n:=t.i - 1) (k:=t.k) (by omega)
   rwa [show t.i - 1 + 1=t.i by omega] at this
  obtain ⟨⟨b,hp⟩,hs⟩:=(he2.w t.page (t.i - 1) t.k).2 (.inl (.inr ⟨rfl,rfl,rfl⟩))
  have hn:∀ k',¬ (R.add (.ways t.page (t.i - 1) t.k)).w t.page (t.i - 1) k':=fun k' e=> by
   rcases e with e | e
   ·exact hR _ _ e
   ·have:=e.2.1;omega
  refine ⟨⟨zc6 hg hp hs (.inl rfl) (znc he2 hp),?_,⟨rfl,fun e _=> by simpa using e⟩⟩,zdn (fun n e=> by cases e) (fun n e=> by rw [hs] at e;cases e),rfl⟩
  have:=zdd (u:= .opened t.k) he2 hn hp (.inl rfl)
  have e2:zhd { t with i:=t.i - 1,done:=decide (t.i - 1=0) }= .ways t.page (t.i - 1) t.k:=by unfold zhd;dsimp only;rw [hf];rfl
  dsimp only
  rw [e2];exact this
 ·rw [if_neg hb]
  by_cases hn:t.i=zah t.k
  ·rw [if_pos hn]
   rw [hn] at he
   have hw:=fun i h0 h1=> (he.w t.page i t.k).2 (.inl (.inr ⟨rfl,⟨h0,h1⟩,rfl⟩))
   obtain ⟨⟨b,hp⟩,_⟩:=hw 0 (Int.le_refl _) c3
   have hm:∀ j i k',σ.mg t.c j≠ .entry t.page i k':=fun j i k' e=> by
    obtain ⟨b',e2⟩:=zds hg e
    rw [hp] at e2;injection e2 with e2 _;subst e2
    have hfit:=hg.mf t.c j
    rw [e] at hfit
    exact he.d t.page i t.k j (.inr ⟨rfl,hfit.2.2,rfl⟩) e
   refine ⟨⟨zn2 hg hp c1 (fun i h0 h1=> (hw i h0 h1).2) hm,?_,⟨rfl,fun _ e=> (by cases e)⟩⟩,zdt (fun n e=> by cases e) (fun n e=> by rw [hp] at e;cases e),rfl⟩
   exact znl hg he hp (fun i k'=> hR i k') hm
  ·rw [if_neg hn]
   by_cases hs:σ.sl t.page t.i= .opened t.k
   ·rw [if_pos hs]
    obtain ⟨⟨b,hp⟩,_⟩:=zhs hg (.inl hs)
    refine ⟨⟨zf3 hg hp (.inl hs) c1,?_,⟨rfl,fun e=> (by have e:t.done=true:=e;rw [hd] at e;cases e)⟩⟩,zdn (fun n e=> by cases e) (z1x hs),rfl⟩
    have e2:zhd { t with i:=t.i + 1 }= .ways t.page (t.i + 1) t.k:=by unfold zhd;dsimp only;rw [hf];rfl
    dsimp only
    rw [e2]
    exact (zfc hg he hp (.inl hs)).eqv (.trans (.zp7 _ _ _) (.add R (Own.znw c4.1)))
   ·rw [if_neg hs]
    refine ⟨⟨Kept.refl hg,?_,⟨rfl,fun e _=> by simpa using e⟩⟩,Calm.refl _,rfl⟩
    have e2:zhd { t with back:=true,done:=decide (t.i=0) }= .ways t.page t.i t.k:=by unfold zhd;dsimp only;rw [hf];rfl
    dsimp only
    rw [e2];exact he
def zhe (t:Bn):Own:=if t.bound=true then .ways t.page (t.i + 1) t.k else .page t.page
def zu0 (c:Int) (σ:Ab) (t:Bn):Prop:=t.c=c/\(t.bound=false->∀ j,0<=j->j < t.i->σ.sl t.page j=if j < zah t.k then .way c else .none)/\(t.done=true->t.bound=true/\t.i=0)
theorem zu0.same {t:Bn} (h:zu0 c σ t) (hp:t.bound=false->σ.pg t.page= .held c) (hs:Same c σ σ'):zu0 c σ' t:=⟨h.1,fun hb j h0 h1=> (hs.hs _ _ (hp hb)).trans (h.2.1 hb j h0 h1),h.2.2⟩
theorem yar {t:Bn} (hg:GI s σ) (hk:bnOk s t) (hd:t.done=false) (hR:¬ R.h t.page) (hRb:∀ q,¬ R.b q t.page) (hRw:∀ i k',¬ R.w t.page i k') (he:zaz σ c (R.add (zhe t))) (hi:zu0 c σ t):Goes s c σ (bnA s t σ) R zhe (zu0 c)/\Calm σ (bnA s t σ).2/\(bnA s t σ).1.page=t.page/\(bnA s t σ).1.k=t.k  :=by
 obtain ⟨rfl,hi⟩:=hi
 obtain ⟨c1,c2,c3,c4,c5⟩:=hk.cl hd
 unfold bnA
 rw [if_neg (by rw [hd];decide)]
 by_cases hb:t.bound=true
 ·rw [if_pos hb]
  have hpos:=c5 hb
  have ho:zhe t= .ways t.page (t.i + 1) t.k:=by unfold zhe;rw [hb];rfl
  rw [ho] at he
  have he2:zaz σ t.c ((R.add (.ways t.page t.i t.k)).add (.way t.page t.i t.k)):=he.eqv (.trans (.add R (.symm (Own.znw (by omega)))) (.symm (.zp7 _ _ _)))
  obtain ⟨⟨b,hp⟩,hs⟩:=(he2.w t.page t.i t.k).2 (.inl (.inr ⟨rfl,rfl,rfl⟩))
  have hn:∀ k',¬ (R.add (.ways t.page t.i t.k)).w t.page t.i k':=fun k' e=> by
   rcases e with e | e
   ·exact hRw _ _ e
   ·have:=e.2.1;omega
  refine ⟨⟨zc6 hg hp hs (.inl rfl) (znc he2 hp),?_,⟨rfl,fun e=> (by have e:t.bound=false:=e;rw [hb] at e;cases e),fun e=> ⟨hb,by simpa using e⟩⟩⟩,zdn (fun n e=> by cases e) (fun n e=> by rw [hs] at e;cases e),rfl,rfl⟩
  have e2:zhe { t with i:=t.i - 1,done:=decide (t.i - 1=0) }= .ways t.page t.i t.k:=by unfold zhe;dsimp only;rw [if_pos hb,show t.i - 1 + 1=t.i by omega]
  dsimp only
  rw [e2];exact zdd (u:= .opened t.k) he2 hn hp (.inl rfl)
 ·rw [if_neg hb]
  have hb':t.bound=false:=by simpa using hb
  have ho:zhe t= .page t.page:=by unfold zhe;rw [hb'];rfl
  rw [ho] at he
  have hp:σ.pg t.page= .held t.c:=(he.h t.page).2 (.inr rfl)
  have hnb:∀ q,σ.pg q≠ .body t.page:=fun q e=> by
   rcases (he.b q t.page).1 ⟨e,hp⟩ with e | e
   ·exact hRb q e
   ·exact e
  by_cases h16:t.i=16
  ·rw [if_pos h16]
   have hsl:∀ i,σ.sl t.page i=if 0<=i/\i < zah t.k then .way t.c else .none:=fun i=> by
    by_cases hin:0<=i/\i < 16
    ·have:=hi.1 hb' i hin.1 (by omega)
     rw [this]
     by_cases h1:i < zah t.k
     ·rw [if_pos h1,if_pos ⟨hin.1,h1⟩]
     ·rw [if_neg h1,if_neg (fun e=> h1 e.2)]
    ·have hsb:=zcy t.k
     rw [if_neg (by omega)]
     rcases zgg hg hp i with e | e
     ·exact e
     ·exact absurd ⟨e.2.1,e.2.2⟩ hin
   refine ⟨⟨zpg hg hp (zgr c3) hsl hnb,?_,⟨rfl,fun e=> (by cases e),fun e=> (by have e:t.done=true:=e;rw [hd] at e;cases e)⟩⟩,zdt (fun n e=> by cases e) (fun n e=> by rw [hp] at e;cases e),rfl,rfl⟩
   have e2:zhe { t with bound:=true,i:=zah t.k - 1 }= .ways t.page (zah t.k) t.k:=by unfold zhe;dsimp only;rw [if_pos rfl,show zah t.k - 1 + 1=zah t.k by omega]
   dsimp only
   rw [e2];exact zn3 hg he hR hsl hnb
  ·rw [if_neg h16]
   have hv:(if t.i < zah t.k then SW.way t.c else SW.none)= .none\/((if t.i < zah t.k then SW.way t.c else SW.none)= .way t.c/\0<=t.i/\t.i < 16):=by
    split
    ·exact .inr ⟨rfl,by omega,by omega⟩
    ·exact .inl rfl
   refine ⟨⟨zgw hg hp hv,?_,⟨rfl,fun _ j h0 h1=> ?_,fun e=> (by have e:t.done=true:=e;rw [hd] at e;cases e)⟩⟩,zdn (fun n e=> by split at e <;> cases e) (fun n e=> by rcases zgg hg hp t.i with e2 | e2;(rw [e2] at e;cases e);(rw [e2.1] at e;cases e)),rfl,rfl⟩
   ·have e2:zhe { t with i:=t.i + 1 }= .page t.page:=by unfold zhe;dsimp only;rw [hb'];rfl
    dsimp only
    rw [e2];exact ziy he hp
   ·dsimp only at h1 ⊢
    by_cases hj:j=t.i
    ·subst hj;rw [zbs]
    ·rw [zbq _ _ (fun e=> hj e.2)];exact hi.1 hb' j h0 (by omega)
end

section

variable {s:Sh} {σ σ':Ab} {c:Int}

def zmo (s:Sh):Mc->Own
 | .tk t=> zlr t
 | .sc t=> zln s t
 | .pc t=> zls s t
 | .sp t=> zhd t
 | .bn t=> zhe t
def zzi (c:Int) (σ:Ab):Mc->Prop
 | .tk t=> zqu c σ t
 | .sc t=> t.c=c
 | .pc t=> t.c=c
 | .sp t=> z4y c t
 | .bn t=> zu0 c σ t
def z3x (s:Sh) (t:Sk):Mc->Prop
 | .sp x=> x.page=t.here s
 | .bn x=> x.page=t.page/\x.k=t.k
 | _=> True
theorem ya5 {x:Mc} (hg:GI s σ) (hk:mcOk s x) (hd:x.done=false) (he:zaz σ c (Own.no.add (zmo s x))) (hi:zzi c σ x):
  Goes s c σ (mcA s x σ) .no (zmo s) (zzi c)/\Calm σ (mcA s x σ).2/\∀ t,z3x s t x->z3x s t (mcA s x σ).1:=by
 cases x with
 | tk t=>
  obtain ⟨⟨a,b,d⟩,e⟩:=yba (t:=t) hg hk hd he hi
  exact ⟨⟨a,b,d⟩,e,fun _ _=> trivial⟩
 | sc t=>
  obtain ⟨⟨a,b,d⟩,e⟩:=yb8 (t:=t) hg hk hd he hi
  exact ⟨⟨a,b,d⟩,e,fun _ _=> trivial⟩
 | pc t=>
  obtain ⟨⟨a,b,d⟩,e⟩:=yb1 (t:=t) hg hk hd he hi
  exact ⟨⟨a,b,d⟩,e,fun _ _=> trivial⟩
 | sp t=>
  obtain ⟨⟨a,b,d⟩,e,f⟩:=z4c (t:=t) hg hk hd (fun _ _ h=> h) he hi
  exact ⟨⟨a,b,d⟩,e,fun _ h=> f.trans h⟩
 | bn t=>
  obtain ⟨⟨a,b,d⟩,e,f,g⟩:=yar (t:=t) hg hk hd id (fun _ h=> h) (fun _ _ h=> h) he hi
  exact ⟨⟨a,b,d⟩,e,fun _ h=> ⟨f.trans h.1,g.trans h.2⟩⟩
theorem zzi.same {x:Mc} (he:zaz σ c (Own.no.add (zmo s x))) (h:zzi c σ x) (hs:Same c σ σ'):zzi c σ' x:=by
 cases x with
 | tk t=> exact zqu.same h hs
 | sc t=> exact h
 | pc t=> exact h
 | sp t=> exact h
 | bn t=>
  refine zu0.same h (fun hb=> ?_) hs
  have ho:zhe t= .page t.page:=by unfold zhe;rw [hb];rfl
  have he:zaz σ c (Own.no.add (zhe t)):=he
  rw [ho] at he
  exact (he.h t.page).2 (.inr rfl)
def zey (s:Sh) (t:Sk):Own:=if t.found=true then .way t.page t.slot t.k else match t.now with
 | some x=> zmo s x
 | none=> .no
structure zir (s:Sh) (c:Int) (σ:Ab) (t:Sk):Prop where
 cl:t.c=c
 dn:t.done=true->t.found=false->t.now=none
 now:t.found=false->∀ x,t.now=some x->zzi c σ x/\z3x s t x
theorem zeq {t:Sk} {x:Mc} (hf:t.found=false) (hx:t.now=some x):zey s t=zmo s x:=by unfold zey;rw [hf,hx];rfl
theorem zga {t:Sk} (hf:t.found=false) (hx:t.now=none):zey s t= .no:=by unfold zey;rw [hf,hx];rfl
theorem zir.same {t:Sk} (he:zaz σ c (Own.no.add (zey s t))) (h:zir s c σ t) (hs:Same c σ σ'):zir s c σ' t:=by
 refine ⟨h.cl,h.dn,fun hf x hx=> ⟨?_,(h.now hf x hx).2⟩⟩
 rw [zeq hf hx] at he
 exact (h.now hf x hx).1.same he hs
theorem zy0 {s:Sh} {c p k:Int} (hs:mayB s.p s.c s.m=true) (hc:0<=c/\c < s.c) (hp:0<=p/\p < s.p) (hk:0 < zah k):(zfi s c p k).done=false:=by
 have hb:=zar.1 hs
 have h1:zae s.p s.c s.m c=c:=by unfold zae;rw [if_pos ⟨hs,zbc.2 (by omega)⟩]
 have h2:zak s.p s.c s.m p=s.c + p:=by unfold zak;rw [if_pos ⟨hs,zbc.2 (by omega)⟩]
 simp only [zfi,h1,h2]
 simp
 omega
theorem Own.z2j (p k:Int):(Own.ways p 0 k).Eqv .no:=by
 exact ⟨fun _=> .rfl,fun _ _=> .rfl,fun q i k'=> ⟨fun h=> by have h1:=h.2.1;omega,fun h=> h.elim⟩⟩
theorem Own.z8j (p k:Int):(Own.ways p 1 k).Eqv (Own.way p 0 k):=by
 refine ⟨fun _=> .rfl,fun _ _=> .rfl,fun q i k'=> ?_⟩
 simp only [Own.ways,Own.way]
 omega
theorem zia {t:Sp} (hf:t.held=false) (h0:t.i=0):(zhd t).Eqv .no:=by
 unfold zhd
 rw [hf,h0]
 exact Own.z2j _ _
theorem zu3 {t:Sk} {x:Mc} (hs:mayB s.p s.c s.m=true) (hk:skOk s t) (hd:t.done=false) (hx:t.now=some x) (hxd:x.done=true) (he:zaz σ c (Own.no.add (zey s t))) (hi:zir s c σ t):
  zaz σ c (Own.no.add (zey s (t.after s x)))/\zir s c σ (t.after s x):=by
 have hf:t.found=false:=zb7 hk.fd hd
 obtain ⟨c1,c2,c3,c4,c5⟩:=hk.cl hd
 obtain ⟨m1,m2⟩:=c5 x hx
 obtain ⟨i1,i2⟩:=hi.now hf x hx
 rw [zeq hf hx] at he
 have hc:=hi.cl
 have hb:=zar.1 hs
 have hl:∀ y:Option Mc,(t.done=true->t.found=false->y=none):=fun y e=> by rw [hd] at e;cases e
 have hbind:∀ p:Int,(0<=p/\p < s.p)->zaz σ c (Own.no.add (.page p))->zaz σ c (Own.no.add (zey s (t.bind s p)))/\zir s c σ (t.bind s p):=fun p hp he=> by
  refine ⟨?_,⟨hc,hl _,fun _ y hy=> ?_⟩⟩
  ·rw [zeq (t:=t.bind s p) (x:= .bn (zfi s t.c p t.k)) hf rfl]
   exact he
  ·injection hy with hy
   subst hy
   refine ⟨⟨hc,fun _ j h0 h1=> ?_,fun e=> ?_⟩,⟨rfl,rfl⟩⟩
   ·simp only [zfi] at h1;omega
   ·rw [zy0 hs c1 hp c2] at e;cases e
 cases x with
 | tk y=>
  simp only [Sk.after]
  have hyk:y.k=t.k:=m2
  split
  ·rename_i hyf
   have h1:=(m1.en (m1.fd hyf).1).2.2
   refine ⟨?_,⟨hc,fun _ e=> (by cases e),fun e=> (by cases e)⟩⟩
   have:zey s (t.fin y.ep y.es)=zlr y:=by
    unfold zey zlr
    rw [if_pos hyf,h1,hyk];rfl
   rw [this];exact he
  ·rename_i hyf
   have ho:zmo s (.tk y)= .no:=by show zlr y=_;unfold zlr;rw [if_neg hyf]
   rw [ho] at he
   refine ⟨?_,⟨hc,hl _,fun _ z hz=> ?_⟩⟩
   ·rw [zeq (t:= { t with now:=some (.sc (ziq s t.c t.k t.first)) }) (x:= .sc (ziq s t.c t.k t.first)) hf rfl]
    exact he
   ·injection hz with hz;subst hz;exact ⟨hc,trivial⟩
 | sc y=>
  simp only [Sk.after]
  have hyk:y.k=t.k:=m2
  split
  ·rename_i hyf
   refine ⟨?_,⟨hc,fun _ e=> (by cases e),fun e=> (by cases e)⟩⟩
   have:zey s (t.fin (y.page s) y.i)=zln s y:=by
    unfold zey zln
    rw [if_pos hyf,hyk];rfl
   rw [this];exact he
  ·rename_i hyf
   have ho:zmo s (.sc y)= .no:=by show zln s y=_;unfold zln;rw [if_neg hyf]
   rw [ho] at he
   refine ⟨?_,⟨hc,hl _,fun _ z hz=> ?_⟩⟩
   ·rw [zeq (t:= { t with now:=some (.pc (zlu s t.c t.first)) }) (x:= .pc (zlu s t.c t.first)) hf rfl]
    exact he
   ·injection hz with hz;subst hz;exact ⟨hc,trivial⟩
 | pc y=>
  simp only [Sk.after]
  split
  ·rename_i hyf
   have ho:zmo s (.pc y)= .page (y.page s):=by show zls s y=_;unfold zls;rw [if_pos hyf]
   rw [ho] at he
   exact hbind _ (zpe (by omega)) he
  ·rename_i hyf
   have ho:zmo s (.pc y)= .no:=by show zls s y=_;unfold zls;rw [if_neg hyf]
   rw [ho] at he
   refine ⟨?_,⟨hc,fun _ _=> rfl,fun _ z hz=> by cases hz⟩⟩
   rw [zga (t:= { t with now:=none }) hf rfl]
   exact he
 | sp y=>
  simp only [Sk.after]
  have hlk:y.page=t.here s:=i2
  split
  ·rename_i hyf
   have ho:zmo s (.sp y)= .page y.page:=by show zhd y=_;unfold zhd;rw [if_pos hyf]
   rw [ho,hlk] at he
   exact hbind _ (zpe (by omega)) he
  ·rename_i hyf
   have h0:=i1.2 hxd (by simpa using hyf)
   refine ⟨?_,⟨hc,fun _ _=> rfl,fun _ z hz=> by cases hz⟩⟩
   rw [zga (t:=t.turn s) hf rfl]
   exact he.eqv (.add _ (zia (by simpa using hyf) h0))
 | bn y=>
  simp only [Sk.after]
  have hlk:y.page=t.page/\y.k=t.k:=i2
  have h0:=i1.2.2 hxd
  refine ⟨?_,⟨hc,fun _ e=> (by cases e),fun e=> (by cases e)⟩⟩
  have e1:zey s (t.fin t.page 0)= .way t.page 0 t.k:=rfl
  have e2:zmo s (.bn y)= .ways t.page 1 t.k:=by show zhe y=_;unfold zhe;rw [if_pos h0.1,h0.2,hlk.1,hlk.2];rfl
  rw [e2] at he
  rw [e1]
  exact he.eqv (.add _ (Own.z8j _ _))
theorem zk9 (hs:mayB s.p s.c s.m=true) (n:Nat):∀ {t:Sk},skOk s t->zaz σ c (Own.no.add (zey s t))->zir s c σ t->zaz σ c (Own.no.add (zey s (za5 s n t)))/\zir s c σ (za5 s n t):=by
 induction n with
 | zero=> intro t _ he hi;exact ⟨he,hi⟩
 | succ n ih=>
  intro t hk he hi
  unfold za5
  split
  ·rename_i x hx
   split
   ·rename_i hc
    have h1:=zu3 hs hk hc.1 hx hc.2 he hi
    exact ih (zid hk hc.1 hx hc.2 (zar.1 hs).1) h1.1 h1.2
   ·exact ⟨he,hi⟩
  ·exact ⟨he,hi⟩
theorem ya8 {m:Mem} {t:Sk} (hr:Rep s m σ) (hg:GI s σ) (hk:skOk s t) (hset:zvw t) (hd:t.done=false) (he:zaz σ c (Own.no.add (zey s t))) (hi:zir s c σ t):
  Goes s c σ (skA s t σ) .no (zey s) (zir s c)/\Calm σ (skA s t σ).2:=by
 have hs:=hr.may
 have hf:t.found=false:=zb7 hk.fd hd
 obtain ⟨c1,c2,c3,c4,c5⟩:=hk.cl hd
 unfold skA
 rw [if_neg (by rw [hd];decide)]
 cases hx:t.now with
 | some x=>
  have hxd:x.done=false:=by
   rcases hset with e | e | ⟨y,e,e2⟩
   ·rw [hd] at e;cases e
   ·rw [hx] at e;cases e
   ·rw [hx] at e;injection e with e;subst e;exact e2
  obtain ⟨i1,i2⟩:=hi.now hf x hx
  rw [zeq hf hx] at he
  obtain ⟨⟨g1,g2,g3⟩,g4,g5⟩:=ya5 hg (c5 x hx).1 hxd he i1
  have hk':skOk s { t with now:=some (mcA s x σ).1 }:=by
   refine ⟨fun _=> ⟨c1,c2,c3,c4,fun z hz=> ?_⟩,fun e=> (by have e:t.found=true:=e;rw [hf] at e;cases e)⟩
   injection hz with hz
   subst hz
   rw [<- (z9a hr hg (c5 x hx).1).1]
   exact ⟨zjq m (c5 x hx).1,zg1 (t:=t) m (c5 x hx).2⟩
  have hn:zaz (mcA s x σ).2 c (Own.no.add (zey s { t with now:=some (mcA s x σ).1 })):=by
   rw [zeq (t:= { t with now:=some (mcA s x σ).1 }) (x:=(mcA s x σ).1) hf rfl];exact g2
  have hn2:zir s c (mcA s x σ).2 { t with now:=some (mcA s x σ).1 }:=⟨hi.cl,fun e=> (by have e:t.done=true:=e;rw [hd] at e;cases e),fun _ y hy=> by
   injection hy with hy;subst hy
   refine ⟨g3,?_⟩
   have:=g5 t i2
   cases hm:(mcA s x σ).1 <;> rw [hm] at this <;> exact this⟩
  have h1:=zk9 hs 5 hk' hn hn2
  exact ⟨⟨g1,h1.1,h1.2⟩,g4⟩
 | none=>
  rw [zga hf hx] at he
  have hq:∀ t':Sk,zey s t'= .no\/(zey s t').Eqv .no->zir s c σ t'->Goes s c σ (t',σ) .no (zey s) (zir s c)/\Calm σ σ:=fun t' h1 h2=> by
   refine ⟨⟨Kept.refl hg,?_,h2⟩,Calm.refl _⟩
   rcases h1 with h1 | h1
   ·rw [h1];exact he
   ·exact he.eqv (.add _ h1.symm)
  have hturn:Goes s c σ (t.turn s,σ) .no (zey s) (zir s c)/\Calm σ σ:=hq _ (.inl (zga (t:=t.turn s) hf rfl)) ⟨hi.cl,fun _ _=> rfl,fun _ y hy=> by cases hy⟩
  dsimp only
  cases hp:σ.pg (t.here s) with
  | super k b=>
   refine hq _ (.inr ?_) ⟨hi.cl,fun e=> (by have e:t.done=true:=e;rw [hd] at e;cases e),fun _ y hy=> ?_⟩
   ·rw [zeq (t:= { t with now:=some (.sp (zfa s t.c (t.here s) k)) }) (x:= .sp (zfa s t.c (t.here s) k)) hf rfl]
    exact zia rfl rfl
   ·injection hy with hy;subst hy
    exact ⟨⟨hi.cl,fun _ _=> rfl⟩,rfl⟩
  | _=> exact hturn
end

section

variable {s:Sh} {σ σ':Ab} {c:Int}

def Own.run (h lo hi:Int):Own:=((Own.page h).add (.bodies h (h + 1) lo)).add (.pages lo hi)
inductive RnPh
 | found
 | dead
 | strip (x:Sp)
 | clear
 | undo
 | write
 | look
def Rn.ph (t:Rn):RnPh:=
 if t.found=true then .found else if t.done=true then .dead else if t.next=2 then (match t.strip with | some x=> .strip x | none=> .look)
 else if t.next=3 then .clear else if t.next=4 then .undo else if t.next=5 then .write else .look
def zf2 (t:Rn):Own:=match t.ph with
 | .found=> .run t.head (t.head + t.pages) (t.head + t.pages)
 | .dead=> .no
 | .strip x=> (Own.pages t.head t.at').add (zhd x)
 | .clear=> .pages t.head (t.at' + 1)
 | .undo=> .pages t.head t.i
 | .write=> .run t.head t.i (t.head + t.pages)
 | .look=> .pages t.head t.at'
def zfr (σ:Ab) (lo hi:Int):Prop:=∀ p i,lo<=p->p < hi->σ.sl p i= .none
def zz8 (c:Int) (σ:Ab) (t:Rn):Prop:=t.c=c/\match t.ph with
 | .found=> zfr σ t.head (t.head + 1)
 | .dead=> True
 | .strip x=> zfr σ t.head t.at'/\x.page=t.at'/\z4y c x
 | .clear=> t.head<=t.at'/\zfr σ t.head t.at'/\∀ j,0<=j->j < t.i->σ.sl t.at' j= .none
 | .undo=> zfr σ t.head t.i
 | .write=> zfr σ t.head (t.head + 1)/\zfr σ t.i (t.head + t.pages)
 | .look=> zfr σ t.head t.at'
theorem Own.zi7 {lo hi:Int} (h:hi<=lo):(Own.pages lo hi).Eqv .no:=by
 exact ⟨fun p=> ⟨fun h=> by have h1:=h.1;have h2:=h.2;omega,fun h=> h.elim⟩,fun _ _=> .rfl,fun _ _ _=> .rfl⟩
theorem Own.zks {lo hi:Int} (h:lo<=hi):((Own.pages lo hi).add (.page hi)).Eqv (.pages lo (hi + 1)):=by
 refine ⟨fun p=> ?_,fun _ _=> or_iff_left id,fun _ _ _=> or_iff_left id⟩
 simp only [Own.add,Own.page,Own.pages]
 omega
theorem Own.z2n {h hi:Int} (hl:h < hi):(Own.pages h hi).Eqv (.run h (h + 1) hi):=by
 refine ⟨fun p=> ?_,fun p g=> ?_,fun _ _ _=> ?_⟩ <;> simp only [Own.run,Own.add,Own.page,Own.bodies,Own.pages,or_false,false_or,iff_false,false_iff] <;> (try omega)
theorem zfr.same {lo hi:Int} (h:zfr σ lo hi) (hh:∀ p,lo<=p->p < hi->σ.pg p= .held c) (hs:Same c σ σ'):zfr σ' lo hi:=fun p i h0 h1=> (hs.hs p i (hh p h0 h1)).trans (h p i h0 h1)
theorem zz8.same {t:Rn} (he:zaz σ c (zf2 t)) (h:zz8 c σ t) (hs:Same c σ σ'):zz8 c σ' t:=by
 obtain ⟨h1,h2⟩:=h
 refine ⟨h1,?_⟩
 unfold zf2 at he
 cases hp:t.ph with
 | found=>
  rw [hp] at he h2
  exact h2.same (fun p h0 h1=> (he.h p).2 (.inl (.inl (show p=t.head by omega)))) hs
 | dead=> trivial
 | strip x=>
  rw [hp] at he h2
  exact ⟨h2.1.same (fun p h0 h1=> (he.h p).2 (.inl ⟨h0,h1⟩)) hs,h2.2⟩
 | clear=>
  rw [hp] at he h2
  exact ⟨h2.1,h2.2.1.same (fun p h0 h1=> (he.h p).2 ⟨h0,by omega⟩) hs,fun j h0 h1=> (hs.hs _ _ ((he.h _).2 ⟨h2.1,by omega⟩)).trans (h2.2.2 j h0 h1)⟩
 | undo=>
  rw [hp] at he h2
  exact h2.same (fun p h0 h1=> (he.h p).2 ⟨h0,h1⟩) hs
 | write=>
  rw [hp] at he h2
  exact ⟨h2.1.same (fun p h0 h1=> (he.h p).2 (.inl (.inl (show p=t.head by omega)))) hs,h2.2.same (fun p h0 h1=> (he.h p).2 (.inr ⟨h0,h1⟩)) hs⟩
 | look=>
  rw [hp] at he h2
  exact h2.same (fun p h0 h1=> (he.h p).2 ⟨h0,h1⟩) hs
def RnIn (c:Int) (σ:Ab) (t:Rn):Prop:=zaz σ c (zf2 t)/\zz8 c σ t
theorem zj2 {t:Rn} (hp:t.ph= .look) (hc:t.c=c) (he:zaz σ c (.pages t.head t.at')) (hb:zfr σ t.head t.at'):RnIn c σ t:=by
 refine ⟨?_,hc,?_⟩
 ·unfold zf2;rw [hp];exact he
 ·rw [hp];exact hb
theorem zk6 {t:Rn} (hf:t.found=false) (hd:t.done=false) (hn:t.next=5) (hc:t.c=c) (he:zaz σ c (.run t.head (t.i + 1) (t.head + t.pages))) (h1:zfr σ t.head (t.head + 1)) (h2:zfr σ (t.i + 1) (t.head + t.pages)):RnIn c σ t.written:=by
 unfold Rn.written
 split
 ·rename_i e
  have hp:({ t with i:=t.i + 1,found:=true,done:=true }:Rn).ph= .found:=by unfold Rn.ph;rw [if_pos rfl]
  refine ⟨?_,hc,?_⟩
  ·unfold zf2;rw [hp];dsimp only;rw [e] at he;exact he
  ·rw [hp];exact h1
 ·have hp:({ t with i:=t.i + 1 }:Rn).ph= .write:=by
   unfold Rn.ph;dsimp only
   rw [hf,hd,hn];rfl
  refine ⟨?_,hc,?_⟩
  ·unfold zf2;rw [hp];exact he
  ·rw [hp];exact ⟨h1,h2⟩
theorem zw9 {t:Rn} (hf:t.found=false) (hd:t.done=false) (hc:t.c=c) (hp:1<=t.pages) (hl:t.head<=t.at') (he:zaz σ c (.pages t.head (t.at' + 1))) (hb:zfr σ t.head (t.at' + 1)):RnIn c σ t.own:=by
 unfold Rn.own
 split
 ·rename_i e
  refine zk6 hf hd rfl hc ?_ (fun p i h0 h1=> hb p i h0 (by dsimp only at h1;omega)) (fun p i h0 h1=> hb p i (by dsimp only at h0;omega) (by dsimp only at h1;omega))
  dsimp only
  rw [e] at he
  exact he.eqv (Own.z2n (by omega))
 ·refine zj2 ?_ hc he hb
  unfold Rn.ph;dsimp only
  rw [hf,hd];rfl
theorem ztf {t:Rn} (hf:t.found=false) (hd:t.done=false) (hn:t.next=4) (hc:t.c=c) (he:zaz σ c (.pages t.head t.i)) (hb:zfr σ t.head t.i):RnIn c σ (t.gone s):=by
 unfold Rn.gone
 split
 ·have hp:t.ph= .undo:=by unfold Rn.ph;rw [hf,hd,hn];rfl
  refine ⟨?_,hc,?_⟩
  ·unfold zf2;rw [hp];exact he
  ·rw [hp];exact hb
 ·rename_i hlt
  have he':zaz σ c .no:=he.eqv (Own.zi7 (by omega))
  rcases Bool.eq_false_or_eq_true (decide (s.p - t.pages < t.at' + 1)) with e | e
  ·rw [e]
   refine ⟨?_,hc,?_⟩
   ·unfold zf2 Rn.ph;dsimp only;rw [hf];exact he'
   ·unfold Rn.ph;dsimp only;rw [hf];trivial
  ·rw [e]
   refine zj2 ?_ hc (he'.eqv (Own.zi7 (by dsimp only;omega)).symm) (fun p i h0 h1=> by dsimp only at h0 h1;omega)
   unfold Rn.ph;dsimp only;rw [hf];rfl
theorem zmj {t:Rn} (hf:t.found=false) (hd:t.done=false) (hc:t.c=c) (he:zaz σ c (.pages t.head t.at')) (hb:zfr σ t.head t.at'):RnIn c σ (t.miss s):=
 ztf (t:= { t with next:=4,i:=t.at' }) hf hd rfl hc he hb
structure z8t (s:Sh) (c:Int) (σ:Ab) (r:Rn × Ab):Prop where
 kept:Kept s c σ r.2
 at':RnIn c r.2 r.1
 calm:Calm σ r.2
theorem ycn {t:Rn} (hs:mayB s.p s.c s.m=true) (hg:GI s σ) (hk:rnOk s t) (hd:t.done=false) (h:RnIn c σ t):z8t s c σ (rnA s t σ):=by
 have hf:t.found=false:=zb7 (fun e=> ⟨(hk.fd e).1,trivial⟩) hd
 obtain ⟨c1,c2,c3,c4,c5,c6,c7,c8,c9,c10⟩:=hk.cl hd
 obtain ⟨he,hc,hi⟩:=h
 rw [hc] at c1
 unfold rnA
 rw [if_neg (by rw [hd];decide)]
 have quiet:∀ t',RnIn c σ t'->z8t s c σ (t',σ):=fun t' h=> ⟨Kept.refl hg,h,Calm.refl _⟩
 by_cases h0:t.next=0
 ·rw [if_pos h0]
  have hp:t.ph= .look:=by unfold Rn.ph;rw [hf,hd,h0];rfl
  unfold zf2 at he
  rw [hp] at he hi
  have hmiss:RnIn c σ (t.miss s):=zmj hf hd hc he hi
  cases hx:σ.pg t.at' with
  | empty=>
   refine quiet _ (zj2 ?_ hc he hi)
   unfold Rn.ph;dsimp only;rw [hf,hd];rfl
  | super k b=>
   refine quiet _ ⟨?_,hc,?_⟩
   ·have:({ t with next:=2,strip:=some (zfa s t.c t.at' k) }:Rn).ph= .strip (zfa s t.c t.at' k):=by unfold Rn.ph;dsimp only;rw [hf,hd];rfl
    unfold zf2
    rw [this]
    exact (he.eqv (Own.Eqv.zeb _).symm).eqv (.add _ (zia rfl rfl).symm)
   ·have:({ t with next:=2,strip:=some (zfa s t.c t.at' k) }:Rn).ph= .strip (zfa s t.c t.at' k):=by unfold Rn.ph;dsimp only;rw [hf,hd];rfl
    rw [this]
    exact ⟨hi,rfl,hc,fun _ _=> rfl⟩
  | _=> exact quiet _ hmiss
 ·rw [if_neg h0]
  by_cases h1:t.next=1
  ·rw [if_pos h1]
   have hp:t.ph= .look:=by unfold Rn.ph;rw [hf,hd,h1];rfl
   unfold zf2 at he
   rw [hp] at he hi
   have hr:=c6 (by omega)
   by_cases hx:σ.pg t.at'= .empty
   ·rw [if_pos hx,hc]
    have hbare:=zm3 hg (.inl hx)
    refine ⟨zi0 hg hx (by omega) c1,zw9 hf hd hc c2.1 c4.1 ((zh4 hg he hx).eqv (Own.zks c4.1)) (fun p i a b=> ?_),zdt (fun n e=> by cases e) (fun n e=> by rw [hx] at e;cases e)⟩
    show σ.sl p i= .none
    by_cases e:p=t.at'
    ·rw [e];exact hbare i
    ·exact hi p i a (by omega)
   ·rw [if_neg hx]
    exact quiet _ (zmj hf hd hc he hi)
  ·rw [if_neg h1]
   by_cases h2:t.next=2
   ·rw [if_pos h2]
    obtain ⟨x,hx,hxo,hxd⟩:=c7 h2
    have hr:=c6 (by omega)
    have hp:t.ph= .strip x:=by unfold Rn.ph;rw [hf,hd,h2,hx];rfl
    unfold zf2 at he
    rw [hp] at he hi
    obtain ⟨hb,hxp,hxi⟩:=hi
    rw [hx]
    dsimp only
    obtain ⟨⟨g1,g2,g3⟩,g4,g5⟩:=z4c hg hxo hxd (R:=Own.pages t.head t.at') (fun _ _ e=> e) he hxi
    have hb':zfr (spA s x σ).2 t.head t.at':=fun p i a b=> by
     have hpp:σ.pg p= .held c:=(he.h p).2 (.inl ⟨a,b⟩)
     have hne:p≠x.page:=by omega
     rw [<- hb p i a b]
     have hsp:∀ q u,q≠p->(σ.page q u).sl p i=σ.sl p i:=fun q u _=> rfl
     unfold spA
     split
     ·rfl
     ·split
      ·exact zbq _ _ (fun e=> hne e.1)
      ·split
       ·rfl
       ·split
        ·exact zbq _ _ (fun e=> hne e.1)
        ·rfl
    rcases Bool.eq_false_or_eq_true (spA s x σ).1.held with e | e
    ·rw [if_pos e]
     have hph:({ t with strip:=some (spA s x σ).1,next:=3,i:=0 }:Rn).ph= .clear:=by unfold Rn.ph;dsimp only;rw [hf,hd];rfl
     refine ⟨g1,⟨?_,hc,?_⟩,g4⟩
     ·unfold zf2
      rw [hph]
      have:zhd (spA s x σ).1= .page t.at':=by unfold zhd;rw [if_pos e,g5,hxp]
      rw [this] at g2
      exact g2.eqv (Own.zks c4.1)
     ·rw [hph];exact ⟨c4.1,hb',fun j a b=> by dsimp only at b;omega⟩
    ·rw [if_neg (by rw [e];decide)]
     rcases Bool.eq_false_or_eq_true (spA s x σ).1.done with e2 | e2
     ·rw [if_pos e2]
      have h00:=g3.2 e2 e
      exact ⟨g1,zmj (t:= { t with strip:=some (spA s x σ).1 }) hf hd hc ((g2.eqv (.add _ (zia e h00))).eqv (.zeb _)) hb',g4⟩
     ·rw [if_neg (by rw [e2];decide)]
      have hph:({ t with strip:=some (spA s x σ).1 }:Rn).ph= .strip (spA s x σ).1:=by unfold Rn.ph;dsimp only;rw [hf,hd,h2];rfl
      refine ⟨g1,⟨?_,hc,?_⟩,g4⟩
      ·unfold zf2;rw [hph];exact g2
      ·rw [hph];exact ⟨hb',g5.trans hxp,g3⟩
   ·rw [if_neg h2]
    by_cases h3:t.next=3
    ·rw [if_pos h3]
     have hr:=c6 (by omega)
     have h8:=c8 h3
     have hp:t.ph= .clear:=by unfold Rn.ph;rw [hf,hd,h3];rfl
     unfold zf2 at he
     rw [hp] at he hi
     have hpg:σ.pg t.at'= .held c:=(he.h _).2 ⟨c4.1,by omega⟩
     have hkp:=zgw hg hpg (i:=t.i) (u:= .none) (.inl rfl)
     have hex:=ziy (i:=t.i) (u:= .none) he hpg
     have hcm:Calm σ (σ.slot t.at' t.i .none):=zdn (fun n e=> by cases e) (fun n e=> by rcases zgg hg hpg t.i with e2 | e2;(rw [e2] at e;cases e);(rw [e2.1] at e;cases e))
     have hb':zfr (σ.slot t.at' t.i .none) t.head t.at':=fun p i a b=> by rw [zbq _ _ (fun e=> by omega)];exact hi.2.1 p i a b
     have hj:∀ j,0<=j->j < t.i + 1->(σ.slot t.at' t.i .none).sl t.at' j= .none:=fun j a b=> by
      by_cases e:j=t.i
      ·subst e;exact zbs _ _ _ _
      ·rw [zbq _ _ (fun e2=> e e2.2)];exact hi.2.2 j a (by omega)
     refine ⟨hkp,?_,hcm⟩
     by_cases e:t.i + 1=16
     ·rw [if_pos e]
      refine zw9 (t:= { t with i:=t.i + 1 }) hf hd hc c2.1 c4.1 hex (fun p i a b=> ?_)
      dsimp only at b
      by_cases ep:p=t.at'
      ·subst ep
       by_cases hin:0<=i/\i < 16
       ·exact hj i hin.1 (by omega)
       ·have:(σ.slot t.at' t.i .none).pg t.at'= .held c:=hpg
        rcases zgg hkp.1 this i with e3 | e3
        ·exact e3
        ·exact absurd e3.2 hin
      ·exact hb' p i a (by omega)
     ·rw [if_neg e]
      have hph:({ t with i:=t.i + 1 }:Rn).ph= .clear:=by unfold Rn.ph;dsimp only;rw [hf,hd,h3];rfl
      refine ⟨?_,hc,?_⟩
      ·unfold zf2;rw [hph];exact hex
      ·rw [hph];exact ⟨c4.1,hb',hj⟩
    ·rw [if_neg h3]
     by_cases h4:t.next=4
     ·rw [if_pos h4]
      have h9:=c9 h4
      have hp:t.ph= .undo:=by unfold Rn.ph;rw [hf,hd,h4];rfl
      unfold zf2 at he
      rw [hp] at he hi
      have he2:zaz σ c ((Own.pages t.head (t.i - 1)).add (.page (t.i - 1))):=he.eqv (by
       have:=Own.zks (lo:=t.head) (hi:=t.i - 1) (by omega)
       rw [show t.i - 1 + 1=t.i by omega] at this
       exact this.symm)
      have hpg:σ.pg (t.i - 1)= .held c:=(he2.h _).2 (.inr rfl)
      have hnb:∀ q,σ.pg q≠ .body (t.i - 1):=fun q e=> by
       rcases (he2.b q _).1 ⟨e,hpg⟩ with e | e <;> exact e
      have hbare:∀ i,σ.sl (t.i - 1) i= .none:=fun i=> hi _ i (by omega) (by omega)
      refine ⟨zg7 hg hpg hbare hnb,ztf (t:= { t with i:=t.i - 1 }) hf hd h4 hc (zi1 he2 (fun e=> by have e2:t.i - 1 < t.i - 1:=e.2;omega) hnb) (fun p i a b=> hi p i a (by have b:p < t.i - 1:=b;omega)),zdt (fun n e=> by cases e) (fun n e=> by rw [hpg] at e;cases e)⟩
     ·rw [if_neg h4]
      have h5:t.next=5:=by omega
      have h10:=c10 h5
      have hp:t.ph= .write:=by unfold Rn.ph;rw [hf,hd,h5];rfl
      unfold zf2 at he
      rw [hp] at he hi
      have he2:zaz σ c ((((Own.page t.head).add (.bodies t.head (t.head + 1) t.i)).add (.pages (t.i + 1) (t.head + t.pages))).add (.page t.i)):=he.eqv (by
       refine ⟨fun p=> ?_,fun p g=> ?_,fun _ _ _=> ?_⟩ <;> simp only [Own.run,Own.add,Own.page,Own.bodies,Own.pages,or_false,false_or,iff_false,false_iff] <;> (try omega))
      have hpg:σ.pg t.i= .held c:=(he2.h _).2 (.inr rfl)
      have hhd:σ.pg t.head= .held c:=(he2.h _).2 (.inl (.inl (.inl rfl)))
      have hnb:∀ q,σ.pg q≠ .body t.i:=fun q e=> by
       rcases (he2.b q _).1 ⟨e,hpg⟩ with ((e | e) | e) | e
       ·exact e
       ·have:=e.1;omega
       ·exact e
       ·exact e
      have hbare:∀ i,σ.sl t.i i= .none:=fun i=> hi.2 _ i (by omega) (by omega)
      refine ⟨zqm hg hpg hbare hnb hhd (by omega),zk6 hf hd h5 hc ?_ hi.1 (fun p i a b=> hi.2 p i (by omega) b),zdt (fun n e=> by cases e) (fun n e=> by rw [hpg] at e;cases e)⟩
      refine (zn5 he2 ?_ hnb (.inl (.inl rfl)) (by omega)).eqv ?_
      ·intro e
       simp only [Own.add,Own.page,Own.bodies,Own.pages,or_false,false_or] at e
       omega
      ·refine ⟨fun p=> ?_,fun p g=> ?_,fun _ _ _=> ?_⟩ <;> simp only [Own.run,Own.add,Own.page,Own.bodies,Own.pages,or_false,false_or,iff_false,false_iff] <;> (try omega)
end

end Go.Proofs.YtampacmmhhilaaaGreat
