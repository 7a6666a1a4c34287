/- Texts bound together: InvE MchC MchM InvF. -/
import Derived.Test.YtkbddndcegpllaaGreatBt5

set_option linter.all false
namespace Go.Proofs.YtkbddndcegpllaaGreat

section
inductive Bl
 | lar (p n:Int)
 | sm (p i k:Int)
 deriving DecidableEq
def Ab.has (σ:Ab):Bl->Prop
 | .lar p n=> σ.pg p= .large n
 | .sm p i k=> σ.sl p i= .taken k
def Calm (σ σ':Ab):Prop:=∀ b,σ'.has b↔σ.has b
def Plus (b:Bl) (σ σ':Ab):Prop:=¬ σ.has b/\∀ x,σ'.has x↔(σ.has x\/x=b)
def zr4 (b:Bl) (σ σ':Ab):Prop:=σ.has b/\∀ x,σ'.has x↔(σ.has x/\x≠b)
section

variable {s:Sh} {σ:Ab} {c p:Int}

theorem Calm.refl(σ:Ab):Calm σ σ:=fun _=>.rfl
theorem zjk(σ:Ab){q:Int}(v:PW)(n:Int)(h:q≠p):(σ.page p v).has (.lar q n)↔σ.has (.lar q n):=by
 unfold Ab.has;dsimp only;rw[zbd _ _ h]
theorem zjg(σ:Ab){i q j:Int}(u:SW)(k:Int)(h:¬ (q=p/\j=i)):(σ.slot p i u).has (.sm q j k)↔σ.has (.sm q j k):=by
 unfold Ab.has;dsimp only;rw[zbq _ _ h]
theorem zdt{v:PW}(f:∀ n,v≠ .large n)(j:∀ n,σ.pg p≠ .large n):Calm σ (σ.page p v):=by
 intro b;cases b with
 |lar q n=>
  by_cases e:q=p
  ·subst e;unfold Ab.has;dsimp only;rw[za4];exact⟨fun e=>absurd e (f n),fun e=>absurd e (j n)⟩
  exact zjk σ v n e
 |sm q i k=>exact .rfl
theorem zdn{i:Int}{u:SW}(f:∀ n,u≠ .taken n)(l:∀ n,σ.sl p i≠ .taken n):Calm σ (σ.slot p i u):=by
 intro b;cases b with
 |lar q n=>exact .rfl;|sm q j k=>
  by_cases e:q=p/\j=i
  ·obtain⟨rfl,rfl⟩:=e;unfold Ab.has;dsimp only;rw[zbs];exact⟨fun e=>absurd e (f k),fun e=>absurd e (l k)⟩
  exact zjg σ u k e
theorem zpy{i:Int}{u:MW}:Calm σ (σ.mag c i u):=fun b=>by cases b<;>exact .rfl
theorem ztg{u:TW}:Calm σ (σ.stat c u):=fun b=>by cases b<;>exact .rfl
theorem z1n{n:Int}(f:∀ n,σ.pg p≠ .large n):Plus (.lar p n) σ (σ.page p (.large n)):=by
 refine⟨f n,fun b=>?_⟩;cases b with
 |lar q y=>
  by_cases e:q=p
  ·subst e;unfold Ab.has;dsimp only;rw[za4];constructor
   ·intro e;injection e with e;subst e;exact .inr rfl
   rintro(e|e)
   ·exact absurd e (f y)
   injection e with _ e;rw[e]
  rw[zjk σ _ y e];exact⟨.inl,fun h=>h.elim id fun h=>by injection h with h _;exact absurd h e⟩
 |sm q i k=>exact⟨.inl,fun h=>h.elim id fun h=>by cases h⟩
theorem z1b{i k:Int}(f:∀ n,σ.sl p i≠ .taken n):Plus (.sm p i k) σ (σ.slot p i (.taken k)):=by
 refine⟨f k,fun b=>?_⟩;cases b with
 |lar q n=>exact⟨.inl,fun h=>h.elim id fun h=>by cases h⟩;|sm q j y=>
  by_cases e:q=p/\j=i
  ·obtain⟨rfl,rfl⟩:=e;unfold Ab.has;dsimp only;rw[zbs];constructor
   ·intro e;injection e with e;subst e;exact .inr rfl
   rintro(e|e)
   ·exact absurd e (f y)
   injection e with _ _ e;rw[e]
  rw[zjg σ _ y e];exact⟨.inl,fun h=>h.elim id fun h=>by injection h with h l _;exact absurd ⟨h,l⟩ e⟩
theorem zy2{n:Int}{v:PW}(l:∀ n,v≠ .large n)(f:σ.pg p= .large n):zr4 (.lar p n) σ (σ.page p v):=by
 refine⟨f,fun b=>?_⟩;cases b with
 |lar q y=>
  by_cases e:q=p
  ·subst e;unfold Ab.has;dsimp only;rw[za4];constructor
   ·intro e;exact absurd e (l y)
   rintro⟨e,j⟩;rw[f]at e;injection e with e;subst e;exact absurd rfl j
  rw[zjk σ _ y e];exact⟨fun h=>⟨h,fun h=>by injection h with h _;exact e h⟩,And.left⟩
 |sm q i k=>exact⟨fun h=>⟨h,fun h=>by cases h⟩,And.left⟩
theorem zzw{i k:Int}{u:SW}(o:∀ n,u≠ .taken n)(f:σ.sl p i= .taken k):zr4 (.sm p i k) σ (σ.slot p i u):=by
 refine⟨f,fun b=>?_⟩;cases b with
 |lar q n=>exact⟨fun h=>⟨h,fun h=>by cases h⟩,And.left⟩;|sm q j y=>
  by_cases e:q=p/\j=i
  ·obtain⟨rfl,rfl⟩:=e;unfold Ab.has;dsimp only;rw[zbs];constructor
   ·intro e;exact absurd e (o y)
   rintro⟨e,l⟩;rw[f]at e;injection e with e;subst e;exact absurd rfl l
  rw[zjg σ _ y e];exact⟨fun h=>⟨h,fun h=>by injection h with h m _;exact e ⟨h,m⟩⟩,And.left⟩
end

def Own.Eqv (a b:Own):Prop:=(∀ p,a.h p↔b.h p)/\(∀ p g,a.b p g↔b.b p g)/\∀ p i k,a.w p i k↔b.w p i k
theorem zaz.eqv{σ:Ab}{c:Int}{a b:Own}(h:zaz σ c a)(e:a.Eqv b):zaz σ c b:=h.eq (fun p=>(e.1 p).symm) (fun p g=>(e.2.1 p g).symm) (fun p i k=>(e.2.2 p i k).symm)
theorem Own.Eqv.refl(a:Own):a.Eqv a:=⟨fun _=>.rfl,fun _ _=>.rfl,fun _ _ _=>.rfl⟩
theorem Own.Eqv.symm{a b:Own}(h:a.Eqv b):b.Eqv a:=⟨fun p=>(h.1 p).symm,fun p g=>(h.2.1 p g).symm,fun p i k=>(h.2.2 p i k).symm⟩
theorem Own.Eqv.trans{a b c:Own}(h:a.Eqv b)(k:b.Eqv c):a.Eqv c:=⟨fun p=>(h.1 p).trans (k.1 p),fun p g=>(h.2.1 p g).trans (k.2.1 p g),fun p i j=>(h.2.2 p i j).trans (k.2.2 p i j)⟩
theorem Own.Eqv.add{a b:Own}(R:Own)(h:a.Eqv b):(R.add a).Eqv (R.add b):=⟨fun p=>or_congr .rfl (h.1 p),fun p g=>or_congr .rfl (h.2.1 p g),fun p i k=>or_congr .rfl (h.2.2 p i k)⟩
theorem Own.Eqv.zp7(a b c:Own):((a.add b).add c).Eqv (a.add (b.add c)):=⟨fun _=>or_assoc,fun _ _=>or_assoc,fun _ _ _=>or_assoc⟩
theorem Own.Eqv.zeb(a:Own):(a.add .no).Eqv a:=⟨fun _=>or_iff_left id,fun _ _=>or_iff_left id,fun _ _ _=>or_iff_left id⟩
structure Goes {T:Type} (s:Sh) (c:Int) (σ:Ab) (r:T × Ab) (R:Own) (own:T->Own) (I:Ab->T->Prop):Prop where
 kept:Kept s c σ r.2
 ex:zaz r.2 c (R.add (own r.1))
 inv:I r.2 r.1
variable {s:Sh} {σ σ':Ab} {c:Int} {R:Own}

theorem Own.z9l{a:Own}{p i k:Int}(h:a=Own.way p i k):a.Eqv (Own.no.add (Own.way p i k)):=by
 subst h;exact⟨fun _=>(or_iff_right id).symm,fun _ _=>(or_iff_right id).symm,fun _ _ _=>(or_iff_right id).symm⟩
def zlr (t:Tk):Own:=if t.found=true then .way t.ep t.es t.ek else .no
def zqu (c:Int) (σ:Ab) (t:Tk):Prop:=t.c=c/\(t.hit=true->t.done=false->σ.mg c t.i= .entry t.ep t.es t.ek)
theorem zqu.same{t:Tk}(h:zqu c σ t)(hs:Same c σ σ'):zqu c σ' t:=⟨h.1,fun a b=>(hs.m _).trans (h.2 a b)⟩
theorem yba{t:Tk}(n:GI s σ)(z:tkOk s t)(hd:t.done=false)(m:zaz σ c (R.add (zlr t)))(hi:zqu c σ t):Goes s c σ (tkA s t σ) R zlr (zqu c)/\Calm σ (tkA s t σ).2  :=by
 obtain⟨rfl,hi⟩:=hi;have j:t.found=false:=zb7 (fun e=>⟨(z.fd e).2,trivial⟩) hd;have B:zlr t= .no:=by unfold zlr;rw[j];rfl
 rw[B]at m;have q:∀ t':Tk,t'.found=false->zqu t.c σ t'->Goes s t.c σ (t',σ) R zlr (zqu t.c)/\Calm σ σ:=fun t' r y=>⟨⟨Kept.refl n,by rw[show zlr t'= .no by unfold zlr;rw[r];rfl];exact m,y⟩,Calm.refl _⟩
 unfold tkA;rw[if_neg (by rw[hd];decide)];by_cases l:t.hit=true
 ·rw[if_pos l];have o:=hi l hd;refine⟨⟨zi4 n,?_,⟨rfl,fun _ e=>(by cases e)⟩⟩,zpy⟩;exact(znd n m o).eqv (.trans (.zp7 _ _ _) (.add R (Own.Eqv.symm (Own.z9l rfl))))
 rw[if_neg l];have f:¬ t.hit=true:=l;cases o:σ.mg t.c t.i with
 |none=>exact q _ j ⟨rfl,fun e=>absurd e f⟩;|entry p i k=>
  dsimp only;by_cases b:k=t.k
  ·rw[if_pos b];exact q _ j ⟨rfl,fun _ _=>o⟩
  rw[if_neg b];exact q _ j ⟨rfl,fun e=>absurd e f⟩
def zlt (t:Pu):Own:=if t.put=true then .no else .way t.ep t.es t.ek
def zp5 (c:Int) (σ:Ab) (t:Pu):Prop:=t.c=c/\(t.hit=true->t.done=false->σ.mg c t.i= .none)/\(t.put=true->t.done=true)
theorem zp5.same{t:Pu}(h:zp5 c σ t)(hs:Same c σ σ'):zp5 c σ' t:=⟨h.1,fun a b=>(hs.m _).trans (h.2.1 a b),h.2.2⟩
theorem z96{t:Pu}(q:GI s σ)(F:puOk s t)(hd:t.done=false)(E:∀ I,¬ R.w t.ep t.es I)(f:zaz σ c (R.add (zlt t)))(hi:zp5 c σ t):Goes s c σ (puA s t σ) R zlt (zp5 c)/\Calm σ (puA s t σ).2  :=by
 obtain⟨rfl,hi⟩:=hi;have j:t.put=false:=by
  cases h:t.put
  ·rfl
  rw[hi.2 h]at hd;cases hd
 have G:zlt t= .way t.ep t.es t.ek:=by unfold zlt;rw[j];rfl
 rw[G]at f;have H:=(f.w t.ep t.es t.ek).2 (.inl (.inr ⟨rfl,rfl,rfl⟩));obtain⟨⟨b,o⟩,hs⟩:=H;have n:=znc f o;unfold puA;rw[if_neg (by rw[hd];decide)];by_cases m:t.hit=true
 ·rw[if_pos m];have l:=hi.1 m hd;have hc:=F.cl hd;refine⟨⟨zqp q o hs n hc.2,?_,⟨rfl,fun _ e=>(by cases e),fun _=>rfl⟩⟩,zpy⟩;exact(zn8 f E o l).eqv (.symm (.zeb R))
 rw[if_neg m];have r:∀ t':Pu,t'.put=false->t'.ep=t.ep->t'.es=t.es->t'.ek=t.ek->zp5 t.c σ t'->Goes s t.c σ (t',σ) R zlt (zp5 t.c)/\Calm σ σ:=fun t' C y z B D=>⟨⟨Kept.refl q,by rw[show zlt t'= .way t.ep t.es t.ek by unfold zlt;rw[C,y,z,B];rfl];exact f,D⟩,Calm.refl _⟩
 by_cases l:σ.mg t.c t.i= .none
 ·rw[if_pos l];exact r _ j rfl rfl rfl ⟨rfl,fun _ _=>l,fun e=>(by have e:t.put=true:=e;rw[j]at e;cases e)⟩
 rw[if_neg l];exact r _ j rfl rfl rfl ⟨rfl,fun e=>absurd e m,fun e=>(by have e:t.put=true:=e;rw[j]at e;cases e)⟩
def zln (s:Sh) (t:Sc):Own:=if t.found=true then .way (t.page s) t.i t.k else .no
theorem zsw(s:Sh)(t:Sc):(t.turn s).found=t.found/\(t.turn s).c=t.c:=⟨rfl,rfl⟩
theorem zlf(s:Sh)(t:Sc):(t.miss s).found=t.found/\(t.miss s).c=t.c:=by unfold Sc.miss;split<;>exact⟨rfl,rfl⟩
theorem z1x{σ:Ab}{p i k:Int}(h:σ.sl p i= .opened k):∀ n,σ.sl p i≠ .taken n:=fun n e=>by rw[h]at e;cases e
theorem yb8{t:Sc}(j:GI s σ)(r:scOk s t)(hd:t.done=false)(l:zaz σ c (R.add (zln s t)))(hi:t.c=c):Goes s c σ (scA s t σ) R (zln s) (fun _ t=>t.c=c)/\Calm σ (scA s t σ).2  :=by
 subst hi;have q:t.found=false:=zb7 r.fd hd;have z:zln s t= .no:=by unfold zln;rw[q];rfl
 rw[z]at l;have f:∀ t':Sc,t'.found=t.found/\t'.c=t.c->Goes s t.c σ (t',σ) R (zln s) (fun _ t0=>t0.c=t.c)/\Calm σ σ:=fun t' h=>⟨⟨Kept.refl j,by rw[show zln s t'= .no by unfold zln;rw[h.1,q];rfl];exact l,h.2⟩,Calm.refl _⟩
 have hc:=r.cl hd;unfold scA;rw[if_neg (by rw[hd];decide)];by_cases m:t.next=0
 ·rw[if_pos m];split
  ·exact f _ ⟨rfl,rfl⟩
  exact f _ (zsw s t)
 rw[if_neg m];by_cases o:t.next=1
 ·rw[if_pos o];split
  ·exact f _ ⟨rfl,rfl⟩
  exact f _ (zlf s t)
 rw[if_neg o];by_cases hs:σ.sl (t.page s) t.i= .opened t.k
 ·rw[if_pos hs];obtain⟨⟨b,y⟩,_⟩:=zhs j (.inl hs);refine⟨⟨zf3 j y (.inl hs) hc.1,?_,rfl⟩,zdn (fun n e=>by cases e) (z1x hs)⟩;exact(zfc j l y (.inl hs)).eqv (.trans (.zp7 _ _ _) (.add R (Own.Eqv.symm (Own.z9l rfl))))
 rw[if_neg hs];exact f _ (zlf s t)
def zls (s:Sh) (t:Pc):Own:=if t.found=true then .page (t.page s) else .no
theorem Own.yab{a:Own}{p:Int}(h:a=Own.page p):a.Eqv (Own.no.add (Own.page p)):=by
 subst h;exact⟨fun _=>(or_iff_right id).symm,fun _ _=>(or_iff_right id).symm,fun _ _ _=>(or_iff_right id).symm⟩
theorem yb1{t:Pc}(f:GI s σ)(m:pcOk s t)(hd:t.done=false)(b:zaz σ c (R.add (zls s t)))(hi:t.c=c):Goes s c σ (pcA s t σ) R (zls s) (fun _ t=>t.c=c)/\Calm σ (pcA s t σ).2  :=by
 subst hi;have l:t.found=false:=zb7 m.fd hd;have o:zls s t= .no:=by unfold zls;rw[l];rfl
 rw[o]at b;have i:∀ t':Pc,t'.found=t.found/\t'.c=t.c->Goes s t.c σ (t',σ) R (zls s) (fun _ t0=>t0.c=t.c)/\Calm σ σ:=fun t' h=>⟨⟨Kept.refl f,by rw[show zls s t'= .no by unfold zls;rw[h.1,l];rfl];exact b,h.2⟩,Calm.refl _⟩
 have hc:=m.cl hd;have q:0<=t.page s/\t.page s<s.p:=zpe (by omega);unfold pcA;rw[if_neg (by rw[hd];decide)];by_cases j:t.empty=false
 ·rw[if_pos j];split
  ·exact i _ ⟨rfl,rfl⟩
  exact i _ ⟨rfl,rfl⟩
 rw[if_neg j];by_cases hs:σ.pg (t.page s)= .empty
 ·rw[if_pos hs];refine⟨⟨zi0 f hs q hc.1,?_,rfl⟩,zdt (fun n e=>by cases e) (fun n e=>by rw[hs]at e;cases e)⟩;exact(zh4 f b hs).eqv (.trans (.zp7 _ _ _) (.add R (Own.Eqv.symm (Own.yab rfl))))
 rw[if_neg hs];exact i _ ⟨rfl,rfl⟩
def zhd (t:Sp):Own:=if t.held=true then .page t.page else .ways t.page t.i t.k
def z4y (c:Int) (t:Sp):Prop:=t.c=c/\(t.done=true->t.held=false->t.i=0)
theorem Own.znw{p n k:Int}(h:0<=n):((Own.ways p n k).add (Own.way p n k)).Eqv (Own.ways p (n+1) k):=by
 refine⟨fun _=>or_iff_left id,fun _ _=>or_iff_left id,fun q i b=>?_⟩;simp only[Own.add,Own.ways,Own.way];omega
theorem z4c{t:Sp}(m:GI s σ)(F:spOk s t)(hd:t.done=false)(E:∀ i o,¬ R.w t.page i o)(q:zaz σ c (R.add (zhd t)))(hi:z4y c t):Goes s c σ (spA s t σ) R zhd (fun _ t=>z4y c t)/\Calm σ (spA s t σ).2/\(spA s t σ).1.page=t.page  :=by
 obtain⟨rfl,hi⟩:=hi;have B:t.held=false:=zb7 (fun e=>⟨F.fd e,trivial⟩) hd;have M:zhd t= .ways t.page t.i t.k:=by unfold zhd;rw[B];rfl
 rw[M]at q;obtain⟨c1,c2,c3,J,L⟩:=F.cl hd;unfold spA;rw[if_neg (by rw[hd];decide)];by_cases hb:t.back=true
 ·rw[if_pos hb];have H:=L hb;have y:zaz σ t.c ((R.add (.ways t.page (t.i-1) t.k)).add (.way t.page (t.i-1) t.k)):=by refine q.eqv (.trans (.add R (.symm ?_)) (.symm (.zp7 _ _ _)));have:=Own.znw (p:=t.page) (n:=t.i-1) (k:=t.k) (by omega);rwa [show t.i-1+1=t.i by omega]at this
  obtain⟨⟨b,f⟩,hs⟩:=(y.w t.page (t.i-1) t.k).2 (.inl (.inr ⟨rfl,rfl,rfl⟩));have z:∀ o,¬ (R.add (.ways t.page (t.i-1) t.k)).w t.page (t.i-1) o:=fun o e=>by
   rcases e with e|e
   ·exact E _ _ e
   have:=e.2.1;omega
  refine⟨⟨zc6 m f hs (.inl rfl) (znc y f),?_,⟨rfl,fun e _=>by simpa using e⟩⟩,zdn (fun n e=>by cases e) (fun n e=>by rw[hs]at e;cases e),rfl⟩;have:=zdd (u:= .opened t.k) y z f (.inl rfl);have l:zhd {t with i:=t.i-1,done:=decide (t.i-1=0)}= .ways t.page (t.i-1) t.k:=by unfold zhd;dsimp only;rw[B];rfl
  dsimp only;rw[l];exact this
 rw[if_neg hb];by_cases z:t.i=zah t.k
 ·rw[if_pos z];rw[z]at q;have I:=fun i C D=>(q.w t.page i t.k).2 (.inl (.inr ⟨rfl,⟨C,D⟩,rfl⟩));obtain⟨⟨b,f⟩,_⟩:=I 0 (Int.le_refl _) c3;have G:∀ j i o,σ.mg t.c j≠ .entry t.page i o:=fun j i o e=>by obtain⟨N,l⟩:=zds m e;rw[f]at l;injection l with l _;subst l;have r:=m.mf t.c j;rw[e]at r;exact q.d t.page i t.k j (.inr ⟨rfl,r.2.2,rfl⟩) e
  refine⟨⟨zn2 m f c1 (fun i C D=>(I i C D).2) G,?_,⟨rfl,fun _ e=>(by cases e)⟩⟩,zdt (fun n e=>by cases e) (fun n e=>by rw[f]at e;cases e),rfl⟩;exact znl m q f (fun i o=>E i o) G
 rw[if_neg z];by_cases hs:σ.sl t.page t.i= .opened t.k
 ·rw[if_pos hs];obtain⟨⟨b,f⟩,_⟩:=zhs m (.inl hs);refine⟨⟨zf3 m f (.inl hs) c1,?_,⟨rfl,fun e=>(by have e:t.done=true:=e;rw[hd]at e;cases e)⟩⟩,zdn (fun n e=>by cases e) (z1x hs),rfl⟩;have l:zhd {t with i:=t.i+1}= .ways t.page (t.i+1) t.k:=by unfold zhd;dsimp only;rw[B];rfl
  dsimp only;rw[l];exact(zfc m q f (.inl hs)).eqv (.trans (.zp7 _ _ _) (.add R (Own.znw J.1)))
 rw[if_neg hs];refine⟨⟨Kept.refl m,?_,⟨rfl,fun e _=>by simpa using e⟩⟩,Calm.refl _,rfl⟩;have l:zhd {t with back:=true,done:=decide (t.i=0)}= .ways t.page t.i t.k:=by unfold zhd;dsimp only;rw[B];rfl
 dsimp only;rw[l];exact q
def zhe (t:Bn):Own:=if t.bound=true then .ways t.page (t.i + 1) t.k else .page t.page
def zu0 (c:Int) (σ:Ab) (t:Bn):Prop:=t.c=c/\(t.bound=false->∀ j,0<=j->j < t.i->σ.sl t.page j=if j < zah t.k then .way c else .none)/\(t.done=true->t.bound=true/\t.i=0)
theorem zu0.same{t:Bn}(h:zu0 c σ t)(i:t.bound=false->σ.pg t.page= .held c)(hs:Same c σ σ'):zu0 c σ' t:=⟨h.1,fun hb j b f=>(hs.hs _ _ (i hb)).trans (h.2.1 hb j b f),h.2.2⟩
theorem yar{t:Bn}(B:GI s σ)(S:bnOk s t)(hd:t.done=false)(O:¬ R.h t.page)(G:∀ q,¬ R.b q t.page)(H:∀ i F,¬ R.w t.page i F)(o:zaz σ c (R.add (zhe t)))(hi:zu0 c σ t):Goes s c σ (bnA s t σ) R zhe (zu0 c)/\Calm σ (bnA s t σ).2/\(bnA s t σ).1.page=t.page/\(bnA s t σ).1.k=t.k  :=by
 obtain⟨rfl,hi⟩:=hi;obtain⟨c1,c2,c3,X,M⟩:=S.cl hd;unfold bnA;rw[if_neg (by rw[hd];decide)];by_cases hb:t.bound=true
 ·rw[if_pos hb];have L:=M hb;have I:zhe t= .ways t.page (t.i+1) t.k:=by unfold zhe;rw[hb];rfl
  rw[I]at o;have r:zaz σ t.c ((R.add (.ways t.page t.i t.k)).add (.way t.page t.i t.k)):=o.eqv (.trans (.add R (.symm (Own.znw (by omega)))) (.symm (.zp7 _ _ _)));obtain⟨⟨b,f⟩,hs⟩:=(r.w t.page t.i t.k).2 (.inl (.inr ⟨rfl,rfl,rfl⟩));have T:∀ F,¬ (R.add (.ways t.page t.i t.k)).w t.page t.i F:=fun F e=>by
   rcases e with e|e
   ·exact H _ _ e
   have:=e.2.1;omega
  refine⟨⟨zc6 B f hs (.inl rfl) (znc r f),?_,⟨rfl,fun e=>(by have e:t.bound=false:=e;rw[hb]at e;cases e),fun e=>⟨hb,by simpa using e⟩⟩⟩,zdn (fun n e=>by cases e) (fun n e=>by rw[hs]at e;cases e),rfl,rfl⟩;have l:zhe {t with i:=t.i-1,done:=decide (t.i-1=0)}= .ways t.page t.i t.k:=by unfold zhe;dsimp only;rw[if_pos hb,show t.i-1+1=t.i by omega]
  dsimp only;rw[l];exact zdd (u:= .opened t.k) r T f (.inl rfl)
 rw[if_neg hb];have m:t.bound=false:=by simpa using hb
 have I:zhe t= .page t.page:=by unfold zhe;rw[m];rfl
 rw[I]at o;have f:σ.pg t.page= .held t.c:=(o.h t.page).2 (.inr rfl);have D:∀ q,σ.pg q≠ .body t.page:=fun q e=>by
  rcases(o.b q t.page).1 ⟨e,f⟩ with e|e
  ·exact G q e
  exact e
 by_cases C:t.i=16
 ·rw[if_pos C];have E:∀ i,σ.sl t.page i=if 0<=i/\i<zah t.k then .way t.c else .none:=fun i=>by
   by_cases y:0<=i/\i<16
   ·have:=hi.1 m i y.1 (by omega);rw[this];by_cases z:i<zah t.k
    ·rw[if_pos z,if_pos ⟨y.1,z⟩]
    rw[if_neg z,if_neg (fun e=>z e.2)]
   have U:=zcy t.k;rw[if_neg (by omega)];rcases zgg B f i with e|e
   ·exact e
   exact absurd ⟨e.2.1,e.2.2⟩ y
  refine⟨⟨zpg B f (zgr c3) E D,?_,⟨rfl,fun e=>(by cases e),fun e=>(by have e:t.done=true:=e;rw[hd]at e;cases e)⟩⟩,zdt (fun n e=>by cases e) (fun n e=>by rw[f]at e;cases e),rfl,rfl⟩;have l:zhe {t with bound:=true,i:=zah t.k-1}= .ways t.page (zah t.k) t.k:=by unfold zhe;dsimp only;rw[if_pos rfl,show zah t.k-1+1=zah t.k by omega]
  dsimp only;rw[l];exact zn3 B o O E D
 rw[if_neg C];have V:(if t.i<zah t.k then SW.way t.c else SW.none)= .none\/((if t.i<zah t.k then SW.way t.c else SW.none)= .way t.c/\0<=t.i/\t.i<16):=by
  split
  ·exact .inr ⟨rfl,by omega,by omega⟩
  exact .inl rfl
 refine⟨⟨zgw B f V,?_,⟨rfl,fun _ j N z=>?_,fun e=>(by have e:t.done=true:=e;rw[hd]at e;cases e)⟩⟩,zdn (fun n e=>by split at e<;>cases e) (fun n e=>by rcases zgg B f t.i with l|l;(rw[l]at e;cases e);(rw[l.1]at e;cases e)),rfl,rfl⟩
 ·have l:zhe {t with i:=t.i+1}= .page t.page:=by unfold zhe;dsimp only;rw[m];rfl
  dsimp only;rw[l];exact ziy o f
 dsimp only at z ⊢;by_cases J:j=t.i
 ·subst J;rw[zbs]
 rw[zbq _ _ (fun e=>J e.2)];exact hi.1 m j N (by omega)
end

section
inductive Jb where
 | mal (r:Rs) (c:Option Cm)
 | fre (f:Fe)
 | aga (r:Rr)
 | hei (a:Ad)
 deriving DecidableEq
def zck (c:Option Cm):Bool:=match c with | some x=> x.done | none=> false
def Jb.done:Jb->Bool
 | .mal r c=> r.done && (!r.got.isSome || zck c)
 | .fre f=> f.done
 | .aga r=> r.done
 | .hei a=> a.done
def zhp (s:Sh) (cl:Int) (r:Rs) (c:Option Cm):Option Cm:=match c,r.got with
 | none,some b=> some (zc4 s cl b)
 | c,_=> c
def Jb.step (s:Sh) (cl:Int) (m:Mem):Jb->Jb × Mem
 | .mal r c=> if r.done=false then (.mal (zb0 s r m).1 c,(zb0 s r m).2) else match zhp s cl r c with
  | some x=> (.mal r (some (zb3 s x m).1),(zb3 s x m).2)
  | none=> (.mal r none,m)
 | .fre f=> (.fre (zca s f m).1,(zca s f m).2)
 | .aga r=> (.aga (zb9 s r m).1,(zb9 s r m).2)
 | .hei a=> (.hei (za0 s a m).1,(za0 s a m).2)
def Jb.gave:Jb->Bool
 | .mal _ _=> false
 | .fre f=> f.gave
 | .aga r=> (match r.free with | some f=> f.gave | none=> false)
 | .hei _=> false
def Jb.took:Jb->Option Blk
 | .mal r c=> if zck c=true then r.got else none
 | .fre _=> none
 | .aga r=> if r.done=true/\r.err=0 then (match r.res with | some x=> x.got | none=> none) else none
 | .hei _=> none
def Jb.err:Jb->Int
 | .mal r _=> if r.got.isSome=true then 0 else 3
 | .fre f=> if f.gave=true then 0 else 1
 | .aga r=> r.err
 | .hei a=> a.err
def zgl (s:Sh) (cl first kind a n:Int):Jb:=
 if kind=1 then .mal (zdh s cl n first) none
 else if kind=2 then .fre (zc2 s cl a)
 else if kind=3 then .aga (zhh s cl a n first)
 else .hei (zix s cl a)
def mcC:Mc->Int
 | .tk t=> t.c
 | .sc t=> t.c
 | .pc t=> t.c
 | .sp t=> t.c
 | .bn t=> t.c
def zf7 (s:Sh):Mc->Int
 | .tk t=> ziz s t
 | .sc t=> zee s t
 | .pc t=> zfg s t
 | .sp t=> zep t
 | .bn t=> zfx t
def zd4 (s:Sh) (t:Sk):Mc->Int
 | .tk _=> 67 * s.p + 32
 | .sc _=> 34 * s.p + 32
 | .pc _=> 32 * s.p + 32
 | .sp _=> 32 * (s.p - t.many - 1) + 32
 | .bn _=> 0
theorem yac{s:Sh}{x:Mc}{m:Mem}(h:mcOk s x)(hd:x.done=false)(b:Fits s m):Acts (mcC x) m (zbr s x m).2/\mcC (zbr s x m).1=mcC x/\zf7 s (zbr s x m).1+1<=zf7 s x:=by
 cases x with
 |tk t=>exact ybn h hd b
 |sc t=>exact yb3 h hd b
 |pc t=>exact z94 h hd b
 |sp t=>exact z1p h hd b
 |bn t=>exact ybe h hd b
theorem z9s(s:Sh)(t:Sk)(x:Mc)(m:Mem):zd4 s t (zbr s x m).1=zd4 s t x:=by cases x<;>rfl
theorem zry{s:Sh}{x:Mc}(h:mcOk s x):0<=zf7 s x:=by
 cases x with
 |tk t=>exact z1k h
 |sc t=>exact z1y h
 |pc t=>exact zz7 h
 |sp t=>exact znj h
 |bn t=>exact zz0 h
def zcm (s:Sh) (t:Sk):Int:=if t.done=true then 0 else match t.now with
 | none=> 32 * (s.p - t.many) + 32
 | some x=> zf7 s x + zd4 s t x
structure skIs (s:Sh) (cl k:Int) (t:Sk):Prop where
 ok:skOk s t
 c:t.c=cl
 k:t.k=k
 now:∀ x,t.now=some x->mcC x=cl
theorem zpk{s:Sh}{cl k:Int}{t:Sk}(h:skIs s cl k t){pg sl:Int}(b:skOk s (t.fin pg sl)):skIs s cl k (t.fin pg sl):=⟨b,h.c,h.k,h.now⟩
theorem z6t{s:Sh}{cl k:Int}{t:Sk}{x:Mc}(h:skIs s cl k t)(hd:t.done=false)(q:t.now=some x)(r:x.done=true)(o:1<=s.p):skIs s cl k (t.after s x)/\zcm s (t.after s x)<=zcm s t:=by
 have b:=zid h.ok hd q r o;obtain⟨c1,c2,c3,G,D⟩:=h.ok.cl hd;have n:=zry (D x q).1;have F:zcm s t=zf7 s x+zd4 s t x:=by unfold zcm;rw[if_neg (by rw[hd];decide),q]
 rw[F];have j:∀ pg sl,zcm s (t.fin pg sl)=0:=fun _ _=>rfl;have i:∀ p,zcm s (t.bind s p)<=32:=fun p=>by have:=(ydz s t.c p t.k).1;unfold zcm Sk.bind;dsimp only[zf7,zd4];rw[if_neg (by rw[hd];decide)];omega
 have f:∀ p,skOk s (t.bind s p)->skIs s cl k (t.bind s p):=fun p b=>⟨b,h.c,h.k,fun y C=>by
  simp only[Sk.bind,Option.some.injEq]at C
  subst C
  exact h.c⟩
 have B:zcm s (t.turn s)<=32*(s.p-t.many-1)+32:=by unfold zcm Sk.turn;dsimp only;simp only[decide_eq_true_eq];split<;>omega
 cases x with
 |tk y=>
  simp only[Sk.after]at b ⊢;split at b<;>rename_i l
  ·rw[if_pos l];refine⟨zpk h b,?_⟩;rw[j];have:zd4 s t (.tk y)=67*s.p+32:=rfl;omega
  rw[if_neg l];refine⟨⟨b,h.c,h.k,fun z m=>?_⟩,?_⟩
  ·simp only[Option.some.injEq]at m;subst m;exact h.c
  have:=(yem s t.c t.k t.first o).1;unfold zcm;dsimp only[zf7,zd4]at n ⊢;rw[if_neg (by rw[hd];decide)];omega
 |sc y=>
  simp only[Sk.after]at b ⊢;split at b<;>rename_i l
  ·rw[if_pos l];refine⟨zpk h b,?_⟩;rw[j];have:zd4 s t (.sc y)=34*s.p+32:=rfl;omega
  rw[if_neg l];refine⟨⟨b,h.c,h.k,fun z m=>?_⟩,?_⟩
  ·simp only[Option.some.injEq]at m;subst m;exact h.c
  have:=(ydt s t.c t.first o).1;unfold zcm;dsimp only[zf7,zd4]at n ⊢;rw[if_neg (by rw[hd];decide)];omega
 |pc y=>
  simp only[Sk.after]at b ⊢;split at b<;>rename_i l
  ·rw[if_pos l];refine⟨f _ b,?_⟩;have E:=i (y.page s);have:zd4 s t (.pc y)=32*s.p+32:=rfl;omega
  rw[if_neg l];refine⟨⟨b,h.c,h.k,fun z m=>(by cases m)⟩,?_⟩;unfold zcm;dsimp only[zf7,zd4]at n ⊢;rw[if_neg (by rw[hd];decide)];omega
 |sp y=>
  simp only[Sk.after]at b ⊢;have H:zd4 s t (.sp y)=32*(s.p-t.many-1)+32:=rfl;split at b<;>rename_i l
  ·rw[if_pos l];refine⟨f _ b,?_⟩;have E:=i (t.here s);omega
  rw[if_neg l];refine⟨⟨b,h.c,h.k,fun z m=>(by cases m)⟩,?_⟩;omega
 |bn y=>simp only[Sk.after]at b ⊢;refine⟨zpk h b,?_⟩;rw[j];have:zd4 s t (.bn y)=0:=rfl;omega
theorem ztn{s:Sh}{cl k:Int}(i:1<=s.p)(n:Nat):∀ {t:Sk},skIs s cl k t->skIs s cl k (za5 s n t)/\zcm s (za5 s n t)<=zcm s t:=by
 induction n with
 |zero=>intro t h;exact⟨h,Int.le_refl _⟩;|succ n l=>
  intro t h;unfold za5;split
  ·rename_i x j;split
   ·rename_i hc;have b:=z6t h hc.1 j hc.2 i;have f:=l b.1;exact⟨f.1,Int.le_trans f.2 b.2⟩
   exact⟨h,Int.le_refl _⟩
  exact⟨h,Int.le_refl _⟩
def zvw (t:Sk):Prop:=t.done=true\/t.now=none\/∃ x,t.now=some x/\x.done=false
theorem zzt{s:Sh}(n:Nat):∀ {t:Sk},zdj t<=n->zvw (za5 s n t):=by
 induction n with
 |zero=>
  intro t h;unfold zdj at h;unfold za5;split at h
  ·rename_i hd;exact .inl hd
  split at h<;>rename_i i<;>first|exact .inr (.inl i)|omega
 |succ n j=>
  intro t h;unfold za5;split
  ·rename_i x f;split
   ·rename_i hc;have:=ze1 (s:=s) hc.1 f;exact j (by omega)
   rename_i hc;rcases Bool.eq_false_or_eq_true t.done with hd|hd
   ·exact .inl hd
   rcases Bool.eq_false_or_eq_true x.done with b|b
   ·exact absurd ⟨hd,b⟩ hc
   exact .inr (.inr ⟨x,f,b⟩)
  rename_i f;exact .inr (.inl f)
theorem znq(s:Sh)(t:Sk):zvw (za5 s 5 t):=zzt 5 (Nat.le_trans (zrw t) (by decide))
theorem z2i{s:Sh}{t:Sk}(h:skOk s t):0<=zcm s t:=by
 unfold zcm;split
 ·omega
 rename_i hd;obtain⟨c1,c2,c3,i,b⟩:=h.cl (by simpa using hd);split
 ·omega
 rename_i x f;have j:=zry (b x f).1;have:0<=zd4 s t x:=by cases x<;>dsimp only[zd4]<;>omega
 omega
theorem yek{s:Sh}(c k f:Int)(n:mayB s.p s.c s.m=true):skIs s c k (zhb s c k f)/\zvw (zhb s c k f)/\zcm s (zhb s c k f)<=67*s.p+s.m+33:=by
 have hb:=zar.1 n;have j:=zwd s c k f;unfold zhb at j ⊢;split at j
 ·rename_i h;rw[if_pos h];have l:skIs s c k ⟨c,k,f,some (.tk (zg3 s c k)),0,0,0,false,false⟩:=by
   have i:=zbe h.1;have o:=zcs h.2.2;refine⟨⟨fun _=>⟨by dsimp only;omega,h.2.1,by dsimp only;omega,by dsimp only;omega,fun x b=>?_⟩,fun e=>(by cases e)⟩,rfl,rfl,fun x b=>?_⟩
   ·simp only[Option.some.injEq]at b;subst b;exact⟨zl1 _ _ _,rfl⟩
   simp only[Option.some.injEq]at b;subst b;rfl
  have i:=ztn (by omega) 5 l;refine⟨i.1,znq _ _,Int.le_trans i.2 ?_⟩;have:=(yde s c k (by omega)).1;unfold zcm;dsimp only[zf7,zd4];rw[if_neg (by decide)];omega
 rename_i h;rw[if_neg h];refine⟨⟨j,rfl,rfl,fun x b=>(by cases b)⟩,.inl rfl,?_⟩;unfold zcm;dsimp only;rw[if_pos rfl];omega
theorem ybz{s:Sh}{cl k:Int}{t:Sk}{m:Mem}(h:skIs s cl k t)(hs:zvw t)(hd:t.done=false)(r:Fits s m):Acts cl m (zbv s t m).2/\skIs s cl k (zbv s t m).1/\zvw (zbv s t m).1/\zcm s (zbv s t m).1+1<=zcm s t:=by
 have B:1<=s.p:=r.bd.1;obtain⟨c1,c2,c3,E,o⟩:=h.ok.cl hd;have y:=zb7 h.ok.fd hd
 have i:zcm s t=match t.now with
  |none=>32*(s.p-t.many)+32
  |some x=>zf7 s x+zd4 s t x:=by unfold zcm;rw[if_neg (by rw[hd];decide)]
 have f:=z2o m B h.ok;unfold zbv at f ⊢;rw[if_neg (by rw[hd];decide)]at f ⊢;rcases hs with hs|hs|⟨x,n,C⟩
 ·rw[hd]at hs;cases hs
 ·rw[hs]at f i ⊢;dsimp only at f i ⊢;have H:=t.zt4 B;refine⟨(Acts.load (r.zhu H)).of h.c,?_⟩;split at f<;>rename_i l
  ·rw[if_pos l];refine⟨⟨f,h.c,h.k,fun z b=>?_⟩,.inr (.inr ⟨_,rfl,?_⟩),?_⟩
   ·simp only[Option.some.injEq]at b;subst b;exact h.c
   ·have j:=(zea.1 l.1).2.1;have q:=zcs j;have D:=(zdq l.1 l.2).2.2;have G:0<=zae s.p s.c s.m t.c:=by unfold zae;rw[if_pos ⟨q.1,zbc.2 (by omega)⟩];exact c1.1
    simp[Mc.done,zfa,j,D,G]
   rw[i];have:=(z9n s t.c (t.here s) (za2 (m.get (zak s.p s.c s.m (t.here s))) 0)).1;unfold zcm;dsimp only[zf7,zd4];rw[if_neg (by rw[hd];decide)];omega
  rw[if_neg l];refine⟨⟨f,h.c,h.k,fun z b=>(by cases b)⟩,.inr (.inl rfl),?_⟩;rw[i];unfold zcm Sk.turn;dsimp only;simp only[decide_eq_true_eq];split<;>omega
 rw[n]at f i ⊢;dsimp only at f i ⊢;have j:=yac (o x n).1 C r;have hc:=h.now x n;have F:skIs s cl k {t with now:=some (zbr s x m).1}:=by
  refine⟨⟨fun _=>⟨c1,c2,c3,E,fun z b=>?_⟩,fun e=>(by have e:t.found=true:=e;rw[y]at e;cases e)⟩,h.c,h.k,fun z b=>?_⟩
  ·simp only[Option.some.injEq]at b;subst b;exact⟨zjq m (o x n).1,zg1 (t:=t) m (o x n).2⟩
  simp only[Option.some.injEq]at b;subst b;exact j.2.1.trans hc
 have q:=ztn B 5 F;refine⟨j.1.of hc,q.1,znq _ _,?_⟩;have D:zcm s {t with now:=some (zbr s x m).1}=zf7 s (zbr s x m).1+zd4 s t x:=by rw[<-z9s s t x m];unfold zcm;rw[if_neg (by rw[hd];decide)];cases (zbr s x m).1<;>rfl
 omega
def zct (s:Sh) (t:Rn):Int:=if t.done=true then 0
 else if t.next=0 then 50 * (s.p - t.at') + (t.at' - t.head) + 8
 else if t.next=1 then 50 * (s.p - t.at' - 1) + (t.at' - t.head) + 10
 else if t.next=2 then 50 * (s.p - t.at' - 1) + (match t.strip with | some x=> zep x | none=> 0) + (t.at' - t.head) + 25
 else if t.next=3 then 50 * (s.p - t.at' - 1) + (16 - t.i) + (t.at' - t.head) + 9
 else if t.next=4 then 50 * (s.p - t.at' - 1) + (t.i - t.head) + 8
 else t.head + t.pages - t.i
structure rnIs (s:Sh) (cl n:Int) (t:Rn):Prop where
 ok:rnOk s t
 c:t.c=cl
 n:t.pages=n
 st:∀ x,t.strip=some x->x.c=cl
theorem yev{s:Sh}{t:Rn}(h:rnOk s t)(hd:t.done=false):1<=zct s t:=by
 obtain⟨c1,c2,c3,q,r,b,j,l,m,f⟩:=h.cl hd;unfold zct;rw[if_neg (by rw[hd];decide)];split
 ·have:=b (by omega);omega
 split
 ·have:=b (by omega);omega
 split
 ·rename_i n2;have:=b (by omega);obtain⟨x,n,i,o⟩:=j n2;have:=znj i;rw[n];dsimp only;omega
 split
 ·rename_i n3;have:=b (by omega);have:=l n3;omega
 split
 ·rename_i n4;have:=b (by omega);have:=m n4;omega
 have:=f (by omega);omega
theorem z9e{s:Sh}{t:Rn}(hd:t.done=false)(f:1<=t.pages/\t.pages<=8)(i:t.head<=t.at'/\t.at'<t.head+t.pages)(j:t.head+t.pages<=s.p):zct s t.own<=50*(s.p-t.at'-1)+(t.at'+1-t.head)+8/\t.own.c=t.c/\t.own.pages=t.pages/\t.own.strip=t.strip:=by
 unfold Rn.own Rn.written;have b:¬ t.done=true:=by rw[hd];decide
 split
 ·dsimp only;split
  ·refine⟨?_,rfl,rfl,rfl⟩;unfold zct;dsimp only;rw[if_pos rfl];omega
  refine⟨?_,rfl,rfl,rfl⟩;unfold zct;dsimp only;rw[if_neg b,if_neg (by decide),if_neg (by decide),if_neg (by decide),if_neg (by decide),if_neg (by decide)];omega
 refine⟨?_,rfl,rfl,rfl⟩;unfold zct;dsimp only;rw[if_neg b,if_pos rfl];omega
theorem z3t{s:Sh}{t:Rn}(hd:t.done=false)(f:t.next=4)(j:t.pages<=s.p)(l:t.at'<s.p)(m:t.head<=t.i):zct s (t.gone s)<=50*(s.p-t.at'-1)+(t.i-t.head)+8/\(t.gone s).c=t.c/\(t.gone s).pages=t.pages/\(t.gone s).strip=t.strip:=by
 unfold Rn.gone;have b:¬ t.done=true:=by rw[hd];decide
 split
 ·refine⟨?_,rfl,rfl,rfl⟩;unfold zct;rw[if_neg b,if_neg (by omega),if_neg (by omega),if_neg (by omega),if_neg (by omega),if_pos f];omega
 refine⟨?_,rfl,rfl,rfl⟩;unfold zct;dsimp only;simp only[decide_eq_true_eq,if_true];split<;>omega
theorem zvx{s:Sh}{t:Rn}(hd:t.done=false)(b:t.pages<=s.p)(f:t.head<=t.at')(j:t.at'<s.p):zct s (t.miss s)<=50*(s.p-t.at'-1)+(t.at'-t.head)+8/\(t.miss s).c=t.c/\(t.miss s).pages=t.pages/\(t.miss s).strip=t.strip:=
 z3t (t:= {t with next:=4,i:=t.at'}) hd rfl b j f
theorem yat{s:Sh}{cl n:Int}{t:Rn}{m:Mem}(h:rnIs s cl n t)(hd:t.done=false)(G:Fits s m):Acts cl m (zcr s t m).2/\rnIs s cl n (zcr s t m).1/\zct s (zcr s t m).1+1<=zct s t:=by
 obtain⟨c1,c2,c3,I,c5,r,U,S,T,H⟩:=h.ok.cl hd;have l:¬ t.done=true:=by rw[hd];decide
 have b:=z0v m h.ok
 have Z:zct s t=if t.next=0 then 50*(s.p-t.at')+(t.at'-t.head)+8
  else if t.next=1 then 50*(s.p-t.at'-1)+(t.at'-t.head)+10
  else if t.next=2 then 50*(s.p-t.at'-1)+(match t.strip with|some x=>zep x|none=>0)+(t.at'-t.head)+25
  else if t.next=3 then 50*(s.p-t.at'-1)+(16-t.i)+(t.at'-t.head)+9
  else if t.next=4 then 50*(s.p-t.at'-1)+(t.i-t.head)+8
  else t.head+t.pages-t.i:=by unfold zct;rw[if_neg l]
 have q:∀ u:Rn,rnOk s u->u.c=t.c->u.pages=t.pages->(u.strip=t.strip\/∃ x,u.strip=some x/\x.c=t.c)->rnIs s cl n u:=fun u b V X J=>⟨b,V.trans h.c,X.trans h.n,fun x D=>by
  rcases J with J|⟨y,J,Y⟩
  ·exact h.st x (J ▸ D)
  ·rw[J]at D;injection D with D;subst D;exact Y.trans h.c⟩
 rw[Z];unfold zcr at b ⊢;dsimp only at b ⊢;rw[if_neg l]at b ⊢;by_cases F:t.next=0
 ·have r:=r (by omega);have z:=G.zhu (x:=t.at') (by omega);have j:=zvx (s:=s) hd (by omega) I.1 (by omega);rw[if_pos F]at b ⊢;rw[if_pos F];dsimp only at b ⊢;refine⟨(Acts.load z).of h.c,?_⟩;split at b<;>rename_i o
  ·rw[if_pos o];refine⟨q _ b rfl rfl (.inl rfl),?_⟩;unfold zct;dsimp only;rw[if_neg l,if_neg (by decide),if_pos rfl];omega
  rw[if_neg o];split at b<;>rename_i L
  ·rw[if_pos L];refine⟨q _ b rfl rfl (.inr ⟨_,rfl,rfl⟩),?_⟩;have:=(z9n s t.c t.at' (za2 (m.get (zak s.p s.c s.m t.at')) 0)).1;unfold zct;dsimp only;rw[if_neg l,if_neg (by decide),if_neg (by decide),if_pos rfl];omega
  rw[if_neg L];exact⟨q _ b j.2.1 j.2.2.1 (.inl j.2.2.2),by omega⟩
 rw[if_neg F]at b ⊢;rw[if_neg F];by_cases n1:t.next=1
 ·have r:=r (by omega);have z:=G.zhu (x:=t.at') (by omega);have j:=zvx (s:=s) hd (by omega) I.1 (by omega);have f:=z9e (s:=s) hd c2 ⟨I.1,r⟩ c3.2;rw[if_pos n1]at b ⊢;rw[if_pos n1];dsimp only at b ⊢;refine⟨(Acts.swap z (zj1 _)).of h.c,?_⟩;split at b<;>rename_i o
  ·rw[if_pos o];exact⟨q _ b f.2.1 f.2.2.1 (.inl f.2.2.2),by omega⟩
  rw[if_neg o];exact⟨q _ b j.2.1 j.2.2.1 (.inl j.2.2.2),by omega⟩
 rw[if_neg n1]at b ⊢;rw[if_neg n1];by_cases n2:t.next=2
 ·have r:=r (by omega);obtain⟨x,D,M,O⟩:=U n2;have B:=z1p M O G;have C:=h.st x D;have b0:=znj (znr m M);have E:=h.c;rw[if_pos n2,D]at b ⊢;rw[if_pos n2];dsimp only at b ⊢;refine⟨B.1.of C,?_⟩;split at b<;>rename_i o
  ·rw[if_pos o];refine⟨q _ b rfl rfl (.inr ⟨_,rfl,by rw[B.2.1,C,E]⟩),?_⟩;unfold zct;dsimp only;rw[if_neg l,if_neg (by decide),if_neg (by decide),if_neg (by decide),if_pos rfl];omega
  rw[if_neg o];split at b<;>rename_i L
  ·rw[if_pos L];have j:=zvx (s:=s) (t:= {t with strip:=some (zdu s x m).1}) hd (by dsimp only;omega) I.1 (by dsimp only;omega);dsimp only at j;refine⟨q _ b j.2.1 j.2.2.1 (.inr ⟨_,j.2.2.2,by rw[B.2.1,C,E]⟩),?_⟩;omega
  rw[if_neg L];refine⟨q _ b rfl rfl (.inr ⟨_,rfl,by rw[B.2.1,C,E]⟩),?_⟩;unfold zct;dsimp only;rw[if_neg l,if_neg F,if_neg n1,if_pos n2];omega
 rw[if_neg n2]at b ⊢;rw[if_neg n2];by_cases n3:t.next=3
 ·have r:=r (by omega);have S:=S n3;have z:=G.zj0 (x:=t.at') (i:=t.i) (by omega) (by omega);rw[if_pos n3]at b ⊢;rw[if_pos n3];dsimp only at b ⊢;refine⟨(Acts.store z zms).of h.c,?_⟩;split at b<;>rename_i o
  ·rw[if_pos o];have f:=z9e (s:=s) (t:= {t with i:=t.i+1}) hd c2 ⟨I.1,r⟩ c3.2;dsimp only at f;exact⟨q _ b f.2.1 f.2.2.1 (.inl f.2.2.2),by omega⟩
  rw[if_neg o];refine⟨q _ b rfl rfl (.inl rfl),?_⟩;unfold zct;dsimp only;rw[if_neg l,if_neg F,if_neg n1,if_neg n2,if_pos n3];omega
 rw[if_neg n3]at b ⊢;rw[if_neg n3];by_cases n4:t.next=4
 ·have r:=r (by omega);have T:=T n4;have z:=G.zhu (x:=t.i-1) (by omega);rw[if_pos n4]at b ⊢;rw[if_pos n4];dsimp only at b ⊢;have N:=z3t (s:=s) (t:= {t with i:=t.i-1}) hd n4 (by dsimp only;omega) (by dsimp only;omega) (by dsimp only;omega);dsimp only at N;exact⟨(Acts.store z (zc0 _ _ _)).of h.c,q _ b N.2.1 N.2.2.1 (.inl N.2.2.2),by omega⟩
 rw[if_neg n4]at b ⊢;rw[if_neg n4];have n5:t.next=5:=by omega
 have H:=H n5;have z:=G.zhu (x:=t.i) (by omega);dsimp only at b ⊢;refine⟨(Acts.store z (zc0 _ _ _)).of h.c,?_⟩;unfold Rn.written at b ⊢;split at b<;>rename_i o
 ·rw[if_pos o];refine⟨q _ b rfl rfl (.inl rfl),?_⟩;unfold zct;dsimp only;rw[if_pos rfl];omega
 rw[if_neg o];refine⟨q _ b rfl rfl (.inl rfl),?_⟩;unfold zct;dsimp only;rw[if_neg l,if_neg F,if_neg n1,if_neg n2,if_neg n3,if_neg n4];omega
theorem yfb{s:Sh}(c n:Int)(b:mayB s.p s.c s.m=true):rnIs s c n (zf8 s c n)/\zct s (zf8 s c n)<=50*s.p+8:=by
 have hb:=zar.1 b;refine⟨⟨zwt _ _ _,rfl,rfl,fun x f=>(by cases f)⟩,?_⟩;unfold zct zf8;dsimp only;split
 ·omega
 rw[if_pos rfl];omega
theorem z2y{s:Sh}{t:Rn}(h:rnOk s t):0<=zct s t:=by
 rcases Bool.eq_false_or_eq_true t.done with hd|hd
 ·unfold zct;rw[if_pos hd];omega
 have:=yev h hd;omega
variable {s:Sh} {σ σ':Ab} {c:Int}

def zmo (s:Sh):Mc->Own
 | .tk t=> zlr t
 | .sc t=> zln s t
 | .pc t=> zls s t
 | .sp t=> zhd t
 | .bn t=> zhe t
def zzi (c:Int) (σ:Ab):Mc->Prop
 | .tk t=> zqu c σ t
 | .sc t=> t.c=c
 | .pc t=> t.c=c
 | .sp t=> z4y c t
 | .bn t=> zu0 c σ t
def z3x (s:Sh) (t:Sk):Mc->Prop
 | .sp x=> x.page=t.here s
 | .bn x=> x.page=t.page/\x.k=t.k
 | _=> True
theorem ya5{x:Mc}(j:GI s σ)(l:mcOk s x)(hd:x.done=false)(i:zaz σ c (Own.no.add (zmo s x)))(hi:zzi c σ x):
  Goes s c σ (mcA s x σ) .no (zmo s) (zzi c)/\Calm σ (mcA s x σ).2/\∀ t,z3x s t x->z3x s t (mcA s x σ).1:=by
 cases x with
 |tk t=>obtain⟨⟨a,b,d⟩,e⟩:=yba (t:=t) j l hd i hi;exact⟨⟨a,b,d⟩,e,fun _ _=>trivial⟩
 |sc t=>obtain⟨⟨a,b,d⟩,e⟩:=yb8 (t:=t) j l hd i hi;exact⟨⟨a,b,d⟩,e,fun _ _=>trivial⟩
 |pc t=>obtain⟨⟨a,b,d⟩,e⟩:=yb1 (t:=t) j l hd i hi;exact⟨⟨a,b,d⟩,e,fun _ _=>trivial⟩
 |sp t=>obtain⟨⟨a,b,d⟩,e,f⟩:=z4c (t:=t) j l hd (fun _ _ h=>h) i hi;exact⟨⟨a,b,d⟩,e,fun _ h=>f.trans h⟩
 |bn t=>obtain⟨⟨a,b,d⟩,e,f,g⟩:=yar (t:=t) j l hd id (fun _ h=>h) (fun _ _ h=>h) i hi;exact⟨⟨a,b,d⟩,e,fun _ h=>⟨f.trans h.1,g.trans h.2⟩⟩
theorem zzi.same{x:Mc}(b:zaz σ c (Own.no.add (zmo s x)))(h:zzi c σ x)(hs:Same c σ σ'):zzi c σ' x:=by
 cases x with
 |tk t=>exact zqu.same h hs
 |sc t=>exact h
 |pc t=>exact h
 |sp t=>exact h;|bn t=>
  refine zu0.same h (fun hb=>?_) hs;have f:zhe t= .page t.page:=by unfold zhe;rw[hb];rfl
  have b:zaz σ c (Own.no.add (zhe t)):=b;rw[f]at b;exact(b.h t.page).2 (.inr rfl)
def zey (s:Sh) (t:Sk):Own:=if t.found=true then .way t.page t.slot t.k else match t.now with
 | some x=> zmo s x
 | none=> .no
structure zir (s:Sh) (c:Int) (σ:Ab) (t:Sk):Prop where
 cl:t.c=c
 dn:t.done=true->t.found=false->t.now=none
 now:t.found=false->∀ x,t.now=some x->zzi c σ x/\z3x s t x
theorem zeq{t:Sk}{x:Mc}(b:t.found=false)(f:t.now=some x):zey s t=zmo s x:=by unfold zey;rw[b,f];rfl
theorem zga{t:Sk}(b:t.found=false)(f:t.now=none):zey s t= .no:=by unfold zey;rw[b,f];rfl
theorem zir.same{t:Sk}(i:zaz σ c (Own.no.add (zey s t)))(h:zir s c σ t)(hs:Same c σ σ'):zir s c σ' t:=by
 refine⟨h.cl,h.dn,fun b x f=>⟨?_,(h.now b x f).2⟩⟩;rw[zeq b f]at i;exact(h.now b x f).1.same i hs
theorem zy0{s:Sh}{c p k:Int}(hs:mayB s.p s.c s.m=true)(hc:0<=c/\c<s.c)(j:0<=p/\p<s.p)(i:0<zah k):(zfi s c p k).done=false:=by
 have hb:=zar.1 hs;have b:zae s.p s.c s.m c=c:=by unfold zae;rw[if_pos ⟨hs,zbc.2 (by omega)⟩]
 have f:zak s.p s.c s.m p=s.c+p:=by unfold zak;rw[if_pos ⟨hs,zbc.2 (by omega)⟩]
 simp only[zfi,b,f];simp;omega
theorem Own.z2j(p k:Int):(Own.ways p 0 k).Eqv .no:=by
 exact⟨fun _=>.rfl,fun _ _=>.rfl,fun q i f=>⟨fun h=>by have b:=h.2.1;omega,fun h=>h.elim⟩⟩
theorem Own.z8j(p k:Int):(Own.ways p 1 k).Eqv (Own.way p 0 k):=by
 refine⟨fun _=>.rfl,fun _ _=>.rfl,fun q i b=>?_⟩;simp only[Own.ways,Own.way];omega
theorem zia{t:Sp}(f:t.held=false)(b:t.i=0):(zhd t).Eqv .no:=by
 unfold zhd;rw[f,b];exact Own.z2j _ _
theorem zu3{t:Sk}{x:Mc}(hs:mayB s.p s.c s.m=true)(I:skOk s t)(hd:t.done=false)(G:t.now=some x)(D:x.done=true)(f:zaz σ c (Own.no.add (zey s t)))(hi:zir s c σ t):
  zaz σ c (Own.no.add (zey s (t.after s x)))/\zir s c σ (t.after s x):=by
 have r:t.found=false:=zb7 I.fd hd;obtain⟨c1,c2,c3,T,M⟩:=I.cl hd;obtain⟨m1,m2⟩:=M x G;obtain⟨J,L⟩:=hi.now r x G;rw[zeq r G]at f;have hc:=hi.cl;have hb:=zar.1 hs;have F:∀ y:Option Mc,(t.done=true->t.found=false->y=none):=fun y e=>by rw[hd]at e;cases e
 have l:∀ p:Int,(0<=p/\p<s.p)->zaz σ c (Own.no.add (.page p))->zaz σ c (Own.no.add (zey s (t.bind s p)))/\zir s c σ (t.bind s p):=fun p S f=>by
  refine⟨?_,⟨hc,F _,fun _ y H=>?_⟩⟩
  ·rw[zeq (t:=t.bind s p) (x:= .bn (zfi s t.c p t.k)) r rfl];exact f
  injection H with H;subst H;refine⟨⟨hc,fun _ j C E=>?_,fun e=>?_⟩,⟨rfl,rfl⟩⟩
  ·simp only[zfi]at E;omega
  rw[zy0 hs c1 S c2]at e;cases e
 cases x with
 |tk y=>
  simp only[Sk.after];have B:y.k=t.k:=m2;split
  ·rename_i b;have E:=(m1.en (m1.fd b).1).2.2;refine⟨?_,⟨hc,fun _ e=>(by cases e),fun e=>(by cases e)⟩⟩;have:zey s (t.fin y.ep y.es)=zlr y:=by unfold zey zlr;rw[if_pos b,E,B];rfl
   rw[this];exact f
  rename_i b;have q:zmo s (.tk y)= .no:=by show zlr y=_;unfold zlr;rw[if_neg b]
  rw[q]at f;refine⟨?_,⟨hc,F _,fun _ z n=>?_⟩⟩
  ·rw[zeq (t:= {t with now:=some (.sc (ziq s t.c t.k t.first))}) (x:= .sc (ziq s t.c t.k t.first)) r rfl];exact f
  injection n with n;subst n;exact⟨hc,trivial⟩
 |sc y=>
  simp only[Sk.after];have B:y.k=t.k:=m2;split
  ·rename_i b;refine⟨?_,⟨hc,fun _ e=>(by cases e),fun e=>(by cases e)⟩⟩;have:zey s (t.fin (y.page s) y.i)=zln s y:=by unfold zey zln;rw[if_pos b,B];rfl
   rw[this];exact f
  rename_i b;have q:zmo s (.sc y)= .no:=by show zln s y=_;unfold zln;rw[if_neg b]
  rw[q]at f;refine⟨?_,⟨hc,F _,fun _ z n=>?_⟩⟩
  ·rw[zeq (t:= {t with now:=some (.pc (zlu s t.c t.first))}) (x:= .pc (zlu s t.c t.first)) r rfl];exact f
  injection n with n;subst n;exact⟨hc,trivial⟩
 |pc y=>
  simp only[Sk.after];split
  ·rename_i b;have q:zmo s (.pc y)= .page (y.page s):=by show zls s y=_;unfold zls;rw[if_pos b]
   rw[q]at f;exact l _ (zpe (by omega)) f
  rename_i b;have q:zmo s (.pc y)= .no:=by show zls s y=_;unfold zls;rw[if_neg b]
  rw[q]at f;refine⟨?_,⟨hc,fun _ _=>rfl,fun _ z n=>by cases n⟩⟩;rw[zga (t:= {t with now:=none}) r rfl];exact f
 |sp y=>
  simp only[Sk.after];have o:y.page=t.here s:=L;split
  ·rename_i b;have q:zmo s (.sp y)= .page y.page:=by show zhd y=_;unfold zhd;rw[if_pos b]
   rw[q,o]at f;exact l _ (zpe (by omega)) f
  rename_i b;have C:=J.2 D (by simpa using b);refine⟨?_,⟨hc,fun _ _=>rfl,fun _ z n=>by cases n⟩⟩;rw[zga (t:=t.turn s) r rfl];exact f.eqv (.add _ (zia (by simpa using b) C))
 |bn y=>
  simp only[Sk.after];have o:y.page=t.page/\y.k=t.k:=L;have C:=J.2.2 D;refine⟨?_,⟨hc,fun _ e=>(by cases e),fun e=>(by cases e)⟩⟩;have N:zey s (t.fin t.page 0)= .way t.page 0 t.k:=rfl;have O:zmo s (.bn y)= .ways t.page 1 t.k:=by show zhe y=_;unfold zhe;rw[if_pos C.1,C.2,o.1,o.2];rfl
  rw[O]at f;rw[N];exact f.eqv (.add _ (Own.z8j _ _))
theorem zk9(hs:mayB s.p s.c s.m=true)(n:Nat):∀ {t:Sk},skOk s t->zaz σ c (Own.no.add (zey s t))->zir s c σ t->zaz σ c (Own.no.add (zey s (za5 s n t)))/\zir s c σ (za5 s n t):=by
 induction n with
 |zero=>intro t _ b hi;exact⟨b,hi⟩;|succ n l=>
  intro t i b hi;unfold za5;split
  ·rename_i x j;split
   ·rename_i hc;have f:=zu3 hs i hc.1 j hc.2 b hi;exact l (zid i hc.1 j hc.2 (zar.1 hs).1) f.1 f.2
   exact⟨b,hi⟩
  exact⟨b,hi⟩
theorem ya8{m:Mem}{t:Sk}(H:Rep s m σ)(r:GI s σ)(F:skOk s t)(o:zvw t)(hd:t.done=false)(n:zaz σ c (Own.no.add (zey s t)))(hi:zir s c σ t):
  Goes s c σ (skA s t σ) .no (zey s) (zir s c)/\Calm σ (skA s t σ).2:=by
 have hs:=H.may;have j:t.found=false:=zb7 F.fd hd;obtain⟨c1,c2,c3,I,q⟩:=F.cl hd;unfold skA;rw[if_neg (by rw[hd];decide)];cases hx:t.now with
 |some x=>
  have D:x.done=false:=by
   rcases o with e|e|⟨y,e,J⟩
   ·rw[hd]at e;cases e
   ·rw[hx]at e;cases e
   rw[hx]at e;injection e with e;subst e;exact J
  obtain⟨V,X⟩:=hi.now j x hx;rw[zeq j hx]at n;obtain⟨⟨L,M,N⟩,O,S⟩:=ya5 r (q x hx).1 D n V;have B:skOk s {t with now:=some (mcA s x σ).1}:=by refine⟨fun _=>⟨c1,c2,c3,I,fun z E=>?_⟩,fun e=>(by have e:t.found=true:=e;rw[j]at e;cases e)⟩;injection E with E;subst E;rw[<-(z9a H r (q x hx).1).1];exact⟨zjq m (q x hx).1,zg1 (t:=t) m (q x hx).2⟩
  have U:zaz (mcA s x σ).2 c (Own.no.add (zey s {t with now:=some (mcA s x σ).1})):=by rw[zeq (t:= {t with now:=some (mcA s x σ).1}) (x:=(mcA s x σ).1) j rfl];exact M
  have C:zir s c (mcA s x σ).2 {t with now:=some (mcA s x σ).1}:=⟨hi.cl,fun e=>(by have e:t.done=true:=e;rw[hd]at e;cases e),fun _ y f=>by
   injection f with f;subst f
   refine⟨N,?_⟩
   have:=S t X
   cases hm:(mcA s x σ).1<;>rw[hm]at this<;>exact this⟩
  have i:=zk9 hs 5 B U C;exact⟨⟨L,i.1,i.2⟩,O⟩
 |none=>
  rw[zga j hx]at n
  have G:∀ t':Sk,zey s t'= .no\/(zey s t').Eqv .no->zir s c σ t'->Goes s c σ (t',σ) .no (zey s) (zir s c)/\Calm σ σ:=fun t' i T=>by
   refine⟨⟨Kept.refl r,?_,T⟩,Calm.refl _⟩
   rcases i with i|i
   ·rw[i];exact n
   ·exact n.eqv (.add _ i.symm)
  have l:Goes s c σ (t.turn s,σ) .no (zey s) (zir s c)/\Calm σ σ:=G _ (.inl (zga (t:=t.turn s) j rfl)) ⟨hi.cl,fun _ _=>rfl,fun _ y f=>by cases f⟩
  dsimp only
  cases hp:σ.pg (t.here s) with
  |super k b=>
   refine G _ (.inr ?_) ⟨hi.cl,fun e=>(by have e:t.done=true:=e;rw[hd]at e;cases e),fun _ y f=>?_⟩
   ·rw[zeq (t:= {t with now:=some (.sp (zfa s t.c (t.here s) k))}) (x:= .sp (zfa s t.c (t.here s) k)) j rfl]
    exact zia rfl rfl
   ·injection f with f;subst f
    exact⟨⟨hi.cl,fun _ _=>rfl⟩,rfl⟩
  |_=>exact l
end

end Go.Proofs.YtkbddndcegpllaaGreat
