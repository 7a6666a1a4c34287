/- Texts bound together: AudB AudU HpI AudE AudF AudM. -/
import Derived.ChangeKeysEq

import Derived.Maps.Own

import Derived.Test.YtedcnffebdpmmaaGreatBu30

import Derived.Test.YtedcnffebdpmmaaGreatBu34

set_option linter.all false
set_option maxHeartbeats 8000000
set_option maxRecDepth 100000
namespace Go.Proofs.YtedcnffebdpmmaaGreat

section

open Go.RowKit

attribute [local go_sem ↓] Go.wp_at_zero Go.wp_at_succ

attribute [local go_sem ↓] zhk zh6

def Hp.slB (h:Hp) (a:Int):Nat->List Bk
 | 0=> []
 | i + 1=> h.slB a i ++ (if h.sk a i=3 then [⟨a * 64 + i * zbj (h.pa a),zbj (h.pa a)⟩] else [])
def Hp.pgB (h:Hp) (a:Int):List Bk:=
 if h.pk a=3 then [⟨a * 64,h.pa a * 64⟩] else if h.pk a=2 then h.slB a (zah (h.pa a)).toNat else []
def Hp.blT (h:Hp):Nat->List Bk
 | 0=> []
 | k + 1=> h.blT k ++ h.pgB k
def Hp.bl (h:Hp):List Bk:=if h.ok=true then h.blT h.p.toNat else []
end

section

open Go.RowKit

attribute [local go_sem ↓] Go.wp_at_zero Go.wp_at_succ

def Hp.yht (h:Hp) (a:Int):Nat->Bool
 | 0=> true
 | i + 1=> h.yht a i && h.sw a i==0
def Hp.bare (h:Hp) (a:Int):Bool:=h.yht a 16
def Hp.okS (h:Hp) (a k i:Int):Bool:=if i < zah k then (h.sk a i==2 && decide (h.sa a i < h.c)) || ((h.sk a i==1 || h.sk a i==3) && h.sa a i==k) else h.sw a i==0
def Hp.supT (h:Hp) (a k:Int):Nat->Bool
 | 0=> true
 | i + 1=> h.supT a k i && h.okS a k i
def Hp.sup (h:Hp) (a k:Int):Bool:=h.supT a k 16
def Hp.rowT (h:Hp) (a:Int):Nat->Bool
 | 0=> true
 | i + 1=> h.rowT a i && (h.pk (a + 1 + i)==4 && h.pa (a + 1 + i)==a)
def Hp.rowB (h:Hp) (a n:Int):Bool:=h.rowT a (n - 1).toNat
def Hp.snd (h:Hp) (a:Int):Bool:=
 if h.pb a=true then
  (if h.pk a=2 then h.sup a (h.pa a)
   else if h.pk a=3 then h.bare a && h.rowB a (h.pa a)
   else if h.pk a=4 then h.bare a && (h.pk (h.pa a)==1 || (h.pk (h.pa a)==3 && decide (a < h.pa a + h.pa (h.pa a))))
   else if h.pk a=0 then h.bare a
   else true)
 else false
def Hp.sndT (h:Hp):Nat->Bool
 | 0=> true
 | i + 1=> h.sndT i && h.snd i
theorem Hp.yjo(h:Hp){n:Nat}(b:h.sndT n=true):∀ i,i<n->h.snd (i:Nat)=true:=by
 induction n with
 |zero=>intro i hi;omega;|succ n f=>
  intro i hi;have h1:(h.sndT n&&h.snd n)=true:=b;rw[Bool.and_eq_true]at h1;rcases Nat.lt_or_ge i n with h2|h2
  ·exact f h1.1 i h2
  have:i=n:=by omega
  subst this;exact h1.2
def Hp.sound (h:Hp):Bool:=h.ok && h.sndT h.p.toNat
theorem Hp.kinds{h:Hp}{a:Int}(b:h.pb a=true):h.pk a=0\/h.pk a=1\/h.pk a=2\/h.pk a=3\/h.pk a=4:=by
 have hb:=(h.z1z a).1;have:h.pk a<=4:=by
  unfold Hp.pk;rw[if_pos b];unfold Hp.pb zal at b;simp only[Bool.and_eq_true,beq_iff_eq]at b;have h1:=b.1.1;generalize h.pw a=x at *;false_or_by_contra;rename_i hc;have:zfm (zbx x) (za2 x 0) (za2 x 1)=true:=by unfold zfm;simp only[Bool.or_eq_true,decide_eq_true_eq];left;left;right;omega
  unfold zb8 at h1;rw[if_pos this]at h1;subst h1;exact hc (by decide)
 omega
theorem okK.append{W M:Int}{l k:List Bk}(f:okK W M k):∀ {lo:Int},okK M lo l->okK W lo (l++k):=by
 induction l with
 |nil=>exact fun h=>f.mono h
 |cons b l i=>exact fun h=>⟨h.1,h.2.1,i h.2.2⟩
def Hp.en (h:Hp):Nat->Int
 | 0=> 0
 | k + 1=> if h.pk k=3 then k + h.pa k else max (h.en k) (k + 1)
end

section

variable {s:Sh} {m:Mem} {σ:Ab}

def hpOf (s:Sh) (m:Mem):Hp:=⟨s.p,s.c,s.m,m.ws⟩
theorem hp_ok(b:Rep s m σ):(hpOf s m).ok=true:=by
 unfold Hp.ok hpOf;dsimp only;rw[b.may,b.fi.len];simp
theorem hp_pw(f:Rep s m σ){a:Int}(b:0<=a/\a<s.p):(hpOf s m).pw a=(σ.pg a).enc:=by
 have:=f.pg a b;rw[(ixs f.fi).1 a b]at this;exact this
theorem hp_pg(b:Rep s m σ)(i:GI s σ){a:Int}(f:0<=a/\a<s.p):(hpOf s m).pb a=true/\(hpOf s m).pk a=(σ.pg a).kind/\(hpOf s m).pa a=(σ.pg a).pa:=by
 obtain⟨h1,h2,_⟩:=PW.read b.may (i.pf a);have hb:(hpOf s m).pb a=true:=by unfold Hp.pb;rw[hp_pw b f];exact PW.ya4 b.may f (i.pf a)
 unfold Hp.pk Hp.pa;rw[if_pos hb,if_pos hb,hp_pw b f];exact⟨hb,h1,h2⟩
theorem hp_sw(f:Rep s m σ){a i:Int}(b:0<=a/\a<s.p)(hi:0<=i/\i<16):(hpOf s m).sw a i=(σ.sl a i).enc:=by
 have:=f.sl a i b hi;rw[(ixs f.fi).2.1 a i b hi]at this;exact this
theorem SW.ya4(hs:mayB s.p s.c s.m=true){x:SW}(h:x.fit s):zet x.enc=true:=by
 obtain⟨h1,h2⟩:=SW.read hs h;obtain⟨e,h3⟩:=SW.zg9 hs h;unfold zet;rw[h1,h2,beq_iff_eq];cases x with
 |none=>decide
 |opened k=>rfl
 |way c=>rfl
 |taken k=>rfl
theorem hp_sl(b:Rep s m σ)(j:GI s σ){a i:Int}(f:0<=a/\a<s.p)(hi:0<=i/\i<16):(hpOf s m).sk a i=(σ.sl a i).kind/\(hpOf s m).sa a i=(σ.sl a i).pa:=by
 obtain⟨h1,h2⟩:=SW.read b.may (j.sf a i);have hb:zet ((hpOf s m).sw a i)=true:=by rw[hp_sw b f hi];exact SW.ya4 b.may (j.sf a i)
 unfold Hp.sk Hp.sa;rw[if_pos hb,if_pos hb,hp_sw b f hi];exact⟨h1,h2⟩
theorem hp_bareT(f:Rep s m σ){a:Int}(b:0<=a/\a<s.p)(h0:∀ i,0<=i/\i<16->σ.sl a i= .none)(n:Nat)(l:n<=16):(hpOf s m).yht a n=true:=by
 induction n with
 |zero=>rfl;|succ n j=>show (_&&_)=true;rw[j (by omega),hp_sw f b (by omega),h0 n (by omega)];rfl
theorem hp_supT(l:Rep s m σ)(f:GI s σ){a k b:Int}(j:0<=a/\a<s.p)(q:σ.pg a= .super k b)(n:Nat)(t:n<=16):(hpOf s m).supT a k n=true:=by
 induction n with
 |zero=>rfl;|succ n r=>
  show (_&&_)=true;rw[r (by omega),Bool.true_and];have hi:0<=(n:Int)/\(n:Int)<16:=by omega
  obtain⟨h1,h2⟩:=hp_sl l f j hi;have h3:=hp_sw l j hi;have h4:=f.sk a n;have i:=f.sf a n;rw[q]at h4;unfold zhi at h4;dsimp only at h4;unfold Hp.okS;by_cases hs:(n:Int)<zah k
  ·rw[if_pos ⟨hi.1,hs⟩]at h4;rw[if_pos hs,h1,h2];rcases h4 with e|e|⟨c,e⟩
   ·rw[e];simp[SW.kind,SW.pa]
   ·rw[e];simp[SW.kind,SW.pa]
   rw[e]at i ⊢;have o:c<(hpOf s m).c:=i.2;simp[SW.kind,SW.pa,o]
  rw[if_neg (by omega)]at h4;rw[if_neg hs,h3,h4];rfl
theorem hp_snd(q:Rep s m σ)(l:GI s σ){a:Int}(r:0<=a/\a<s.p):(hpOf s m).snd a=true:=by
 obtain⟨h1,h2,h3⟩:=hp_pg q l r;have f:=fun i=>l.sk a i;have t:=l.pf a;unfold Hp.snd;rw[if_pos h1,h2,h3];cases e:σ.pg a with
 |empty=>rw[e]at f;rw[if_neg (by simp[PW.kind]),if_neg (by simp[PW.kind]),if_neg (by simp[PW.kind]),if_pos (by simp[PW.kind])];exact hp_bareT q r (fun i _=>f i) 16 (by omega)
 |held o=>rw[if_neg (by simp[PW.kind]),if_neg (by simp[PW.kind]),if_neg (by simp[PW.kind]),if_neg (by simp[PW.kind])]
 |super k b=>rw[if_pos (by simp[PW.kind])];exact hp_supT q l r e 16 (by omega)
 |large n=>
  rw[e]at f t;rw[if_neg (by simp[PW.kind]),if_pos (by simp[PW.kind]),Bool.and_eq_true];refine⟨hp_bareT q r (fun i _=>f i) 16 (by omega),?_⟩;have G:=l.lg a n e;obtain⟨_,H,I,J⟩:=t
  have key:∀ j:Nat,(j:Int)<=n-1->(hpOf s m).rowT a j=true:=by
   intro j
   induction j with
   |zero=>intro _;rfl
   |succ j M=>
    intro N
    show (_&&_)=true
    rw[M (by omega)]
    have L:0<=a+1+(j:Int)/\a+1+(j:Int)<s.p:=by omega
    obtain⟨_,z,B⟩:=hp_pg q l L
    have:=G (1+j) (by omega) (by omega)
    rw[show a+(1+(j:Int))=a+1+j by omega]at this
    rw[z,B,this]
    simp[PW.kind,PW.pa]
  exact key (n-1).toNat (by omega)
 |body h=>
  rw[e]at f t;rw[if_neg (by simp[PW.kind]),if_neg (by simp[PW.kind]),if_pos (by simp[PW.kind]),Bool.and_eq_true];refine⟨hp_bareT q r (fun i _=>f i) 16 (by omega),?_⟩;obtain⟨_,C,E,F⟩:=t;obtain⟨_,z,B⟩:=hp_pg q l (a:=h) ⟨C,by omega⟩;show (_||_)=true;rw[show PW.pa (.body h)=h from rfl,z,B];rcases l.bd a h e with⟨o,y⟩|⟨n,y,D⟩
  ·rw[y];simp[PW.kind]
  rw[y];simp[PW.kind,PW.pa,D]
theorem hp_sound(b:Rep s m σ)(f:GI s σ):(hpOf s m).sound=true:=by
 unfold Hp.sound;rw[hp_ok b,Bool.true_and];have hb:=b.fi.bd
 have key:∀ n:Nat,(n:Int)<=s.p->(hpOf s m).sndT n=true:=by
  intro n
  induction n with
  |zero=>intro _;rfl
  |succ n i=>
   intro j
   show (_&&_)=true
   rw[i (by omega),hp_snd b f ⟨by omega,by omega⟩];rfl
 exact key (hpOf s m).p.toNat (by show ((s.p.toNat:Nat):Int)<=s.p;omega)
theorem okK.same{W:Int}{l k:List Bk}:∀ {lo:Int},okK W lo l->okK W lo k->(∀ b,b ∈ l↔b ∈ k)->l=k:=by
 induction l generalizing k with
 |nil=>
  intro lo _ _ h
  cases k with
  |nil=>rfl
  |cons b k=>exact absurd ((h b).2 (by simp)) (by simp)
 |cons a l p=>
  intro lo h1 h2 h
  cases k with
  |nil=>exact absurd ((h a).1 (by simp)) (by simp)
  |cons b k=>
   have j:=okK.mem h1.2.2
   have n:=okK.mem h2.2.2
   have o:=(h a).1 (by simp)
   have hb:=(h b).2 (by simp)
   have e:a=b:=by
    rcases List.mem_cons.1 o with e|e
    ·exact e
    ·rcases List.mem_cons.1 hb with i|i
     ·exact i.symm
     ·have:=j b i;have:=n a e;have:=h1.2.1;have:=h2.2.1;omega
   subst e
   congr 1
   refine p h1.2.2 h2.2.2 fun x=>?_
   constructor
   ·intro f
    rcases List.mem_cons.1 ((h x).1 (by simp[f])) with e|e
    ·have:=j x f;rw[e]at this;have:=h1.2.1;omega
    ·exact e
   ·intro f
    rcases List.mem_cons.1 ((h x).2 (by simp[f])) with e|e
    ·have:=n x f;rw[e]at this;have:=h1.2.1;omega
    ·exact e
end

section

open Go.RowKit

attribute [local go_sem ↓] Go.wp_at_zero Go.wp_at_succ

theorem Hp.yh9(h:Hp)(a:Int){i j:Nat}(b:i<=j)(f:h.yht a i=false):h.yht a j=false:=by
 induction b with
 |refl=>exact f
 |step _ l=>show (_&&_)=false;rw[l];rfl
theorem Hp.yip(h:Hp)(a k:Int){i j:Nat}(b:i<=j)(f:h.supT a k i=false):h.supT a k j=false:=by
 induction b with
 |refl=>exact f
 |step _ l=>show (_&&_)=false;rw[l];rfl
theorem Hp.yid(h:Hp)(a:Int){i j:Nat}(b:i<=j)(f:h.rowT a i=false):h.rowT a j=false:=by
 induction b with
 |refl=>exact f
 |step _ l=>show (_&&_)=false;rw[l];rfl
theorem yiz(h:Hp)(v:Value)(a:Int)(w:World)(b:Bok w v h)(ha:0<=a/\a<h.p):
  Calls Tryz.prog 71 #[zzu h v,a] w fun e w'=>e= .returned (.bool (h.bare a))/\Below w.heap.size w w':=by
 obtain⟨b1,b2,b3,b4⟩:=b.bd;have Z:=zk3 (c:=h.c) (m:=h.m) (C:=12) (M:=8) (by omega) (by omega);have b7:0<h.xs.length:=by omega
 obtain⟨g,r,cap,k0,hv,b6,hg,_,_,_⟩:=b.word 0 (by omega) (by omega);have F:Hid (∀ i:Nat,i<16->∃ k:Nat,zbk h.p h.c h.m a i=(k:Int)/\k<h.xs.length/\w.cell? ⟨g,r+k,.none⟩=some (.int .u64 (h.sw a i))):=hd' fun i hi=>by obtain⟨g',b8,b5,k,S,_,_,T,N,hc⟩:=b.word (h.c+h.p+a*16+i) (by omega) (by omega);rw[hv]at S;injection S with I _ _;injection I with I;injection I with I e2;subst I e2;refine⟨k,?_,N,hc⟩;unfold zbk;rw[if_pos ⟨b.may,zbc.2 (by omega),zbc.2 (by omega)⟩,T]
 subst hv;have E:=fun i=>zbm h.p h.c h.m a i;have U:Hid (h.yht a 0=true):=hd' rfl;have Y:Hid (∀ i,h.yht a (i+1)=(h.yht a i&&h.sw a i==0)):=hd' fun _=>rfl;have X:Hid (∀ i,i<=16->h.yht a i=false->h.bare a=false):=hd' fun i hi=>h.yh9 a hi;have V:Hid (h.yht a 16=h.bare a):=hd' rfl;generalize hn:h.xs.length=n at *;replace hn:=hd' hn;replace E:=hd' E;clear b b4 Z;go_in;have z:=heap_alloc_new w (.cells #[h.p,h.c,h.m,.slice (some ⟨g,r,.none⟩) n cap] 84);have B:Below w.heap.size w (w.alloc (.cells #[h.p,h.c,h.m,.slice (some ⟨g,r,.none⟩) n cap] 84)):=br.alloc lr _;go_upto_region 1 with fail;obtain⟨H,hH,J⟩:=hidv w.heap.size;rw[<-J]at z ⊢;clear J;generalize w.alloc (.cells #[h.p,h.c,h.m,.slice (some ⟨g,r,.none⟩) n cap] 84)=W at *;have c0:W.cell? ⟨H,0,.none⟩=some (.int .i64 h.p):=zac z 0;have c1:W.cell? ⟨H,1,.none⟩=some (.int .i64 h.c):=zac z 1;have c2:W.cell? ⟨H,2,.none⟩=some (.int .i64 h.m):=zac z 2;have c3:W.cell? ⟨H,3,.none⟩=some (.slice (some ⟨g,r,.none⟩) n cap):=zac z 3;have lH:=(Array.getElem?_eq_some_iff.1 z).1;have lg:g<W.heap.size:=by have:=B.size;omega
 clear z;go_wp2_with fail;go_loopw [6] (fun vi wr=>∃ i:Nat,i<=16/\vi= .int .i64 i/\Hid (h.yht a i=true)/\Below W.heap.size W wr) (fun vi _=>16-(intOf vi).toNat);case atStart=>exact⟨0,Nat.zero_le _,rfl,U,Below.refl _ _⟩
 case round=>
  obtain⟨i,hi,rfl,R,l⟩:=hrel;have d0:=zai l _ _ _ c0;have d1:=zai l _ _ _ c1;have d2:=zai l _ _ _ c2;have d3:=zai l _ _ _ c3;have y:=B.trans (l.mono B.size);have bc:H<wr.heap.size:=by have:=l.size;omega
  have bf:g<wr.heap.size:=by have:=l.size;omega
  by_cases O:i<16
  ·obtain⟨k,T,N,hc⟩:=F.out i O;replace hc:=zai y _ _ _ hc;have o:=E.out i;rw[T]at o;have j:=Y.out i;rw[R.out,Bool.true_and]at j;have D:=X.out (i+1) (by omega);generalize h.sw a i=x at *;replace o:=hd' o;have ba:(0:Int)<=(k:Int):=by omega
   have bb:(k:Int)<(n:Int):=by omega
   have b9:(i:Int)<16:=by omega
   clear T;by_cases G:x=0
   ·have q:(x==0)=true:=by rw[beq_iff_eq];exact G
    rw[q]at j;have hd:(x !=0)=false:=by simp[G]
    replace j:=hd' j;clear D q G;go_upto_region 4 with fail;refine wre ?_;repeat (go_big_quiet_step ((go_at_call 96;exact zam (o.out _))))
    refine wpQuiet_nil ?_;rintro _ ⟨e,rfl⟩;go_wp2;exact⟨⟨i+1,by omega,by go_num,j,l.trans (e.below.mono l.size)⟩,by simp[intOf];omega⟩
   have q:(x==0)=false:=by rw[beq_eq_false_iff_ne];exact G
   rw[q]at j;have hd:(x !=0)=true:=by simpa using G
   have L:=hd' (D j);clear D q G j;go_upto_region 4 with fail;refine wre ?_;repeat (go_big_quiet_step ((go_at_call 96;exact zam (o.out _))))
   refine wpQuiet_nil ?_;rintro _ ⟨e,rfl⟩;go_wp2;go_ret;exact⟨by rw[L.out];rfl,y.trans (e.below.mono y.size)⟩
  have b0:i=16:=by omega
  subst b0;clear O;go_wp2;go_ret;exact⟨by rw[<-V.out,R.out];rfl,y⟩
theorem Bok.slots{w:World}{v:Value}{h:Hp}(b:Bok w v h){a:Int}(J:0<=a/\a<h.p):∃ g f cap,v= .slice (some ⟨g,f,.none⟩) h.xs.length cap/\g<w.heap.size/\
  ∀ i:Nat,i<16->∃ k:Nat,zbk h.p h.c h.m a i=(k:Int)/\k<h.xs.length/\w.cell? ⟨g,f+k,.none⟩=some (.int .u64 (h.sw a i)):=by
 obtain⟨E,F,G,H⟩:=b.bd;have z:=zk3 (c:=h.c) (m:=h.m) (C:=12) (M:=8) (by omega) (by omega);obtain⟨g,f,cap,k0,r,q,B,_,_,_⟩:=b.word 0 (by omega) (by omega);refine⟨g,f,cap,r,B,fun i hi=>?_⟩;obtain⟨I,t,o,k,l,_,_,D,n,hc⟩:=b.word (h.c+h.p+a*16+i) (by omega) (by omega);rw[r]at l;injection l with j _ _;injection j with j;injection j with j y;subst j y;refine⟨k,?_,n,hc⟩;unfold zbk;rw[if_pos ⟨b.may,zbc.2 (by omega),zbc.2 (by omega)⟩,D]
theorem yii(h:Hp)(v:Value)(a k:Int)(w:World)(b:Bok w v h)(ha:0<=a/\a<h.p):
  Calls Tryz.prog 70 #[zzu h v,a,k] w fun e w'=>e= .returned (.bool (h.sup a k))/\Below w.heap.size w w':=by
 obtain⟨g,D,cap,hv,hg,y⟩:=b.slots ha;replace y:=hd' y;have L:=fun i=>zbm h.p h.c h.m a i;have M:=fun i X (hX:Below w.heap.size w X) hi=>z7y h v a i X (b.below hX) ha hi;subst hv;have N:=slots_any k;have bf:=zcy k;have b3:Hid (h.supT a k 0=true):=hd' rfl;have b7:Hid (∀ i,h.supT a k (i+1)=(h.supT a k i&&h.okS a k i)):=hd' fun _=>rfl;have b5:Hid (∀ i,i<=16->h.supT a k i=false->h.sup a k=false):=hd' fun i hi=>h.yip a k hi;have b4:Hid (h.supT a k 16=h.sup a k):=hd' rfl;have b6:Hid (∀ i,h.okS a k i=if i<zah k then(h.sk a i==2&&decide (h.sa a i<h.c))||((h.sk a i==1||h.sk a i==3)&&h.sa a i==k) else h.sw a i==0):=hd' fun _=>rfl;generalize zah k=q at *;generalize hn:h.xs.length=n at *;replace hn:=hd' hn;replace L:=hd' L;replace M:=hd' M;replace N:=hd' N;clear b;go_in;have E:=heap_alloc_new w (.cells #[h.p,h.c,h.m,.slice (some ⟨g,D,.none⟩) n cap] 84);have r:Below w.heap.size w (w.alloc (.cells #[h.p,h.c,h.m,.slice (some ⟨g,D,.none⟩) n cap] 84)):=br.alloc lr _;go_upto_region 1 with fail;obtain⟨H,hH,S⟩:=hidv w.heap.size;rw[<-S]at E ⊢;clear S;generalize w.alloc (.cells #[h.p,h.c,h.m,.slice (some ⟨g,D,.none⟩) n cap] 84)=W at *;have c0:W.cell? ⟨H,0,.none⟩=some (.int .i64 h.p):=zac E 0;have c1:W.cell? ⟨H,1,.none⟩=some (.int .i64 h.c):=zac E 1;have c2:W.cell? ⟨H,2,.none⟩=some (.int .i64 h.m):=zac E 2;have c3:W.cell? ⟨H,3,.none⟩=some (.slice (some ⟨g,D,.none⟩) n cap):=zac E 3;have lH:=(Array.getElem?_eq_some_iff.1 E).1;have lg:g<W.heap.size:=by have:=r.size;omega
 clear E;go_wp2_with fail;go_loopw [10] (fun vi wr=>∃ i:Nat,i<=16/\vi= .int .i64 i/\Hid (h.supT a k i=true)/\Below W.heap.size W wr) (fun vi _=>16-(intOf vi).toNat);case atStart=>exact⟨0,Nat.zero_le _,rfl,b3,Below.refl _ _⟩
 case round=>
  obtain⟨i,hi,rfl,b1,o⟩:=hrel;have d0:=zai o _ _ _ c0;have d1:=zai o _ _ _ c1;have d2:=zai o _ _ _ c2;have d3:=zai o _ _ _ c3;have F:=r.trans (o.mono r.size);by_cases b0:i<16
  ·obtain⟨z,hk,bc,hc⟩:=y.out i b0;have B:=L.out i;rw[hk]at B;have C:=M.out i wr F (by omega);have j:=b7.out i;rw[b1.out,Bool.true_and,b6.out i]at j;have Y:=b5.out (i+1) (by omega);generalize h.sw a i=x at *;generalize h.sk a i=k4 at *;generalize h.sa a i=k5 at *;replace B:=hd' B;replace C:=hd' C;have ba:(0:Int)<=(z:Int):=by omega
   have bb:(z:Int)<(n:Int):=by omega
   have b9:(i:Int)<16:=by omega
   clear hk;go_wp2_with fail;refine C.out.mono ?_;rintro e w3 ⟨rfl,I⟩;have l:=(o.trans (I.mono o.size)).alloc (Nat.le_trans o.size I.size) (.cells #[k4,k5] 135);have O:=heap_alloc_new w3 (.cells #[k4,k5] 135);go_upto_region 5 with fail;generalize w3.heap.size=G at O ⊢;generalize w3.alloc (.cells #[k4,k5] 135)=V at *;have lG:=(Array.getElem?_eq_some_iff.1 O).1;have p0:V.cell? ⟨G,0,.none⟩=some (.int .i64 k4):=zac O 0;have p1:V.cell? ⟨G,1,.none⟩=some (.int .i64 k5):=zac O 1;have d0:=zai l _ _ _ c0;have d1:=zai l _ _ _ c1;have d2:=zai l _ _ _ c2;have d3:=zai l _ _ _ c3;have R:=r.trans (l.mono r.size);replace hc:=zai R _ _ _ hc;have bg:H<V.heap.size:=by have:=l.size;omega
   have bh:g<V.heap.size:=by have:=l.size;omega
   refine wre ?_;repeat (go_big_quiet_step ((go_at_call 96;exact zam (B.out _))))
   refine wpQuiet_nil ?_;rintro _ ⟨e,rfl⟩;have p0:=zai e.below _ _ _ p0;have p1:=zai e.below _ _ _ p1;have d1:=zai e.below _ _ _ d1;have T:=l.trans (e.below.mono l.size);have b2:=r.trans (T.mono r.size);clear I O lG R hc l C B o F;generalize e.w=U at *;clear e;go_wp2_with fail;refine(N.out _).mono ?_;rintro e w4 ⟨rfl,hw⟩;obtain rfl:=hw.symm;clear hw;go_upto_if 30 with fail;obtain⟨ok,J⟩:∃ ok:Bool,Hid (h.supT a k (i+1)=ok):=⟨_,hd' rfl⟩;rw[J.out]at j;replace j:=hd' j;go_cut [9] (fun s wx=>s= .bool ok/\wx=U);case first=>
    by_cases hq:(i:Int)<q
    ·have h1:=j.out;rw[if_pos hq]at h1;replace h1:=hd' h1;go_wp2_with fail;all_goals (go_meet;refine⟨?_,rfl⟩;rw[h1.out];congr 1)
     all_goals (clear h1;first|(simp[*];done)|(simp_all;done))
    have h1:=j.out;rw[if_neg hq]at h1;replace h1:=hd' h1;go_wp2_with fail;go_meet;case rel=>exact⟨by rw[h1.out],rfl⟩
   case rest=>
    obtain⟨rfl,hw⟩:=hcut;obtain rfl:=hw.symm;clear hw;rcases Bool.eq_false_or_eq_true ok with ho|ho
    ·subst ho;go_wp2;exact⟨⟨i+1,by omega,by go_num,J,T⟩,by simp[intOf];omega⟩
    subst ho;have Z:=hd' (Y J.out);clear Y;go_wp2;go_ret;exact⟨by rw[Z.out];rfl,b2⟩
  have b8:i=16:=by omega
  subst b8;clear b0;go_wp2;go_ret;exact⟨by rw[<-b4.out,b1.out];rfl,F⟩
theorem yjb(h:Hp)(v:Value)(a n:Int)(w:World)(b:Bok w v h)(ha:0<=a/\a<h.p)(hn:1<=n/\n<=8/\n<=h.p-a):
  Calls Tryz.prog 72 #[zzu h v,a,n] w fun e w'=>e= .returned (.bool (h.rowB a n))/\Below w.heap.size w w':=by
 obtain⟨b1,_,_,_⟩:=b.bd;obtain⟨ao,cap,hv,_,_,_⟩:=b.rd.cells;generalize h.xs.length=m at hv;subst hv;have F:=fun q X (Y:Below w.heap.size w X) hq=>zpo h (.slice ao m cap) q X (b.below Y) hq;obtain⟨N,L⟩:∃ N:Nat,n-1=N:=⟨(n-1).toNat,by omega⟩;have S:Hid (h.rowT a 0=true):=hd' rfl;have V:Hid (∀ i:Nat,h.rowT a (i+1)=(h.rowT a i&&(h.pk (a+1+i)==4&&h.pa (a+1+i)==a))):=hd' fun _=>rfl;have U:Hid (∀ i,i<=N->h.rowT a i=false->h.rowB a n=false):=hd' fun i hi hf=>by unfold Hp.rowB;exact h.yid a (by omega) hf
 have T:Hid (h.rowT a N=h.rowB a n):=hd' (by unfold Hp.rowB;rw[L,Int.toNat_natCast]);replace L:=hd' L;replace F:=hd' F;have wa:=wrp (a+1);have wn:=wrp (a+n);clear b;go_in;have G:=heap_alloc_new w (.cells #[h.p,h.c,h.m,.slice ao m cap] 84);have I:Below w.heap.size w (w.alloc (.cells #[h.p,h.c,h.m,.slice ao m cap] 84)):=br.alloc lr _;go_upto_region 1 with fail;obtain⟨H,hH,J⟩:=hidv w.heap.size;rw[<-J]at G ⊢;clear J;generalize w.alloc (.cells #[h.p,h.c,h.m,.slice ao m cap] 84)=W at *;have c0:W.cell? ⟨H,0,.none⟩=some (.int .i64 h.p):=zac G 0;have c1:W.cell? ⟨H,1,.none⟩=some (.int .i64 h.c):=zac G 1;have c2:W.cell? ⟨H,2,.none⟩=some (.int .i64 h.m):=zac G 2;have c3:W.cell? ⟨H,3,.none⟩=some (.slice ao m cap):=zac G 3;clear G;go_wp2_with fail;go_loopw [7] (fun vi wr=>∃ i:Nat,i<=N/\vi= .int .i64 (a+1+i)/\Hid (h.rowT a i=true)/\Below W.heap.size W wr) (fun vi _=>(a+n-intOf vi).toNat);case atStart=>exact⟨0,Nat.zero_le _,by simp,S,Below.refl _ _⟩
 case round=>
  obtain⟨i,hi,rfl,R,y⟩:=hrel;have d0:=zai y _ _ _ c0;have d1:=zai y _ _ _ c1;have d2:=zai y _ _ _ c2;have d3:=zai y _ _ _ c3;have o:=I.trans (y.mono I.size);by_cases b3:i<N
  ·have hq:a+1+(i:Int)<a+n:=by have:=L.out;omega
   have D:=F.out (a+1+i) wr o (by omega);have l:=V.out i;rw[R.out,Bool.true_and]at l;have B:=U.out (i+1) (by omega);have wq:IntKind.i64.wrap (a+1+(i:Int)+1)=a+1+(i:Int)+1:=IntWalk.i64_in _ ⟨by omega,by omega⟩;generalize h.pk (a+1+i)=k1 at *;generalize h.pa (a+1+i)=k2 at *;generalize h.pn (a+1+i)=k3 at *;generalize h.pb (a+1+i)=k4 at *;replace D:=hd' D
   have fin:Hid (∀ X,Below W.heap.size W X->h.rowT a (i+1)=true->(∃ j:Nat,j<=N/\Value.int .i64 (a+1+(i:Int)+1)= .int .i64 (a+1+j)/\Hid (h.rowT a j=true)/\Below W.heap.size W X)/\(a+n-(a+1+(i:Int)+1)).toNat<(a+n-(a+1+(i:Int))).toNat):=
    hd' fun X Y z=>⟨⟨i+1,by omega,by congr 1;omega,hd' z,Y⟩,by omega⟩
   by_cases C:k1=4
   ·by_cases E:k2=a
    ·have z:h.rowT a (i+1)=true:=by rw[l,C,E];simp
     subst C E;replace z:=hd' z;clear l B;go_wp2_with fail;refine D.out.mono ?_;rintro e w3 ⟨rfl,r⟩;go_wp2;exact fin.out _ ((y.trans (r.mono y.size)).alloc (Nat.le_trans y.size r.size) _) z.out
    have O:(k2==a)=false:=by rw[beq_eq_false_iff_ne];exact E
    have z:=B (by rw[l,O,Bool.and_false]);have b2:(k2 !=a)=true:=by simpa using E
    subst C;replace z:=hd' z;clear l B fin;go_wp2_with fail;refine D.out.mono ?_;rintro e w3 ⟨rfl,r⟩;go_wp2;go_ret;exact⟨by rw[z.out];rfl,(o.trans (r.mono o.size)).alloc (Nat.le_trans o.size r.size) _⟩
   have M:(k1==4)=false:=by rw[beq_eq_false_iff_ne];exact C
   have z:=B (by rw[l,M,Bool.false_and]);have b0:(k1 !=4)=true:=by simpa using C
   replace z:=hd' z;clear l B fin;go_wp2_with fail;refine D.out.mono ?_;rintro e w3 ⟨rfl,r⟩;go_wp2;go_ret;exact⟨by rw[z.out];rfl,(o.trans (r.mono o.size)).alloc (Nat.le_trans o.size r.size) _⟩
  have Z:i=N:=by omega
  subst Z;clear b3;have hq:¬ (a+1+(i:Int)<a+n):=by have:=L.out;omega
  go_wp2;go_ret;exact⟨by rw[<-T.out,R.out];rfl,o⟩
theorem yik(h:Hp)(v:Value)(a:Int)(w:World)(b:Bok w v h)(ha:0<=a/\a<h.p):
  Calls Tryz.prog 39 #[zzu h v,a] w fun e w'=>e= .returned (.bool (h.snd a))/\Below w.heap.size w w':=by
 obtain⟨b1,_,_,_⟩:=b.bd;obtain⟨ao,cap,hv,_,_,_⟩:=b.rd.cells;generalize h.xs.length=m at hv;subst hv;have L:=fun X (N:Below w.heap.size w X)=>zpo h (.slice ao m cap) a X (b.below N) ha;have b2:=fun q X (N:Below w.heap.size w X) hq=>zpo h (.slice ao m cap) q X (b.below N) hq;have b4:=fun k X (N:Below w.heap.size w X)=>yii h (.slice ao m cap) a k X (b.below N) ha;have T:=fun X (N:Below w.heap.size w X)=>yiz h (.slice ao m cap) a X (b.below N) ha;have b3:=fun n X (N:Below w.heap.size w X) hn=>yjb h (.slice ao m cap) a n X (b.below N) ha hn;have O:=Hp.yji (h:=h) (a:=a);have R:=Hp.ygu (h:=h) (a:=a);have b9:=h.z1z a
 have hs:h.snd a=if h.pb a=true then
  (if h.pk a=2 then h.sup a (h.pa a)
   else if h.pk a=3 then h.bare a&&h.rowB a (h.pa a)
   else if h.pk a=4 then h.bare a&&(h.pk (h.pa a)==1||(h.pk (h.pa a)==3&&decide (a<h.pa a+h.pa (h.pa a))))
   else if h.pk a=0 then h.bare a
   else true)
 else false:=rfl;generalize h.pk a=k1 at *;generalize h.pa a=y at *;generalize h.pn a=F at *;generalize h.pb a=kb at *;generalize h.bare a=bb at *;rw[hs];clear hs b;replace L:=hd' L;replace b2:=hd' b2;replace b4:=hd' b4;replace T:=hd' T;replace b3:=hd' b3;rcases Bool.eq_false_or_eq_true kb with b0|b0;case inr=>subst b0;rw[if_neg Bool.false_ne_true];clear O R;go_in;go_wp2_with fail;refine(L.out _ (br.alloc lr _)).mono ?_;rintro e j ⟨rfl,o⟩;have l:Below w.heap.size w j:=((Below.refl w.heap.size w).alloc lr _).trans (o.mono (by simp));go_wp2;go_ret;exact⟨rfl,l.alloc l.size _⟩
 case inl=>
  subst b0;rw[if_pos rfl];by_cases q2:k1=2
  ·rw[if_pos q2];subst q2;clear O R;go_in;go_wp2_with fail;refine(L.out _ (br.alloc lr _)).mono ?_;rintro e j ⟨rfl,o⟩;have l:Below w.heap.size w j:=((Below.refl w.heap.size w).alloc lr _).trans (o.mono (by simp));have i:=(o.block _ (by simp)).trans (heap_alloc_new w (.cells #[h.p,h.c,h.m,.slice ao m cap] 84));have D:=heap_alloc_new j (.cells #[.int .i64 2,y,F] 88);have r:Below j.heap.size j (j.alloc (.cells #[.int .i64 2,y,F] 88)):=br.alloc lr _;have i:=(r.block _ (Array.getElem?_eq_some_iff.1 i).1).trans i;have z:Below w.heap.size w (j.alloc (.cells #[.int .i64 2,y,F] 88)):=l.trans (r.mono l.size);go_upto_region 2 with fail;obtain⟨H,hH,C⟩:=hidv w.heap.size;rw[<-C]at i ⊢;clear C r l o;generalize j.heap.size=G at D ⊢;generalize j.alloc (.cells #[.int .i64 2,y,F] 88)=W at *;have c0:W.cell? ⟨H,0,.none⟩=some (.int .i64 h.p):=zac i 0;have c1:W.cell? ⟨H,1,.none⟩=some (.int .i64 h.c):=zac i 1;have c2:W.cell? ⟨H,2,.none⟩=some (.int .i64 h.m):=zac i 2;have c3:W.cell? ⟨H,3,.none⟩=some (.slice ao m cap):=zac i 3;have Z:W.cell? ⟨G,0,.none⟩=some (.int .i64 2):=zac D 0;have p1:W.cell? ⟨G,1,.none⟩=some (.int .i64 y):=zac D 1;clear i D;go_wp2_with fail;refine(b4.out y _ z).mono ?_;rintro e w2 ⟨rfl,B⟩;go_wp2;go_ret;exact⟨rfl,z.trans (B.mono z.size)⟩
  rw[if_neg q2];by_cases q3:k1=3
  ·rw[if_pos q3];subst q3;have hk:=O (by simp);clear O R q2;have Y:=fun X N=>b3.out y X N hk;generalize h.rowB a y=rb at *;replace Y:=hd' Y;go_in;go_wp2_with fail;refine(L.out _ (br.alloc lr _)).mono ?_;rintro e j ⟨rfl,o⟩;have l:Below w.heap.size w j:=((Below.refl w.heap.size w).alloc lr _).trans (o.mono (by simp));have i:=(o.block _ (by simp)).trans (heap_alloc_new w (.cells #[h.p,h.c,h.m,.slice ao m cap] 84));have D:=heap_alloc_new j (.cells #[.int .i64 3,y,F] 88);have r:Below j.heap.size j (j.alloc (.cells #[.int .i64 3,y,F] 88)):=br.alloc lr _;have i:=(r.block _ (Array.getElem?_eq_some_iff.1 i).1).trans i;have z:Below w.heap.size w (j.alloc (.cells #[.int .i64 3,y,F] 88)):=l.trans (r.mono l.size);go_upto_region 2 with fail;obtain⟨H,hH,C⟩:=hidv w.heap.size;rw[<-C]at i ⊢;clear C r l o;generalize j.heap.size=G at D ⊢;generalize j.alloc (.cells #[.int .i64 3,y,F] 88)=W at *;have c0:W.cell? ⟨H,0,.none⟩=some (.int .i64 h.p):=zac i 0;have c1:W.cell? ⟨H,1,.none⟩=some (.int .i64 h.c):=zac i 1;have c2:W.cell? ⟨H,2,.none⟩=some (.int .i64 h.m):=zac i 2;have c3:W.cell? ⟨H,3,.none⟩=some (.slice ao m cap):=zac i 3;have Z:W.cell? ⟨G,0,.none⟩=some (.int .i64 3):=zac D 0;have p1:W.cell? ⟨G,1,.none⟩=some (.int .i64 y):=zac D 1;clear i D;go_wp2_with fail;refine(T.out _ z).mono ?_;rintro e w2 ⟨rfl,B⟩;have J:=z.trans (B.mono z.size);have c0:=zai B _ _ _ c0;have c1:=zai B _ _ _ c1;have c2:=zai B _ _ _ c2;have c3:=zai B _ _ _ c3;have Z:=zai B _ _ _ Z;have p1:=zai B _ _ _ p1;rcases Bool.eq_false_or_eq_true bb with M|M
   ·subst M;go_wp2_with fail;refine(Y.out _ J).mono ?_;rintro e w3 ⟨rfl,E⟩;go_wp2;go_ret;exact⟨rfl,J.trans (E.mono J.size)⟩
   subst M;go_wp2;go_ret;exact⟨rfl,J⟩
  rw[if_neg q3];by_cases q4:k1=4
  ·rw[if_pos q4];subst q4;have hk:=R (by simp);clear O R q2 q3;have U:=fun X N=>b2.out y X N (by omega);have b8:=h.z1z y;generalize h.pk y=j1 at *;generalize h.pa y=j2 at *;generalize h.pn y=j3 at *;generalize h.pb y=jb at *;replace U:=hd' U;have wj:=wrp (y+j2);go_in;go_wp2_with fail;refine(L.out _ (br.alloc lr _)).mono ?_;rintro e j ⟨rfl,o⟩;have l:Below w.heap.size w j:=((Below.refl w.heap.size w).alloc lr _).trans (o.mono (by simp));have i:=(o.block _ (by simp)).trans (heap_alloc_new w (.cells #[h.p,h.c,h.m,.slice ao m cap] 84));have D:=heap_alloc_new j (.cells #[.int .i64 4,y,F] 88);have r:Below j.heap.size j (j.alloc (.cells #[.int .i64 4,y,F] 88)):=br.alloc lr _;have i:=(r.block _ (Array.getElem?_eq_some_iff.1 i).1).trans i;have z:Below w.heap.size w (j.alloc (.cells #[.int .i64 4,y,F] 88)):=l.trans (r.mono l.size);go_upto_region 2 with fail;obtain⟨H,hH,C⟩:=hidv w.heap.size;rw[<-C]at i ⊢;clear C r l o;generalize j.heap.size=G at D ⊢;generalize j.alloc (.cells #[.int .i64 4,y,F] 88)=W at *;have c0:W.cell? ⟨H,0,.none⟩=some (.int .i64 h.p):=zac i 0;have c1:W.cell? ⟨H,1,.none⟩=some (.int .i64 h.c):=zac i 1;have c2:W.cell? ⟨H,2,.none⟩=some (.int .i64 h.m):=zac i 2;have c3:W.cell? ⟨H,3,.none⟩=some (.slice ao m cap):=zac i 3;have Z:W.cell? ⟨G,0,.none⟩=some (.int .i64 4):=zac D 0;have p1:W.cell? ⟨G,1,.none⟩=some (.int .i64 y):=zac D 1;clear i D;go_wp2_with fail;refine(U.out _ z).mono ?_;rintro e w2 ⟨rfl,B⟩;have E:=B.alloc B.size (.cells #[j1,j2,j3] 88);have g2:=heap_alloc_new w2 (.cells #[j1,j2,j3] 88);have J:=z.trans (E.mono z.size);have c0:=zai E _ _ _ c0;have c1:=zai E _ _ _ c1;have c2:=zai E _ _ _ c2;have c3:=zai E _ _ _ c3;have Z:=zai E _ _ _ Z;have p1:=zai E _ _ _ p1;go_upto_region 11 with fail;generalize w2.heap.size=K at g2 ⊢;generalize w2.alloc (.cells #[j1,j2,j3] 88)=V at *;have r0:V.cell? ⟨K,0,.none⟩=some (.int .i64 j1):=zac g2 0;have r1:V.cell? ⟨K,1,.none⟩=some (.int .i64 j2):=zac g2 1;clear g2 E B;go_wp2_with fail;refine(T.out _ J).mono ?_;rintro e w3 ⟨rfl,I⟩;have S:=J.trans (I.mono J.size);have c0:=zai I _ _ _ c0;have c1:=zai I _ _ _ c1;have c2:=zai I _ _ _ c2;have c3:=zai I _ _ _ c3;have Z:=zai I _ _ _ Z;have p1:=zai I _ _ _ p1;have r0:=zai I _ _ _ r0;have r1:=zai I _ _ _ r1;rcases Bool.eq_false_or_eq_true bb with M|M
   ·subst M;by_cases x1:j1=1
    ·subst x1;go_wp2;go_ret;exact⟨by rfl,S⟩
    have b6:(j1==1)=false:=by rw[beq_eq_false_iff_ne];exact x1
    by_cases x3:j1=3
    ·subst x3;by_cases x4:a<y+j2
     ·have b5:decide (a<y+j2)=true:=decide_eq_true x4;go_wp2;go_ret;exact⟨by rw[b5];rfl,S⟩
     have b5:decide (a<y+j2)=false:=decide_eq_false x4;go_wp2;go_ret;exact⟨by rw[b5];rfl,S⟩
    have b7:(j1==3)=false:=by rw[beq_eq_false_iff_ne];exact x3
    go_wp2;go_ret;exact⟨by rw[b6,b7];rfl,S⟩
   subst M;go_wp2;go_ret;exact⟨by rfl,S⟩
  rw[if_neg q4];clear O R;have y2:(k1==2)=false:=by rw[beq_eq_false_iff_ne];exact q2
  have y3:(k1==3)=false:=by rw[beq_eq_false_iff_ne];exact q3
  have y4:(k1==4)=false:=by rw[beq_eq_false_iff_ne];exact q4
  by_cases q0:k1=0
  ·rw[if_pos q0];subst q0;go_in;go_wp2_with fail;refine(L.out _ (br.alloc lr _)).mono ?_;rintro e j ⟨rfl,o⟩;have l:Below w.heap.size w j:=((Below.refl w.heap.size w).alloc lr _).trans (o.mono (by simp));have i:=(o.block _ (by simp)).trans (heap_alloc_new w (.cells #[h.p,h.c,h.m,.slice ao m cap] 84));have D:=heap_alloc_new j (.cells #[.int .i64 0,y,F] 88);have r:Below j.heap.size j (j.alloc (.cells #[.int .i64 0,y,F] 88)):=br.alloc lr _;have i:=(r.block _ (Array.getElem?_eq_some_iff.1 i).1).trans i;have z:Below w.heap.size w (j.alloc (.cells #[.int .i64 0,y,F] 88)):=l.trans (r.mono l.size);go_upto_region 2 with fail;obtain⟨H,hH,C⟩:=hidv w.heap.size;rw[<-C]at i ⊢;clear C r l o;generalize j.heap.size=G at D ⊢;generalize j.alloc (.cells #[.int .i64 0,y,F] 88)=W at *;have c0:W.cell? ⟨H,0,.none⟩=some (.int .i64 h.p):=zac i 0;have c1:W.cell? ⟨H,1,.none⟩=some (.int .i64 h.c):=zac i 1;have c2:W.cell? ⟨H,2,.none⟩=some (.int .i64 h.m):=zac i 2;have c3:W.cell? ⟨H,3,.none⟩=some (.slice ao m cap):=zac i 3;have Z:W.cell? ⟨G,0,.none⟩=some (.int .i64 0):=zac D 0;have p1:W.cell? ⟨G,1,.none⟩=some (.int .i64 y):=zac D 1;clear i D;go_wp2_with fail;refine(T.out _ z).mono ?_;rintro e w2 ⟨rfl,B⟩;go_wp2;go_ret;exact⟨rfl,z.trans (B.mono z.size)⟩
  rw[if_neg q0];have y0:(k1==0)=false:=by rw[beq_eq_false_iff_ne];exact q0
  go_in;go_wp2_with fail;refine(L.out _ (br.alloc lr _)).mono ?_;rintro e j ⟨rfl,o⟩;have l:Below w.heap.size w j:=((Below.refl w.heap.size w).alloc lr _).trans (o.mono (by simp));have i:=(o.block _ (by simp)).trans (heap_alloc_new w (.cells #[h.p,h.c,h.m,.slice ao m cap] 84));have D:=heap_alloc_new j (.cells #[k1,y,F] 88);have r:Below j.heap.size j (j.alloc (.cells #[k1,y,F] 88)):=br.alloc lr _;have i:=(r.block _ (Array.getElem?_eq_some_iff.1 i).1).trans i;have z:Below w.heap.size w (j.alloc (.cells #[k1,y,F] 88)):=l.trans (r.mono l.size);go_upto_region 2 with fail;obtain⟨H,hH,C⟩:=hidv w.heap.size;rw[<-C]at i ⊢;clear C r l o;generalize j.heap.size=G at D ⊢;generalize j.alloc (.cells #[k1,y,F] 88)=W at *;have c0:W.cell? ⟨H,0,.none⟩=some (.int .i64 h.p):=zac i 0;have c1:W.cell? ⟨H,1,.none⟩=some (.int .i64 h.c):=zac i 1;have c2:W.cell? ⟨H,2,.none⟩=some (.int .i64 h.m):=zac i 2;have c3:W.cell? ⟨H,3,.none⟩=some (.slice ao m cap):=zac i 3;have Z:W.cell? ⟨G,0,.none⟩=some (.int .i64 k1):=zac D 0;have p1:W.cell? ⟨G,1,.none⟩=some (.int .i64 y):=zac D 1;clear i D;go_wp2;go_ret;exact⟨rfl,z⟩
end

section

open Go.RowKit

theorem yh6:(Tryz.prog.info? 3).isSome=true:=by kernel_rfl
theorem yiv:Tryz.prog.cellsOf 3=1:=by kernel_rfl
theorem yhi(w:World)(d:Nat)(f b:List Int):∀ (l:List Nat),(∀ i ∈ l,i<f.length/\i<b.length)->
  (Op.eqItems (d+1) 3 1 (f.map (Value.int .i64)).toArray (b.map (Value.int .i64)).toArray l).run Tryz.prog w= .ok (l.all fun i=>f.getD i 0==b.getD i 0) w
 | [],_=>by simp[Op.eqItems]
 |i::l,h=>by
  have hi:=h i (by simp)
  have p:=yhi w d f b l fun j o=>h j (by simp[o])
  have n:=Tryz.underlying3
  have q:(part 3 (f.map (Value.int .i64)).toArray (i*1)).run Tryz.prog w= .ok (.int .i64 (f.getD i 0)) w:=by
   simp[part,isAgg,run_underlying n,List.getD,List.getElem?_eq_getElem hi.1]
  have r:(part 3 (b.map (Value.int .i64)).toArray (i*1)).run Tryz.prog w= .ok (.int .i64 (b.getD i 0)) w:=by
   simp[part,isAgg,run_underlying n,List.getD,List.getElem?_eq_getElem hi.2]
  simp only[Op.eqItems,Sem.run_bind,q,r,run_equalIn_int w d _ .i64 .i64 _ _ n,Result.andThen_ok,List.all_cons]
  cases hb:(f.getD i 0==b.getD i 0)
  ·simp
  ·simpa using p
theorem yjm(a b c d:Int)(w:World):∃ r:Bool,(Op.equal 145 (.agg #[a,b]) (.agg #[c,d])).run Tryz.prog w= .ok r w/\r=([0,1].all fun i=>[a,b].getD i 0== [c,d].getD i 0):=by
 obtain⟨f,hi⟩:=Option.isSome_iff_exists.1 yh6;refine⟨_,?_,rfl⟩;show (Op.equalIn (9998+2) 145 (.agg ([a,b].map (Value.int .i64)).toArray) (.agg ([c,d].map (Value.int .i64)).toArray)).run Tryz.prog w=_;rw[run_equalIn_array w (9998+1) _ _ Tryz.underlying145 hi,yiv,yhi w 9998 [a,b] [c,d] _ (fun i hi=>by have:=List.mem_range.1 hi;simp;omega)];rfl
theorem yi3(e:Bool)(a b:Int)(w:World):(Instr.checkKey e 10000 145 (.agg #[a,b])).run Tryz.prog w= .ok () w:=by
 kernel_rfl
def yhx (es:Array MapEntry):Prop:=∀ e ∈ es.toList,(∃ a b:Int,e.key= .agg #[a,b])/\e.val= .agg #[]
theorem yhx.nil:yhx #[]:=fun e b=>by simp at b
theorem yhx.push{es:Array MapEntry}(h:yhx es)(a b:Int)(n:Nat):yhx (es.push ⟨.agg #[a,b],.agg #[],n⟩):=fun e f=>by
 simp only[Array.toList_push,List.mem_append,List.mem_singleton]at f
 rcases f with f|f
 ·exact h e f
 ·subst f;exact⟨⟨a,b,rfl⟩,rfl⟩
theorem yih(a b:Int):∀ (es:List MapEntry) (i:Nat),(∀ e ∈ es,(∃ a b:Int,e.key= .agg #[a,b])/\e.val= .agg #[])->
  ∃ r:Option Nat,(∀ w:World,(Instr.findAsking 145 (.agg #[a,b]) es i).run Tryz.prog w= .ok (r.map fun j=>(j,.agg #[])) w)/\((∀ e ∈ es,e.key≠ .agg #[a,b])->r=none)
 | [],i,_=>⟨none,fun w=>rfl,fun _=>rfl⟩
 |e::es,i,h=>by
  obtain⟨⟨c,d,l⟩,z⟩:=h e (by simp)
  obtain⟨r,y,p⟩:=yih a b es (i+1) fun e n=>h e (by simp[n])
  have f:=fun w=>yjm a b c d w
  cases hb:([0,1].all fun i=>[a,b].getD i 0== [c,d].getD i 0)
  ·refine⟨r,fun w=>?_,fun l=>p fun e n=>l e (by simp[n])⟩
   obtain⟨q,h1,h2⟩:=f w
   rw[hb]at h2;subst h2
   simp only[Instr.findAsking,Sem.run_bind,l,h1,Result.andThen_ok]
   exact y w
  ·refine⟨some i,fun w=>?_,fun o=>(o e (by simp) ?_).elim⟩
   rotate_left
   ·simp only[List.all_cons,List.all_nil,Bool.and_true,Bool.and_eq_true,List.getD_cons_zero,List.getD_cons_succ,beq_iff_eq]at hb
    rw[l,hb.1,hb.2]
   obtain⟨q,h1,h2⟩:=f w
   rw[hb]at h2;subst h2
   simp only[Instr.findAsking,Sem.run_bind,l,h1,Result.andThen_ok]
   simp[z]
theorem yjs(a b:Int)(es:Array MapEntry)(h:yhx es):∃ r:Option Nat,(∀ w:World,(Instr.findKey 145 (.agg #[a,b]) es.toList).run Tryz.prog w= .ok (r.map fun j=>(j,.agg #[])) w)/\((∀ e ∈ es.toList,e.key≠ .agg #[a,b])->r=none):=by
 obtain⟨r,o,i⟩:=yih a b es.toList 0 h;have hu:=Tryz.underlying145;cases hes:es.toList with
 |nil=>refine⟨none,fun w=>?_,fun _=>rfl⟩;simp[Instr.findKey,Instr.findNow,run_underlying hu]
 |cons e l=>
  refine⟨r,fun w=>?_,fun f=>i (hes ▸ f)⟩;rw[<-hes];have n:∀ d:TypeDesc,(∀ k,d≠ .int k)->d≠ .string->d≠ .bool->Instr.findNow d (.agg #[a,b]) es.toList 0=none:=fun d h1 h2 h3=>by rw[hes];obtain⟨⟨c,d',f⟩,_⟩:=h e (by rw[hes];simp);simp only[Instr.findNow,f];cases d<;>simp_all [Instr.sameNow]
  simp only[Instr.findKey,Sem.run_bind,run_underlying hu,Result.andThen_ok];rw[n _ (fun k=>by simp) (by simp) (by simp)];exact o w
theorem yju(w:World):(zeroValue 146).run Tryz.prog w= .ok (.agg #[]) w:=by kernel_rfl
def yhm (w:World) (M:Nat) (es:Array MapEntry) (c:Nat):World:= { w with heap:=w.heap.setIfInBounds M (.map es c) }
theorem yij{w:World}{M:Nat}(es:Array MapEntry)(c:Nat)(h:M<w.heap.size):(yhm w M es c).heap[M]?=some (.map es c):=by
 unfold yhm;simp[h]
theorem yh4(w:World)(M:Nat)(es:Array MapEntry)(c:Nat):(yhm w M es c).heap.size=w.heap.size:=by simp[yhm]
theorem map2(a b:Int)(es:Array MapEntry)(h:yhx es):∃ r:Bool,
  (∀ (w:World) (M c:Nat),w.heap[M]?=some (.map es c)->(Instr.lookup 139 (.map (some M)) (.agg #[a,b]) true).run Tryz.prog w= .ok (.tuple #[.agg #[],r]) w)/\
  (r=false->∀ (w:World) (M c:Nat),w.heap[M]?=some (.map es c)->(Instr.mapUpdate 139 (.map (some M)) (.agg #[a,b]) (.agg #[])).run Tryz.prog w= .ok () (yhm w M (es.push ⟨.agg #[a,b],.agg #[],c⟩) (c+1)))/\
  ((∀ e ∈ es.toList,e.key≠ .agg #[a,b])->r=false):=by
 obtain⟨r,p,n⟩:=yjs a b es h;have hu:=Tryz.underlying139;refine⟨r.isSome,fun w M c f=>?_,fun y w M c f=>?_,fun q=>by rw[n q];rfl⟩
 ·have l:(getObj M).run Tryz.prog w= .ok (.map es c) w:=by simp[getObj,Sem.run,f]
  have z:=yju w;have hc:=yi3 es.isEmpty a b w;have i:=p w;cases r with
  |none=>simp[Instr.lookup,run_underlying hu,l,hc,i,z]
  |some j=>simp[Instr.lookup,run_underlying hu,l,hc,i]
 have l:(getObj M).run Tryz.prog w= .ok (.map es c) w:=by simp[getObj,Sem.run,f]
 have hc:=yi3 false a b w;have i:=p w;cases r with
 |some j=>cases y;|none=>
  have hs:∀ o,(setObj M o).run Tryz.prog w= .ok () {w with heap:=w.heap.setIfInBounds M o}:=fun o=>by simp[setObj,Sem.run,f]
  simp[Instr.mapUpdate,run_underlying hu,l,hc,i,hs,yhm]
end

end Go.Proofs.YtedcnffebdpmmaaGreat
