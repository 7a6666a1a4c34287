/- Texts bound together: MchN MchL InvA. -/
import Derived.Test.YtkbddndcegpllaaGreatBg3

set_option linter.all false
namespace Go.Proofs.YtkbddndcegpllaaGreat

section

structure rnOk (s:Sh) (t:Rn):Prop where
 cl:t.done=false->(0<=t.c/\t.c < s.c)/\(1<=t.pages/\t.pages<=8)/\(0<=t.head/\t.head + t.pages<=s.p)/\(t.head<=t.at'/\t.at'<=t.head + t.pages)/\(0<=t.next/\t.next<=5)/\
  (t.next≠5->t.at' < t.head + t.pages)/\(t.next=2->∃ x,t.strip=some x/\spOk s x/\x.done=false)/\(t.next=3->0<=t.i/\t.i < 16)/\(t.next=4->t.head < t.i/\t.i<=t.at')/\(t.next=5->t.head < t.i/\t.i < t.head + t.pages)
 fd:t.found=true->t.done=true/\(1<=t.pages/\t.pages<=8)/\(0<=t.head/\t.head + t.pages<=s.p)
theorem zwt(s:Sh)(c n:Int):rnOk s (zf8 s c n):=by
 refine⟨fun h=>?_,fun h=>(by cases h)⟩;simp only[zf8,Bool.not_eq_false',Bool.and_eq_true,decide_eq_true_eq]at h ⊢;obtain⟨⟨⟨b,f⟩,i⟩,l⟩:=h;have j:=zbe b;refine⟨by omega,by omega,by omega,by omega,by omega,fun _=>by omega,fun e=>(by cases e),fun e=>(by cases e),fun e=>(by cases e),fun e=>(by cases e)⟩
theorem zld{s:Sh}{t:Rn}(m:t.found=false)(j:0<=t.c/\t.c<s.c)(b:1<=t.pages/\t.pages<=8)(f:0<=t.head/\t.head+t.pages<=s.p)(l:t.head<=t.at'/\t.at'<=t.head+t.pages)(n:t.next=5)(o:t.head<=t.i/\t.i<t.head+t.pages):rnOk s t.written:=by
 unfold Rn.written;split
 ·exact⟨fun e=>(by cases e),fun _=>⟨rfl,b,f⟩⟩
 refine⟨fun _=>⟨j,b,f,l,by dsimp only;omega,fun e=>?_,fun e=>?_,fun e=>?_,fun e=>?_,fun _=>?_⟩,fun e=>?_⟩
 ·dsimp only at e;omega
 ·dsimp only at e;omega
 ·dsimp only at e;omega
 ·dsimp only at e;omega
 ·dsimp only;omega
 dsimp only at e;rw[m]at e;cases e
theorem zxd{s:Sh}{t:Rn}(j:t.found=false)(b:0<=t.c/\t.c<s.c)(f:1<=t.pages/\t.pages<=8)(i:0<=t.head/\t.head+t.pages<=s.p)(l:t.head<=t.at'/\t.at'<t.head+t.pages):rnOk s t.own:=by
 unfold Rn.own;split
 ·exact zld j b f i (by dsimp only;omega) rfl (by dsimp only;omega)
 refine⟨fun _=>⟨b,f,i,by dsimp only;omega,by dsimp only;omega,fun _=>by dsimp only;omega,fun e=>(by cases e),fun e=>(by cases e),fun e=>(by cases e),fun e=>(by cases e)⟩,fun e=>?_⟩;dsimp only at e;rw[j]at e;cases e
theorem zrn{s:Sh}{t:Rn}(j:t.found=false)(hd:t.done=false)(b:0<=t.c/\t.c<s.c)(f:1<=t.pages/\t.pages<=8)(l:0<=t.head/\t.head+t.pages<=s.p)(m:t.head<=t.at'/\t.at'<t.head+t.pages)(n:t.next=4)(o:t.i<=t.at'):rnOk s (t.gone s):=by
 unfold Rn.gone;split
 ·refine⟨fun _=>⟨b,f,l,by omega,by omega,fun _=>m.2,fun e=>by omega,fun e=>by omega,fun _=>by omega,fun e=>by omega⟩,fun e=>?_⟩;rw[j]at e;cases e
 refine⟨fun e=>?_,fun e=>?_⟩
 ·have:¬ s.p-t.pages<t.at'+1:=by simpa using e
  exact⟨b,f,by dsimp only;omega,by dsimp only;omega,by dsimp only;omega,fun _=>by dsimp only;omega,fun e=>(by cases e),fun e=>(by cases e),fun e=>(by cases e),fun e=>(by cases e)⟩
 dsimp only at e;rw[j]at e;cases e
theorem zmm{s:Sh}{t:Rn}(l:t.found=false)(hd:t.done=false)(b:0<=t.c/\t.c<s.c)(f:1<=t.pages/\t.pages<=8)(i:0<=t.head/\t.head+t.pages<=s.p)(j:t.head<=t.at'/\t.at'<t.head+t.pages):rnOk s (t.miss s):=
 zrn l hd b f i j rfl (Int.le_refl _)
theorem z0v{s:Sh}{t:Rn}(m:Mem)(h:rnOk s t):rnOk s (zcr s t m).1:=by
 unfold zcr;dsimp only;split
 ·exact h
 rename_i hd;have hd:t.done=false:=by simpa using hd
 obtain⟨c1,c2,c3,j,y,b,C,l,n,i⟩:=h.cl hd;have f:=zb7 h.fd hd;by_cases B:t.next=0
 ·have b:=b (by omega);rw[if_pos B];dsimp only;split
  ·refine⟨fun _=>⟨c1,c2,c3,j,by dsimp only;omega,fun _=>b,fun e=>(by cases e),fun e=>(by cases e),fun e=>(by cases e),fun e=>(by cases e)⟩,fun e=>?_⟩;dsimp only at e;rw[f]at e;cases e
  split
  ·rename_i q;refine⟨fun _=>⟨c1,c2,c3,j,by dsimp only;omega,fun _=>b,fun _=>⟨_,rfl,zwx _ _ _ _,?_⟩,fun e=>(by cases e),fun e=>(by cases e),fun e=>(by cases e)⟩,fun e=>?_⟩
   ·have z:=(zea.1 q.1).2.1;have D:=zcs z;have E:=(zdq q.1 q.2).2.2;have F:0<=zae s.p s.c s.m t.c:=by unfold zae;rw[if_pos ⟨D.1,zbc.2 (by omega)⟩];exact c1.1
    simp[zfa,z,E,F]
   dsimp only at e;rw[f]at e;cases e
  exact zmm f hd c1 c2 c3 (by omega)
 rw[if_neg B];by_cases n1:t.next=1
 ·have b:=b (by omega);rw[if_pos n1];dsimp only;split
  ·exact zxd f c1 c2 c3 (by omega)
  exact zmm f hd c1 c2 c3 (by omega)
 rw[if_neg n1];by_cases n2:t.next=2
 ·have b:=b (by omega);obtain⟨x,G,r,H⟩:=C n2;rw[if_pos n2,G];dsimp only;split
  ·refine⟨fun _=>⟨c1,c2,c3,j,by dsimp only;omega,fun _=>b,fun e=>(by cases e),fun _=>by dsimp only;omega,fun e=>(by cases e),fun e=>(by cases e)⟩,fun e=>?_⟩;dsimp only at e;rw[f]at e;cases e
  split
  ·exact zmm f hd c1 c2 c3 (by dsimp only;omega)
  rename_i o;refine⟨fun _=>⟨c1,c2,c3,j,y,fun _=>b,fun _=>⟨_,rfl,znr m r,by simpa using o⟩,fun e=>?_,fun e=>?_,fun e=>?_⟩,fun e=>?_⟩
  ·exact l e
  ·exact n e
  ·exact i e
  dsimp only at e;rw[f]at e;cases e
 rw[if_neg n2];by_cases n3:t.next=3
 ·have b:=b (by omega);have l:=l n3;rw[if_pos n3];dsimp only;split
  ·exact zxd f c1 c2 c3 (by dsimp only;omega)
  refine⟨fun _=>⟨c1,c2,c3,j,y,fun _=>b,fun e=>absurd e n2,fun _=>by dsimp only;omega,fun e=>by dsimp only at e;omega,fun e=>by dsimp only at e;omega⟩,fun e=>?_⟩;dsimp only at e;rw[f]at e;cases e
 rw[if_neg n3];by_cases n4:t.next=4
 ·have b:=b (by omega);have n:=n n4;rw[if_pos n4];exact zrn f hd c1 c2 c3 (by dsimp only;omega) n4 (by dsimp only;omega)
 rw[if_neg n4];have n5:t.next=5:=by omega
 have i:=i n5;exact zld f c1 c2 c3 j n5 (by omega)
theorem zdi{s:Sh}{c:Int}{b:Blk}:b.fits s c=true↔mayB s.p s.c s.m=true/\(0<=c/\c<s.c)/\(0<=b.page/\b.page<s.p)/\(b.large=true->1<=b.pages/\b.pages<=8/\b.pages<=s.p-b.page)/\(b.large=false->0<=b.slot/\b.slot<zah b.k):=by
 unfold Blk.fits;by_cases j:zae s.p s.c s.m c<0
 ·rw[if_pos (.inl j)];refine⟨fun e=>(by cases e),fun h=>?_⟩;have:zae s.p s.c s.m c=c:=by unfold zae;rw[if_pos ⟨h.1,zbc.2 (by omega)⟩]
  omega
 by_cases l:zak s.p s.c s.m b.page<0
 ·rw[if_pos (.inr l)];refine⟨fun e=>(by cases e),fun h=>?_⟩;have f:=zar.1 h.1;have:zak s.p s.c s.m b.page=s.c+b.page:=by unfold zak;rw[if_pos ⟨h.1,zbc.2 (by omega)⟩]
  omega
 rw[if_neg (by omega)];have f:=zbe (by omega:0<=zae s.p s.c s.m c);have i:=zcs (by omega:0<=zak s.p s.c s.m b.page);cases hl:b.large
 ·simp only[Bool.false_eq_true,if_false,Bool.and_eq_true,decide_eq_true_eq];exact⟨fun h=>⟨f.1,f.2,i.2,fun e=>(by cases e),fun _=>h⟩,fun h=>h.2.2.2.2 (by simp)⟩
 simp only[if_true,Bool.and_eq_true,decide_eq_true_eq];exact⟨fun h=>⟨f.1,f.2,i.2,fun _=>⟨h.1.1,h.1.2,h.2⟩,fun e=>(by cases e)⟩,fun h=>by have:=h.2.2.2.1 (by simp);exact⟨⟨this.1,this.2.1⟩,this.2.2⟩⟩
def cmOk (s:Sh) (t:Cm):Prop:=t.done=false->t.b.fits s t.c=true
theorem zpt(s:Sh)(c:Int)(b:Blk):cmOk s (zc4 s c b):=fun h=>by simpa[zc4] using h
structure unOk (s:Sh) (t:Un):Prop where
 cl:t.done=false->t.b.fits s t.c=true/\(t.b.large=true->0<=t.i/\t.i < t.b.pages)
theorem z8l(s:Sh)(c:Int)(b:Blk):unOk s (zf1 s c b):=by
 refine⟨fun h=>?_⟩;have h:b.fits s c=true:=by simpa[zf1] using h
 refine⟨h,fun f=>?_⟩;have:=(zdi.1 h).2.2.2.1 f;simp only[zf1];omega
theorem z0o{s:Sh}{t:Un}(m:Mem)(h:unOk s t):unOk s (zcf s t m).1:=by
 unfold zcf;split
 ·exact h
 rename_i hd;obtain⟨i,j⟩:=h.cl (by simpa using hd);split
 ·exact⟨fun e=>(by cases e)⟩
 rename_i f;have f:t.b.large=true:=by simpa using f
 have l:=j f;split
 ·exact⟨fun e=>(by cases e)⟩
 exact⟨fun _=>⟨i,fun _=>by dsimp only;omega⟩⟩
structure feOk (s:Sh) (t:Fe):Prop where
 cl:t.done=false->(0<=t.c/\t.c < s.c)/\(0<=t.page/\t.page < s.p)/\spB s t.a=true/\(0<=t.next/\t.next<=4)/\(t.next<=1->t.i=0)/\
  (1<=t.next->(t.pk=3/\1<=t.pa/\t.pa<=8/\t.pa<=s.p - t.page)\/(t.pk=2/\0 < zah t.pa/\(0<=t.slot/\t.slot < zah t.pa)))/\
  (t.next=1->0<=t.word/\t.word < 18446744073709551616)/\(t.next=2->t.pk=2/\∃ x,t.put=some x/\puOk s x/\x.done=false)/\(t.next=3->t.pk=2)/\(t.next=4->t.pk=3/\0<=t.i/\t.i < t.pa)
theorem z05{s:Sh}{a:Int}:spB s a=true↔mayB s.p s.c s.m=true/\0<=a/\a<s.p*64:=by
 unfold spB;simp only[Bool.and_eq_true,zbc];exact⟨fun h=>⟨h.1,h.2.1,by omega⟩,fun h=>⟨h.1,h.2.1,by omega⟩⟩
theorem zwa(s:Sh)(c a:Int):feOk s (zc2 s c a):=by
 refine⟨fun h=>?_⟩;simp only[zc2,Bool.or_eq_false_iff,Bool.not_eq_false',decide_eq_false_iff_not]at h ⊢;obtain⟨b,i⟩:=h;have j:=z05.1 b;have f:=zbe (by omega:0<=zae s.p s.c s.m c);rw[if_pos b];exact⟨f.2,by omega,b,by omega,(fun _=>by first|rfl|trivial),fun e=>by omega,fun e=>by omega,fun e=>by omega,fun e=>by omega,fun e=>by omega⟩
theorem zcv(t:Fe)(x:Pu)(b:t.put=some x):(x.put=true/\t.kept= {t with done:=true})\/(x.put=false/\x.done=true/\t.kept= {t with next:=3})\/(x.put=false/\x.done=false/\t.kept=t):=by
 unfold Fe.kept;rw[b];dsimp only;cases h1:x.put
 ·cases h2:x.done
  ·exact .inr (.inr ⟨rfl,rfl,by simp⟩)
  exact .inr (.inl ⟨rfl,rfl,by simp⟩)
 exact .inl ⟨rfl,by simp⟩
theorem zwy{b k:Int}(h:0<=b/\b<64)(f:0<zah k):0<zbj k/\0<=b/zbj k/\b/zbj k<zah k:=by
 have i:=zb4 f;have:k=0\/k=1\/k=2\/k=3:=by omega
 rcases this with rfl|rfl|rfl|rfl
 ·rw[show zbj 0=4 from rfl,show zah 0=16 from rfl];omega
 ·rw[show zbj 1=8 from rfl,show zah 1=8 from rfl];omega
 ·rw[show zbj 2=16 from rfl,show zah 2=4 from rfl];omega
 rw[show zbj 3=32 from rfl,show zah 3=2 from rfl];omega
theorem z1a{s:Sh}{t:Fe}(m:Mem)(z:m.fit)(h:feOk s t):feOk s (zca s t m).1:=by
 unfold zca;split
 ·exact h
 rename_i hd;have hd:t.done=false:=by simpa using hd
 obtain⟨c1,c2,c3,r,o,b,L,C,M,l⟩:=h.cl hd;by_cases B:t.next=0
 ·rw[if_pos B];unfold Fe.look;dsimp only;have n:0<=t.a%64/\t.a%64<64:=by omega
  split
  ·rename_i hb;have f:=zn1 hb.1 hb.2.1;refine⟨fun _=>⟨c1,c2,c3,by dsimp only;omega,fun _=>o (by omega),fun _=>.inl ?_,fun _=>Mem.ze4 z _,fun e=>by dsimp only at e;omega,fun e=>by dsimp only at e;omega,fun e=>by dsimp only at e;omega⟩⟩;dsimp only;rw[if_pos hb.1,if_pos hb.1];exact⟨hb.2.1,f⟩
  split
  ·rename_i hb;have f:=(zdq hb.1 hb.2.1).2.2;refine⟨fun _=>⟨c1,c2,c3,by dsimp only;omega,fun _=>o (by omega),fun _=>.inr ?_,fun _=>Mem.ze4 z _,fun e=>by dsimp only at e;omega,fun e=>by dsimp only at e;omega,fun e=>by dsimp only at e;omega⟩⟩;dsimp only;rw[if_pos hb.1,if_pos hb.1];exact⟨hb.2.1,f,(zwy n f).2⟩
  exact⟨fun e=>(by cases e)⟩
 rw[if_neg B];by_cases n1:t.next=1
 ·rw[if_pos n1];have b:=b (by omega);have o:=o (by omega);unfold Fe.claim;split
  ·rename_i j;have b:1<=t.pa/\t.pa<=8/\t.pa<=s.p-t.page:=by rcases b with h|h<;>omega
   refine⟨fun _=>⟨c1,c2,c3,by dsimp only;omega,fun e=>by dsimp only at e;omega,fun _=>.inl ⟨j,b⟩,fun e=>by dsimp only at e;omega,fun e=>by dsimp only at e;omega,fun e=>by dsimp only at e;omega,fun _=>⟨j,by dsimp only;omega,by dsimp only;omega⟩⟩⟩
  rename_i j;have b:t.pk=2/\0<zah t.pa/\(0<=t.slot/\t.slot<zah t.pa):=by rcases b with h|h;exact absurd h.1 j;exact h
  dsimp only;have i:∀ (u:Fe),u.c=t.c->u.page=t.page->u.a=t.a->u.next=3->u.pk=t.pk->u.pa=t.pa->u.slot=t.slot->feOk s u:=fun u D E F N y G H=>by refine⟨fun _=>⟨by rw[D];exact c1,by rw[E];exact c2,by rw[F];exact c3,by omega,fun e=>by omega,fun _=>.inr ?_,fun e=>by omega,fun e=>by omega,fun _=>by rw[y];exact b.1,fun e=>by omega⟩⟩;rw[y,G,H];exact b
  split
  ·rcases zcv ({t with gave:=decide (m.get (zbk s.p s.c s.m t.page t.slot)=zfl t.pa),next:=2,put:=some (zg5 s t.c t.page t.slot t.pa)}:Fe) _ rfl with⟨h1,_⟩|⟨h1,h2,f⟩|⟨h1,h2,f⟩
   ·simp[zg5]at h1
   ·rw[f];exact i _ rfl rfl rfl rfl rfl rfl rfl
   rw[f];exact⟨fun _=>⟨c1,c2,c3,by dsimp only;omega,fun e=>by dsimp only at e;omega,fun _=>.inr b,fun e=>by dsimp only at e;omega,fun _=>⟨b.1,_,rfl,z4n _ _ _ _ _,h2⟩,fun e=>by dsimp only at e;omega,fun e=>by dsimp only at e;omega⟩⟩
  exact i _ rfl rfl rfl rfl rfl rfl rfl
 rw[if_neg n1];by_cases n2:t.next=2
 ·rw[if_pos n2];have b:=b (by omega);obtain⟨j,x,I,q,J⟩:=C n2;rw[I];dsimp only;rcases zcv ({t with put:=some (zd3 s x m).1}:Fe) _ rfl with⟨h1,f⟩|⟨h1,h2,f⟩|⟨h1,h2,f⟩
  ·rw[f];exact⟨fun e=>(by cases e)⟩
  ·rw[f];exact⟨fun _=>⟨c1,c2,c3,by dsimp only;omega,fun e=>by dsimp only at e;omega,fun _=>b,fun e=>by dsimp only at e;omega,fun e=>by dsimp only at e;omega,fun _=>j,fun e=>by dsimp only at e;omega⟩⟩
  rw[f];exact⟨fun _=>⟨c1,c2,c3,r,fun e=>by dsimp only at e;omega,fun _=>b,fun e=>by dsimp only at e;omega,fun _=>⟨j,_,rfl,zq5 m q,h2⟩,fun _=>j,fun e=>by dsimp only at e;omega⟩⟩
 rw[if_neg n2];by_cases n3:t.next=3
 ·rw[if_pos n3];exact⟨fun e=>(by cases e)⟩
 rw[if_neg n3];have n4:t.next=4:=by omega
 have l:=l n4;split
 ·exact⟨fun e=>(by cases e)⟩
 exact⟨fun _=>⟨c1,c2,c3,r,fun e=>by dsimp only at e;omega,fun _=>b (by omega),fun e=>by dsimp only at e;omega,fun e=>by dsimp only at e;omega,fun e=>by dsimp only at e;omega,fun _=>⟨l.1,by dsimp only;omega,by dsimp only;omega⟩⟩⟩
inductive Acts (c:Int) (m:Mem):Mem->Prop
 | load {a:Int} (h:m.has a):Acts c m (m.load c a)
 | store {a x:Int} (h:m.has a) (hx:0<=x/\x < 18446744073709551616):Acts c m (m.store c a x)
 | swap {a y x:Int} (h:m.has a) (hx:0<=x/\x < 18446744073709551616):Acts c m (m.swap c a y x)
theorem Acts.st{c:Int}{m b:Mem}(h:Acts c m b):b.st=m.st+1:=by cases h<;>rfl
theorem Acts.len{c:Int}{m b:Mem}(h:Acts c m b):b.ws.length=m.ws.length:=by cases h<;>simp
theorem Acts.fits{s:Sh}{c:Int}{m b:Mem}(h:Acts c m b)(f:Fits s m):Fits s b:=f.zh1 h.len
theorem ztw{m:Mem}{k:Nat}{x st:Int}{la:Acc}(b:m.fit)(f:0<=x/\x<18446744073709551616):Mem.fit ⟨m.ws.set k x,st,la⟩:=by
 intro y i;rcases List.mem_or_eq_of_mem_set i with h|h
 ·exact b y h
 rw[h];exact f
theorem Acts.fit{c:Int}{m i:Mem}(h:Acts c m i)(b:m.fit):i.fit:=by
 cases h with
 |load _=>exact b
 |store _ f=>exact ztw b f;|swap _ f=>
  unfold Mem.swap;split
  ·exact ztw b f
  exact b
theorem Acts.of{c b:Int}{m f:Mem}(h:Acts c m f)(e:c=b):Acts b m f:=e ▸ h
theorem Fits.magA{s:Sh}{m:Mem}(h:Fits s m){x i:Int}(b:0<=x/\x<s.c)(hi:0<=i/\i<s.m):m.has (ze9 s.p s.c s.m x i):=by rw[(h.mag b hi).1];exact(h.mag b hi).2
theorem Fits.zj0{s:Sh}{m:Mem}(h:Fits s m){x i:Int}(b:0<=x/\x<s.p)(hi:0<=i/\i<16):m.has (zbk s.p s.c s.m x i):=by rw[(h.slot b hi).1];exact(h.slot b hi).2
theorem Fits.zhu{s:Sh}{m:Mem}(h:Fits s m){x:Int}(b:0<=x/\x<s.p):m.has (zak s.p s.c s.m x):=by rw[(h.page b).1];exact(h.page b).2
theorem Fits.zda{s:Sh}{m:Mem}(h:Fits s m){x:Int}(b:0<=x/\x<s.c):m.has (zae s.p s.c s.m x):=by rw[(h.status b).1];exact(h.status b).2
theorem zms:(0:Int)<=0/\(0:Int)<18446744073709551616:=by decide
theorem zkf(k:Int):0<=zc8 k/\zc8 k<18446744073709551616:=zch _ _
theorem zmd(k:Int):0<=wayW k/\wayW k<18446744073709551616:=zch _ _
theorem zx7(k:Int):0<=zfl k/\zfl k<18446744073709551616:=zch _ _
theorem zj1(k:Int):0<=zf4 k/\zf4 k<18446744073709551616:=zc0 _ _ _
def ziz (s:Sh) (t:Tk):Int:=if t.done=true then 0 else if t.hit=true then 1 else s.m - t.i + 1
theorem yey{s:Sh}{t:Tk}(h:tkOk s t)(hd:t.done=false):1<=ziz s t:=by
 have:=h.cl hd;unfold ziz;rw[if_neg (by rw[hd];decide)];split<;>omega
theorem ybn{s:Sh}{t:Tk}{m:Mem}(h:tkOk s t)(hd:t.done=false)(j:Fits s m):Acts t.c m (zd2 s t m).2/\(zd2 s t m).1.c=t.c/\ziz s (zd2 s t m).1+1<=ziz s t:=by
 have hc:=h.cl hd;have f:=j.magA hc.1 hc.2;have i:¬ t.done=true:=by rw[hd];decide
 unfold zd2 ziz;dsimp only;rw[if_neg i];by_cases b:t.hit=true
 ·rw[if_pos b];refine⟨.store f zms,rfl,?_⟩;simp only[if_true,b,hd,Bool.false_eq_true,if_false];omega
 rw[if_neg b];split
 ·refine⟨.load f,rfl,?_⟩;simp only[if_true,b,hd,Bool.false_eq_true,if_false];omega
 refine⟨.load f,rfl,?_⟩;simp only[b,hd,Bool.false_eq_true,if_false,decide_eq_true_eq];split<;>omega
theorem yde(s:Sh)(c k:Int)(b:0<=s.m):ziz s (zg3 s c k)<=s.m+1/\(zg3 s c k).c=c:=by
 refine⟨?_,rfl⟩;unfold ziz zg3;dsimp only;split
 ·omega
 rw[if_neg (by decide)];omega
theorem z1k{s:Sh}{t:Tk}(h:tkOk s t):0<=ziz s t:=by
 rcases Bool.eq_false_or_eq_true t.done with hd|hd
 ·unfold ziz;rw[if_pos hd];omega
 have:=yey h hd;omega
def zh2 (s:Sh) (t:Pu):Int:=if t.done=true then 0 else if t.hit=true then 1 else s.m - t.i + 1
theorem ydf{s:Sh}{t:Pu}(h:puOk s t)(hd:t.done=false):1<=zh2 s t:=by
 have:=h.cl hd;unfold zh2;rw[if_neg (by rw[hd];decide)];split<;>omega
theorem ybu{s:Sh}{t:Pu}{m:Mem}(h:puOk s t)(hd:t.done=false)(j:Fits s m):Acts t.c m (zd3 s t m).2/\(zd3 s t m).1.c=t.c/\zh2 s (zd3 s t m).1+1<=zh2 s t:=by
 have hc:=h.cl hd;have f:=j.magA hc.1 hc.2;have i:¬ t.done=true:=by rw[hd];decide
 unfold zd3 zh2;dsimp only;rw[if_neg i];by_cases b:t.hit=true
 ·rw[if_pos b];refine⟨.store f (zj3 _ _ (by decide) (by simp)),rfl,?_⟩;simp only[if_true,b,hd,Bool.false_eq_true,if_false];omega
 rw[if_neg b];split
 ·refine⟨.load f,rfl,?_⟩;simp only[if_true,b,hd,Bool.false_eq_true,if_false];omega
 refine⟨.load f,rfl,?_⟩;simp only[b,hd,Bool.false_eq_true,if_false,decide_eq_true_eq];split<;>omega
theorem yfa(s:Sh)(c pg sl k:Int)(b:0<=s.m):zh2 s (zg5 s c pg sl k)<=s.m+1/\(zg5 s c pg sl k).c=c:=by
 refine⟨?_,rfl⟩;unfold zh2 zg5;dsimp only;split
 ·omega
 rw[if_neg (by decide)];omega
theorem ztc{s:Sh}{t:Pu}(h:puOk s t):0<=zh2 s t:=by
 rcases Bool.eq_false_or_eq_true t.done with hd|hd
 ·unfold zh2;rw[if_pos hd];omega
 have:=ydf h hd;omega
def zee (s:Sh) (t:Sc):Int:=if t.done=true then 0 else (s.p - t.many - 1) * 33 + (if t.next=0 then 33 else if t.next=1 then 2 * (zah t.k - t.i) else 2 * (zah t.k - t.i) - 1)
theorem yeo{s:Sh}{t:Sc}(h:scOk s t)(hd:t.done=false):1<=zee s t:=by
 have:=h.cl hd;unfold zee;rw[if_neg (by rw[hd];decide)];split<;>(try split)<;>omega
theorem z3i{s:Sh}{t:Sc}(h:t.many<s.p):zee s (t.turn s)<=(s.p-t.many-1)*33/\(t.turn s).c=t.c:=by
 refine⟨?_,rfl⟩;unfold zee Sc.turn;dsimp only;simp only[decide_eq_true_eq,if_true];split<;>omega
theorem ych{s:Sh}{t:Sc}(hd:t.done=false)(h:t.many<s.p)(hi:t.i<zah t.k):zee s (t.miss s)<=(s.p-t.many-1)*33+2*(zah t.k-t.i)-2/\(t.miss s).c=t.c:=by
 unfold Sc.miss;split
 ·have:=z3i (t:= {t with i:=t.i+1,next:=1}) h;dsimp only at this;exact⟨by omega,this.2⟩
 refine⟨?_,rfl⟩;unfold zee;dsimp only;rw[if_neg (by rw[hd];decide),if_neg (by decide),if_pos rfl];omega
theorem yb3{s:Sh}{t:Sc}{m:Mem}(h:scOk s t)(hd:t.done=false)(r:Fits s m):Acts t.c m (zed s t m).2/\(zed s t m).1.c=t.c/\zee s (zed s t m).1+1<=zee s t:=by
 obtain⟨hc,B,z,j,hi,E⟩:=h.cl hd;have C:=zb4 B;have n:0<=t.page s/\t.page s<s.p:=⟨Int.emod_nonneg _ (by omega),Int.emod_lt_of_pos _ (by omega)⟩;have q:=r.zhu n;have f:=r.zj0 (i:=t.i) n (by omega);have b:¬ t.done=true:=by rw[hd];decide
 have D:=z3i (t:=t) (s:=s) j.2;have l:=ych (t:=t) (s:=s) hd j.2 hi.2;have y:zee s t=(s.p-t.many-1)*33+(if t.next=0 then 33 else if t.next=1 then 2*(zah t.k-t.i) else 2*(zah t.k-t.i)-1):=by unfold zee;rw[if_neg b]
 rw[y];unfold zed;dsimp only;rw[if_neg b];by_cases o:t.next=0
 ·rw[if_pos o,if_pos o];dsimp only;refine⟨.load q,?_,?_⟩
  ·split
   ·rfl
   exact D.2
  split
  ·unfold zee;dsimp only;rw[if_neg b,if_neg (by decide),if_pos rfl];omega
  omega
 rw[if_neg o,if_neg o];by_cases n1:t.next=1
 ·rw[if_pos n1,if_pos n1];dsimp only;refine⟨.load f,?_,?_⟩
  ·split
   ·rfl
   exact l.2
  split
  ·unfold zee;dsimp only;rw[if_neg b,if_neg (by decide),if_neg (by decide)];omega
  omega
 rw[if_neg n1,if_neg n1];dsimp only;refine⟨.swap f (zmd _),?_,?_⟩
 ·split
  ·rfl
  exact l.2
 split
 ·unfold zee;dsimp only;rw[if_pos rfl];omega
 omega
theorem yem(s:Sh)(c k f:Int)(b:1<=s.p):zee s (ziq s c k f)<=33*s.p/\(ziq s c k f).c=c:=by
 refine⟨?_,rfl⟩;unfold zee ziq;dsimp only;split
 ·omega
 rw[if_pos rfl];omega
theorem z1y{s:Sh}{t:Sc}(h:scOk s t):0<=zee s t:=by
 rcases Bool.eq_false_or_eq_true t.done with hd|hd
 ·unfold zee;rw[if_pos hd];omega
 have:=yeo h hd;omega
def zfg (s:Sh) (t:Pc):Int:=if t.done=true then 0 else 2 * (s.p - t.many) - (if t.empty=true then 1 else 0)
theorem ydd{s:Sh}{t:Pc}(h:pcOk s t)(hd:t.done=false):1<=zfg s t:=by
 have:=h.cl hd;unfold zfg;rw[if_neg (by rw[hd];decide)];split<;>omega
theorem z94{s:Sh}{t:Pc}{m:Mem}(h:pcOk s t)(hd:t.done=false)(l:Fits s m):Acts t.c m (ze7 s t m).2/\(ze7 s t m).1.c=t.c/\zfg s (ze7 s t m).1+1<=zfg s t:=by
 obtain⟨hc,n,o⟩:=h.cl hd;have i:0<=t.page s/\t.page s<s.p:=⟨Int.emod_nonneg _ (by omega),Int.emod_lt_of_pos _ (by omega)⟩;have f:=l.zhu i;have b:¬ t.done=true:=by rw[hd];decide
 have j:zfg s t=2*(s.p-t.many)-(if t.empty=true then 1 else 0):=by unfold zfg;rw[if_neg b]
 rw[j];unfold ze7;dsimp only;rw[if_neg b];cases he:t.empty
 ·rw[if_pos rfl];dsimp only;refine⟨.load f,?_,?_⟩
  ·split<;>rfl
  split
  ·unfold zfg;dsimp only;rw[if_neg b,if_pos rfl,if_neg (by decide)];omega
  unfold zfg;dsimp only;simp only[decide_eq_true_eq,Bool.false_eq_true,if_false];split<;>omega
 rw[if_neg (by decide)];dsimp only;refine⟨.swap f (zj1 _),?_,?_⟩
 ·split<;>rfl
 split
 ·unfold zfg;dsimp only;simp only[if_true];omega
 unfold zfg;dsimp only;simp only[decide_eq_true_eq,Bool.false_eq_true,if_false,if_true];split<;>omega
theorem ydt(s:Sh)(c f:Int)(b:1<=s.p):zfg s (zlu s c f)<=2*s.p/\(zlu s c f).c=c:=by
 refine⟨?_,rfl⟩;unfold zfg zlu;dsimp only;split
 ·omega
 rw[if_neg (by decide)];omega
theorem zz7{s:Sh}{t:Pc}(h:pcOk s t):0<=zfg s t:=by
 rcases Bool.eq_false_or_eq_true t.done with hd|hd
 ·unfold zfg;rw[if_pos hd];omega
 have:=ydd h hd;omega
def zep (t:Sp):Int:=if t.done=true then 0 else if t.back=true then t.i else 2 * zah t.k - t.i - 1
theorem yeq{s:Sh}{t:Sp}(h:spOk s t)(hd:t.done=false):1<=zep t:=by
 have:=h.cl hd;have b:=zb4 this.2.2.1;unfold zep;rw[if_neg (by rw[hd];decide)];split
 ·rename_i hb;have:=this.2.2.2.2 hb;omega
 omega
theorem z1p{s:Sh}{t:Sp}{m:Mem}(h:spOk s t)(hd:t.done=false)(n:Fits s m):Acts t.c m (zdu s t m).2/\(zdu s t m).1.c=t.c/\zep (zdu s t m).1+1<=zep t:=by
 obtain⟨hc,l,r,hi,hb⟩:=h.cl hd;have y:=zb4 r;have o:=n.zhu l;have j:¬ t.done=true:=by rw[hd];decide
 have q:zep t=if t.back=true then t.i else 2*zah t.k-t.i-1:=by unfold zep;rw[if_neg j]
 rw[q];unfold zdu;rw[if_neg j];by_cases b:t.back=true
 ·have hb:=hb b;have f:=n.zj0 (i:=t.i-1) l (by omega);rw[if_pos b,if_pos b];refine⟨.store f (zkf _),rfl,?_⟩;unfold zep;dsimp only;simp only[decide_eq_true_eq,b,if_true];split<;>omega
 rw[if_neg b,if_neg b];by_cases p:t.i=zah t.k
 ·rw[if_pos p];refine⟨.store o (zj1 _),rfl,?_⟩;unfold zep;dsimp only;rw[if_pos rfl];omega
 have f:=n.zj0 (i:=t.i) l (by omega);rw[if_neg p];dsimp only;refine⟨.swap f (zmd _),?_,?_⟩
 ·split<;>rfl
 split
 ·unfold zep;dsimp only;rw[if_neg j,if_neg b];omega
 unfold zep;dsimp only;simp only[decide_eq_true_eq,if_true];split<;>omega
theorem z9n(s:Sh)(c pg k:Int):zep (zfa s c pg k)<=31/\(zfa s c pg k).c=c:=by
 refine⟨?_,rfl⟩;unfold zep zfa;dsimp only;split
 ·omega
 rename_i h;have h:0<zah k:=by
  by_cases b:0<zah k
  ·exact b
  simp[b]at h
 have:=zb4 h;rw[if_neg (by decide)];omega
theorem znj{s:Sh}{t:Sp}(h:spOk s t):0<=zep t:=by
 rcases Bool.eq_false_or_eq_true t.done with hd|hd
 ·unfold zep;rw[if_pos hd];omega
 have:=yeq h hd;omega
def zfx (t:Bn):Int:=if t.done=true then 0 else if t.bound=true then t.i else 16 - t.i + zah t.k
theorem yeg{s:Sh}{t:Bn}(h:bnOk s t)(hd:t.done=false):1<=zfx t:=by
 have:=h.cl hd;unfold zfx;rw[if_neg (by rw[hd];decide)];split
 ·rename_i hb;have:=this.2.2.2.2 hb;omega
 omega
theorem ybe{s:Sh}{t:Bn}{m:Mem}(h:bnOk s t)(hd:t.done=false)(n:Fits s m):Acts t.c m (ze6 s t m).2/\(ze6 s t m).1.c=t.c/\zfx (ze6 s t m).1+1<=zfx t:=by
 obtain⟨hc,l,r,hi,hb⟩:=h.cl hd;have y:=zb4 r;have o:=n.zhu l;have f:¬ t.done=true:=by rw[hd];decide
 have q:zfx t=if t.bound=true then t.i else 16-t.i+zah t.k:=by unfold zfx;rw[if_neg f]
 rw[q];unfold ze6;rw[if_neg f];by_cases b:t.bound=true
 ·have hb:=hb b;have j:=n.zj0 (i:=t.i) l (by omega);rw[if_pos b,if_pos b];refine⟨.store j (zkf _),rfl,?_⟩;unfold zfx;dsimp only;simp only[decide_eq_true_eq,b,if_true];split<;>omega
 rw[if_neg b,if_neg b];by_cases p:t.i=16
 ·rw[if_pos p];refine⟨.store o (zc0 _ _ _),rfl,?_⟩;unfold zfx;dsimp only;rw[if_neg f,if_pos rfl];omega
 have j:=n.zj0 (i:=t.i) l (by omega);rw[if_neg p];refine⟨.store j ?_,rfl,?_⟩
 ·split
  ·exact zmd _
  exact zms
 unfold zfx;dsimp only;rw[if_neg f,if_neg b];omega
theorem ydz(s:Sh)(c pg k:Int):zfx (zfi s c pg k)<=32/\(zfi s c pg k).c=c:=by
 refine⟨?_,rfl⟩;unfold zfx zfi;dsimp only;split
 ·omega
 rename_i h;have h:0<zah k:=by
  by_cases b:0<zah k
  ·exact b
  simp[b]at h
 have:=zb4 h;rw[if_neg (by decide)];omega
theorem zz0{s:Sh}{t:Bn}(h:bnOk s t):0<=zfx t:=by
 rcases Bool.eq_false_or_eq_true t.done with hd|hd
 ·unfold zfx;rw[if_pos hd];omega
 have:=yeg h hd;omega
inductive PW
 | empty
 | held (o:Int)
 | super (k b:Int)
 | large (n:Int)
 | body (h:Int)
 deriving DecidableEq
inductive SW
 | none
 | opened (k:Int)
 | way (c:Int)
 | taken (k:Int)
 deriving DecidableEq
inductive MW
 | none
 | entry (p i k:Int)
 deriving DecidableEq
inductive TW
 | unused
 | live
 | dead
 | owned (a:Int)
 | done
 deriving DecidableEq
def PW.enc:PW->Int
 | .empty=> 0
 | .held o=> zb8 1 o 0
 | .super k b=> zb8 2 k b
 | .large n=> zb8 3 n 0
 | .body h=> zb8 4 h 0
def SW.enc:SW->Int
 | .none=> 0
 | .opened k=> zc3 1 k
 | .way c=> zc3 2 c
 | .taken k=> zc3 3 k
def MW.enc:MW->Int
 | .none=> 0
 | .entry p i k=> putV 1 [p,i,k]
def TW.enc:TW->Int
 | .unused=> za8 0 0
 | .live=> za8 1 0
 | .dead=> za8 2 0
 | .owned a=> za8 3 a
 | .done=> za8 4 0
def PW.fit (s:Sh) (p:Int):PW->Prop
 | .empty=> True
 | .held o=> (0<=p/\p < s.p)/\0<=o/\o < s.c
 | .super k b=> (0<=p/\p < s.p)/\(0<=k/\k<=3)/\0<=b/\b < s.c
 | .large n=> (0<=p/\p < s.p)/\1<=n/\n<=8/\n<=s.p - p
 | .body h=> (0<=p/\p < s.p)/\0<=h/\h < p/\p - 8 < h
def SW.fit (s:Sh):SW->Prop
 | .none=> True
 | .opened k=> 0<=k/\k<=3
 | .way c=> 0<=c/\c < s.c
 | .taken k=> 0<=k/\k<=3
def MW.fit (s:Sh):MW->Prop
 | .none=> True
 | .entry p i k=> (0<=p/\p < s.p)/\(0<=k/\k<=3)/\0<=i/\i < zah k
def TW.fit (s:Sh):TW->Prop
 | .owned a=> 0<=a/\a < s.c
 | _=> True
theorem ygb{o:Int}(h:0<=o/\o<=255):zb8 1 o 0=1+16*o:=by
 have:zfm 1 o 0=false:=by simp[zfm]
 rw[zb8,this,if_neg Bool.false_ne_true,z8d _ _ _ h.1 h.2 (by omega) (by omega)];omega
theorem ygs{k b:Int}(h:0<=k/\k<=255)(f:0<=b/\b<=255):zb8 2 k b=2+16*k+4096*b:=by
 have:zfm 2 k b=false:=by simp[zfm]
 rw[zb8,this,if_neg Bool.false_ne_true,z8d _ _ _ h.1 h.2 f.1 f.2]
theorem ygp{o:Int}(h:0<=o/\o<=255):zb8 3 o 0=3+16*o:=by
 have:zfm 3 o 0=false:=by simp[zfm]
 rw[zb8,this,if_neg Bool.false_ne_true,z8d _ _ _ h.1 h.2 (by omega) (by omega)];omega
theorem ygm{o:Int}(h:0<=o/\o<=255):zb8 4 o 0=4+16*o:=by
 have:zfm 4 o 0=false:=by simp[zfm]
 rw[zb8,this,if_neg Bool.false_ne_true,z8d _ _ _ h.1 h.2 (by omega) (by omega)];omega
theorem ygq{o:Int}(h:0<=o/\o<=255):zc3 1 o=1+16*o:=by
 have:zgy 1 o=false:=by simp[zgy]
 rw[zc3,this,if_neg Bool.false_ne_true,z7p _ _ h.1 h.2]
theorem ygx{o:Int}(h:0<=o/\o<=255):zc3 2 o=2+16*o:=by
 have:zgy 2 o=false:=by simp[zgy]
 rw[zc3,this,if_neg Bool.false_ne_true,z7p _ _ h.1 h.2]
theorem ygn{o:Int}(h:0<=o/\o<=255):zc3 3 o=3+16*o:=by
 have:zgy 3 o=false:=by simp[zgy]
 rw[zc3,this,if_neg Bool.false_ne_true,z7p _ _ h.1 h.2]
theorem yfz{o:Int}(h:0<=o/\o<=255):za8 3 o=3+16*o:=by
 have:zho 3 o=false:=by simp[zho]
 rw[za8,this,if_neg Bool.false_ne_true,z7p _ _ h.1 h.2]
theorem yfg{p i k:Int}(b:0<=p/\p<=255)(f:0<=i/\i<=255)(j:0<=k/\k<=255):putV 1 [p,i,k]=1+16*p+4096*i+1048576*k:=yf0 _ _ _ _ b.1 b.2 f.1 f.2 j.1 j.2
theorem yal(x:Int)(k a b:Int)(j:x=k+16*a+4096*b)(i:0<=k/\k<=15)(f:0<=a/\a<=255)(hb:0<=b/\b<=255):zbx x=k/\za2 x 0=a/\za2 x 1=b:=by
 simp only[zbx,za2,Int.pow_zero,Int.mul_one,Int.pow_one];omega
theorem yf5(x:Int)(a b c:Int)(i:x=1+16*a+4096*b+1048576*c)(f:0<=a/\a<=255)(hb:0<=b/\b<=255)(hc:0<=c/\c<=255):za2 x 0=a/\za2 x 1=b/\za2 x 2=c:=by
 have:(256:Int)^2=65536:=by decide
 simp only[za2,Int.pow_zero,Int.mul_one,Int.pow_one,this];omega
def PW.kind:PW->Int
 | .empty=> 0
 | .held _=> 1
 | .super _ _=> 2
 | .large _=> 3
 | .body _=> 4
def PW.pa:PW->Int
 | .empty=> 0
 | .held o=> o
 | .super k _=> k
 | .large n=> n
 | .body h=> h
def PW.pb:PW->Int
 | .super _ b=> b
 | _=> 0
variable {s:Sh}

theorem PW.zg9{p:Int}(hs:mayB s.p s.c s.m=true){x:PW}(h:x.fit s p):x.enc=x.kind+16*x.pa+4096*x.pb/\(0<=x.pa/\x.pa<=255)/\(0<=x.pb/\x.pb<=255):=by
 have hb:=zar.1 hs;cases x<;>simp only[PW.fit]at h<;>simp only[PW.enc,PW.kind,PW.pa,PW.pb]
 ·omega
 ·rw[ygb (by omega)];omega
 ·rw[ygs (by omega) (by omega)];omega
 ·rw[ygp (by omega)];omega
 rw[ygm (by omega)];omega
theorem PW.zhw(x:PW):0<=x.kind/\x.kind<=4:=by cases x<;>simp[PW.kind]
theorem PW.read{p:Int}(hs:mayB s.p s.c s.m=true){x:PW}(h:x.fit s p):zbx x.enc=x.kind/\za2 x.enc 0=x.pa/\za2 x.enc 1=x.pb:=by
 obtain⟨e,b,f⟩:=PW.zg9 hs h;have:=x.zhw;exact yal _ _ _ _ e (by omega) b f
theorem PW.inj{p q:Int}(hs:mayB s.p s.c s.m=true){x y:PW}(h:x.fit s p)(n:y.fit s q)(e:x.enc=y.enc):x=y:=by
 obtain⟨a1,b,f⟩:=PW.read hs h;obtain⟨i,j,l⟩:=PW.read hs n;rw[e]at a1 b f;have o:x.kind=y.kind:=a1.symm.trans i;have r:x.pa=y.pa:=b.symm.trans j;have t:x.pb=y.pb:=f.symm.trans l;clear a1 b f i j l e h n;cases x<;>cases y<;>simp_all [PW.kind,PW.pa,PW.pb]
theorem PW.u64{p:Int}(hs:mayB s.p s.c s.m=true){x:PW}(h:x.fit s p):0<=x.enc/\x.enc<18446744073709551616:=by
 obtain⟨e,b,f⟩:=PW.zg9 hs h;have:=x.zhw;omega
theorem PW.ya4{p:Int}(hs:mayB s.p s.c s.m=true)(r:0<=p/\p<s.p){x:PW}(h:x.fit s p):zal s.p s.c s.m p x.enc=true:=by
 obtain⟨a1,f,i⟩:=PW.read hs h;have hb:=zar.1 hs;rw[zal,a1,f,i];have j:zb8 x.kind x.pa x.pb=x.enc:=by cases x<;>first|rfl|decide
 have l:0<=zak s.p s.c s.m p:=by unfold zak;rw[if_pos ⟨hs,zbc.2 (by omega)⟩];omega
 have q:zkb s.p s.c p x.kind x.pa x.pb=true:=by
  cases x with
  |empty=>rfl
  |held o=>simp only[PW.fit]at h;show decide (o<s.c)=true;exact decide_eq_true (by omega)
  |super k b=>simp only[PW.fit]at h;show (decide (k<4)&&decide (b<s.c))=true;rw[decide_eq_true (by omega:k<4),decide_eq_true (by omega:b<s.c)];rfl
  |large n=>simp only[PW.fit]at h;show (decide (1<=n)&&decide (n<=8)&&decide (n<=s.p-p))=true;rw[decide_eq_true (by omega:1<=n),decide_eq_true (by omega:n<=8),decide_eq_true (by omega:n<=s.p-p)];rfl
  |body g=>simp only[PW.fit]at h;show (decide (g<p)&&decide (p-8<g))=true;rw[decide_eq_true (by omega:g<p),decide_eq_true (by omega:p-8<g)];rfl
 rw[j,q];simp[l]
def SW.kind:SW->Int
 | .none=> 0
 | .opened _=> 1
 | .way _=> 2
 | .taken _=> 3
def SW.pa:SW->Int
 | .none=> 0
 | .opened k=> k
 | .way c=> c
 | .taken k=> k
theorem SW.zg9(hs:mayB s.p s.c s.m=true){x:SW}(h:x.fit s):x.enc=x.kind+16*x.pa/\(0<=x.pa/\x.pa<=255):=by
 have hb:=zar.1 hs;cases x<;>simp only[SW.fit]at h<;>simp only[SW.enc,SW.kind,SW.pa]
 ·omega
 ·rw[ygq (by omega)];omega
 ·rw[ygx (by omega)];omega
 rw[ygn (by omega)];omega
theorem SW.zhw(x:SW):0<=x.kind/\x.kind<=3:=by cases x<;>simp[SW.kind]
theorem SW.read(hs:mayB s.p s.c s.m=true){x:SW}(h:x.fit s):zbx x.enc=x.kind/\za2 x.enc 0=x.pa:=by
 obtain⟨e,b⟩:=SW.zg9 hs h;have:=x.zhw;have:=yal x.enc x.kind x.pa 0 (by omega) (by omega) b (by omega);exact⟨this.1,this.2.1⟩
theorem SW.inj(hs:mayB s.p s.c s.m=true){x y:SW}(h:x.fit s)(j:y.fit s)(e:x.enc=y.enc):x=y:=by
 obtain⟨a1,b⟩:=SW.read hs h;obtain⟨f,i⟩:=SW.read hs j;rw[e]at a1 b;have l:x.kind=y.kind:=a1.symm.trans f;have n:x.pa=y.pa:=b.symm.trans i;clear a1 b f i e h j;cases x<;>cases y<;>simp_all [SW.kind,SW.pa]
theorem SW.u64(hs:mayB s.p s.c s.m=true){x:SW}(h:x.fit s):0<=x.enc/\x.enc<18446744073709551616:=by
 obtain⟨e,b⟩:=SW.zg9 hs h;have:=x.zhw;omega
theorem MW.zg9(hs:mayB s.p s.c s.m=true){p i k:Int}(h:(MW.entry p i k).fit s):(MW.entry p i k).enc=1+16*p+4096*i+1048576*k/\0<=p/\p<=63/\0<=i/\i<=15/\0<=k/\k<=3:=by
 have hb:=zar.1 hs;simp only[MW.fit]at h;have:=zcy k;simp only[MW.enc];rw[yfg (by omega) (by omega) (by omega)];omega
theorem MW.read(hs:mayB s.p s.c s.m=true){p i k:Int}(h:(MW.entry p i k).fit s):za2 (MW.entry p i k).enc 0=p/\za2 (MW.entry p i k).enc 1=i/\za2 (MW.entry p i k).enc 2=k:=by
 obtain⟨e,b⟩:=MW.zg9 hs h;exact yf5 _ _ _ _ e (by omega) (by omega) (by omega)
theorem MW.ya4(hs:mayB s.p s.c s.m=true){p i k:Int}(h:(MW.entry p i k).fit s):zbi s.p s.c s.m (MW.entry p i k).enc=true:=by
 obtain⟨a1,b,f⟩:=MW.read hs h;have hb:=zar.1 hs;rw[zbi,a1,b,f];simp only[MW.fit]at h;have j:0<=zak s.p s.c s.m p:=by unfold zak;rw[if_pos ⟨hs,zbc.2 (by omega)⟩];omega
 simp only[MW.enc,beq_self_eq_true,Bool.true_and,Bool.and_eq_true,decide_eq_true_eq];exact⟨j,h.2.2.2⟩
theorem MW.pos(hs:mayB s.p s.c s.m=true){p i k:Int}(h:(MW.entry p i k).fit s):(MW.entry p i k).enc≠0:=by
 obtain⟨e,b⟩:=MW.zg9 hs h;omega
theorem MW.inj(hs:mayB s.p s.c s.m=true){x y:MW}(h:x.fit s)(i:y.fit s)(e:x.enc=y.enc):x=y:=by
 cases x<;>cases y
 ·rfl
 ·exact absurd e.symm (MW.pos hs i)
 ·exact absurd e (MW.pos hs h)
 obtain⟨a1,b,f⟩:=MW.read hs h;obtain⟨j,l,n⟩:=MW.read hs i;rw[e]at a1 b f;rw[<-a1,<- b,<- f,j,l,n]
theorem MW.u64(hs:mayB s.p s.c s.m=true){x:MW}(h:x.fit s):0<=x.enc/\x.enc<18446744073709551616:=by
 cases x
 ·exact⟨Int.le_refl _,by decide⟩
 obtain⟨e,b⟩:=MW.zg9 hs h;omega
theorem zya:zbi s.p s.c s.m 0=false:=by
 have b:za2 0 0=0:=by decide
 have f:za2 0 1=0:=by decide
 have i:za2 0 2=0:=by decide
 rw[zbi,b,f,i];rfl
def TW.kind:TW->Int
 | .unused=> 0
 | .live=> 1
 | .dead=> 2
 | .owned _=> 3
 | .done=> 4
def TW.pa:TW->Int
 | .owned a=> a
 | _=> 0
theorem TW.zg9(hs:mayB s.p s.c s.m=true){x:TW}(h:x.fit s):x.enc=x.kind+16*x.pa/\(0<=x.pa/\x.pa<=255):=by
 have hb:=zar.1 hs;cases x<;>simp only[TW.fit]at h;case owned a=>simp only[TW.enc,TW.kind,TW.pa];rw[yfz (by omega)];omega
 all_goals decide
theorem TW.zhw(x:TW):0<=x.kind/\x.kind<=4:=by cases x<;>simp[TW.kind]
theorem TW.read(hs:mayB s.p s.c s.m=true){x:TW}(h:x.fit s):zdc x.enc=x.kind/\zda x.enc=x.pa:=by
 obtain⟨e,f⟩:=TW.zg9 hs h;have:=x.zhw;have:=yal x.enc x.kind x.pa 0 (by omega) (by omega) f (by omega);have b:zjc x.enc=true:=by unfold zjc;rw[this.1,this.2.1];cases x<;>simp[TW.kind,TW.pa,TW.enc]
 unfold zdc zda;rw[if_pos b,if_pos b];exact⟨this.1,this.2.1⟩
theorem TW.inj(hs:mayB s.p s.c s.m=true){x y:TW}(h:x.fit s)(j:y.fit s)(e:x.enc=y.enc):x=y:=by
 obtain⟨a1,b⟩:=TW.read hs h;obtain⟨f,i⟩:=TW.read hs j;rw[e]at a1 b;have l:x.kind=y.kind:=a1.symm.trans f;have n:x.pa=y.pa:=b.symm.trans i;clear a1 b f i e h j;cases x<;>cases y<;>simp_all [TW.kind,TW.pa]
theorem TW.u64(hs:mayB s.p s.c s.m=true){x:TW}(h:x.fit s):0<=x.enc/\x.enc<18446744073709551616:=by
 obtain⟨e,b⟩:=TW.zg9 hs h;have:=x.zhw;omega
end

end Go.Proofs.YtkbddndcegpllaaGreat
