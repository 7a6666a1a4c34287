/- Texts bound together: MchL InvA InvB. -/
import Derived.Test.YtedcnffebdpmmaaGreatBu6

set_option linter.all false
namespace Go.Proofs.YtedcnffebdpmmaaGreat

section
inductive Acts (c:Int) (m:Mem):Mem->Prop
 | load {a:Int} (h:m.has a):Acts c m (m.load c a)
 | store {a x:Int} (h:m.has a) (hx:0<=x/\x < 18446744073709551616):Acts c m (m.store c a x)
 | swap {a y x:Int} (h:m.has a) (hx:0<=x/\x < 18446744073709551616):Acts c m (m.swap c a y x)
theorem Acts.st{c:Int}{m m':Mem}(h:Acts c m m'):m'.st=m.st+1:=by cases h<;>rfl
theorem Acts.len{c:Int}{m m':Mem}(h:Acts c m m'):m'.ws.length=m.ws.length:=by cases h<;>simp
theorem Acts.fits{s:Sh}{c:Int}{m m':Mem}(h:Acts c m m')(b:Fits s m):Fits s m':=b.zh1 h.len
theorem ztw{m:Mem}{k:Nat}{x st:Int}{la:Acc}(b:m.fit)(f:0<=x/\x<18446744073709551616):Mem.fit ⟨m.ws.set k x,st,la⟩:=by
 intro y i;rcases List.mem_or_eq_of_mem_set i with h|h
 ·exact b y h
 rw[h];exact f
theorem Acts.fit{c:Int}{m m':Mem}(h:Acts c m m')(b:m.fit):m'.fit:=by
 cases h with
 |load _=>exact b
 |store _ f=>exact ztw b f;|swap _ f=>
  unfold Mem.swap;split
  ·exact ztw b f
  exact b
theorem Acts.of{c c':Int}{m m':Mem}(h:Acts c m m')(e:c=c'):Acts c' m m':=e ▸ h
theorem Fits.magA{s:Sh}{m:Mem}(h:Fits s m){x i:Int}(b:0<=x/\x<s.c)(hi:0<=i/\i<s.m):m.has (ze9 s.p s.c s.m x i):=by rw[(h.mag b hi).1];exact(h.mag b hi).2
theorem Fits.zj0{s:Sh}{m:Mem}(h:Fits s m){x i:Int}(b:0<=x/\x<s.p)(hi:0<=i/\i<16):m.has (zbk s.p s.c s.m x i):=by rw[(h.slot b hi).1];exact(h.slot b hi).2
theorem Fits.zhu{s:Sh}{m:Mem}(h:Fits s m){x:Int}(b:0<=x/\x<s.p):m.has (zak s.p s.c s.m x):=by rw[(h.page b).1];exact(h.page b).2
theorem Fits.zda{s:Sh}{m:Mem}(h:Fits s m){x:Int}(b:0<=x/\x<s.c):m.has (zae s.p s.c s.m x):=by rw[(h.status b).1];exact(h.status b).2
theorem zms:(0:Int)<=0/\(0:Int)<18446744073709551616:=by decide
theorem zkf(k:Int):0<=zc8 k/\zc8 k<18446744073709551616:=zch _ _
theorem zmd(k:Int):0<=wayW k/\wayW k<18446744073709551616:=zch _ _
theorem zx7(k:Int):0<=zfl k/\zfl k<18446744073709551616:=zch _ _
theorem zj1(k:Int):0<=zf4 k/\zf4 k<18446744073709551616:=zc0 _ _ _
def ziz (s:Sh) (t:Tk):Int:=if t.done=true then 0 else if t.hit=true then 1 else s.m - t.i + 1
theorem yey{s:Sh}{t:Tk}(h:tkOk s t)(hd:t.done=false):1<=ziz s t:=by
 have:=h.cl hd;unfold ziz;rw[if_neg (by rw[hd];decide)];split<;>omega
theorem ybn{s:Sh}{t:Tk}{m:Mem}(h:tkOk s t)(hd:t.done=false)(j:Fits s m):Acts t.c m (zd2 s t m).2/\(zd2 s t m).1.c=t.c/\ziz s (zd2 s t m).1+1<=ziz s t:=by
 have hc:=h.cl hd;have f:=j.magA hc.1 hc.2;have i:¬ t.done=true:=by rw[hd];decide
 unfold zd2 ziz;dsimp only;rw[if_neg i];by_cases b:t.hit=true
 ·rw[if_pos b];refine⟨.store f zms,rfl,?_⟩;simp only[if_true,b,hd,Bool.false_eq_true,if_false];omega
 rw[if_neg b];split
 ·refine⟨.load f,rfl,?_⟩;simp only[if_true,b,hd,Bool.false_eq_true,if_false];omega
 refine⟨.load f,rfl,?_⟩;simp only[b,hd,Bool.false_eq_true,if_false,decide_eq_true_eq];split<;>omega
theorem yde(s:Sh)(c k:Int)(b:0<=s.m):ziz s (zg3 s c k)<=s.m+1/\(zg3 s c k).c=c:=by
 refine⟨?_,rfl⟩;unfold ziz zg3;dsimp only;split
 ·omega
 rw[if_neg (by decide)];omega
theorem z1k{s:Sh}{t:Tk}(h:tkOk s t):0<=ziz s t:=by
 rcases Bool.eq_false_or_eq_true t.done with hd|hd
 ·unfold ziz;rw[if_pos hd];omega
 have:=yey h hd;omega
def zh2 (s:Sh) (t:Pu):Int:=if t.done=true then 0 else if t.hit=true then 1 else s.m - t.i + 1
theorem ydf{s:Sh}{t:Pu}(h:puOk s t)(hd:t.done=false):1<=zh2 s t:=by
 have:=h.cl hd;unfold zh2;rw[if_neg (by rw[hd];decide)];split<;>omega
theorem ybu{s:Sh}{t:Pu}{m:Mem}(h:puOk s t)(hd:t.done=false)(j:Fits s m):Acts t.c m (zd3 s t m).2/\(zd3 s t m).1.c=t.c/\zh2 s (zd3 s t m).1+1<=zh2 s t:=by
 have hc:=h.cl hd;have f:=j.magA hc.1 hc.2;have i:¬ t.done=true:=by rw[hd];decide
 unfold zd3 zh2;dsimp only;rw[if_neg i];by_cases b:t.hit=true
 ·rw[if_pos b];refine⟨.store f (zj3 _ _ (by decide) (by simp)),rfl,?_⟩;simp only[if_true,b,hd,Bool.false_eq_true,if_false];omega
 rw[if_neg b];split
 ·refine⟨.load f,rfl,?_⟩;simp only[if_true,b,hd,Bool.false_eq_true,if_false];omega
 refine⟨.load f,rfl,?_⟩;simp only[b,hd,Bool.false_eq_true,if_false,decide_eq_true_eq];split<;>omega
theorem yfa(s:Sh)(c pg sl k:Int)(b:0<=s.m):zh2 s (zg5 s c pg sl k)<=s.m+1/\(zg5 s c pg sl k).c=c:=by
 refine⟨?_,rfl⟩;unfold zh2 zg5;dsimp only;split
 ·omega
 rw[if_neg (by decide)];omega
theorem ztc{s:Sh}{t:Pu}(h:puOk s t):0<=zh2 s t:=by
 rcases Bool.eq_false_or_eq_true t.done with hd|hd
 ·unfold zh2;rw[if_pos hd];omega
 have:=ydf h hd;omega
def zee (s:Sh) (t:Sc):Int:=if t.done=true then 0 else (s.p - t.many - 1) * 33 + (if t.next=0 then 33 else if t.next=1 then 2 * (zah t.k - t.i) else 2 * (zah t.k - t.i) - 1)
theorem yeo{s:Sh}{t:Sc}(h:scOk s t)(hd:t.done=false):1<=zee s t:=by
 have:=h.cl hd;unfold zee;rw[if_neg (by rw[hd];decide)];split<;>(try split)<;>omega
theorem z3i{s:Sh}{t:Sc}(h:t.many<s.p):zee s (t.turn s)<=(s.p-t.many-1)*33/\(t.turn s).c=t.c:=by
 refine⟨?_,rfl⟩;unfold zee Sc.turn;dsimp only;simp only[decide_eq_true_eq,if_true];split<;>omega
theorem ych{s:Sh}{t:Sc}(hd:t.done=false)(h:t.many<s.p)(hi:t.i<zah t.k):zee s (t.miss s)<=(s.p-t.many-1)*33+2*(zah t.k-t.i)-2/\(t.miss s).c=t.c:=by
 unfold Sc.miss;split
 ·have:=z3i (t:= {t with i:=t.i+1,next:=1}) h;dsimp only at this;exact⟨by omega,this.2⟩
 refine⟨?_,rfl⟩;unfold zee;dsimp only;rw[if_neg (by rw[hd];decide),if_neg (by decide),if_pos rfl];omega
theorem yb3{s:Sh}{t:Sc}{m:Mem}(h:scOk s t)(hd:t.done=false)(r:Fits s m):Acts t.c m (zed s t m).2/\(zed s t m).1.c=t.c/\zee s (zed s t m).1+1<=zee s t:=by
 obtain⟨hc,B,z,j,hi,E⟩:=h.cl hd;have C:=zb4 B;have n:0<=t.page s/\t.page s<s.p:=⟨Int.emod_nonneg _ (by omega),Int.emod_lt_of_pos _ (by omega)⟩;have q:=r.zhu n;have f:=r.zj0 (i:=t.i) n (by omega);have b:¬ t.done=true:=by rw[hd];decide
 have D:=z3i (t:=t) (s:=s) j.2;have l:=ych (t:=t) (s:=s) hd j.2 hi.2;have y:zee s t=(s.p-t.many-1)*33+(if t.next=0 then 33 else if t.next=1 then 2*(zah t.k-t.i) else 2*(zah t.k-t.i)-1):=by unfold zee;rw[if_neg b]
 rw[y];unfold zed;dsimp only;rw[if_neg b];by_cases o:t.next=0
 ·rw[if_pos o,if_pos o];dsimp only;refine⟨.load q,?_,?_⟩
  ·split
   ·rfl
   exact D.2
  split
  ·unfold zee;dsimp only;rw[if_neg b,if_neg (by decide),if_pos rfl];omega
  omega
 rw[if_neg o,if_neg o];by_cases n1:t.next=1
 ·rw[if_pos n1,if_pos n1];dsimp only;refine⟨.load f,?_,?_⟩
  ·split
   ·rfl
   exact l.2
  split
  ·unfold zee;dsimp only;rw[if_neg b,if_neg (by decide),if_neg (by decide)];omega
  omega
 rw[if_neg n1,if_neg n1];dsimp only;refine⟨.swap f (zmd _),?_,?_⟩
 ·split
  ·rfl
  exact l.2
 split
 ·unfold zee;dsimp only;rw[if_pos rfl];omega
 omega
theorem yem(s:Sh)(c k f:Int)(b:1<=s.p):zee s (ziq s c k f)<=33*s.p/\(ziq s c k f).c=c:=by
 refine⟨?_,rfl⟩;unfold zee ziq;dsimp only;split
 ·omega
 rw[if_pos rfl];omega
theorem z1y{s:Sh}{t:Sc}(h:scOk s t):0<=zee s t:=by
 rcases Bool.eq_false_or_eq_true t.done with hd|hd
 ·unfold zee;rw[if_pos hd];omega
 have:=yeo h hd;omega
def zfg (s:Sh) (t:Pc):Int:=if t.done=true then 0 else 2 * (s.p - t.many) - (if t.empty=true then 1 else 0)
theorem ydd{s:Sh}{t:Pc}(h:pcOk s t)(hd:t.done=false):1<=zfg s t:=by
 have:=h.cl hd;unfold zfg;rw[if_neg (by rw[hd];decide)];split<;>omega
theorem z94{s:Sh}{t:Pc}{m:Mem}(h:pcOk s t)(hd:t.done=false)(l:Fits s m):Acts t.c m (ze7 s t m).2/\(ze7 s t m).1.c=t.c/\zfg s (ze7 s t m).1+1<=zfg s t:=by
 obtain⟨hc,n,o⟩:=h.cl hd;have i:0<=t.page s/\t.page s<s.p:=⟨Int.emod_nonneg _ (by omega),Int.emod_lt_of_pos _ (by omega)⟩;have f:=l.zhu i;have b:¬ t.done=true:=by rw[hd];decide
 have j:zfg s t=2*(s.p-t.many)-(if t.empty=true then 1 else 0):=by unfold zfg;rw[if_neg b]
 rw[j];unfold ze7;dsimp only;rw[if_neg b];cases he:t.empty
 ·rw[if_pos rfl];dsimp only;refine⟨.load f,?_,?_⟩
  ·split<;>rfl
  split
  ·unfold zfg;dsimp only;rw[if_neg b,if_pos rfl,if_neg (by decide)];omega
  unfold zfg;dsimp only;simp only[decide_eq_true_eq,Bool.false_eq_true,if_false];split<;>omega
 rw[if_neg (by decide)];dsimp only;refine⟨.swap f (zj1 _),?_,?_⟩
 ·split<;>rfl
 split
 ·unfold zfg;dsimp only;simp only[if_true];omega
 unfold zfg;dsimp only;simp only[decide_eq_true_eq,Bool.false_eq_true,if_false,if_true];split<;>omega
theorem ydt(s:Sh)(c f:Int)(b:1<=s.p):zfg s (zlu s c f)<=2*s.p/\(zlu s c f).c=c:=by
 refine⟨?_,rfl⟩;unfold zfg zlu;dsimp only;split
 ·omega
 rw[if_neg (by decide)];omega
theorem zz7{s:Sh}{t:Pc}(h:pcOk s t):0<=zfg s t:=by
 rcases Bool.eq_false_or_eq_true t.done with hd|hd
 ·unfold zfg;rw[if_pos hd];omega
 have:=ydd h hd;omega
def zep (t:Sp):Int:=if t.done=true then 0 else if t.back=true then t.i else 2 * zah t.k - t.i - 1
theorem yeq{s:Sh}{t:Sp}(h:spOk s t)(hd:t.done=false):1<=zep t:=by
 have:=h.cl hd;have h2:=zb4 this.2.2.1;unfold zep;rw[if_neg (by rw[hd];decide)];split
 ·rename_i hb;have:=this.2.2.2.2 hb;omega
 omega
theorem z1p{s:Sh}{t:Sp}{m:Mem}(h:spOk s t)(hd:t.done=false)(n:Fits s m):Acts t.c m (zdu s t m).2/\(zdu s t m).1.c=t.c/\zep (zdu s t m).1+1<=zep t:=by
 obtain⟨hc,l,r,hi,hb⟩:=h.cl hd;have y:=zb4 r;have o:=n.zhu l;have j:¬ t.done=true:=by rw[hd];decide
 have q:zep t=if t.back=true then t.i else 2*zah t.k-t.i-1:=by unfold zep;rw[if_neg j]
 rw[q];unfold zdu;rw[if_neg j];by_cases b:t.back=true
 ·have hb:=hb b;have f:=n.zj0 (i:=t.i-1) l (by omega);rw[if_pos b,if_pos b];refine⟨.store f (zkf _),rfl,?_⟩;unfold zep;dsimp only;simp only[decide_eq_true_eq,b,if_true];split<;>omega
 rw[if_neg b,if_neg b];by_cases p:t.i=zah t.k
 ·rw[if_pos p];refine⟨.store o (zj1 _),rfl,?_⟩;unfold zep;dsimp only;rw[if_pos rfl];omega
 have f:=n.zj0 (i:=t.i) l (by omega);rw[if_neg p];dsimp only;refine⟨.swap f (zmd _),?_,?_⟩
 ·split<;>rfl
 split
 ·unfold zep;dsimp only;rw[if_neg j,if_neg b];omega
 unfold zep;dsimp only;simp only[decide_eq_true_eq,if_true];split<;>omega
theorem z9n(s:Sh)(c pg k:Int):zep (zfa s c pg k)<=31/\(zfa s c pg k).c=c:=by
 refine⟨?_,rfl⟩;unfold zep zfa;dsimp only;split
 ·omega
 rename_i h;have h:0<zah k:=by
  by_cases b:0<zah k
  ·exact b
  simp[b]at h
 have:=zb4 h;rw[if_neg (by decide)];omega
theorem znj{s:Sh}{t:Sp}(h:spOk s t):0<=zep t:=by
 rcases Bool.eq_false_or_eq_true t.done with hd|hd
 ·unfold zep;rw[if_pos hd];omega
 have:=yeq h hd;omega
def zfx (t:Bn):Int:=if t.done=true then 0 else if t.bound=true then t.i else 16 - t.i + zah t.k
theorem yeg{s:Sh}{t:Bn}(h:bnOk s t)(hd:t.done=false):1<=zfx t:=by
 have:=h.cl hd;unfold zfx;rw[if_neg (by rw[hd];decide)];split
 ·rename_i hb;have:=this.2.2.2.2 hb;omega
 omega
theorem ybe{s:Sh}{t:Bn}{m:Mem}(h:bnOk s t)(hd:t.done=false)(n:Fits s m):Acts t.c m (ze6 s t m).2/\(ze6 s t m).1.c=t.c/\zfx (ze6 s t m).1+1<=zfx t:=by
 obtain⟨hc,l,r,hi,hb⟩:=h.cl hd;have y:=zb4 r;have o:=n.zhu l;have f:¬ t.done=true:=by rw[hd];decide
 have q:zfx t=if t.bound=true then t.i else 16-t.i+zah t.k:=by unfold zfx;rw[if_neg f]
 rw[q];unfold ze6;rw[if_neg f];by_cases b:t.bound=true
 ·have hb:=hb b;have j:=n.zj0 (i:=t.i) l (by omega);rw[if_pos b,if_pos b];refine⟨.store j (zkf _),rfl,?_⟩;unfold zfx;dsimp only;simp only[decide_eq_true_eq,b,if_true];split<;>omega
 rw[if_neg b,if_neg b];by_cases p:t.i=16
 ·rw[if_pos p];refine⟨.store o (zc0 _ _ _),rfl,?_⟩;unfold zfx;dsimp only;rw[if_neg f,if_pos rfl];omega
 have j:=n.zj0 (i:=t.i) l (by omega);rw[if_neg p];refine⟨.store j ?_,rfl,?_⟩
 ·split
  ·exact zmd _
  exact zms
 unfold zfx;dsimp only;rw[if_neg f,if_neg b];omega
theorem ydz(s:Sh)(c pg k:Int):zfx (zfi s c pg k)<=32/\(zfi s c pg k).c=c:=by
 refine⟨?_,rfl⟩;unfold zfx zfi;dsimp only;split
 ·omega
 rename_i h;have h:0<zah k:=by
  by_cases b:0<zah k
  ·exact b
  simp[b]at h
 have:=zb4 h;rw[if_neg (by decide)];omega
theorem zz0{s:Sh}{t:Bn}(h:bnOk s t):0<=zfx t:=by
 rcases Bool.eq_false_or_eq_true t.done with hd|hd
 ·unfold zfx;rw[if_pos hd];omega
 have:=yeg h hd;omega
inductive PW
 | empty
 | held (o:Int)
 | super (k b:Int)
 | large (n:Int)
 | body (h:Int)
 deriving DecidableEq
inductive SW
 | none
 | opened (k:Int)
 | way (c:Int)
 | taken (k:Int)
 deriving DecidableEq
inductive MW
 | none
 | entry (p i k:Int)
 deriving DecidableEq
inductive TW
 | unused
 | live
 | dead
 | owned (a:Int)
 | done
 deriving DecidableEq
def PW.enc:PW->Int
 | .empty=> 0
 | .held o=> zb8 1 o 0
 | .super k b=> zb8 2 k b
 | .large n=> zb8 3 n 0
 | .body h=> zb8 4 h 0
def SW.enc:SW->Int
 | .none=> 0
 | .opened k=> zc3 1 k
 | .way c=> zc3 2 c
 | .taken k=> zc3 3 k
def MW.enc:MW->Int
 | .none=> 0
 | .entry p i k=> putV 1 [p,i,k]
def TW.enc:TW->Int
 | .unused=> za8 0 0
 | .live=> za8 1 0
 | .dead=> za8 2 0
 | .owned a=> za8 3 a
 | .done=> za8 4 0
def PW.fit (s:Sh) (p:Int):PW->Prop
 | .empty=> True
 | .held o=> (0<=p/\p < s.p)/\0<=o/\o < s.c
 | .super k b=> (0<=p/\p < s.p)/\(0<=k/\k<=3)/\0<=b/\b < s.c
 | .large n=> (0<=p/\p < s.p)/\1<=n/\n<=8/\n<=s.p - p
 | .body h=> (0<=p/\p < s.p)/\0<=h/\h < p/\p - 8 < h
def SW.fit (s:Sh):SW->Prop
 | .none=> True
 | .opened k=> 0<=k/\k<=3
 | .way c=> 0<=c/\c < s.c
 | .taken k=> 0<=k/\k<=3
def MW.fit (s:Sh):MW->Prop
 | .none=> True
 | .entry p i k=> (0<=p/\p < s.p)/\(0<=k/\k<=3)/\0<=i/\i < zah k
def TW.fit (s:Sh):TW->Prop
 | .owned a=> 0<=a/\a < s.c
 | _=> True
theorem ygb{o:Int}(h:0<=o/\o<=255):zb8 1 o 0=1+16*o:=by
 have:zfm 1 o 0=false:=by simp[zfm]
 rw[zb8,this,if_neg Bool.false_ne_true,z8d _ _ _ h.1 h.2 (by omega) (by omega)];omega
theorem ygs{k b:Int}(h:0<=k/\k<=255)(h2:0<=b/\b<=255):zb8 2 k b=2+16*k+4096*b:=by
 have:zfm 2 k b=false:=by simp[zfm]
 rw[zb8,this,if_neg Bool.false_ne_true,z8d _ _ _ h.1 h.2 h2.1 h2.2]
theorem ygp{o:Int}(h:0<=o/\o<=255):zb8 3 o 0=3+16*o:=by
 have:zfm 3 o 0=false:=by simp[zfm]
 rw[zb8,this,if_neg Bool.false_ne_true,z8d _ _ _ h.1 h.2 (by omega) (by omega)];omega
theorem ygm{o:Int}(h:0<=o/\o<=255):zb8 4 o 0=4+16*o:=by
 have:zfm 4 o 0=false:=by simp[zfm]
 rw[zb8,this,if_neg Bool.false_ne_true,z8d _ _ _ h.1 h.2 (by omega) (by omega)];omega
theorem ygq{o:Int}(h:0<=o/\o<=255):zc3 1 o=1+16*o:=by
 have:zgy 1 o=false:=by simp[zgy]
 rw[zc3,this,if_neg Bool.false_ne_true,z7p _ _ h.1 h.2]
theorem ygx{o:Int}(h:0<=o/\o<=255):zc3 2 o=2+16*o:=by
 have:zgy 2 o=false:=by simp[zgy]
 rw[zc3,this,if_neg Bool.false_ne_true,z7p _ _ h.1 h.2]
theorem ygn{o:Int}(h:0<=o/\o<=255):zc3 3 o=3+16*o:=by
 have:zgy 3 o=false:=by simp[zgy]
 rw[zc3,this,if_neg Bool.false_ne_true,z7p _ _ h.1 h.2]
theorem yfz{o:Int}(h:0<=o/\o<=255):za8 3 o=3+16*o:=by
 have:zho 3 o=false:=by simp[zho]
 rw[za8,this,if_neg Bool.false_ne_true,z7p _ _ h.1 h.2]
theorem yfg{p i k:Int}(h1:0<=p/\p<=255)(h2:0<=i/\i<=255)(h3:0<=k/\k<=255):putV 1 [p,i,k]=1+16*p+4096*i+1048576*k:=yf0 _ _ _ _ h1.1 h1.2 h2.1 h2.2 h3.1 h3.2
theorem yal(x:Int)(k a b:Int)(j:x=k+16*a+4096*b)(i:0<=k/\k<=15)(f:0<=a/\a<=255)(hb:0<=b/\b<=255):zbx x=k/\za2 x 0=a/\za2 x 1=b:=by
 simp only[zbx,za2,Int.pow_zero,Int.mul_one,Int.pow_one];omega
theorem yf5(x:Int)(a b c:Int)(i:x=1+16*a+4096*b+1048576*c)(f:0<=a/\a<=255)(hb:0<=b/\b<=255)(hc:0<=c/\c<=255):za2 x 0=a/\za2 x 1=b/\za2 x 2=c:=by
 have:(256:Int)^2=65536:=by decide
 simp only[za2,Int.pow_zero,Int.mul_one,Int.pow_one,this];omega
def PW.kind:PW->Int
 | .empty=> 0
 | .held _=> 1
 | .super _ _=> 2
 | .large _=> 3
 | .body _=> 4
def PW.pa:PW->Int
 | .empty=> 0
 | .held o=> o
 | .super k _=> k
 | .large n=> n
 | .body h=> h
def PW.pb:PW->Int
 | .super _ b=> b
 | _=> 0
variable {s:Sh}

theorem PW.zg9{p:Int}(hs:mayB s.p s.c s.m=true){x:PW}(h:x.fit s p):x.enc=x.kind+16*x.pa+4096*x.pb/\(0<=x.pa/\x.pa<=255)/\(0<=x.pb/\x.pb<=255):=by
 have hb:=zar.1 hs;cases x<;>simp only[PW.fit]at h<;>simp only[PW.enc,PW.kind,PW.pa,PW.pb]
 ·omega
 ·rw[ygb (by omega)];omega
 ·rw[ygs (by omega) (by omega)];omega
 ·rw[ygp (by omega)];omega
 rw[ygm (by omega)];omega
theorem PW.zhw(x:PW):0<=x.kind/\x.kind<=4:=by cases x<;>simp[PW.kind]
theorem PW.read{p:Int}(hs:mayB s.p s.c s.m=true){x:PW}(h:x.fit s p):zbx x.enc=x.kind/\za2 x.enc 0=x.pa/\za2 x.enc 1=x.pb:=by
 obtain⟨e,h1,h2⟩:=PW.zg9 hs h;have:=x.zhw;exact yal _ _ _ _ e (by omega) h1 h2
theorem PW.inj{p q:Int}(hs:mayB s.p s.c s.m=true){x y:PW}(h:x.fit s p)(o:y.fit s q)(e:x.enc=y.enc):x=y:=by
 obtain⟨b,f,i⟩:=PW.read hs h;obtain⟨j,l,n⟩:=PW.read hs o;rw[e]at b f i;have r:x.kind=y.kind:=b.symm.trans j;have t:x.pa=y.pa:=f.symm.trans l;have z:x.pb=y.pb:=i.symm.trans n;clear b f i j l n e h o;cases x<;>cases y<;>simp_all [PW.kind,PW.pa,PW.pb]
theorem PW.u64{p:Int}(hs:mayB s.p s.c s.m=true){x:PW}(h:x.fit s p):0<=x.enc/\x.enc<18446744073709551616:=by
 obtain⟨e,h1,h2⟩:=PW.zg9 hs h;have:=x.zhw;omega
theorem PW.ya4{p:Int}(hs:mayB s.p s.c s.m=true)(l:0<=p/\p<s.p){x:PW}(h:x.fit s p):zal s.p s.c s.m p x.enc=true:=by
 obtain⟨f,i,j⟩:=PW.read hs h;have hb:=zar.1 hs;rw[zal,f,i,j];have h1:zb8 x.kind x.pa x.pb=x.enc:=by cases x<;>first|rfl|decide
 have h2:0<=zak s.p s.c s.m p:=by unfold zak;rw[if_pos ⟨hs,zbc.2 (by omega)⟩];omega
 have h3:zkb s.p s.c p x.kind x.pa x.pb=true:=by
  cases x with
  |empty=>rfl
  |held o=>simp only[PW.fit]at h;show decide (o<s.c)=true;exact decide_eq_true (by omega)
  |super k b=>simp only[PW.fit]at h;show (decide (k<4)&&decide (b<s.c))=true;rw[decide_eq_true (by omega:k<4),decide_eq_true (by omega:b<s.c)];rfl
  |large n=>simp only[PW.fit]at h;show (decide (1<=n)&&decide (n<=8)&&decide (n<=s.p-p))=true;rw[decide_eq_true (by omega:1<=n),decide_eq_true (by omega:n<=8),decide_eq_true (by omega:n<=s.p-p)];rfl
  |body g=>simp only[PW.fit]at h;show (decide (g<p)&&decide (p-8<g))=true;rw[decide_eq_true (by omega:g<p),decide_eq_true (by omega:p-8<g)];rfl
 rw[h1,h3];simp[h2]
def SW.kind:SW->Int
 | .none=> 0
 | .opened _=> 1
 | .way _=> 2
 | .taken _=> 3
def SW.pa:SW->Int
 | .none=> 0
 | .opened k=> k
 | .way c=> c
 | .taken k=> k
theorem SW.zg9(hs:mayB s.p s.c s.m=true){x:SW}(h:x.fit s):x.enc=x.kind+16*x.pa/\(0<=x.pa/\x.pa<=255):=by
 have hb:=zar.1 hs;cases x<;>simp only[SW.fit]at h<;>simp only[SW.enc,SW.kind,SW.pa]
 ·omega
 ·rw[ygq (by omega)];omega
 ·rw[ygx (by omega)];omega
 rw[ygn (by omega)];omega
theorem SW.zhw(x:SW):0<=x.kind/\x.kind<=3:=by cases x<;>simp[SW.kind]
theorem SW.read(hs:mayB s.p s.c s.m=true){x:SW}(h:x.fit s):zbx x.enc=x.kind/\za2 x.enc 0=x.pa:=by
 obtain⟨e,h1⟩:=SW.zg9 hs h;have:=x.zhw;have:=yal x.enc x.kind x.pa 0 (by omega) (by omega) h1 (by omega);exact⟨this.1,this.2.1⟩
theorem SW.inj(hs:mayB s.p s.c s.m=true){x y:SW}(h:x.fit s)(l:y.fit s)(e:x.enc=y.enc):x=y:=by
 obtain⟨b,f⟩:=SW.read hs h;obtain⟨i,j⟩:=SW.read hs l;rw[e]at b f;have n:x.kind=y.kind:=b.symm.trans i;have o:x.pa=y.pa:=f.symm.trans j;clear b f i j e h l;cases x<;>cases y<;>simp_all [SW.kind,SW.pa]
theorem SW.u64(hs:mayB s.p s.c s.m=true){x:SW}(h:x.fit s):0<=x.enc/\x.enc<18446744073709551616:=by
 obtain⟨e,h1⟩:=SW.zg9 hs h;have:=x.zhw;omega
theorem MW.zg9(hs:mayB s.p s.c s.m=true){p i k:Int}(h:(MW.entry p i k).fit s):(MW.entry p i k).enc=1+16*p+4096*i+1048576*k/\0<=p/\p<=63/\0<=i/\i<=15/\0<=k/\k<=3:=by
 have hb:=zar.1 hs;simp only[MW.fit]at h;have:=zcy k;simp only[MW.enc];rw[yfg (by omega) (by omega) (by omega)];omega
theorem MW.read(hs:mayB s.p s.c s.m=true){p i k:Int}(h:(MW.entry p i k).fit s):za2 (MW.entry p i k).enc 0=p/\za2 (MW.entry p i k).enc 1=i/\za2 (MW.entry p i k).enc 2=k:=by
 obtain⟨e,h1⟩:=MW.zg9 hs h;exact yf5 _ _ _ _ e (by omega) (by omega) (by omega)
theorem MW.ya4(hs:mayB s.p s.c s.m=true){p i k:Int}(h:(MW.entry p i k).fit s):zbi s.p s.c s.m (MW.entry p i k).enc=true:=by
 obtain⟨b,f,j⟩:=MW.read hs h;have hb:=zar.1 hs;rw[zbi,b,f,j];simp only[MW.fit]at h;have h2:0<=zak s.p s.c s.m p:=by unfold zak;rw[if_pos ⟨hs,zbc.2 (by omega)⟩];omega
 simp only[MW.enc,beq_self_eq_true,Bool.true_and,Bool.and_eq_true,decide_eq_true_eq];exact⟨h2,h.2.2.2⟩
theorem MW.pos(hs:mayB s.p s.c s.m=true){p i k:Int}(h:(MW.entry p i k).fit s):(MW.entry p i k).enc≠0:=by
 obtain⟨e,h1⟩:=MW.zg9 hs h;omega
theorem MW.inj(hs:mayB s.p s.c s.m=true){x y:MW}(h:x.fit s)(j:y.fit s)(e:x.enc=y.enc):x=y:=by
 cases x<;>cases y
 ·rfl
 ·exact absurd e.symm (MW.pos hs j)
 ·exact absurd e (MW.pos hs h)
 obtain⟨b,f,i⟩:=MW.read hs h;obtain⟨l,n,o⟩:=MW.read hs j;rw[e]at b f i;rw[<-b,<- f,<- i,l,n,o]
theorem MW.u64(hs:mayB s.p s.c s.m=true){x:MW}(h:x.fit s):0<=x.enc/\x.enc<18446744073709551616:=by
 cases x
 ·exact⟨Int.le_refl _,by decide⟩
 obtain⟨e,h1⟩:=MW.zg9 hs h;omega
theorem zya:zbi s.p s.c s.m 0=false:=by
 have b:za2 0 0=0:=by decide
 have f:za2 0 1=0:=by decide
 have i:za2 0 2=0:=by decide
 rw[zbi,b,f,i];rfl
def TW.kind:TW->Int
 | .unused=> 0
 | .live=> 1
 | .dead=> 2
 | .owned _=> 3
 | .done=> 4
def TW.pa:TW->Int
 | .owned a=> a
 | _=> 0
theorem TW.zg9(hs:mayB s.p s.c s.m=true){x:TW}(h:x.fit s):x.enc=x.kind+16*x.pa/\(0<=x.pa/\x.pa<=255):=by
 have hb:=zar.1 hs;cases x<;>simp only[TW.fit]at h;case owned a=>simp only[TW.enc,TW.kind,TW.pa];rw[yfz (by omega)];omega
 all_goals decide
theorem TW.zhw(x:TW):0<=x.kind/\x.kind<=4:=by cases x<;>simp[TW.kind]
theorem TW.read(hs:mayB s.p s.c s.m=true){x:TW}(h:x.fit s):zdc x.enc=x.kind/\zda x.enc=x.pa:=by
 obtain⟨e,h1⟩:=TW.zg9 hs h;have:=x.zhw;have:=yal x.enc x.kind x.pa 0 (by omega) (by omega) h1 (by omega);have b:zjc x.enc=true:=by unfold zjc;rw[this.1,this.2.1];cases x<;>simp[TW.kind,TW.pa,TW.enc]
 unfold zdc zda;rw[if_pos b,if_pos b];exact⟨this.1,this.2.1⟩
theorem TW.inj(hs:mayB s.p s.c s.m=true){x y:TW}(h:x.fit s)(l:y.fit s)(e:x.enc=y.enc):x=y:=by
 obtain⟨b,f⟩:=TW.read hs h;obtain⟨i,j⟩:=TW.read hs l;rw[e]at b f;have n:x.kind=y.kind:=b.symm.trans i;have o:x.pa=y.pa:=f.symm.trans j;clear b f i j e h l;cases x<;>cases y<;>simp_all [TW.kind,TW.pa]
theorem TW.u64(hs:mayB s.p s.c s.m=true){x:TW}(h:x.fit s):0<=x.enc/\x.enc<18446744073709551616:=by
 obtain⟨e,h1⟩:=TW.zg9 hs h;have:=x.zhw;omega
end

section

structure Ab where
 pg:Int->PW
 sl:Int->Int->SW
 mg:Int->Int->MW
 st:Int->TW
def up {α:Type} (f:Int->α) (a:Int) (v:α):Int->α:=fun x=> if x=a then v else f x
def up2 {α:Type} (f:Int->Int->α) (a b:Int) (v:α):Int->Int->α:=fun x y=> if x=a/\y=b then v else f x y
def Ab.page (σ:Ab) (p:Int) (v:PW):Ab:= { σ with pg:=up σ.pg p v }
def Ab.slot (σ:Ab) (p i:Int) (v:SW):Ab:= { σ with sl:=up2 σ.sl p i v }
def Ab.mag (σ:Ab) (c i:Int) (v:MW):Ab:= { σ with mg:=up2 σ.mg c i v }
def Ab.stat (σ:Ab) (c:Int) (v:TW):Ab:= { σ with st:=up σ.st c v }
theorem zp8{b:Type}(f:Int->b)(a:Int)(v:b):up f a v a=v:=if_pos rfl
theorem z6r{b:Type}(f:Int->b){a x:Int}(h:x≠a)(v:b):up f a v x=f x:=if_neg h
theorem zly{i:Type}(f:Int->Int->i)(a b:Int)(v:i):up2 f a b v a b=v:=if_pos ⟨rfl,rfl⟩
theorem zv2{i:Type}(f:Int->Int->i){a b x y:Int}(h:¬ (x=a/\y=b))(v:i):up2 f a b v x y=f x y:=if_neg h
structure Rep (s:Sh) (m:Mem) (σ:Ab):Prop where
 fi:Fits s m
 pg:∀ p,0<=p/\p < s.p->m.get (zak s.p s.c s.m p)=(σ.pg p).enc
 sl:∀ p i,0<=p/\p < s.p->0<=i/\i < 16->m.get (zbk s.p s.c s.m p i)=(σ.sl p i).enc
 mg:∀ c i,0<=c/\c < s.c->0<=i/\i < s.m->m.get (ze9 s.p s.c s.m c i)=(σ.mg c i).enc
 st:∀ c,0<=c/\c < s.c->m.get (zae s.p s.c s.m c)=(σ.st c).enc
theorem zwv{m m':Mem}(h:m'.ws=m.ws)(a:Int):m'.get a=m.get a:=by unfold Mem.get;rw[h]
theorem zqk{m m':Mem}{a x:Int}(h:m'.ws=m.ws.set a.toNat x)(f:m.has a){b:Int}(hb:0<=b):m'.get b=if b=a then x else m.get b:=by
 have h1:=f.1;have h2:=f.2;unfold Mem.get;rw[h,List.getD_eq_getElem?_getD,List.getD_eq_getElem?_getD,List.getElem?_set];by_cases e:b=a
 ·subst e;rw[if_pos rfl,if_pos (by omega),if_pos rfl];rfl
 rw[if_neg (by omega),if_neg e]
section

variable {s:Sh} {m m':Mem} {σ:Ab}

theorem Rep.may(h:Rep s m σ):mayB s.p s.c s.m=true:=h.fi.may
theorem Rep.same(h:Rep s m σ)(e:m'.ws=m.ws):Rep s m' σ:=
 ⟨h.fi.zh1 (by rw[e]),fun p b=>(zwv e _).trans (h.pg p b),fun p i b hi=>(zwv e _).trans (h.sl p i b hi),fun c i hc hi=>(zwv e _).trans (h.mg c i hc hi),fun c hc=>(zwv e _).trans (h.st c hc)⟩
theorem ixs(h:Fits s m):(∀ p,0<=p/\p<s.p->zak s.p s.c s.m p=s.c+p)/\(∀ p i,0<=p/\p<s.p->0<=i/\i<16->zbk s.p s.c s.m p i=s.c+s.p+p*16+i)/\(∀ c i,0<=c/\c<s.c->0<=i/\i<s.m->ze9 s.p s.c s.m c i=s.c+s.p+s.p*16+c*s.m+i)/\(∀ c,0<=c/\c<s.c->zae s.p s.c s.m c=c):=
 ⟨fun p b=>(h.page b).1,fun p i b hi=>(h.slot b hi).1,fun c i hc hi=>(h.mag hc hi).1,fun c hc=>(h.status hc).1⟩
theorem yb4{c c' i i' M:Int}(hi:0<=i/\i<M)(b:0<=i'/\i'<M)(e:c*M+i=c'*M+i'):c=c'/\i=i':=by
 have f:0<M:=by omega
 have h1:(c*M+i)/M=c:=by rw[Int.add_comm,Int.add_mul_ediv_right _ _ (by omega),Int.ediv_eq_zero_of_lt hi.1 hi.2];omega
 have h2:(c'*M+i')/M=c':=by rw[Int.add_comm,Int.add_mul_ediv_right _ _ (by omega),Int.ediv_eq_zero_of_lt b.1 b.2];omega
 have h3:c=c':=by rw[<-h1,<- h2,e]
 subst h3;exact⟨rfl,by omega⟩
theorem Rep.zd7(h:Rep s m σ){p:Int}(o:0<=p/\p<s.p)(v:PW)(e:m'.ws=m.ws.set (zak s.p s.c s.m p).toNat v.enc):Rep s m' (σ.page p v):=by
 obtain⟨n,r,t,y⟩:=ixs h.fi;have hb:=h.fi.bd;have j:=fun {b}=>@zqk m m' _ _ e (h.fi.zhu o) b;rw[n p o]at j;refine⟨h.fi.zh1 (by rw[e];simp),fun q f=>?_,fun q i f hi=>?_,fun c i hc hi=>?_,fun c hc=>?_⟩
 ·rw[n q f,j (by omega)];by_cases l:q=p
  ·subst l;rw[if_pos rfl];show _=PW.enc (up _ _ _ _);rw[zp8]
  rw[if_neg (by omega)];show _=PW.enc (up _ _ _ _);rw[z6r _ l,<- n q f];exact h.pg q f
 ·rw[r q i f hi,j (by omega),if_neg (by omega),<- r q i f hi];exact h.sl q i f hi
 ·have:=Int.mul_nonneg hc.1 (show 0<=s.m by omega);rw[t c i hc hi,j (by omega),if_neg (by omega),<- t c i hc hi];exact h.mg c i hc hi
 rw[y c hc,j (by omega),if_neg (by omega)];have:=h.st c hc;rw[y c hc]at this;exact this
theorem Rep.setSlot(h:Rep s m σ){p j:Int}(t:0<=p/\p<s.p)(r:0<=j/\j<16)(v:SW)(e:m'.ws=m.ws.set (zbk s.p s.c s.m p j).toNat v.enc):Rep s m' (σ.slot p j v):=by
 obtain⟨y,o,z,B⟩:=ixs h.fi;have hb:=h.fi.bd;have l:=fun {b}=>@zqk m m' _ _ e (h.fi.zj0 t r) b;rw[o p j t r]at l;refine⟨h.fi.zh1 (by rw[e];simp),fun q f=>?_,fun q i f hi=>?_,fun c i hc hi=>?_,fun c hc=>?_⟩
 ·rw[y q f,l (by omega),if_neg (by omega),<- y q f];exact h.pg q f
 ·rw[o q i f hi,l (by omega)];by_cases n:q=p/\i=j
  ·obtain⟨rfl,rfl⟩:=n;rw[if_pos rfl];show _=SW.enc (up2 _ _ _ _ _ _);rw[zly]
  rw[if_neg (by omega)];show _=SW.enc (up2 _ _ _ _ _ _);rw[zv2 _ n,<- o q i f hi];exact h.sl q i f hi
 ·have:=Int.mul_nonneg hc.1 (show 0<=s.m by omega);rw[z c i hc hi,l (by omega),if_neg (by omega),<- z c i hc hi];exact h.mg c i hc hi
 rw[B c hc,l (by omega),if_neg (by omega)];have:=h.st c hc;rw[B c hc]at this;exact this
theorem Rep.z1g(h:Rep s m σ){x j:Int}(r:0<=x/\x<s.c)(o:0<=j/\j<s.m)(v:MW)(e:m'.ws=m.ws.set (ze9 s.p s.c s.m x j).toNat v.enc):Rep s m' (σ.mag x j v):=by
 obtain⟨y,z,t,B⟩:=ixs h.fi;have hb:=h.fi.bd;have n:=fun {b}=>@zqk m m' _ _ e (h.fi.magA r o) b;have h0:=Int.mul_nonneg r.1 (show 0<=s.m by omega);rw[t x j r o]at n;refine⟨h.fi.zh1 (by rw[e];simp),fun q f=>?_,fun q i f hi=>?_,fun c i hc hi=>?_,fun c hc=>?_⟩
 ·rw[y q f,n (by omega),if_neg (by omega),<- y q f];exact h.pg q f
 ·rw[z q i f hi,n (by omega),if_neg (by omega),<- z q i f hi];exact h.sl q i f hi
 ·have h1:=Int.mul_nonneg hc.1 (show 0<=s.m by omega);rw[t c i hc hi,n (by omega)];by_cases l:c=x/\i=j
  ·obtain⟨rfl,rfl⟩:=l;rw[if_pos rfl];show _=MW.enc (up2 _ _ _ _ _ _);rw[zly]
  rw[if_neg (fun e=>l (yb4 hi o (by omega)))];show _=MW.enc (up2 _ _ _ _ _ _);rw[zv2 _ l,<- t c i hc hi];exact h.mg c i hc hi
 rw[B c hc,n (by omega),if_neg (by omega)];have:=h.st c hc;rw[B c hc]at this;exact this
theorem Rep.zpm(h:Rep s m σ){x:Int}(o:0<=x/\x<s.c)(v:TW)(e:m'.ws=m.ws.set (zae s.p s.c s.m x).toNat v.enc):Rep s m' (σ.stat x v):=by
 obtain⟨r,t,y,n⟩:=ixs h.fi;have hb:=h.fi.bd;have l:=fun {b}=>@zqk m m' _ _ e (h.fi.zda o) b;rw[n x o]at l;refine⟨h.fi.zh1 (by rw[e];simp),fun q f=>?_,fun q i f hi=>?_,fun c i hc hi=>?_,fun c hc=>?_⟩
 ·rw[r q f,l (by omega),if_neg (by omega),<- r q f];exact h.pg q f
 ·rw[t q i f hi,l (by omega),if_neg (by omega),<- t q i f hi];exact h.sl q i f hi
 ·have:=Int.mul_nonneg hc.1 (show 0<=s.m by omega);rw[y c i hc hi,l (by omega),if_neg (by omega),<- y c i hc hi];exact h.mg c i hc hi
 rw[n c hc,l (by omega)];by_cases j:c=x
 ·subst j;rw[if_pos rfl];show _=TW.enc (up _ _ _ _);rw[zp8]
 rw[if_neg j];show _=TW.enc (up _ _ _ _);rw[z6r _ j];have:=h.st c hc;rw[n c hc]at this;exact this
end

def zhi (p:PW) (i:Int) (x:SW):Prop:=match p with
 | .held o=> x= .none\/(x= .way o/\0<=i/\i < 16)
 | .super k _=> if 0<=i/\i < zah k then x= .opened k\/x= .taken k\/∃ c,x= .way c else x= .none
 | _=> x= .none
structure GI (s:Sh) (σ:Ab):Prop where
 pf:∀ p,(σ.pg p).fit s p
 sf:∀ p i,(σ.sl p i).fit s
 mf:∀ c i,(σ.mg c i).fit s
 tf:∀ c,(σ.st c).fit s
 mr:∀ c i,σ.mg c i≠ .none->(0<=c/\c < s.c)/\0<=i/\i < s.m
 tr:∀ c,σ.st c≠ .unused->0<=c/\c < s.c
 sk:∀ p i,zhi (σ.pg p) i (σ.sl p i)
 bd:∀ p h,σ.pg p= .body h->(∃ o,σ.pg h= .held o)\/∃ n,σ.pg h= .large n/\p < h + n
 lg:∀ p n,σ.pg p= .large n->∀ j,1<=j->j < n->σ.pg (p + j)= .body p
 mv:∀ c j p i k,σ.mg c j= .entry p i k->(∃ b,σ.pg p= .super k b)/\σ.sl p i= .way c
 mi:∀ c j j' p i k k',σ.mg c j= .entry p i k->σ.mg c j'= .entry p i k'->j=j'
structure Same (x:Int) (σ σ':Ab):Prop where
 h:∀ p,σ'.pg p= .held x↔σ.pg p= .held x
 hs:∀ p i,σ.pg p= .held x->σ'.sl p i=σ.sl p i
 b:∀ p h,σ.pg h= .held x->(σ'.pg p= .body h↔σ.pg p= .body h)
 w:∀ p i k,((∃ b,σ'.pg p= .super k b)/\σ'.sl p i= .way x)↔((∃ b,σ.pg p= .super k b)/\σ.sl p i= .way x)
 m:∀ i,σ'.mg x i=σ.mg x i
theorem Same.refl(x:Int)(σ:Ab):Same x σ σ:=⟨fun _=>.rfl,fun _ _ _=>rfl,fun _ _ _=>.rfl,fun _ _ _=>.rfl,fun _=>rfl⟩
theorem Same.trans{x:Int}{a b c:Ab}(h:Same x a b)(k:Same x b c):Same x a c:=
 ⟨fun p=>(k.h p).trans (h.h p),fun p i f=>(k.hs p i ((h.h p).2 f)).trans (h.hs p i f),fun p q l=>(k.b p q ((h.h q).2 l)).trans (h.b p q l),fun p i j=>(k.w p i j).trans (h.w p i j),fun i=>(k.m i).trans (h.m i)⟩
structure Own where
 h:Int->Prop
 b:Int->Int->Prop
 w:Int->Int->Int->Prop
def Own.no:Own:=⟨fun _=> False,fun _ _=> False,fun _ _ _=> False⟩
def Own.add (o r:Own):Own:=⟨fun p=> o.h p\/r.h p,fun p h=> o.b p h\/r.b p h,fun p i k=> o.w p i k\/r.w p i k⟩
def Own.way (p i k:Int):Own:=⟨fun _=> False,fun _ _=> False,fun p' i' k'=> p'=p/\i'=i/\k'=k⟩
def Own.ways (p n k:Int):Own:=⟨fun _=> False,fun _ _=> False,fun p' i' k'=> p'=p/\(0<=i'/\i' < n)/\k'=k⟩
def Own.page (p:Int):Own:=⟨fun p'=> p'=p,fun _ _=> False,fun _ _ _=> False⟩
def Own.pages (lo hi:Int):Own:=⟨fun p'=> lo<=p'/\p' < hi,fun _ _=> False,fun _ _ _=> False⟩
def Own.bodies (h lo hi:Int):Own:=⟨fun _=> False,fun p' h'=> h'=h/\lo<=p'/\p' < hi,fun _ _ _=> False⟩
structure zaz (σ:Ab) (c:Int) (o:Own):Prop where
 h:∀ p,σ.pg p= .held c↔o.h p
 b:∀ p h,(σ.pg p= .body h/\σ.pg h= .held c)↔o.b p h
 w:∀ p i k,((∃ b,σ.pg p= .super k b)/\σ.sl p i= .way c)↔(o.w p i k\/∃ j,σ.mg c j= .entry p i k)
 d:∀ p i k j,o.w p i k->σ.mg c j≠ .entry p i k
theorem zaz.eq{σ:Ab}{c:Int}{o f:Own}(h:zaz σ c o)(h1:∀ p,f.h p↔o.h p)(h2:∀ p q,f.b p q↔o.b p q)(h3:∀ p i k,f.w p i k↔o.w p i k):zaz σ c f:=
 ⟨fun p=>(h.h p).trans (h1 p).symm,fun p q=>(h.b p q).trans (h2 p q).symm,fun p i k=>(h.w p i k).trans (or_congr (h3 p i k).symm .rfl),fun p i k j l=>h.d p i k j ((h3 p i k).1 l)⟩
theorem zaz.same{σ σ':Ab}{c:Int}{o:Own}(h:zaz σ c o)(hs:Same c σ σ'):zaz σ' c o:=by
 refine⟨fun p=>(hs.h p).trans (h.h p),fun p q=>?_,fun p i k=>(hs.w p i k).trans ((h.w p i k).trans (or_congr .rfl ⟨fun ⟨j,e⟩=>⟨j,(hs.m j).trans e⟩,fun ⟨j,e⟩=>⟨j,(hs.m j).symm.trans e⟩⟩)),fun p i k j n e=>h.d p i k j n ((hs.m j).symm.trans e)⟩;rw[<-h.b p q,hs.h q];constructor
 ·rintro⟨l,f⟩;exact⟨(hs.b p q f).1 l,f⟩
 rintro⟨l,f⟩;exact⟨(hs.b p q f).2 l,f⟩
end

end Go.Proofs.YtedcnffebdpmmaaGreat
