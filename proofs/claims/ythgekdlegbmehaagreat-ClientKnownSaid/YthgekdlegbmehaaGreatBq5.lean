/- Texts bound together: MchL MchC MchM. -/
import Derived.Test.YthgekdlegbmehaaGreatBq4

set_option linter.all false
namespace Go.Proofs.YthgekdlegbmehaaGreat
inductive Acts (c:Int) (m:Mem):Mem->Prop
 | load {a:Int} (h:m.has a):Acts c m (m.load c a)
 | store {a x:Int} (h:m.has a) (hx:0<=x/\x < 18446744073709551616):Acts c m (m.store c a x)
 | swap {a y x:Int} (h:m.has a) (hx:0<=x/\x < 18446744073709551616):Acts c m (m.swap c a y x)
theorem Acts.st {c:Int} {m m':Mem} (h:Acts c m m'):m'.st=m.st + 1:=by cases h <;> rfl
theorem Acts.len {c:Int} {m m':Mem} (h:Acts c m m'):m'.ws.length=m.ws.length:=by cases h <;> simp
theorem Acts.fits {s:Sh} {c:Int} {m m':Mem} (h:Acts c m m') (hf:Fits s m):Fits s m':=hf.zh1 h.len
theorem ztw {m:Mem} {k:Nat} {x st:Int} {la:Acc} (hf:m.fit) (hx:0<=x/\x < 18446744073709551616):Mem.fit ⟨m.ws.set k x,st,la⟩:=by
 intro y hy
 rcases List.mem_or_eq_of_mem_set hy with h | h
 ·exact hf y h
 ·rw [h];exact hx
theorem Acts.fit {c:Int} {m m':Mem} (h:Acts c m m') (hf:m.fit):m'.fit:=by
 cases h with
 | load _=> exact hf
 | store _ hx=> exact ztw hf hx
 | swap _ hx=>
  unfold Mem.swap
  split
  ·exact ztw hf hx
  ·exact hf
theorem Acts.of {c c':Int} {m m':Mem} (h:Acts c m m') (e:c=c'):Acts c' m m':=e ▸ h
theorem Fits.magA {s:Sh} {m:Mem} (h:Fits s m) {x i:Int} (hx:0<=x/\x < s.c) (hi:0<=i/\i < s.m):m.has (ze9 s.p s.c s.m x i):=by rw [(h.mag hx hi).1];exact (h.mag hx hi).2
theorem Fits.zj0 {s:Sh} {m:Mem} (h:Fits s m) {x i:Int} (hx:0<=x/\x < s.p) (hi:0<=i/\i < 16):m.has (zbk s.p s.c s.m x i):=by rw [(h.slot hx hi).1];exact (h.slot hx hi).2
theorem Fits.zhu {s:Sh} {m:Mem} (h:Fits s m) {x:Int} (hx:0<=x/\x < s.p):m.has (zak s.p s.c s.m x):=by rw [(h.page hx).1];exact (h.page hx).2
theorem Fits.zda {s:Sh} {m:Mem} (h:Fits s m) {x:Int} (hx:0<=x/\x < s.c):m.has (zae s.p s.c s.m x):=by rw [(h.status hx).1];exact (h.status hx).2
theorem zms:(0:Int)<=0/\(0:Int) < 18446744073709551616:=by decide
theorem zkf (k:Int):0<=zc8 k/\zc8 k < 18446744073709551616:=zch _ _
theorem zmd (k:Int):0<=wayW k/\wayW k < 18446744073709551616:=zch _ _
theorem zx7 (k:Int):0<=zfl k/\zfl k < 18446744073709551616:=zch _ _
theorem zj1 (k:Int):0<=zf4 k/\zf4 k < 18446744073709551616:=zc0 _ _ _
def ziz (s:Sh) (t:Tk):Int:=if t.done=true then 0 else if t.hit=true then 1 else s.m - t.i + 1
theorem yey {s:Sh} {t:Tk} (h:tkOk s t) (hd:t.done=false):1<=ziz s t:=by
 have:=h.cl hd
 unfold ziz
 rw [if_neg (by rw [hd];decide)]
 split <;> omega
theorem ybn {s:Sh} {t:Tk} {m:Mem} (h:tkOk s t) (hd:t.done=false) (hf:Fits s m):Acts t.c m (zd2 s t m).2/\(zd2 s t m).1.c=t.c/\ziz s (zd2 s t m).1 + 1<=ziz s t:=by
 have hc:=h.cl hd
 have hm:=hf.magA hc.1 hc.2
 have hnd:¬ t.done=true:=by rw [hd];decide
 unfold zd2 ziz
 dsimp only
 rw [if_neg hnd]
 by_cases hh:t.hit=true
 ·rw [if_pos hh]
  refine ⟨.store hm zms,rfl,?_⟩
  simp only [if_true,hh,hd,Bool.false_eq_true,if_false]
  omega
 ·rw [if_neg hh]
  split
  ·refine ⟨.load hm,rfl,?_⟩
   simp only [if_true,hh,hd,Bool.false_eq_true,if_false]
   omega
  ·refine ⟨.load hm,rfl,?_⟩
   simp only [hh,hd,Bool.false_eq_true,if_false,decide_eq_true_eq]
   split <;> omega
theorem yde (s:Sh) (c k:Int) (hm:0<=s.m):ziz s (zg3 s c k)<=s.m + 1/\(zg3 s c k).c=c:=by
 refine ⟨?_,rfl⟩
 unfold ziz zg3
 dsimp only
 split
 ·omega
 ·rw [if_neg (by decide)];omega
theorem z1k {s:Sh} {t:Tk} (h:tkOk s t):0<=ziz s t:=by
 rcases Bool.eq_false_or_eq_true t.done with hd | hd
 ·unfold ziz;rw [if_pos hd];omega
 ·have:=yey h hd;omega
def zh2 (s:Sh) (t:Pu):Int:=if t.done=true then 0 else if t.hit=true then 1 else s.m - t.i + 1
theorem ydf {s:Sh} {t:Pu} (h:puOk s t) (hd:t.done=false):1<=zh2 s t:=by
 have:=h.cl hd
 unfold zh2
 rw [if_neg (by rw [hd];decide)]
 split <;> omega
theorem ybu {s:Sh} {t:Pu} {m:Mem} (h:puOk s t) (hd:t.done=false) (hf:Fits s m):Acts t.c m (zd3 s t m).2/\(zd3 s t m).1.c=t.c/\zh2 s (zd3 s t m).1 + 1<=zh2 s t:=by
 have hc:=h.cl hd
 have hm:=hf.magA hc.1 hc.2
 have hnd:¬ t.done=true:=by rw [hd];decide
 unfold zd3 zh2
 dsimp only
 rw [if_neg hnd]
 by_cases hh:t.hit=true
 ·rw [if_pos hh]
  refine ⟨.store hm (zj3 _ _ (by decide) (by simp)),rfl,?_⟩
  simp only [if_true,hh,hd,Bool.false_eq_true,if_false]
  omega
 ·rw [if_neg hh]
  split
  ·refine ⟨.load hm,rfl,?_⟩
   simp only [if_true,hh,hd,Bool.false_eq_true,if_false]
   omega
  ·refine ⟨.load hm,rfl,?_⟩
   simp only [hh,hd,Bool.false_eq_true,if_false,decide_eq_true_eq]
   split <;> omega
theorem yfa (s:Sh) (c pg sl k:Int) (hm:0<=s.m):zh2 s (zg5 s c pg sl k)<=s.m + 1/\(zg5 s c pg sl k).c=c:=by
 refine ⟨?_,rfl⟩
 unfold zh2 zg5
 dsimp only
 split
 ·omega
 ·rw [if_neg (by decide)];omega
theorem ztc {s:Sh} {t:Pu} (h:puOk s t):0<=zh2 s t:=by
 rcases Bool.eq_false_or_eq_true t.done with hd | hd
 ·unfold zh2;rw [if_pos hd];omega
 ·have:=ydf h hd;omega
def zee (s:Sh) (t:Sc):Int:=if t.done=true then 0 else (s.p - t.many - 1) * 33 + (if t.next=0 then 33 else if t.next=1 then 2 * (zah t.k - t.i) else 2 * (zah t.k - t.i) - 1)
theorem yeo {s:Sh} {t:Sc} (h:scOk s t) (hd:t.done=false):1<=zee s t:=by
 have:=h.cl hd
 unfold zee
 rw [if_neg (by rw [hd];decide)]
 split <;> (try split) <;> omega
theorem z3i {s:Sh} {t:Sc} (h:t.many < s.p):zee s (t.turn s)<=(s.p - t.many - 1) * 33/\(t.turn s).c=t.c:=by
 refine ⟨?_,rfl⟩
 unfold zee Sc.turn
 dsimp only
 simp only [decide_eq_true_eq,if_true]
 split <;> omega
theorem ych {s:Sh} {t:Sc} (hd:t.done=false) (h:t.many < s.p) (hi:t.i < zah t.k):zee s (t.miss s)<=(s.p - t.many - 1) * 33 + 2 * (zah t.k - t.i) - 2/\(t.miss s).c=t.c:=by
 unfold Sc.miss
 split
 ·have:=z3i (t:= { t with i:=t.i + 1,next:=1 }) h
  dsimp only at this
  exact ⟨by omega,this.2⟩
 ·refine ⟨?_,rfl⟩
  unfold zee
  dsimp only
  rw [if_neg (by rw [hd];decide),if_neg (by decide),if_pos rfl]
  omega
theorem yb3 {s:Sh} {t:Sc} {m:Mem} (h:scOk s t) (hd:t.done=false) (hf:Fits s m):Acts t.c m (zed s t m).2/\(zed s t m).1.c=t.c/\zee s (zed s t m).1 + 1<=zee s t:=by
 obtain ⟨hc,hk,hfi,hma,hi,hn⟩:=h.cl hd
 have hsl:=zb4 hk
 have hpg:0<=t.page s/\t.page s < s.p:=⟨Int.emod_nonneg _ (by omega),Int.emod_lt_of_pos _ (by omega)⟩
 have hm1:=hf.zhu hpg
 have hm2:=hf.zj0 (i:=t.i) hpg (by omega)
 have hnd:¬ t.done=true:=by rw [hd];decide
 have ht:=z3i (t:=t) (s:=s) hma.2
 have hmi:=ych (t:=t) (s:=s) hd hma.2 hi.2
 have hL:zee s t=(s.p - t.many - 1) * 33 + (if t.next=0 then 33 else if t.next=1 then 2 * (zah t.k - t.i) else 2 * (zah t.k - t.i) - 1):=by unfold zee;rw [if_neg hnd]
 rw [hL]
 unfold zed
 dsimp only
 rw [if_neg hnd]
 by_cases n0:t.next=0
 ·rw [if_pos n0,if_pos n0]
  dsimp only
  refine ⟨.load hm1,?_,?_⟩
  ·split
   ·rfl
   ·exact ht.2
  ·split
   ·unfold zee
    dsimp only
    rw [if_neg hnd,if_neg (by decide),if_pos rfl]
    omega
   ·omega
 ·rw [if_neg n0,if_neg n0]
  by_cases n1:t.next=1
  ·rw [if_pos n1,if_pos n1]
   dsimp only
   refine ⟨.load hm2,?_,?_⟩
   ·split
    ·rfl
    ·exact hmi.2
   ·split
    ·unfold zee
     dsimp only
     rw [if_neg hnd,if_neg (by decide),if_neg (by decide)]
     omega
    ·omega
  ·rw [if_neg n1,if_neg n1]
   dsimp only
   refine ⟨.swap hm2 (zmd _),?_,?_⟩
   ·split
    ·rfl
    ·exact hmi.2
   ·split
    ·unfold zee
     dsimp only
     rw [if_pos rfl]
     omega
    ·omega
theorem yem (s:Sh) (c k f:Int) (hp:1<=s.p):zee s (ziq s c k f)<=33 * s.p/\(ziq s c k f).c=c:=by
 refine ⟨?_,rfl⟩
 unfold zee ziq
 dsimp only
 split
 ·omega
 ·rw [if_pos rfl];omega
theorem z1y {s:Sh} {t:Sc} (h:scOk s t):0<=zee s t:=by
 rcases Bool.eq_false_or_eq_true t.done with hd | hd
 ·unfold zee;rw [if_pos hd];omega
 ·have:=yeo h hd;omega
def zfg (s:Sh) (t:Pc):Int:=if t.done=true then 0 else 2 * (s.p - t.many) - (if t.empty=true then 1 else 0)
theorem ydd {s:Sh} {t:Pc} (h:pcOk s t) (hd:t.done=false):1<=zfg s t:=by
 have:=h.cl hd
 unfold zfg
 rw [if_neg (by rw [hd];decide)]
 split <;> omega
theorem z94 {s:Sh} {t:Pc} {m:Mem} (h:pcOk s t) (hd:t.done=false) (hf:Fits s m):Acts t.c m (ze7 s t m).2/\(ze7 s t m).1.c=t.c/\zfg s (ze7 s t m).1 + 1<=zfg s t:=by
 obtain ⟨hc,hfi,hma⟩:=h.cl hd
 have hpg:0<=t.page s/\t.page s < s.p:=⟨Int.emod_nonneg _ (by omega),Int.emod_lt_of_pos _ (by omega)⟩
 have hm1:=hf.zhu hpg
 have hnd:¬ t.done=true:=by rw [hd];decide
 have hL:zfg s t=2 * (s.p - t.many) - (if t.empty=true then 1 else 0):=by unfold zfg;rw [if_neg hnd]
 rw [hL]
 unfold ze7
 dsimp only
 rw [if_neg hnd]
 cases he:t.empty
 ·rw [if_pos rfl]
  dsimp only
  refine ⟨.load hm1,?_,?_⟩
  ·split <;> rfl
  ·split
   ·unfold zfg
    dsimp only
    rw [if_neg hnd,if_pos rfl,if_neg (by decide)]
    omega
   ·unfold zfg
    dsimp only
    simp only [decide_eq_true_eq,Bool.false_eq_true,if_false]
    split <;> omega
 ·rw [if_neg (by decide)]
  dsimp only
  refine ⟨.swap hm1 (zj1 _),?_,?_⟩
  ·split <;> rfl
  ·split
   ·unfold zfg
    dsimp only
    simp only [if_true]
    omega
   ·unfold zfg
    dsimp only
    simp only [decide_eq_true_eq,Bool.false_eq_true,if_false,if_true]
    split <;> omega
theorem ydt (s:Sh) (c f:Int) (hp:1<=s.p):zfg s (zlu s c f)<=2 * s.p/\(zlu s c f).c=c:=by
 refine ⟨?_,rfl⟩
 unfold zfg zlu
 dsimp only
 split
 ·omega
 ·rw [if_neg (by decide)];omega
theorem zz7 {s:Sh} {t:Pc} (h:pcOk s t):0<=zfg s t:=by
 rcases Bool.eq_false_or_eq_true t.done with hd | hd
 ·unfold zfg;rw [if_pos hd];omega
 ·have:=ydd h hd;omega
def zep (t:Sp):Int:=if t.done=true then 0 else if t.back=true then t.i else 2 * zah t.k - t.i - 1
theorem yeq {s:Sh} {t:Sp} (h:spOk s t) (hd:t.done=false):1<=zep t:=by
 have:=h.cl hd
 have h2:=zb4 this.2.2.1
 unfold zep
 rw [if_neg (by rw [hd];decide)]
 split
 ·rename_i hb
  have:=this.2.2.2.2 hb
  omega
 ·omega
theorem z1p {s:Sh} {t:Sp} {m:Mem} (h:spOk s t) (hd:t.done=false) (hf:Fits s m):Acts t.c m (zdu s t m).2/\(zdu s t m).1.c=t.c/\zep (zdu s t m).1 + 1<=zep t:=by
 obtain ⟨hc,hpg,hk,hi,hb⟩:=h.cl hd
 have hsl:=zb4 hk
 have hm1:=hf.zhu hpg
 have hnd:¬ t.done=true:=by rw [hd];decide
 have hL:zep t=if t.back=true then t.i else 2 * zah t.k - t.i - 1:=by unfold zep;rw [if_neg hnd]
 rw [hL]
 unfold zdu
 rw [if_neg hnd]
 by_cases hbk:t.back=true
 ·have hb:=hb hbk
  have hm2:=hf.zj0 (i:=t.i - 1) hpg (by omega)
  rw [if_pos hbk,if_pos hbk]
  refine ⟨.store hm2 (zkf _),rfl,?_⟩
  unfold zep
  dsimp only
  simp only [decide_eq_true_eq,hbk,if_true]
  split <;> omega
 ·rw [if_neg hbk,if_neg hbk]
  by_cases hn:t.i=zah t.k
  ·rw [if_pos hn]
   refine ⟨.store hm1 (zj1 _),rfl,?_⟩
   unfold zep
   dsimp only
   rw [if_pos rfl]
   omega
  ·have hm2:=hf.zj0 (i:=t.i) hpg (by omega)
   rw [if_neg hn]
   dsimp only
   refine ⟨.swap hm2 (zmd _),?_,?_⟩
   ·split <;> rfl
   ·split
    ·unfold zep
     dsimp only
     rw [if_neg hnd,if_neg hbk]
     omega
    ·unfold zep
     dsimp only
     simp only [decide_eq_true_eq,if_true]
     split <;> omega
theorem z9n (s:Sh) (c pg k:Int):zep (zfa s c pg k)<=31/\(zfa s c pg k).c=c:=by
 refine ⟨?_,rfl⟩
 unfold zep zfa
 dsimp only
 split
 ·omega
 ·rename_i h
  have h:0 < zah k:=by
   by_cases hk:0 < zah k
   ·exact hk
   ·simp [hk] at h
  have:=zb4 h
  rw [if_neg (by decide)];omega
theorem znj {s:Sh} {t:Sp} (h:spOk s t):0<=zep t:=by
 rcases Bool.eq_false_or_eq_true t.done with hd | hd
 ·unfold zep;rw [if_pos hd];omega
 ·have:=yeq h hd;omega
def zfx (t:Bn):Int:=if t.done=true then 0 else if t.bound=true then t.i else 16 - t.i + zah t.k
theorem yeg {s:Sh} {t:Bn} (h:bnOk s t) (hd:t.done=false):1<=zfx t:=by
 have:=h.cl hd
 unfold zfx
 rw [if_neg (by rw [hd];decide)]
 split
 ·rename_i hb
  have:=this.2.2.2.2 hb
  omega
 ·omega
theorem ybe {s:Sh} {t:Bn} {m:Mem} (h:bnOk s t) (hd:t.done=false) (hf:Fits s m):Acts t.c m (ze6 s t m).2/\(ze6 s t m).1.c=t.c/\zfx (ze6 s t m).1 + 1<=zfx t:=by
 obtain ⟨hc,hpg,hk,hi,hb⟩:=h.cl hd
 have hsl:=zb4 hk
 have hm1:=hf.zhu hpg
 have hnd:¬ t.done=true:=by rw [hd];decide
 have hL:zfx t=if t.bound=true then t.i else 16 - t.i + zah t.k:=by unfold zfx;rw [if_neg hnd]
 rw [hL]
 unfold ze6
 rw [if_neg hnd]
 by_cases hbk:t.bound=true
 ·have hb:=hb hbk
  have hm2:=hf.zj0 (i:=t.i) hpg (by omega)
  rw [if_pos hbk,if_pos hbk]
  refine ⟨.store hm2 (zkf _),rfl,?_⟩
  unfold zfx
  dsimp only
  simp only [decide_eq_true_eq,hbk,if_true]
  split <;> omega
 ·rw [if_neg hbk,if_neg hbk]
  by_cases hn:t.i=16
  ·rw [if_pos hn]
   refine ⟨.store hm1 (zc0 _ _ _),rfl,?_⟩
   unfold zfx
   dsimp only
   rw [if_neg hnd,if_pos rfl]
   omega
  ·have hm2:=hf.zj0 (i:=t.i) hpg (by omega)
   rw [if_neg hn]
   refine ⟨.store hm2 ?_,rfl,?_⟩
   ·split
    ·exact zmd _
    ·exact zms
   ·unfold zfx
    dsimp only
    rw [if_neg hnd,if_neg hbk]
    omega
theorem ydz (s:Sh) (c pg k:Int):zfx (zfi s c pg k)<=32/\(zfi s c pg k).c=c:=by
 refine ⟨?_,rfl⟩
 unfold zfx zfi
 dsimp only
 split
 ·omega
 ·rename_i h
  have h:0 < zah k:=by
   by_cases hk:0 < zah k
   ·exact hk
   ·simp [hk] at h
  have:=zb4 h
  rw [if_neg (by decide)];omega
theorem zz0 {s:Sh} {t:Bn} (h:bnOk s t):0<=zfx t:=by
 rcases Bool.eq_false_or_eq_true t.done with hd | hd
 ·unfold zfx;rw [if_pos hd];omega
 ·have:=yeg h hd;omega
inductive Jb where
 | mal (r:Rs) (c:Option Cm)
 | fre (f:Fe)
 | aga (r:Rr)
 | hei (a:Ad)
 deriving DecidableEq
def zck (c:Option Cm):Bool:=match c with | some x=> x.done | none=> false
def Jb.done:Jb->Bool
 | .mal r c=> r.done && (!r.got.isSome || zck c)
 | .fre f=> f.done
 | .aga r=> r.done
 | .hei a=> a.done
def zhp (s:Sh) (cl:Int) (r:Rs) (c:Option Cm):Option Cm:=match c,r.got with
 | none,some b=> some (zc4 s cl b)
 | c,_=> c
def Jb.step (s:Sh) (cl:Int) (m:Mem):Jb->Jb × Mem
 | .mal r c=> if r.done=false then (.mal (zb0 s r m).1 c,(zb0 s r m).2) else match zhp s cl r c with
  | some x=> (.mal r (some (zb3 s x m).1),(zb3 s x m).2)
  | none=> (.mal r none,m)
 | .fre f=> (.fre (zca s f m).1,(zca s f m).2)
 | .aga r=> (.aga (zb9 s r m).1,(zb9 s r m).2)
 | .hei a=> (.hei (za0 s a m).1,(za0 s a m).2)
def Jb.gave:Jb->Bool
 | .mal _ _=> false
 | .fre f=> f.gave
 | .aga r=> (match r.free with | some f=> f.gave | none=> false)
 | .hei _=> false
def Jb.took:Jb->Option Blk
 | .mal r c=> if zck c=true then r.got else none
 | .fre _=> none
 | .aga r=> if r.done=true/\r.err=0 then (match r.res with | some x=> x.got | none=> none) else none
 | .hei _=> none
def Jb.err:Jb->Int
 | .mal r _=> if r.got.isSome=true then 0 else 3
 | .fre f=> if f.gave=true then 0 else 1
 | .aga r=> r.err
 | .hei a=> a.err
def zgl (s:Sh) (cl first kind a n:Int):Jb:=
 if kind=1 then .mal (zdh s cl n first) none
 else if kind=2 then .fre (zc2 s cl a)
 else if kind=3 then .aga (zhh s cl a n first)
 else .hei (zix s cl a)
def mcC:Mc->Int
 | .tk t=> t.c
 | .sc t=> t.c
 | .pc t=> t.c
 | .sp t=> t.c
 | .bn t=> t.c
def zf7 (s:Sh):Mc->Int
 | .tk t=> ziz s t
 | .sc t=> zee s t
 | .pc t=> zfg s t
 | .sp t=> zep t
 | .bn t=> zfx t
def zd4 (s:Sh) (t:Sk):Mc->Int
 | .tk _=> 67 * s.p + 32
 | .sc _=> 34 * s.p + 32
 | .pc _=> 32 * s.p + 32
 | .sp _=> 32 * (s.p - t.many - 1) + 32
 | .bn _=> 0
theorem yac {s:Sh} {x:Mc} {m:Mem} (h:mcOk s x) (hd:x.done=false) (hf:Fits s m):Acts (mcC x) m (zbr s x m).2/\mcC (zbr s x m).1=mcC x/\zf7 s (zbr s x m).1 + 1<=zf7 s x:=by
 cases x with
 | tk t=> exact ybn h hd hf
 | sc t=> exact yb3 h hd hf
 | pc t=> exact z94 h hd hf
 | sp t=> exact z1p h hd hf
 | bn t=> exact ybe h hd hf
theorem z9s (s:Sh) (t:Sk) (x:Mc) (m:Mem):zd4 s t (zbr s x m).1=zd4 s t x:=by cases x <;> rfl
theorem zry {s:Sh} {x:Mc} (h:mcOk s x):0<=zf7 s x:=by
 cases x with
 | tk t=> exact z1k h
 | sc t=> exact z1y h
 | pc t=> exact zz7 h
 | sp t=> exact znj h
 | bn t=> exact zz0 h
def zcm (s:Sh) (t:Sk):Int:=if t.done=true then 0 else match t.now with
 | none=> 32 * (s.p - t.many) + 32
 | some x=> zf7 s x + zd4 s t x
structure skIs (s:Sh) (cl k:Int) (t:Sk):Prop where
 ok:skOk s t
 c:t.c=cl
 k:t.k=k
 now:∀ x,t.now=some x->mcC x=cl
theorem zpk {s:Sh} {cl k:Int} {t:Sk} (h:skIs s cl k t) {pg sl:Int} (h2:skOk s (t.fin pg sl)):skIs s cl k (t.fin pg sl):=⟨h2,h.c,h.k,h.now⟩
theorem z6t {s:Sh} {cl k:Int} {t:Sk} {x:Mc} (h:skIs s cl k t) (hd:t.done=false) (hx:t.now=some x) (hxd:x.done=true) (hp:1<=s.p):skIs s cl k (t.after s x)/\zcm s (t.after s x)<=zcm s t:=by
 have ho:=zid h.ok hd hx hxd hp
 obtain ⟨c1,c2,c3,c4,c5⟩:=h.ok.cl hd
 have hxo:=zry (c5 x hx).1
 have hL:zcm s t=zf7 s x + zd4 s t x:=by unfold zcm;rw [if_neg (by rw [hd];decide),hx]
 rw [hL]
 have fin0:∀ pg sl,zcm s (t.fin pg sl)=0:=fun _ _=> rfl
 have bind1:∀ p,zcm s (t.bind s p)<=32:=fun p=> by
  have:=(ydz s t.c p t.k).1
  unfold zcm Sk.bind
  dsimp only [zf7,zd4]
  rw [if_neg (by rw [hd];decide)]
  omega
 have bindIs:∀ p,skOk s (t.bind s p)->skIs s cl k (t.bind s p):=fun p ho=> ⟨ho,h.c,h.k,fun y hy=> by
  simp only [Sk.bind,Option.some.injEq] at hy
  subst hy
  exact h.c⟩
 have turn1:zcm s (t.turn s)<=32 * (s.p - t.many - 1) + 32:=by
  unfold zcm Sk.turn
  dsimp only
  simp only [decide_eq_true_eq]
  split <;> omega
 cases x with
 | tk y=>
  simp only [Sk.after] at ho ⊢
  split at ho <;> rename_i hq
  ·rw [if_pos hq]
   refine ⟨zpk h ho,?_⟩
   rw [fin0]
   have:zd4 s t (.tk y)=67 * s.p + 32:=rfl
   omega
  ·rw [if_neg hq]
   refine ⟨⟨ho,h.c,h.k,fun z hz=> ?_⟩,?_⟩
   ·simp only [Option.some.injEq] at hz
    subst hz
    exact h.c
   ·have:=(yem s t.c t.k t.first hp).1
    unfold zcm
    dsimp only [zf7,zd4] at hxo ⊢
    rw [if_neg (by rw [hd];decide)]
    omega
 | sc y=>
  simp only [Sk.after] at ho ⊢
  split at ho <;> rename_i hq
  ·rw [if_pos hq]
   refine ⟨zpk h ho,?_⟩
   rw [fin0]
   have:zd4 s t (.sc y)=34 * s.p + 32:=rfl
   omega
  ·rw [if_neg hq]
   refine ⟨⟨ho,h.c,h.k,fun z hz=> ?_⟩,?_⟩
   ·simp only [Option.some.injEq] at hz
    subst hz
    exact h.c
   ·have:=(ydt s t.c t.first hp).1
    unfold zcm
    dsimp only [zf7,zd4] at hxo ⊢
    rw [if_neg (by rw [hd];decide)]
    omega
 | pc y=>
  simp only [Sk.after] at ho ⊢
  split at ho <;> rename_i hq
  ·rw [if_pos hq]
   refine ⟨bindIs _ ho,?_⟩
   have h1:=bind1 (y.page s)
   have:zd4 s t (.pc y)=32 * s.p + 32:=rfl
   omega
  ·rw [if_neg hq]
   refine ⟨⟨ho,h.c,h.k,fun z hz=> (by cases hz)⟩,?_⟩
   unfold zcm
   dsimp only [zf7,zd4] at hxo ⊢
   rw [if_neg (by rw [hd];decide)]
   omega
 | sp y=>
  simp only [Sk.after] at ho ⊢
  have hr:zd4 s t (.sp y)=32 * (s.p - t.many - 1) + 32:=rfl
  split at ho <;> rename_i hq
  ·rw [if_pos hq]
   refine ⟨bindIs _ ho,?_⟩
   have h1:=bind1 (t.here s)
   omega
  ·rw [if_neg hq]
   refine ⟨⟨ho,h.c,h.k,fun z hz=> (by cases hz)⟩,?_⟩
   omega
 | bn y=>
  simp only [Sk.after] at ho ⊢
  refine ⟨zpk h ho,?_⟩
  rw [fin0]
  have:zd4 s t (.bn y)=0:=rfl
  omega
theorem ztn {s:Sh} {cl k:Int} (hp:1<=s.p) (n:Nat):∀ {t:Sk},skIs s cl k t->skIs s cl k (za5 s n t)/\zcm s (za5 s n t)<=zcm s t:=by
 induction n with
 | zero=> intro t h;exact ⟨h,Int.le_refl _⟩
 | succ n ih=>
  intro t h
  unfold za5
  split
  ·rename_i x hx
   split
   ·rename_i hc
    have h1:=z6t h hc.1 hx hc.2 hp
    have h2:=ih h1.1
    exact ⟨h2.1,Int.le_trans h2.2 h1.2⟩
   ·exact ⟨h,Int.le_refl _⟩
  ·exact ⟨h,Int.le_refl _⟩
def zvw (t:Sk):Prop:=t.done=true\/t.now=none\/∃ x,t.now=some x/\x.done=false
theorem zzt {s:Sh} (n:Nat):∀ {t:Sk},zdj t<=n->zvw (za5 s n t):=by
 induction n with
 | zero=>
  intro t h
  unfold zdj at h
  unfold za5
  split at h
  ·rename_i hd;exact .inl hd
  ·split at h <;> rename_i hn <;> first | exact .inr (.inl hn) | omega
 | succ n ih=>
  intro t h
  unfold za5
  split
  ·rename_i x hx
   split
   ·rename_i hc
    have:=ze1 (s:=s) hc.1 hx
    exact ih (by omega)
   ·rename_i hc
    rcases Bool.eq_false_or_eq_true t.done with hd | hd
    ·exact .inl hd
    ·rcases Bool.eq_false_or_eq_true x.done with hxd | hxd
     ·exact absurd ⟨hd,hxd⟩ hc
     ·exact .inr (.inr ⟨x,hx,hxd⟩)
  ·rename_i hx
   exact .inr (.inl hx)
theorem znq (s:Sh) (t:Sk):zvw (za5 s 5 t):=zzt 5 (Nat.le_trans (zrw t) (by decide))
theorem z2i {s:Sh} {t:Sk} (h:skOk s t):0<=zcm s t:=by
 unfold zcm
 split
 ·omega
 ·rename_i hd
  obtain ⟨c1,c2,c3,c4,c5⟩:=h.cl (by simpa using hd)
  split
  ·omega
  ·rename_i x hx
   have h1:=zry (c5 x hx).1
   have:0<=zd4 s t x:=by cases x <;> dsimp only [zd4] <;> omega
   omega
theorem yek {s:Sh} (c k f:Int) (hm:mayB s.p s.c s.m=true):skIs s c k (zhb s c k f)/\zvw (zhb s c k f)/\zcm s (zhb s c k f)<=67 * s.p + s.m + 33:=by
 have hb:=zar.1 hm
 have ho:=zwd s c k f
 unfold zhb at ho ⊢
 split at ho
 ·rename_i h
  rw [if_pos h]
  have h0:skIs s c k ⟨c,k,f,some (.tk (zg3 s c k)),0,0,0,false,false⟩:=by
   have h1:=zbe h.1
   have h3:=zcs h.2.2
   refine ⟨⟨fun _=> ⟨by dsimp only;omega,h.2.1,by dsimp only;omega,by dsimp only;omega,fun x hx=> ?_⟩,fun e=> (by cases e)⟩,rfl,rfl,fun x hx=> ?_⟩
   ·simp only [Option.some.injEq] at hx
    subst hx
    exact ⟨zl1 _ _ _,rfl⟩
   ·simp only [Option.some.injEq] at hx
    subst hx
    rfl
  have h1:=ztn (by omega) 5 h0
  refine ⟨h1.1,znq _ _,Int.le_trans h1.2 ?_⟩
  have:=(yde s c k (by omega)).1
  unfold zcm
  dsimp only [zf7,zd4]
  rw [if_neg (by decide)]
  omega
 ·rename_i h
  rw [if_neg h]
  refine ⟨⟨ho,rfl,rfl,fun x hx=> (by cases hx)⟩,.inl rfl,?_⟩
  unfold zcm
  dsimp only
  rw [if_pos rfl]
  omega
theorem ybz {s:Sh} {cl k:Int} {t:Sk} {m:Mem} (h:skIs s cl k t) (hs:zvw t) (hd:t.done=false) (hf:Fits s m):Acts cl m (zbv s t m).2/\skIs s cl k (zbv s t m).1/\zvw (zbv s t m).1/\zcm s (zbv s t m).1 + 1<=zcm s t:=by
 have hp:1<=s.p:=hf.bd.1
 obtain ⟨c1,c2,c3,c4,c5⟩:=h.ok.cl hd
 have hnf:=zb7 h.ok.fd hd
 have hL:zcm s t=match t.now with
  | none=> 32 * (s.p - t.many) + 32
  | some x=> zf7 s x + zd4 s t x:=by unfold zcm;rw [if_neg (by rw [hd];decide)]
 have ho:=z2o m hp h.ok
 unfold zbv at ho ⊢
 rw [if_neg (by rw [hd];decide)] at ho ⊢
 rcases hs with hs | hs | ⟨x,hx,hxd⟩
 ·rw [hd] at hs;cases hs
 ·rw [hs] at ho hL ⊢
  dsimp only at ho hL ⊢
  have hh:=t.zt4 hp
  refine ⟨(Acts.load (hf.zhu hh)).of h.c,?_⟩
  split at ho <;> rename_i hq
  ·rw [if_pos hq]
   refine ⟨⟨ho,h.c,h.k,fun z hz=> ?_⟩,.inr (.inr ⟨_,rfl,?_⟩),?_⟩
   ·simp only [Option.some.injEq] at hz
    subst hz
    exact h.c
   ·have h1:=(zea.1 hq.1).2.1
    have h2:=zcs h1
    have h3:=(zdq hq.1 hq.2).2.2
    have h4:0<=zae s.p s.c s.m t.c:=by
     unfold zae
     rw [if_pos ⟨h2.1,zbc.2 (by omega)⟩]
     exact c1.1
    simp [Mc.done,zfa,h1,h3,h4]
   ·rw [hL]
    have:=(z9n s t.c (t.here s) (za2 (m.get (zak s.p s.c s.m (t.here s))) 0)).1
    unfold zcm
    dsimp only [zf7,zd4]
    rw [if_neg (by rw [hd];decide)]
    omega
  ·rw [if_neg hq]
   refine ⟨⟨ho,h.c,h.k,fun z hz=> (by cases hz)⟩,.inr (.inl rfl),?_⟩
   rw [hL]
   unfold zcm Sk.turn
   dsimp only
   simp only [decide_eq_true_eq]
   split <;> omega
 ·rw [hx] at ho hL ⊢
  dsimp only at ho hL ⊢
  have h1:=yac (c5 x hx).1 hxd hf
  have hc:=h.now x hx
  have h0:skIs s cl k { t with now:=some (zbr s x m).1 }:=by
   refine ⟨⟨fun _=> ⟨c1,c2,c3,c4,fun z hz=> ?_⟩,fun e=> (by have e:t.found=true:=e;rw [hnf] at e;cases e)⟩,h.c,h.k,fun z hz=> ?_⟩
   ·simp only [Option.some.injEq] at hz
    subst hz
    exact ⟨zjq m (c5 x hx).1,zg1 (t:=t) m (c5 x hx).2⟩
   ·simp only [Option.some.injEq] at hz
    subst hz
    exact h1.2.1.trans hc
  have h2:=ztn hp 5 h0
  refine ⟨h1.1.of hc,h2.1,znq _ _,?_⟩
  have h3:zcm s { t with now:=some (zbr s x m).1 }=zf7 s (zbr s x m).1 + zd4 s t x:=by
   rw [<- z9s s t x m]
   unfold zcm
   rw [if_neg (by rw [hd];decide)]
   cases (zbr s x m).1 <;> rfl
  omega
def zct (s:Sh) (t:Rn):Int:=if t.done=true then 0
 else if t.next=0 then 50 * (s.p - t.at') + (t.at' - t.head) + 8
 else if t.next=1 then 50 * (s.p - t.at' - 1) + (t.at' - t.head) + 10
 else if t.next=2 then 50 * (s.p - t.at' - 1) + (match t.strip with | some x=> zep x | none=> 0) + (t.at' - t.head) + 25
 else if t.next=3 then 50 * (s.p - t.at' - 1) + (16 - t.i) + (t.at' - t.head) + 9
 else if t.next=4 then 50 * (s.p - t.at' - 1) + (t.i - t.head) + 8
 else t.head + t.pages - t.i
structure rnIs (s:Sh) (cl n:Int) (t:Rn):Prop where
 ok:rnOk s t
 c:t.c=cl
 n:t.pages=n
 st:∀ x,t.strip=some x->x.c=cl
theorem yev {s:Sh} {t:Rn} (h:rnOk s t) (hd:t.done=false):1<=zct s t:=by
 obtain ⟨c1,c2,c3,c4,c5,c6,c7,c8,c9,c10⟩:=h.cl hd
 unfold zct
 rw [if_neg (by rw [hd];decide)]
 split
 ·have:=c6 (by omega);omega
 ·split
  ·have:=c6 (by omega);omega
  ·split
   ·rename_i n2
    have:=c6 (by omega)
    obtain ⟨x,hx,hxo,hxd⟩:=c7 n2
    have:=znj hxo
    rw [hx];dsimp only;omega
   ·split
    ·rename_i n3
     have:=c6 (by omega)
     have:=c8 n3
     omega
    ·split
     ·rename_i n4
      have:=c6 (by omega)
      have:=c9 n4
      omega
     ·have:=c10 (by omega)
      omega
theorem z9e {s:Sh} {t:Rn} (hd:t.done=false) (h2:1<=t.pages/\t.pages<=8) (h4:t.head<=t.at'/\t.at' < t.head + t.pages) (h5:t.head + t.pages<=s.p):zct s t.own<=50 * (s.p - t.at' - 1) + (t.at' + 1 - t.head) + 8/\t.own.c=t.c/\t.own.pages=t.pages/\t.own.strip=t.strip:=by
 unfold Rn.own Rn.written
 have hnd:¬ t.done=true:=by rw [hd];decide
 split
 ·dsimp only
  split
  ·refine ⟨?_,rfl,rfl,rfl⟩
   unfold zct
   dsimp only
   rw [if_pos rfl]
   omega
  ·refine ⟨?_,rfl,rfl,rfl⟩
   unfold zct
   dsimp only
   rw [if_neg hnd,if_neg (by decide),if_neg (by decide),if_neg (by decide),if_neg (by decide),if_neg (by decide)]
   omega
 ·refine ⟨?_,rfl,rfl,rfl⟩
  unfold zct
  dsimp only
  rw [if_neg hnd,if_pos rfl]
  omega
theorem z3t {s:Sh} {t:Rn} (hd:t.done=false) (h5:t.next=4) (h2:t.pages<=s.p) (h6:t.at' < s.p) (h7:t.head<=t.i):zct s (t.gone s)<=50 * (s.p - t.at' - 1) + (t.i - t.head) + 8/\(t.gone s).c=t.c/\(t.gone s).pages=t.pages/\(t.gone s).strip=t.strip:=by
 unfold Rn.gone
 have hnd:¬ t.done=true:=by rw [hd];decide
 split
 ·refine ⟨?_,rfl,rfl,rfl⟩
  unfold zct
  rw [if_neg hnd,if_neg (by omega),if_neg (by omega),if_neg (by omega),if_neg (by omega),if_pos h5]
  omega
 ·refine ⟨?_,rfl,rfl,rfl⟩
  unfold zct
  dsimp only
  simp only [decide_eq_true_eq,if_true]
  split <;> omega
theorem zvx {s:Sh} {t:Rn} (hd:t.done=false) (h2:t.pages<=s.p) (h4:t.head<=t.at') (h6:t.at' < s.p):zct s (t.miss s)<=50 * (s.p - t.at' - 1) + (t.at' - t.head) + 8/\(t.miss s).c=t.c/\(t.miss s).pages=t.pages/\(t.miss s).strip=t.strip:=
 z3t (t:= { t with next:=4,i:=t.at' }) hd rfl h2 h6 h4
theorem yat {s:Sh} {cl n:Int} {t:Rn} {m:Mem} (h:rnIs s cl n t) (hd:t.done=false) (hf:Fits s m):Acts cl m (zcr s t m).2/\rnIs s cl n (zcr s t m).1/\zct s (zcr s t m).1 + 1<=zct s t:=by
 obtain ⟨c1,c2,c3,c4,c5,c6,c7,c8,c9,c10⟩:=h.ok.cl hd
 have hnd:¬ t.done=true:=by rw [hd];decide
 have ho:=z0v m h.ok
 have hL:zct s t=if t.next=0 then 50 * (s.p - t.at') + (t.at' - t.head) + 8
  else if t.next=1 then 50 * (s.p - t.at' - 1) + (t.at' - t.head) + 10
  else if t.next=2 then 50 * (s.p - t.at' - 1) + (match t.strip with | some x=> zep x | none=> 0) + (t.at' - t.head) + 25
  else if t.next=3 then 50 * (s.p - t.at' - 1) + (16 - t.i) + (t.at' - t.head) + 9
  else if t.next=4 then 50 * (s.p - t.at' - 1) + (t.i - t.head) + 8
  else t.head + t.pages - t.i:=by unfold zct;rw [if_neg hnd]
 have is:∀ u:Rn,rnOk s u->u.c=t.c->u.pages=t.pages->(u.strip=t.strip\/∃ x,u.strip=some x/\x.c=t.c)->rnIs s cl n u:=fun u ho e1 e2 e3=> ⟨ho,e1.trans h.c,e2.trans h.n,fun x hx=> by
  rcases e3 with e3 | ⟨y,e3,e4⟩
  ·exact h.st x (e3 ▸ hx)
  ·rw [e3] at hx;injection hx with hx;subst hx;exact e4.trans h.c⟩
 rw [hL]
 unfold zcr at ho ⊢
 dsimp only at ho ⊢
 rw [if_neg hnd] at ho ⊢
 by_cases n0:t.next=0
 ·have c6:=c6 (by omega)
  have hm:=hf.zhu (x:=t.at') (by omega)
  have hmi:=zvx (s:=s) hd (by omega) c4.1 (by omega)
  rw [if_pos n0] at ho ⊢
  rw [if_pos n0]
  dsimp only at ho ⊢
  refine ⟨(Acts.load hm).of h.c,?_⟩
  split at ho <;> rename_i h1
  ·rw [if_pos h1]
   refine ⟨is _ ho rfl rfl (.inl rfl),?_⟩
   unfold zct
   dsimp only
   rw [if_neg hnd,if_neg (by decide),if_pos rfl]
   omega
  ·rw [if_neg h1]
   split at ho <;> rename_i h2
   ·rw [if_pos h2]
    refine ⟨is _ ho rfl rfl (.inr ⟨_,rfl,rfl⟩),?_⟩
    have:=(z9n s t.c t.at' (za2 (m.get (zak s.p s.c s.m t.at')) 0)).1
    unfold zct
    dsimp only
    rw [if_neg hnd,if_neg (by decide),if_neg (by decide),if_pos rfl]
    omega
   ·rw [if_neg h2]
    exact ⟨is _ ho hmi.2.1 hmi.2.2.1 (.inl hmi.2.2.2),by omega⟩
 rw [if_neg n0] at ho ⊢
 rw [if_neg n0]
 by_cases n1:t.next=1
 ·have c6:=c6 (by omega)
  have hm:=hf.zhu (x:=t.at') (by omega)
  have hmi:=zvx (s:=s) hd (by omega) c4.1 (by omega)
  have hown:=z9e (s:=s) hd c2 ⟨c4.1,c6⟩ c3.2
  rw [if_pos n1] at ho ⊢
  rw [if_pos n1]
  dsimp only at ho ⊢
  refine ⟨(Acts.swap hm (zj1 _)).of h.c,?_⟩
  split at ho <;> rename_i h1
  ·rw [if_pos h1]
   exact ⟨is _ ho hown.2.1 hown.2.2.1 (.inl hown.2.2.2),by omega⟩
  ·rw [if_neg h1]
   exact ⟨is _ ho hmi.2.1 hmi.2.2.1 (.inl hmi.2.2.2),by omega⟩
 rw [if_neg n1] at ho ⊢
 rw [if_neg n1]
 by_cases n2:t.next=2
 ·have c6:=c6 (by omega)
  obtain ⟨x,hx,hxo,hxd⟩:=c7 n2
  have hst:=z1p hxo hxd hf
  have hxc:=h.st x hx
  have hnn:=znj (znr m hxo)
  have htc:=h.c
  rw [if_pos n2,hx] at ho ⊢
  rw [if_pos n2]
  dsimp only at ho ⊢
  refine ⟨hst.1.of hxc,?_⟩
  split at ho <;> rename_i h1
  ·rw [if_pos h1]
   refine ⟨is _ ho rfl rfl (.inr ⟨_,rfl,by rw [hst.2.1,hxc,htc]⟩),?_⟩
   unfold zct
   dsimp only
   rw [if_neg hnd,if_neg (by decide),if_neg (by decide),if_neg (by decide),if_pos rfl]
   omega
  ·rw [if_neg h1]
   split at ho <;> rename_i h2
   ·rw [if_pos h2]
    have hmi:=zvx (s:=s) (t:= { t with strip:=some (zdu s x m).1 }) hd (by dsimp only;omega) c4.1 (by dsimp only;omega)
    dsimp only at hmi
    refine ⟨is _ ho hmi.2.1 hmi.2.2.1 (.inr ⟨_,hmi.2.2.2,by rw [hst.2.1,hxc,htc]⟩),?_⟩
    omega
   ·rw [if_neg h2]
    refine ⟨is _ ho rfl rfl (.inr ⟨_,rfl,by rw [hst.2.1,hxc,htc]⟩),?_⟩
    unfold zct
    dsimp only
    rw [if_neg hnd,if_neg n0,if_neg n1,if_pos n2]
    omega
 rw [if_neg n2] at ho ⊢
 rw [if_neg n2]
 by_cases n3:t.next=3
 ·have c6:=c6 (by omega)
  have c8:=c8 n3
  have hm:=hf.zj0 (x:=t.at') (i:=t.i) (by omega) (by omega)
  rw [if_pos n3] at ho ⊢
  rw [if_pos n3]
  dsimp only at ho ⊢
  refine ⟨(Acts.store hm zms).of h.c,?_⟩
  split at ho <;> rename_i h1
  ·rw [if_pos h1]
   have hown:=z9e (s:=s) (t:= { t with i:=t.i + 1 }) hd c2 ⟨c4.1,c6⟩ c3.2
   dsimp only at hown
   exact ⟨is _ ho hown.2.1 hown.2.2.1 (.inl hown.2.2.2),by omega⟩
  ·rw [if_neg h1]
   refine ⟨is _ ho rfl rfl (.inl rfl),?_⟩
   unfold zct
   dsimp only
   rw [if_neg hnd,if_neg n0,if_neg n1,if_neg n2,if_pos n3]
   omega
 rw [if_neg n3] at ho ⊢
 rw [if_neg n3]
 by_cases n4:t.next=4
 ·have c6:=c6 (by omega)
  have c9:=c9 n4
  have hm:=hf.zhu (x:=t.i - 1) (by omega)
  rw [if_pos n4] at ho ⊢
  rw [if_pos n4]
  dsimp only at ho ⊢
  have hg:=z3t (s:=s) (t:= { t with i:=t.i - 1 }) hd n4 (by dsimp only;omega) (by dsimp only;omega) (by dsimp only;omega)
  dsimp only at hg
  exact ⟨(Acts.store hm (zc0 _ _ _)).of h.c,is _ ho hg.2.1 hg.2.2.1 (.inl hg.2.2.2),by omega⟩
 rw [if_neg n4] at ho ⊢
 rw [if_neg n4]
 have n5:t.next=5:=by omega
 have c10:=c10 n5
 have hm:=hf.zhu (x:=t.i) (by omega)
 dsimp only at ho ⊢
 refine ⟨(Acts.store hm (zc0 _ _ _)).of h.c,?_⟩
 unfold Rn.written at ho ⊢
 split at ho <;> rename_i h1
 ·rw [if_pos h1]
  refine ⟨is _ ho rfl rfl (.inl rfl),?_⟩
  unfold zct
  dsimp only
  rw [if_pos rfl]
  omega
 ·rw [if_neg h1]
  refine ⟨is _ ho rfl rfl (.inl rfl),?_⟩
  unfold zct
  dsimp only
  rw [if_neg hnd,if_neg n0,if_neg n1,if_neg n2,if_neg n3,if_neg n4]
  omega
theorem yfb {s:Sh} (c n:Int) (hm:mayB s.p s.c s.m=true):rnIs s c n (zf8 s c n)/\zct s (zf8 s c n)<=50 * s.p + 8:=by
 have hb:=zar.1 hm
 refine ⟨⟨zwt _ _ _,rfl,rfl,fun x hx=> (by cases hx)⟩,?_⟩
 unfold zct zf8
 dsimp only
 split
 ·omega
 ·rw [if_pos rfl];omega
theorem z2y {s:Sh} {t:Rn} (h:rnOk s t):0<=zct s t:=by
 rcases Bool.eq_false_or_eq_true t.done with hd | hd
 ·unfold zct;rw [if_pos hd];omega
 ·have:=yev h hd;omega
end Go.Proofs.YthgekdlegbmehaaGreat
