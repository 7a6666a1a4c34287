/- Texts bound together: MchL MchC MchM. -/
import Derived.Test.YtampacmmhhilaaaGreatBm4

import Derived.Test.YtampacmmhhilaaaGreatBm3

set_option linter.all false
/- How many accesses the simple machines do at most, and that a step is one access of their client's. Plain. -/
namespace Go.Proofs.YtampacmmhhilaaaGreat

/-- One access of a client to a word that is there. -/
inductive Acts (c:Int) (m:Mem):Mem→Prop
 | load {a:Int} (h:m.has a):Acts c m (m.load c a)
 | store {a x:Int} (h:m.has a) (hx:0≤x∧x < 18446744073709551616):Acts c m (m.store c a x)
 | swap {a y x:Int} (h:m.has a) (hx:0≤x∧x < 18446744073709551616):Acts c m (m.swap c a y x)
theorem Acts.st {c:Int} {m m':Mem} (h:Acts c m m'):m'.st=m.st + 1:=by cases h <;> rfl
theorem Acts.len {c:Int} {m m':Mem} (h:Acts c m m'):m'.ws.length=m.ws.length:=by cases h <;> simp
theorem Acts.fits {s:Sh} {c:Int} {m m':Mem} (h:Acts c m m') (hf:Fits s m):Fits s m':=hf.of_len h.len
theorem fit_set {m:Mem} {k:Nat} {x st:Int} {la:Acc} (hf:m.fit) (hx:0≤x∧x < 18446744073709551616):Mem.fit ⟨m.ws.set k x,st,la⟩:=by
 intro y hy
 rcases List.mem_or_eq_of_mem_set hy with h | h
 ·exact hf y h
 ·rw [h];exact hx
theorem Acts.fit {c:Int} {m m':Mem} (h:Acts c m m') (hf:m.fit):m'.fit:=by
 cases h with
 | load _=> exact hf
 | store _ hx=> exact fit_set hf hx
 | swap _ hx=>
  unfold Mem.swap
  split
  ·exact fit_set hf hx
  ·exact hf
theorem Acts.of {c c':Int} {m m':Mem} (h:Acts c m m') (e:c=c'):Acts c' m m':=e ▸ h
theorem Fits.magA {s:Sh} {m:Mem} (h:Fits s m) {x i:Int} (hx:0≤x∧x < s.c) (hi:0≤i∧i < s.m):m.has (magIx s.p s.c s.m x i):=by rw [(h.mag hx hi).1];exact (h.mag hx hi).2
theorem Fits.slotA {s:Sh} {m:Mem} (h:Fits s m) {x i:Int} (hx:0≤x∧x < s.p) (hi:0≤i∧i < 16):m.has (slotIx s.p s.c s.m x i):=by rw [(h.slot hx hi).1];exact (h.slot hx hi).2
theorem Fits.pageA {s:Sh} {m:Mem} (h:Fits s m) {x:Int} (hx:0≤x∧x < s.p):m.has (pageIx s.p s.c s.m x):=by rw [(h.page hx).1];exact (h.page hx).2
theorem Fits.statusA {s:Sh} {m:Mem} (h:Fits s m) {x:Int} (hx:0≤x∧x < s.c):m.has (statusIx s.p s.c s.m x):=by rw [(h.status hx).1];exact (h.status hx).2
theorem word0:(0:Int)≤0∧(0:Int) < 18446744073709551616:=by decide
theorem openW_u64 (k:Int):0≤openW k∧openW k < 18446744073709551616:=slotV_u64 _ _
theorem wayW_u64 (k:Int):0≤wayW k∧wayW k < 18446744073709551616:=slotV_u64 _ _
theorem takenW_u64 (k:Int):0≤takenW k∧takenW k < 18446744073709551616:=slotV_u64 _ _
theorem heldW_u64 (k:Int):0≤heldW k∧heldW k < 18446744073709551616:=pageV_u64 _ _ _
def tkLeft (s:Sh) (t:Tk):Int:=if t.done=true then 0 else if t.hit=true then 1 else s.m - t.i + 1
theorem tk_pos {s:Sh} {t:Tk} (h:tkOk s t) (hd:t.done=false):1≤tkLeft s t:=by
 have:=h.cl hd
 unfold tkLeft
 rw [if_neg (by rw [hd];decide)]
 split <;> omega
theorem tk_step {s:Sh} {t:Tk} {m:Mem} (h:tkOk s t) (hd:t.done=false) (hf:Fits s m):Acts t.c m (tkStep s t m).2∧(tkStep s t m).1.c=t.c∧tkLeft s (tkStep s t m).1 + 1≤tkLeft s t:=by
 have hc:=h.cl hd
 have hm:=hf.magA hc.1 hc.2
 have hnd:¬ t.done=true:=by rw [hd];decide
 unfold tkStep tkLeft
 dsimp only
 rw [if_neg hnd]
 by_cases hh:t.hit=true
 ·rw [if_pos hh]
  refine ⟨.store hm word0,rfl,?_⟩
  simp only [if_true,hh,hd,Bool.false_eq_true,if_false]
  omega
 ·rw [if_neg hh]
  split
  ·refine ⟨.load hm,rfl,?_⟩
   simp only [if_true,hh,hd,Bool.false_eq_true,if_false]
   omega
  ·refine ⟨.load hm,rfl,?_⟩
   simp only [hh,hd,Bool.false_eq_true,if_false,decide_eq_true_eq]
   split <;> omega
theorem tk_new (s:Sh) (c k:Int) (hm:0≤s.m):tkLeft s (tkNew s c k)≤s.m + 1∧(tkNew s c k).c=c:=by
 refine ⟨?_,rfl⟩
 unfold tkLeft tkNew
 dsimp only
 split
 ·omega
 ·rw [if_neg (by decide)];omega
theorem tk_nonneg {s:Sh} {t:Tk} (h:tkOk s t):0≤tkLeft s t:=by
 rcases Bool.eq_false_or_eq_true t.done with hd | hd
 ·unfold tkLeft;rw [if_pos hd];omega
 ·have:=tk_pos h hd;omega
def puLeft (s:Sh) (t:Pu):Int:=if t.done=true then 0 else if t.hit=true then 1 else s.m - t.i + 1
theorem pu_pos {s:Sh} {t:Pu} (h:puOk s t) (hd:t.done=false):1≤puLeft s t:=by
 have:=h.cl hd
 unfold puLeft
 rw [if_neg (by rw [hd];decide)]
 split <;> omega
theorem pu_step {s:Sh} {t:Pu} {m:Mem} (h:puOk s t) (hd:t.done=false) (hf:Fits s m):Acts t.c m (puStep s t m).2∧(puStep s t m).1.c=t.c∧puLeft s (puStep s t m).1 + 1≤puLeft s t:=by
 have hc:=h.cl hd
 have hm:=hf.magA hc.1 hc.2
 have hnd:¬ t.done=true:=by rw [hd];decide
 unfold puStep puLeft
 dsimp only
 rw [if_neg hnd]
 by_cases hh:t.hit=true
 ·rw [if_pos hh]
  refine ⟨.store hm (putV_u64 _ _ (by decide) (by simp)),rfl,?_⟩
  simp only [if_true,hh,hd,Bool.false_eq_true,if_false]
  omega
 ·rw [if_neg hh]
  split
  ·refine ⟨.load hm,rfl,?_⟩
   simp only [if_true,hh,hd,Bool.false_eq_true,if_false]
   omega
  ·refine ⟨.load hm,rfl,?_⟩
   simp only [hh,hd,Bool.false_eq_true,if_false,decide_eq_true_eq]
   split <;> omega
theorem pu_new (s:Sh) (c pg sl k:Int) (hm:0≤s.m):puLeft s (puNew s c pg sl k)≤s.m + 1∧(puNew s c pg sl k).c=c:=by
 refine ⟨?_,rfl⟩
 unfold puLeft puNew
 dsimp only
 split
 ·omega
 ·rw [if_neg (by decide)];omega
theorem pu_nonneg {s:Sh} {t:Pu} (h:puOk s t):0≤puLeft s t:=by
 rcases Bool.eq_false_or_eq_true t.done with hd | hd
 ·unfold puLeft;rw [if_pos hd];omega
 ·have:=pu_pos h hd;omega
def scLeft (s:Sh) (t:Sc):Int:=if t.done=true then 0 else (s.p - t.many - 1) * 33 + (if t.next=0 then 33 else if t.next=1 then 2 * (slotsV t.k - t.i) else 2 * (slotsV t.k - t.i) - 1)
theorem sc_pos {s:Sh} {t:Sc} (h:scOk s t) (hd:t.done=false):1≤scLeft s t:=by
 have:=h.cl hd
 unfold scLeft
 rw [if_neg (by rw [hd];decide)]
 split <;> (try split) <;> omega
theorem sc_turn {s:Sh} {t:Sc} (h:t.many < s.p):scLeft s (t.turn s)≤(s.p - t.many - 1) * 33∧(t.turn s).c=t.c:=by
 refine ⟨?_,rfl⟩
 unfold scLeft Sc.turn
 dsimp only
 simp only [decide_eq_true_eq,if_true]
 split <;> omega
theorem sc_miss {s:Sh} {t:Sc} (hd:t.done=false) (h:t.many < s.p) (hi:t.i < slotsV t.k):scLeft s (t.miss s)≤(s.p - t.many - 1) * 33 + 2 * (slotsV t.k - t.i) - 2∧(t.miss s).c=t.c:=by
 unfold Sc.miss
 split
 ·have:=sc_turn (t:= { t with i:=t.i + 1,next:=1 }) h
  dsimp only at this
  exact ⟨by omega,this.2⟩
 ·refine ⟨?_,rfl⟩
  unfold scLeft
  dsimp only
  rw [if_neg (by rw [hd];decide),if_neg (by decide),if_pos rfl]
  omega
theorem sc_step {s:Sh} {t:Sc} {m:Mem} (h:scOk s t) (hd:t.done=false) (hf:Fits s m):Acts t.c m (scStep s t m).2∧(scStep s t m).1.c=t.c∧scLeft s (scStep s t m).1 + 1≤scLeft s t:=by
 obtain ⟨hc,hk,hfi,hma,hi,hn⟩:=h.cl hd
 have hsl:=slotsV_ok hk
 have hpg:0≤t.page s∧t.page s < s.p:=⟨Int.emod_nonneg _ (by omega),Int.emod_lt_of_pos _ (by omega)⟩
 have hm1:=hf.pageA hpg
 have hm2:=hf.slotA (i:=t.i) hpg (by omega)
 have hnd:¬ t.done=true:=by rw [hd];decide
 have ht:=sc_turn (t:=t) (s:=s) hma.2
 have hmi:=sc_miss (t:=t) (s:=s) hd hma.2 hi.2
 have hL:scLeft s t=(s.p - t.many - 1) * 33 + (if t.next=0 then 33 else if t.next=1 then 2 * (slotsV t.k - t.i) else 2 * (slotsV t.k - t.i) - 1):=by unfold scLeft;rw [if_neg hnd]
 rw [hL]
 unfold scStep
 dsimp only
 rw [if_neg hnd]
 by_cases n0:t.next=0
 ·rw [if_pos n0,if_pos n0]
  dsimp only
  refine ⟨.load hm1,?_,?_⟩
  ·split
   ·rfl
   ·exact ht.2
  ·split
   ·unfold scLeft
    dsimp only
    rw [if_neg hnd,if_neg (by decide),if_pos rfl]
    omega
   ·omega
 ·rw [if_neg n0,if_neg n0]
  by_cases n1:t.next=1
  ·rw [if_pos n1,if_pos n1]
   dsimp only
   refine ⟨.load hm2,?_,?_⟩
   ·split
    ·rfl
    ·exact hmi.2
   ·split
    ·unfold scLeft
     dsimp only
     rw [if_neg hnd,if_neg (by decide),if_neg (by decide)]
     omega
    ·omega
  ·rw [if_neg n1,if_neg n1]
   dsimp only
   refine ⟨.swap hm2 (wayW_u64 _),?_,?_⟩
   ·split
    ·rfl
    ·exact hmi.2
   ·split
    ·unfold scLeft
     dsimp only
     rw [if_pos rfl]
     omega
    ·omega
theorem sc_new (s:Sh) (c k f:Int) (hp:1≤s.p):scLeft s (scNew s c k f)≤33 * s.p∧(scNew s c k f).c=c:=by
 refine ⟨?_,rfl⟩
 unfold scLeft scNew
 dsimp only
 split
 ·omega
 ·rw [if_pos rfl];omega
theorem sc_nonneg {s:Sh} {t:Sc} (h:scOk s t):0≤scLeft s t:=by
 rcases Bool.eq_false_or_eq_true t.done with hd | hd
 ·unfold scLeft;rw [if_pos hd];omega
 ·have:=sc_pos h hd;omega
def pcLeft (s:Sh) (t:Pc):Int:=if t.done=true then 0 else 2 * (s.p - t.many) - (if t.empty=true then 1 else 0)
theorem pc_pos {s:Sh} {t:Pc} (h:pcOk s t) (hd:t.done=false):1≤pcLeft s t:=by
 have:=h.cl hd
 unfold pcLeft
 rw [if_neg (by rw [hd];decide)]
 split <;> omega
theorem pc_step {s:Sh} {t:Pc} {m:Mem} (h:pcOk s t) (hd:t.done=false) (hf:Fits s m):Acts t.c m (pcStep s t m).2∧(pcStep s t m).1.c=t.c∧pcLeft s (pcStep s t m).1 + 1≤pcLeft s t:=by
 obtain ⟨hc,hfi,hma⟩:=h.cl hd
 have hpg:0≤t.page s∧t.page s < s.p:=⟨Int.emod_nonneg _ (by omega),Int.emod_lt_of_pos _ (by omega)⟩
 have hm1:=hf.pageA hpg
 have hnd:¬ t.done=true:=by rw [hd];decide
 have hL:pcLeft s t=2 * (s.p - t.many) - (if t.empty=true then 1 else 0):=by unfold pcLeft;rw [if_neg hnd]
 rw [hL]
 unfold pcStep
 dsimp only
 rw [if_neg hnd]
 cases he:t.empty
 ·rw [if_pos rfl]
  dsimp only
  refine ⟨.load hm1,?_,?_⟩
  ·split <;> rfl
  ·split
   ·unfold pcLeft
    dsimp only
    rw [if_neg hnd,if_pos rfl,if_neg (by decide)]
    omega
   ·unfold pcLeft
    dsimp only
    simp only [decide_eq_true_eq,Bool.false_eq_true,if_false]
    split <;> omega
 ·rw [if_neg (by decide)]
  dsimp only
  refine ⟨.swap hm1 (heldW_u64 _),?_,?_⟩
  ·split <;> rfl
  ·split
   ·unfold pcLeft
    dsimp only
    simp only [if_true]
    omega
   ·unfold pcLeft
    dsimp only
    simp only [decide_eq_true_eq,Bool.false_eq_true,if_false,if_true]
    split <;> omega
theorem pc_new (s:Sh) (c f:Int) (hp:1≤s.p):pcLeft s (pcNew s c f)≤2 * s.p∧(pcNew s c f).c=c:=by
 refine ⟨?_,rfl⟩
 unfold pcLeft pcNew
 dsimp only
 split
 ·omega
 ·rw [if_neg (by decide)];omega
theorem pc_nonneg {s:Sh} {t:Pc} (h:pcOk s t):0≤pcLeft s t:=by
 rcases Bool.eq_false_or_eq_true t.done with hd | hd
 ·unfold pcLeft;rw [if_pos hd];omega
 ·have:=pc_pos h hd;omega
def spLeft (t:Sp):Int:=if t.done=true then 0 else if t.back=true then t.i else 2 * slotsV t.k - t.i - 1
theorem sp_pos {s:Sh} {t:Sp} (h:spOk s t) (hd:t.done=false):1≤spLeft t:=by
 have:=h.cl hd
 have h2:=slotsV_ok this.2.2.1
 unfold spLeft
 rw [if_neg (by rw [hd];decide)]
 split
 ·rename_i hb
  have:=this.2.2.2.2 hb
  omega
 ·omega
theorem sp_step {s:Sh} {t:Sp} {m:Mem} (h:spOk s t) (hd:t.done=false) (hf:Fits s m):Acts t.c m (spStep s t m).2∧(spStep s t m).1.c=t.c∧spLeft (spStep s t m).1 + 1≤spLeft t:=by
 obtain ⟨hc,hpg,hk,hi,hb⟩:=h.cl hd
 have hsl:=slotsV_ok hk
 have hm1:=hf.pageA hpg
 have hnd:¬ t.done=true:=by rw [hd];decide
 have hL:spLeft t=if t.back=true then t.i else 2 * slotsV t.k - t.i - 1:=by unfold spLeft;rw [if_neg hnd]
 rw [hL]
 unfold spStep
 rw [if_neg hnd]
 by_cases hbk:t.back=true
 ·have hb:=hb hbk
  have hm2:=hf.slotA (i:=t.i - 1) hpg (by omega)
  rw [if_pos hbk,if_pos hbk]
  refine ⟨.store hm2 (openW_u64 _),rfl,?_⟩
  unfold spLeft
  dsimp only
  simp only [decide_eq_true_eq,hbk,if_true]
  split <;> omega
 ·rw [if_neg hbk,if_neg hbk]
  by_cases hn:t.i=slotsV t.k
  ·rw [if_pos hn]
   refine ⟨.store hm1 (heldW_u64 _),rfl,?_⟩
   unfold spLeft
   dsimp only
   rw [if_pos rfl]
   omega
  ·have hm2:=hf.slotA (i:=t.i) hpg (by omega)
   rw [if_neg hn]
   dsimp only
   refine ⟨.swap hm2 (wayW_u64 _),?_,?_⟩
   ·split <;> rfl
   ·split
    ·unfold spLeft
     dsimp only
     rw [if_neg hnd,if_neg hbk]
     omega
    ·unfold spLeft
     dsimp only
     simp only [decide_eq_true_eq,if_true]
     split <;> omega
theorem sp_new (s:Sh) (c pg k:Int):spLeft (spNew s c pg k)≤31∧(spNew s c pg k).c=c:=by
 refine ⟨?_,rfl⟩
 unfold spLeft spNew
 dsimp only
 split
 ·omega
 ·rename_i h
  have h:0 < slotsV k:=by
   by_cases hk:0 < slotsV k
   ·exact hk
   ·simp [hk] at h
  have:=slotsV_ok h
  rw [if_neg (by decide)];omega
theorem sp_nonneg {s:Sh} {t:Sp} (h:spOk s t):0≤spLeft t:=by
 rcases Bool.eq_false_or_eq_true t.done with hd | hd
 ·unfold spLeft;rw [if_pos hd];omega
 ·have:=sp_pos h hd;omega
def bnLeft (t:Bn):Int:=if t.done=true then 0 else if t.bound=true then t.i else 16 - t.i + slotsV t.k
theorem bn_pos {s:Sh} {t:Bn} (h:bnOk s t) (hd:t.done=false):1≤bnLeft t:=by
 have:=h.cl hd
 unfold bnLeft
 rw [if_neg (by rw [hd];decide)]
 split
 ·rename_i hb
  have:=this.2.2.2.2 hb
  omega
 ·omega
theorem bn_step {s:Sh} {t:Bn} {m:Mem} (h:bnOk s t) (hd:t.done=false) (hf:Fits s m):Acts t.c m (bnStep s t m).2∧(bnStep s t m).1.c=t.c∧bnLeft (bnStep s t m).1 + 1≤bnLeft t:=by
 obtain ⟨hc,hpg,hk,hi,hb⟩:=h.cl hd
 have hsl:=slotsV_ok hk
 have hm1:=hf.pageA hpg
 have hnd:¬ t.done=true:=by rw [hd];decide
 have hL:bnLeft t=if t.bound=true then t.i else 16 - t.i + slotsV t.k:=by unfold bnLeft;rw [if_neg hnd]
 rw [hL]
 unfold bnStep
 rw [if_neg hnd]
 by_cases hbk:t.bound=true
 ·have hb:=hb hbk
  have hm2:=hf.slotA (i:=t.i) hpg (by omega)
  rw [if_pos hbk,if_pos hbk]
  refine ⟨.store hm2 (openW_u64 _),rfl,?_⟩
  unfold bnLeft
  dsimp only
  simp only [decide_eq_true_eq,hbk,if_true]
  split <;> omega
 ·rw [if_neg hbk,if_neg hbk]
  by_cases hn:t.i=16
  ·rw [if_pos hn]
   refine ⟨.store hm1 (pageV_u64 _ _ _),rfl,?_⟩
   unfold bnLeft
   dsimp only
   rw [if_neg hnd,if_pos rfl]
   omega
  ·have hm2:=hf.slotA (i:=t.i) hpg (by omega)
   rw [if_neg hn]
   refine ⟨.store hm2 ?_,rfl,?_⟩
   ·split
    ·exact wayW_u64 _
    ·exact word0
   ·unfold bnLeft
    dsimp only
    rw [if_neg hnd,if_neg hbk]
    omega
theorem bn_new (s:Sh) (c pg k:Int):bnLeft (bnNew s c pg k)≤32∧(bnNew s c pg k).c=c:=by
 refine ⟨?_,rfl⟩
 unfold bnLeft bnNew
 dsimp only
 split
 ·omega
 ·rename_i h
  have h:0 < slotsV k:=by
   by_cases hk:0 < slotsV k
   ·exact hk
   ·simp [hk] at h
  have:=slotsV_ok h
  rw [if_neg (by decide)];omega
theorem bn_nonneg {s:Sh} {t:Bn} (h:bnOk s t):0≤bnLeft t:=by
 rcases Bool.eq_false_or_eq_true t.done with hd | hd
 ·unfold bnLeft;rw [if_pos hd];omega
 ·have:=bn_pos h hd;omega
end Go.Proofs.YtampacmmhhilaaaGreat
/- A client's jobs, plain: Malloc, Free, Realloc, Adopt as one machine. -/
namespace Go.Proofs.YtampacmmhhilaaaGreat
inductive Jb where
 | mal (r:Rs) (c:Option Cm)
 | fre (f:Fe)
 | aga (r:Rr)
 | hei (a:Ad)
 deriving DecidableEq
def cmEnded (c:Option Cm):Bool:=match c with | some x=> x.done | none=> false
def Jb.done:Jb→Bool
 | .mal r c=> r.done && (!r.got.isSome || cmEnded c)
 | .fre f=> f.done
 | .aga r=> r.done
 | .hei a=> a.done
/-- The Committer that a Malloc steps: made once the block is found. -/
def malCom (s:Sh) (cl:Int) (r:Rs) (c:Option Cm):Option Cm:=match c,r.got with
 | none,some b=> some (cmNew s cl b)
 | c,_=> c
def Jb.step (s:Sh) (cl:Int) (m:Mem):Jb→Jb × Mem
 | .mal r c=> if r.done=false then (.mal (rsStep s r m).1 c,(rsStep s r m).2) else match malCom s cl r c with
  | some x=> (.mal r (some (cmStep s x m).1),(cmStep s x m).2)
  | none=> (.mal r none,m)
 | .fre f=> (.fre (feStep s f m).1,(feStep s f m).2)
 | .aga r=> (.aga (rrStep s r m).1,(rrStep s r m).2)
 | .hei a=> (.hei (adStep s a m).1,(adStep s a m).2)
def Jb.gave:Jb→Bool
 | .mal _ _=> false
 | .fre f=> f.gave
 | .aga r=> (match r.free with | some f=> f.gave | none=> false)
 | .hei _=> false
def Jb.took:Jb→Option Blk
 | .mal r c=> if cmEnded c=true then r.got else none
 | .fre _=> none
 | .aga r=> if r.done=true∧r.err=0 then (match r.res with | some x=> x.got | none=> none) else none
 | .hei _=> none
def Jb.err:Jb→Int
 | .mal r _=> if r.got.isSome=true then 0 else 3
 | .fre f=> if f.gave=true then 0 else 1
 | .aga r=> r.err
 | .hei a=> a.err
/-- The job of an operation: 1 Malloc, 2 Free, 3 Realloc, else Adopt. -/
def jbNew (s:Sh) (cl first kind a n:Int):Jb:=
 if kind=1 then .mal (rsNew s cl n first) none
 else if kind=2 then .fre (feNew s cl a)
 else if kind=3 then .aga (rrNew s cl a n first)
 else .hei (adNew s cl a)
end Go.Proofs.YtampacmmhhilaaaGreat
/- How many accesses the machines that are made of others do at most, and that a step is one access of their client's. Plain. -/
namespace Go.Proofs.YtampacmmhhilaaaGreat

def mcC:Mc→Int
 | .tk t=> t.c
 | .sc t=> t.c
 | .pc t=> t.c
 | .sp t=> t.c
 | .bn t=> t.c
def mcLeft (s:Sh):Mc→Int
 | .tk t=> tkLeft s t
 | .sc t=> scLeft s t
 | .pc t=> pcLeft s t
 | .sp t=> spLeft t
 | .bn t=> bnLeft t
def mcRest (s:Sh) (t:Sk):Mc→Int
 | .tk _=> 67 * s.p + 32
 | .sc _=> 34 * s.p + 32
 | .pc _=> 32 * s.p + 32
 | .sp _=> 32 * (s.p - t.many - 1) + 32
 | .bn _=> 0
theorem mc_step {s:Sh} {x:Mc} {m:Mem} (h:mcOk s x) (hd:x.done=false) (hf:Fits s m):Acts (mcC x) m (mcStep s x m).2∧mcC (mcStep s x m).1=mcC x∧mcLeft s (mcStep s x m).1 + 1≤mcLeft s x:=by
 cases x with
 | tk t=> exact tk_step h hd hf
 | sc t=> exact sc_step h hd hf
 | pc t=> exact pc_step h hd hf
 | sp t=> exact sp_step h hd hf
 | bn t=> exact bn_step h hd hf
theorem mc_rest (s:Sh) (t:Sk) (x:Mc) (m:Mem):mcRest s t (mcStep s x m).1=mcRest s t x:=by cases x <;> rfl
theorem mc_nonneg {s:Sh} {x:Mc} (h:mcOk s x):0≤mcLeft s x:=by
 cases x with
 | tk t=> exact tk_nonneg h
 | sc t=> exact sc_nonneg h
 | pc t=> exact pc_nonneg h
 | sp t=> exact sp_nonneg h
 | bn t=> exact bn_nonneg h
def skLeft (s:Sh) (t:Sk):Int:=if t.done=true then 0 else match t.now with
 | none=> 32 * (s.p - t.many) + 32
 | some x=> mcLeft s x + mcRest s t x
/-- What a Seeker keeps, of a client and a class. -/
structure skIs (s:Sh) (cl k:Int) (t:Sk):Prop where
 ok:skOk s t
 c:t.c=cl
 k:t.k=k
 now:∀ x,t.now=some x→mcC x=cl
theorem skIs_fin {s:Sh} {cl k:Int} {t:Sk} (h:skIs s cl k t) {pg sl:Int} (h2:skOk s (t.fin pg sl)):skIs s cl k (t.fin pg sl):=⟨h2,h.c,h.k,h.now⟩
theorem sk_after {s:Sh} {cl k:Int} {t:Sk} {x:Mc} (h:skIs s cl k t) (hd:t.done=false) (hx:t.now=some x) (hxd:x.done=true) (hp:1≤s.p):skIs s cl k (t.after s x)∧skLeft s (t.after s x)≤skLeft s t:=by
 have ho:=skAfter_ok h.ok hd hx hxd hp
 obtain ⟨c1,c2,c3,c4,c5⟩:=h.ok.cl hd
 have hxo:=mc_nonneg (c5 x hx).1
 have hL:skLeft s t=mcLeft s x + mcRest s t x:=by unfold skLeft;rw [if_neg (by rw [hd];decide),hx]
 rw [hL]
 have fin0:∀ pg sl,skLeft s (t.fin pg sl)=0:=fun _ _=> rfl
 have bind1:∀ p,skLeft s (t.bind s p)≤32:=fun p=> by
  have:=(bn_new s t.c p t.k).1
  unfold skLeft Sk.bind
  dsimp only [mcLeft,mcRest]
  rw [if_neg (by rw [hd];decide)]
  omega
 have bindIs:∀ p,skOk s (t.bind s p)→skIs s cl k (t.bind s p):=fun p ho=> ⟨ho,h.c,h.k,fun y hy=> by
  simp only [Sk.bind,Option.some.injEq] at hy
  subst hy
  exact h.c⟩
 have turn1:skLeft s (t.turn s)≤32 * (s.p - t.many - 1) + 32:=by
  unfold skLeft Sk.turn
  dsimp only
  simp only [decide_eq_true_eq]
  split <;> omega
 cases x with
 | tk y=>
  simp only [Sk.after] at ho ⊢
  split at ho <;> rename_i hq
  ·rw [if_pos hq]
   refine ⟨skIs_fin h ho,?_⟩
   rw [fin0]
   have:mcRest s t (.tk y)=67 * s.p + 32:=rfl
   omega
  ·rw [if_neg hq]
   refine ⟨⟨ho,h.c,h.k,fun z hz=> ?_⟩,?_⟩
   ·simp only [Option.some.injEq] at hz
    subst hz
    exact h.c
   ·have:=(sc_new s t.c t.k t.first hp).1
    unfold skLeft
    dsimp only [mcLeft,mcRest] at hxo ⊢
    rw [if_neg (by rw [hd];decide)]
    omega
 | sc y=>
  simp only [Sk.after] at ho ⊢
  split at ho <;> rename_i hq
  ·rw [if_pos hq]
   refine ⟨skIs_fin h ho,?_⟩
   rw [fin0]
   have:mcRest s t (.sc y)=34 * s.p + 32:=rfl
   omega
  ·rw [if_neg hq]
   refine ⟨⟨ho,h.c,h.k,fun z hz=> ?_⟩,?_⟩
   ·simp only [Option.some.injEq] at hz
    subst hz
    exact h.c
   ·have:=(pc_new s t.c t.first hp).1
    unfold skLeft
    dsimp only [mcLeft,mcRest] at hxo ⊢
    rw [if_neg (by rw [hd];decide)]
    omega
 | pc y=>
  simp only [Sk.after] at ho ⊢
  split at ho <;> rename_i hq
  ·rw [if_pos hq]
   refine ⟨bindIs _ ho,?_⟩
   have h1:=bind1 (y.page s)
   have:mcRest s t (.pc y)=32 * s.p + 32:=rfl
   omega
  ·rw [if_neg hq]
   refine ⟨⟨ho,h.c,h.k,fun z hz=> (by cases hz)⟩,?_⟩
   unfold skLeft
   dsimp only [mcLeft,mcRest] at hxo ⊢
   rw [if_neg (by rw [hd];decide)]
   omega
 | sp y=>
  simp only [Sk.after] at ho ⊢
  have hr:mcRest s t (.sp y)=32 * (s.p - t.many - 1) + 32:=rfl
  split at ho <;> rename_i hq
  ·rw [if_pos hq]
   refine ⟨bindIs _ ho,?_⟩
   have h1:=bind1 (t.here s)
   omega
  ·rw [if_neg hq]
   refine ⟨⟨ho,h.c,h.k,fun z hz=> (by cases hz)⟩,?_⟩
   omega
 | bn y=>
  simp only [Sk.after] at ho ⊢
  refine ⟨skIs_fin h ho,?_⟩
  rw [fin0]
  have:mcRest s t (.bn y)=0:=rfl
  omega
theorem sk_settle {s:Sh} {cl k:Int} (hp:1≤s.p) (n:Nat):∀ {t:Sk},skIs s cl k t→skIs s cl k (skSettle s n t)∧skLeft s (skSettle s n t)≤skLeft s t:=by
 induction n with
 | zero=> intro t h;exact ⟨h,Int.le_refl _⟩
 | succ n ih=>
  intro t h
  unfold skSettle
  split
  ·rename_i x hx
   split
   ·rename_i hc
    have h1:=sk_after h hc.1 hx hc.2 hp
    have h2:=ih h1.1
    exact ⟨h2.1,Int.le_trans h2.2 h1.2⟩
   ·exact ⟨h,Int.le_refl _⟩
  ·exact ⟨h,Int.le_refl _⟩
/-- A Seeker is never at a machine that is done. -/
def skSet (t:Sk):Prop:=t.done=true∨t.now=none∨∃ x,t.now=some x∧x.done=false
theorem sk_settled {s:Sh} (n:Nat):∀ {t:Sk},skRank t≤n→skSet (skSettle s n t):=by
 induction n with
 | zero=>
  intro t h
  unfold skRank at h
  unfold skSettle
  split at h
  ·rename_i hd;exact .inl hd
  ·split at h <;> rename_i hn <;> first | exact .inr (.inl hn) | omega
 | succ n ih=>
  intro t h
  unfold skSettle
  split
  ·rename_i x hx
   split
   ·rename_i hc
    have:=skAfter_rank (s:=s) hc.1 hx
    exact ih (by omega)
   ·rename_i hc
    rcases Bool.eq_false_or_eq_true t.done with hd | hd
    ·exact .inl hd
    ·rcases Bool.eq_false_or_eq_true x.done with hxd | hxd
     ·exact absurd ⟨hd,hxd⟩ hc
     ·exact .inr (.inr ⟨x,hx,hxd⟩)
  ·rename_i hx
   exact .inr (.inl hx)
theorem sk_settled5 (s:Sh) (t:Sk):skSet (skSettle s 5 t):=sk_settled 5 (Nat.le_trans (skRank_le t) (by decide))
theorem sk_nonneg {s:Sh} {t:Sk} (h:skOk s t):0≤skLeft s t:=by
 unfold skLeft
 split
 ·omega
 ·rename_i hd
  obtain ⟨c1,c2,c3,c4,c5⟩:=h.cl (by simpa using hd)
  split
  ·omega
  ·rename_i x hx
   have h1:=mc_nonneg (c5 x hx).1
   have:0≤mcRest s t x:=by cases x <;> dsimp only [mcRest] <;> omega
   omega
theorem sk_new {s:Sh} (c k f:Int) (hm:mayB s.p s.c s.m=true):skIs s c k (skNew s c k f)∧skSet (skNew s c k f)∧skLeft s (skNew s c k f)≤67 * s.p + s.m + 33:=by
 have hb:=mayB_iff.1 hm
 have ho:=skNew_ok s c k f
 unfold skNew at ho ⊢
 split at ho
 ·rename_i h
  rw [if_pos h]
  have h0:skIs s c k ⟨c,k,f,some (.tk (tkNew s c k)),0,0,0,false,false⟩:=by
   have h1:=statusIx_ok h.1
   have h3:=pageIx_ok h.2.2
   refine ⟨⟨fun _=> ⟨by dsimp only;omega,h.2.1,by dsimp only;omega,by dsimp only;omega,fun x hx=> ?_⟩,fun e=> (by cases e)⟩,rfl,rfl,fun x hx=> ?_⟩
   ·simp only [Option.some.injEq] at hx
    subst hx
    exact ⟨tkNew_ok _ _ _,rfl⟩
   ·simp only [Option.some.injEq] at hx
    subst hx
    rfl
  have h1:=sk_settle (by omega) 5 h0
  refine ⟨h1.1,sk_settled5 _ _,Int.le_trans h1.2 ?_⟩
  have:=(tk_new s c k (by omega)).1
  unfold skLeft
  dsimp only [mcLeft,mcRest]
  rw [if_neg (by decide)]
  omega
 ·rename_i h
  rw [if_neg h]
  refine ⟨⟨ho,rfl,rfl,fun x hx=> (by cases hx)⟩, .inl rfl,?_⟩
  unfold skLeft
  dsimp only
  rw [if_pos rfl]
  omega
theorem sk_step {s:Sh} {cl k:Int} {t:Sk} {m:Mem} (h:skIs s cl k t) (hs:skSet t) (hd:t.done=false) (hf:Fits s m):Acts cl m (skStep s t m).2∧skIs s cl k (skStep s t m).1∧skSet (skStep s t m).1∧skLeft s (skStep s t m).1 + 1≤skLeft s t:=by
 have hp:1≤s.p:=hf.bd.1
 obtain ⟨c1,c2,c3,c4,c5⟩:=h.ok.cl hd
 have hnf:=not_found h.ok.fd hd
 have hL:skLeft s t=match t.now with
  | none=> 32 * (s.p - t.many) + 32
  | some x=> mcLeft s x + mcRest s t x:=by unfold skLeft;rw [if_neg (by rw [hd];decide)]
 have ho:=skStep_ok m hp h.ok
 unfold skStep at ho ⊢
 rw [if_neg (by rw [hd];decide)] at ho ⊢
 rcases hs with hs | hs | ⟨x,hx,hxd⟩
 ·rw [hd] at hs;cases hs
 ·rw [hs] at ho hL ⊢
  dsimp only at ho hL ⊢
  have hh:=t.here_in hp
  refine ⟨(Acts.load (hf.pageA hh)).of h.c,?_⟩
  split at ho <;> rename_i hq
  ·rw [if_pos hq]
   refine ⟨⟨ho,h.c,h.k,fun z hz=> ?_⟩, .inr (.inr ⟨_,rfl,?_⟩),?_⟩
   ·simp only [Option.some.injEq] at hz
    subst hz
    exact h.c
   ·have h1:=(readPageB_iff.1 hq.1).2.1
    have h2:=pageIx_ok h1
    have h3:=(readPage_super hq.1 hq.2).2.2
    have h4:0≤statusIx s.p s.c s.m t.c:=by
     unfold statusIx
     rw [if_pos ⟨h2.1,wi_iff.2 (by omega)⟩]
     exact c1.1
    simp [Mc.done,spNew,h1,h3,h4]
   ·rw [hL]
    have:=(sp_new s t.c (t.here s) (partV (m.get (pageIx s.p s.c s.m (t.here s))) 0)).1
    unfold skLeft
    dsimp only [mcLeft,mcRest]
    rw [if_neg (by rw [hd];decide)]
    omega
  ·rw [if_neg hq]
   refine ⟨⟨ho,h.c,h.k,fun z hz=> (by cases hz)⟩, .inr (.inl rfl),?_⟩
   rw [hL]
   unfold skLeft Sk.turn
   dsimp only
   simp only [decide_eq_true_eq]
   split <;> omega
 ·rw [hx] at ho hL ⊢
  dsimp only at ho hL ⊢
  have h1:=mc_step (c5 x hx).1 hxd hf
  have hc:=h.now x hx
  have h0:skIs s cl k { t with now:=some (mcStep s x m).1 }:=by
   refine ⟨⟨fun _=> ⟨c1,c2,c3,c4,fun z hz=> ?_⟩,fun e=> (by have e:t.found=true:=e;rw [hnf] at e;cases e)⟩,h.c,h.k,fun z hz=> ?_⟩
   ·simp only [Option.some.injEq] at hz
    subst hz
    exact ⟨mcStep_ok m (c5 x hx).1,mcStep_mine (t:=t) m (c5 x hx).2⟩
   ·simp only [Option.some.injEq] at hz
    subst hz
    exact h1.2.1.trans hc
  have h2:=sk_settle hp 5 h0
  refine ⟨h1.1.of hc,h2.1,sk_settled5 _ _,?_⟩
  have h3:skLeft s { t with now:=some (mcStep s x m).1 }=mcLeft s (mcStep s x m).1 + mcRest s t x:=by
   rw [← mc_rest s t x m]
   unfold skLeft
   rw [if_neg (by rw [hd];decide)]
   cases (mcStep s x m).1 <;> rfl
  omega
def rnLeft (s:Sh) (t:Rn):Int:=if t.done=true then 0
 else if t.next=0 then 50 * (s.p - t.at') + (t.at' - t.head) + 8
 else if t.next=1 then 50 * (s.p - t.at' - 1) + (t.at' - t.head) + 10
 else if t.next=2 then 50 * (s.p - t.at' - 1) + (match t.strip with | some x=> spLeft x | none=> 0) + (t.at' - t.head) + 25
 else if t.next=3 then 50 * (s.p - t.at' - 1) + (16 - t.i) + (t.at' - t.head) + 9
 else if t.next=4 then 50 * (s.p - t.at' - 1) + (t.i - t.head) + 8
 else t.head + t.pages - t.i
/-- What a Runner keeps, of a client and so many pages. -/
structure rnIs (s:Sh) (cl n:Int) (t:Rn):Prop where
 ok:rnOk s t
 c:t.c=cl
 n:t.pages=n
 st:∀ x,t.strip=some x→x.c=cl
theorem rn_pos {s:Sh} {t:Rn} (h:rnOk s t) (hd:t.done=false):1≤rnLeft s t:=by
 obtain ⟨c1,c2,c3,c4,c5,c6,c7,c8,c9,c10⟩:=h.cl hd
 unfold rnLeft
 rw [if_neg (by rw [hd];decide)]
 split
 ·have:=c6 (by omega);omega
 ·split
  ·have:=c6 (by omega);omega
  ·split
   ·rename_i n2
    have:=c6 (by omega)
    obtain ⟨x,hx,hxo,hxd⟩:=c7 n2
    have:=sp_nonneg hxo
    rw [hx];dsimp only;omega
   ·split
    ·rename_i n3
     have:=c6 (by omega)
     have:=c8 n3
     omega
    ·split
     ·rename_i n4
      have:=c6 (by omega)
      have:=c9 n4
      omega
     ·have:=c10 (by omega)
      omega
theorem rn_own {s:Sh} {t:Rn} (hd:t.done=false) (h2:1≤t.pages∧t.pages≤8) (h4:t.head≤t.at'∧t.at' < t.head + t.pages) (h5:t.head + t.pages≤s.p):rnLeft s t.own≤50 * (s.p - t.at' - 1) + (t.at' + 1 - t.head) + 8∧t.own.c=t.c∧t.own.pages=t.pages∧t.own.strip=t.strip:=by
 unfold Rn.own Rn.written
 have hnd:¬ t.done=true:=by rw [hd];decide
 split
 ·dsimp only
  split
  ·refine ⟨?_,rfl,rfl,rfl⟩
   unfold rnLeft
   dsimp only
   rw [if_pos rfl]
   omega
  ·refine ⟨?_,rfl,rfl,rfl⟩
   unfold rnLeft
   dsimp only
   rw [if_neg hnd,if_neg (by decide),if_neg (by decide),if_neg (by decide),if_neg (by decide),if_neg (by decide)]
   omega
 ·refine ⟨?_,rfl,rfl,rfl⟩
  unfold rnLeft
  dsimp only
  rw [if_neg hnd,if_pos rfl]
  omega
theorem rn_gone {s:Sh} {t:Rn} (hd:t.done=false) (h5:t.next=4) (h2:t.pages≤s.p) (h6:t.at' < s.p) (h7:t.head≤t.i):rnLeft s (t.gone s)≤50 * (s.p - t.at' - 1) + (t.i - t.head) + 8∧(t.gone s).c=t.c∧(t.gone s).pages=t.pages∧(t.gone s).strip=t.strip:=by
 unfold Rn.gone
 have hnd:¬ t.done=true:=by rw [hd];decide
 split
 ·refine ⟨?_,rfl,rfl,rfl⟩
  unfold rnLeft
  rw [if_neg hnd,if_neg (by omega),if_neg (by omega),if_neg (by omega),if_neg (by omega),if_pos h5]
  omega
 ·refine ⟨?_,rfl,rfl,rfl⟩
  unfold rnLeft
  dsimp only
  simp only [decide_eq_true_eq,if_true]
  split <;> omega
theorem rn_miss {s:Sh} {t:Rn} (hd:t.done=false) (h2:t.pages≤s.p) (h4:t.head≤t.at') (h6:t.at' < s.p):rnLeft s (t.miss s)≤50 * (s.p - t.at' - 1) + (t.at' - t.head) + 8∧(t.miss s).c=t.c∧(t.miss s).pages=t.pages∧(t.miss s).strip=t.strip:=
 rn_gone (t:= { t with next:=4,i:=t.at' }) hd rfl h2 h6 h4
theorem rn_step {s:Sh} {cl n:Int} {t:Rn} {m:Mem} (h:rnIs s cl n t) (hd:t.done=false) (hf:Fits s m):Acts cl m (rnStep s t m).2∧rnIs s cl n (rnStep s t m).1∧rnLeft s (rnStep s t m).1 + 1≤rnLeft s t:=by
 obtain ⟨c1,c2,c3,c4,c5,c6,c7,c8,c9,c10⟩:=h.ok.cl hd
 have hnd:¬ t.done=true:=by rw [hd];decide
 have ho:=rnStep_ok m h.ok
 have hL:rnLeft s t=if t.next=0 then 50 * (s.p - t.at') + (t.at' - t.head) + 8
  else if t.next=1 then 50 * (s.p - t.at' - 1) + (t.at' - t.head) + 10
  else if t.next=2 then 50 * (s.p - t.at' - 1) + (match t.strip with | some x=> spLeft x | none=> 0) + (t.at' - t.head) + 25
  else if t.next=3 then 50 * (s.p - t.at' - 1) + (16 - t.i) + (t.at' - t.head) + 9
  else if t.next=4 then 50 * (s.p - t.at' - 1) + (t.i - t.head) + 8
  else t.head + t.pages - t.i:=by unfold rnLeft;rw [if_neg hnd]
 have is:∀ u:Rn,rnOk s u→u.c=t.c→u.pages=t.pages→(u.strip=t.strip∨∃ x,u.strip=some x∧x.c=t.c)→rnIs s cl n u:=fun u ho e1 e2 e3=> ⟨ho,e1.trans h.c,e2.trans h.n,fun x hx=> by
  rcases e3 with e3 | ⟨y,e3,e4⟩
  ·exact h.st x (e3 ▸ hx)
  ·rw [e3] at hx;injection hx with hx;subst hx;exact e4.trans h.c⟩
 rw [hL]
 unfold rnStep at ho ⊢
 dsimp only at ho ⊢
 rw [if_neg hnd] at ho ⊢
 by_cases n0:t.next=0
 ·have c6:=c6 (by omega)
  have hm:=hf.pageA (x:=t.at') (by omega)
  have hmi:=rn_miss (s:=s) hd (by omega) c4.1 (by omega)
  rw [if_pos n0] at ho ⊢
  rw [if_pos n0]
  dsimp only at ho ⊢
  refine ⟨(Acts.load hm).of h.c,?_⟩
  split at ho <;> rename_i h1
  ·rw [if_pos h1]
   refine ⟨is _ ho rfl rfl (.inl rfl),?_⟩
   unfold rnLeft
   dsimp only
   rw [if_neg hnd,if_neg (by decide),if_pos rfl]
   omega
  ·rw [if_neg h1]
   split at ho <;> rename_i h2
   ·rw [if_pos h2]
    refine ⟨is _ ho rfl rfl (.inr ⟨_,rfl,rfl⟩),?_⟩
    have:=(sp_new s t.c t.at' (partV (m.get (pageIx s.p s.c s.m t.at')) 0)).1
    unfold rnLeft
    dsimp only
    rw [if_neg hnd,if_neg (by decide),if_neg (by decide),if_pos rfl]
    omega
   ·rw [if_neg h2]
    exact ⟨is _ ho hmi.2.1 hmi.2.2.1 (.inl hmi.2.2.2),by omega⟩
 rw [if_neg n0] at ho ⊢
 rw [if_neg n0]
 by_cases n1:t.next=1
 ·have c6:=c6 (by omega)
  have hm:=hf.pageA (x:=t.at') (by omega)
  have hmi:=rn_miss (s:=s) hd (by omega) c4.1 (by omega)
  have hown:=rn_own (s:=s) hd c2 ⟨c4.1,c6⟩ c3.2
  rw [if_pos n1] at ho ⊢
  rw [if_pos n1]
  dsimp only at ho ⊢
  refine ⟨(Acts.swap hm (heldW_u64 _)).of h.c,?_⟩
  split at ho <;> rename_i h1
  ·rw [if_pos h1]
   exact ⟨is _ ho hown.2.1 hown.2.2.1 (.inl hown.2.2.2),by omega⟩
  ·rw [if_neg h1]
   exact ⟨is _ ho hmi.2.1 hmi.2.2.1 (.inl hmi.2.2.2),by omega⟩
 rw [if_neg n1] at ho ⊢
 rw [if_neg n1]
 by_cases n2:t.next=2
 ·have c6:=c6 (by omega)
  obtain ⟨x,hx,hxo,hxd⟩:=c7 n2
  have hst:=sp_step hxo hxd hf
  have hxc:=h.st x hx
  have hnn:=sp_nonneg (spStep_ok m hxo)
  have htc:=h.c
  rw [if_pos n2,hx] at ho ⊢
  rw [if_pos n2]
  dsimp only at ho ⊢
  refine ⟨hst.1.of hxc,?_⟩
  split at ho <;> rename_i h1
  ·rw [if_pos h1]
   refine ⟨is _ ho rfl rfl (.inr ⟨_,rfl,by rw [hst.2.1,hxc,htc]⟩),?_⟩
   unfold rnLeft
   dsimp only
   rw [if_neg hnd,if_neg (by decide),if_neg (by decide),if_neg (by decide),if_pos rfl]
   omega
  ·rw [if_neg h1]
   split at ho <;> rename_i h2
   ·rw [if_pos h2]
    have hmi:=rn_miss (s:=s) (t:= { t with strip:=some (spStep s x m).1 }) hd (by dsimp only;omega) c4.1 (by dsimp only;omega)
    dsimp only at hmi
    refine ⟨is _ ho hmi.2.1 hmi.2.2.1 (.inr ⟨_,hmi.2.2.2,by rw [hst.2.1,hxc,htc]⟩),?_⟩
    omega
   ·rw [if_neg h2]
    refine ⟨is _ ho rfl rfl (.inr ⟨_,rfl,by rw [hst.2.1,hxc,htc]⟩),?_⟩
    unfold rnLeft
    dsimp only
    rw [if_neg hnd,if_neg n0,if_neg n1,if_pos n2]
    omega
 rw [if_neg n2] at ho ⊢
 rw [if_neg n2]
 by_cases n3:t.next=3
 ·have c6:=c6 (by omega)
  have c8:=c8 n3
  have hm:=hf.slotA (x:=t.at') (i:=t.i) (by omega) (by omega)
  rw [if_pos n3] at ho ⊢
  rw [if_pos n3]
  dsimp only at ho ⊢
  refine ⟨(Acts.store hm word0).of h.c,?_⟩
  split at ho <;> rename_i h1
  ·rw [if_pos h1]
   have hown:=rn_own (s:=s) (t:= { t with i:=t.i + 1 }) hd c2 ⟨c4.1,c6⟩ c3.2
   dsimp only at hown
   exact ⟨is _ ho hown.2.1 hown.2.2.1 (.inl hown.2.2.2),by omega⟩
  ·rw [if_neg h1]
   refine ⟨is _ ho rfl rfl (.inl rfl),?_⟩
   unfold rnLeft
   dsimp only
   rw [if_neg hnd,if_neg n0,if_neg n1,if_neg n2,if_pos n3]
   omega
 rw [if_neg n3] at ho ⊢
 rw [if_neg n3]
 by_cases n4:t.next=4
 ·have c6:=c6 (by omega)
  have c9:=c9 n4
  have hm:=hf.pageA (x:=t.i - 1) (by omega)
  rw [if_pos n4] at ho ⊢
  rw [if_pos n4]
  dsimp only at ho ⊢
  have hg:=rn_gone (s:=s) (t:= { t with i:=t.i - 1 }) hd n4 (by dsimp only;omega) (by dsimp only;omega) (by dsimp only;omega)
  dsimp only at hg
  exact ⟨(Acts.store hm (pageV_u64 _ _ _)).of h.c,is _ ho hg.2.1 hg.2.2.1 (.inl hg.2.2.2),by omega⟩
 rw [if_neg n4] at ho ⊢
 rw [if_neg n4]
 have n5:t.next=5:=by omega
 have c10:=c10 n5
 have hm:=hf.pageA (x:=t.i) (by omega)
 dsimp only at ho ⊢
 refine ⟨(Acts.store hm (pageV_u64 _ _ _)).of h.c,?_⟩
 unfold Rn.written at ho ⊢
 split at ho <;> rename_i h1
 ·rw [if_pos h1]
  refine ⟨is _ ho rfl rfl (.inl rfl),?_⟩
  unfold rnLeft
  dsimp only
  rw [if_pos rfl]
  omega
 ·rw [if_neg h1]
  refine ⟨is _ ho rfl rfl (.inl rfl),?_⟩
  unfold rnLeft
  dsimp only
  rw [if_neg hnd,if_neg n0,if_neg n1,if_neg n2,if_neg n3,if_neg n4]
  omega
theorem rn_new {s:Sh} (c n:Int) (hm:mayB s.p s.c s.m=true):rnIs s c n (rnNew s c n)∧rnLeft s (rnNew s c n)≤50 * s.p + 8:=by
 have hb:=mayB_iff.1 hm
 refine ⟨⟨rnNew_ok _ _ _,rfl,rfl,fun x hx=> (by cases hx)⟩,?_⟩
 unfold rnLeft rnNew
 dsimp only
 split
 ·omega
 ·rw [if_pos rfl];omega
theorem rn_nonneg {s:Sh} {t:Rn} (h:rnOk s t):0≤rnLeft s t:=by
 rcases Bool.eq_false_or_eq_true t.done with hd | hd
 ·unfold rnLeft;rw [if_pos hd];omega
 ·have:=rn_pos h hd;omega
end Go.Proofs.YtampacmmhhilaaaGreat
