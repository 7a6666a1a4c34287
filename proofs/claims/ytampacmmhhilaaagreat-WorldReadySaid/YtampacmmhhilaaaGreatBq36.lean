/- Texts bound together: InvA InvB InvC. -/
import Derived.Test.YtampacmmhhilaaaGreatBq5

set_option linter.all false
namespace Go.Proofs.YtampacmmhhilaaaGreat

section
inductive PW
 | empty
 | held (o:Int)
 | super (k b:Int)
 | large (n:Int)
 | body (h:Int)
 deriving DecidableEq
inductive SW
 | none
 | opened (k:Int)
 | way (c:Int)
 | taken (k:Int)
 deriving DecidableEq
inductive MW
 | none
 | entry (p i k:Int)
 deriving DecidableEq
inductive TW
 | unused
 | live
 | dead
 | owned (a:Int)
 | done
 deriving DecidableEq
def PW.enc:PW->Int
 | .empty=> 0
 | .held o=> zb8 1 o 0
 | .super k b=> zb8 2 k b
 | .large n=> zb8 3 n 0
 | .body h=> zb8 4 h 0
def SW.enc:SW->Int
 | .none=> 0
 | .opened k=> zc3 1 k
 | .way c=> zc3 2 c
 | .taken k=> zc3 3 k
def MW.enc:MW->Int
 | .none=> 0
 | .entry p i k=> putV 1 [p,i,k]
def TW.enc:TW->Int
 | .unused=> za8 0 0
 | .live=> za8 1 0
 | .dead=> za8 2 0
 | .owned a=> za8 3 a
 | .done=> za8 4 0
def PW.fit (s:Sh) (p:Int):PW->Prop
 | .empty=> True
 | .held o=> (0<=p/\p < s.p)/\0<=o/\o < s.c
 | .super k b=> (0<=p/\p < s.p)/\(0<=k/\k<=3)/\0<=b/\b < s.c
 | .large n=> (0<=p/\p < s.p)/\1<=n/\n<=8/\n<=s.p - p
 | .body h=> (0<=p/\p < s.p)/\0<=h/\h < p/\p - 8 < h
def SW.fit (s:Sh):SW->Prop
 | .none=> True
 | .opened k=> 0<=k/\k<=3
 | .way c=> 0<=c/\c < s.c
 | .taken k=> 0<=k/\k<=3
def MW.fit (s:Sh):MW->Prop
 | .none=> True
 | .entry p i k=> (0<=p/\p < s.p)/\(0<=k/\k<=3)/\0<=i/\i < zah k
def TW.fit (s:Sh):TW->Prop
 | .owned a=> 0<=a/\a < s.c
 | _=> True
theorem ygb {o:Int} (h:0<=o/\o<=255):zb8 1 o 0=1 + 16 * o:=by
 have:zfm 1 o 0=false:=by simp [zfm]
 rw [zb8,this,if_neg Bool.false_ne_true,z8d _ _ _ h.1 h.2 (by omega) (by omega)];omega
theorem ygs {k b:Int} (h:0<=k/\k<=255) (h2:0<=b/\b<=255):zb8 2 k b=2 + 16 * k + 4096 * b:=by
 have:zfm 2 k b=false:=by simp [zfm]
 rw [zb8,this,if_neg Bool.false_ne_true,z8d _ _ _ h.1 h.2 h2.1 h2.2]
theorem ygp {o:Int} (h:0<=o/\o<=255):zb8 3 o 0=3 + 16 * o:=by
 have:zfm 3 o 0=false:=by simp [zfm]
 rw [zb8,this,if_neg Bool.false_ne_true,z8d _ _ _ h.1 h.2 (by omega) (by omega)];omega
theorem ygm {o:Int} (h:0<=o/\o<=255):zb8 4 o 0=4 + 16 * o:=by
 have:zfm 4 o 0=false:=by simp [zfm]
 rw [zb8,this,if_neg Bool.false_ne_true,z8d _ _ _ h.1 h.2 (by omega) (by omega)];omega
theorem ygq {o:Int} (h:0<=o/\o<=255):zc3 1 o=1 + 16 * o:=by
 have:zgy 1 o=false:=by simp [zgy]
 rw [zc3,this,if_neg Bool.false_ne_true,z7p _ _ h.1 h.2]
theorem ygx {o:Int} (h:0<=o/\o<=255):zc3 2 o=2 + 16 * o:=by
 have:zgy 2 o=false:=by simp [zgy]
 rw [zc3,this,if_neg Bool.false_ne_true,z7p _ _ h.1 h.2]
theorem ygn {o:Int} (h:0<=o/\o<=255):zc3 3 o=3 + 16 * o:=by
 have:zgy 3 o=false:=by simp [zgy]
 rw [zc3,this,if_neg Bool.false_ne_true,z7p _ _ h.1 h.2]
theorem yfz {o:Int} (h:0<=o/\o<=255):za8 3 o=3 + 16 * o:=by
 have:zho 3 o=false:=by simp [zho]
 rw [za8,this,if_neg Bool.false_ne_true,z7p _ _ h.1 h.2]
theorem yfg {p i k:Int} (h1:0<=p/\p<=255) (h2:0<=i/\i<=255) (h3:0<=k/\k<=255):putV 1 [p,i,k]=1 + 16 * p + 4096 * i + 1048576 * k:=yf0 _ _ _ _ h1.1 h1.2 h2.1 h2.2 h3.1 h3.2
theorem yal (x:Int) (k a b:Int) (hx:x=k + 16 * a + 4096 * b) (hk:0<=k/\k<=15) (ha:0<=a/\a<=255) (hb:0<=b/\b<=255):zbx x=k/\za2 x 0=a/\za2 x 1=b:=by
 simp only [zbx,za2,Int.pow_zero,Int.mul_one,Int.pow_one]
 omega
theorem yf5 (x:Int) (a b c:Int) (hx:x=1 + 16 * a + 4096 * b + 1048576 * c) (ha:0<=a/\a<=255) (hb:0<=b/\b<=255) (hc:0<=c/\c<=255):za2 x 0=a/\za2 x 1=b/\za2 x 2=c:=by
 have:(256:Int) ^ 2=65536:=by decide
 simp only [za2,Int.pow_zero,Int.mul_one,Int.pow_one,this]
 omega
def PW.kind:PW->Int
 | .empty=> 0
 | .held _=> 1
 | .super _ _=> 2
 | .large _=> 3
 | .body _=> 4
def PW.pa:PW->Int
 | .empty=> 0
 | .held o=> o
 | .super k _=> k
 | .large n=> n
 | .body h=> h
def PW.pb:PW->Int
 | .super _ b=> b
 | _=> 0
variable {s:Sh}

theorem PW.zg9 {p:Int} (hs:mayB s.p s.c s.m=true) {x:PW} (h:x.fit s p):x.enc=x.kind + 16 * x.pa + 4096 * x.pb/\(0<=x.pa/\x.pa<=255)/\(0<=x.pb/\x.pb<=255):=by
 have hb:=zar.1 hs
 cases x <;> simp only [PW.fit] at h <;> simp only [PW.enc,PW.kind,PW.pa,PW.pb]
 ·omega
 ·rw [ygb (by omega)];omega
 ·rw [ygs (by omega) (by omega)];omega
 ·rw [ygp (by omega)];omega
 ·rw [ygm (by omega)];omega
theorem PW.zhw (x:PW):0<=x.kind/\x.kind<=4:=by cases x <;> simp [PW.kind]
theorem PW.read {p:Int} (hs:mayB s.p s.c s.m=true) {x:PW} (h:x.fit s p):zbx x.enc=x.kind/\za2 x.enc 0=x.pa/\za2 x.enc 1=x.pb:=by
 obtain ⟨e,h1,h2⟩:=PW.zg9 hs h
 have:=x.zhw
 exact yal _ _ _ _ e (by omega) h1 h2
theorem PW.inj {p q:Int} (hs:mayB s.p s.c s.m=true) {x y:PW} (h:x.fit s p) (h':y.fit s q) (e:x.enc=y.enc):x=y:=by
 obtain ⟨a1,a2,a3⟩:=PW.read hs h
 obtain ⟨b1,b2,b3⟩:=PW.read hs h'
 rw [e] at a1 a2 a3
 have e1:x.kind=y.kind:=a1.symm.trans b1
 have e2:x.pa=y.pa:=a2.symm.trans b2
 have e3:x.pb=y.pb:=a3.symm.trans b3
 clear a1 a2 a3 b1 b2 b3 e h h'
 cases x <;> cases y <;> simp_all [PW.kind,PW.pa,PW.pb]
theorem PW.u64 {p:Int} (hs:mayB s.p s.c s.m=true) {x:PW} (h:x.fit s p):0<=x.enc/\x.enc < 18446744073709551616:=by
 obtain ⟨e,h1,h2⟩:=PW.zg9 hs h
 have:=x.zhw
 omega
theorem PW.ya4 {p:Int} (hs:mayB s.p s.c s.m=true) (hp:0<=p/\p < s.p) {x:PW} (h:x.fit s p):zal s.p s.c s.m p x.enc=true:=by
 obtain ⟨a1,a2,a3⟩:=PW.read hs h
 have hb:=zar.1 hs
 rw [zal,a1,a2,a3]
 have h1:zb8 x.kind x.pa x.pb=x.enc:=by cases x <;> first | rfl | decide
 have h2:0<=zak s.p s.c s.m p:=by unfold zak;rw [if_pos ⟨hs,zbc.2 (by omega)⟩];omega
 have h3:zkb s.p s.c p x.kind x.pa x.pb=true:=by
  cases x with
  | empty=> rfl
  | held o=> simp only [PW.fit] at h;show decide (o < s.c)=true;exact decide_eq_true (by omega)
  | super k b=> simp only [PW.fit] at h;show (decide (k < 4) && decide (b < s.c))=true;rw [decide_eq_true (by omega:k < 4),decide_eq_true (by omega:b < s.c)];rfl
  | large n=> simp only [PW.fit] at h;show (decide (1<=n) && decide (n<=8) && decide (n<=s.p - p))=true;rw [decide_eq_true (by omega:1<=n),decide_eq_true (by omega:n<=8),decide_eq_true (by omega:n<=s.p - p)];rfl
  | body g=> simp only [PW.fit] at h;show (decide (g < p) && decide (p - 8 < g))=true;rw [decide_eq_true (by omega:g < p),decide_eq_true (by omega:p - 8 < g)];rfl
 rw [h1,h3]
 simp [h2]
def SW.kind:SW->Int
 | .none=> 0
 | .opened _=> 1
 | .way _=> 2
 | .taken _=> 3
def SW.pa:SW->Int
 | .none=> 0
 | .opened k=> k
 | .way c=> c
 | .taken k=> k
theorem SW.zg9 (hs:mayB s.p s.c s.m=true) {x:SW} (h:x.fit s):x.enc=x.kind + 16 * x.pa/\(0<=x.pa/\x.pa<=255):=by
 have hb:=zar.1 hs
 cases x <;> simp only [SW.fit] at h <;> simp only [SW.enc,SW.kind,SW.pa]
 ·omega
 ·rw [ygq (by omega)];omega
 ·rw [ygx (by omega)];omega
 ·rw [ygn (by omega)];omega
theorem SW.zhw (x:SW):0<=x.kind/\x.kind<=3:=by cases x <;> simp [SW.kind]
theorem SW.read (hs:mayB s.p s.c s.m=true) {x:SW} (h:x.fit s):zbx x.enc=x.kind/\za2 x.enc 0=x.pa:=by
 obtain ⟨e,h1⟩:=SW.zg9 hs h
 have:=x.zhw
 have:=yal x.enc x.kind x.pa 0 (by omega) (by omega) h1 (by omega)
 exact ⟨this.1,this.2.1⟩
theorem SW.inj (hs:mayB s.p s.c s.m=true) {x y:SW} (h:x.fit s) (h':y.fit s) (e:x.enc=y.enc):x=y:=by
 obtain ⟨a1,a2⟩:=SW.read hs h
 obtain ⟨b1,b2⟩:=SW.read hs h'
 rw [e] at a1 a2
 have e1:x.kind=y.kind:=a1.symm.trans b1
 have e2:x.pa=y.pa:=a2.symm.trans b2
 clear a1 a2 b1 b2 e h h'
 cases x <;> cases y <;> simp_all [SW.kind,SW.pa]
theorem SW.u64 (hs:mayB s.p s.c s.m=true) {x:SW} (h:x.fit s):0<=x.enc/\x.enc < 18446744073709551616:=by
 obtain ⟨e,h1⟩:=SW.zg9 hs h
 have:=x.zhw
 omega
theorem MW.zg9 (hs:mayB s.p s.c s.m=true) {p i k:Int} (h:(MW.entry p i k).fit s):(MW.entry p i k).enc=1 + 16 * p + 4096 * i + 1048576 * k/\0<=p/\p<=63/\0<=i/\i<=15/\0<=k/\k<=3:=by
 have hb:=zar.1 hs
 simp only [MW.fit] at h
 have:=zcy k
 simp only [MW.enc]
 rw [yfg (by omega) (by omega) (by omega)]
 omega
theorem MW.read (hs:mayB s.p s.c s.m=true) {p i k:Int} (h:(MW.entry p i k).fit s):za2 (MW.entry p i k).enc 0=p/\za2 (MW.entry p i k).enc 1=i/\za2 (MW.entry p i k).enc 2=k:=by
 obtain ⟨e,h1⟩:=MW.zg9 hs h
 exact yf5 _ _ _ _ e (by omega) (by omega) (by omega)
theorem MW.ya4 (hs:mayB s.p s.c s.m=true) {p i k:Int} (h:(MW.entry p i k).fit s):zbi s.p s.c s.m (MW.entry p i k).enc=true:=by
 obtain ⟨a1,a2,a3⟩:=MW.read hs h
 have hb:=zar.1 hs
 rw [zbi,a1,a2,a3]
 simp only [MW.fit] at h
 have h2:0<=zak s.p s.c s.m p:=by unfold zak;rw [if_pos ⟨hs,zbc.2 (by omega)⟩];omega
 simp only [MW.enc,beq_self_eq_true,Bool.true_and,Bool.and_eq_true,decide_eq_true_eq]
 exact ⟨h2,h.2.2.2⟩
theorem MW.pos (hs:mayB s.p s.c s.m=true) {p i k:Int} (h:(MW.entry p i k).fit s):(MW.entry p i k).enc≠0:=by
 obtain ⟨e,h1⟩:=MW.zg9 hs h
 omega
theorem MW.inj (hs:mayB s.p s.c s.m=true) {x y:MW} (h:x.fit s) (h':y.fit s) (e:x.enc=y.enc):x=y:=by
 cases x <;> cases y
 ·rfl
 ·exact absurd e.symm (MW.pos hs h')
 ·exact absurd e (MW.pos hs h)
 ·obtain ⟨a1,a2,a3⟩:=MW.read hs h
  obtain ⟨b1,b2,b3⟩:=MW.read hs h'
  rw [e] at a1 a2 a3
  rw [<- a1,<- a2,<- a3,b1,b2,b3]
theorem MW.u64 (hs:mayB s.p s.c s.m=true) {x:MW} (h:x.fit s):0<=x.enc/\x.enc < 18446744073709551616:=by
 cases x
 ·exact ⟨Int.le_refl _,by decide⟩
 ·obtain ⟨e,h1⟩:=MW.zg9 hs h
  omega
theorem zya:zbi s.p s.c s.m 0=false:=by
 have e1:za2 0 0=0:=by decide
 have e2:za2 0 1=0:=by decide
 have e3:za2 0 2=0:=by decide
 rw [zbi,e1,e2,e3]
 rfl
def TW.kind:TW->Int
 | .unused=> 0
 | .live=> 1
 | .dead=> 2
 | .owned _=> 3
 | .done=> 4
def TW.pa:TW->Int
 | .owned a=> a
 | _=> 0
theorem TW.zg9 (hs:mayB s.p s.c s.m=true) {x:TW} (h:x.fit s):x.enc=x.kind + 16 * x.pa/\(0<=x.pa/\x.pa<=255):=by
 have hb:=zar.1 hs
 cases x <;> simp only [TW.fit] at h
 case owned a=> simp only [TW.enc,TW.kind,TW.pa];rw [yfz (by omega)];omega
 all_goals decide
theorem TW.zhw (x:TW):0<=x.kind/\x.kind<=4:=by cases x <;> simp [TW.kind]
theorem TW.read (hs:mayB s.p s.c s.m=true) {x:TW} (h:x.fit s):zdc x.enc=x.kind/\zda x.enc=x.pa:=by
 obtain ⟨e,h1⟩:=TW.zg9 hs h
 have:=x.zhw
 have:=yal x.enc x.kind x.pa 0 (by omega) (by omega) h1 (by omega)
 have hB:zjc x.enc=true:=by
  unfold zjc
  rw [this.1,this.2.1]
  cases x <;> simp [TW.kind,TW.pa,TW.enc]
 unfold zdc zda
 rw [if_pos hB,if_pos hB]
 exact ⟨this.1,this.2.1⟩
theorem TW.inj (hs:mayB s.p s.c s.m=true) {x y:TW} (h:x.fit s) (h':y.fit s) (e:x.enc=y.enc):x=y:=by
 obtain ⟨a1,a2⟩:=TW.read hs h
 obtain ⟨b1,b2⟩:=TW.read hs h'
 rw [e] at a1 a2
 have e1:x.kind=y.kind:=a1.symm.trans b1
 have e2:x.pa=y.pa:=a2.symm.trans b2
 clear a1 a2 b1 b2 e h h'
 cases x <;> cases y <;> simp_all [TW.kind,TW.pa]
theorem TW.u64 (hs:mayB s.p s.c s.m=true) {x:TW} (h:x.fit s):0<=x.enc/\x.enc < 18446744073709551616:=by
 obtain ⟨e,h1⟩:=TW.zg9 hs h
 have:=x.zhw
 omega
end

section

structure Ab where
 pg:Int->PW
 sl:Int->Int->SW
 mg:Int->Int->MW
 st:Int->TW
def up {α:Type} (f:Int->α) (a:Int) (v:α):Int->α:=fun x=> if x=a then v else f x
def up2 {α:Type} (f:Int->Int->α) (a b:Int) (v:α):Int->Int->α:=fun x y=> if x=a/\y=b then v else f x y
def Ab.page (σ:Ab) (p:Int) (v:PW):Ab:= { σ with pg:=up σ.pg p v }
def Ab.slot (σ:Ab) (p i:Int) (v:SW):Ab:= { σ with sl:=up2 σ.sl p i v }
def Ab.mag (σ:Ab) (c i:Int) (v:MW):Ab:= { σ with mg:=up2 σ.mg c i v }
def Ab.stat (σ:Ab) (c:Int) (v:TW):Ab:= { σ with st:=up σ.st c v }
theorem zp8 {α:Type} (f:Int->α) (a:Int) (v:α):up f a v a=v:=if_pos rfl
theorem z6r {α:Type} (f:Int->α) {a x:Int} (h:x≠a) (v:α):up f a v x=f x:=if_neg h
theorem zly {α:Type} (f:Int->Int->α) (a b:Int) (v:α):up2 f a b v a b=v:=if_pos ⟨rfl,rfl⟩
theorem zv2 {α:Type} (f:Int->Int->α) {a b x y:Int} (h:¬ (x=a/\y=b)) (v:α):up2 f a b v x y=f x y:=if_neg h
structure Rep (s:Sh) (m:Mem) (σ:Ab):Prop where
 fi:Fits s m
 pg:∀ p,0<=p/\p < s.p->m.get (zak s.p s.c s.m p)=(σ.pg p).enc
 sl:∀ p i,0<=p/\p < s.p->0<=i/\i < 16->m.get (zbk s.p s.c s.m p i)=(σ.sl p i).enc
 mg:∀ c i,0<=c/\c < s.c->0<=i/\i < s.m->m.get (ze9 s.p s.c s.m c i)=(σ.mg c i).enc
 st:∀ c,0<=c/\c < s.c->m.get (zae s.p s.c s.m c)=(σ.st c).enc
theorem zwv {m m':Mem} (h:m'.ws=m.ws) (a:Int):m'.get a=m.get a:=by unfold Mem.get;rw [h]
theorem zqk {m m':Mem} {a x:Int} (h:m'.ws=m.ws.set a.toNat x) (ha:m.has a) {b:Int} (hb:0<=b):m'.get b=if b=a then x else m.get b:=by
 have h1:=ha.1
 have h2:=ha.2
 unfold Mem.get
 rw [h,List.getD_eq_getElem?_getD,List.getD_eq_getElem?_getD,List.getElem?_set]
 by_cases e:b=a
 ·subst e
  rw [if_pos rfl,if_pos (by omega),if_pos rfl]
  rfl
 ·rw [if_neg (by omega),if_neg e]
section

variable {s:Sh} {m m':Mem} {σ:Ab}

theorem Rep.may (h:Rep s m σ):mayB s.p s.c s.m=true:=h.fi.may
theorem Rep.same (h:Rep s m σ) (e:m'.ws=m.ws):Rep s m' σ:=
 ⟨h.fi.zh1 (by rw [e]),fun p hp=> (zwv e _).trans (h.pg p hp),fun p i hp hi=> (zwv e _).trans (h.sl p i hp hi),fun c i hc hi=> (zwv e _).trans (h.mg c i hc hi),fun c hc=> (zwv e _).trans (h.st c hc)⟩
theorem ixs (h:Fits s m):(∀ p,0<=p/\p < s.p->zak s.p s.c s.m p=s.c + p)/\(∀ p i,0<=p/\p < s.p->0<=i/\i < 16->zbk s.p s.c s.m p i=s.c + s.p + p * 16 + i)/\(∀ c i,0<=c/\c < s.c->0<=i/\i < s.m->ze9 s.p s.c s.m c i=s.c + s.p + s.p * 16 + c * s.m + i)/\(∀ c,0<=c/\c < s.c->zae s.p s.c s.m c=c):=
 ⟨fun p hp=> (h.page hp).1,fun p i hp hi=> (h.slot hp hi).1,fun c i hc hi=> (h.mag hc hi).1,fun c hc=> (h.status hc).1⟩
theorem yb4 {c c' i i' M:Int} (hi:0<=i/\i < M) (hi':0<=i'/\i' < M) (e:c * M + i=c' * M + i'):c=c'/\i=i':=by
 have hM:0 < M:=by omega
 have h1:(c * M + i) / M=c:=by rw [Int.add_comm,Int.add_mul_ediv_right _ _ (by omega),Int.ediv_eq_zero_of_lt hi.1 hi.2];omega
 have h2:(c' * M + i') / M=c':=by rw [Int.add_comm,Int.add_mul_ediv_right _ _ (by omega),Int.ediv_eq_zero_of_lt hi'.1 hi'.2];omega
 have h3:c=c':=by rw [<- h1,<- h2,e]
 subst h3
 exact ⟨rfl,by omega⟩
theorem Rep.zd7 (h:Rep s m σ) {p:Int} (hp:0<=p/\p < s.p) (v:PW) (e:m'.ws=m.ws.set (zak s.p s.c s.m p).toNat v.enc):Rep s m' (σ.page p v):=by
 obtain ⟨i1,i2,i3,i4⟩:=ixs h.fi
 have hb:=h.fi.bd
 have hg:=fun {b}=> @zqk m m' _ _ e (h.fi.zhu hp) b
 rw [i1 p hp] at hg
 refine ⟨h.fi.zh1 (by rw [e];simp),fun q hq=> ?_,fun q i hq hi=> ?_,fun c i hc hi=> ?_,fun c hc=> ?_⟩
 ·rw [i1 q hq,hg (by omega)]
  by_cases hqp:q=p
  ·subst hqp;rw [if_pos rfl];show _=PW.enc (up _ _ _ _);rw [zp8]
  ·rw [if_neg (by omega)];show _=PW.enc (up _ _ _ _);rw [z6r _ hqp,<- i1 q hq];exact h.pg q hq
 ·rw [i2 q i hq hi,hg (by omega),if_neg (by omega),<- i2 q i hq hi];exact h.sl q i hq hi
 ·have:=Int.mul_nonneg hc.1 (show 0<=s.m by omega)
  rw [i3 c i hc hi,hg (by omega),if_neg (by omega),<- i3 c i hc hi];exact h.mg c i hc hi
 ·rw [i4 c hc,hg (by omega),if_neg (by omega)];have:=h.st c hc;rw [i4 c hc] at this;exact this
theorem Rep.setSlot (h:Rep s m σ) {p j:Int} (hp:0<=p/\p < s.p) (hj:0<=j/\j < 16) (v:SW) (e:m'.ws=m.ws.set (zbk s.p s.c s.m p j).toNat v.enc):Rep s m' (σ.slot p j v):=by
 obtain ⟨i1,i2,i3,i4⟩:=ixs h.fi
 have hb:=h.fi.bd
 have hg:=fun {b}=> @zqk m m' _ _ e (h.fi.zj0 hp hj) b
 rw [i2 p j hp hj] at hg
 refine ⟨h.fi.zh1 (by rw [e];simp),fun q hq=> ?_,fun q i hq hi=> ?_,fun c i hc hi=> ?_,fun c hc=> ?_⟩
 ·rw [i1 q hq,hg (by omega),if_neg (by omega),<- i1 q hq];exact h.pg q hq
 ·rw [i2 q i hq hi,hg (by omega)]
  by_cases hqp:q=p/\i=j
  ·obtain ⟨rfl,rfl⟩:=hqp;rw [if_pos rfl];show _=SW.enc (up2 _ _ _ _ _ _);rw [zly]
  ·rw [if_neg (by omega)];show _=SW.enc (up2 _ _ _ _ _ _);rw [zv2 _ hqp,<- i2 q i hq hi];exact h.sl q i hq hi
 ·have:=Int.mul_nonneg hc.1 (show 0<=s.m by omega)
  rw [i3 c i hc hi,hg (by omega),if_neg (by omega),<- i3 c i hc hi];exact h.mg c i hc hi
 ·rw [i4 c hc,hg (by omega),if_neg (by omega)];have:=h.st c hc;rw [i4 c hc] at this;exact this
theorem Rep.z1g (h:Rep s m σ) {x j:Int} (hx:0<=x/\x < s.c) (hj:0<=j/\j < s.m) (v:MW) (e:m'.ws=m.ws.set (ze9 s.p s.c s.m x j).toNat v.enc):Rep s m' (σ.mag x j v):=by
 obtain ⟨i1,i2,i3,i4⟩:=ixs h.fi
 have hb:=h.fi.bd
 have hg:=fun {b}=> @zqk m m' _ _ e (h.fi.magA hx hj) b
 have h0:=Int.mul_nonneg hx.1 (show 0<=s.m by omega)
 rw [i3 x j hx hj] at hg
 refine ⟨h.fi.zh1 (by rw [e];simp),fun q hq=> ?_,fun q i hq hi=> ?_,fun c i hc hi=> ?_,fun c hc=> ?_⟩
 ·rw [i1 q hq,hg (by omega),if_neg (by omega),<- i1 q hq];exact h.pg q hq
 ·rw [i2 q i hq hi,hg (by omega),if_neg (by omega),<- i2 q i hq hi];exact h.sl q i hq hi
 ·have h1:=Int.mul_nonneg hc.1 (show 0<=s.m by omega)
  rw [i3 c i hc hi,hg (by omega)]
  by_cases hqp:c=x/\i=j
  ·obtain ⟨rfl,rfl⟩:=hqp;rw [if_pos rfl];show _=MW.enc (up2 _ _ _ _ _ _);rw [zly]
  ·rw [if_neg (fun e=> hqp (yb4 hi hj (by omega)))];show _=MW.enc (up2 _ _ _ _ _ _);rw [zv2 _ hqp,<- i3 c i hc hi];exact h.mg c i hc hi
 ·rw [i4 c hc,hg (by omega),if_neg (by omega)];have:=h.st c hc;rw [i4 c hc] at this;exact this
theorem Rep.zpm (h:Rep s m σ) {x:Int} (hx:0<=x/\x < s.c) (v:TW) (e:m'.ws=m.ws.set (zae s.p s.c s.m x).toNat v.enc):Rep s m' (σ.stat x v):=by
 obtain ⟨i1,i2,i3,i4⟩:=ixs h.fi
 have hb:=h.fi.bd
 have hg:=fun {b}=> @zqk m m' _ _ e (h.fi.zda hx) b
 rw [i4 x hx] at hg
 refine ⟨h.fi.zh1 (by rw [e];simp),fun q hq=> ?_,fun q i hq hi=> ?_,fun c i hc hi=> ?_,fun c hc=> ?_⟩
 ·rw [i1 q hq,hg (by omega),if_neg (by omega),<- i1 q hq];exact h.pg q hq
 ·rw [i2 q i hq hi,hg (by omega),if_neg (by omega),<- i2 q i hq hi];exact h.sl q i hq hi
 ·have:=Int.mul_nonneg hc.1 (show 0<=s.m by omega)
  rw [i3 c i hc hi,hg (by omega),if_neg (by omega),<- i3 c i hc hi];exact h.mg c i hc hi
 ·rw [i4 c hc,hg (by omega)]
  by_cases hqp:c=x
  ·subst hqp;rw [if_pos rfl];show _=TW.enc (up _ _ _ _);rw [zp8]
  ·rw [if_neg hqp];show _=TW.enc (up _ _ _ _);rw [z6r _ hqp];have:=h.st c hc;rw [i4 c hc] at this;exact this
end

def zhi (p:PW) (i:Int) (x:SW):Prop:=match p with
 | .held o=> x= .none\/(x= .way o/\0<=i/\i < 16)
 | .super k _=> if 0<=i/\i < zah k then x= .opened k\/x= .taken k\/∃ c,x= .way c else x= .none
 | _=> x= .none
structure GI (s:Sh) (σ:Ab):Prop where
 pf:∀ p,(σ.pg p).fit s p
 sf:∀ p i,(σ.sl p i).fit s
 mf:∀ c i,(σ.mg c i).fit s
 tf:∀ c,(σ.st c).fit s
 mr:∀ c i,σ.mg c i≠ .none->(0<=c/\c < s.c)/\0<=i/\i < s.m
 tr:∀ c,σ.st c≠ .unused->0<=c/\c < s.c
 sk:∀ p i,zhi (σ.pg p) i (σ.sl p i)
 bd:∀ p h,σ.pg p= .body h->(∃ o,σ.pg h= .held o)\/∃ n,σ.pg h= .large n/\p < h + n
 lg:∀ p n,σ.pg p= .large n->∀ j,1<=j->j < n->σ.pg (p + j)= .body p
 mv:∀ c j p i k,σ.mg c j= .entry p i k->(∃ b,σ.pg p= .super k b)/\σ.sl p i= .way c
 mi:∀ c j j' p i k k',σ.mg c j= .entry p i k->σ.mg c j'= .entry p i k'->j=j'
structure Same (x:Int) (σ σ':Ab):Prop where
 h:∀ p,σ'.pg p= .held x↔σ.pg p= .held x
 hs:∀ p i,σ.pg p= .held x->σ'.sl p i=σ.sl p i
 b:∀ p h,σ.pg h= .held x->(σ'.pg p= .body h↔σ.pg p= .body h)
 w:∀ p i k,((∃ b,σ'.pg p= .super k b)/\σ'.sl p i= .way x)↔((∃ b,σ.pg p= .super k b)/\σ.sl p i= .way x)
 m:∀ i,σ'.mg x i=σ.mg x i
theorem Same.refl (x:Int) (σ:Ab):Same x σ σ:=⟨fun _=> .rfl,fun _ _ _=> rfl,fun _ _ _=> .rfl,fun _ _ _=> .rfl,fun _=> rfl⟩
theorem Same.trans {x:Int} {a b c:Ab} (h:Same x a b) (k:Same x b c):Same x a c:=
 ⟨fun p=> (k.h p).trans (h.h p),fun p i hp=> (k.hs p i ((h.h p).2 hp)).trans (h.hs p i hp),fun p q hq=> (k.b p q ((h.h q).2 hq)).trans (h.b p q hq),fun p i j=> (k.w p i j).trans (h.w p i j),fun i=> (k.m i).trans (h.m i)⟩
structure Own where
 h:Int->Prop
 b:Int->Int->Prop
 w:Int->Int->Int->Prop
def Own.no:Own:=⟨fun _=> False,fun _ _=> False,fun _ _ _=> False⟩
def Own.add (o r:Own):Own:=⟨fun p=> o.h p\/r.h p,fun p h=> o.b p h\/r.b p h,fun p i k=> o.w p i k\/r.w p i k⟩
def Own.way (p i k:Int):Own:=⟨fun _=> False,fun _ _=> False,fun p' i' k'=> p'=p/\i'=i/\k'=k⟩
def Own.ways (p n k:Int):Own:=⟨fun _=> False,fun _ _=> False,fun p' i' k'=> p'=p/\(0<=i'/\i' < n)/\k'=k⟩
def Own.page (p:Int):Own:=⟨fun p'=> p'=p,fun _ _=> False,fun _ _ _=> False⟩
def Own.pages (lo hi:Int):Own:=⟨fun p'=> lo<=p'/\p' < hi,fun _ _=> False,fun _ _ _=> False⟩
def Own.bodies (h lo hi:Int):Own:=⟨fun _=> False,fun p' h'=> h'=h/\lo<=p'/\p' < hi,fun _ _ _=> False⟩
structure zaz (σ:Ab) (c:Int) (o:Own):Prop where
 h:∀ p,σ.pg p= .held c↔o.h p
 b:∀ p h,(σ.pg p= .body h/\σ.pg h= .held c)↔o.b p h
 w:∀ p i k,((∃ b,σ.pg p= .super k b)/\σ.sl p i= .way c)↔(o.w p i k\/∃ j,σ.mg c j= .entry p i k)
 d:∀ p i k j,o.w p i k->σ.mg c j≠ .entry p i k
theorem zaz.eq {σ:Ab} {c:Int} {o o':Own} (h:zaz σ c o) (h1:∀ p,o'.h p↔o.h p) (h2:∀ p q,o'.b p q↔o.b p q) (h3:∀ p i k,o'.w p i k↔o.w p i k):zaz σ c o':=
 ⟨fun p=> (h.h p).trans (h1 p).symm,fun p q=> (h.b p q).trans (h2 p q).symm,fun p i k=> (h.w p i k).trans (or_congr (h3 p i k).symm .rfl),fun p i k j hw=> h.d p i k j ((h3 p i k).1 hw)⟩
theorem zaz.same {σ σ':Ab} {c:Int} {o:Own} (h:zaz σ c o) (hs:Same c σ σ'):zaz σ' c o:=by
 refine ⟨fun p=> (hs.h p).trans (h.h p),fun p q=> ?_,fun p i k=> (hs.w p i k).trans ((h.w p i k).trans (or_congr .rfl ⟨fun ⟨j,e⟩=> ⟨j,(hs.m j).trans e⟩,fun ⟨j,e⟩=> ⟨j,(hs.m j).symm.trans e⟩⟩)),fun p i k j hw e=> h.d p i k j hw ((hs.m j).symm.trans e)⟩
 rw [<- h.b p q,hs.h q]
 constructor
 ·rintro ⟨e1,e2⟩;exact ⟨(hs.b p q e2).1 e1,e2⟩
 ·rintro ⟨e1,e2⟩;exact ⟨(hs.b p q e2).2 e1,e2⟩
end

section

variable {s:Sh} {σ:Ab} {c x p:Int} {o:Own} {v:PW}

theorem z09 (σ:Ab) (p:Int) (v:PW) (q:Int):(σ.page p v).pg q=if q=p then v else σ.pg q:=rfl
theorem za4 (σ:Ab) (p:Int) (v:PW):(σ.page p v).pg p=v:=zp8 _ _ _
theorem zbd (σ:Ab) {p q:Int} (v:PW) (h:q≠p):(σ.page p v).pg q=σ.pg q:=z6r _ h _
theorem zbs (σ:Ab) (p i:Int) (v:SW):(σ.slot p i v).sl p i=v:=zly _ _ _ _
theorem zbq (σ:Ab) {p i q j:Int} (v:SW) (h:¬ (q=p/\j=i)):(σ.slot p i v).sl q j=σ.sl q j:=zv2 _ h _
theorem zcb (σ:Ab) (c i:Int) (v:MW):(σ.mag c i v).mg c i=v:=zly _ _ _ _
theorem zci (σ:Ab) {c i d j:Int} (v:MW) (h:¬ (d=c/\j=i)):(σ.mag c i v).mg d j=σ.mg d j:=zv2 _ h _
theorem zbf (σ:Ab) (c:Int) (v:TW):(σ.stat c v).st c=v:=zp8 _ _ _
theorem zao (σ:Ab) {c d:Int} (v:TW) (h:d≠c):(σ.stat c v).st d=σ.st d:=z6r _ h _
theorem zvc (h:GI s σ) {q g:Int} (hq:σ.pg q= .body g):g < q/\q - 8 < g/\0<=g/\(0<=q/\q < s.p):=by
 have:=h.pf q
 rw [hq] at this
 simp only [PW.fit] at this
 omega
theorem zkn (h:GI s σ) (hp:σ.pg p= .held c):(0<=p/\p < s.p)/\0<=c/\c < s.c:=by
 have:=h.pf p
 rw [hp] at this
 exact this
theorem zjs (h:GI s σ) {k b:Int} (hp:σ.pg p= .super k b):(0<=p/\p < s.p)/\(0<=k/\k<=3)/\0<=b/\b < s.c:=by
 have:=h.pf p
 rw [hp] at this
 exact this
theorem zgt (h:GI s σ) {n:Int} (hp:σ.pg p= .large n):(0<=p/\p < s.p)/\1<=n/\n<=8/\n<=s.p - p:=by
 have:=h.pf p
 rw [hp] at this
 exact this
theorem GI.page (h:GI s σ) (hf:v.fit s p) (hsk:∀ i,zhi v i (σ.sl p i))
  (hbd:∀ g,v= .body g->(∃ o,σ.pg g= .held o)\/∃ n,σ.pg g= .large n/\p < g + n)
  (hb:∀ q,q≠p->σ.pg q= .body p->(∃ o,v= .held o)\/∃ n,v= .large n/\q < p + n)
  (hlg:∀ n,v= .large n->∀ j,1<=j->j < n->σ.pg (p + j)= .body p)
  (hlb:∀ g,σ.pg p= .body g->v= .body g\/∀ n,σ.pg g≠ .large n)
  (hmv:∀ c j i k,σ.mg c j= .entry p i k->∃ b,v= .super k b):GI s (σ.page p v):=by
 refine ⟨fun q=> ?_,h.sf,h.mf,h.tf,h.mr,h.tr,fun q i=> ?_,fun q g hq=> ?_,fun q n hq j h1 h2=> ?_,fun d j q i k he=> ?_,h.mi⟩
 ·rw [z09]
  split
  ·rename_i e;subst e;exact hf
  ·exact h.pf q
 ·rw [z09]
  split
  ·rename_i e;subst e;exact hsk i
  ·exact h.sk q i
 ·by_cases hqp:q=p
  ·subst hqp
   rw [za4] at hq
   have hgp:g≠q:=fun e=> by
    subst hq
    simp only [PW.fit] at hf
    omega
   rw [zbd _ _ hgp]
   exact hbd g hq
  ·rw [zbd _ _ hqp] at hq
   by_cases hgp:g=p
   ·subst hgp
    rw [za4]
    exact hb q hqp hq
   ·rw [zbd _ _ hgp]
    exact h.bd q g hq
 ·by_cases hqp:q=p
  ·subst hqp
   rw [za4] at hq
   rw [zbd _ _ (by omega)]
   exact hlg n hq j h1 h2
  ·rw [zbd _ _ hqp] at hq
   have hb2:=h.lg q n hq j h1 h2
   by_cases hjp:q + j=p
   ·rw [hjp] at hb2 ⊢
    rw [za4]
    rcases hlb q hb2 with e | e
    ·exact e
    ·exact absurd hq (e n)
   ·rw [zbd _ _ hjp];exact hb2
 ·refine ⟨?_,(h.mv d j q i k he).2⟩
  by_cases hqp:q=p
  ·subst hqp
   rw [za4]
   exact hmv d j i k he
  ·rw [zbd _ _ hqp]
   exact (h.mv d j q i k he).1
theorem GI.slot (h:GI s σ) {i:Int} {u:SW} (hf:u.fit s) (hk:zhi (σ.pg p) i u) (hm:∀ c j k,σ.mg c j= .entry p i k->u= .way c):GI s (σ.slot p i u):=by
 refine ⟨h.pf,fun q j=> ?_,h.mf,h.tf,h.mr,h.tr,fun q j=> ?_,h.bd,h.lg,fun d j q y k he=> ?_,h.mi⟩
 ·by_cases e:q=p/\j=i
  ·obtain ⟨rfl,rfl⟩:=e;rw [zbs];exact hf
  ·rw [zbq _ _ e];exact h.sf q j
 ·by_cases e:q=p/\j=i
  ·obtain ⟨rfl,rfl⟩:=e;rw [zbs];exact hk
  ·rw [zbq _ _ e];exact h.sk q j
 ·refine ⟨(h.mv d j q y k he).1,?_⟩
  by_cases e:q=p/\y=i
  ·obtain ⟨rfl,rfl⟩:=e;rw [zbs];exact hm d j k he
  ·rw [zbq _ _ e];exact (h.mv d j q y k he).2
theorem GI.mag (h:GI s σ) {c i:Int} {u:MW} (hf:u.fit s) (hr:u≠ .none->(0<=c/\c < s.c)/\0<=i/\i < s.m) (hv:∀ p j k,u= .entry p j k->(∃ b,σ.pg p= .super k b)/\σ.sl p j= .way c) (hi:∀ p y k k' j,u= .entry p y k->σ.mg c j= .entry p y k'->j=i):GI s (σ.mag c i u):=by
 refine ⟨h.pf,h.sf,fun d j=> ?_,h.tf,fun d j hn=> ?_,h.tr,h.sk,h.bd,h.lg,fun d j q y k he=> ?_,fun d j j' q y k k' he he'=> ?_⟩
 ·by_cases e:d=c/\j=i
  ·obtain ⟨rfl,rfl⟩:=e;rw [zcb];exact hf
  ·rw [zci _ _ e];exact h.mf d j
 ·by_cases e:d=c/\j=i
  ·obtain ⟨rfl,rfl⟩:=e;rw [zcb] at hn;exact hr hn
  ·rw [zci _ _ e] at hn;exact h.mr d j hn
 ·by_cases e:d=c/\j=i
  ·obtain ⟨rfl,rfl⟩:=e;rw [zcb] at he;exact hv q y k he
  ·rw [zci _ _ e] at he;exact h.mv d j q y k he
 ·by_cases e:d=c/\j=i
  ·obtain ⟨rfl,rfl⟩:=e
   rw [zcb] at he
   by_cases e':j'=j
   ·exact e'.symm
   ·rw [zci _ _ (fun h=> e' h.2)] at he'
    exact (hi q y k k' j' he he').symm
  ·rw [zci _ _ e] at he
   by_cases e':d=c/\j'=i
   ·obtain ⟨rfl,rfl⟩:=e'
    rw [zcb] at he'
    exact hi q y k' k j he' he
   ·rw [zci _ _ e'] at he'
    exact h.mi d j j' q y k k' he he'
theorem GI.stat (h:GI s σ) {u:TW} (hf:u.fit s) (hr:0<=c/\c < s.c):GI s (σ.stat c u):=by
 refine ⟨h.pf,h.sf,h.mf,fun d=> ?_,h.mr,fun d hd=> ?_,h.sk,h.bd,h.lg,h.mv,h.mi⟩
 ·by_cases e:d=c
  ·subst e;rw [zbf];exact hf
  ·rw [zao _ _ e];exact h.tf d
 ·by_cases e:d=c
  ·subst e;exact hr
  ·rw [zao _ _ e] at hd;exact h.tr d hd
theorem Same.stat (σ:Ab) (u:TW):Same x σ (σ.stat c u):=⟨fun _=> .rfl,fun _ _ _=> rfl,fun _ _ _=> .rfl,fun _ _ _=> .rfl,fun _=> rfl⟩
theorem Same.page (h1:v= .held x↔σ.pg p= .held x) (h2:∀ g,σ.pg g= .held x->(v= .body g↔σ.pg p= .body g)) (h3:∀ i k,σ.sl p i= .way x->((∃ b,v= .super k b)↔∃ b,σ.pg p= .super k b)):Same x σ (σ.page p v):=by
 refine ⟨fun q=> ?_,fun _ _ _=> rfl,fun q g hg=> ?_,fun q i k=> ?_,fun _=> rfl⟩
 ·by_cases e:q=p
  ·subst e;rw [za4];exact h1
  ·rw [zbd _ _ e]
 ·by_cases e:q=p
  ·subst e;rw [za4];exact h2 g hg
  ·rw [zbd _ _ e]
 ·by_cases e:q=p
  ·subst e
   rw [za4]
   constructor
   ·rintro ⟨e1,e2⟩;exact ⟨(h3 i k e2).1 e1,e2⟩
   ·rintro ⟨e1,e2⟩;exact ⟨(h3 i k e2).2 e1,e2⟩
  ·rw [zbd _ _ e];exact .rfl
theorem Same.slot {i:Int} {u:SW} (h1:σ.pg p≠ .held x) (h2:∀ k b,σ.pg p= .super k b->(u= .way x↔σ.sl p i= .way x)):Same x σ (σ.slot p i u):=by
 refine ⟨fun _=> .rfl,fun q j hq=> ?_,fun _ _ _=> .rfl,fun q j k=> ?_,fun _=> rfl⟩
 ·by_cases e:q=p/\j=i
  ·exact absurd (e.1 ▸ hq) h1
  ·rw [zbq _ _ e]
 ·by_cases e:q=p/\j=i
  ·obtain ⟨rfl,rfl⟩:=e
   rw [zbs]
   constructor
   ·rintro ⟨⟨b,e1⟩,e2⟩;exact ⟨⟨b,e1⟩,(h2 k b e1).1 e2⟩
   ·rintro ⟨⟨b,e1⟩,e2⟩;exact ⟨⟨b,e1⟩,(h2 k b e1).2 e2⟩
  ·rw [zbq _ _ e];exact .rfl
theorem Same.mag {i:Int} {u:MW} (h:x≠c):Same x σ (σ.mag c i u):=
 ⟨fun _=> .rfl,fun _ _ _=> rfl,fun _ _ _=> .rfl,fun _ _ _=> .rfl,fun j=> zci _ _ (fun e=> h e.1)⟩
theorem zaz.page {o':Own} (h:zaz σ c o) (h1:∀ q,q≠p->(o'.h q↔o.h q)) (h1':o'.h p↔v= .held c)
  (h2:∀ q g,q≠p->g≠p->(o'.b q g↔o.b q g)) (h2':∀ g,g≠p->(o'.b p g↔v= .body g/\o.h g)) (h2'':∀ q,q≠p->(o'.b q p↔σ.pg q= .body p/\v= .held c)) (h2n:¬ o'.b p p) 
  (h3:∀ q i k,q≠p->(o'.w q i k↔o.w q i k)) (h3':∀ i k,(o'.w p i k\/∃ j,σ.mg c j= .entry p i k)↔((∃ b,v= .super k b)/\σ.sl p i= .way c))
  (h4:∀ i k j,o'.w p i k->σ.mg c j≠ .entry p i k):zaz (σ.page p v) c o':=by
 refine ⟨fun q=> ?_,fun q g=> ?_,fun q i k=> ?_,fun q i k j hw=> ?_⟩
 ·by_cases e:q=p
  ·subst e;rw [za4];exact h1'.symm
  ·rw [zbd _ _ e,h1 q e];exact h.h q
 ·by_cases e:q=p
  ·subst e
   rw [za4]
   by_cases e2:g=q
   ·subst e2
    rw [za4]
    constructor
    ·rintro ⟨a,b⟩;rw [a] at b;cases b
    ·intro a;exact absurd a h2n
   ·rw [zbd _ _ e2,h2' g e2,h.h g]
  ·rw [zbd _ _ e]
   by_cases e2:g=p
   ·subst e2
    rw [za4];exact (h2'' q e).symm
   ·rw [zbd _ _ e2,h2 q g e e2];exact h.b q g
 ·by_cases e:q=p
  ·subst e;rw [za4];exact (h3' i k).symm
  ·rw [zbd _ _ e];exact (h.w q i k).trans (or_congr (h3 q i k e).symm .rfl)
 ·by_cases e:q=p
  ·subst e;exact h4 i k j hw
  ·exact h.d q i k j ((h3 q i k e).1 hw)
theorem zaz.slot {o':Own} {i:Int} {u:SW} (h:zaz σ c o) (h1:∀ q,o'.h q↔o.h q) (h2:∀ q g,o'.b q g↔o.b q g) (h3:∀ q j k,¬ (q=p/\j=i)->(o'.w q j k↔o.w q j k))
  (h4:∀ k,(o'.w p i k\/∃ j,σ.mg c j= .entry p i k)↔((∃ b,σ.pg p= .super k b)/\u= .way c)) (h5:∀ k j,o'.w p i k->σ.mg c j≠ .entry p i k):zaz (σ.slot p i u) c o':=by
 refine ⟨fun q=> (h.h q).trans (h1 q).symm,fun q g=> (h.b q g).trans (h2 q g).symm,fun q j k=> ?_,fun q j k y hw=> ?_⟩
 ·by_cases e:q=p/\j=i
  ·obtain ⟨rfl,rfl⟩:=e;rw [zbs];exact (h4 k).symm
  ·rw [zbq _ _ e];exact (h.w q j k).trans (or_congr (h3 q j k e).symm .rfl)
 ·by_cases e:q=p/\j=i
  ·obtain ⟨rfl,rfl⟩:=e;exact h5 k y hw
  ·exact h.d q j k y ((h3 q j k e).1 hw)
end

end Go.Proofs.YtampacmmhhilaaaGreat
