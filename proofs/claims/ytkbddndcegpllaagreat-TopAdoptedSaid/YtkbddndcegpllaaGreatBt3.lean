/- Texts bound together: MchV MchO MchN. -/
import Derived.Test.YtkbddndcegpllaaGreatBt2

set_option linter.all false
namespace Go.Proofs.YtkbddndcegpllaaGreat

section

open Go.RowKit

def zaa (w:World) (q:Nat) (cs:Array Value) (T:TypeId):Prop:=w.heap[q]?=some (.cells cs T (0,0))
theorem Only.weak{F G:Nat->Prop}{w w':World}(h:Only F w w')(f:∀ k,F k->G k):Only G w w':=⟨h.os,h.tape,h.output,h.size,fun k j i=>h.block k j (fun e=>i (f k e))⟩
theorem zaa.lt{w:World}{q:Nat}{cs:Array Value}{T:TypeId}(h:zaa w q cs T):q<w.heap.size:=(Array.getElem?_eq_some_iff.1 h).1
theorem zaa.set{w:World}{q:Nat}{cs:Array Value}{T:TypeId}(h:zaa w q cs T)(i:Nat)(v:Value):zaa (w.setCell ⟨q,i,.none⟩ v) q (cs.setIfInBounds i v) T:=heap_setCell_same w q i _ _ v h
theorem zaa.other{w:World}{q:Nat}{cs:Array Value}{T:TypeId}(h:zaa w q cs T){k:Nat}(f:q≠k)(i:Nat)(v:Value):zaa (w.setCell ⟨k,i,.none⟩ v) q cs T:=(Below.heap_setCell w ⟨k,i,.none⟩ v q f).trans h
theorem zaa.cast{w:World}{q:Nat}{cs cs':Array Value}{T:TypeId}(h:zaa w q cs T)(e:cs=cs'):zaa w q cs' T:=e ▸ h
theorem zaa.below{w w':World}{q:Nat}{cs:Array Value}{T:TypeId}(h:zaa w q cs T)(hb:Below w.heap.size w w'):zaa w' q cs T:=(hb.block q h.lt).trans h
theorem zaa.only{F:Nat->Prop}{w w':World}{q:Nat}{cs:Array Value}{T:TypeId}(h:zaa w q cs T)(i:Only F w w')(f:¬ F q):zaa w' q cs T:=(i.block q h.lt f).trans h
theorem zaa.cell{w:World}{q:Nat}{cs:Array Value}{T:TypeId}(h:zaa w q cs T)(i:Nat):w.cell? ⟨q,i,.none⟩=cs[i]?:=zac h i
theorem zaa.drew{w:World}{q:Nat}{cs:Array Value}{T:TypeId}(h:zaa w q cs T):zaa w.drew q cs T:=h
theorem zaa.drewN{w:World}{q:Nat}{cs:Array Value}{T:TypeId}(h:zaa w q cs T)(n:Nat):zaa (w.drewN n) q cs T:=h
theorem zaa.alloc{w:World}{q:Nat}{cs:Array Value}{T:TypeId}(h:zaa w q cs T)(o:Obj):zaa (w.alloc o) q cs T:=(Below.heap_alloc w o q h.lt).trans h
theorem zaq.zfe{w w':World}{p b:Nat}{m:Mem}(h:zaq w p b m)(f:w'.heap[p]?=w.heap[p]?)(i:w'.heap[b]?=w.heap[b]?):zaq w' p b m:=⟨h.ne,f.trans h.blk,i.trans h.row,h.fit,h.few,h.stb⟩
theorem zaq.ltp{w:World}{p b:Nat}{m:Mem}(h:zaq w p b m):p<w.heap.size:=zaa.lt h.blk
theorem zaq.ltb{w:World}{p b:Nat}{m:Mem}(h:zaq w p b m):b<w.heap.size:=zaa.lt h.row
theorem zaq.other{w:World}{p b:Nat}{m:Mem}(h:zaq w p b m){q:Nat}(f:q≠p)(hb:q≠b)(i:Nat)(v:Value):zaq (w.setCell ⟨q,i,.none⟩ v) p b m:=
 h.zfe (Below.heap_setCell w ⟨q,i,.none⟩ v p (Ne.symm f)) (Below.heap_setCell w ⟨q,i,.none⟩ v b (Ne.symm hb))
theorem zaq.below{w w':World}{p b:Nat}{m:Mem}(h:zaq w p b m)(hb:Below w.heap.size w w'):zaq w' p b m:=h.zfe (hb.block p h.ltp) (hb.block b h.ltb)
theorem zaq.drew{w:World}{p b:Nat}{m:Mem}(h:zaq w p b m):zaq w.drew p b m:=h.zfe rfl rfl
theorem zaq.drewN{w:World}{p b:Nat}{m:Mem}(h:zaq w p b m)(n:Nat):zaq (w.drewN n) p b m:=h.zfe rfl rfl
theorem zaq.alloc{w:World}{p b:Nat}{m:Mem}(h:zaq w p b m)(o:Obj):zaq (w.alloc o) p b m:=h.zfe (Below.heap_alloc w o p h.ltp) (Below.heap_alloc w o b h.ltb)
theorem zaq.only{F:Nat->Prop}{w w':World}{p b:Nat}{m:Mem}(h:zaq w p b m)(f:Only F w w')(i:¬ F p)(hb:¬ F b):zaq w' p b m:=h.zfe (f.block p h.ltp i) (f.block b h.ltb hb)
theorem boxedB{w w':World}{o:Obj}(h:Below (w.alloc o).heap.size (w.alloc o) w'):Below w.heap.size w w':=zab (br.alloc lr _) h
def Born (w w':World) (e:Ending) (cs:Array Value) (T:TypeId):Prop:=∃ q,e= .returned (.pointer (some ⟨q,0,.none⟩))/\w.heap.size<=q/\zaa w' q cs T/\Below w.heap.size w w'
theorem Born.mk{w w':World}{cs:Array Value}{T:TypeId}{q:Nat}(f:w.heap.size<=q)(i:zaa w' q cs T)(j:Below w.heap.size w w'):Born w w' (.returned (.pointer (some ⟨q,0,.none⟩))) cs T:=⟨q,rfl,f,i,j⟩
theorem za6{w W X:World}{cs cs':Array Value}{T:TypeId}(hb:Below w.heap.size w W)(i:Below W.heap.size W X)(e:cs=cs'):Born w (X.alloc (.cells cs T)) (.returned (.pointer (some ⟨X.heap.size,0,.none⟩))) cs' T:=by
 subst e;have f:=zab hb i;exact⟨_,rfl,f.size,heap_alloc_new _ _,f.trans (br.alloc f.size _)⟩
structure At3 (q p b:Nat) (w w':World) (cs:Array Value) (T:TypeId) (m:Mem):Prop where
 row:zaa w' q cs T
 wds:zaq w' p b m
 only:Only (fun k=> k=q\/k=p\/k=b) w w'
 qp:q≠p
 qb:q≠b
 ls:q < w.heap.size/\p < w.heap.size/\b < w.heap.size
section

variable {q p b:Nat} {w w' w'':World} {cs cs':Array Value} {T:TypeId} {m m':Mem}

theorem At3.start(i:zaa w q cs T)(f:zaq w p b m)(j:q≠p)(l:q≠b):At3 q p b w w cs T m:=⟨i,f,Only.refl _ _,j,l,i.lt,f.ltp,f.ltb⟩
theorem At3.below(h:At3 q p b w w' cs T m)(hb:Below w'.heap.size w' w''):At3 q p b w w'' cs T m:=⟨h.row.below hb,h.wds.below hb,h.only.trans (Only.of_below (F:=fun _=>False) hb) (fun _ _ h=>h.elim),h.qp,h.qb,h.ls⟩
theorem At3.set(h:At3 q p b w w' cs T m)(i:Nat)(v:Value):At3 q p b w (w'.setCell ⟨q,i,.none⟩ v) (cs.setIfInBounds i v) T m:=⟨h.row.set i v,h.wds.other h.qp h.qb i v,h.only.setCell (.inl (.inl rfl)) _,h.qp,h.qb,h.ls⟩
theorem At3.drew(h:At3 q p b w w' cs T m):At3 q p b w w'.drew cs T m:=⟨h.row.drew,h.wds.drew,h.only.drew,h.qp,h.qb,h.ls⟩
theorem At3.drewN(h:At3 q p b w w' cs T m)(n:Nat):At3 q p b w (w'.drewN n) cs T m:=⟨h.row.drewN n,h.wds.drewN n,h.only.drewN n,h.qp,h.qb,h.ls⟩
theorem At3.alloc(h:At3 q p b w w' cs T m)(o:Obj):At3 q p b w (w'.alloc o) cs T m:=⟨h.row.alloc o,h.wds.alloc o,h.only.alloc o,h.qp,h.qb,h.ls⟩
theorem At3.new(h:At3 q p b w w' cs T m){k:Nat}(f:w.heap.size<=k)(i:Nat)(v:Value):At3 q p b w (w'.setCell ⟨k,i,.none⟩ v) cs T m:=by
 have:=h.ls;exact⟨h.row.other (by omega) i v,h.wds.other (by omega) (by omega) i v,h.only.setCell (.inr f) _,h.qp,h.qb,h.ls⟩
theorem At3.load(h:At3 q p b w w' cs T m)(i:zaq w'' p b m')(f:Only (fun k=>k=p) w' w''):At3 q p b w w'' cs T m':=
 ⟨h.row.only f h.qp,i,h.only.trans f (fun _ _ e=>.inr (.inl e)),h.qp,h.qb,h.ls⟩
theorem At3.access(h:At3 q p b w w' cs T m)(i:zaq w'' p b m')(f:Only (fun k=>k=p\/k=b) w' w''):At3 q p b w w'' cs T m':=
 ⟨h.row.only f (fun e=>e.elim h.qp h.qb),i,h.only.trans f (fun _ _ e=>.inr e),h.qp,h.qb,h.ls⟩
theorem At3.far{B:Nat}(h:At3 q p b w w' cs T m)(n:B<=w'.heap.size)(f:Only (fun k=>B<=k) w' w'')(l:w.heap.size<=B:=by assumption):At3 q p b w w'' cs T m:=by
 have:=h.ls;exact⟨h.row.only f (by omega),h.wds.only f (by omega) (by omega),⟨f.os.trans h.only.os,f.tape.trans h.only.tape,f.output.trans h.only.output,Nat.le_trans h.only.size f.size,fun k j i=>(f.block k (by have:=h.only.size;omega) (by omega)).trans (h.only.block k j i)⟩,h.qp,h.qb,h.ls⟩
theorem At3.free(h:At3 q p b w w' cs T m)(i:Nat):w'.frozen? ⟨q,i,.none⟩=false:=zax h.row i
theorem At3.lt(h:At3 q p b w w' cs T m):q<w'.heap.size:=h.row.lt
theorem At3.cell(h:At3 q p b w w' cs T m)(i:Nat):w'.cell? ⟨q,i,.none⟩=cs[i]?:=h.row.cell i
end

structure Stepped (q p b:Nat) (w w':World) (e:Ending) (cs:Array Value) (T:TypeId) (m:Mem):Prop where
 ret:e= .returned (.tuple #[])
 row:zaa w' q cs T
 wds:zaq w' p b m
 only:Only (fun k=> k=q\/k=p\/k=b) w w'
theorem At3.fin{q p b:Nat}{w w':World}{cs cs':Array Value}{T:TypeId}{m m':Mem}(h:At3 q p b w w' cs T m)(e:cs=cs')(f:m=m'):Stepped q p b w w' (.returned (.tuple #[])) cs' T m':=by
 subst e f;exact⟨rfl,h.row,h.wds,h.only⟩
structure Turned (q:Nat) (w w':World) (e:Ending) (cs:Array Value) (T:TypeId):Prop where
 ret:e= .returned (.tuple #[])
 row:zaa w' q cs T
 only:Only (fun k=> k=q) w w'
theorem At3.turned{q p b:Nat}{w w' w'':World}{e:Ending}{cs cs':Array Value}{T:TypeId}{m:Mem}(h:At3 q p b w w' cs T m)(f:Turned q w' w'' e cs' T):At3 q p b w w'' cs' T m:=
 ⟨f.row,h.wds.only f.only h.qp.symm h.qb.symm,h.only.trans f.only (fun _ _ e=>.inl e),h.qp,h.qb,h.ls⟩
structure At1 (q:Nat) (w w':World) (cs:Array Value) (T:TypeId):Prop where
 row:zaa w' q cs T
 only:Only (fun k=> k=q) w w'
 ls:q < w.heap.size
section

variable {q:Nat} {w w' w'':World} {cs cs':Array Value} {T:TypeId}

theorem At1.start(f:zaa w q cs T):At1 q w w cs T:=⟨f,Only.refl _ _,f.lt⟩
theorem At1.below(h:At1 q w w' cs T)(hb:Below w'.heap.size w' w''):At1 q w w'' cs T:=⟨h.row.below hb,h.only.trans (Only.of_below (F:=fun _=>False) hb) (fun _ _ h=>h.elim),h.ls⟩
theorem At1.set(h:At1 q w w' cs T)(i:Nat)(v:Value):At1 q w (w'.setCell ⟨q,i,.none⟩ v) (cs.setIfInBounds i v) T:=⟨h.row.set i v,h.only.setCell (.inl rfl) _,h.ls⟩
theorem At1.drewN(h:At1 q w w' cs T)(n:Nat):At1 q w (w'.drewN n) cs T:=⟨h.row.drewN n,h.only.drewN n,h.ls⟩
theorem At1.turned{e:Ending}(h:At1 q w w' cs T)(f:Turned q w' w'' e cs' T):At1 q w w'' cs' T:=⟨f.row,h.only.trans f.only (fun _ _ e=>e),h.ls⟩
theorem At1.free(h:At1 q w w' cs T)(i:Nat):w'.frozen? ⟨q,i,.none⟩=false:=zax h.row i
theorem At1.lt(h:At1 q w w' cs T):q<w'.heap.size:=h.row.lt
theorem At1.cell(h:At1 q w w' cs T)(i:Nat):w'.cell? ⟨q,i,.none⟩=cs[i]?:=h.row.cell i
theorem At1.fin(h:At1 q w w' cs T)(e:cs=cs'):Turned q w w' (.returned (.tuple #[])) cs' T:=by subst e;exact⟨rfl,h.row,h.only⟩
end

structure Fits (s:Sh) (m:Mem):Prop where
 may:mayB s.p s.c s.m=true
 len:(m.ws.length:Int)=zb6 s.p s.c s.m
theorem Fits.bd{s:Sh}{m:Mem}(h:Fits s m):1<=s.p/\s.p<=64/\1<=s.c/\s.c<=12/\0<=s.m/\s.m<=8:=zar.1 h.may
theorem Fits.zh1{s:Sh}{m m':Mem}(h:Fits s m)(e:m'.ws.length=m.ws.length):Fits s m':=⟨h.may,by rw[e];exact h.len⟩
@[simp] theorem Mem.yfw (m : Mem) (c a : Int) : (m.load c a).ws.length = m.ws.length := rfl
@[simp] theorem Mem.yd4 (m : Mem) (c a x : Int) : (m.store c a x).ws.length = m.ws.length := by simp [Mem.store]
@[simp] theorem Mem.yfu (m : Mem) (c a x y : Int) : (m.swap c a x y).ws.length = m.ws.length := by unfold Mem.swap; dsimp only; split <;> simp
theorem Fits.load{s:Sh}{m:Mem}(h:Fits s m)(c a:Int):Fits s (m.load c a):=h.zh1 (by simp)
theorem Fits.store{s:Sh}{m:Mem}(h:Fits s m)(c a x:Int):Fits s (m.store c a x):=h.zh1 (by simp)
theorem Fits.swap{s:Sh}{m:Mem}(h:Fits s m)(c a x y:Int):Fits s (m.swap c a x y):=h.zh1 (by simp)
theorem Fits.total{s:Sh}{m:Mem}(h:Fits s m):(m.ws.length:Int)=s.c+s.p+s.p*16+s.c*s.m:=by rw[h.len];unfold zb6;rw[if_pos h.may]
theorem Fits.magN{s:Sh}{m:Mem}(h:Fits s m):0<=s.c*s.m:=Int.mul_nonneg (by have:=h.bd;omega) (by have:=h.bd;omega)
theorem Fits.status{s:Sh}{m:Mem}(h:Fits s m){x:Int}(j:0<=x/\x<s.c):zae s.p s.c s.m x=x/\m.has x:=by
 have hb:=h.bd;have i:=h.total;have f:=h.magN;refine⟨by unfold zae;rw[if_pos ⟨h.may,zbc.2 (by omega)⟩],?_⟩;unfold Mem.has;omega
theorem Fits.page{s:Sh}{m:Mem}(h:Fits s m){x:Int}(j:0<=x/\x<s.p):zak s.p s.c s.m x=s.c+x/\m.has (s.c+x):=by
 have hb:=h.bd;have i:=h.total;have f:=h.magN;refine⟨by unfold zak;rw[if_pos ⟨h.may,zbc.2 (by omega)⟩],?_⟩;unfold Mem.has;omega
theorem Fits.slot{s:Sh}{m:Mem}(h:Fits s m){x i:Int}(l:0<=x/\x<s.p)(hi:0<=i/\i<16):zbk s.p s.c s.m x i=s.c+s.p+x*16+i/\m.has (s.c+s.p+x*16+i):=by
 have hb:=h.bd;have j:=h.total;have f:=h.magN;refine⟨by unfold zbk;rw[if_pos ⟨h.may,zbc.2 (by omega),zbc.2 (by omega)⟩],?_⟩;unfold Mem.has;omega
theorem Fits.mag{s:Sh}{m:Mem}(h:Fits s m){x i:Int}(f:0<=x/\x<s.c)(hi:0<=i/\i<s.m):ze9 s.p s.c s.m x i=s.c+s.p+s.p*16+x*s.m+i/\m.has (s.c+s.p+s.p*16+x*s.m+i):=by
 have hb:=h.bd;have r:=h.total;refine⟨by unfold ze9;rw[if_pos ⟨h.may,zbc.2 (by omega),zbc.2 (by omega)⟩],?_⟩;have j:0<=x*s.m:=Int.mul_nonneg f.1 (by omega);have l:x*s.m+s.m<=s.c*s.m:=by
  have n:(x+1)*s.m<=s.c*s.m:=Int.mul_le_mul_of_nonneg_right (by omega) (by omega);have o:(x+1)*s.m=x*s.m+s.m:=by rw[Int.add_mul,Int.one_mul]
  omega
 unfold Mem.has;omega
def pgK (s:Sh) (a x:Int):Int:=if zal s.p s.c s.m a x=true then zbx x else 0
def pgP (s:Sh) (a x:Int) (i:Nat):Int:=if zal s.p s.c s.m a x=true then za2 x i else 0
theorem zh3(s:Sh)(a x:Int)(w:World)(i:0<=x/\x<18446744073709551616):
  Calls Tryz.prog 118 #[.agg #[s.p,s.c,s.m],a,.int .u64 x] w fun e w'=>e= .returned (.tuple #[.agg #[.int .i64 (pgK s a x),.int .i64 (pgP s a x 0),.int .i64 (pgP s a x 1)],.bool (zal s.p s.c s.m a x)])/\Below w.heap.size w w':=by
 refine(zk2 s.p s.c s.m a x w i.1 i.2).mono ?_;rintro e w' ⟨hb,rfl⟩;refine⟨?_,hb⟩;unfold pgK pgP;cases zal s.p s.c s.m a x<;>rfl
theorem zbe{p c m x:Int}(h:0<=zae p c m x):mayB p c m=true/\0<=x/\x<c:=by
 unfold zae at h;by_cases f:mayB p c m=true/\wi x 0 (c-1)=true
 ·have:=zbc.1 f.2;exact⟨f.1,by omega,by omega⟩
 rw[if_neg f]at h;omega
theorem zcs{p c m x:Int}(h:0<=zak p c m x):mayB p c m=true/\0<=x/\x<p:=by
 unfold zak at h;by_cases f:mayB p c m=true/\wi x 0 (p-1)=true
 ·have:=zbc.1 f.2;exact⟨f.1,by omega,by omega⟩
 rw[if_neg f]at h;omega
theorem zb4{k:Int}(h:0<zah k):0<=k/\k<=3/\2<=zah k/\zah k<=16:=by
 unfold zah at *;split at h<;>(try split at h)<;>(try split at h)<;>(try split at h)<;>(try omega)<;>(subst_vars;decide)
theorem zj3(k:Int)(xs:List Int)(i:0<=k/\k<=15)(j:xs.length<=3):0<=putV k xs/\putV k xs<18446744073709551616:=by
 unfold putV;split
 ·rename_i h;have hb:=zsp xs h;have f:(256:Int)^xs.length<=16777216:=by
   have:xs.length=0\/xs.length=1\/xs.length=2\/xs.length=3:=by omega
   rcases this with e|e|e|e<;>rw[e]<;>decide
  omega
 omega
theorem zc0(k a b:Int):0<=zb8 k a b/\zb8 k a b<18446744073709551616:=by
 unfold zb8;split
 ·omega
 rename_i h;simp only[zfm,Bool.not_eq_true,Bool.or_eq_false_iff,decide_eq_false_iff_not]at h;exact zj3 _ _ (by omega) (by simp)
theorem zch(k a:Int):0<=zc3 k a/\zc3 k a<18446744073709551616:=by
 unfold zc3;split
 ·omega
 rename_i h;simp only[zgy,Bool.not_eq_true,Bool.or_eq_false_iff,decide_eq_false_iff_not]at h;exact zj3 _ _ (by omega) (by simp)
theorem zdz(k a:Int):0<=za8 k a/\za8 k a<18446744073709551616:=by
 unfold za8;split
 ·omega
 rename_i h;simp only[zho,Bool.not_eq_true,Bool.or_eq_false_iff,decide_eq_false_iff_not]at h;exact zj3 _ _ (by omega) (by simp)
end

section

theorem zea{p c m a x:Int}:zal p c m a x=true↔zb8 (zbx x) (za2 x 0) (za2 x 1)=x/\0<=zak p c m a/\zkb p c a (zbx x) (za2 x 0) (za2 x 1)=true:=by
 unfold zal;simp only[Bool.and_eq_true,beq_iff_eq,decide_eq_true_eq];exact and_assoc
theorem zdq{p c m a x:Int}(h:zal p c m a x=true)(i:zbx x=2):(0<=za2 x 0/\za2 x 0<=3)/\(0<=za2 x 1/\za2 x 1<c)/\0<zah (za2 x 0):=by
 obtain⟨_,_,f⟩:=zea.1 h;unfold zkb at f;rw[if_neg (by omega),if_pos i]at f;simp only[Bool.and_eq_true,decide_eq_true_eq]at f;have j:=zgv x 0;have l:=zgv x 1;refine⟨by omega,by omega,?_⟩;have:za2 x 0=0\/za2 x 0=1\/za2 x 0=2\/za2 x 0=3:=by omega
 rcases this with e|e|e|e<;>rw[e]<;>decide
theorem zn1{p c m a x:Int}(h:zal p c m a x=true)(i:zbx x=3):1<=za2 x 0/\za2 x 0<=8/\za2 x 0<=p-a:=by
 obtain⟨_,_,f⟩:=zea.1 h;unfold zkb at f;rw[if_neg (by omega),if_neg (by omega),if_pos i]at f;simp only[Bool.and_eq_true,decide_eq_true_eq]at f;omega
theorem zpu{p c m a x:Int}(h:zal p c m a x=true)(i:zbx x=4):0<=za2 x 0/\za2 x 0<a/\a-8<za2 x 0:=by
 obtain⟨_,_,f⟩:=zea.1 h;unfold zkb at f;rw[if_neg (by omega),if_neg (by omega),if_neg (by omega),if_pos i]at f;simp only[Bool.and_eq_true,decide_eq_true_eq]at f;have j:=zgv x 0;omega
theorem zsv{p c m x:Int}(h:zbi p c m x=true):(0<=za2 x 0/\za2 x 0<p)/\(0<=za2 x 1/\za2 x 1<zah (za2 x 2)):=by
 unfold zbi at h;simp only[Bool.and_eq_true,beq_iff_eq,decide_eq_true_eq]at h;have f:=zcs h.1.2;have i:=zgv x 1;omega
theorem zdg{k:Int}(h:0<zah k):zah k=16\/zah k=8\/zah k=4\/zah k=2:=by
 unfold zah at *;split<;>(try split)<;>(try split)<;>(try split)<;>simp_all
structure tkOk (s:Sh) (t:Tk):Prop where
 cl:t.done=false->(0<=t.c/\t.c < s.c)/\(0<=t.i/\t.i < s.m)
 en:t.hit=true->(0<=t.ep/\t.ep < s.p)/\(0<=t.es/\t.es < zah t.ek)/\t.ek=t.k
 fd:t.found=true->t.hit=true/\t.done=true
theorem zl1(s:Sh)(c k:Int):tkOk s (zg3 s c k):=by
 refine⟨fun h=>?_,fun h=>(by cases h),fun h=>(by cases h)⟩;simp only[zg3,Bool.or_eq_false_iff,Bool.not_eq_false',Bool.and_eq_true,decide_eq_true_eq,beq_eq_false_iff_ne]at h ⊢;obtain⟨⟨f,j⟩,l⟩:=h;have i:=zbe f;have n:=zar.1 i.1;omega
theorem z1c{s:Sh}{t:Tk}(m:Mem)(h:tkOk s t):tkOk s (zd2 s t m).1:=by
 obtain⟨l,n,j⟩:=h;unfold zd2;dsimp only;split
 ·exact⟨l,n,j⟩
 rename_i hd;have hd:t.done=false:=by simpa using hd
 have hc:=l hd;split
 ·rename_i f;exact⟨fun e=>(by cases e),fun _=>n f,fun _=>⟨f,rfl⟩⟩
 split
 ·rename_i o;have:=zsv o.1;exact⟨fun _=>hc,fun _=>⟨this.1,this.2,o.2⟩,fun e=>by have:=(j e).2;rw[hd]at this;cases this⟩
 rename_i f _;refine⟨fun e=>?_,fun e=>absurd e f,fun e=>absurd (j e).1 f⟩;have:¬ t.i+1=s.m:=by simpa using e
 dsimp only;omega
structure puOk (s:Sh) (t:Pu):Prop where
 cl:t.done=false->(0<=t.c/\t.c < s.c)/\(0<=t.i/\t.i < s.m)
theorem z4n(s:Sh)(c pg sl k:Int):puOk s (zg5 s c pg sl k):=by
 refine⟨fun h=>?_⟩;simp only[zg5,Bool.or_eq_false_iff,Bool.not_eq_false',Bool.and_eq_true,decide_eq_true_eq,beq_eq_false_iff_ne]at h ⊢;obtain⟨⟨⟨⟨⟨f,j⟩,o⟩,r⟩,t⟩,l⟩:=h;have i:=zbe f;have n:=zar.1 i.1;omega
theorem zq5{s:Sh}{t:Pu}(m:Mem)(h:puOk s t):puOk s (zd3 s t m).1:=by
 obtain⟨f⟩:=h;unfold zd3;dsimp only;split
 ·exact⟨f⟩
 rename_i hd;have hd:t.done=false:=by simpa using hd
 have hc:=f hd;split
 ·exact⟨fun e=>(by cases e)⟩
 split
 ·exact⟨fun _=>hc⟩
 refine⟨fun e=>?_⟩;have:¬ t.i+1=s.m:=by simpa using e
 dsimp only;omega
structure scOk (s:Sh) (t:Sc):Prop where
 cl:t.done=false->(0<=t.c/\t.c < s.c)/\0 < zah t.k/\(0<=t.first/\t.first < s.p)/\(0<=t.many/\t.many < s.p)/\(0<=t.i/\t.i < zah t.k)/\(0<=t.next/\t.next<=2)
 fd:t.found=true->t.done=true/\(0<=t.first/\t.first < s.p)/\(0<=t.many/\t.many < s.p)/\(0<=t.i/\t.i < zah t.k)
theorem z4p(s:Sh)(c k f:Int):scOk s (ziq s c k f):=by
 refine⟨fun h=>?_,fun h=>(by cases h)⟩;simp only[ziq,Bool.not_eq_false',Bool.and_eq_true,decide_eq_true_eq]at h ⊢;obtain⟨⟨i,l⟩,j⟩:=h;have n:=zbe i;have o:=zcs j;omega
theorem zrd{s:Sh}{t:Sc}(f:t.found=false)(h:(0<=t.c/\t.c<s.c)/\0<zah t.k/\(0<=t.first/\t.first<s.p)/\(0<=t.many/\t.many<s.p)):scOk s (t.turn s):=by
 refine⟨fun e=>?_,fun e=>?_⟩
 ·have:¬ t.many+1=s.p:=by simpa[Sc.turn] using e
  simp only[Sc.turn];omega
 simp only[Sc.turn]at e;rw[f]at e;cases e
theorem z0q{s:Sh}{t:Sc}(f:t.found=false)(h:(0<=t.c/\t.c<s.c)/\0<zah t.k/\(0<=t.first/\t.first<s.p)/\(0<=t.many/\t.many<s.p)/\(0<=t.i/\t.i<zah t.k)):scOk s (t.miss s):=by
 unfold Sc.miss;split
 ·exact zrd f ⟨h.1,h.2.1,h.2.2.1,h.2.2.2.1⟩
 refine⟨fun _=>?_,fun e=>?_⟩
 ·dsimp only;omega
 dsimp only at e;rw[f]at e;cases e
theorem zb7{f d:Bool}{Q:Prop}(h:f=true->d=true/\Q)(hd:d=false):f=false:=by
 cases f
 ·rfl
 have:=(h rfl).1;rw[hd]at this;cases this
theorem z2k{s:Sh}{t:Sc}(m:Mem)(h:scOk s t):scOk s (zed s t m).1:=by
 have i:=h.cl;unfold zed;dsimp only;split
 ·exact h
 rename_i hd;have hd:t.done=false:=by simpa using hd
 have hc:=i hd;have f:t.found=false:=zb7 h.fd hd;have l:scOk s (t.turn s):=zrd f ⟨hc.1,hc.2.1,hc.2.2.1,hc.2.2.2.1⟩;have j:scOk s (t.miss s):=z0q f ⟨hc.1,hc.2.1,hc.2.2.1,hc.2.2.2.1,hc.2.2.2.2.1⟩;split
 ·dsimp only;split
  ·refine⟨fun _=>?_,fun e=>?_⟩
   ·dsimp only;omega
   dsimp only at e;rw[f]at e;cases e
  exact l
 split
 ·dsimp only;split
  ·refine⟨fun _=>?_,fun e=>?_⟩
   ·dsimp only;omega
   dsimp only at e;rw[f]at e;cases e
  exact j
 dsimp only;split
 ·exact⟨fun e=>(by cases e),fun _=>⟨rfl,hc.2.2.1,hc.2.2.2.1,hc.2.2.2.2.1⟩⟩
 exact j
structure pcOk (s:Sh) (t:Pc):Prop where
 cl:t.done=false->(0<=t.c/\t.c < s.c)/\(0<=t.first/\t.first < s.p)/\(0<=t.many/\t.many < s.p)
 fd:t.found=true->t.done=true/\(0<=t.first/\t.first < s.p)/\(0<=t.many/\t.many < s.p)
theorem z5p(s:Sh)(c f:Int):pcOk s (zlu s c f):=by
 refine⟨fun h=>?_,fun h=>(by cases h)⟩;simp only[zlu,Bool.or_eq_false_iff,decide_eq_false_iff_not]at h ⊢;obtain⟨i,j⟩:=h;have l:=zbe (by omega:0<=zae s.p s.c s.m c);have n:=zcs (by omega:0<=zak s.p s.c s.m f);omega
theorem z3v{s:Sh}{t:Pc}(m:Mem)(h:pcOk s t):pcOk s (ze7 s t m).1:=by
 have i:=h.cl;unfold ze7;dsimp only;split
 ·exact h
 rename_i hd;have hd:t.done=false:=by simpa using hd
 have hc:=i hd;have j:t.found=false:=zb7 h.fd hd;have f:pcOk s {t with empty:=false,many:=t.many+1,done:=decide (t.many+1=s.p)}:=by
  refine⟨fun e=>?_,fun e=>?_⟩
  ·have:¬ t.many+1=s.p:=by simpa using e
   dsimp only;omega
  dsimp only at e;rw[j]at e;cases e
 split
 ·dsimp only;split
  ·refine⟨fun _=>hc,fun e=>?_⟩;dsimp only at e;rw[j]at e;cases e
  exact f
 dsimp only;split
 ·exact⟨fun e=>(by cases e),fun _=>⟨rfl,hc.2⟩⟩
 exact f
structure spOk (s:Sh) (t:Sp):Prop where
 cl:t.done=false->(0<=t.c/\t.c < s.c)/\(0<=t.page/\t.page < s.p)/\0 < zah t.k/\(0<=t.i/\t.i<=zah t.k)/\(t.back=true->0 < t.i)
 fd:t.held=true->t.done=true
theorem zwx(s:Sh)(c pg k:Int):spOk s (zfa s c pg k):=by
 refine⟨fun h=>?_,fun h=>(by cases h)⟩;simp only[zfa,Bool.not_eq_false',Bool.and_eq_true,decide_eq_true_eq]at h ⊢;obtain⟨⟨f,i⟩,j⟩:=h;have l:=zbe f;have n:=zcs i;refine⟨by omega,by omega,by omega,by omega,fun e=>(by cases e)⟩
theorem znr{s:Sh}{t:Sp}(m:Mem)(h:spOk s t):spOk s (zdu s t m).1:=by
 have f:=h.cl;unfold zdu;split
 ·exact h
 rename_i hd;have hd:t.done=false:=by simpa using hd
 have hc:=f hd;have j:t.held=false:=by
  rcases Bool.eq_false_or_eq_true t.held with e|e
  ·have:=h.fd e;rw[hd]at this;cases this
  exact e
 split
 ·rename_i hb;refine⟨fun e=>?_,fun e=>?_⟩
  ·have:¬ t.i-1=0:=by simpa using e
   have:=hc.2.2.2.2 hb;refine⟨hc.1,hc.2.1,hc.2.2.1,by dsimp only;omega,fun _=>by dsimp only;omega⟩
  dsimp only at e;rw[j]at e;cases e
 rename_i hb;split
 ·exact⟨fun e=>(by cases e),fun _=>rfl⟩
 rename_i hi;dsimp only;split
 ·refine⟨fun _=>⟨hc.1,hc.2.1,hc.2.2.1,by dsimp only;omega,fun e=>absurd e hb⟩,fun e=>?_⟩;dsimp only at e;rw[j]at e;cases e
 refine⟨fun e=>?_,fun e=>?_⟩
 ·have:¬ t.i=0:=by simpa using e
  exact⟨hc.1,hc.2.1,hc.2.2.1,hc.2.2.2.1,fun _=>by dsimp only;omega⟩
 dsimp only at e;rw[j]at e;cases e
structure bnOk (s:Sh) (t:Bn):Prop where
 cl:t.done=false->(0<=t.c/\t.c < s.c)/\(0<=t.page/\t.page < s.p)/\0 < zah t.k/\(0<=t.i/\t.i<=16)/\(t.bound=true->0 < t.i/\t.i < zah t.k)
theorem z7r(s:Sh)(c pg k:Int):bnOk s (zfi s c pg k):=by
 refine⟨fun h=>?_⟩;simp only[zfi,Bool.not_eq_false',Bool.and_eq_true,decide_eq_true_eq]at h ⊢;obtain⟨⟨f,i⟩,j⟩:=h;have l:=zbe f;have n:=zcs i;refine⟨by omega,by omega,by omega,by omega,fun e=>(by cases e)⟩
theorem z3k{s:Sh}{t:Bn}(m:Mem)(h:bnOk s t):bnOk s (ze6 s t m).1:=by
 have f:=h.cl;unfold ze6;split
 ·exact h
 rename_i hd;have hd:t.done=false:=by simpa using hd
 have hc:=f hd;split
 ·rename_i hb;refine⟨fun e=>?_⟩;have:¬ t.i-1=0:=by simpa using e
  have:=hc.2.2.2.2 hb;refine⟨hc.1,hc.2.1,hc.2.2.1,by dsimp only;omega,fun _=>by dsimp only;omega⟩
 rename_i hb;split
 ·refine⟨fun _=>⟨hc.1,hc.2.1,hc.2.2.1,?_,fun _=>?_⟩⟩<;>have:=zdg hc.2.2.1<;>dsimp only<;>omega
 exact⟨fun _=>⟨hc.1,hc.2.1,hc.2.2.1,by dsimp only;omega,fun e=>absurd e hb⟩⟩
def mcOk (s:Sh):Mc->Prop
 | .tk t=> tkOk s t
 | .sc t=> scOk s t
 | .pc t=> pcOk s t
 | .sp t=> spOk s t
 | .bn t=> bnOk s t
theorem zjq{s:Sh}{x:Mc}(m:Mem)(h:mcOk s x):mcOk s (zbr s x m).1:=by
 cases x with
 |tk t=>exact z1c m h
 |sc t=>exact z2k m h
 |pc t=>exact z3v m h
 |sp t=>exact znr m h
 |bn t=>exact z3k m h
def zxi (s:Sh) (t:Sk):Mc->Prop
 | .tk x=> x.k=t.k
 | .sc x=> x.k=t.k
 | .pc _=> True
 | .sp _=> True
 | .bn _=> 0<=t.page/\t.page < s.p
theorem z4s(s:Sh)(t:Tk)(m:Mem):(zd2 s t m).1.k=t.k:=by unfold zd2;dsimp only;split<;>(try split)<;>(try split)<;>rfl
theorem z6f(s:Sh)(t:Sc)(m:Mem):(zed s t m).1.k=t.k:=by
 have f:(t.miss s).k=t.k:=by unfold Sc.miss;split<;>rfl
 unfold zed;dsimp only;split
 ·rfl
 split
 ·dsimp only;split<;>rfl
 split
 ·dsimp only;split<;>first|rfl|exact f
 dsimp only;split<;>first|rfl|exact f
theorem zg1{s:Sh}{t:Sk}{x:Mc}(m:Mem)(h:zxi s t x):zxi s t (zbr s x m).1:=by
 cases x with
 |tk y=>exact(z4s s y m).trans h
 |sc y=>exact(z6f s y m).trans h
 |pc y=>trivial
 |sp y=>trivial
 |bn y=>exact h
structure skOk (s:Sh) (t:Sk):Prop where
 cl:t.done=false->(0<=t.c/\t.c < s.c)/\0 < zah t.k/\(0<=t.first/\t.first < s.p)/\(0<=t.many/\t.many < s.p)/\(∀ x,t.now=some x->mcOk s x/\zxi s t x)
 fd:t.found=true->t.done=true/\(0<=t.page/\t.page < s.p)/\(0<=t.slot/\t.slot < zah t.k)
theorem zqd{s:Sh}{t:Sk}{pg sl:Int}(f:0<=pg/\pg<s.p)(i:0<=sl/\sl<zah t.k):skOk s (t.fin pg sl):=⟨fun e=>(by cases e),fun _=>⟨rfl,f,i⟩⟩
theorem zrr{s:Sh}{t:Sk}{pg:Int}(h:skOk s t)(hd:t.done=false)(j:0<=pg/\pg<s.p):skOk s (t.bind s pg):=by
 obtain⟨c1,c2,c3,i,l⟩:=h.cl hd;refine⟨fun _=>⟨c1,c2,c3,i,fun x f=>?_⟩,fun e=>?_⟩
 ·simp only[Sk.bind,Option.some.injEq]at f;subst f;exact⟨z7r _ _ _ _,j⟩
 have:=zb7 h.fd hd;simp only[Sk.bind]at e;rw[this]at e;cases e
theorem zsb{s:Sh}{t:Sk}(h:skOk s t)(hd:t.done=false):skOk s (t.turn s):=by
 obtain⟨c1,c2,c3,i,j⟩:=h.cl hd;refine⟨fun e=>⟨c1,c2,c3,?_,fun x f=>(by cases f)⟩,fun e=>?_⟩
 ·have:¬ t.many+1=s.p:=by simpa[Sk.turn] using e
  simp only[Sk.turn];omega
 have:=zb7 h.fd hd;simp only[Sk.turn]at e;rw[this]at e;cases e
theorem Sk.zt4{s:Sh}(t:Sk)(h:1<=s.p):0<=t.here s/\t.here s<s.p:=⟨Int.emod_nonneg _ (by omega),Int.emod_lt_of_pos _ (by omega)⟩
theorem zid{s:Sh}{t:Sk}{x:Mc}(h:skOk s t)(hd:t.done=false)(I:t.now=some x)(J:x.done=true)(H:1<=s.p):skOk s (t.after s x):=by
 obtain⟨c1,c2,c3,C,G⟩:=h.cl hd;obtain⟨o,n⟩:=G x I;have F:=zb7 h.fd hd;have nx:∀ y,mcOk s y->zxi s t y->skOk s {t with now:=some y}:=fun y r B=>⟨fun _=>⟨c1,c2,c3,C,fun z i=>by simp only[Option.some.injEq]at i;subst i;exact⟨r,B⟩⟩,fun e=>(by have e:t.found=true:=e;rw[F]at e;cases e)⟩;cases x with
 |tk y=>
  simp only[Sk.after];split
  ·rename_i f;obtain⟨D,E,j⟩:=o.en (o.fd f).1;have l:y.k=t.k:=n;exact zqd D (by rw[<-l,<- j];exact E)
  exact nx (.sc _) (z4p _ _ _ _) rfl
 |sc y=>
  simp only[Sk.after];split
  ·rename_i f;obtain⟨_,D,E,j⟩:=o.fd f;have l:y.k=t.k:=n;exact zqd ⟨Int.emod_nonneg _ (by omega),Int.emod_lt_of_pos _ (by omega)⟩ (by rw[<-l];exact j)
  exact nx (.pc _) (z5p _ _ _) trivial
 |pc y=>
  simp only[Sk.after];split
  ·exact zrr h hd ⟨Int.emod_nonneg _ (by omega),Int.emod_lt_of_pos _ (by omega)⟩
  exact⟨fun _=>⟨c1,c2,c3,C,fun z i=>(by cases i)⟩,fun e=>(by have e:t.found=true:=e;rw[F]at e;cases e)⟩
 |sp y=>
  simp only[Sk.after];split
  ·exact zrr h hd (t.zt4 H)
  exact zsb h hd
 |bn y=>simp only[Sk.after];exact zqd n (by omega)
theorem znn{s:Sh}(f:1<=s.p)(n:Nat):∀ {t:Sk},skOk s t->skOk s (za5 s n t):=by
 induction n with
 |zero=>intro t h;exact h;|succ n j=>
  intro t h;unfold za5;split
  ·rename_i x i;split
   ·rename_i hc;exact j (zid h hc.1 i hc.2 f)
   exact h
  exact h
theorem zwd(s:Sh)(c k f:Int):skOk s (zhb s c k f):=by
 unfold zhb;split
 ·rename_i h;have j:=zbe h.1;have l:=zar.1 j.1;have n:=zcs h.2.2;refine znn l.1 5 ⟨fun _=>⟨by dsimp only;omega,h.2.1,by dsimp only;omega,by dsimp only;omega,fun x i=>?_⟩,fun e=>(by cases e)⟩;simp only[Option.some.injEq]at i;subst i;exact⟨zl1 _ _ _,rfl⟩
 exact⟨fun e=>(by cases e),fun e=>(by cases e)⟩
theorem z2o{s:Sh}{t:Sk}(m:Mem)(r:1<=s.p)(h:skOk s t):skOk s (zbv s t m).1:=by
 unfold zbv;split
 ·exact h
 rename_i hd;have hd:t.done=false:=by simpa using hd
 obtain⟨c1,c2,c3,i,l⟩:=h.cl hd;have j:=zb7 h.fd hd;split
 ·rename_i x y;obtain⟨o,n⟩:=l x y;show skOk s (za5 s 5 {t with now:=some (zbr s x m).1});refine znn r 5 ⟨fun _=>⟨c1,c2,c3,i,fun z f=>?_⟩,fun e=>(by have e:t.found=true:=e;rw[j]at e;cases e)⟩;simp only[Option.some.injEq]at f;subst f;exact⟨zjq m o,zg1 (t:=t) m n⟩
 dsimp only;split
 ·refine⟨fun _=>⟨c1,c2,c3,i,fun z f=>?_⟩,fun e=>(by have e:t.found=true:=e;rw[j]at e;cases e)⟩;simp only[Option.some.injEq]at f;subst f;exact⟨zwx _ _ _ _,trivial⟩
 exact zsb h hd
def zdj (t:Sk):Nat:=if t.done=true then 0 else match t.now with
 | none=> 0
 | some (.tk _)=> 4
 | some (.sc _)=> 3
 | some (.pc _)=> 2
 | some (.sp _)=> 2
 | some (.bn _)=> 1
theorem ze1{s:Sh}{t:Sk}{x:Mc}(hd:t.done=false)(r:t.now=some x):zdj (t.after s x)<zdj t:=by
 have o:zdj t=match (some x:Option Mc) with|none=>0|some (.tk _)=>4|some (.sc _)=>3|some (.pc _)=>2|some (.sp _)=>2|some (.bn _)=>1:=by unfold zdj;rw[if_neg (by rw[hd];decide),r]
 rw[o];have j:zdj (t.turn s)=0:=by unfold zdj Sk.turn;dsimp only;split<;>rfl
 have l:∀ a b,zdj (t.fin a b)=0:=fun _ _=>by unfold zdj Sk.fin;rw[if_pos rfl]
 have n:∀ y,zdj {t with now:=some y}=match (some y:Option Mc) with|none=>0|some (.tk _)=>4|some (.sc _)=>3|some (.pc _)=>2|some (.sp _)=>2|some (.bn _)=>1:=fun y=>by unfold zdj;rw[if_neg (by dsimp only;rw[hd];decide)]
 have f:∀ a,zdj (t.bind s a)=1:=fun a=>by unfold zdj Sk.bind;rw[if_neg (by dsimp only;rw[hd];decide)]
 have i:zdj {t with now:=none}=0:=by unfold zdj;rw[if_neg (by dsimp only;rw[hd];decide)]
 cases x<;>simp only[Sk.after]<;>(try split)<;>simp only[j,l,n,f,i]<;>decide
theorem zp9{s:Sh}(n:Nat):∀ (t:Sk),zdj t<=n->za5 s (n+1) t=za5 s n t:=by
 induction n with
 |zero=>
  intro t h;conv=>lhs;unfold za5
  conv=>rhs;unfold za5
  split
  ·rename_i x f;rw[if_neg];intro hc;have:=ze1 (s:=s) hc.1 f;omega
  rfl
 |succ n i=>
  intro t h;conv=>lhs;unfold za5
  conv=>rhs;unfold za5
  split
  ·rename_i x f;split
   ·rename_i hc;have:=ze1 (s:=s) hc.1 f;exact i (t.after s x) (by omega)
   rfl
  rfl
theorem zpr{s:Sh}{t:Sk}{n:Nat}(h:zdj t<=n)(k:Nat):za5 s (n+k) t=za5 s n t:=by
 induction k with
 |zero=>rfl
 |succ k f=>rw[<-f];exact zp9 (n+k) t (by omega)
theorem zrw(t:Sk):zdj t<=4:=by unfold zdj;split<;>(try split)<;>omega
theorem zgs{s:Sh}{t:Sk}(h:t.done=true\/t.now=none\/∃ x,t.now=some x/\x.done=false)(n:Nat):za5 s n t=t:=by
 cases n with
 |zero=>rfl;|succ n=>
  unfold za5;split
  ·rename_i x i;rw[if_neg];rintro⟨j,l⟩;rcases h with h|h|⟨y,h,f⟩
   ·rw[j]at h;cases h
   ·rw[i]at h;cases h
   rw[i]at h;obtain rfl:=Option.some.inj h;rw[l]at f;cases f
  rfl
theorem zm5{s:Sh}{t:Sk}{x:Mc}(hd:t.done=false)(i:t.now=some x)(f:x.done=true):za5 s 5 t=za5 s 5 (t.after s x):=by
 have j:=ze1 (s:=s) hd i;have l:=zrw t;rw[zpr (n:=4) (t:=t.after s x) (by omega) 1];show za5 s (4+1) t=_;conv=>lhs;unfold za5
 rw[i];dsimp only;rw[if_pos ⟨hd,f⟩]
structure rnOk (s:Sh) (t:Rn):Prop where
 cl:t.done=false->(0<=t.c/\t.c < s.c)/\(1<=t.pages/\t.pages<=8)/\(0<=t.head/\t.head + t.pages<=s.p)/\(t.head<=t.at'/\t.at'<=t.head + t.pages)/\(0<=t.next/\t.next<=5)/\
  (t.next≠5->t.at' < t.head + t.pages)/\(t.next=2->∃ x,t.strip=some x/\spOk s x/\x.done=false)/\(t.next=3->0<=t.i/\t.i < 16)/\(t.next=4->t.head < t.i/\t.i<=t.at')/\(t.next=5->t.head < t.i/\t.i < t.head + t.pages)
 fd:t.found=true->t.done=true/\(1<=t.pages/\t.pages<=8)/\(0<=t.head/\t.head + t.pages<=s.p)
theorem zwt(s:Sh)(c n:Int):rnOk s (zf8 s c n):=by
 refine⟨fun h=>?_,fun h=>(by cases h)⟩;simp only[zf8,Bool.not_eq_false',Bool.and_eq_true,decide_eq_true_eq]at h ⊢;obtain⟨⟨⟨f,i⟩,j⟩,o⟩:=h;have l:=zbe f;refine⟨by omega,by omega,by omega,by omega,by omega,fun _=>by omega,fun e=>(by cases e),fun e=>(by cases e),fun e=>(by cases e),fun e=>(by cases e)⟩
theorem zld{s:Sh}{t:Rn}(o:t.found=false)(l:0<=t.c/\t.c<s.c)(f:1<=t.pages/\t.pages<=8)(j:0<=t.head/\t.head+t.pages<=s.p)(n:t.head<=t.at'/\t.at'<=t.head+t.pages)(r:t.next=5)(y:t.head<=t.i/\t.i<t.head+t.pages):rnOk s t.written:=by
 unfold Rn.written;split
 ·exact⟨fun e=>(by cases e),fun _=>⟨rfl,f,j⟩⟩
 refine⟨fun _=>⟨l,f,j,n,by dsimp only;omega,fun e=>?_,fun e=>?_,fun e=>?_,fun e=>?_,fun _=>?_⟩,fun e=>?_⟩
 ·dsimp only at e;omega
 ·dsimp only at e;omega
 ·dsimp only at e;omega
 ·dsimp only at e;omega
 ·dsimp only;omega
 dsimp only at e;rw[o]at e;cases e
theorem zxd{s:Sh}{t:Rn}(l:t.found=false)(f:0<=t.c/\t.c<s.c)(i:1<=t.pages/\t.pages<=8)(j:0<=t.head/\t.head+t.pages<=s.p)(n:t.head<=t.at'/\t.at'<t.head+t.pages):rnOk s t.own:=by
 unfold Rn.own;split
 ·exact zld l f i j (by dsimp only;omega) rfl (by dsimp only;omega)
 refine⟨fun _=>⟨f,i,j,by dsimp only;omega,by dsimp only;omega,fun _=>by dsimp only;omega,fun e=>(by cases e),fun e=>(by cases e),fun e=>(by cases e),fun e=>(by cases e)⟩,fun e=>?_⟩;dsimp only at e;rw[l]at e;cases e
theorem zrn{s:Sh}{t:Rn}(l:t.found=false)(hd:t.done=false)(f:0<=t.c/\t.c<s.c)(j:1<=t.pages/\t.pages<=8)(n:0<=t.head/\t.head+t.pages<=s.p)(o:t.head<=t.at'/\t.at'<t.head+t.pages)(r:t.next=4)(y:t.i<=t.at'):rnOk s (t.gone s):=by
 unfold Rn.gone;split
 ·refine⟨fun _=>⟨f,j,n,by omega,by omega,fun _=>o.2,fun e=>by omega,fun e=>by omega,fun _=>by omega,fun e=>by omega⟩,fun e=>?_⟩;rw[l]at e;cases e
 refine⟨fun e=>?_,fun e=>?_⟩
 ·have:¬ s.p-t.pages<t.at'+1:=by simpa using e
  exact⟨f,j,by dsimp only;omega,by dsimp only;omega,by dsimp only;omega,fun _=>by dsimp only;omega,fun e=>(by cases e),fun e=>(by cases e),fun e=>(by cases e),fun e=>(by cases e)⟩
 dsimp only at e;rw[l]at e;cases e
theorem zmm{s:Sh}{t:Rn}(n:t.found=false)(hd:t.done=false)(f:0<=t.c/\t.c<s.c)(i:1<=t.pages/\t.pages<=8)(j:0<=t.head/\t.head+t.pages<=s.p)(l:t.head<=t.at'/\t.at'<t.head+t.pages):rnOk s (t.miss s):=
 zrn n hd f i j l rfl (Int.le_refl _)
theorem z0v{s:Sh}{t:Rn}(m:Mem)(h:rnOk s t):rnOk s (zcr s t m).1:=by
 unfold zcr;dsimp only;split
 ·exact h
 rename_i hd;have hd:t.done=false:=by simpa using hd
 obtain⟨c1,c2,c3,l,B,f,E,n,o,j⟩:=h.cl hd;have i:=zb7 h.fd hd;by_cases D:t.next=0
 ·have f:=f (by omega);rw[if_pos D];dsimp only;split
  ·refine⟨fun _=>⟨c1,c2,c3,l,by dsimp only;omega,fun _=>f,fun e=>(by cases e),fun e=>(by cases e),fun e=>(by cases e),fun e=>(by cases e)⟩,fun e=>?_⟩;dsimp only at e;rw[i]at e;cases e
  split
  ·rename_i y;refine⟨fun _=>⟨c1,c2,c3,l,by dsimp only;omega,fun _=>f,fun _=>⟨_,rfl,zwx _ _ _ _,?_⟩,fun e=>(by cases e),fun e=>(by cases e),fun e=>(by cases e)⟩,fun e=>?_⟩
   ·have C:=(zea.1 y.1).2.1;have F:=zcs C;have G:=(zdq y.1 y.2).2.2;have H:0<=zae s.p s.c s.m t.c:=by unfold zae;rw[if_pos ⟨F.1,zbc.2 (by omega)⟩];exact c1.1
    simp[zfa,C,G,H]
   dsimp only at e;rw[i]at e;cases e
  exact zmm i hd c1 c2 c3 (by omega)
 rw[if_neg D];by_cases n1:t.next=1
 ·have f:=f (by omega);rw[if_pos n1];dsimp only;split
  ·exact zxd i c1 c2 c3 (by omega)
  exact zmm i hd c1 c2 c3 (by omega)
 rw[if_neg n1];by_cases n2:t.next=2
 ·have f:=f (by omega);obtain⟨x,I,z,J⟩:=E n2;rw[if_pos n2,I];dsimp only;split
  ·refine⟨fun _=>⟨c1,c2,c3,l,by dsimp only;omega,fun _=>f,fun e=>(by cases e),fun _=>by dsimp only;omega,fun e=>(by cases e),fun e=>(by cases e)⟩,fun e=>?_⟩;dsimp only at e;rw[i]at e;cases e
  split
  ·exact zmm i hd c1 c2 c3 (by dsimp only;omega)
  rename_i r;refine⟨fun _=>⟨c1,c2,c3,l,B,fun _=>f,fun _=>⟨_,rfl,znr m z,by simpa using r⟩,fun e=>?_,fun e=>?_,fun e=>?_⟩,fun e=>?_⟩
  ·exact n e
  ·exact o e
  ·exact j e
  dsimp only at e;rw[i]at e;cases e
 rw[if_neg n2];by_cases n3:t.next=3
 ·have f:=f (by omega);have n:=n n3;rw[if_pos n3];dsimp only;split
  ·exact zxd i c1 c2 c3 (by dsimp only;omega)
  refine⟨fun _=>⟨c1,c2,c3,l,B,fun _=>f,fun e=>absurd e n2,fun _=>by dsimp only;omega,fun e=>by dsimp only at e;omega,fun e=>by dsimp only at e;omega⟩,fun e=>?_⟩;dsimp only at e;rw[i]at e;cases e
 rw[if_neg n3];by_cases n4:t.next=4
 ·have f:=f (by omega);have o:=o n4;rw[if_pos n4];exact zrn i hd c1 c2 c3 (by dsimp only;omega) n4 (by dsimp only;omega)
 rw[if_neg n4];have n5:t.next=5:=by omega
 have j:=j n5;exact zld i c1 c2 c3 l n5 (by omega)
theorem zdi{s:Sh}{c:Int}{b:Blk}:b.fits s c=true↔mayB s.p s.c s.m=true/\(0<=c/\c<s.c)/\(0<=b.page/\b.page<s.p)/\(b.large=true->1<=b.pages/\b.pages<=8/\b.pages<=s.p-b.page)/\(b.large=false->0<=b.slot/\b.slot<zah b.k):=by
 unfold Blk.fits;by_cases j:zae s.p s.c s.m c<0
 ·rw[if_pos (.inl j)];refine⟨fun e=>(by cases e),fun h=>?_⟩;have:zae s.p s.c s.m c=c:=by unfold zae;rw[if_pos ⟨h.1,zbc.2 (by omega)⟩]
  omega
 by_cases l:zak s.p s.c s.m b.page<0
 ·rw[if_pos (.inr l)];refine⟨fun e=>(by cases e),fun h=>?_⟩;have f:=zar.1 h.1;have:zak s.p s.c s.m b.page=s.c+b.page:=by unfold zak;rw[if_pos ⟨h.1,zbc.2 (by omega)⟩]
  omega
 rw[if_neg (by omega)];have f:=zbe (by omega:0<=zae s.p s.c s.m c);have i:=zcs (by omega:0<=zak s.p s.c s.m b.page);cases hl:b.large
 ·simp only[Bool.false_eq_true,if_false,Bool.and_eq_true,decide_eq_true_eq];exact⟨fun h=>⟨f.1,f.2,i.2,fun e=>(by cases e),fun _=>h⟩,fun h=>h.2.2.2.2 (by simp)⟩
 simp only[if_true,Bool.and_eq_true,decide_eq_true_eq];exact⟨fun h=>⟨f.1,f.2,i.2,fun _=>⟨h.1.1,h.1.2,h.2⟩,fun e=>(by cases e)⟩,fun h=>by have:=h.2.2.2.1 (by simp);exact⟨⟨this.1,this.2.1⟩,this.2.2⟩⟩
def cmOk (s:Sh) (t:Cm):Prop:=t.done=false->t.b.fits s t.c=true
theorem zpt(s:Sh)(c:Int)(b:Blk):cmOk s (zc4 s c b):=fun h=>by simpa[zc4] using h
structure unOk (s:Sh) (t:Un):Prop where
 cl:t.done=false->t.b.fits s t.c=true/\(t.b.large=true->0<=t.i/\t.i < t.b.pages)
theorem z8l(s:Sh)(c:Int)(b:Blk):unOk s (zf1 s c b):=by
 refine⟨fun h=>?_⟩;have h:b.fits s c=true:=by simpa[zf1] using h
 refine⟨h,fun f=>?_⟩;have:=(zdi.1 h).2.2.2.1 f;simp only[zf1];omega
theorem z0o{s:Sh}{t:Un}(m:Mem)(h:unOk s t):unOk s (zcf s t m).1:=by
 unfold zcf;split
 ·exact h
 rename_i hd;obtain⟨i,j⟩:=h.cl (by simpa using hd);split
 ·exact⟨fun e=>(by cases e)⟩
 rename_i f;have f:t.b.large=true:=by simpa using f
 have l:=j f;split
 ·exact⟨fun e=>(by cases e)⟩
 exact⟨fun _=>⟨i,fun _=>by dsimp only;omega⟩⟩
structure feOk (s:Sh) (t:Fe):Prop where
 cl:t.done=false->(0<=t.c/\t.c < s.c)/\(0<=t.page/\t.page < s.p)/\spB s t.a=true/\(0<=t.next/\t.next<=4)/\(t.next<=1->t.i=0)/\
  (1<=t.next->(t.pk=3/\1<=t.pa/\t.pa<=8/\t.pa<=s.p - t.page)\/(t.pk=2/\0 < zah t.pa/\(0<=t.slot/\t.slot < zah t.pa)))/\
  (t.next=1->0<=t.word/\t.word < 18446744073709551616)/\(t.next=2->t.pk=2/\∃ x,t.put=some x/\puOk s x/\x.done=false)/\(t.next=3->t.pk=2)/\(t.next=4->t.pk=3/\0<=t.i/\t.i < t.pa)
theorem z05{s:Sh}{a:Int}:spB s a=true↔mayB s.p s.c s.m=true/\0<=a/\a<s.p*64:=by
 unfold spB;simp only[Bool.and_eq_true,zbc];exact⟨fun h=>⟨h.1,h.2.1,by omega⟩,fun h=>⟨h.1,h.2.1,by omega⟩⟩
theorem zwa(s:Sh)(c a:Int):feOk s (zc2 s c a):=by
 refine⟨fun h=>?_⟩;simp only[zc2,Bool.or_eq_false_iff,Bool.not_eq_false',decide_eq_false_iff_not]at h ⊢;obtain⟨f,j⟩:=h;have l:=z05.1 f;have i:=zbe (by omega:0<=zae s.p s.c s.m c);rw[if_pos f];exact⟨i.2,by omega,f,by omega,(fun _=>by first|rfl|trivial),fun e=>by omega,fun e=>by omega,fun e=>by omega,fun e=>by omega,fun e=>by omega⟩
theorem zcv(t:Fe)(x:Pu)(f:t.put=some x):(x.put=true/\t.kept= {t with done:=true})\/(x.put=false/\x.done=true/\t.kept= {t with next:=3})\/(x.put=false/\x.done=false/\t.kept=t):=by
 unfold Fe.kept;rw[f];dsimp only;cases h1:x.put
 ·cases h2:x.done
  ·exact .inr (.inr ⟨rfl,rfl,by simp⟩)
  exact .inr (.inl ⟨rfl,rfl,by simp⟩)
 exact .inl ⟨rfl,by simp⟩
theorem zwy{f k:Int}(h:0<=f/\f<64)(i:0<zah k):0<zbj k/\0<=f/zbj k/\f/zbj k<zah k:=by
 have j:=zb4 i;have:k=0\/k=1\/k=2\/k=3:=by omega
 rcases this with rfl|rfl|rfl|rfl
 ·rw[show zbj 0=4 from rfl,show zah 0=16 from rfl];omega
 ·rw[show zbj 1=8 from rfl,show zah 1=8 from rfl];omega
 ·rw[show zbj 2=16 from rfl,show zah 2=4 from rfl];omega
 rw[show zbj 3=32 from rfl,show zah 3=2 from rfl];omega
theorem z1a{s:Sh}{t:Fe}(m:Mem)(C:m.fit)(h:feOk s t):feOk s (zca s t m).1:=by
 unfold zca;split
 ·exact h
 rename_i hd;have hd:t.done=false:=by simpa using hd
 obtain⟨c1,c2,c3,z,r,f,N,E,O,n⟩:=h.cl hd;by_cases D:t.next=0
 ·rw[if_pos D];unfold Fe.look;dsimp only;have o:0<=t.a%64/\t.a%64<64:=by omega
  split
  ·rename_i hb;have i:=zn1 hb.1 hb.2.1;refine⟨fun _=>⟨c1,c2,c3,by dsimp only;omega,fun _=>r (by omega),fun _=>.inl ?_,fun _=>Mem.ze4 C _,fun e=>by dsimp only at e;omega,fun e=>by dsimp only at e;omega,fun e=>by dsimp only at e;omega⟩⟩;dsimp only;rw[if_pos hb.1,if_pos hb.1];exact⟨hb.2.1,i⟩
  split
  ·rename_i hb;have i:=(zdq hb.1 hb.2.1).2.2;refine⟨fun _=>⟨c1,c2,c3,by dsimp only;omega,fun _=>r (by omega),fun _=>.inr ?_,fun _=>Mem.ze4 C _,fun e=>by dsimp only at e;omega,fun e=>by dsimp only at e;omega,fun e=>by dsimp only at e;omega⟩⟩;dsimp only;rw[if_pos hb.1,if_pos hb.1];exact⟨hb.2.1,i,(zwy o i).2⟩
  exact⟨fun e=>(by cases e)⟩
 rw[if_neg D];by_cases n1:t.next=1
 ·rw[if_pos n1];have f:=f (by omega);have r:=r (by omega);unfold Fe.claim;split
  ·rename_i l;have f:1<=t.pa/\t.pa<=8/\t.pa<=s.p-t.page:=by rcases f with h|h<;>omega
   refine⟨fun _=>⟨c1,c2,c3,by dsimp only;omega,fun e=>by dsimp only at e;omega,fun _=>.inl ⟨l,f⟩,fun e=>by dsimp only at e;omega,fun e=>by dsimp only at e;omega,fun e=>by dsimp only at e;omega,fun _=>⟨l,by dsimp only;omega,by dsimp only;omega⟩⟩⟩
  rename_i l;have f:t.pk=2/\0<zah t.pa/\(0<=t.slot/\t.slot<zah t.pa):=by rcases f with h|h;exact absurd h.1 l;exact h
  dsimp only;have j:∀ (u:Fe),u.c=t.c->u.page=t.page->u.a=t.a->u.next=3->u.pk=t.pk->u.pa=t.pa->u.slot=t.slot->feOk s u:=fun u F G H R B I J=>by refine⟨fun _=>⟨by rw[F];exact c1,by rw[G];exact c2,by rw[H];exact c3,by omega,fun e=>by omega,fun _=>.inr ?_,fun e=>by omega,fun e=>by omega,fun _=>by rw[B];exact f.1,fun e=>by omega⟩⟩;rw[B,I,J];exact f
  split
  ·rcases zcv ({t with gave:=decide (m.get (zbk s.p s.c s.m t.page t.slot)=zfl t.pa),next:=2,put:=some (zg5 s t.c t.page t.slot t.pa)}:Fe) _ rfl with⟨h1,_⟩|⟨h1,h2,i⟩|⟨h1,h2,i⟩
   ·simp[zg5]at h1
   ·rw[i];exact j _ rfl rfl rfl rfl rfl rfl rfl
   rw[i];exact⟨fun _=>⟨c1,c2,c3,by dsimp only;omega,fun e=>by dsimp only at e;omega,fun _=>.inr f,fun e=>by dsimp only at e;omega,fun _=>⟨f.1,_,rfl,z4n _ _ _ _ _,h2⟩,fun e=>by dsimp only at e;omega,fun e=>by dsimp only at e;omega⟩⟩
  exact j _ rfl rfl rfl rfl rfl rfl rfl
 rw[if_neg n1];by_cases n2:t.next=2
 ·rw[if_pos n2];have f:=f (by omega);obtain⟨l,x,L,y,M⟩:=E n2;rw[L];dsimp only;rcases zcv ({t with put:=some (zd3 s x m).1}:Fe) _ rfl with⟨h1,i⟩|⟨h1,h2,i⟩|⟨h1,h2,i⟩
  ·rw[i];exact⟨fun e=>(by cases e)⟩
  ·rw[i];exact⟨fun _=>⟨c1,c2,c3,by dsimp only;omega,fun e=>by dsimp only at e;omega,fun _=>f,fun e=>by dsimp only at e;omega,fun e=>by dsimp only at e;omega,fun _=>l,fun e=>by dsimp only at e;omega⟩⟩
  rw[i];exact⟨fun _=>⟨c1,c2,c3,z,fun e=>by dsimp only at e;omega,fun _=>f,fun e=>by dsimp only at e;omega,fun _=>⟨l,_,rfl,zq5 m y,h2⟩,fun _=>l,fun e=>by dsimp only at e;omega⟩⟩
 rw[if_neg n2];by_cases n3:t.next=3
 ·rw[if_pos n3];exact⟨fun e=>(by cases e)⟩
 rw[if_neg n3];have n4:t.next=4:=by omega
 have n:=n n4;split
 ·exact⟨fun e=>(by cases e)⟩
 exact⟨fun _=>⟨c1,c2,c3,z,fun e=>by dsimp only at e;omega,fun _=>f (by omega),fun e=>by dsimp only at e;omega,fun e=>by dsimp only at e;omega,fun e=>by dsimp only at e;omega,fun _=>⟨n.1,by dsimp only;omega,by dsimp only;omega⟩⟩⟩
end

end Go.Proofs.YtkbddndcegpllaaGreat
