/- Lemmas for the claim. -/
import Derived.Test.YtmmbicppdjgbmaaGreatBw36

import Derived.Test.YtmmbicppdjgbmaaGreatBw37

set_option linter.all false
set_option maxRecDepth 20000
namespace Go.Proofs.YtmmbicppdjgbmaaGreat

section

open Go.RowKit Go.ChangeShapes Go.WideShapes Go.ChangeAt

section

variable {H:Type} {enc:TypeId × Value->H} {P:Program} {w:World}

theorem z7d{t:TypeId}{k:FloatKind}{cs:List Value}(j:P.underlying t=some (.float k))(h:Rd enc P w t cs):∃ b,cs= [.float k b]/\(Lit.float k b).wf=true:=by
 obtain⟨f,x,i⟩:=h;cases f with
 |zero=>simp[DataW.trod]at i;|succ n=>unfold DataW.trod at i;rw[j]at i;split at i<;>simp_all
end

end

section

theorem UM(l:List Ch):∀ (j:Nat) (h:j<l.length) (k:Nat),k<6->(l.flatMap Ch.cells)[j*6+k]?=(l[j]).cells[k]?:=by
 induction l with
 |nil=>intro j h;simp at h
 |cons a l i=>
  intro j h k f
  have b:a.cells.length=6:=rfl
  rw[List.flatMap_cons]
  cases j with
  |zero=>rw[Nat.zero_mul,Nat.zero_add,List.getElem?_append_left (by omega)];rfl
  |succ j=>
   rw[List.getElem?_append_right (by omega),b,show (j+1)*6+k-6=j*6+k by omega]
   exact i j (by simpa using h) k f
end

section

open Go.RowKit

attribute [local go_sem ↓] Go.wp_at_zero Go.wp_at_succ

theorem z8i(s:Sh)(W:World)(l:¬ mayB s.p s.c s.m=true):
  Calls Tryz.prog 26 #[.agg #[s.p,s.c,s.m]] W fun e w'=>Below W.heap.size W w'/\e= .returned (.tuple #[.pointer none,.int .i64 1]):=by
 have b:=fun Y=>pC s.p s.c s.m Y;have i:mayB s.p s.c s.m=false:=by simpa using l
 rw[i]at b;obtain⟨sp,o,q⟩:=s;dsimp only at *;replace b:=hd' b;clear l i;go_in;go_wp2_with (first|(go_at_call 48;refine(b _).mono ?_;rintro r t ⟨rfl,j⟩;obtain rfl:=j.symm));go_returns;exact⟨by go_grown,rfl⟩
theorem yez(s:Sh)(W:World)(l:¬ mayB s.p s.c s.m=true):
  Calls Tryz.prog 27 #[.agg #[s.p,s.c,s.m]] W fun e w'=>Below W.heap.size W w'/\e= .returned (.tuple #[.pointer none,.int .i64 1]):=by
 have b:=fun Y=>fI s.p s.c s.m Y;have i:mayB s.p s.c s.m=false:=by simpa using l
 rw[i]at b;obtain⟨sp,o,q⟩:=s;dsimp only at *;replace b:=hd' b;clear l i;go_in;go_wp2_with (first|(go_at_call 42;refine(b _).mono ?_;rintro r t ⟨rfl,j⟩;obtain rfl:=j.symm));go_returns;exact⟨by go_grown,rfl⟩
theorem IQ(s:Sh)(W:World)(y:¬ mayB s.p s.c s.m=true):
  Calls Tryz.prog 8 #[.agg #[s.p,s.c,s.m]] W fun e w'=>Below W.heap.size W w'/\e= .returned (.tuple #[.pointer none,.pointer none]):=by
 have j:=fun Y=>z8i s Y y;have l:=fun Y=>yez s Y y;have o:=(Below.refl W.heap.size W).alloc lr (.cells #[s.p,s.c,s.m] 23);have t0:aA (W.alloc (.cells #[s.p,s.c,s.m] 23)) W.heap.size #[s.p,s.c,s.m] 23:=jA _ _;have z:∀ W:World,(binOp .eql 27 (.pointer none) (.pointer none)).run Tryz.prog W= .ok (.bool true) W:=fun W=>by kernel_rfl
 replace j:=hd' j;replace l:=hd' l;clear y;go_in;go_upto_region 1 with fail;generalize W.alloc (.cells #[s.p,s.c,s.m] 23)=X at *;obtain⟨H,D,b⟩:=hidv W.heap.size;rw[<-b]at t0 ⊢;clear b;have B:=t0.cell;go_wp2_with (first|(go_at_call 26;refine(j _).mono ?_;rintro r E ⟨i,rfl⟩;have t1:=t0.below i;have C:=t1.cell)|(go_at_call 27;refine(l _).mono ?_;rintro r F ⟨q,rfl⟩));go_returns;exact⟨zA (zA o i) q,rfl⟩
theorem qS(ao:Option Addr)(n cap:Nat)(m:Nat)(i:(n:Int)<=9223372036854775807)(w:World):Calls Tryz.prog 7 #[.slice ao n cap,.int .i64 (m:Int)] w fun e w'=>e= .returned (.bool (decide (n<=m)))/\w'=w:=by
 by_cases h:n<=m
 ·rw[jT h];have b:(n:Int)<=(m:Int):=by omega
  go_in;go_wp2_with fail;go_returns;exact⟨rfl,rfl⟩
 rw[jF h];have b:¬ (n:Int)<=(m:Int):=by omega
 go_in;go_wp2_with fail;go_returns;exact⟨rfl,rfl⟩
end

section

open Go.RowKit

def Wd.acts (s:Sh) (d:Wd) (l:List Ch):Wd:=l.foldl (fun d c=> (d.act s c).1) d
end

section

variable {s:Sh} {d:Wd} {n:Nat}

theorem iS(h:AI s d n)(l:List Ch):AI s (d.acts s l) (n+l.length):=by
 induction l generalizing d n with
 |nil=>exact h;|cons x l b=>show AI s ((d.act s x).1.acts s l) (n+(l.length+1));rw[show n+(l.length+1)=n+1+l.length by omega];exact b (kC h x)
end

section

open Go.RowKit Go.ChangeShapes Go.WideShapes Go.ChangeAt

section

variable {H:Type} {enc:TypeId × Value->H} {w:World}

theorem yf3{es:List Value}(p:es.length=6)(h:Rd enc Tryz.prog w 39 es):∃ c:Ch,c.cells=es/\True:=by
 obtain⟨_,i⟩:=xP Tryz.underlying39 h;match es,p with
 | [x0,x1,x2,x3,x4,x5],_=>
  have k1:Tryz.prog.cellsOf 3=1:=by kernel_rfl
  have q:Tryz.prog.cellsOf 34=3:=by kernel_rfl
  have r:Tryz.prog.cellsOf 35=1:=by kernel_rfl
  have g0:Rd enc Tryz.prog w 3 (([x0,x1,x2,x3,x4,x5].drop 0).take (Tryz.prog.cellsOf 3)):=i 0 _ rfl;have l:Rd enc Tryz.prog w 3 (([x0,x1,x2,x3,x4,x5].drop 1).take (Tryz.prog.cellsOf 3)):=i 1 _ rfl;have m:Rd enc Tryz.prog w 34 (([x0,x1,x2,x3,x4,x5].drop 2).take (Tryz.prog.cellsOf 34)):=i 2 _ rfl;have o:Rd enc Tryz.prog w 35 (([x0,x1,x2,x3,x4,x5].drop 5).take (Tryz.prog.cellsOf 35)):=i 3 _ rfl;rw[k1]at g0 l;rw[q]at m;rw[r]at o;obtain⟨a,j,_⟩:=GG Tryz.underlying3 g0;obtain⟨b,hb,_⟩:=GG Tryz.underlying3 l;obtain⟨c,d,e,hc⟩:=JQ m;obtain⟨f,hd,y⟩:=z7d Tryz.underlying35 o;injection j with j;injection hb with hb;injection hd with hd;injection hc with h2 hc;injection hc with h3 hc;injection hc with h4 hc;subst j hb h2 h3 h4 hd;exact⟨⟨a,b,c,d,e,f⟩,rfl,trivial⟩
theorem xT{v:Value}{r:Reach}{b:Nat}{d:DataW H}{ps:List MemPlace}(f:Value.okWide Tryz.prog w r b 24 v)(h0:DataW.Trod enc Tryz.prog w 0 (fun _=>true) true 24 v d ps):
  ∃ xs:List Ch,RdS w 6 v xs.length (xs.flatMap Ch.cells):=by
 obtain⟨xs,h1,h2⟩:=open_list Ch.cells (fun _=>True) Tryz.underlying24 (sz:=6) (by kernel_rfl) (by omega) (fun _=>rfl) (fun es h1 h2=>yf3 h1 h2) f h0;exact⟨xs,h1⟩
end

end

end Go.Proofs.YtmmbicppdjgbmaaGreat
