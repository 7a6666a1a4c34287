/- Operations one after another, each alone; a history's counts. Plain. -/
import Derived.Test.YtmmbicppdjgbmaaGreatBw46

set_option linter.all false
namespace Go.Proofs.YtmmbicppdjgbmaaGreat

theorem fS{s:Sh}{d:Wd}{n m:Nat}(h:KdI s d n)(b:n<=m):KdI s d m:=⟨xG h.ai b,h.r0,h.o1,h.fr⟩
def opS (s:Sh) (d:Wd) (o:Op3):Wd:=if o.k < 1\/4 < o.k then d else askW s d 0 o
def opsL (s:Sh) (d:Wd) (l:List Op3):Wd:=l.foldl (opS s) d
theorem ynk{s:Sh}{d:Wd}{l:List Op3}{i:Nat}(h:i<l.length):opsL s d (l.take (i+1))=opS s (opsL s d (l.take i)) l[i]:=by
 unfold opsL;rw[List.take_succ_eq_append_getElem h,List.foldl_append];rfl
theorem yqn{s:Sh}{d:Wd}{n:Nat}(h:KdI s d n)(l:List Op3):KdI s (opsL s d l) (n+l.length*(1+WA s)):=by
 induction l generalizing d n with
 |nil=>simpa[opsL] using h;|cons o l b=>
  have h1:KdI s (opS s d o) (n+(1+WA s)):=by
   unfold opS;split
   ·exact fS h (by omega)
   have:=yrh h (k:=o.k) (a:=o.a) (m:=o.n) (by omega);rw[Nat.add_assoc]at this;exact this
  have h2:=b h1;rw[Nat.add_assoc,Nat.add_comm (1+WA s),<- Nat.succ_mul]at h2;exact h2
theorem yr2{s:Sh}{d:Wd}{n:Nat}{c:Int}{k:Kl}(h:AI s d n)(f:d.kl c=some k):d.tr≠ []:=fun e=>by
 obtain⟨j,σ,l,i⟩:=h
 obtain⟨_,_,b⟩:=j.kl c k f
 have h1:=(l.li c k f).1
 have h2:=(i.pt c b.1 b.2).was
 have h3:(jdOf s d).pt c=Pt.zero:=by
  unfold jdOf
  rw[e]
  show ((newJ s.p s.c s.m).ps).getD c.toNat Pt.zero=_
  unfold newJ
  split
  ·show (List.replicate s.c.toNat Pt.zero).getD c.toNat Pt.zero=_
   rw[List.getD_eq_getElem?_getD,List.getElem?_replicate]
   split<;>rfl
  ·rfl
 rw[h3,h1]at h2
 exact absurd (h2.2 (fun e=>by cases e)) (by decide)
theorem yro(l:List Ev):(0<=(tgL l).1/\(tgL l).1<=l.length)/\0<=(tgL l).2/\(tgL l).2<=l.length:=by
 suffices h:∀ (l:List Ev) (p:Int × Int) (n:Nat),(0<=p.1/\p.1<=n)/\0<=p.2/\p.2<=n->(0<=(l.foldl tgS p).1/\(l.foldl tgS p).1<=n+l.length)/\0<=(l.foldl tgS p).2/\(l.foldl tgS p).2<=n+l.length by have:=h l (0,0) 0 ⟨⟨Int.le_refl _,Int.le_refl _⟩,Int.le_refl _,Int.le_refl _⟩;unfold tgL;omega
 intro l;induction l with
 |nil=>intro p n h;simpa using h;|cons e l b=>
  intro p n h
  have h1:=b (tgS p e) (n+1) (by
   unfold tgS
   split
   ·simp;omega
   split
   ·dsimp only;omega
   split
   ·dsimp only;omega
   ·omega)
  rw[List.foldl_cons,List.length_cons];omega
end Go.Proofs.YtmmbicppdjgbmaaGreat
