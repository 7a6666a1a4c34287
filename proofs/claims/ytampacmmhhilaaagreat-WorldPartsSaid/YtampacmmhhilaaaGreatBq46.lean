/- Texts bound together: WldX WldY. -/
import Derived.Test.YtampacmmhhilaaaGreatBq45

set_option linter.all false
set_option maxHeartbeats 4000000
set_option maxRecDepth 100000
namespace Go.Proofs.YtampacmmhhilaaaGreat

section

open Go.RowKit

attribute [local go_sem ↓] Go.wp_at_zero Go.wp_at_succ

theorem WdP.weak {B:Nat} {F G:Nat->Prop} {W:World} {g:Nat} {s:Sh} {d:Wd} {x:Wx} (h:WdP B F W g s d x) (hG:∀ i,F i->G i) (hl:∀ i,G i->B<=i/\i < W.heap.size):WdP B G W g s d x:=
 ⟨h.top,h.wds,h.lst,h.pl,h.pe,h.cl,h.tr,h.lg,hl,⟨hG _ h.fg.1,h.fg.2⟩,⟨hG _ h.fp.1,h.fp.2⟩,⟨hG _ h.fb.1,h.fb.2⟩,⟨hG _ h.fl.1,h.fl.2⟩,fun i hi=> ⟨hG _ (h.ft i hi).1,(h.ft i hi).2⟩,fun i hi=> ⟨hG _ (h.fs i hi).1,(h.fs i hi).2⟩,fun c i hi=> ⟨hG _ (h.fc c i hi).1,(h.fc c i hi).2⟩⟩
theorem zs4 {w:World} {B B':Nat} {E:TypeId} {size:Nat} {v:Value} {n:Nat} {xs:List Value} (h:w.ownsRow B E size v n xs) (hB:B'<=B):w.ownsRow B' E size v n xs:=
 ⟨h.1,h.2.imp id fun ⟨g,cap,cur,hv,hb,rest⟩=> ⟨g,cap,cur,hv,Nat.le_trans hB hb,rest⟩⟩
theorem WdP.lower {B B':Nat} {F:Nat->Prop} {W:World} {g:Nat} {s:Sh} {d:Wd} {x:Wx} (h:WdP B F W g s d x) (hB:B'<=B):WdP B' F W g s d x:=
 ⟨h.top,h.wds,h.lst,h.pl,h.pe,h.cl,zs4 h.tr hB,zs4 h.lg hB,fun i hi=> ⟨Nat.le_trans hB (h.lt i hi).1,(h.lt i hi).2⟩,h.fg,h.fp,h.fb,h.fl,h.ft,h.fs,h.fc⟩
def WdTo (B:Nat) (F:Nat->Prop) (W W':World) (g:Nat) (s:Sh) (d:Wd):Prop:=(∃ x,WdP B (grow F W W') W' g s d x)/\Only F W W'/\B<=W'.heap.size
section

variable {B:Nat} {F:Nat->Prop} {W W1 W2:World} {g:Nat} {s:Sh} {d d2:Wd} {x:Wx}

theorem WdTo.trans (h:WdTo B F W W1 g s d) (k:WdTo B (grow F W W1) W1 W2 g s d2):WdTo B F W W2 g s d2:=by
 obtain ⟨_,h2,h3⟩:=h
 obtain ⟨⟨x,k1⟩,k2,k3⟩:=k
 refine ⟨⟨x,k1.eqv (grow_grow h2.size k2.size)⟩,Only.trans h2 k2 (fun i hi e=> ?_),k3⟩
 rcases e with e | e
 ·exact e
 ·omega
theorem WdTo.below (h:WdTo B F W W1 g s d) (hB:B<=W.heap.size) (hF:∀ i,F i->B<=i/\i < W.heap.size) (hb:Below W1.heap.size W1 W2):WdTo B F W W2 g s d:=by
 obtain ⟨⟨x,h1⟩,h2,h3⟩:=h
 have hs:=hb.size
 refine ⟨⟨x,(h1.below hb).weak (fun i hi=> ?_) (fun i hi=> ?_)⟩,Only.trans (F:=F) h2 (Only.of_below (F:=fun _=> False) hb) (fun _ _ e=> e.elim),by omega⟩
 ·rcases hi with hi | hi
  ·exact .inl hi
  ·exact .inr ⟨hi.1,by omega⟩
 ·have:=h2.size
  rcases hi with hi | hi
  ·exact ⟨(hF i hi).1,by have:=(hF i hi).2;omega⟩
  ·exact ⟨by omega,hi.2⟩
theorem WdTo.start (h:WdP B F W g s d x) (hB:B<=W.heap.size) (hb:Below W.heap.size W W1):WdTo B F W W1 g s d:=
 ⟨⟨x,(h.grows hB hb)⟩,Only.of_below hb,by have:=hb.size;omega⟩
theorem WdTo.set (h:WdP B F W g s d x) (hB:B<=W.heap.size) (h2:WdP B F W1 g s d2 x) (ho:Only F W W1):WdTo B F W W1 g s d2:=by
 have hs:=ho.size
 refine ⟨⟨x,h2.weak (fun i hi=> .inl hi) (fun i hi=> ?_)⟩,ho,by omega⟩
 rcases hi with hi | hi
 ·exact ⟨(h.lt i hi).1,by have:=(h.lt i hi).2;omega⟩
 ·exact ⟨by omega,hi.2⟩
theorem WdTo.from (h:WdP B F W g s d x) (hB:B<=W.heap.size) (hb:Below W.heap.size W W1) (k:WdTo B F W1 W2 g s d2):WdTo B F W W2 g s d2:=by
 obtain ⟨⟨x,k1⟩,k2,k3⟩:=k
 have hs:=hb.size
 have hs2:=k2.size
 refine ⟨⟨x,k1.weak (fun i hi=> ?_) (fun i hi=> ?_)⟩,Only.trans (F:=F) (Only.of_below hb) k2 (fun i _ hi=> hi),k3⟩
 ·rcases hi with hi | hi
  ·exact .inl hi
  ·exact .inr ⟨by omega,hi.2⟩
 ·rcases hi with hi | hi
  ·exact ⟨(h.lt i hi).1,by have:=(h.lt i hi).2;omega⟩
  ·exact ⟨by omega,hi.2⟩
def WdTq (R:(Nat->Nat)->Prop) (B:Nat) (F:Nat->Prop) (W W':World) (g:Nat) (s:Sh) (d:Wd):Prop:=(∃ x,WdP B (grow F W W') W' g s d x/\R x.qs)/\Only F W W'/\B<=W'.heap.size
theorem WdTq.to {R:(Nat->Nat)->Prop} (h:WdTq R B F W W1 g s d):WdTo B F W W1 g s d:=by
 obtain ⟨⟨x,h1,_⟩,h2,h3⟩:=h
 exact ⟨⟨x,h1⟩,h2,h3⟩
theorem WdTo.q {R:(Nat->Nat)->Prop} (h:WdTo B F W W1 g s d) (hR:∀ q,R q):WdTq R B F W W1 g s d:=by
 obtain ⟨⟨x,h1⟩,h2,h3⟩:=h
 exact ⟨⟨x,h1,hR _⟩,h2,h3⟩
theorem WdTq.imp {R S:(Nat->Nat)->Prop} (h:WdTq R B F W W1 g s d) (hR:∀ q,R q->S q):WdTq S B F W W1 g s d:=by
 obtain ⟨⟨x,h1,h4⟩,h2,h3⟩:=h
 exact ⟨⟨x,h1,hR _ h4⟩,h2,h3⟩
theorem WdTq.trans {R:(Nat->Nat)->Prop} (h:WdTo B F W W1 g s d) (k:WdTq R B (grow F W W1) W1 W2 g s d2):WdTq R B F W W2 g s d2:=by
 obtain ⟨_,h2,h3⟩:=h
 obtain ⟨⟨x,k1,kR⟩,k2,k3⟩:=k
 refine ⟨⟨x,k1.eqv (grow_grow h2.size k2.size),kR⟩,Only.trans h2 k2 (fun i hi e=> ?_),k3⟩
 rcases e with e | e
 ·exact e
 ·omega
theorem WdTq.start {R:(Nat->Nat)->Prop} (h:WdP B F W g s d x) (hB:B<=W.heap.size) (hb:Below W.heap.size W W1) (hR:R x.qs):WdTq R B F W W1 g s d:=
 ⟨⟨x,(h.grows hB hb),hR⟩,Only.of_below hb,by have:=hb.size;omega⟩
theorem WdTq.from {R:(Nat->Nat)->Prop} (h:WdP B F W g s d x) (hB:B<=W.heap.size) (hb:Below W.heap.size W W1) (k:WdTq R B F W1 W2 g s d2):WdTq R B F W W2 g s d2:=by
 obtain ⟨⟨x,k1,kR⟩,k2,k3⟩:=k
 obtain ⟨⟨x',k1'⟩,k2',k3'⟩:=WdTo.from h hB hb (⟨⟨x,k1⟩,k2,k3⟩:WdTo B F W1 W2 g s d2)
 have hs:=hb.size
 refine ⟨⟨x,k1.weak (fun i hi=> ?_) (fun i hi=> ?_),kR⟩,k2',k3⟩
 ·rcases hi with hi | hi
  ·exact .inl hi
  ·exact .inr ⟨by omega,hi.2⟩
 ·have hs2:=k2.size
  rcases hi with hi | hi
  ·exact ⟨(h.lt i hi).1,by have:=(h.lt i hi).2;omega⟩
  ·exact ⟨by omega,hi.2⟩
theorem ygk (h:WdP B F W g s d x) (hB:B<=W.heap.size) (hs:W.heap.size<=W1.heap.size):∀ i,grow F W W1 i->B<=i/\i < W1.heap.size:=fun i hi=> by
 rcases hi with hi | hi
 ·exact ⟨(h.lt i hi).1,by have:=(h.lt i hi).2;omega⟩
 ·exact ⟨by omega,hi.2⟩
end

theorem yco {W:World} (e:Ev):RdE (W.alloc (.cells e.cells 50)) (.slice (some ⟨W.heap.size,0,.none⟩) 1 1) [e]:=by
 have h:=RdS.new (sz:=8) (n:=1) (heap_alloc_new W (.cells e.cells 50)) rfl (by omega)
 unfold RdE
 simpa using h
theorem WdP.ptr {B:Nat} {F:Nat->Prop} {W:World} {g:Nat} {s:Sh} {d:Wd} {x:Wx} (h:WdP B F W g s d x) {c:Int} (h0:0<=c) (hc:c.toNat < d.l.length):W.cell? ⟨x.lb,c.toNat,.none⟩=some (ptrK (d.kl c) (x.qs c.toNat)):=by
 refine (h.lst.cell _).trans ?_
 have:=h.pe c.toNat hc
 unfold Wd.kl
 rw [if_pos h0]
 simpa using this
section

variable {B:Nat} {F:Nat->Prop} {W:World} {g:Nat} {s:Sh} {d:Wd} {x:Wx} {n:Nat}

theorem zqf (h:WdP B F W g s d x) (hB:B<=W.heap.size) (es:List Ev) (v:Value) (hr:RdE W v es) (hl:d.tr.length + es.length<=100000000):
  Calls Tryz.prog 71 #[.pointer (some ⟨g,0,.none⟩),v] W fun e w'=> e= .returned (.tuple #[])/\WdTq (fun q=> q=x.qs) B F W w' g s { d with tr:=d.tr ++ es }:=
 (z04 h hB es v hr hl).mono fun e w' ⟨h1,x',h2,h3,h4⟩=> ⟨h1,⟨x',h2,h4⟩,h3,by have:=h3.size;omega⟩
theorem zwm (h:WdP B F W g s d x) (hB:B<=W.heap.size) (es:List Ev) (v:Value) (hr:RdE W v es) (hl:d.tr.length + es.length<=100000000):
  Calls Tryz.prog 71 #[.pointer (some ⟨g,0,.none⟩),v] W fun e w'=> e= .returned (.tuple #[])/\WdTo B F W w' g s { d with tr:=d.tr ++ es }:=
 (zqf h hB es v hr hl).mono fun e w' h=> ⟨h.1,h.2.to⟩
theorem z1i (h:WdP B F W g s d x) (hB:B<=W.heap.size) (e0:Ev) (hl:d.tr.length + 1<=100000000):
  Calls Tryz.prog 71 #[.pointer (some ⟨g,0,.none⟩),.slice (some ⟨W.heap.size,0,.none⟩) 1 1] (W.alloc (.cells e0.cells 50)) fun e w'=> e= .returned (.tuple #[])/\WdTo B F W w' g s { d with tr:=d.tr ++ [e0] }:=by
 have hb:=(Below.refl W.heap.size W).alloc lr (.cells e0.cells 50)
 have h1:=h.grows hB hb
 refine (zwm h1 (by simp;omega) [e0] _ (yco e0) hl).mono fun e w' hS=> ⟨hS.1,(WdTo.start h hB hb).trans hS.2⟩
theorem zq0 (h:WdP B F W g s d x) (hB:B<=W.heap.size) (k c:Int) (hl:d.tr.length + 1<=100000000):
  Calls Tryz.prog 71 #[.pointer (some ⟨g,0,.none⟩),.slice (some ⟨W.heap.size,0,.none⟩) 1 1] (W.alloc (.cells #[.int .i64 k,.int .i64 c,.int .i64 0,.int .i64 0,.int .i64 0,.int .i64 0,.int .i64 0,.int .i64 0] 50)) fun e w'=> e= .returned (.tuple #[])/\WdTo B F W w' g s { d with tr:=d.tr ++ [⟨k,c,0,0,0,0,0,0⟩] }:=
 z1i h hB ⟨k,c,0,0,0,0,0,0⟩ hl
theorem zyt (h:WdP B F W g s d x) (hB:B<=W.heap.size) (ho:wdOk s d n) (hn:n<=10000000) (c:Ch) (hc:0<=c.client/\c.client < s.c):
  Calls Tryz.prog 68 #[.pointer (some ⟨g,0,.none⟩),.agg c.cells.toArray] W fun e w'=> e= .returned (.int .i64 (d.begin s c).2)/\WdTo B F W w' g s (d.begin s c).1:=by
 have hbd:=ho.fi.bd
 have hi:c.client.toNat < d.l.length:=by rw [ho.len];omega
 have htl:=ho.tr
 have hsx:0<=zae s.p s.c s.m c.client:=by rw [zeu ho.fi.may hc];exact hc.1
 obtain ⟨ck,cc,co,ca,cn,cb⟩:=c
 show Calls Tryz.prog 68 #[.pointer (some ⟨g,0,.none⟩),.agg #[.int .i64 ck,.int .i64 cc,.int .i64 co,.int .i64 ca,.int .i64 cn,.float .f64 cb]] W _
 dsimp only at hc hi hsx
 have hb0:=(Below.refl W.heap.size W).alloc lr (.cells #[.int .i64 ck,.int .i64 cc,.int .i64 co,.int .i64 ca,.int .i64 cn,.float .f64 cb] 46)
 have t0:zaa (W.alloc (.cells #[.int .i64 ck,.int .i64 cc,.int .i64 co,.int .i64 ca,.int .i64 cn,.float .f64 cb] 46)) W.heap.size #[.int .i64 ck,.int .i64 cc,.int .i64 co,.int .i64 ca,.int .i64 cn,.float .f64 cb] 46:=heap_alloc_new _ _
 have hst:=zmv (h.below hb0) ho.fi ho.fit cc
 have hv:zrl s d cc=d.stat cc:=if_pos hsx
 rw [hv] at hst
 have h1:=h.below hb0
 have hBX:B<=(W.alloc (.cells #[.int .i64 ck,.int .i64 cc,.int .i64 co,.int .i64 ca,.int .i64 cn,.float .f64 cb] 46)).heap.size:=by simp;omega
 have lgX:g < (W.alloc (.cells #[.int .i64 ck,.int .i64 cc,.int .i64 co,.int .i64 ca,.int .i64 cn,.float .f64 cb] 46)).heap.size:=(h.below hb0).top.lt
 have hFH:¬ F W.heap.size:=fun e=> by have:=(h.lt _ e).2;omega
 have hfrom:=fun W1 W2 d2 (hb:Below W.heap.size W W1)=> WdTo.from (W1:=W1) (W2:=W2) (d2:=d2) h hB hb
 have hstay:=fun W1 (hb:Below W.heap.size W W1)=> WdTo.start (W1:=W1) h hB hb
 have hHl:W.heap.size≠x.lb:=fun e=> by have:=(h.lt _ h.fl.1).2;omega
 clear h hv
 have hcs:d.stat cc=0\/d.stat cc≠0:=Decidable.em _
 have hkn:∀ Y,Calls Tryz.prog 110 #[.agg #[.int .i64 s.p,.int .i64 s.c,.int .i64 s.m],.int .i64 cc,.float .f64 cb] Y fun e w'=> ∃ q,e= .returned (.pointer (some ⟨q,0,.none⟩))/\KlO (fun i=> Y.heap.size<=i/\i < w'.heap.size) w' q s (zht cc (Fl.zdr cb s.p))/\Below Y.heap.size Y w':=fun Y=> (z0k s cc cb Y (by omega)).mono fun e w' hh=> by
  obtain ⟨h1,h2⟩:=hh
  rw [if_neg (by rw [zeu ho.fi.may hc];omega)] at h2
  obtain ⟨q,e,h3⟩:=h2
  exact ⟨q,e,h3,h1⟩
 have hss:=fun F' Y L x' (hY:WdP B F' Y g s { d with l:=L } x')=> zlc hY ho.fi cc 1 hc
 replace hkn:=hd' hkn
 replace hss:=hd' hss
 replace hst:=hd' hst
 replace hfrom:=hd' hfrom
 replace hstay:=hd' hstay
 replace htl:=hd' htl
 have hbe:d.begin s ⟨ck,cc,co,ca,cn,cb⟩=if d.stat cc=0 then (⟨d.m.put cc (za8 1 0),d.l.set cc.toNat (some (zht cc (Fl.zdr cb s.p))),d.tr ++ [zcj cc],d.lg⟩,0) else (d,5):=rfl
 obtain ⟨R,hR,hR'⟩:∃ R:Wd × Int,Hid (R=d.begin s ⟨ck,cc,co,ca,cn,cb⟩)/\R=d.begin s ⟨ck,cc,co,ca,cn,cb⟩:=⟨_,hd' rfl,rfl⟩
 rw [<- hR']
 clear hR'
 replace hbe:=hd' hbe
 go_enter Tryz.func68,Tryz.ntmps68
 go_upto_region 1 with fail
 generalize W.alloc (.cells #[.int .i64 ck,.int .i64 cc,.int .i64 co,.int .i64 ca,.int .i64 cn,.float .f64 cb] 46)=X at *
 obtain ⟨H,hH,hH'⟩:=hidv W.heap.size
 rw [<- hH'] at t0 hHl hFH ⊢
 clear hH'
 replace hb0:=hd' hb0
 have lH:=t0.lt
 have c1:=ci cc (t0.cell 1)
 rcases hcs with hu | hu
 ·have hR2:=hd' ((hR.out.trans hbe.out).trans (if_pos hu))
  rw [hu] at hst
  clear hu hR hbe
  go_upto_region 3 with (first | (go_at_call 31;(with_reducible refine hst.out.mono ?_);rintro r w1 ⟨rfl,hb1⟩) | fail)
  have h3:=h1.below hb1
  have hbw:=hd' (zab hb0.out hb1)
  have t1:=t0.below hb1
  have hB1:B<=w1.heap.size:=by have:=hb1.size;omega
  clear c1 t0 hst h1 lH lgX hb1 hBX hb0 hstay
  have hlb:=(h3.lt _ h3.fl.1).2
  have lH:=t1.lt
  have lg:=h3.top.lt
  have hgl:g≠x.lb:=fun e=> by have:=h3.fg.2;have:=h3.fl.2;rw [e] at *;omega
  have hK:∀ Y:World,zaa Y H #[.int .i64 ck,.int .i64 cc,.int .i64 co,.int .i64 ca,.int .i64 cn,.float .f64 cb] 46->zaa Y g (zfd s x.p x.lb d.l.length x.tv x.sv) 122->(Y.cell? ⟨H,1,.none⟩=some (.int .i64 cc)/\Y.cell? ⟨H,5,.none⟩=some (.float .f64 cb)/\Y.cell? ⟨g,0,.none⟩=some (.int .i64 s.p)/\Y.cell? ⟨g,1,.none⟩=some (.int .i64 s.c)/\Y.cell? ⟨g,2,.none⟩=some (.int .i64 s.m)/\Y.cell? ⟨g,4,.none⟩=some (.slice (some ⟨x.lb,0,.none⟩) d.l.length d.l.length)):=fun Y h1 h2=> ⟨h1.cell 1,h1.cell 5,h2.cell 0,h2.cell 1,h2.cell 2,h2.cell 4⟩
  have hKw:∀ Y:World,Below w1.heap.size w1 Y->zaa Y H #[.int .i64 ck,.int .i64 cc,.int .i64 co,.int .i64 ca,.int .i64 cn,.float .f64 cb] 46/\zaa Y g (zfd s x.p x.lb d.l.length x.tv x.sv) 122/\Y.cell? ⟨x.lb,cc.toNat,.none⟩=some (ptrK (d.kl cc) (x.qs cc.toNat))/\(∀ i,Y.frozen? ⟨x.lb,i,.none⟩=false)/\x.lb < Y.heap.size:=fun Y hb=> ⟨t1.below hb,(h3.below hb).top,(h3.below hb).ptr hc.1 hi,zax (h3.below hb).lst,(h3.below hb).lst.lt⟩
  replace hK:=hd' hK
  replace hKw:=hd' hKw
  have hic:cc < (d.l.length:Int):=by omega
  have hc0:=hc.1
  go_region_held3 (fun Y=> Y.cell? ⟨H,1,.none⟩=some (.int .i64 cc)/\Y.cell? ⟨H,5,.none⟩=some (.float .f64 cb)/\Y.cell? ⟨g,0,.none⟩=some (.int .i64 s.p)/\Y.cell? ⟨g,1,.none⟩=some (.int .i64 s.c)/\Y.cell? ⟨g,2,.none⟩=some (.int .i64 s.m)/\Y.cell? ⟨g,4,.none⟩=some (.slice (some ⟨x.lb,0,.none⟩) d.l.length d.l.length))
   (first | exact hK.out _ (hKw.out _ br.drew).1 (hKw.out _ br.drew).2.1 | exact hK.out _ k4.1 k4.2.1 | exact hK.out _ (k4.1.other hHl _ _) (k4.2.1.other hgl _ _) | fail)
   (first
    | (go_at_call 110;(with_reducible refine (hkn.out _).mono ?_);rintro r w4 ⟨q,rfl,hk4,hb4⟩;have k4:=hKw.out _ (br.drew.trans hb4);have z4:=k4.2.2.1;have zf:=k4.2.2.2.1;have zl:=k4.2.2.2.2)
    | fail)
  have hb14:Below w1.heap.size w1 w4:=br.drew.trans hb4
  obtain ⟨x',hx',ho',_,_⟩:=h3.place (o:=some (zht cc (Fl.zdr cb s.p))) (q:=q) hB1 hi hb14 (fun k e=> by injection e with e;subst e;exact hk4) (fun i hi=> hi) rfl
  have tY:=k4.1.other hHl cc.toNat (ptrK (some (zht cc (Fl.zdr cb s.p))) q)
  have hsY:=ho'.size
  have hT1:=hd' (⟨⟨x',hx'⟩,ho',by omega⟩:WdTo B F w1 _ g s { d with l:=d.l.set cc.toNat (some (zht cc (Fl.zdr cb s.p))) })
  change Exit.then _ _ _ _ (w4.setCell ⟨x.lb,cc.toNat,.none⟩ (ptrK (some (zht cc (Fl.zdr cb s.p))) q))
  generalize w4.setCell ⟨x.lb,cc.toNat,.none⟩ (ptrK (some (zht cc (Fl.zdr cb s.p))) q)=Y at *
  have cY:=ci cc (tY.cell 1)
  have lY:=tY.lt
  have hnH:¬ grow F w1 Y H:=fun e=> by rcases e with e | e;exact hFH e;omega
  have hBY:B<=Y.heap.size:=by omega
  have lgY:=hx'.top.lt
  clear k4 z4 zf zl hb4 hk4 hb14 hK hKw hkn h3 hHl
  have htl2:d.tr.length + 1<=100000000:=by have:=htl.out;omega
  replace htl2:=hd' htl2
  go_wp2_with (first
   | (go_at_call 72;go_loud ((with_reducible refine (hss.out _ _ _ _ hx').mono ?_);rintro r w5 ⟨rfl,hx5,ho5⟩;have tY5:=tY.only ho5 hnH;have c5:=ci cc (tY5.cell 1);have l5:=tY5.lt;have hT5:=hd' (WdTo.trans hT1.out (WdTo.set hx' hBY hx5 ho5));obtain ⟨⟨x2,hx2⟩,_,hB5⟩:=id hT5.out;have lg5:=hx2.top.lt;have hte:=zq0 hx2 hB5 0 cc htl2.out))
   | (go_at_call 71;(with_reducible refine hte.mono ?_);rintro r w6 ⟨rfl,hT6⟩)
   | fail)
  go_returns
  rw [hR2.out]
  exact ⟨rfl,hfrom.out _ _ _ hbw.out (hT5.out.trans hT6)⟩
 ·have hR2:=hd' ((hR.out.trans hbe.out).trans (if_neg hu))
  clear hR hbe
  generalize d.stat cc=sv at *
  go_wp2_with (first | (go_at_call 31;(with_reducible refine hst.out.mono ?_);rintro r w1 ⟨rfl,hb1⟩) | fail)
  go_returns
  rw [hR2.out]
  exact ⟨rfl,hstay.out _ (zab hb0.out hb1)⟩
end

end

section

open Go.RowKit

attribute [local go_sem ↓] Go.wp_at_zero Go.wp_at_succ

theorem z8u:(Tryz.prog.info? 59).map (fun i=> (i.zero,i.size,i.bytes))=some (some (.agg #[.int .i64 0,.int .i64 0,.int .i64 0,.int .u64 0,.int .u64 0,.bool false]),6,48):=by kernel_rfl
theorem zic {w w':World} {B:Nat} {E:TypeId} {size:Nat} {v:Value} {n:Nat} {xs:List Value} (h:w.ownsRow B E size v n xs) (hb:Below w.heap.size w w'):w'.ownsRow B E size v n xs:=
 zas h fun k hk=> hb.block k (h.lt k hk).2
def Wx.logd (x:Wx) (sv:Value) (N:Nat):Wx:= { x with sv:=sv,ow:=fun i=> if N<=i then 5 else x.ow i }
theorem WdP.logged {B:Nat} {F:Nat->Prop} {W W' W2:World} {g:Nat} {s:Sh} {d:Wd} {x:Wx} {v':Value} {es:List Acc} (h:WdP B F W g s d x) (hB:B<=W.heap.size) (hg:W.grownBy W' x.sv.ownBlock)
  (ho:W'.ownsRow B 59 6 v' (d.lg.length + es.length) ((d.lg.flatMap fun e=> e.cells.toList) ++ es.flatMap fun e=> e.cells.toList))
  (hv:v'.ownBlock=x.sv.ownBlock\/v'.ownBlock=some W.heap.size) (h2:W2=W'.setCell ⟨g,6,.none⟩ v'):
  WdP B (grow F W W2) W2 g s { d with lg:=d.lg ++ es } (x.logd v' W.heap.size)/\Only (fun i=> (x.ow i=5/\F i)\/i=g) W W2:=by
 have hsz:W2.heap.size=W'.heap.size:=by rw [h2];simp [World.setCell]
 have hsv:∀ i,x.sv.ownBlock=some i->F i:=fun i hi=> (h.fs i hi).1
 have ho1:Only (fun i=> x.ow i=5/\F i) W W':=(Only.refl _ W).grown hg fun k hk=> .inl ⟨(h.fs k hk).2,(h.fs k hk).1⟩
 have ho2:Only (fun i=> (x.ow i=5/\F i)\/i=g) W W2:=by
  rw [h2]
  exact Only.setCell (Only.weak ho1 fun k hk=> .inl hk) (p:=⟨g,6,.none⟩) (.inl (.inr rfl)) v'
 have hlow:∀ i,F i->¬ W.heap.size<=i:=fun i hi=> by have:=(h.lt i hi).2;omega
 have how:∀ i,F i->(x.logd v' W.heap.size).ow i=x.ow i:=fun i hi=> if_neg (hlow i hi)
 have hno:∀ i,x.ow i≠5->i≠g->¬ ((x.ow i=5/\F i)\/i=g):=fun i h1 h2 e=> e.elim (fun e=> h1 e.1) h2
 have hgg:∀ i,x.ow i≠0->i≠g:=fun i hi e=> hi (e ▸ h.fg.2)
 have own:∀ i m,x.ow i=m->m≠5->m≠0->¬ ((x.ow i=5/\F i)\/i=g):=fun i m hm h4 h0=> hno i (by omega) (hgg i (by omega))
 refine ⟨⟨?_,h.wds.only ho2 (own _ 1 h.fp.2 (by decide) (by decide)) (own _ 2 h.fb.2 (by decide) (by decide)),h.lst.only ho2 (own _ 3 h.fl.2 (by decide) (by decide)),h.pl,h.pe,fun c k hk=> (h.cl c k hk).only ho2 (fun i hi=> own i (c + 6) (h.fc c i hi).2 (by omega) (by omega)),
  zas h.tr fun i hi=> ho2.block i (h.tr.lt i hi).2 (own i 4 (h.ft i hi).2 (by decide) (by decide)),?_,fun i hi=> ?_,⟨.inl h.fg.1,(how _ h.fg.1).trans h.fg.2⟩,⟨.inl h.fp.1,(how _ h.fp.1).trans h.fp.2⟩,⟨.inl h.fb.1,(how _ h.fb.1).trans h.fb.2⟩,⟨.inl h.fl.1,(how _ h.fl.1).trans h.fl.2⟩,fun i hi=> ⟨.inl (h.ft i hi).1,(how _ (h.ft i hi).1).trans (h.ft i hi).2⟩,
  fun i hi=> ?_,fun c i hi=> ⟨.inl (h.fc c i hi).1,(how _ (h.fc c i hi).1).trans (h.fc c i hi).2⟩⟩,ho2⟩
 ·have ht:zaa W' g (zfd s x.p x.lb d.l.length x.tv x.sv) 122:=h.top.only ho1 (fun e=> by have:=h.fg.2;omega)
  rw [h2]
  exact ht.set 6 v'
 ·rw [h2]
  refine zas (w:=W') ?_ fun i hi=> Below.heap_setCell _ ⟨g,6,.none⟩ _ i ?_
  ·simpa [Wx.logd] using ho
  ·rcases hv with hv | hv
   ·rw [show (x.logd v' W.heap.size).sv=v' from rfl,hv] at hi
    have:=(h.fs i hi).2
    exact hgg i (by omega)
   ·rw [show (x.logd v' W.heap.size).sv=v' from rfl,hv] at hi
    injection hi with hi
    have:=(h.lt _ h.fg.1).2
    show i≠g
    omega
 ·rcases hi with hi | hi
  ·exact ⟨(h.lt i hi).1,by have:=(h.lt i hi).2;have:=ho2.size;omega⟩
  ·exact ⟨by omega,hi.2⟩
 ·rw [show (x.logd v' W.heap.size).sv=v' from rfl] at hi
  rcases hv with hv | hv
  ·rw [hv] at hi
   exact ⟨.inl (h.fs i hi).1,(how _ (h.fs i hi).1).trans (h.fs i hi).2⟩
  ·have hlt:=ho.lt i hi
   rw [hv] at hi
   injection hi with hi
   subst hi
   exact ⟨.inr ⟨Nat.le_refl _,by rw [hsz];exact hlt.2⟩,if_pos lr⟩
section

variable {B:Nat} {F:Nat->Prop} {W:World} {g:Nat} {s:Sh} {d:Wd} {x:Wx} {n:Nat}

theorem z2w (h:WdP B F W g s d x) (hB:B<=W.heap.size) (ho:wdOk s d n) (hn:n<=10000000) (c:Int) (k:Kl) (hk:d.kl c=some k):
  Calls Tryz.prog 69 #[.pointer (some ⟨g,0,.none⟩),.pointer (some ⟨x.qs c.toNat,0,.none⟩)] W fun e w'=> e= .returned (.int .i64 (d.step s c k).2)/\WdTq (fun q=> q=x.qs) B F W w' g s (d.step s c k).1:=by
 obtain ⟨hok,hcc,hcr⟩:=ho.kl c k hk
 have hcl:=(Wd.zfs hk).2
 have hkD:d.l.getD c.toNat none=some k:=by
  have h1:=hk
  unfold Wd.kl at h1
  rw [if_pos hcr.1] at h1;exact h1
 have hst:=ho.st
 have hcw:=h.cw (n:=0) hkD hok ho.fi
 have hel:=Kl.zw4 s k d.m
 have hlg:=ho.lg
 have htr:=ho.tr
 have hstp:=ybc hcw hB (by omega)
 have hs1:=zoh x.p x.b d.m W h.wds
 have hR:d.step s c k=(⟨(k.step s d.m).2.1,d.l.set c.toNat (some (k.step s d.m).1),d.tr ++ (k.step s d.m).2.2.1,if d.m.st < (k.step s d.m).2.1.st then d.lg ++ [(k.step s d.m).2.1.la] else d.lg⟩,(k.step s d.m).2.2.2):=rfl
 have hS':∀ r w',z2r B (x.Fc c.toNat) W w' (x.qs c.toNat) x.p x.b s k d.m r->∃ v,r= .returned (.tuple #[v,.int .i64 (k.step s d.m).2.2.2])/\w'.ownsRow W.heap.size 50 8 v (k.step s d.m).2.2.1.length ((k.step s d.m).2.2.1.flatMap fun e=> e.cells.toList)/\
   WdP B (grow F W w') w' g s { d with m:=(k.step s d.m).2.1,l:=d.l.set c.toNat (some (k.step s d.m).1) } (x.mine c.toNat W.heap.size w'.heap.size)/\Only F W w':=fun r w' hS=> by
  obtain ⟨v,h1,h2⟩:=hS.ret
  have h3:=h.stepped hB hkD hcl hS.cw.kl hS.cw.wd hS.only
  exact ⟨v,h1,h2,h3.1,h3.2⟩
 have hgW:=(h.lt _ h.fg.1).2
 have c3:=ce (.pointer (some ⟨x.p,0,.none⟩)) (h.top.cell 3)
 have lg:=h.top.lt
 have hm9:∀ w',grow F W w' g:=fun w'=> .inl h.fg.1
 clear hcw h
 generalize (k.step s d.m).1=k' at *
 generalize (k.step s d.m).2.2.2=er at *
 generalize (k.step s d.m).2.2.1=es at *
 generalize (k.step s d.m).2.1=m' at *
 obtain ⟨R,hRe,hRe'⟩:∃ R:Wd × Int,Hid (R=d.step s c k)/\R=d.step s c k:=⟨_,hd' rfl,rfl⟩
 rw [<- hRe'] at hR ⊢
 clear hRe'
 replace hR:=hd' hR
 replace hs1:=hd' hs1
 replace hstp:=hd' hstp
 replace hS':=hd' hS'
 replace hlg:=hd' hlg
 go_enter Tryz.func69,Tryz.ntmps69
 go_upto_region 3 with (first
  | (go_at_call 111;(with_reducible refine hs1.out.mono ?_);rintro r w1 ⟨rfl,hw1⟩;obtain rfl:=hw1.symm)
  | (go_at_call 112;(with_reducible refine hstp.out.mono ?_);rintro r w3 hS;obtain ⟨v,rfl,hown,hx3,ho3⟩:=hS'.out _ _ hS;clear hS;have f3:=ce (.pointer (some ⟨x.p,0,.none⟩)) (hx3.top.cell 3);have l3:=hx3.top.lt)
  | fail)
 have hB3:B<=w3.heap.size:=by have:=ho3.size;omega
 have hT3:WdTo B F W w3 g s { d with m:=m',l:=d.l.set c.toNat (some k') }:=⟨⟨_,hx3⟩,ho3,hB3⟩
 have hw3:zaq w3 x.p x.b m':=hx3.wds
 have hs3:=hd' (zoh x.p x.b m' w3 hw3)
 by_cases hlt:d.m.st < m'.st
 ·replace hR:=hd' (hR.out.trans (by rw [if_pos hlt]:_=((⟨m',d.l.set c.toNat (some k'),d.tr ++ es,d.lg ++ [m'.la]⟩:Wd),er)))
  have hlast:=fun Y (hY:zaq Y x.p x.b m')=> z4k x.p x.b m' Y hY
  unfold accV at hlast
  have hwb:=fun Y (hb:Below w3.heap.size w3 Y)=> hw3.below hb
  have hlgo:w3.ownsRow B 59 6 x.sv d.lg.length (d.lg.flatMap fun e=> e.cells.toList):=hx3.lg
  have c6:=ce x.sv (hx3.top.cell 6)
  obtain ⟨i0,hi0,hz0,hz1,hz2⟩:=info_parts z8u
  obtain ⟨at0,ct0,e0,h0⟩:=RdS.zew hlgo
  clear h0
  have hlog:=fun Y W' v' W2 (hb:Below w3.heap.size w3 Y)=> WdP.logged (W:=Y) (W':=W') (W2:=W2) (v':=v') (es:= [m'.la]) (hx3.below hb) (by have:=hb.size;omega)
  have hgb:=hx3.fg.2
  rw [e0] at c6
  have hKw:∀ Y:World,Below w3.heap.size w3 Y->Y.ownsRow B 59 6 (.slice at0 d.lg.length ct0) d.lg.length (d.lg.flatMap fun e=> e.cells.toList)/\zaa Y g (zfd s x.p x.lb (d.l.set c.toNat (some k')).length x.tv x.sv) 122/\Y.cell? ⟨g,3,.none⟩=some (.pointer (some ⟨x.p,0,.none⟩))/\Y.cell? ⟨g,6,.none⟩=some (.slice at0 d.lg.length ct0):=fun Y hb=> ⟨e0 ▸ zic hlgo hb,hx3.top.below hb,(hx3.below hb).top.cell 3,e0 ▸ (hx3.below hb).top.cell 6⟩
  have hgs:∀ i,x.sv.ownBlock=some i->i≠g:=fun i hi e=> by have:=(hx3.fs i hi).2;rw [e,hgb] at this;cases this
  have hln:d.lg.length<=10000000:=by have:=hlg.out;omega
  replace hlast:=hd' hlast
  replace hwb:=hd' hwb
  replace hKw:=hd' hKw
  replace hlog:=hd' hlog
  replace hgs:=hd' hgs
  replace e0:=hd' e0
  replace hlgo:=hd' hlgo
  have hno:(Value.slice at0 d.lg.length ct0).ownBlock≠some g:=fun e=> hgs.out g (by rw [e0.out];exact e) rfl
  have ht5:∀ Y w5:World,zaa Y g (zfd s x.p x.lb (d.l.set c.toNat (some k')).length x.tv x.sv) 122->∀ o,(Y.alloc o).grownBy w5 (Value.slice at0 d.lg.length ct0).ownBlock->zaa w5 g (zfd s x.p x.lb (d.l.set c.toNat (some k')).length x.tv x.sv) 122:=fun Y w5 h1 o h2=> (h2.block g (h1.alloc o).lt (fun e=> hno e.symm)).trans (h1.alloc o)
  replace ht5:=hd' (fun Y w5 h1 {o} h2=> ht5 Y w5 h1 o h2)
  generalize hla:m'.la=la at *
  obtain ⟨ac,ak,aa,aw,ap,ao⟩:=la
  dsimp only at hlast
  have hon:∀ u ∈ ([.int .i64 ac,.int .i64 ak,.int .i64 aa,.int .u64 aw,.int .u64 ap,.bool ao]:List Value),u.oneCell'=true:=fun u hu=> by
   simp only [List.mem_cons,List.not_mem_nil,or_false] at hu
   rcases hu with rfl | rfl | rfl | rfl | rfl | rfl <;> rfl
  replace hon:=hd' hon
  go_upto_region 4 with (first
   | (go_at_call 111;(with_reducible refine hs3.out.mono ?_);rintro r w4 ⟨rfl,hw4⟩;obtain rfl:=hw4.symm)
   | fail)
  have dd:=(Below.refl w3.heap.size w3).drew
  have d6:=(hKw.out _ dd).2.2.2
  have dd2:=hd' dd
  clear dd
  go_region_law
   (first
    | (refine zbg (by rfl) (.tmp 33) (.tmp 39) 55 (by rfl) B 59 i0 _ 6 48 Tryz.underlying55 hi0 hz0 hz1 hz2 rfl (by omega) _ d.lg.length _ (by rfl) (k4.1.alloc _) _ 1 [.int .i64 ac,.int .i64 ak,.int .i64 aa,.int .u64 aw,.int .u64 ap,.bool ao] (by rfl) (RdS.new (cs:= #[.int .i64 ac,.int .i64 ak,.int .i64 aa,.int .u64 aw,.int .u64 ap,.bool ao]) (t:=59) (sz:=6) (n:=1) (heap_alloc_new w4 _) rfl (by omega)) hon.out (by simp only [maxLen];omega) (by omega) (by simp;omega) ?_;intro v1 w5 hown5 hgrow5 hat5;obtain ⟨a5,c5,e5,_⟩:=RdS.zew hown5;subst e5;have t5:=ht5.out _ _ k4.2.1 hgrow5;have l5:=t5.lt;have q5:=ce x.sv (t5.cell 6);have z5:=zax t5)
    | (go_simp;go_at_call 113;(with_reducible refine (hlast.out _ (hwb.out _ dd2.out)).mono ?_);rintro r w4 ⟨rfl,hb4⟩;have hb34:=dd2.out.trans hb4;have k4:=hKw.out _ hb34;have y6:=k4.2.2.2;have l4:=k4.2.1.lt;have hs4:=hb34.size))
  all_goals
   have hbY:Below w3.heap.size w3 (w4.alloc (.cells #[.int .i64 ac,.int .i64 ak,.int .i64 aa,.int .u64 aw,.int .u64 ap,.bool ao] 59)):=zab hb34 ((Below.refl w4.heap.size w4).alloc lr _)
   have hx6:=hlog.out _ _ _ _ hbY (show World.grownBy _ _ x.sv.ownBlock from (by rw [e0.out];exact hgrow5)) hown5 (show Value.ownBlock _=x.sv.ownBlock\/_ from (by rw [e0.out];exact hat5)) rfl
   generalize World.setCell w5 ⟨g,6,.none⟩ _=w6 at *
   have hsY:=hbY.size
   have hs6:=hx6.2.size
   have hT36:WdTq (fun q=> q=x.qs) B (grow F W w3) w3 w6 g s ⟨m',d.l.set c.toNat (some k'),d.tr,d.lg ++ [⟨ac,ak,aa,aw,ap,ao⟩]⟩:=WdTq.from hx3 hB3 hbY ⟨⟨_,hx6.1,rfl⟩,Only.weak hx6.2 (fun i hi=> hi.elim (fun e=> e.2) (fun e=> e ▸ hx3.fg.1)),by omega⟩
   have hv6:w6.ownsRow W.heap.size 50 8 v es.length (es.flatMap fun e=> e.cells.toList):=zas (zic hown hbY) fun i hi=> hx6.2.block i (by have:=(hown.lt i hi).2;omega) (fun e=> by
    have h8:=(hown.lt i hi).1
    rcases e with e | e
    ·have h9:(x.mine c.toNat W.heap.size w3.heap.size).ow i=c.toNat + 6:=if_pos h8
     omega
    ·omega)
   have hT6:=WdTq.trans hT3 hT36
   obtain ⟨⟨x6,hx7,hq6⟩,_,hB6⟩:=id hT6
   replace hq6:=hd' hq6
   have htl:=hd' (zqf hx7 hB6 es v (zut hv6) (by show d.tr.length + es.length<=_;omega))
   clear hx6 hT36 hv6 hown5 hgrow5 hat5 t5 q5 z5 l5 hlog
   go_wp2_with (first
    | (go_at_call 71;(with_reducible refine htl.out.mono ?_);rintro r w7 ⟨rfl,hT7⟩)
    | fail)
   go_returns
   rw [hR.out]
   exact ⟨rfl,WdTq.trans hT6.to (hT7.imp fun q e=> e.trans hq6.out)⟩
 ·replace hR:=hd' (hR.out.trans (by rw [if_neg hlt]:_=((⟨m',d.l.set c.toNat (some k'),d.tr ++ es,d.lg⟩:Wd),er)))
  have htl:=hd' (zqf hx3 hB3 es v (zut hown) (by show d.tr.length + es.length<=_;omega))
  go_wp2_with (first
   | (go_at_call 111;(with_reducible refine hs3.out.mono ?_);rintro r w4 ⟨rfl,hw4⟩;obtain rfl:=hw4.symm)
   | (go_at_call 71;(with_reducible refine htl.out.mono ?_);rintro r w5 ⟨rfl,hT5⟩)
   | fail)
  go_returns
  rw [hR.out]
  exact ⟨rfl,WdTq.trans hT3 (hT5.imp fun q e=> e)⟩
theorem yd5 (h:WdP B F W g s d x) (hB:B<=W.heap.size) (ho:wdOk s d n) (hn:n<=10000000) (c:Int) (k:Kl) (hk:d.kl c=some k):
  Calls Tryz.prog 69 #[.pointer (some ⟨g,0,.none⟩),.pointer (some ⟨x.qs c.toNat,0,.none⟩)] W fun e w'=> e= .returned (.int .i64 (d.step s c k).2)/\WdTo B F W w' g s (d.step s c k).1:=
 (z2w h hB ho hn c k hk).mono fun e w' h=> ⟨h.1,h.2.to⟩
end

end

end Go.Proofs.YtampacmmhhilaaaGreat
