/- A world in memory: a client is started; one access of a client. -/
import Derived.Test.YtampacmmhhilaaaGreatZWldW

set_option linter.all false
namespace Go.Proofs.YtampacmmhhilaaaGreat

open Go.RowKit

attribute [local go_sem ↓] Go.wp_at_zero Go.wp_at_succ

theorem WdP.weak {B:Nat} {F G:Nat→Prop} {W:World} {g:Nat} {s:Sh} {d:Wd} {x:Wx} (h:WdP B F W g s d x) (hG:∀ i,F i→G i) (hl:∀ i,G i→B≤i∧i < W.heap.size):WdP B G W g s d x:=
 ⟨h.top,h.wds,h.lst,h.pl,h.pe,h.cl,h.tr,h.lg,hl,⟨hG _ h.fg.1,h.fg.2⟩,⟨hG _ h.fp.1,h.fp.2⟩,⟨hG _ h.fb.1,h.fb.2⟩,⟨hG _ h.fl.1,h.fl.2⟩,fun i hi=> ⟨hG _ (h.ft i hi).1,(h.ft i hi).2⟩,fun i hi=> ⟨hG _ (h.fs i hi).1,(h.fs i hi).2⟩,fun c i hi=> ⟨hG _ (h.fc c i hi).1,(h.fc c i hi).2⟩⟩
theorem own_lower {w:World} {B B':Nat} {E:TypeId} {size:Nat} {v:Value} {n:Nat} {xs:List Value} (h:w.ownsRow B E size v n xs) (hB:B'≤B):w.ownsRow B' E size v n xs:=
 ⟨h.1,h.2.imp id fun ⟨g,cap,cur,hv,hb,rest⟩=> ⟨g,cap,cur,hv,Nat.le_trans hB hb,rest⟩⟩
theorem WdP.lower {B B':Nat} {F:Nat→Prop} {W:World} {g:Nat} {s:Sh} {d:Wd} {x:Wx} (h:WdP B F W g s d x) (hB:B'≤B):WdP B' F W g s d x:=
 ⟨h.top,h.wds,h.lst,h.pl,h.pe,h.cl,own_lower h.tr hB,own_lower h.lg hB,fun i hi=> ⟨Nat.le_trans hB (h.lt i hi).1,(h.lt i hi).2⟩,h.fg,h.fp,h.fb,h.fl,h.ft,h.fs,h.fc⟩
/-- From one world of memory to the next a world has become another one. -/
def WdTo (B:Nat) (F:Nat→Prop) (W W':World) (g:Nat) (s:Sh) (d:Wd):Prop:=(∃ x,WdP B (grow F W W') W' g s d x)∧Only F W W'∧B≤W'.heap.size
section

variable {B:Nat} {F:Nat→Prop} {W W1 W2:World} {g:Nat} {s:Sh} {d d2:Wd} {x:Wx}

theorem WdTo.trans (h:WdTo B F W W1 g s d) (k:WdTo B (grow F W W1) W1 W2 g s d2):WdTo B F W W2 g s d2:=by
 obtain ⟨_,h2,h3⟩:=h
 obtain ⟨⟨x,k1⟩,k2,k3⟩:=k
 refine ⟨⟨x,k1.eqv (grow_grow h2.size k2.size)⟩,Only.trans h2 k2 (fun i hi e=> ?_),k3⟩
 rcases e with e | e
 ·exact e
 ·omega
theorem WdTo.below (h:WdTo B F W W1 g s d) (hB:B≤W.heap.size) (hF:∀ i,F i→B≤i∧i < W.heap.size) (hb:Below W1.heap.size W1 W2):WdTo B F W W2 g s d:=by
 obtain ⟨⟨x,h1⟩,h2,h3⟩:=h
 have hs:=hb.size
 refine ⟨⟨x,(h1.below hb).weak (fun i hi=> ?_) (fun i hi=> ?_)⟩,Only.trans (F:=F) h2 (Only.of_below (F:=fun _=> False) hb) (fun _ _ e=> e.elim),by omega⟩
 ·rcases hi with hi | hi
  ·exact .inl hi
  ·exact .inr ⟨hi.1,by omega⟩
 ·have:=h2.size
  rcases hi with hi | hi
  ·exact ⟨(hF i hi).1,by have:=(hF i hi).2;omega⟩
  ·exact ⟨by omega,hi.2⟩
theorem WdTo.start (h:WdP B F W g s d x) (hB:B≤W.heap.size) (hb:Below W.heap.size W W1):WdTo B F W W1 g s d:=
 ⟨⟨x,(h.grows hB hb)⟩,Only.of_below hb,by have:=hb.size;omega⟩
theorem WdTo.set (h:WdP B F W g s d x) (hB:B≤W.heap.size) (h2:WdP B F W1 g s d2 x) (ho:Only F W W1):WdTo B F W W1 g s d2:=by
 have hs:=ho.size
 refine ⟨⟨x,h2.weak (fun i hi=> .inl hi) (fun i hi=> ?_)⟩,ho,by omega⟩
 rcases hi with hi | hi
 ·exact ⟨(h.lt i hi).1,by have:=(h.lt i hi).2;omega⟩
 ·exact ⟨by omega,hi.2⟩
theorem WdTo.from (h:WdP B F W g s d x) (hB:B≤W.heap.size) (hb:Below W.heap.size W W1) (k:WdTo B F W1 W2 g s d2):WdTo B F W W2 g s d2:=by
 obtain ⟨⟨x,k1⟩,k2,k3⟩:=k
 have hs:=hb.size
 have hs2:=k2.size
 refine ⟨⟨x,k1.weak (fun i hi=> ?_) (fun i hi=> ?_)⟩,Only.trans (F:=F) (Only.of_below hb) k2 (fun i _ hi=> hi),k3⟩
 ·rcases hi with hi | hi
  ·exact .inl hi
  ·exact .inr ⟨by omega,hi.2⟩
 ·rcases hi with hi | hi
  ·exact ⟨(h.lt i hi).1,by have:=(h.lt i hi).2;omega⟩
  ·exact ⟨by omega,hi.2⟩
theorem grow_in (h:WdP B F W g s d x) (hB:B≤W.heap.size) (hs:W.heap.size≤W1.heap.size):∀ i,grow F W W1 i→B≤i∧i < W1.heap.size:=fun i hi=> by
 rcases hi with hi | hi
 ·exact ⟨(h.lt i hi).1,by have:=(h.lt i hi).2;omega⟩
 ·exact ⟨by omega,hi.2⟩
end

theorem rdE_one {W:World} (e:Ev):RdE (W.alloc (.cells e.cells 50)) (.slice (some ⟨W.heap.size,0, .none⟩) 1 1) [e]:=by
 have h:=RdS.new (sz:=8) (n:=1) (heap_alloc_new W (.cells e.cells 50)) rfl (by omega)
 unfold RdE
 simpa using h
/-- What the row of clients says at a place. -/
theorem WdP.ptr {B:Nat} {F:Nat→Prop} {W:World} {g:Nat} {s:Sh} {d:Wd} {x:Wx} (h:WdP B F W g s d x) {c:Int} (h0:0≤c) (hc:c.toNat < d.l.length):W.cell? ⟨x.lb,c.toNat, .none⟩=some (ptrK (d.kl c) (x.qs c.toNat)):=by
 refine (h.lst.cell _).trans ?_
 have:=h.pe c.toNat hc
 unfold Wd.kl
 rw [if_pos h0]
 simpa using this
section

variable {B:Nat} {F:Nat→Prop} {W:World} {g:Nat} {s:Sh} {d:Wd} {x:Wx} {n:Nat}

theorem wtell_to (h:WdP B F W g s d x) (hB:B≤W.heap.size) (es:List Ev) (v:Value) (hr:RdE W v es) (hl:d.tr.length + es.length≤100000000):
  Calls Tryz.prog 71 #[.pointer (some ⟨g,0, .none⟩),v] W fun e w'=> e= .returned (.tuple #[])∧WdTo B F W w' g s { d with tr:=d.tr ++ es }:=
 (wtell_any h hB es v hr hl).mono fun e w' ⟨h1,x',h2,h3⟩=> ⟨h1,⟨x',h2⟩,h3,by have:=h3.size;omega⟩
/-- An event is told. -/
theorem wtell_one (h:WdP B F W g s d x) (hB:B≤W.heap.size) (e0:Ev) (hl:d.tr.length + 1≤100000000):
  Calls Tryz.prog 71 #[.pointer (some ⟨g,0, .none⟩), .slice (some ⟨W.heap.size,0, .none⟩) 1 1] (W.alloc (.cells e0.cells 50)) fun e w'=> e= .returned (.tuple #[])∧WdTo B F W w' g s { d with tr:=d.tr ++ [e0] }:=by
 have hb:=(Below.refl W.heap.size W).alloc (Nat.le_refl _) (.cells e0.cells 50)
 have h1:=h.grows hB hb
 refine (wtell_to h1 (by simp;omega) [e0] _ (rdE_one e0) hl).mono fun e w' hS=> ⟨hS.1,(WdTo.start h hB hb).trans hS.2⟩
theorem wtell_two (h:WdP B F W g s d x) (hB:B≤W.heap.size) (k c:Int) (hl:d.tr.length + 1≤100000000):
  Calls Tryz.prog 71 #[.pointer (some ⟨g,0, .none⟩), .slice (some ⟨W.heap.size,0, .none⟩) 1 1] (W.alloc (.cells #[.int .i64 k, .int .i64 c, .int .i64 0, .int .i64 0, .int .i64 0, .int .i64 0, .int .i64 0, .int .i64 0] 50)) fun e w'=> e= .returned (.tuple #[])∧WdTo B F W w' g s { d with tr:=d.tr ++ [⟨k,c,0,0,0,0,0,0⟩] }:=
 wtell_one h hB ⟨k,c,0,0,0,0,0,0⟩ hl
set_option maxRecDepth 100000 in
set_option maxHeartbeats 4000000 in
theorem wstart_any (h:WdP B F W g s d x) (hB:B≤W.heap.size) (ho:wdOk s d n) (hn:n≤10000000) (c:Ch) (hc:0≤c.client∧c.client < s.c):
  Calls Tryz.prog 68 #[.pointer (some ⟨g,0, .none⟩), .agg c.cells.toArray] W fun e w'=> e= .returned (.int .i64 (d.begin s c).2)∧WdTo B F W w' g s (d.begin s c).1:=by
 have hbd:=ho.fi.bd
 have hi:c.client.toNat < d.l.length:=by rw [ho.len];omega
 have htl:=ho.tr
 have hsx:0≤statusIx s.p s.c s.m c.client:=by rw [status_in ho.fi.may hc];exact hc.1
 obtain ⟨ck,cc,co,ca,cn,cb⟩:=c
 show Calls Tryz.prog 68 #[.pointer (some ⟨g,0, .none⟩), .agg #[.int .i64 ck, .int .i64 cc, .int .i64 co, .int .i64 ca, .int .i64 cn, .float .f64 cb]] W _
 dsimp only at hc hi hsx
 have hb0:=(Below.refl W.heap.size W).alloc (Nat.le_refl _) (.cells #[.int .i64 ck, .int .i64 cc, .int .i64 co, .int .i64 ca, .int .i64 cn, .float .f64 cb] 46)
 have t0:RowAt (W.alloc (.cells #[.int .i64 ck, .int .i64 cc, .int .i64 co, .int .i64 ca, .int .i64 cn, .float .f64 cb] 46)) W.heap.size #[.int .i64 ck, .int .i64 cc, .int .i64 co, .int .i64 ca, .int .i64 cn, .float .f64 cb] 46:=heap_alloc_new _ _
 have hst:=wstat_any (h.below hb0) ho.fi ho.fit cc
 have hv:wstatV s d cc=d.stat cc:=if_pos hsx
 rw [hv] at hst
 have h1:=h.below hb0
 have hBX:B≤(W.alloc (.cells #[.int .i64 ck, .int .i64 cc, .int .i64 co, .int .i64 ca, .int .i64 cn, .float .f64 cb] 46)).heap.size:=by simp;omega
 have lgX:g < (W.alloc (.cells #[.int .i64 ck, .int .i64 cc, .int .i64 co, .int .i64 ca, .int .i64 cn, .float .f64 cb] 46)).heap.size:=(h.below hb0).top.lt
 have hFH:¬ F W.heap.size:=fun e=> by have:=(h.lt _ e).2;omega
 have hfrom:=fun W1 W2 d2 (hb:Below W.heap.size W W1)=> WdTo.from (W1:=W1) (W2:=W2) (d2:=d2) h hB hb
 have hstay:=fun W1 (hb:Below W.heap.size W W1)=> WdTo.start (W1:=W1) h hB hb
 have hHl:W.heap.size≠x.lb:=fun e=> by have:=(h.lt _ h.fl.1).2;omega
 clear h hv
 have hcs:d.stat cc=0∨d.stat cc≠0:=Decidable.em _
 have hkn:∀ Y,Calls Tryz.prog 110 #[.agg #[.int .i64 s.p, .int .i64 s.c, .int .i64 s.m], .int .i64 cc, .float .f64 cb] Y fun e w'=> ∃ q,e= .returned (.pointer (some ⟨q,0, .none⟩))∧KlO (fun i=> Y.heap.size≤i∧i < w'.heap.size) w' q s (klNew cc (Fl.shareI cb s.p))∧Below Y.heap.size Y w':=fun Y=> (klnew_any s cc cb Y (by omega)).mono fun e w' hh=> by
  obtain ⟨h1,h2⟩:=hh
  rw [if_neg (by rw [status_in ho.fi.may hc];omega)] at h2
  obtain ⟨q,e,h3⟩:=h2
  exact ⟨q,e,h3,h1⟩
 have hss:=fun F' Y L x' (hY:WdP B F' Y g s { d with l:=L } x')=> wsetstat_any hY ho.fi cc 1 hc
 replace hkn:=Lib.hid hkn
 replace hss:=Lib.hid hss
 replace hst:=Lib.hid hst
 replace hfrom:=Lib.hid hfrom
 replace hstay:=Lib.hid hstay
 replace htl:=Lib.hid htl
 have hbe:d.begin s ⟨ck,cc,co,ca,cn,cb⟩=if d.stat cc=0 then (⟨d.m.put cc (statusV 1 0),d.l.set cc.toNat (some (klNew cc (Fl.shareI cb s.p))),d.tr ++ [evStarted cc],d.lg⟩,0) else (d,5):=rfl
 obtain ⟨R,hR,hR'⟩:∃ R:Wd × Int,Hid (R=d.begin s ⟨ck,cc,co,ca,cn,cb⟩)∧R=d.begin s ⟨ck,cc,co,ca,cn,cb⟩:=⟨_,Lib.hid rfl,rfl⟩
 rw [← hR']
 clear hR'
 replace hbe:=Lib.hid hbe
 go_enter Tryz.func68,Tryz.ntmps68
 go_upto_region 1 with fail
 generalize W.alloc (.cells #[.int .i64 ck, .int .i64 cc, .int .i64 co, .int .i64 ca, .int .i64 cn, .float .f64 cb] 46)=X at *
 obtain ⟨H,hH,hH'⟩:∃ H,Hid (H=W.heap.size)∧H=W.heap.size:=⟨_,Lib.hid rfl,rfl⟩
 rw [← hH'] at t0 hHl hFH ⊢
 clear hH'
 replace hb0:=Lib.hid hb0
 have lH:=t0.lt
 have c1:X.cell? ⟨H,1, .none⟩=some (.int .i64 cc):=t0.cell 1
 rcases hcs with hu | hu
 ·have hR2:=Lib.hid ((hR.out.trans hbe.out).trans (if_pos hu))
  rw [hu] at hst
  clear hu hR hbe
  go_upto_region 3 with (first | (go_at_call 31;(with_reducible refine hst.out.mono ?_);rintro r w1 ⟨rfl,hb1⟩) | fail)
  have h3:=h1.below hb1
  have hbw:=Lib.hid (belowTrans hb0.out hb1)
  have t1:=t0.below hb1
  have hB1:B≤w1.heap.size:=by have:=hb1.size;omega
  clear c1 t0 hst h1 lH lgX hb1 hBX hb0 hstay
  have hlb:=(h3.lt _ h3.fl.1).2
  have lH:=t1.lt
  have lg:=h3.top.lt
  have hgl:g≠x.lb:=fun e=> by have:=h3.fg.2;have:=h3.fl.2;rw [e] at *;omega
  have hK:∀ Y:World,RowAt Y H #[.int .i64 ck, .int .i64 cc, .int .i64 co, .int .i64 ca, .int .i64 cn, .float .f64 cb] 46→RowAt Y g (wdCells s x.p x.lb d.l.length x.tv x.sv) 122→(Y.cell? ⟨H,1, .none⟩=some (.int .i64 cc)∧Y.cell? ⟨H,5, .none⟩=some (.float .f64 cb)∧Y.cell? ⟨g,0, .none⟩=some (.int .i64 s.p)∧Y.cell? ⟨g,1, .none⟩=some (.int .i64 s.c)∧Y.cell? ⟨g,2, .none⟩=some (.int .i64 s.m)∧Y.cell? ⟨g,4, .none⟩=some (.slice (some ⟨x.lb,0, .none⟩) d.l.length d.l.length)):=fun Y h1 h2=> ⟨h1.cell 1,h1.cell 5,h2.cell 0,h2.cell 1,h2.cell 2,h2.cell 4⟩
  have hKw:∀ Y:World,Below w1.heap.size w1 Y→RowAt Y H #[.int .i64 ck, .int .i64 cc, .int .i64 co, .int .i64 ca, .int .i64 cn, .float .f64 cb] 46∧RowAt Y g (wdCells s x.p x.lb d.l.length x.tv x.sv) 122∧Y.cell? ⟨x.lb,cc.toNat, .none⟩=some (ptrK (d.kl cc) (x.qs cc.toNat))∧(∀ i,Y.frozen? ⟨x.lb,i, .none⟩=false)∧x.lb < Y.heap.size:=fun Y hb=> ⟨t1.below hb,(h3.below hb).top,(h3.below hb).ptr hc.1 hi,rowFree (h3.below hb).lst,(h3.below hb).lst.lt⟩
  replace hK:=Lib.hid hK
  replace hKw:=Lib.hid hKw
  have hic:cc < (d.l.length:Int):=by omega
  have hc0:=hc.1
  go_region_held3 (fun Y=> Y.cell? ⟨H,1, .none⟩=some (.int .i64 cc)∧Y.cell? ⟨H,5, .none⟩=some (.float .f64 cb)∧Y.cell? ⟨g,0, .none⟩=some (.int .i64 s.p)∧Y.cell? ⟨g,1, .none⟩=some (.int .i64 s.c)∧Y.cell? ⟨g,2, .none⟩=some (.int .i64 s.m)∧Y.cell? ⟨g,4, .none⟩=some (.slice (some ⟨x.lb,0, .none⟩) d.l.length d.l.length))
   (first | exact hK.out _ (hKw.out _ (Below.refl _ _).drew).1 (hKw.out _ (Below.refl _ _).drew).2.1 | exact hK.out _ k4.1 k4.2.1 | exact hK.out _ (k4.1.other hHl _ _) (k4.2.1.other hgl _ _) | fail)
   (first
    | (go_at_call 110;(with_reducible refine (hkn.out _).mono ?_);rintro r w4 ⟨q,rfl,hk4,hb4⟩;have k4:=hKw.out _ ((Below.refl _ _).drew.trans hb4);have z4:=k4.2.2.1;have zf:=k4.2.2.2.1;have zl:=k4.2.2.2.2)
    | fail)
  have hb14:Below w1.heap.size w1 w4:=(Below.refl _ _).drew.trans hb4
  obtain ⟨x',hx',ho',_,_⟩:=h3.place (o:=some (klNew cc (Fl.shareI cb s.p))) (q:=q) hB1 hi hb14 (fun k e=> by injection e with e;subst e;exact hk4) (fun i hi=> hi) rfl
  have tY:=k4.1.other hHl cc.toNat (ptrK (some (klNew cc (Fl.shareI cb s.p))) q)
  have hsY:=ho'.size
  have hT1:=Lib.hid (⟨⟨x',hx'⟩,ho',by omega⟩:WdTo B F w1 _ g s { d with l:=d.l.set cc.toNat (some (klNew cc (Fl.shareI cb s.p))) })
  change Exit.then _ _ _ _ (w4.setCell ⟨x.lb,cc.toNat, .none⟩ (ptrK (some (klNew cc (Fl.shareI cb s.p))) q))
  generalize w4.setCell ⟨x.lb,cc.toNat, .none⟩ (ptrK (some (klNew cc (Fl.shareI cb s.p))) q)=Y at *
  have cY:Y.cell? ⟨H,1, .none⟩=some (.int .i64 cc):=tY.cell 1
  have lY:=tY.lt
  have hnH:¬ grow F w1 Y H:=fun e=> by rcases e with e | e;exact hFH e;omega
  have hBY:B≤Y.heap.size:=by omega
  have lgY:=hx'.top.lt
  clear k4 z4 zf zl hb4 hk4 hb14 hK hKw hkn h3 hHl
  have htl2:d.tr.length + 1≤100000000:=by have:=htl.out;omega
  replace htl2:=Lib.hid htl2
  go_wp2_with (first
   | (go_at_call 72;go_loud ((with_reducible refine (hss.out _ _ _ _ hx').mono ?_);rintro r w5 ⟨rfl,hx5,ho5⟩;have tY5:=tY.only ho5 hnH;have c5:w5.cell? ⟨H,1, .none⟩=some (.int .i64 cc):=tY5.cell 1;have l5:=tY5.lt;have hT5:=Lib.hid (WdTo.trans hT1.out (WdTo.set hx' hBY hx5 ho5));obtain ⟨⟨x2,hx2⟩,_,hB5⟩:=id hT5.out;have lg5:=hx2.top.lt;have hte:=wtell_two hx2 hB5 0 cc htl2.out))
   | (go_at_call 71;(with_reducible refine hte.mono ?_);rintro r w6 ⟨rfl,hT6⟩)
   | fail)
  go_returns
  rw [hR2.out]
  exact ⟨rfl,hfrom.out _ _ _ hbw.out (hT5.out.trans hT6)⟩
 ·have hR2:=Lib.hid ((hR.out.trans hbe.out).trans (if_neg hu))
  clear hR hbe
  generalize d.stat cc=sv at *
  go_wp2_with (first | (go_at_call 31;(with_reducible refine hst.out.mono ?_);rintro r w1 ⟨rfl,hb1⟩) | fail)
  go_returns
  rw [hR2.out]
  exact ⟨rfl,hstay.out _ (belowTrans hb0.out hb1)⟩
end

end Go.Proofs.YtampacmmhhilaaaGreat
