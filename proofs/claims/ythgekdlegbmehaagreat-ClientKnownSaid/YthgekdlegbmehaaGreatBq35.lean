/- Texts bound together: EdgeS CliZ SchP WdsW WldP. -/
import Derived.Test.YthgekdlegbmehaaGreatBq34

set_option linter.all false
set_option maxHeartbeats 4000000
set_option maxRecDepth 100000
namespace Go.Proofs.YthgekdlegbmehaaGreat

section

open Go.RowKit Fl

theorem yed (x:Nat):(FloatKind.f64.format.order x 4607182418800017408==some .gt || FloatKind.f64.format.order x 4607182418800017408==some .eq)=(!nan x && decide ((ONE:Int)<=iv x)):=by
 have h1:=gtxy x ONE
 have h2:=eqxy x ONE
 unfold ONE at h1 h2
 rw [h1,h2]
 show (gtB x ONE || eqB x ONE)=_
 unfold gtB eqB
 rw [yaf,yfe]
 cases nan x
 ·simp only [Bool.not_false,Bool.true_and]
  rw [Bool.eq_iff_iff]
  simp only [Bool.or_eq_true,decide_eq_true_eq]
  omega
 ·rfl
theorem z4a (x:Nat) (n:Int) (hn0: -9223372036854775808<=n) (hn1:n<=9223372036854775807) (w:World):Calls Tryz.prog 15 #[F64 x,.int .i64 n] w fun e w'=> e= .returned (.int .i64 (zdr x n))/\w'=w:=by
 have hlt:=lt0 x
 have hge:=yed x
 have hk0:=zst (x:=x)
 unfold zdr
 by_cases h1:n < 1
 ·rw [if_pos (.inl h1)]
  clear hlt hge hk0
  go_enter Tryz.func15,Tryz.ntmps15
  go_wp2_with (go_at_call 32;refine (zhn _ _).mono ?_;rintro e w1 ⟨rfl,rfl⟩)
  go_ret
  exact ⟨rfl,rfl⟩
 ·cases h2:nan x
  ·have hk:zg4 x≠0:=fun h=> by rw [hk0.1 h] at h2;cases h2
   have hkb:(zg4 x==0)=false:=by simpa using hk
   rw [h2] at hlt hge
   by_cases h3:iv x < 0
   ·rw [if_pos (.inr (.inr h3))]
    rw [decide_eq_true h3] at hlt
    clear hge hk0 h3
    go_enter Tryz.func15,Tryz.ntmps15
    go_wp2_with (go_at_call 32;refine (zhn _ _).mono ?_;rintro e w1 ⟨rfl,rfl⟩)
    go_ret
    exact ⟨rfl,rfl⟩
   ·rw [if_neg (by simp only [Bool.false_eq_true,false_or,not_or];exact ⟨h1,h3⟩)]
    rw [decide_eq_false h3] at hlt
    by_cases h4:(ONE:Int)<=iv x
    ·rw [if_pos h4]
     rw [decide_eq_true h4] at hge
     clear hk0 h3 h4
     go_enter Tryz.func15,Tryz.ntmps15
     go_wp2_with (go_at_call 32;refine (zhn _ _).mono ?_;rintro e w1 ⟨rfl,rfl⟩)
     go_ret
     exact ⟨rfl,rfl⟩
    ·rw [if_neg h4]
     rw [decide_eq_false h4] at hge
     obtain ⟨r,hm0,hc0,ht⟩:=zye (x:=x) (n:=n) (by omega) hn1 (by omega) (by omega)
     generalize (T (zi8 (rung x) (R n.natAbs 0)):Int)=t at *
     have hm:=fun w:World=> run_float_arith (P:=Tryz.prog) w .mul 27 .f64 _ _ r hm0
     have hc:=fun w:World=> run_convert_float_int (P:=Tryz.prog) w 27 3 .f64 .i64 r t (by kernel_rfl) Tryz.underlying3 hc0
     clear hk0 h3 h4 hm0 hc0
     go_enter Tryz.func15,Tryz.ntmps15
     go_wp2_with (go_at_call 32;refine (zhn _ _).mono ?_;rintro e w1 ⟨rfl,rfl⟩)
     all_goals go_ret
     all_goals refine ⟨zf5 ?_,rfl⟩
     all_goals omega
  ·have hk:zg4 x=0:=hk0.2 h2
   have hkb:(zg4 x==0)=true:=by simpa using hk
   rw [if_pos (.inr (.inl rfl))]
   clear hlt hge hk0 hk
   go_enter Tryz.func15,Tryz.ntmps15
   go_wp2_with (go_at_call 32;refine (zhn _ _).mono ?_;rintro e w1 ⟨rfl,rfl⟩)
   go_ret
   exact ⟨rfl,rfl⟩
end

section

open Go.RowKit

attribute [local go_sem ↓] Go.wp_at_zero Go.wp_at_succ

def z9c (w w':World) (e:Ending) (s:Sh) (c:Int) (x:Nat):Prop:=Below w.heap.size w w'/\
 if zae s.p s.c s.m c < 0 then e= .returned (.pointer none) else ∃ q,e= .returned (.pointer (some ⟨q,0,.none⟩))/\KlO (fun i=> w.heap.size<=i/\i < w'.heap.size) w' q s (zht c (Fl.zdr x s.p))
theorem z0k (s:Sh) (c:Int) (x:Nat) (w:World) (hp: -9223372036854775808<=s.p/\s.p<=9223372036854775807):
  Calls Tryz.prog 5 #[.agg #[.int .i64 s.p,.int .i64 s.c,.int .i64 s.m],.int .i64 c,F64 x] w fun e w'=> z9c w w' e s c x:=by
 have hc1:=fun W=> zau s.p s.c s.m c W
 have hc2:=fun W=> z4a x s.p hp.1 hp.2 W
 have hc3:=fun W=> zxv 1 W
 unfold z9c
 have hfin:=hd' (fun (Y W:World) (E S:Nat) (hb:Below w.heap.size w W) (hS:w.heap.size<=S) (hE:w.heap.size<=E) (hES:E≠S) (hr:zaa W E (zat s (zht c (Fl.zdr x s.p)) true .nilIface (.pointer (some ⟨S,0,.none⟩))) 55) (hs:zaa W S #[.slice none 0 0,.int .i64 1] 74)=> (by
  refine ⟨fun i hi=> hi.2,⟨hE,hr.lt⟩,S,.slice none 0 0,.nilIface,fun _=> False,hr,⟨Nat.zero_le _,hs,World.ownsRow_nil _ _ _ _,by simp [Value.ownBlock],fun f hf=> by cases hf⟩,fun i hi=> ?_,fun i hi=> hi.elim,fun _=> rfl,fun j hj=> by cases hj⟩
  rcases hi with rfl | hi
  ·exact ⟨⟨hS,hs.lt⟩,fun e=> hES e.symm⟩
  ·exact absurd hi (fun e=> by cases e):KlO (fun i=> w.heap.size<=i/\i < W.heap.size) W E s (zht c (Fl.zdr x s.p))))
 generalize zae s.p s.c s.m c=sx at *
 generalize Fl.zdr x s.p=sh at *
 obtain ⟨sp,sc,sm⟩:=s
 dsimp only [zat,zht,Op3.zero] at hc1 hc2 hfin ⊢
 replace hc1:=hd' hc1
 replace hc2:=hd' hc2
 replace hc3:=hd' hc3
 have hb0:=(Below.refl w.heap.size w).alloc lr (.cells #[.int .i64 sp,.int .i64 sc,.int .i64 sm] 24)
 have t0:zaa (w.alloc (.cells #[.int .i64 sp,.int .i64 sc,.int .i64 sm] 24)) w.heap.size #[.int .i64 sp,.int .i64 sc,.int .i64 sm] 24:=heap_alloc_new _ _
 go_enter Tryz.func5,Tryz.ntmps5
 go_upto_region 1 with fail
 generalize w.alloc (.cells #[.int .i64 sp,.int .i64 sc,.int .i64 sm] 24)=X at *
 obtain ⟨H,hHH,hHH'⟩:=hidv w.heap.size
 rw [<- hHH'] at t0 ⊢
 have hHw:w.heap.size<=H:=by omega
 clear hHH'
 have lH:H < X.heap.size:=t0.lt
 obtain ⟨c0,c1,c2⟩:=ci3 sp sc sm t0.cell
 by_cases hs:sx < 0
 ·go_wp2_with (first | (go_at_call 14;(with_reducible refine (hc1.out _).mono ?_);rintro r w1 ⟨rfl,hb1⟩) | fail)
  go_returns
  refine ⟨zab hb0 hb1,?_⟩
  first | rfl | (rw [if_pos hs])
 ·have hs':decide (sx < 0)=false:=decide_eq_false hs
  go_upto_region 3 with (first | (go_at_call 14;(with_reducible refine (hc1.out _).mono ?_);rintro r w1 ⟨rfl,hb1⟩) | fail)
  have t1:=t0.below hb1
  have bw1:=zab hb0 hb1
  have td:=t1.drew
  have bd:=bw1.drew
  clear lH c0 c1 c2 hb0 t0
  have lH:H < w1.drew.heap.size:=td.lt
  have hS:=hd' (fun (Y:World) (hr:zaa Y H #[.int .i64 sp,.int .i64 sc,.int .i64 sm] 24)=> (⟨hr.cell 0,hr.cell 1,hr.cell 2⟩:Y.cell? ⟨H,0,.none⟩=some (.int .i64 sp)/\Y.cell? ⟨H,1,.none⟩=some (.int .i64 sc)/\Y.cell? ⟨H,2,.none⟩=some (.int .i64 sm)))
  go_region_held3 (fun Y=> Y.cell? ⟨H,0,.none⟩=some (.int .i64 sp)/\Y.cell? ⟨H,1,.none⟩=some (.int .i64 sc)/\Y.cell? ⟨H,2,.none⟩=some (.int .i64 sm))
   (first | exact hS.out _ td | exact hS.out _ (td.alloc _) | exact hS.out _ ((td.alloc _).alloc _) | fail)
   (first
    | (go_at_call 15;(with_reducible refine (hc2.out _).mono ?_);rintro r w2 ⟨rfl,hw2⟩;obtain rfl:=hw2.symm)
    | (go_at_call 16;(with_reducible refine (hc3.out _).mono ?_);rintro r w3 ⟨rfl,hw3⟩;obtain rfl:=hw3.symm)
    | fail)
  all_goals go_wp2_with fail
  go_returns
  have e1:(w1.alloc (.cells #[.slice none 0 0,.int .i64 1] 74)).heap.size=w1.heap.size + 1:=size_alloc _ _
  have r1:zaa ((w1.alloc (.cells #[.slice none 0 0,.int .i64 1] 74)).alloc (.cells #[.int .i64 sp,.int .i64 sc,.int .i64 sm,.int .i64 c,.int .i64 sh,.int .i64 0,.int .i64 0,.int .i64 0,.nilIface,.bool true,.bool false,.pointer (some ⟨w1.heap.size,0,.none⟩),.int .i64 0] 55)) w1.heap.size #[.slice none 0 0,.int .i64 1] 74:=zaa.alloc (heap_alloc_new _ _) _
  have r2:zaa ((w1.alloc (.cells #[.slice none 0 0,.int .i64 1] 74)).alloc (.cells #[.int .i64 sp,.int .i64 sc,.int .i64 sm,.int .i64 c,.int .i64 sh,.int .i64 0,.int .i64 0,.int .i64 0,.nilIface,.bool true,.bool false,.pointer (some ⟨w1.heap.size,0,.none⟩),.int .i64 0] 55)) (w1.heap.size + 1) #[.int .i64 sp,.int .i64 sc,.int .i64 sm,.int .i64 c,.int .i64 sh,.int .i64 0,.int .i64 0,.int .i64 0,.nilIface,.bool true,.bool false,.pointer (some ⟨w1.heap.size,0,.none⟩),.int .i64 0] 55:=by
   have h:=heap_alloc_new (w1.alloc (.cells #[.slice none 0 0,.int .i64 1] 74)) (.cells #[.int .i64 sp,.int .i64 sc,.int .i64 sm,.int .i64 c,.int .i64 sh,.int .i64 0,.int .i64 0,.int .i64 0,.nilIface,.bool true,.bool false,.pointer (some ⟨w1.heap.size,0,.none⟩),.int .i64 0] 55)
   rw [e1] at h
   exact h
  have b2:Below w.heap.size w ((w1.alloc (.cells #[.slice none 0 0,.int .i64 1] 74)).alloc (.cells #[.int .i64 sp,.int .i64 sc,.int .i64 sm,.int .i64 c,.int .i64 sh,.int .i64 0,.int .i64 0,.int .i64 0,.nilIface,.bool true,.bool false,.pointer (some ⟨w1.heap.size,0,.none⟩),.int .i64 0] 55)).drew:=((bw1.alloc bw1.size (.cells #[.slice none 0 0,.int .i64 1] 74)).alloc (by rw [e1];have:=bw1.size;omega) (.cells #[.int .i64 sp,.int .i64 sc,.int .i64 sm,.int .i64 c,.int .i64 sh,.int .i64 0,.int .i64 0,.int .i64 0,.nilIface,.bool true,.bool false,.pointer (some ⟨w1.heap.size,0,.none⟩),.int .i64 0] 55)).drew
  refine ⟨b2,?_⟩
  try rw [if_neg hs]
  exact ⟨_,rfl,hfin.out w _ (w1.heap.size + 1) w1.heap.size b2 bw1.size (by have:=bw1.size;omega) (by omega) r2.drew r1.drew⟩
end

section

open Go.RowKit Fl

structure Ch where
 kind:Int
 client:Int
 ok:Int
 oa:Int
 on:Int
 bias:Nat
 deriving DecidableEq
def Ch.cells (c:Ch):List Value:= [.int .i64 c.kind,.int .i64 c.client,.int .i64 c.ok,.int .i64 c.oa,.int .i64 c.on,.float .f64 c.bias]
def zdm (xs:List Ch):List Value:=xs.flatMap Ch.cells
theorem zlj (xs:List Ch):(zdm xs).length=xs.length * 6:=by
 induction xs with
 | nil=> rfl
 | cons x xs ih=>
  have:(zdm (x::xs))=x.cells ++ zdm xs:=rfl
  rw [this,List.length_append,ih,List.length_cons]
  show 6 + _=_
  omega
theorem zla (xs ys:List Ch):zdm (xs ++ ys)=zdm xs ++ zdm ys:=by simp [zdm]
theorem zmn (xs:List Ch) (i j:Nat) (hi:i < xs.length) (hj:j < 6):(zdm xs)[i * 6 + j]?=(xs[i].cells)[j]?:=by
 induction xs generalizing i with
 | nil=> simp at hi
 | cons x xs ih=>
  have hl:x.cells.length=6:=rfl
  show (x.cells ++ zdm xs)[i * 6 + j]?=_
  cases i with
  | zero=> rw [List.getElem?_append_left (by omega)];simp
  | succ i=>
   rw [List.getElem?_append_right (by omega),hl,show (i + 1) * 6 + j - 6=i * 6 + j from by omega]
   simpa using ih i (by simpa using hi)
def RdC (w:World) (v:Value) (xs:List Ch):Prop:=∃ ao cap,v= .slice ao xs.length cap/\xs.length<=cap/\(cap:Int)<=9223372036854775807/\
 (xs≠ []->∃ b off,ao=some ⟨b,off,.none⟩/\b < w.heap.size/\∀ i j,(hi:i < xs.length)->j < 6->w.cell? ⟨b,off + i * 6 + j,.none⟩=(xs[i].cells)[j]?)
theorem RdC.below {w w':World} {v:Value} {xs:List Ch} (h:RdC w v xs) (hb:Below w.heap.size w w'):RdC w' v xs:=
 let ⟨ao,cap,e,h1,h2,h3⟩:=h
 ⟨ao,cap,e,h1,h2,fun hx=> let ⟨b,off,ea,hlt,hc⟩:=h3 hx;⟨b,off,ea,Nat.lt_of_lt_of_le hlt hb.size,fun i j hi hj=> (hb.cell (p:=⟨b,_,.none⟩) hlt).trans (hc i j hi hj)⟩⟩
abbrev OwnC (E:TypeId) (B:Nat) (w:World) (v:Value) (xs:List Ch):Prop:=w.ownsRow B E 6 v xs.length (zdm xs)
theorem OwnC.rd {E:TypeId} {B:Nat} {w:World} {v:Value} {xs:List Ch} (h:OwnC E B w v xs):RdC w v xs:=by
 rcases h.2 with ⟨h1,h2⟩ | ⟨g,cap,cur,rfl,h1,h2,h3,h4,h5,h6⟩
 ·have:xs= []:=List.eq_nil_of_length_eq_zero h2
  subst this
  exact ⟨none,0,h1,Nat.le_refl _,by omega,fun h=> absurd rfl h⟩
 ·refine ⟨_,cap,rfl,h3,by simp only [maxLen] at h4;omega,fun _=> ⟨g,0,rfl,(Array.getElem?_eq_some_iff.1 h2).1,fun i j hi hj=> ?_⟩⟩
  rw [cell_of_row w g _ cur E (0,0) h2,<- zmn xs i j hi hj,<- h6,List.getElem?_take,if_pos (by omega)]
  simp
theorem OwnC.later {E:TypeId} {B:Nat} {w w':World} {v:Value} {xs:List Ch} (h:OwnC E B w v xs) (hb:Below w.heap.size w w'):OwnC E B w' v xs:=by
 refine ⟨h.1,?_⟩
 rcases h.2 with hn | ⟨g,cap,cur,rfl,h1,h2,r⟩
 ·exact .inl hn
 ·exact .inr ⟨g,cap,cur,rfl,h1,by rw [hb.block g (Array.getElem?_eq_some_iff.1 h2).1];exact h2,r⟩
theorem OwnC.nil (E:TypeId) (B:Nat) (w:World):OwnC E B w (.slice none 0 0) []:=⟨rfl,.inl ⟨rfl,rfl⟩⟩
theorem ybx {E:TypeId} {B:Nat} {a w w':World} {v:Value} {n:Nat} {xs:List Value} (h:Below B a w) (ho:w.ownsRow B E 6 v n xs) (hB:B<=w.heap.size) (hg:w.grownBy w' v.ownBlock):Below B a w':=
 h.trans ⟨hg.os,hg.tape,hg.output,hg.size,fun k hk=> hg.block k (by omega) (fun e=> by have:=(ho.lt k e.symm).1;omega)⟩
def RdI (w:World) (v:Value) (zs:List Int):Prop:=∃ ao cap,v= .slice ao zs.length cap/\zs.length<=cap/\(cap:Int)<=9223372036854775807/\
 (zs≠ []->∃ b off,ao=some ⟨b,off,.none⟩/\b < w.heap.size/\∀ i,(hi:i < zs.length)->w.cell? ⟨b,off + i,.none⟩=some (.int .i64 zs[i]))
end

section

open Go.RowKit

attribute [local go_sem ↓] Go.wp_at_zero Go.wp_at_succ

theorem z81:(Tryz.prog.info? 67).map (fun i=> (i.zero,i.size,i.bytes))=some (some (.int .u64 0),1,8):=by kernel_rfl
theorem zv8 (n:Nat) (hn:n<=100000):∀ u:World,(Instr.makeSlice 46 (.int .i64 (n:Int)) (.int .i64 (n:Int))).run Tryz.prog u= .ok (.slice (some ⟨u.heap.size,0,.none⟩) n n) (u.alloc (.cells (madeCells #[.int .u64 0] n) 67)):=fun u=> by
 obtain ⟨i0,hi,hz0,hz1,hz2⟩:=info_parts z81
 have h:=run_make (P:=Tryz.prog) u 46 67 i0 (.int .u64 0) Tryz.underlying46 hi hz0 .i64 .i64 (n:Int) (n:Int) (by omega) (Int.le_refl _) (by rw [hz2];omega) (by omega)
 rw [Int.toNat_natCast] at h
 simpa [hz1,Value.cells] using h
def zgj (n:Nat):Mem:=⟨List.replicate n 0,0,⟨0,0,0,0,0,false⟩⟩
theorem zxf (n:Nat):madeCells #[.int .u64 0] n=rowW (List.replicate n 0):=by
 apply Array.toList_inj.1
 rw [toList_madeCells_one]
 simp [rowW]
theorem zoj (n:Nat):(zgj n).fit:=fun x hx=> by
 rw [List.eq_of_mem_replicate hx];exact ⟨by decide,by decide⟩
theorem z7s (n:Nat) (hn:n<=2000) (w:World):
  Calls Tryz.prog 26 #[.int .i64 (n:Int)] w fun e w'=> ∃ p b,e= .returned (.pointer (some ⟨p,0,.none⟩))/\zaq w' p b (zgj n)/\w.heap.size<=p/\w.heap.size<=b/\Below w.heap.size w w':=by
 have hmk:=zv8 n (by omega)
 have h1:decide ((n:Int) < 0)=false:=decide_eq_false (by omega)
 have h2:decide ((2000:Int) < (n:Int))=false:=decide_eq_false (by omega)
 go_enter Tryz.func26,Tryz.ntmps26
 go_wp2_with fail
 go_returns
 refine ⟨_,w.heap.size,rfl,⟨by simp,?_,?_,zoj n,by simp [zgj];omega,by simp [zgj]⟩,by simp,Nat.le_refl _,?_⟩
 ·have h:=heap_alloc_new (w.alloc (.cells (madeCells #[.int .u64 0] n) 67)) (.cells (zio w.heap.size (zgj n)) 108)
  simpa [zio,zgj] using h
 ·have h:=heap_alloc_new w (.cells (madeCells #[.int .u64 0] n) 67)
  rw [zxf] at h
  have h2:=zaa.alloc (T:=67) h (.cells (zio w.heap.size (zgj n)) 108)
  simpa [zio,zgj,zaa,zxf] using h2
 ·exact (br.alloc lr _).alloc (by simp) _
theorem z5o (p b:Nat) (m:Mem) (a x:Int) (w:World) (h:zaq w p b m) (ha:m.has a) (hx:0<=x/\x < 18446744073709551616):
  Calls Tryz.prog 27 #[.pointer (some ⟨p,0,.none⟩),.int .i64 a,.int .u64 x] w fun e w'=> e= .returned (.bool true)/\zaq w' p b ⟨m.ws.set a.toNat x,m.st,m.la⟩/\Only (fun k=> k=b) w w':=by
 have h1:=hd' (zvd p b m a w h ha)
 have hput:=hd' (h.put ha hx)
 obtain ⟨n,hn,hn'⟩:=hidv m.ws.length
 have x0:w.cell? ⟨p,0,.none⟩=some (.slice (some ⟨b,0,.none⟩) n n):=by rw [hn'];exact zac h.blk 0
 have y0:=h.cell ha
 have yf:=zax h.row
 have a0:(0:Int)<=a:=ha.1
 have a1:a < (n:Int):=by rw [hn'];exact ha.2
 clear hn' h ha
 go_enter Tryz.func27,Tryz.ntmps27
 go_wp2_with (go_at_call 46;refine h1.out.mono ?_;rintro r w1 ⟨rfl,hw1⟩;obtain rfl:=hw1.symm)
 go_returns
 exact ⟨rfl,hput.out,Only.setCell (F:=fun k=> k=b) (Only.refl _ _) (.inl rfl) _⟩
theorem zaq.rd {w:World} {p b:Nat} {m:Mem} (h:zaq w p b m):RdS w 1 (.slice (some ⟨b,0,.none⟩) m.ws.length m.ws.length) m.ws.length (m.ws.map (Value.int .u64)):=by
 have h2:=RdS.new (sz:=1) (n:=m.ws.length) h.row (by simp [rowW]) (by have:=h.few;omega)
 simpa [rowW] using h2
end

section

structure Wd where
 m:Mem
 l:List (Option Kl)
 tr:List Ev
 lg:List Acc
def Ch.op (x:Ch):Op3:=⟨x.ok,x.oa,x.on⟩
def zcj (c:Int):Ev:=⟨0,c,0,0,0,0,0,0⟩
def zdw (c:Int):Ev:=⟨1,c,0,0,0,0,0,0⟩
def Mem.put (m:Mem) (a x:Int):Mem:=⟨m.ws.set a.toNat x,m.st,m.la⟩
def zde (s:Sh):Wd:=⟨zgj (zb6 s.p s.c s.m).toNat,List.replicate s.c.toNat none, [], []⟩
def Wd.kl (d:Wd) (c:Int):Option Kl:=if 0<=c then d.l.getD c.toNat none else none
def Wd.stat (d:Wd) (c:Int):Int:=zdc (d.m.get c)
def Wd.begin (s:Sh) (d:Wd) (x:Ch):Wd × Int:=
 if d.stat x.client=0 then (⟨d.m.put x.client (za8 1 0),d.l.set x.client.toNat (some (zht x.client (Fl.zdr x.bias s.p))),d.tr ++ [zcj x.client],d.lg⟩,0) else (d,5)
def Wd.step (s:Sh) (d:Wd) (c:Int) (k:Kl):Wd × Int:=
 (⟨(k.step s d.m).2.1,d.l.set c.toNat (some (k.step s d.m).1),d.tr ++ (k.step s d.m).2.2.1,if d.m.st < (k.step s d.m).2.1.st then d.lg ++ [(k.step s d.m).2.1.la] else d.lg⟩,(k.step s d.m).2.2.2)
def Wd.ask (s:Sh) (d:Wd) (x:Ch) (k:Kl):Wd × Int:=
 (⟨d.m,d.l.set x.client.toNat (some (k.invoke s x.op).1),d.tr ++ (k.invoke s x.op).2.1,d.lg⟩,(k.invoke s x.op).2.2)
def Wd.kill (d:Wd) (c:Int):Wd × Int:=(⟨d.m.put c (za8 2 0),d.l.set c.toNat none,d.tr ++ [zdw c],d.lg⟩,0)
def Ch.bad (s:Sh) (x:Ch):Prop:=x.kind < 1\/4 < x.kind\/x.client < 0\/s.c<=x.client
instance (s:Sh) (x:Ch):Decidable (x.bad s):=by unfold Ch.bad;infer_instance
def Wd.act (s:Sh) (d:Wd) (x:Ch):Wd × Int:=
 if x.bad s then (d,1)
 else if x.kind=1 then d.begin s x
 else match d.kl x.client with
  | none=> (d,2)
  | some k=> if x.kind=3 then d.step s x.client k else if x.kind=2 then d.ask s x k else d.kill x.client
def Wd.play (s:Sh) (d:Wd):List Ch->Wd × Int
 | []=> (d,0)
 | x::xs=> (((d.act s x).1.play s xs).1,(if (d.act s x).2=0 then 1 else 0) + ((d.act s x).1.play s xs).2)
structure wdOk (s:Sh) (d:Wd) (n:Nat):Prop where
 fi:Fits s d.m
 fit:d.m.fit
 len:d.l.length=s.c.toNat
 kl:∀ c k,d.kl c=some k->klOk s k/\k.c=c/\0<=c/\c < s.c
 st:0<=d.m.st/\d.m.st<=n
 tr:d.tr.length<=3 * n
 lg:d.lg.length=d.m.st
theorem Wd.zfs {d:Wd} {c:Int} {k:Kl} (h:d.kl c=some k):0<=c/\c.toNat < d.l.length:=by
 unfold Wd.kl at h
 split at h
 ·rename_i h0
  by_cases hc:c.toNat < d.l.length
  ·exact ⟨h0,hc⟩
  ·rw [List.getD_eq_getElem?_getD,List.getElem?_eq_none (by omega)] at h
   simp at h
 ·cases h
theorem zme {α:Type} (l:List (Option α)) (i j:Nat) (v:Option α) (hi:i < l.length):(l.set i v).getD j none=if i=j then v else l.getD j none:=by
 rw [List.getD_eq_getElem?_getD,List.getD_eq_getElem?_getD,List.getElem?_set]
 by_cases h:i=j
 ·subst h
  simp [hi]
 ·simp [h]
theorem Wd.zdk (d:Wd) {x:Int} (hx:0<=x) (hi:x.toNat < d.l.length) (v:Option Kl) (m:Mem) (tr:List Ev) (lg:List Acc) (c:Int):(⟨m,d.l.set x.toNat v,tr,lg⟩:Wd).kl c=if c=x then v else d.kl c:=by
 unfold Wd.kl
 dsimp only
 by_cases h0:0<=c
 ·rw [if_pos h0,if_pos h0,zme _ _ _ _ hi]
  by_cases h:c=x
  ·rw [if_pos (by omega),if_pos h]
  ·rw [if_neg (by omega),if_neg h]
 ·rw [if_neg h0,if_neg h0,if_neg (by omega)]
theorem Mem.z19 {m:Mem} (h:m.fit) (a x:Int) (hx:0<=x/\x < 18446744073709551616):(m.put a x).fit:=ztw h hx
theorem Kl.z0d (k:Kl) (j:Jb):(k.tells j).length<=3:=by
 unfold Kl.tells
 rw [List.length_append]
 have h1:(if j.gave=true/\k.told=false then [zbw k.c k.op.a] else []).length<=1:=by split <;> simp
 have h2:(if j.done=true then (match j.took with | some b=> [zb5 k.c b.at' b.len] | none=> []) ++ [zaf k.c k.op (zb1 j.took) j.err] else []).length<=2:=by
  split
  ·rw [List.length_append]
   have:(match j.took with | some b=> [zb5 k.c b.at' b.len] | none=> []).length<=1:=by cases j.took <;> simp
   simp;omega
  ·simp
 exact Nat.add_le_add h1 h2
theorem Kl.zw4 (s:Sh) (k:Kl) (m:Mem):(k.step s m).2.2.1.length<=3:=by
 unfold Kl.step
 split
 ·simp
 ·exact Kl.z0d _ _
theorem Kl.zo3 (s:Sh) (k:Kl) (o:Op3):(k.invoke s o).2.1.length<=2:=by
 unfold Kl.invoke
 split
 ·simp
 ·split
  ·simp
  ·split <;> simp
theorem zl9 {s:Sh} (h:mayB s.p s.c s.m=true):wdOk s (zde s) 0:=by
 have ht:0<=zb6 s.p s.c s.m:=(z6x _ _ _).1
 refine ⟨⟨h,?_⟩,zoj _,by simp [zde],fun c k hk=> ?_,⟨Int.le_refl _,Int.le_refl _⟩,by simp [zde],rfl⟩
 ·show (((List.replicate _ (0:Int)).length:Nat):Int)=_
  rw [List.length_replicate];omega
 ·unfold Wd.kl zde at hk
  dsimp only at hk
  rw [List.getD_eq_getElem?_getD,List.getElem?_replicate] at hk
  split at hk
  ·split at hk <;> simp at hk
  ·cases hk
theorem zkh {s:Sh} {k:Kl} {m:Mem} (h:klOk s k) (hf:Fits s m) (hfit:m.fit):(k.job=none/\k.step s m=(k,m, [],2))\/(∃ j,k.job=some j/\Acts k.c m (k.step s m).2.1/\klOk s (k.step s m).1/\(k.step s m).2.2.2=0):=by
 rcases hj:k.job with _ | j
 ·exact .inl ⟨rfl,by unfold Kl.step;rw [hj]⟩
 ·have ho:=zsh h hj hf hfit
  exact .inr ⟨j,rfl,ho.1,ho.2,by unfold Kl.step;rw [hj]⟩
theorem zeo {s:Sh} {d:Wd} {n:Nat} (h:wdOk s d n) (x:Ch):wdOk s (d.act s x).1 (n + 1):=by
 have hm:=h.fi.may
 have hb:=h.fi.bd
 have h1:=h.st
 have h2:=h.tr
 have h3:=h.lg
 have h0:wdOk s d (n + 1):=⟨h.fi,h.fit,h.len,h.kl,⟨h1.1,by omega⟩,by omega,h3⟩
 unfold Wd.act
 split
 ·exact h0
 ·rename_i hbad
  unfold Ch.bad at hbad
  have hc:0<=x.client/\x.client < s.c:=by omega
  have hi:x.client.toNat < d.l.length:=by rw [h.len];omega
  have hset:∀ (v:Option Kl),(∀ k,v=some k->klOk s k/\k.c=x.client)->∀ (m:Mem) tr lg c k,(⟨m,d.l.set x.client.toNat v,tr,lg⟩:Wd).kl c=some k->klOk s k/\k.c=c/\0<=c/\c < s.c:=fun v hv m tr lg c k hk=> by
   rw [d.zdk hc.1 hi] at hk
   split at hk
   ·rename_i e
    subst e
    exact ⟨(hv k hk).1,(hv k hk).2,hc⟩
   ·exact h.kl c k hk
  split
  ·unfold Wd.begin
   split
   ·refine ⟨h.fi.zh1 (by simp [Mem.put]),Mem.z19 h.fit _ _ (zdz _ _),by simpa using h.len,?_,⟨h1.1,by show d.m.st<=_;omega⟩,by simp;omega,h3⟩
    exact hset _ (fun k hk=> by injection hk with hk;subst hk;exact ⟨z6w hc (Fl.z2u _ (by omega)),rfl⟩) _ _ _
   ·exact h0
  ·split
   ·exact h0
   ·rename_i k hk
    have hkl:=h.kl _ _ hk
    split
    ·have hl:=Kl.zw4 s k d.m
     have hcc:=(z6l s k d.m).1
     unfold Wd.step
     rcases zkh hkl.1 h.fi h.fit with ⟨hj,e⟩ | ⟨j,hj,ha,hok,he⟩
     ·rw [e]
      dsimp only
      rw [if_neg (by omega)]
      exact ⟨h.fi,h.fit,by simpa using h.len,hset _ (fun k' hk'=> by injection hk' with hk';subst hk';exact ⟨hkl.1,hkl.2.1⟩) _ _ _,⟨h1.1,by show d.m.st<=_;omega⟩,by simp;omega,h3⟩
     ·have hst:=ha.st
      rw [if_pos (by omega)]
      refine ⟨ha.fits h.fi,ha.fit h.fit,by simpa using h.len,hset _ (fun k' hk'=> by injection hk' with hk';subst hk';exact ⟨hok,hcc.trans hkl.2.1⟩) _ _ _,⟨by dsimp only;omega,by dsimp only;omega⟩,by simp;omega,by simp;omega⟩
    ·split
     ·have hl:=Kl.zo3 s k x.op
      unfold Wd.ask
      exact ⟨h.fi,h.fit,by simpa using h.len,hset _ (fun k' hk'=> by injection hk' with hk';subst hk';exact ⟨zwi x.op hm hkl.1,(yaa s k x.op).1.trans hkl.2.1⟩) _ _ _,⟨h1.1,by dsimp only;omega⟩,by simp;omega,h3⟩
     ·unfold Wd.kill
      exact ⟨h.fi.zh1 (by simp [Mem.put]),Mem.z19 h.fit _ _ (zdz _ _),by simpa using h.len,hset _ (fun k hk=> by cases hk) _ _ _,⟨h1.1,by show d.m.st<=_;omega⟩,by simp;omega,h3⟩
end

end Go.Proofs.YthgekdlegbmehaaGreat
