/- What a world tells: its history, its accesses, its words, its clients. -/
import Derived.Test.YtampacmmhhilaaaGreatZWNew

set_option linter.all false
namespace Go.Proofs.YtampacmmhhilaaaGreat

open Go.RowKit

attribute [local go_sem ↓] Go.wp_at_zero Go.wp_at_succ

theorem wstore_float {P:Program} {w:World} {a:Addr} {m:Mode} (k:FloatKind) (x:Nat):(store a (.float k x) m).run P w=stored P w a (.float k x) m:=run_store P w a _ m rfl
attribute [local go_sem] wstore_float

theorem ev_cells_one (xs:List Ev):∀ u ∈ xs.flatMap (fun e=> e.cells.toList),u.oneCell'=true:=fun u hu=> by
 obtain ⟨e,_,he⟩:=List.mem_flatMap.1 hu
 simp only [Ev.cells,List.mem_cons,List.not_mem_nil,or_false] at he
 rcases he with rfl | rfl | rfl | rfl | rfl | rfl | rfl | rfl <;> rfl
theorem ac_cells_one (xs:List Acc):∀ u ∈ xs.flatMap (fun e=> e.cells.toList),u.oneCell'=true:=fun u hu=> by
 obtain ⟨e,_,he⟩:=List.mem_flatMap.1 hu
 simp only [Acc.cells,List.mem_cons,List.not_mem_nil,or_false] at he
 rcases he with rfl | rfl | rfl | rfl | rfl | rfl <;> rfl
set_option maxRecDepth 100000 in
theorem evclone_any (xs:List Ev) (v:Value) (w:World) (hr:RdS w 8 v xs.length (xs.flatMap fun e=> e.cells.toList)) (hlen:xs.length≤100000000):
  Calls Tryz.prog 73 #[v] w fun e w'=> ∃ v',e= .returned v'∧Below w.heap.size w w'∧w'.ownsRow w.heap.size 50 8 v' xs.length (xs.flatMap fun e=> e.cells.toList):=by
 obtain ⟨ao,cap,rfl,hcap,hcm,hl,hrow⟩:=id hr
 have heq:∀ W:World,(binOp .eql 47 (.slice ao xs.length cap) (.slice none 0 0)).run Tryz.prog W= .ok (.bool ao.isNone) W:=fun W=> Lib.run_eql_slice_nil W _ _ ao _ _ _ _ Tryz.underlying47
 rcases ao with _ | ad
 ·have hn:xs= []:=by
   rcases xs with _ | ⟨b,l⟩
   ·rfl
   ·obtain ⟨_,_,h,_⟩:=hrow (by simp);cases h
  subst hn
  replace heq:∀ W:World,(binOp .eql 47 (.slice none 0 cap) (.slice none 0 0)).run Tryz.prog W= .ok (.bool true) W:=heq
  show Calls Tryz.prog 73 #[.slice none 0 cap] w _
  go_enter Tryz.func73,Tryz.ntmps73
  go_wp2
  go_ret
  exact ⟨_,rfl,Below.refl _ _,⟨rfl, .inl ⟨rfl,rfl⟩⟩⟩
 ·obtain ⟨i0,hi0,hz0,hz1,hz2⟩:=info_parts infoEv
  have own0:(w.alloc (.cells #[] 50)).ownsRow w.heap.size 50 8 (.slice (some ⟨w.heap.size,0, .none⟩) 0 0) 0 []:=World.ownsRow_lit w #[] 0 (Nat.le_refl _) (Nat.zero_le _) rfl
  have hr1:RdS (w.alloc (.cells #[] 50)) 8 (.slice (some ad) xs.length cap) xs.length (xs.flatMap fun e=> e.cells.toList):=RdS.alloc hr _
  go_enter Tryz.func73,Tryz.ntmps73
  go_wp2_with (refine wpList_append_rd rfl (.tmp 5) (.tmp 6) 47 rfl w.heap.size 50 i0 _ 8 64 Tryz.underlying47 hi0 hz0 hz1 hz2 rfl (by omega) _ 0 [] rfl own0 _ xs.length _ rfl hr1 (ev_cells_one xs) (by simp only [maxLen];omega) (by omega) (by simp) ?_;intro v1 w1 hown1 hgrow1 hat1;have hb1:=grown_belowS ((Below.refl w.heap.size w).alloc (Nat.le_refl _) _) own0 (by simp) hgrow1)
  go_ret
  rw [Nat.zero_add,List.nil_append] at hown1
  exact ⟨_,rfl,hb1,hown1⟩
set_option maxRecDepth 100000 in
theorem acclone_any (xs:List Acc) (v:Value) (w:World) (hr:RdS w 6 v xs.length (xs.flatMap fun e=> e.cells.toList)) (hlen:xs.length≤100000000):
  Calls Tryz.prog 74 #[v] w fun e w'=> ∃ v',e= .returned v'∧Below w.heap.size w w'∧w'.ownsRow w.heap.size 59 6 v' xs.length (xs.flatMap fun e=> e.cells.toList):=by
 obtain ⟨ao,cap,rfl,hcap,hcm,hl,hrow⟩:=id hr
 have heq:∀ W:World,(binOp .eql 55 (.slice ao xs.length cap) (.slice none 0 0)).run Tryz.prog W= .ok (.bool ao.isNone) W:=fun W=> Lib.run_eql_slice_nil W _ _ ao _ _ _ _ Tryz.underlying55
 rcases ao with _ | ad
 ·have hn:xs= []:=by
   rcases xs with _ | ⟨b,l⟩
   ·rfl
   ·obtain ⟨_,_,h,_⟩:=hrow (by simp);cases h
  subst hn
  replace heq:∀ W:World,(binOp .eql 55 (.slice none 0 cap) (.slice none 0 0)).run Tryz.prog W= .ok (.bool true) W:=heq
  show Calls Tryz.prog 74 #[.slice none 0 cap] w _
  go_enter Tryz.func74,Tryz.ntmps74
  go_wp2
  go_ret
  exact ⟨_,rfl,Below.refl _ _,⟨rfl, .inl ⟨rfl,rfl⟩⟩⟩
 ·obtain ⟨i0,hi0,hz0,hz1,hz2⟩:=info_parts infoAc
  have own0:(w.alloc (.cells #[] 59)).ownsRow w.heap.size 59 6 (.slice (some ⟨w.heap.size,0, .none⟩) 0 0) 0 []:=World.ownsRow_lit w #[] 0 (Nat.le_refl _) (Nat.zero_le _) rfl
  have hr1:RdS (w.alloc (.cells #[] 59)) 6 (.slice (some ad) xs.length cap) xs.length (xs.flatMap fun e=> e.cells.toList):=RdS.alloc hr _
  go_enter Tryz.func74,Tryz.ntmps74
  go_wp2_with (refine wpList_append_rd rfl (.tmp 5) (.tmp 6) 55 rfl w.heap.size 59 i0 _ 6 48 Tryz.underlying55 hi0 hz0 hz1 hz2 rfl (by omega) _ 0 [] rfl own0 _ xs.length _ rfl hr1 (ac_cells_one xs) (by simp only [maxLen];omega) (by omega) (by simp) ?_;intro v1 w1 hown1 hgrow1 hat1;have hb1:=grown_belowS ((Below.refl w.heap.size w).alloc (Nat.le_refl _) _) own0 (by simp) hgrow1)
  go_ret
  rw [Nat.zero_add,List.nil_append] at hown1
  exact ⟨_,rfl,hb1,hown1⟩
theorem wtrace_any {B:Nat} {F:Nat→Prop} {W:World} {g:Nat} {s:Sh} {d:Wd} {x:Wx} (h:WdP B F W g s d x) (hl:d.tr.length≤100000000):
  Calls Tryz.prog 26 #[.pointer (some ⟨g,0, .none⟩)] W fun e w'=> ∃ v',e= .returned v'∧Below W.heap.size W w'∧w'.ownsRow W.heap.size 50 8 v' d.tr.length (d.tr.flatMap fun e=> e.cells.toList):=by
 have hnil:∀ (p:Nat) (W:World),(binOp .eql 27 (.pointer (some ⟨p,0, .none⟩)) (.pointer none)).run Tryz.prog W= .ok (.bool false) W:=fun p W=> by kernel_rfl
 have c0:W.cell? ⟨g,5, .none⟩=some x.tv:=h.top.cell 5
 have hc:=Lib.hid (evclone_any d.tr x.tv W (RdS.of_own h.tr) hl)
 clear h
 generalize x.tv=v at *
 go_enter Tryz.func26,Tryz.ntmps26
 go_wp2_with (go_at_call 73;refine hc.out.mono ?_;rintro e w1 ⟨v1,rfl,hb1,ho1⟩)
 go_ret
 exact ⟨_,rfl,hb1,ho1⟩
theorem wacc_any {B:Nat} {F:Nat→Prop} {W:World} {g:Nat} {s:Sh} {d:Wd} {x:Wx} (h:WdP B F W g s d x) (hl:d.lg.length≤100000000):
  Calls Tryz.prog 30 #[.pointer (some ⟨g,0, .none⟩)] W fun e w'=> ∃ v',e= .returned v'∧Below W.heap.size W w'∧w'.ownsRow W.heap.size 59 6 v' d.lg.length (d.lg.flatMap fun e=> e.cells.toList):=by
 have hnil:∀ (p:Nat) (W:World),(binOp .eql 27 (.pointer (some ⟨p,0, .none⟩)) (.pointer none)).run Tryz.prog W= .ok (.bool false) W:=fun p W=> by kernel_rfl
 have c0:W.cell? ⟨g,6, .none⟩=some x.sv:=h.top.cell 6
 have hc:=Lib.hid (acclone_any d.lg x.sv W (RdS.of_own h.lg) hl)
 clear h
 generalize x.sv=v at *
 go_enter Tryz.func30,Tryz.ntmps30
 go_wp2_with (go_at_call 74;refine hc.out.mono ?_;rintro e w1 ⟨v1,rfl,hb1,ho1⟩)
 go_ret
 exact ⟨_,rfl,hb1,ho1⟩
theorem wwords_any {B:Nat} {F:Nat→Prop} {W:World} {g:Nat} {s:Sh} {d:Wd} {x:Wx} (h:WdP B F W g s d x):
  Calls Tryz.prog 35 #[.pointer (some ⟨g,0, .none⟩)] W fun e w'=> ∃ v',e= .returned v'∧Below W.heap.size W w'∧w'.ownsRow W.heap.size 57 1 v' d.m.ws.length (d.m.ws.map (Value.int .u64)):=by
 have hnil:∀ (p:Nat) (W:World),(binOp .eql 27 (.pointer (some ⟨p,0, .none⟩)) (.pointer none)).run Tryz.prog W= .ok (.bool false) W:=fun p W=> by kernel_rfl
 have c0:W.cell? ⟨g,3, .none⟩=some (.pointer (some ⟨x.p,0, .none⟩)):=h.top.cell 3
 have hc:=Lib.hid (wall_any x.p x.b d.m W h.wds)
 have lg:=h.top.lt
 clear h
 go_enter Tryz.func35,Tryz.ntmps35
 go_wp2_with (go_at_call 78;refine hc.out.mono ?_;rintro e w1 ⟨v1,rfl,hb1,ho1⟩)
 go_ret
 exact ⟨_,rfl,hb1,ho1⟩
/-- A client that lives, by its number. -/
theorem wclient_any {B:Nat} {F:Nat→Prop} {W:World} {g:Nat} {s:Sh} {d:Wd} {x:Wx} (h:WdP B F W g s d x) (c:Int) (hc:0≤c∧c.toNat < d.l.length) (hl:d.l.length≤100):
  Calls Tryz.prog 21 #[.pointer (some ⟨g,0, .none⟩), .int .i64 c] W fun e w'=> e= .returned (ptrK (d.kl c) (x.qs c.toNat))∧Below W.heap.size W w':=by
 have hnil:∀ (p:Nat) (W:World),(binOp .eql 27 (.pointer (some ⟨p,0, .none⟩)) (.pointer none)).run Tryz.prog W= .ok (.bool false) W:=fun p W=> by kernel_rfl
 have c4:W.cell? ⟨g,4, .none⟩=some (.slice (some ⟨x.lb,0, .none⟩) d.l.length d.l.length):=h.top.cell 4
 have lg:=h.top.lt
 have zl:=h.ptr hc.1 hc.2
 have ll:=h.lst.lt
 have h0:=hc.1
 have h1:c < (d.l.length:Int):=by omega
 have h2:¬ c < 0:=by omega
 have h3:¬ (d.l.length:Int)≤c:=by omega
 clear h hc
 generalize ptrK (d.kl c) (x.qs c.toNat)=pv at *
 go_enter Tryz.func21,Tryz.ntmps21
 go_wp2_with fail
 go_returns
 exact ⟨rfl,by go_grown⟩
/-- A choice of the reference's, as the program has it. -/
theorem wchoice_any (c:Ch) (W:World):Calls Tryz.prog 29 #[.agg c.cells.toArray] W fun e w'=> e= .returned (.agg c.cells.toArray)∧Below W.heap.size W w':=by
 obtain ⟨ck,cc,co,ca,cn,cb⟩:=c
 show Calls Tryz.prog 29 #[.agg #[.int .i64 ck, .int .i64 cc, .int .i64 co, .int .i64 ca, .int .i64 cn, .float .f64 cb]] W fun e w'=> e= .returned (.agg #[.int .i64 ck, .int .i64 cc, .int .i64 co, .int .i64 ca, .int .i64 cn, .float .f64 cb])∧Below W.heap.size W w'
 go_enter Tryz.func29,Tryz.ntmps29
 go_wp2_with fail
 have hz:(W.alloc (.cells #[.int .i64 ck, .int .i64 cc, .int .i64 co, .int .i64 ca, .int .i64 cn, .float .f64 cb] 54)).heap.size=W.heap.size + 1:=by simp
 have t:RowAt ((W.alloc (.cells #[.int .i64 ck, .int .i64 cc, .int .i64 co, .int .i64 ca, .int .i64 cn, .float .f64 cb] 54)).alloc (.cells #[.int .i64 ck, .int .i64 cc, .int .i64 co, .int .i64 ca, .int .i64 cn, .float .f64 cb] 46)) (W.heap.size + 1) #[.int .i64 ck, .int .i64 cc, .int .i64 co, .int .i64 ca, .int .i64 cn, .float .f64 cb] 46:=by
  have h:=heap_alloc_new (W.alloc (.cells #[.int .i64 ck, .int .i64 cc, .int .i64 co, .int .i64 ca, .int .i64 cn, .float .f64 cb] 54)) (.cells #[.int .i64 ck, .int .i64 cc, .int .i64 co, .int .i64 ca, .int .i64 cn, .float .f64 cb] 46)
  rw [hz] at h
  exact h
 have hb:Below W.heap.size W ((W.alloc (.cells #[.int .i64 ck, .int .i64 cc, .int .i64 co, .int .i64 ca, .int .i64 cn, .float .f64 cb] 54)).alloc (.cells #[.int .i64 ck, .int .i64 cc, .int .i64 co, .int .i64 ca, .int .i64 cn, .float .f64 cb] 46)):=by go_grown
 generalize (W.alloc (.cells #[.int .i64 ck, .int .i64 cc, .int .i64 co, .int .i64 ca, .int .i64 cn, .float .f64 cb] 54)).alloc (.cells #[.int .i64 ck, .int .i64 cc, .int .i64 co, .int .i64 ca, .int .i64 cn, .float .f64 cb] 46)=X at *
 generalize W.heap.size + 1=H at *
 have r0:X.cell? ⟨H,0, .none⟩=some (.int .i64 ck):=t.cell 0
 have r1:X.cell? ⟨H,1, .none⟩=some (.int .i64 cc):=t.cell 1
 have r2:X.cell? ⟨H,2, .none⟩=some (.int .i64 co):=t.cell 2
 have r3:X.cell? ⟨H,3, .none⟩=some (.int .i64 ca):=t.cell 3
 have r4:X.cell? ⟨H,4, .none⟩=some (.int .i64 cn):=t.cell 4
 have r5:X.cell? ⟨H,5, .none⟩=some (.float .f64 cb):=t.cell 5
 exact bodyPost_ret (v:= .agg #[.int .i64 ck, .int .i64 cc, .int .i64 co, .int .i64 ca, .int .i64 cn, .float .f64 cb]) (by simp [results,Tryz.results29,go_sem,r0,r1,r2,r3,r4,r5]) rfl ⟨rfl,hb⟩
end Go.Proofs.YtampacmmhhilaaaGreat
