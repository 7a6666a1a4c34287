/- How full a heap is: the walks of fill.Heap, All, Fullest. -/
import Derived.Test.YtfknaheijidhcaaFilW

import Derived.Test.YtfknaheijidhcaaRwO

namespace Go.Proofs.Ytfknaheijidhcaa

open Go.RowKit Fl

attribute [local go_sem ↓] Go.wp_at_zero Go.wp_at_succ

def flF (X : Nat → Nat) (n : Nat) : List Value := (List.range n).map fun i => F64 (X i)
theorem flF_len (X : Nat → Nat) (n : Nat) : (flF X n).length = n := by simp [flF]
theorem flF_succ (X : Nat → Nat) (n : Nat) : flF X (n + 1) = flF X n ++ [F64 (X n)] := by simp [flF, List.range_succ]
theorem flF_get (X : Nat → Nat) (n i : Nat) (h : i < n) : (flF X n)[i]? = some (F64 (X i)) := by simp [flF, h]
theorem run_field_cnt1 (a b c d : Int) (w : World) : (Instr.field 44 (.agg #[.int .i64 a, .int .i64 b, .int .i64 c, .int .i64 d]) 1).run Try.prog w = .ok (.int .i64 b) w := by kernel_rfl
attribute [local go_sem ↓] run_field_cnt1

set_option maxRecDepth 100000 in
set_option maxHeartbeats 2000000 in
theorem fheap_any (h : Hp) (v : Value) (w : World) (hr : RdZ .u64 w v h.xs) (hf : h.fit) :
    Calls Try.prog 17 #[shV h, v] w fun e w' => e = .returned (F64 h.heapF) ∧ Below w.heap.size w w' := by
  have hwords := fun X (hX : Below w.heap.size w X) => awords_any h v X (hr.below (w' := X) hX) hf
  have hbd := fun hok => (Bok.bd (w := w) (v := v) (h := h) ⟨hok, hr, hf⟩)
  have hfv : h.heapF = if h.ok = true then ratioF h.count.t (h.p * 64) else ratioF 0 0 := rfl
  have hokv : h.ok = (mayB h.p h.c h.m && decide (totalV h.p h.c h.m ≤ (h.xs.length : Int))) := rfl
  have hct : h.ok = true → 0 ≤ h.count.t ∧ h.count.t ≤ h.p * 64 := fun hok => by
    obtain ⟨hp, _⟩ := hbd hok
    unfold Hp.count
    rw [if_pos hok]
    have h1 := h.cn_sum h.p.toNat
    have h2 := h.cn_nn h.p.toNat
    have h3 : (h.p.toNat : Int) = h.p := by omega
    exact (Cn.bd h2 (n := h.p * 64) (by omega)).2.1
  have hnan := Lib.hid (fun X => mathNaN_any X)
  have hmay := fun X => may_any h.p h.c h.m X
  have hwds := fun X => words_any h.p h.c h.m X
  have t1 := heap_alloc_new w (.cells #[.int .i64 h.p, .int .i64 h.c, .int .i64 h.m] 23)
  have t2 := (Below.refl w.heap.size w).alloc (Nat.le_refl _) (.cells #[.int .i64 h.p, .int .i64 h.c, .int .i64 h.m] 23)
  obtain ⟨ao, cap, rfl, hcap, hcm, hrow⟩ := hr.cells
  obtain ⟨H, hH, hH'⟩ : ∃ H, Hid (H = w.heap.size) ∧ H = w.heap.size := ⟨_, Lib.hid rfl, rfl⟩
  rcases Bool.eq_false_or_eq_true h.ok with hok | hok
  case inr =>
    rw [hfv, hok, if_neg Bool.false_ne_true]
    have hz : ratioF 0 0 = 9221120237041090561 := rfl
    rw [hz]
    have hm2 : mayB h.p h.c h.m = false ∨ mayB h.p h.c h.m = true ∧ ((h.xs.length : Nat) : Int) < totalV h.p h.c h.m := by
      rcases Bool.eq_false_or_eq_true (mayB h.p h.c h.m) with hm | hm
      · refine .inr ⟨hm, ?_⟩
        rw [hok, hm] at hokv
        have := of_decide_eq_false hokv.symm
        omega
      · exact .inl hm
    clear hbd hfv hokv hrow hr hct hwords hz
    generalize totalV h.p h.c h.m = T at *
    generalize h.xs.length = n at *
    generalize mayB h.p h.c h.m = mb at *
    rcases hm2 with rfl | ⟨rfl, hlt⟩
    · replace hmay := Lib.hid hmay
      clear hwds
      go_enter Try.func17, Try.ntmps17
      go_wp2_with (first
        | (go_at_call 42; refine (hmay.out _).mono ?_; rintro e w1 ⟨rfl, rfl⟩)
        | (go_at_call 28; refine (hnan.out _).mono ?_; rintro e w1 ⟨rfl, rfl⟩))
      go_ret
      exact ⟨rfl, t2.alloc t2.size _⟩
    · replace hmay := Lib.hid hmay
      replace hwds := Lib.hid hwds
      go_enter Try.func17, Try.ntmps17
      go_upto_region 1 with fail
      generalize w.alloc (.cells #[.int .i64 h.p, .int .i64 h.c, .int .i64 h.m] 23) = W at *
      rw [← hH'] at t1 ⊢
      clear hH'
      have c0 : W.cell? ⟨H, 0, .none⟩ = some (.int .i64 h.p) := rowCells t1 0
      have c1 : W.cell? ⟨H, 1, .none⟩ = some (.int .i64 h.c) := rowCells t1 1
      have c2 : W.cell? ⟨H, 2, .none⟩ = some (.int .i64 h.m) := rowCells t1 2
      have lH : H < W.heap.size := (Array.getElem?_eq_some_iff.1 t1).1
      go_wp2_with fail
      refine (hmay.out _).mono ?_
      rintro e w1 ⟨rfl, hw⟩
      have hb1 : Below W.heap.size W w1 := hw ▸ (Below.refl _ _).alloc (Nat.le_refl _) _
      clear hw
      have d0 := keepF hb1 _ _ _ c0
      have d1 := keepF hb1 _ _ _ c1
      have d2 := keepF hb1 _ _ _ c2
      go_wp2_with fail
      refine (hwds.out _).mono ?_
      rintro e w2 ⟨rfl, hb2⟩
      have hb3 := hb1.trans (hb2.mono hb1.size)
      go_wp2_with (go_at_call 28; refine (hnan.out _).mono ?_; rintro e w3 ⟨rfl, hw⟩; obtain rfl := hw.symm)
      go_ret
      exact ⟨rfl, t2.trans (hb3.mono t2.size)⟩
  case inl =>
    rw [hfv, hok, if_pos rfl]
    obtain ⟨⟨p0, p1⟩, _, _, hlen⟩ := hbd hok
    obtain ⟨t0', t1'⟩ := hct hok
    have hmy : mayB h.p h.c h.m = true := Bok.may (w := w) (v := .slice ao h.xs.length cap) ⟨hok, hr, hf⟩
    have htl : ¬ ((h.xs.length : Nat) : Int) < totalV h.p h.c h.m := by
      have := Bok.len (w := w) (v := .slice ao h.xs.length cap) (h := h) ⟨hok, hr, hf⟩; omega
    rw [hmy] at hmay
    have hrt : Hid (∀ X, Calls Try.prog 44 #[.int .i64 h.count.t, .int .i64 (h.p * 64)] X fun e w' => e = .returned (F64 (ratioF h.count.t (h.p * 64))) ∧ w' = X) := Lib.hid fun X => ratio_any _ _ (by omega) (by omega) X
    have hp64 : IntKind.i64.wrap (h.p * 64) = h.p * 64 := IntWalk.i64_in _ ⟨by omega, by omega⟩
    generalize ratioF h.count.t (h.p * 64) = z at *
    have hwd : Hid (∀ X, Below w.heap.size w X → Calls Try.prog 25 #[.agg #[.int .i64 h.p, .int .i64 h.c, .int .i64 h.m], .slice ao h.xs.length cap] X fun e w' => e = .returned (.agg #[.int .i64 h.count.f, .int .i64 h.count.t, .int .i64 h.count.l, .int .i64 h.count.o]) ∧ Below X.heap.size X w') := Lib.hid hwords
    generalize h.count = C at *
    clear hbd hfv hokv hrow hr hct hwords
    generalize h.xs.length = n at *
    replace hmay := Lib.hid hmay
    replace hwds := Lib.hid hwds
    go_enter Try.func17, Try.ntmps17
    go_upto_region 1 with fail
    generalize w.alloc (.cells #[.int .i64 h.p, .int .i64 h.c, .int .i64 h.m] 23) = W at *
    rw [← hH'] at t1 ⊢
    clear hH'
    have c0 : W.cell? ⟨H, 0, .none⟩ = some (.int .i64 h.p) := rowCells t1 0
    have c1 : W.cell? ⟨H, 1, .none⟩ = some (.int .i64 h.c) := rowCells t1 1
    have c2 : W.cell? ⟨H, 2, .none⟩ = some (.int .i64 h.m) := rowCells t1 2
    have lH : H < W.heap.size := (Array.getElem?_eq_some_iff.1 t1).1
    go_wp2_with fail
    refine (hmay.out _).mono ?_
    rintro e w1 ⟨rfl, hw⟩
    have hb1 : Below W.heap.size W w1 := hw ▸ (Below.refl _ _).alloc (Nat.le_refl _) _
    clear hw
    have d0 := keepF hb1 _ _ _ c0
    have d1 := keepF hb1 _ _ _ c1
    have d2 := keepF hb1 _ _ _ c2
    go_wp2_with fail
    refine (hwds.out _).mono ?_
    rintro e w2 ⟨rfl, hb2⟩
    have hb3 := hb1.trans (hb2.mono hb1.size)
    have hwB := t2.trans (hb3.mono t2.size)
    obtain ⟨V, rfl⟩ : ∃ V : World, V = w2 := ⟨_, rfl⟩
    have e0 := keepF hb3 _ _ _ c0
    have e1 := keepF hb3 _ _ _ c1
    have e2 := keepF hb3 _ _ _ c2
    have lV : H < V.heap.size := by have := hb3.size; omega
    clear c0 c1 c2 d0 d1 d2 hb1 hb2
    go_upto_region 3 with fail
    refine wp_region_ext (by kernel_rfl) (by kernel_rfl) ?_
    repeat (go_big_quiet_step ((first
      | (go_at_call 25; exact ext_of (hwd.out _ (hwB.trans ((Ext.below _).mono hwB.size))))
      | (go_at_call 44; exact ext_same (hrt.out _)))))
    refine wpQuiet_nil ?_
    rintro _ ⟨e, rfl⟩
    go_wp2
    go_ret
    exact ⟨rfl, hwB.trans (e.below.mono hwB.size)⟩
theorem own_below {W w w' : World} {v : Value} {n : Nat} {cs : List Value} {e : TypeId} (h : w.ownsRow W.heap.size e 1 v n cs) (hb : Below w.heap.size w w') : w'.ownsRow W.heap.size e 1 v n cs :=
  ownsRow_of_blocks h fun k hk => hb.block k (h.lt k hk).2
theorem infoFl : (Try.prog.info? 37).map (fun i => (i.zero, i.size, i.bytes)) = some (some (.float .f64 0), 1, 8) := by kernel_rfl

set_option maxRecDepth 100000 in
set_option maxHeartbeats 2000000 in
theorem fall_any (h : Hp) (v : Value) (w : World) (hr : RdZ .u64 w v h.xs) (hf : h.fit) :
    Calls Try.prog 15 #[shV h, v] w fun e w' => ∃ u, e = .returned u ∧ Below w.heap.size w w' ∧ RdS w' 1 u 4 (flF (fun i => h.fill i) 4) := by
  have hcl : Hid (∀ (k : Nat) X, Below w.heap.size w X → Calls Try.prog 29 #[.agg #[.int .i64 h.p, .int .i64 h.c, .int .i64 h.m], v, .int .i64 (k : Int)] X fun e w' => e = .returned (F64 (h.fill k)) ∧ Below X.heap.size X w') := Lib.hid fun k X hX => fclass_any h v k X (hr.below (w' := X) hX) hf
  have t1 := heap_alloc_new w (.cells #[.int .i64 h.p, .int .i64 h.c, .int .i64 h.m] 23)
  have t2 := (Below.refl w.heap.size w).alloc (Nat.le_refl _) (.cells #[.int .i64 h.p, .int .i64 h.c, .int .i64 h.m] 23)
  obtain ⟨i0, hi0, hz0, hz1, hz2⟩ := info_parts infoFl
  obtain ⟨ao, cap, rfl, hcap, hcm, hrow⟩ := hr.cells
  clear hrow
  obtain ⟨X, hX⟩ : ∃ X : Nat → Nat, X = fun i : Nat => h.fill i := ⟨_, rfl⟩
  have hcl : Hid (∀ (k : Nat) Y, Below w.heap.size w Y → Calls Try.prog 29 #[.agg #[.int .i64 h.p, .int .i64 h.c, .int .i64 h.m], .slice ao h.xs.length cap, .int .i64 (k : Int)] Y fun e w' => e = .returned (F64 (X k)) ∧ Below Y.heap.size Y w') := Lib.hid fun k Y hY => by rw [hX]; exact hcl.out k Y hY
  rw [← hX]
  clear hX hr
  generalize h.xs.length = n at *
  obtain ⟨H, hH, hH'⟩ : ∃ H, Hid (H = w.heap.size) ∧ H = w.heap.size := ⟨_, Lib.hid rfl, rfl⟩
  go_enter Try.func15, Try.ntmps15
  go_upto_region 1 with fail
  generalize w.alloc (.cells #[.int .i64 h.p, .int .i64 h.c, .int .i64 h.m] 23) = W at *
  rw [← hH'] at t1 ⊢
  have lwW : w.heap.size ≤ W.heap.size := t2.size
  clear hH'
  have c0 : W.cell? ⟨H, 0, .none⟩ = some (.int .i64 h.p) := rowCells t1 0
  have c1 : W.cell? ⟨H, 1, .none⟩ = some (.int .i64 h.c) := rowCells t1 1
  have c2 : W.cell? ⟨H, 2, .none⟩ = some (.int .i64 h.m) := rowCells t1 2
  go_wp2_with fail
  go_loopw [5, 7] (fun vl vi wr => ∃ i : Nat, i ≤ 4 ∧ vi = .int .i64 i ∧ Below W.heap.size W wr ∧ wr.ownsRow W.heap.size 37 1 vl i (flF X i)) (fun _ vi _ => 4 - (intOf vi).toNat)
  case atStart => exact ⟨0, by omega, rfl, Below.refl _ _, ⟨rfl, .inl ⟨rfl, rfl⟩⟩⟩
  case round =>
    obtain ⟨i, hi, rfl, hbr, hown⟩ := hrel
    have d0 := keepF hbr _ _ _ c0
    have d1 := keepF hbr _ _ _ c1
    have d2 := keepF hbr _ _ _ c2
    by_cases hlt : (i : Int) < 4
    · have wi1 : IntKind.i64.wrap ((i : Int) + 1) = (i : Int) + 1 := IntWalk.i64_in _ ⟨by omega, by omega⟩
      have hcx := Lib.hid (hcl.out i wr (t2.trans (hbr.mono t2.size)))
      have hsu := flF_succ X i
      have hln := flF_len X i
      generalize flF X i = L at *
      generalize X i = x at *
      replace hsu := Lib.hid hsu
      replace hln := Lib.hid hln
      go_wp2_with fail
      refine hcx.out.mono ?_
      rintro e w2 ⟨rfl, hb2⟩
      have hbr2 := hbr.trans (hb2.mono hbr.size)
      have own2 := own_below hown hb2
      clear hown hbr hb2 d0 d1 d2 hcx
      obtain ⟨V, rfl⟩ : ∃ V : World, V = w2 := ⟨_, rfl⟩
      have hVs := hbr2.size
      go_wp2_with (refine wpList_append_rd rfl (.tmp 10) (.tmp 15) 34 rfl W.heap.size 37 i0 _ 1 8 Try.underlying34 hi0 hz0 hz1 hz2 rfl (by omega) _ i L rfl (own2.alloc _) _ 1 [F64 x] rfl (RdS.new (cs := #[F64 x]) (t := 37) (sz := 1) (n := 1) (heap_alloc_new V _) rfl (by omega)) (by intro u hu; simp at hu; subst hu; rfl) (by simp only [maxLen]; omega) (by omega) (by simp; omega) ?_; intro v1 w1 hown1 hgrow1 hat1; have hbr4 := grown_belowS (hbr2.alloc hVs _) (own2.alloc _) (by simp; omega) hgrow1)
      exact ⟨⟨i + 1, by omega, by go_num, hbr4, by rw [hsu.out]; exact hown1⟩, by simp [intOf]; omega⟩
    · have hie : i = 4 := by omega
      subst hie
      go_wp2
      go_ret
      exact ⟨_, rfl, t2.trans (hbr.mono t2.size), RdS.of_own hown⟩

set_option maxRecDepth 100000 in
set_option maxHeartbeats 2000000 in
theorem ffullest_any (h : Hp) (v : Value) (w : World) (hr : RdZ .u64 w v h.xs) (hf : h.fit) :
    Calls Try.prog 16 #[shV h, v] w fun e w' => e = .returned (.tuple #[.int .i64 (bestF (fun i => h.fill i) 4).k, .bool (bestF (fun i => h.fill i) 4).ok]) ∧ Below w.heap.size w w' := by
  have hcl : Hid (∀ X, Below w.heap.size w X → Calls Try.prog 15 #[.agg #[.int .i64 h.p, .int .i64 h.c, .int .i64 h.m], v] X fun e w' => ∃ u, e = .returned u ∧ Below X.heap.size X w' ∧ RdS w' 1 u 4 (flF (fun i => h.fill i) 4)) := Lib.hid fun X hX => fall_any h v X (hr.below (w' := X) hX) hf
  have hXl : ∀ i : Nat, h.fill i < 18446744073709551616 := fun i => (h.fill_share i).2
  have t1 := heap_alloc_new w (.cells #[.int .i64 h.p, .int .i64 h.c, .int .i64 h.m] 23)
  have t2 := (Below.refl w.heap.size w).alloc (Nat.le_refl _) (.cells #[.int .i64 h.p, .int .i64 h.c, .int .i64 h.m] 23)
  obtain ⟨ao, cap, rfl, hcap, hcm, hrow⟩ := hr.cells
  clear hrow
  obtain ⟨X, hX⟩ : ∃ X : Nat → Nat, X = fun i : Nat => h.fill i := ⟨_, rfl⟩
  replace hXl : ∀ i, X i < 18446744073709551616 := fun i => by rw [hX]; exact hXl i
  rw [← hX] at hcl ⊢
  clear hX hr
  have hnan := Lib.hid (fun X => mathNaN_any X)
  have hz : ratioF 0 0 = 9221120237041090561 := rfl
  generalize h.xs.length = n at *
  obtain ⟨H, hH, hH'⟩ : ∃ H, Hid (H = w.heap.size) ∧ H = w.heap.size := ⟨_, Lib.hid rfl, rfl⟩
  go_enter Try.func16, Try.ntmps16
  go_upto_region 1 with fail
  generalize w.alloc (.cells #[.int .i64 h.p, .int .i64 h.c, .int .i64 h.m] 23) = W at *
  rw [← hH'] at t1 ⊢
  clear hH'
  have c0 : W.cell? ⟨H, 0, .none⟩ = some (.int .i64 h.p) := rowCells t1 0
  have c1 : W.cell? ⟨H, 1, .none⟩ = some (.int .i64 h.c) := rowCells t1 1
  have c2 : W.cell? ⟨H, 2, .none⟩ = some (.int .i64 h.m) := rowCells t1 2
  go_wp2_with (go_at_call 28; refine (hnan.out _).mono ?_; rintro e w1 ⟨rfl, hw⟩; obtain rfl := hw.symm)
  refine (hcl.out _ t2).mono ?_
  rintro e w2 ⟨u, rfl, hb2, hru⟩
  obtain ⟨uo, ucap, rfl, hucap, hucm, _, hurow⟩ := hru
  obtain ⟨g, off, rfl, hg, hcell⟩ := hurow (by omega)
  have hb2 := t2.trans (hb2.mono t2.size)
  replace hcell : Hid (∀ i, i < 4 → w2.cell? ⟨g, off + i, .none⟩ = some (F64 (X i))) := Lib.hid fun i hi => (hcell i (by omega)).trans (flF_get X 4 i hi)
  have hB0 : bestF X 0 = ⟨0, false, 9221120237041090561⟩ := by rw [← hz]; rfl
  have hBS : Hid (∀ i, bestF X (i + 1) = if nan (X i) = false ∧ key (bestF X i).m < key (X i) then ⟨i, true, X i⟩ else bestF X i) := Lib.hid fun i => rfl
  have hBl := Lib.hid (bestF_lt hXl)
  replace hXl := Lib.hid hXl
  clear hz hcl c0 c1 c2 t1 t2
  obtain ⟨V, rfl⟩ : ∃ V : World, V = w2 := ⟨_, rfl⟩
  replace hB0 := Lib.hid hB0
  go_wp2_with fail
  go_loopw [6, 7, 8, 16] (fun vb vo vm vi wr => ∃ i : Nat, i ≤ 4 ∧ vi = .int .i64 i ∧ vb = .int .i64 (bestF X i).k ∧ vo = .bool (bestF X i).ok ∧ vm = F64 (bestF X i).m ∧ wr = V) (fun _ _ _ vi _ => 4 - (intOf vi).toNat)
  case atStart => exact ⟨0, by omega, rfl, by rw [hB0.out], by rw [hB0.out], by rw [hB0.out], by first | rfl | trivial⟩
  case round =>
    obtain ⟨i, hi, rfl, rfl, rfl, rfl, hw⟩ := hrel
    obtain rfl := hw.symm
    clear hw
    by_cases hlt : (i : Int) < 4
    · have wi1 : IntKind.i64.wrap ((i : Int) + 1) = (i : Int) + 1 := IntWalk.i64_in _ ⟨by omega, by omega⟩
      have hi0 : (0 : Int) ≤ (i : Int) := by omega
      have hc := hcell.out i (by omega)
      have hkd := fun W => ekind_any (X i) W
      have hcp := fun W => compare_any (X i) (bestF X i).m (hXl.out i) (hBl.out i) W
      have hbs := hBS.out i
      have hkz := kind_zero (x := X i)
      generalize bestF X i = b at *
      generalize hb1 : bestF X (i + 1) = b1 at *
      generalize X i = x at *
      replace hb1 := Lib.hid hb1
      rcases Bool.eq_false_or_eq_true (nan x) with hn | hn
      · rw [if_neg (by rw [hn]; simp)] at hbs
        have hk : kindI x = 0 := hkz.2 hn
        rw [hk] at hkd
        replace hkd := Lib.hid hkd
        replace hbs := Lib.hid hbs
        clear hk hkz hcp
        go_wp2_with (go_at_call 40; refine (hkd.out _).mono ?_; rintro e w3 ⟨rfl, hw⟩; obtain rfl := hw.symm)
        exact ⟨⟨i + 1, by omega, by go_num, by rw [hb1.out, hbs.out], by rw [hb1.out, hbs.out], by rw [hb1.out, hbs.out], by first | rfl | trivial⟩, by simp [intOf]; omega⟩
      · have hk : (kindI x != 0) = true := by
          have : kindI x ≠ 0 := fun e => by rw [hkz.1 e] at hn; cases hn
          simpa using this
        generalize kindI x = kx at *
        replace hkd := Lib.hid hkd
        clear hkz
        by_cases hkl : key b.m < key x
        · rw [if_pos ⟨hn, hkl⟩] at hbs
          have hcv : cmpI (key x) (key b.m) = 1 := by unfold cmpI; rw [if_neg (by omega), if_pos hkl]
          rw [hcv] at hcp
          replace hcp := Lib.hid hcp
          replace hbs := Lib.hid hbs
          clear hcv hkl
          go_wp2_with (first
            | (go_at_call 40; refine (hkd.out _).mono ?_; rintro e w3 ⟨rfl, hw⟩; obtain rfl := hw.symm)
            | (go_at_call 41; refine (hcp.out _).mono ?_; rintro e w3 ⟨rfl, hw⟩; obtain rfl := hw.symm))
          exact ⟨⟨i + 1, by omega, by go_num, by rw [hb1.out, hbs.out], by rw [hb1.out, hbs.out], by rw [hb1.out, hbs.out], by first | rfl | trivial⟩, by simp [intOf]; omega⟩
        · rw [if_neg (fun e => hkl e.2)] at hbs
          have hcv : cmpI (key x) (key b.m) = 0 ∨ cmpI (key x) (key b.m) = -1 := by unfold cmpI; split <;> (try split) <;> simp_all
          replace hbs := Lib.hid hbs
          clear hkl
          generalize cmpI (key x) (key b.m) = cv at *
          rcases hcv with hcv | hcv
          all_goals
            subst hcv
            replace hcp := Lib.hid hcp
            go_wp2_with (first
              | (go_at_call 40; refine (hkd.out _).mono ?_; rintro e w3 ⟨rfl, hw⟩; obtain rfl := hw.symm)
              | (go_at_call 41; refine (hcp.out _).mono ?_; rintro e w3 ⟨rfl, hw⟩; obtain rfl := hw.symm))
            exact ⟨⟨i + 1, by omega, by go_num, by rw [hb1.out, hbs.out], by rw [hb1.out, hbs.out], by rw [hb1.out, hbs.out], by first | rfl | trivial⟩, by simp [intOf]; omega⟩
    · have hie : i = 4 := by omega
      subst hie
      go_wp2
      exact bodyPost_ret (v := .tuple #[.int .i64 (bestF X 4).k, .bool (bestF X 4).ok]) (by simp [results, Try.results16, go_sem]) rfl ⟨rfl, hb2⟩
end Go.Proofs.Ytfknaheijidhcaa
