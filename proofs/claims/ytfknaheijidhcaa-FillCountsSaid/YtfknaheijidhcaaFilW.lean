/- How full a class is: the walk of fill.Class. -/
import Derived.Test.YtfknaheijidhcaaFilP

import Derived.Test.YtfknaheijidhcaaAudV

import Derived.Test.YtfknaheijidhcaaAudX

import Derived.Test.YtfknaheijidhcaaEdgeS

import Derived.Deep.CutBlock

namespace Go.Proofs.Ytfknaheijidhcaa

open Go.RowKit Fl

attribute [local go_sem ↓] Go.wp_at_zero Go.wp_at_succ

attribute [local go_sem ↓] run_field_slot0 run_field_slot1

/-- A page's word, read, in a block. -/
def PgAt (w : World) (N : Nat) (a b c : Int) : Prop := w.heap[N]? = some (.cells #[.int .i64 a, .int .i64 b, .int .i64 c] 79 (0, 0))
section

variable {w w' : World} {N : Nat} {a b c : Int}

theorem PgAt.c0 (h : PgAt w N a b c) : w.cell? ⟨N, 0, .none⟩ = some (.int .i64 a) := rowCells h 0
theorem PgAt.c1 (h : PgAt w N a b c) : w.cell? ⟨N, 1, .none⟩ = some (.int .i64 b) := rowCells h 1
theorem PgAt.c2 (h : PgAt w N a b c) : w.cell? ⟨N, 2, .none⟩ = some (.int .i64 c) := rowCells h 2
theorem PgAt.fr (h : PgAt w N a b c) (i : Nat) : w.frozen? ⟨N, i, .none⟩ = false := rowFree h i
theorem PgAt.set (h : PgAt w N a b c) (x y z : Int) : PgAt (((w.setCell ⟨N, 0, .none⟩ (.int .i64 x)).setCell ⟨N, 1, .none⟩ (.int .i64 y)).setCell ⟨N, 2, .none⟩ (.int .i64 z)) N x y z := by
  unfold PgAt at *
  rw [heap_setCell_same _ N 2 _ _ _ (heap_setCell_same _ N 1 _ _ _ (heap_setCell_same w N 0 _ _ _ h))]; rfl
theorem PgAt.lt (h : PgAt w N a b c) : N < w.heap.size := (Array.getElem?_eq_some_iff.1 h).1
theorem PgAt.below (h : PgAt w N a b c) (hb : Below w.heap.size w w') : PgAt w' N a b c := (hb.block N (Array.getElem?_eq_some_iff.1 h).1).trans h
end

/-- plan.Page, pack.ReadPage: a page's word. -/
theorem Hp.read_any (h : Hp) (hf : h.fit) (a : Int) (w : World) :
    Calls Try.prog 55 #[.agg #[.int .i64 h.p, .int .i64 h.c, .int .i64 h.m], .int .i64 a, .int .u64 (h.pw a)] w fun e w' => e = .returned (.tuple #[.agg #[.int .i64 (h.pk a), .int .i64 (h.pa a), .int .i64 (h.pn a)], .bool (h.pb a)]) ∧ Below w.heap.size w w' := by
  have hw := h.wd_bd hf (h.c + a)
  have hrp := readPage_any h.p h.c h.m a (h.pw a) w hw.1 hw.2
  have hagg : (if readPageB h.p h.c h.m a (h.pw a) = true then #[.int .i64 (kindV (h.pw a)), .int .i64 (partV (h.pw a) 0), .int .i64 (partV (h.pw a) 1)] else #[.int .i64 0, .int .i64 0, .int .i64 0] : Array Value) = #[.int .i64 (h.pk a), .int .i64 (h.pa a), .int .i64 (h.pn a)] := by
    unfold Hp.pk Hp.pa Hp.pn
    show (if h.pb a = true then _ else _) = _
    cases h.pb a <;> rfl
  rw [hagg] at hrp
  exact hrp.mono fun e w' ⟨h1, h2⟩ => ⟨h2, h1⟩
theorem Hp.sread_any (h : Hp) (hf : h.fit) (a i : Int) (w : World) :
    Calls Try.prog 58 #[.int .u64 (h.sw a i)] w fun e w' => e = .returned (.agg #[.int .i64 (h.sk a i), .int .i64 (h.sa a i)]) ∧ Below w.heap.size w w' := by
  have hw := h.wd_bd hf (h.c + h.p + a * 16 + i)
  have hrp := readSlot_any (h.sw a i) w hw.1 hw.2
  refine hrp.mono fun e w' ⟨h1, h2⟩ => ⟨?_, h1⟩
  rw [h2]
  unfold Hp.sk Hp.sa
  cases readSlotB (h.sw a i) <;> rfl

set_option maxRecDepth 100000 in
set_option maxHeartbeats 2000000 in
theorem fclass_any (h : Hp) (v : Value) (k : Int) (w : World) (hr : RdZ .u64 w v h.xs) (hf : h.fit) :
    Calls Try.prog 29 #[shV h, v, .int .i64 k] w fun e w' => e = .returned (F64 (h.fill k)) ∧ Below w.heap.size w w' := by
  have hpB : h.ok = true → 1 ≤ h.p ∧ h.p ≤ 64 := fun hok => (Bok.bd (w := w) (v := v) ⟨hok, hr, hf⟩).1
  have hword := fun hok => (Bok.word (w := w) (v := v) (h := h) ⟨hok, hr, hf⟩)
  have hbd := fun hok => (Bok.bd (w := w) (v := v) (h := h) ⟨hok, hr, hf⟩)
  have hfv : h.fill k = if h.ok = true then ratioF (h.fT k h.p.toNat) (h.fA k h.p.toNat) else ratioF 0 0 := rfl
  have hokv : h.ok = (mayB h.p h.c h.m && decide (totalV h.p h.c h.m ≤ (h.xs.length : Int))) := rfl
  have hrat := fun a b ha hb X => ratio_any a b ha hb X
  replace hrat := Lib.hid hrat
  obtain ⟨ao, cap, rfl, hcap, hcm, hrow⟩ := hr.cells
  obtain ⟨H, hH, hH'⟩ : ∃ H, Hid (H = w.heap.size) ∧ H = w.heap.size := ⟨_, Lib.hid rfl, rfl⟩
  have t1 := heap_alloc_new w (.cells #[.int .i64 h.p, .int .i64 h.c, .int .i64 h.m] 23)
  have t2 := (Below.refl w.heap.size w).alloc (Nat.le_refl _) (.cells #[.int .i64 h.p, .int .i64 h.c, .int .i64 h.m] 23)
  by_cases hp0 : h.p ≤ 0
  · have hok : h.ok = false := by
      rcases Bool.eq_false_or_eq_true h.ok with ho | ho
      · have := hpB ho; omega
      · exact ho
    rw [hfv, hok, if_neg Bool.false_ne_true]
    have hno : ¬ (0 : Int) < h.p := by omega
    have hr0 := Lib.hid (fun X => hrat.out 0 0 (by omega) (by omega) X)
    generalize ratioF 0 0 = z at *
    clear hword hbd hfv hokv hpB hrow hr
    generalize h.xs.length = n at *
    go_enter Try.func29, Try.ntmps29
    go_upto_region 2 with fail
    generalize w.alloc (.cells #[.int .i64 h.p, .int .i64 h.c, .int .i64 h.m] 23) = W at *
    rw [← hH'] at t1 ⊢
    clear hH'
    have c0 : W.cell? ⟨H, 0, .none⟩ = some (.int .i64 h.p) := rowCells t1 0
    go_wp2_with fail
    go_loopw [7, 8, 15] (fun va vb vi wr => va = .int .i64 0 ∧ vb = .int .i64 0 ∧ vi = .int .i64 0 ∧ wr = W) (fun _ _ _ _ => 0)
    case atStart => exact ⟨rfl, rfl, rfl, rfl⟩
    case round =>
      obtain ⟨rfl, rfl, rfl, hw⟩ := hrel
      obtain rfl := hw.symm
      clear hw
      go_wp2_with (go_at_call 44; refine (hr0.out _).mono ?_; rintro e w1 ⟨rfl, hw⟩; obtain rfl := hw.symm)
      go_ret
      exact ⟨rfl, t2⟩
  · have hp1 : (0 : Int) < h.p := by omega
    have hmay := fun X => may_any h.p h.c h.m X
    have hwds := fun X => words_any h.p h.c h.m X
    rcases Bool.eq_false_or_eq_true h.ok with hok | hok
    case inr =>
      rw [hfv, hok, if_neg Bool.false_ne_true]
      have hr0 := Lib.hid (fun X => hrat.out 0 0 (by omega) (by omega) X)
      generalize ratioF 0 0 = z at *
      have hm2 : mayB h.p h.c h.m = false ∨ mayB h.p h.c h.m = true ∧ ((h.xs.length : Nat) : Int) < totalV h.p h.c h.m := by
        rcases Bool.eq_false_or_eq_true (mayB h.p h.c h.m) with hm | hm
        · refine .inr ⟨hm, ?_⟩
          rw [hok, hm] at hokv
          have := of_decide_eq_false hokv.symm
          omega
        · exact .inl hm
      generalize totalV h.p h.c h.m = T at *
      clear hword hbd hfv hokv hpB hrow hr
      generalize h.xs.length = n at *
      generalize mayB h.p h.c h.m = mb at *
      rcases hm2 with rfl | ⟨rfl, hlt⟩
      · replace hmay := Lib.hid hmay
        clear hwds
        go_enter Try.func29, Try.ntmps29
        go_upto_region 2 with fail
        generalize w.alloc (.cells #[.int .i64 h.p, .int .i64 h.c, .int .i64 h.m] 23) = W at *
        rw [← hH'] at t1 ⊢
        clear hH'
        have c0 : W.cell? ⟨H, 0, .none⟩ = some (.int .i64 h.p) := rowCells t1 0
        have c1 : W.cell? ⟨H, 1, .none⟩ = some (.int .i64 h.c) := rowCells t1 1
        have c2 : W.cell? ⟨H, 2, .none⟩ = some (.int .i64 h.m) := rowCells t1 2
        go_wp2_with fail
        go_loopw [7, 8, 15] (fun va vb vi wr => va = .int .i64 0 ∧ vb = .int .i64 0 ∧ vi = .int .i64 0 ∧ wr = W) (fun _ _ _ _ => 0)
        case atStart => exact ⟨rfl, rfl, rfl, rfl⟩
        case round =>
          obtain ⟨rfl, rfl, rfl, hw⟩ := hrel
          obtain rfl := hw.symm
          clear hw
          go_wp2_with (first
            | (go_at_call 42; refine (hmay.out _).mono ?_; rintro e w1 ⟨rfl, rfl⟩)
            | (go_at_call 44; refine (hr0.out _).mono ?_; rintro e w1 ⟨rfl, rfl⟩))
          go_ret
          exact ⟨rfl, t2.alloc t2.size _⟩
      · replace hmay := Lib.hid hmay
        replace hwds := Lib.hid hwds
        go_enter Try.func29, Try.ntmps29
        go_upto_region 2 with fail
        generalize w.alloc (.cells #[.int .i64 h.p, .int .i64 h.c, .int .i64 h.m] 23) = W at *
        rw [← hH'] at t1 ⊢
        clear hH'
        have c0 : W.cell? ⟨H, 0, .none⟩ = some (.int .i64 h.p) := rowCells t1 0
        have c1 : W.cell? ⟨H, 1, .none⟩ = some (.int .i64 h.c) := rowCells t1 1
        have c2 : W.cell? ⟨H, 2, .none⟩ = some (.int .i64 h.m) := rowCells t1 2
        go_wp2_with fail
        go_loopw [7, 8, 15] (fun va vb vi wr => va = .int .i64 0 ∧ vb = .int .i64 0 ∧ vi = .int .i64 0 ∧ wr = W) (fun _ _ _ _ => 0)
        case atStart => exact ⟨rfl, rfl, rfl, rfl⟩
        case round =>
          obtain ⟨rfl, rfl, rfl, hw⟩ := hrel
          obtain rfl := hw.symm
          clear hw
          have lH : H < W.heap.size := (Array.getElem?_eq_some_iff.1 t1).1
          go_wp2_with fail
          refine (hmay.out _).mono ?_
          rintro e w1 ⟨rfl, hw⟩
          have hb1 : Below W.heap.size W w1 := hw ▸ (Below.refl _ _).alloc (Nat.le_refl _) _
          clear hw
          have d0 := keepF hb1 _ _ _ c0
          have d1 := keepF hb1 _ _ _ c1
          have d2 := keepF hb1 _ _ _ c2
          go_wp2_with fail
          refine (hwds.out _).mono ?_
          rintro e w2 ⟨rfl, hb2⟩
          have hb3 := hb1.trans (hb2.mono hb1.size)
          go_wp2_with (go_at_call 44; refine (hr0.out _).mono ?_; rintro e w3 ⟨rfl, hw⟩; obtain rfl := hw.symm)
          go_ret
          exact ⟨rfl, t2.trans (hb3.mono t2.size)⟩
    case inl =>
      rw [hfv, hok, if_pos rfl]
      obtain ⟨⟨p0, p1⟩, ⟨q0, q1⟩, ⟨m0, m1⟩, hlen⟩ := hbd hok
      have hmy : mayB h.p h.c h.m = true := Bok.may (w := w) (v := .slice ao h.xs.length cap) ⟨hok, hr, hf⟩
      have htl : ¬ ((h.xs.length : Nat) : Int) < totalV h.p h.c h.m := by
        have := Bok.len (w := w) (v := .slice ao h.xs.length cap) (h := h) ⟨hok, hr, hf⟩; omega
      rw [hmy] at hmay
      have hcmul := mul_bd (c := h.c) (m := h.m) (C := 12) (M := 8) (by omega) (by omega)
      have hpage : Hid (∀ (a : Nat) (X : World), (a : Int) < h.p → Calls Try.prog 56 #[.agg #[.int .i64 h.p, .int .i64 h.c, .int .i64 h.m], .int .i64 (a : Int)] X fun e w' => e = .returned (.int .i64 (h.c + (a : Int))) ∧ Below X.heap.size X w') := Lib.hid fun a X ha => by
        have := planPage_any h.p h.c h.m a X
        rwa [show pageIx h.p h.c h.m a = h.c + (a : Int) by unfold pageIx; rw [if_pos ⟨hmy, wi_iff.2 (by omega)⟩]] at this
      have hslot : Hid (∀ (a i : Nat) (X : World), (a : Int) < h.p → i < 16 → Calls Try.prog 59 #[.agg #[.int .i64 h.p, .int .i64 h.c, .int .i64 h.m], .int .i64 (a : Int), .int .i64 (i : Int)] X fun e w' => e = .returned (.int .i64 (h.c + h.p + (a : Int) * 16 + (i : Int))) ∧ Below X.heap.size X w') := Lib.hid fun a i X ha hi => by
        have := planSlot_any h.p h.c h.m a i X
        rwa [show slotIx h.p h.c h.m a i = h.c + h.p + (a : Int) * 16 + (i : Int) by unfold slotIx; rw [if_pos ⟨hmy, wi_iff.2 (by omega), wi_iff.2 (by omega)⟩]] at this
      obtain ⟨g, off, rfl, hg, hrw⟩ := hrow (fun e => by rw [e] at hlen; simp at hlen; omega)
      have hcp : Hid (∀ (a : Nat) (X : World), (a : Int) < h.p → Below w.heap.size w X → ∃ kx : Nat, h.c + (a : Int) = (kx : Int) ∧ (kx : Int) < (h.xs.length : Int) ∧ X.cell? ⟨g, off + kx, .none⟩ = some (.int .u64 (h.pw a))) := Lib.hid fun a X ha hX => by
        have hl : (h.c + (a : Int)).toNat < h.xs.length := by omega
        refine ⟨(h.c + (a : Int)).toNat, by omega, by omega, ?_⟩
        rw [keepF hX _ _ _ (hrw _ hl)]
        unfold Hp.pw
        rw [wd_get (by omega) (by omega)]
      have hcs : Hid (∀ (a i : Nat) (X : World), (a : Int) < h.p → i < 16 → Below w.heap.size w X → ∃ kx : Nat, h.c + h.p + (a : Int) * 16 + (i : Int) = (kx : Int) ∧ (kx : Int) < (h.xs.length : Int) ∧ X.cell? ⟨g, off + kx, .none⟩ = some (.int .u64 (h.sw a i))) := Lib.hid fun a i X ha hi hX => by
        have hl : (h.c + h.p + (a : Int) * 16 + (i : Int)).toNat < h.xs.length := by omega
        refine ⟨(h.c + h.p + (a : Int) * 16 + (i : Int)).toNat, by omega, by omega, ?_⟩
        rw [keepF hX _ _ _ (hrw _ hl)]
        unfold Hp.sw
        rw [wd_get (by omega) (by omega)]
      have hread := Lib.hid (fun (a : Nat) X => h.read_any hf a X)
      have hsread := Lib.hid (fun (a i : Nat) X => h.sread_any hf a i X)
      have hfb := Lib.hid (h.fill_bd k)
      have htb := Lib.hid h.tk_bd
      have hslots := Lib.hid (fun X => slots_any k X)
      have hsb := slots_bd k
      obtain ⟨P, hP, hP'⟩ : ∃ P : Nat, Hid (h.p = P) ∧ h.p.toNat = P := ⟨h.p.toNat, Lib.hid (by omega), rfl⟩
      have hrt : Hid (∀ X, Calls Try.prog 44 #[.int .i64 (h.fT k P), .int .i64 (h.fA k P)] X fun e w' => e = .returned (F64 (ratioF (h.fT k P) (h.fA k P))) ∧ w' = X) := Lib.hid fun X => by
        have hPP := hP.out
        have := hfb.out P
        exact hrat.out _ _ (by omega) (by omega) X
      rw [hP']
      have hstep : Hid (∀ i : Nat, (h.isC k i = false → h.fT k (i + 1) = h.fT k i ∧ h.fA k (i + 1) = h.fA k i) ∧ (h.isC k i = true → h.fT k (i + 1) = h.fT k i + h.tk i (slotsV k).toNat ∧ h.fA k (i + 1) = h.fA k i + slotsV k)) := Lib.hid fun i => by
        refine ⟨fun e => ?_, fun e => ?_⟩
        · simp only [Hp.fT, Hp.fA, e]; simp
        · simp only [Hp.fT, Hp.fA, e]; simp
      have hisv : Hid (∀ i : Nat, h.isC k i = (h.pk i == 2 && h.pa i == k)) := Lib.hid fun i => rfl
      have htk : Hid (∀ (a i : Nat), h.tk a 0 = 0 ∧ h.tk a (i + 1) = h.tk a i + if h.sk a i = 3 then 1 else 0) := Lib.hid fun a i => ⟨rfl, rfl⟩
      have hf0 : Hid (h.fT k 0 = 0 ∧ h.fA k 0 = 0) := Lib.hid ⟨rfl, rfl⟩
      clear hword hbd hfv hokv hpB hrow hrw hrat hP' hcmul hr
      generalize h.xs.length = n at *
      replace hmay := Lib.hid hmay
      replace hwds := Lib.hid hwds
      go_enter Try.func29, Try.ntmps29
      go_upto_region 2 with fail
      generalize w.alloc (.cells #[.int .i64 h.p, .int .i64 h.c, .int .i64 h.m] 23) = W at *
      rw [← hH'] at t1 ⊢
      clear hH'
      have c0 : W.cell? ⟨H, 0, .none⟩ = some (.int .i64 h.p) := rowCells t1 0
      have c1 : W.cell? ⟨H, 1, .none⟩ = some (.int .i64 h.c) := rowCells t1 1
      have c2 : W.cell? ⟨H, 2, .none⟩ = some (.int .i64 h.m) := rowCells t1 2
      have lH : H < W.heap.size := (Array.getElem?_eq_some_iff.1 t1).1
      go_wp2_with fail
      go_loopw [7, 8, 15] (fun va vb vi wr => ∃ i : Nat, i ≤ P ∧ va = .int .i64 (h.fT k i) ∧ vb = .int .i64 (h.fA k i) ∧ vi = .int .i64 i ∧ Below W.heap.size W wr) (fun _ _ vi _ => P - (intOf vi).toNat)
      case atStart => exact ⟨0, Nat.zero_le _, by rw [hf0.out.1], by rw [hf0.out.2], rfl, Below.refl _ _⟩
      case round =>
        obtain ⟨i, hi, rfl, rfl, rfl, hbr⟩ := hrel
        obtain ⟨V, rfl⟩ : ∃ V : World, V = wr := ⟨_, rfl⟩
        have d0 := keepF hbr _ _ _ c0
        have d1 := keepF hbr _ _ _ c1
        have d2 := keepF hbr _ _ _ c2
        have hPo := hP.out
        by_cases hlt : (i : Int) < h.p
        · have hiP : i < P := by omega
          obtain ⟨fb1, fb2, fb3⟩ := hfb.out i
          have wi1 : IntKind.i64.wrap ((i : Int) + 1) = (i : Int) + 1 := IntWalk.i64_in _ ⟨by omega, by omega⟩
          clear hPo
          go_wp2_with fail
          refine (hmay.out _).mono ?_
          rintro e w1 ⟨rfl, hw⟩
          have hb1 : Below V.heap.size V w1 := hw ▸ (Below.refl _ _).alloc (Nat.le_refl _) _
          clear hw
          have e0 := keepF hb1 _ _ _ d0
          have e1 := keepF hb1 _ _ _ d1
          have e2 := keepF hb1 _ _ _ d2
          go_wp2_with fail
          refine (hwds.out _).mono ?_
          rintro e w2 ⟨rfl, hb2⟩
          have hb2 := hbr.trans ((hb1.trans (hb2.mono hb1.size)).mono hbr.size)
          clear e0 e1 e2 d0 d1 d2 hb1 hbr
          obtain ⟨U, rfl⟩ : ∃ V : World, V = w2 := ⟨_, rfl⟩
          have hwU := t2.trans (hb2.mono t2.size)
          have lHU : H < U.heap.size := by have := hb2.size; omega
          obtain ⟨kx, hkx, hkn, hkc⟩ := hcp.out i U hlt hwU
          have hpg := fun X => hpage.out i X hlt
          rw [hkx] at hpg
          replace hpg := Lib.hid hpg
          have hrd := Lib.hid (fun X => hread.out i X)
          have hkx0 : (0 : Int) ≤ (kx : Int) := by omega
          have d0 := keepF hb2 _ _ _ c0
          have d1 := keepF hb2 _ _ _ c1
          have d2 := keepF hb2 _ _ _ c2
          have hst := hstep.out i
          have hisV := hisv.out i
          generalize h.pk i = pk at *
          generalize h.pa i = pa at *
          generalize h.pn i = pn at *
          generalize h.pb i = pb at *
          generalize h.pw i = pw at *
          go_upto_region 6 with fail
          go_cut [10, 11] (fun vx vo wx => ∃ N : Nat, vx = .pointer (some ⟨N, 0, .none⟩) ∧ vo = .bool pb ∧ Below U.heap.size U wx ∧ PgAt wx N pk pa pn)
          case first =>
            have hK : Hid (∀ Y, Below U.heap.size U Y → Y.cell? ⟨H, 0, .none⟩ = some (.int .i64 h.p) ∧ Y.cell? ⟨H, 1, .none⟩ = some (.int .i64 h.c) ∧ Y.cell? ⟨H, 2, .none⟩ = some (.int .i64 h.m) ∧ Y.cell? ⟨g, off + kx, .none⟩ = some (.int .u64 pw)) := Lib.hid fun Y hb => ⟨keepF hb _ _ _ d0, keepF hb _ _ _ d1, keepF hb _ _ _ d2, keepF hb _ _ _ hkc⟩
            have hbd : Below U.heap.size U U.drew := (Below.refl _ _).drew
            go_region_held3 (fun Y => Y.cell? ⟨H, 0, .none⟩ = some (.int .i64 h.p) ∧ Y.cell? ⟨H, 1, .none⟩ = some (.int .i64 h.c) ∧ Y.cell? ⟨H, 2, .none⟩ = some (.int .i64 h.m) ∧ Y.cell? ⟨g, off + kx, .none⟩ = some (.int .u64 pw))
              (first | exact hK.out _ (by go_grown))
              (first
                | (go_at_call 56; refine (hpg.out _).mono ?_; rintro e w4 ⟨rfl, hb4⟩; have hB4 := belowTrans (w := U) (by go_grown) hb4; have hS4 := hB4.size;
                    try (have hz := PgAt.below (N := U.heap.size) (a := 0) (b := 0) (c := 0) (heap_alloc_new U.drew (.cells #[.int .i64 0, .int .i64 0, .int .i64 0] 79)) hb4; have q0 := hz.c0; have q1 := hz.c1; have q2 := hz.c2; have qF := hz.fr))
                | (go_at_call 55; refine (hrd.out _).mono ?_; rintro e w5 ⟨rfl, hb5⟩; have hB5 := belowTrans (w := U) (by go_grown) hb5; have hS5 := hB5.size;
                    try (first
                      | (have hz := hz.below hb5; have q0 := hz.c0; have q1 := hz.c1; have q2 := hz.c2; have qF := hz.fr)
                      | (have hz := PgAt.below (N := w4.heap.size) (a := 0) (b := 0) (c := 0) (heap_alloc_new w4 (.cells #[.int .i64 0, .int .i64 0, .int .i64 0] 79)) hb5; have q0 := hz.c0; have q1 := hz.c1; have q2 := hz.c2; have qF := hz.fr))))
            all_goals (go_wp2_with fail; go_meet)
            all_goals refine ⟨_, rfl, rfl, by go_grown, ?_⟩
            all_goals first | exact hz.set _ _ _ | exact heap_alloc_new _ _
          case rest =>
            obtain ⟨N, rfl, rfl, hb6, hpN⟩ := hcut
            obtain ⟨Y, rfl⟩ : ∃ V : World, V = wc := ⟨_, rfl⟩
            have x0 := hpN.c0
            have x1 := hpN.c1
            have hUY := hb2.trans (hb6.mono hb2.size)
            have hwY := t2.trans (hUY.mono t2.size)
            have lN := hpN.lt
            clear d0 d1 d2 hkc hpg hrd
            rcases Bool.eq_false_or_eq_true (pk == 2 && pa == k) with hc | hc
            · have hc2 := hc
              rw [Bool.and_eq_true, beq_iff_eq, beq_iff_eq] at hc
              obtain ⟨hk2, hka⟩ := hc
              subst hk2
              obtain rfl := hka.symm
              have hst := hst.2 (hisV.trans hc2)
              have hbb : (k != k) = false := by simp
              obtain ⟨q, hq, hq2⟩ : ∃ q : Nat, slotsV k = (q : Int) ∧ (slotsV k).toNat = q := ⟨(slotsV k).toNat, by omega, rfl⟩
              rw [hq2, hq] at hst
              rw [hq] at hslots hsb
              have hq16 : q ≤ 16 := by omega
              have htk := fun j => htk.out i j
              have htb := fun j => htb.out i j
              have hcs := fun j X => hcs.out i j X hlt
              have hslot := fun j X => hslot.out i j X hlt
              have hsread := fun j X => hsread.out i j X
              have htk0 := (htk 0).1
              generalize hTf : h.tk (i : Int) = tf at *
              generalize hT0 : h.fT k i = T0 at *
              generalize hA0 : h.fA k i = A0 at *
              generalize hT1 : h.fT k (i + 1) = T1 at *
              generalize hA1 : h.fA k (i + 1) = A1 at *
              clear hTf hc2 hisV hq hq2
              replace hst := Lib.hid hst
              replace hT0 := Lib.hid hT0
              replace hA0 := Lib.hid hA0
              replace hT1 := Lib.hid hT1
              replace hA1 := Lib.hid hA1
              replace htk := Lib.hid htk
              replace htb := Lib.hid htb
              replace hcs := Lib.hid hcs
              replace hslot := Lib.hid hslot
              replace hsread := Lib.hid hsread
              replace htk0 := Lib.hid htk0
              replace hkx := Lib.hid hkx
              go_wp2_with (go_at_call 57; refine (hslots.out _).mono ?_; rintro e w6 ⟨rfl, hw⟩; obtain rfl := hw.symm)
              go_loopw [7, 8, 51] (fun va vb vj wr => ∃ j : Nat, j ≤ q ∧ va = .int .i64 (T0 + tf j) ∧ vb = .int .i64 (A0 + j) ∧ vj = .int .i64 j ∧ Below W.heap.size W wr) (fun _ _ vj _ => q - (intOf vj).toNat)
              case atStart => exact ⟨0, Nat.zero_le _, by rw [htk0.out, Int.add_zero], by simp, rfl, hUY⟩
              case round =>
                obtain ⟨j, hj, rfl, rfl, rfl, hbr⟩ := hrel
                obtain ⟨X, rfl⟩ : ∃ V : World, V = wr := ⟨_, rfl⟩
                have d0 := keepF hbr _ _ _ c0
                have d1 := keepF hbr _ _ _ c1
                have d2 := keepF hbr _ _ _ c2
                have hwX := t2.trans (hbr.mono t2.size)
                obtain ⟨tb1, tb2⟩ := htb.out j
                by_cases hlj : j < q
                · have hlj' : (j : Int) < (q : Int) := by omega
                  obtain ⟨ky, hky, hkyn, hkyc⟩ := hcs.out j X (by omega) hwX
                  have hsl := hslot.out j X (by omega)
                  rw [hky] at hsl
                  replace hsl := Lib.hid hsl
                  replace hky := Lib.hid hky
                  have htj := (htk.out j).2
                  have wj1 : IntKind.i64.wrap ((j : Int) + 1) = (j : Int) + 1 := IntWalk.i64_in _ ⟨by omega, by omega⟩
                  have wA1 : IntKind.i64.wrap (A0 + (j : Int) + 1) = A0 + (j : Int) + 1 := IntWalk.i64_in _ ⟨by omega, by omega⟩
                  have wT1 : IntKind.i64.wrap (T0 + tf j + 1) = T0 + tf j + 1 := IntWalk.i64_in _ ⟨by omega, by omega⟩
                  have hrj := hsread.out j
                  generalize h.sk i j = sk at *
                  generalize h.sa i j = sa at *
                  generalize h.sw i j = sw at *
                  replace hrj := Lib.hid hrj
                  generalize htj1 : tf (j + 1) = tj1 at *
                  replace htj1 := Lib.hid htj1
                  generalize tf j = tj at *
                  by_cases hs3 : sk = 3
                  · rw [if_pos hs3] at htj
                    subst hs3
                    replace htj := Lib.hid htj
                    go_wp2_with fail
                    refine hsl.out.mono ?_
                    rintro e w7 ⟨rfl, hb7⟩
                    have hkyc := keepF hb7 _ _ _ hkyc
                    go_wp2_with fail
                    refine (hrj.out _).mono ?_
                    rintro e w8 ⟨rfl, hb8⟩
                    have hbz := hbr.trans ((hb7.trans (hb8.mono hb7.size)).mono hbr.size)
                    go_wp2
                    exact ⟨⟨j + 1, by omega, by rw [htj1.out, htj.out, Int.add_assoc], by go_num, by go_num, hbz⟩, by simp [intOf]; omega⟩
                  · rw [if_neg hs3, Int.add_zero] at htj
                    have hs3b : (sk == 3) = false := by simpa using hs3
                    replace htj := Lib.hid htj
                    go_wp2_with fail
                    refine hsl.out.mono ?_
                    rintro e w7 ⟨rfl, hb7⟩
                    have hkyc := keepF hb7 _ _ _ hkyc
                    go_wp2_with fail
                    refine (hrj.out _).mono ?_
                    rintro e w8 ⟨rfl, hb8⟩
                    have hbz := hbr.trans ((hb7.trans (hb8.mono hb7.size)).mono hbr.size)
                    go_wp2
                    exact ⟨⟨j + 1, by omega, by rw [htj1.out, htj.out], by go_num, by go_num, hbz⟩, by simp [intOf]; omega⟩
                · have hje : j = q := by omega
                  subst hje
                  have hlj' : ¬ (j : Int) < (j : Int) := by omega
                  go_wp2
                  exact ⟨⟨i + 1, by omega, by rw [hT1.out, hst.out.1], by rw [hA1.out, hst.out.2], by go_num, hbr⟩, by simp [intOf]; omega⟩
            · have hst := hst.1 (hisV.trans hc)
              have hcc : pk = 2 → ¬ pa = k := fun e1 e2 => by rw [e1, e2] at hc; simp at hc
              by_cases hk2 : pk = 2
              · have hcc := hcc hk2
                have hbb : (pa != k) = true := by simpa using hcc
                subst hk2
                clear hc hisV
                replace hst := Lib.hid hst
                go_wp2
                exact ⟨⟨i + 1, by omega, by rw [hst.out.1], by rw [hst.out.2], by go_num, hUY⟩, by simp [intOf]; omega⟩
              · have hbb : (pk != 2) = true := by simpa using hk2
                clear hc hisV
                replace hst := Lib.hid hst
                go_wp2
                exact ⟨⟨i + 1, by omega, by rw [hst.out.1], by rw [hst.out.2], by go_num, hUY⟩, by simp [intOf]; omega⟩
        · have hie : i = P := by omega
          subst hie
          clear hPo
          go_wp2_with (go_at_call 44; refine (hrt.out _).mono ?_; rintro e w3 ⟨rfl, hw⟩; obtain rfl := hw.symm)
          go_ret
          exact ⟨rfl, t2.trans (hbr.mono t2.size)⟩
end Go.Proofs.Ytfknaheijidhcaa
