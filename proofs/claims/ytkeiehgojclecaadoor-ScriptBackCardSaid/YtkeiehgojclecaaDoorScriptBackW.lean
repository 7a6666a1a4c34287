/- The walk of the law ScriptBack. -/
import Derived.Test.YtkeiehgojclecaaDoorScrRt

import Derived.Test.YtkeiehgojclecaaDoorScrJ

import Derived.Test.YtkeiehgojclecaaDoorScriptPrintsW

import Derived.Test.YtkeiehgojclecaaDoorSchR

namespace Go.Proofs.YtkeiehgojclecaaDoor

open Go.RowKit Fl

attribute [local go_sem ↓] Go.wp_at_zero Go.wp_at_succ

attribute [local go_sem high] run_cut_lh

attribute [local go_sem] run_store_float

theorem RdC.drew {w : World} {v : Value} {xs : List Ch} (h : RdC w v xs) : RdC w.drew v xs := h
/-- A choice but for what its line has not. -/
def Ch.bare (c : Ch) : Ch := ⟨c.kind, c.client, if c.kind = 2 then c.ok else 0, if c.kind = 2 then c.oa else 0, if c.kind = 2 then c.on else 0, if c.kind = 1 then c.bias else 0⟩
theorem nanV_lt : nanV < 18446744073709551616 := by decide
theorem nan_nanV : nan nanV = true := by decide
theorem norm_fit {c : Ch} (h : c.wf) : c.norm.fit := by
  have hb := h.2.2.2.2.2
  have := nanV_lt
  show c.norm.bias < _
  unfold Ch.norm
  split
  · dsimp only; split <;> omega
  · split <;> (dsimp only; omega)
theorem bare_fit {c : Ch} (h : c.wf) : c.bare.fit := by
  have hb := h.2.2.2.2.2
  show (if c.kind = 1 then c.bias else 0) < _
  split <;> omega
theorem show_kind {c : Ch} {s : List UInt8} (h : showL c = some s) : c.kind = 1 ∨ c.kind = 2 ∨ c.kind = 3 ∨ c.kind = 4 := by
  unfold showL at h
  split at h
  · exact .inl ‹_›
  · split at h
    · exact .inr (.inl ‹_›)
    · split at h
      · exact .inr (.inr (.inl ‹_›))
      · split at h
        · exact .inr (.inr (.inr ‹_›))
        · cases h
theorem same_bare {c : Ch} {s : List UInt8} (h : showL c = some s) : sameL [c.norm] [c.bare] = true := by
  show (sameC _ _ && true) = true
  rw [Bool.and_true]
  obtain ⟨k, a, b, d, e, f⟩ := c
  rcases show_kind h with h | h | h | h <;> dsimp only at h <;> subst h
  · have hk : key (if nan f = true then nanV else f) = key f := by
      by_cases hn : nan f = true
      · rw [if_pos hn]; unfold key; rw [nan_nanV, hn, if_pos rfl, if_pos rfl]
      · rw [if_neg hn]
    simp [sameC, Ch.norm, Ch.bare, hk]
  · simp [sameC, Ch.norm, Ch.bare]
  · simp [sameC, Ch.norm, Ch.bare]
  · simp [sameC, Ch.norm, Ch.bare]
theorem shows_mem {l : List Ch} {t : List UInt8} (h : showsO l = some t) : ∀ c ∈ l, ∃ s, showL c = some s := by
  induction l generalizing t with
  | nil => intro c hc; cases hc
  | cons d l ih =>
    obtain ⟨a, h3, h4⟩ := Option.bind_eq_some_iff.1 h
    obtain ⟨u, h5, _⟩ := Option.map_eq_some_iff.1 h4
    intro c hc
    rcases List.mem_cons.1 hc with rfl | hc
    · exact ⟨a, h3⟩
    · exact ih h5 c hc
set_option maxRecDepth 100000 in
set_option maxHeartbeats 2000000 in
theorem sback_any (p c m : Int) (hp : i64 p) (hc : i64 c) (hm : i64 m) (l : List Ch) (v : Value) (w : World) (hr : RdC w v l) (hf : ∀ c ∈ l, c.wf) (h : Laid w) :
    Calls Tryd.prog 7 #[.agg #[.int .i64 p, .int .i64 c, .int .i64 m], v] w fun e w' => e = .returned (.bool true) ∧ Below w.heap.size w w' := by
  have hb0 := (Below.refl w.heap.size w).alloc (Nat.le_refl _) (.cells #[.int .i64 p, .int .i64 c, .int .i64 m] 26)
  have bx := heap_alloc_new w (.cells #[.int .i64 p, .int .i64 c, .int .i64 m] 26)
  go_enter Tryd.func7, Tryd.ntmps7
  go_upto_region 1 with fail
  generalize w.alloc (.cells #[.int .i64 p, .int .i64 c, .int .i64 m] 26) = W at *
  obtain ⟨H, hH, hH'⟩ : ∃ H, Hid (H = w.heap.size) ∧ H = w.heap.size := ⟨_, Lib.hid rfl, rfl⟩
  rw [← hH'] at bx ⊢
  clear hH'
  have hL := h.below hb0
  have l0 : H < W.heap.size := (Array.getElem?_eq_some_iff.1 bx).1
  have haw := Lib.hid (awake25_any W hL)
  go_upto_region 3 with (go_at_call 8; refine haw.out.mono ?_; rintro r w1 ⟨rfl, hb1⟩)
  have hB := Lib.hid (hb0.trans (hb1.mono hb0.size))
  have bx1 := (hb1.block H l0).trans bx
  have hr1 := hr.below hB.out
  have hL1 := h.below hB.out
  have l1 : H < w1.heap.size := (Array.getElem?_eq_some_iff.1 bx1).1
  have hroom := Lib.hid (room22_any l v 300 w1 hr1)
  clear hL bx hb1 hb0 l0 haw hr h
  by_cases hn : l.length ≤ 300
  case neg =>
    have hd : decide (l.length ≤ 300) = false := by simpa using hn
    rw [hd] at hroom
    clear hd
    go_wp2_with (go_at_call 9; refine hroom.out.mono ?_; rintro r w2 ⟨rfl, hw⟩; obtain rfl := hw.symm)
    go_ret
    exact ⟨rfl, hB.out⟩
  have hd : decide (l.length ≤ 300) = true := by simpa using hn
  rw [hd] at hroom
  clear hd
  go_upto_region 5 with (go_at_call 9; refine hroom.out.mono ?_; rintro r w2 ⟨rfl, hw⟩; obtain rfl := hw.symm)
  have hch := Lib.hid (fun X (hX : Below w1.heap.size w1 X) => (choices_any l v X (hr1.below hX) (by omega)).mono (R' := fun e w' => ∃ v', e = .returned v' ∧ Below X.heap.size X w' ∧ RdC w' v' l) fun _ _ ⟨v', h1, h2, h3⟩ => ⟨v', h1, h2, h3.rd⟩)
  have hpr := Lib.hid (fun X v' (hX : Below w1.heap.size w1 X) (hv : RdC X v' l) => print_any p c m hp hc hm l v' X hv hf (by omega) (small_text hp hc hm hf (by omega)) (hL1.below hX))
  have hK : Hid (∀ X, Below w1.heap.size w1 X → X.cell? ⟨H, 0, .none⟩ = some (.int .i64 p) ∧ X.cell? ⟨H, 1, .none⟩ = some (.int .i64 c) ∧ X.cell? ⟨H, 2, .none⟩ = some (.int .i64 m)) := Lib.hid fun X hX =>
    ⟨(cell_blk (hX.block H l1)).trans (rowCells bx1 0), (cell_blk (hX.block H l1)).trans (rowCells bx1 1), (cell_blk (hX.block H l1)).trans (rowCells bx1 2)⟩
  obtain ⟨y0, y1, y2⟩ := hK.out w1 (Below.refl _ _)
  replace hL1 := Lib.hid hL1
  replace hr1 := Lib.hid hr1
  clear bx1 hroom
  have hPO : Hid (printO p c m l = match showsO l with | some t => (headL p c m ++ t, 0) | none => ([], 1)) := Lib.hid rfl
  generalize printO p c m l = PO at *
  go_region_held3 (fun X => X.cell? ⟨H, 0, .none⟩ = some (.int .i64 p) ∧ X.cell? ⟨H, 1, .none⟩ = some (.int .i64 c) ∧ X.cell? ⟨H, 2, .none⟩ = some (.int .i64 m))
    (first | exact hK.out _ (by go_grown) | fail)
    (first
      | (go_at_call 13; refine (hch.out _ (by go_grown)).mono ?_; rintro e w2 ⟨v', rfl, hb2, hv2⟩; have hB2 := belowTrans (w := w1) (by go_grown) hb2; have hS2 := hB2.size)
      | (go_at_call 12; refine (hpr.out _ _ (by go_grown) (by exact hv2)).mono ?_; rintro e w3 ⟨rfl, hb3⟩; have hB3 := belowTrans (w := w1) (by go_grown) hb3; have hS3 := hB3.size) | fail)
  obtain ⟨PL, PE⟩ := PO
  dsimp only
  clear hpr hch hv2 hb2 hb3 hB2 hS2 hS3 y0 y1 y2
  cases hsh : showsO l with
  | none =>
    have hPO' := hPO.out
    rw [hsh] at hPO'
    injection hPO' with e1 e2
    subst e2
    clear hPO hsh hK
    go_wp2_with fail
    go_ret
    exact ⟨rfl, hB.out.trans (hB3.mono hB.out.size)⟩
  | some t =>
    have hPO' := hPO.out
    rw [hsh] at hPO'
    injection hPO' with e1 e2
    have hlen := small_text hp hc hm hf (by omega) l.length t (by rw [List.take_length]; exact hsh)
    have hpp := parse_print hp hc hm hf hsh hlen (by omega)
    rw [← e1] at hlen hpp
    subst e2
    have hpa := parse_any PL (by omega) w3 (hL1.out.below hB3)
    rw [hpp] at hpa
    replace hpa := Lib.hid hpa
    have hmem := Lib.hid (shows_mem hsh)
    clear hPO hsh hlen hpp e1
    go_upto_region 9 with (go_at_call 11; refine hpa.out.mono ?_; rintro r w4 ⟨⟨v4, rfl, hr4⟩, hb4⟩)
    replace hr4 : RdC w4 v4 (l.map Ch.norm) := hr4
    clear hpa
    obtain ⟨a4, cap4, e4, hcap4, -, -⟩ := id hr4
    rw [List.length_map] at e4 hcap4
    obtain ⟨a0, cap0, e0, -, -, -⟩ := id hr1.out
    subst e4 e0
    obtain ⟨n, hnn, hnn'⟩ : ∃ n, Hid (n = l.length) ∧ n = l.length := ⟨_, Lib.hid rfl, rfl⟩
    simp only [← hnn'] at hr4 hr1 hn hcap4 ⊢
    clear hnn'
    have hB4 := hB3.trans (hb4.mono hB3.size)
    have hZ := (Below.refl w4.heap.size w4).alloc (Nat.le_refl _) (.cells #[.int .i64 p, .int .i64 c, .int .i64 m] 26)
    have bz := heap_alloc_new w4 (.cells #[.int .i64 p, .int .i64 c, .int .i64 m] 26)
    have hB5 := hB4.trans (hZ.mono hB4.size)
    have hr5 := hr4.below hZ
    have hr6 := hr1.out.below hB5
    generalize w4.alloc (.cells #[.int .i64 p, .int .i64 c, .int .i64 m] 26) = Z at *
    obtain ⟨k0, k1, k2⟩ := hK.out Z hB5
    have z0 : Z.cell? ⟨w4.heap.size, 0, .none⟩ = some (.int .i64 p) := rowCells bz 0
    have z1 : Z.cell? ⟨w4.heap.size, 1, .none⟩ = some (.int .i64 c) := rowCells bz 1
    have z2 : Z.cell? ⟨w4.heap.size, 2, .none⟩ = some (.int .i64 m) := rowCells bz 2
    have hend := Lib.hid (hB.out.trans (hB5.mono hB.out.size))
    replace hr5 := Lib.hid hr5
    replace hr6 := Lib.hid hr6
    clear bz hZ hB5 hB4 hb4 hr4 hr1 hK hL1 hB3 hB
    go_wp2_with fail
    go_loopw [11, 12] (fun v11 _ wr => ∃ i : Nat, v11 = .int .i64 i ∧ i ≤ n ∧ Below Z.heap.size Z wr) (fun v11 _ _ => n - (intOf v11).toNat)
    case atStart => exact ⟨0, rfl, by omega, Below.refl _ _⟩
    case round =>
      obtain ⟨i, rfl, hi, hY⟩ := hrel
      obtain ⟨Y, rfl⟩ : ∃ V : World, V = wr := ⟨_, rfl⟩
      by_cases hlt : i < n
      · have hlt' : (i : Int) < (n : Int) := by omega
        have hi0 : (0 : Int) ≤ (i : Int) := by omega
        have hit : ((i : Int)).toNat = i := by omega
        have hit1 : ((i : Int) + 1).toNat = i + 1 := by omega
        have hi1 : (0 : Int) ≤ (i : Int) + 1 := by omega
        have hin : (i : Int) + 1 ≤ (n : Int) := by omega
        have hii : (i : Int) ≤ (i : Int) + 1 := by omega
        have wi1 : IntKind.i64.wrap ((i : Int) + 1) = (i : Int) + 1 := IntWalk.i64_in _ ⟨by omega, by omega⟩
        have hil : i < l.length := by have := hnn.out; omega
        obtain ⟨b, off, ea, hbl, x0, x1, x2, x3, x4, x5⟩ := (hr6.out.below hY).nth i hil
        obtain ⟨s, hs⟩ := hmem.out l[i] (List.getElem_mem hil)
        have hcw := hf l[i] (List.getElem_mem hil)
        have hct := (hr5.out.below hY).cut (l := i) (h := i + 1) (by omega) (by omega)
        have hone : ((l.map Ch.norm).drop i).take (i + 1 - i) = [(l[i]).norm] := by
          rw [show i + 1 - i = 1 by omega, List.drop_eq_getElem_cons (by simpa using hil)]
          simp
        rw [hone] at hct
        have hsb := Lib.hid (same_bare hs)
        have hkd := Lib.hid (show_kind hs)
        have fn := Lib.hid (norm_fit hcw)
        have fb := Lib.hid (bare_fit hcw)
        have hic : (i : Int) + 1 ≤ (cap4 : Int) := by omega
        subst ea
        generalize l[i] = cc at *
        clear hs hcw hone hil
        clear s
        go_upto_region 15 with fail
        have bd := heap_alloc_new Y (.cells #[.int .i64 cc.kind, .int .i64 cc.client, .int .i64 cc.ok, .int .i64 cc.oa, .int .i64 cc.on, .float .f64 cc.bias] 45)
        have hV := (Below.refl Y.heap.size Y).alloc (Nat.le_refl _) (.cells #[.int .i64 cc.kind, .int .i64 cc.client, .int .i64 cc.ok, .int .i64 cc.oa, .int .i64 cc.on, .float .f64 cc.bias] 45)
        generalize Y.alloc (.cells #[.int .i64 cc.kind, .int .i64 cc.client, .int .i64 cc.ok, .int .i64 cc.oa, .int .i64 cc.on, .float .f64 cc.bias] 45) = V at *
        obtain ⟨D, hD, hD'⟩ : ∃ D, Hid (D = Y.heap.size) ∧ D = Y.heap.size := ⟨_, Lib.hid rfl, rfl⟩
        simp only [← hD'] at bd ⊢
        have hYD : Y.heap.size ≤ D := Nat.le_of_eq hD'.symm
        clear hD'
        have j0 : V.cell? ⟨D, 0, .none⟩ = some (.int .i64 cc.kind) := rowCells bd 0
        have j1 : V.cell? ⟨D, 1, .none⟩ = some (.int .i64 cc.client) := rowCells bd 1
        have j2 : V.cell? ⟨D, 2, .none⟩ = some (.int .i64 cc.ok) := rowCells bd 2
        have j3 : V.cell? ⟨D, 3, .none⟩ = some (.int .i64 cc.oa) := rowCells bd 3
        have j4 : V.cell? ⟨D, 4, .none⟩ = some (.int .i64 cc.on) := rowCells bd 4
        have j5 : V.cell? ⟨D, 5, .none⟩ = some (.float .f64 cc.bias) := rowCells bd 5
        have jf := rowFree bd
        go_upto_if 64 with fail
        go_cut [] (fun wx => wx.heap[D]? = some (.cells #[.int .i64 cc.kind, .int .i64 cc.client, .int .i64 cc.bare.ok, .int .i64 cc.bare.oa, .int .i64 cc.bare.on, .float .f64 cc.bias] 45 (0, 0)) ∧ Below Y.heap.size Y wx)
        case first =>
          by_cases hk2 : cc.kind = 2
          · have e1 : (cc.kind == 2) = true := by simp [hk2]
            have e2 : (cc.kind != 2) = false := by simp [hk2]
            replace hk2 := Lib.hid hk2
            go_wp2_with fail
            go_meet
            refine ⟨?_, hV⟩
            rw [bd]
            simp only [Ch.bare, if_pos hk2.out]
          · have e1 : (cc.kind == 2) = false := by simp [hk2]
            have e2 : (cc.kind != 2) = true := by simp [hk2]
            replace hk2 := Lib.hid hk2
            go_wp2_with fail
            go_meet
            refine ⟨?_, ((hV.setCell hYD _).setCell hYD _).setCell hYD _⟩
            rw [heap_setCell_same _ D 4 _ _ _ (heap_setCell_same _ D 3 _ _ _ (heap_setCell_same _ D 2 _ _ _ bd))]
            simp only [Ch.bare, if_neg hk2.out]
            rfl
        case rest =>
          obtain ⟨bd2, hV2⟩ := hcut
          clear bd hV j0 j1 j2 j3 j4 j5 jf
          obtain ⟨V2, rfl⟩ : ∃ X : World, X = wc := ⟨_, rfl⟩
          have j0 : V2.cell? ⟨D, 0, .none⟩ = some (.int .i64 cc.kind) := rowCells bd2 0
          have j5 : V2.cell? ⟨D, 5, .none⟩ = some (.float .f64 cc.bias) := rowCells bd2 5
          have jf := rowFree bd2
          go_upto_if 69 with fail
          go_cut [] (fun wx => wx.heap[D]? = some (.cells #[.int .i64 cc.kind, .int .i64 cc.client, .int .i64 cc.bare.ok, .int .i64 cc.bare.oa, .int .i64 cc.bare.on, .float .f64 cc.bare.bias] 45 (0, 0)) ∧ Below Y.heap.size Y wx)
          case first =>
            by_cases hk1 : cc.kind = 1
            · have e1 : (cc.kind == 1) = true := by simp [hk1]
              have e2 : (cc.kind != 1) = false := by simp [hk1]
              replace hk1 := Lib.hid hk1
              go_wp2_with fail
              go_meet
              refine ⟨?_, hV2⟩
              rw [bd2]
              simp only [Ch.bare, if_pos hk1.out]
            · have e1 : (cc.kind == 1) = false := by simp [hk1]
              have e2 : (cc.kind != 1) = true := by simp [hk1]
              replace hk1 := Lib.hid hk1
              go_wp2_with fail
              go_meet
              refine ⟨?_, hV2.setCell hYD _⟩
              rw [heap_setCell_same _ D 5 _ _ _ bd2]
              simp only [Ch.bare, if_neg hk1.out]
              rfl
          case rest =>
            obtain ⟨bd3, hV3⟩ := hcut
            clear bd2 hV2 j0 j5 jf
            obtain ⟨V3, rfl⟩ : ∃ X : World, X = wc := ⟨_, rfl⟩
            have hD3 : D < V3.heap.size := (Array.getElem?_eq_some_iff.1 bd3).1
            have hKx : Hid (∀ X, Below V3.heap.size V3 X → X.cell? ⟨D, 0, .none⟩ = some (.int .i64 cc.kind) ∧ X.cell? ⟨D, 1, .none⟩ = some (.int .i64 cc.client) ∧ X.cell? ⟨D, 2, .none⟩ = some (.int .i64 cc.bare.ok) ∧ X.cell? ⟨D, 3, .none⟩ = some (.int .i64 cc.bare.oa) ∧ X.cell? ⟨D, 4, .none⟩ = some (.int .i64 cc.bare.on) ∧ X.cell? ⟨D, 5, .none⟩ = some (.float .f64 cc.bare.bias)) := Lib.hid fun X hX =>
              have e := hX.block D hD3
              ⟨(cell_blk e).trans (rowCells bd3 0), (cell_blk e).trans (rowCells bd3 1), (cell_blk e).trans (rowCells bd3 2), (cell_blk e).trans (rowCells bd3 3), (cell_blk e).trans (rowCells bd3 4), (cell_blk e).trans (rowCells bd3 5)⟩
            obtain ⟨j0, j1, j2, j3, j4, j5⟩ := hKx.out V3 (Below.refl _ _)
            have hct3 := hct.below hV3
            have hbk := Lib.hid (fun X (hX : Below V3.heap.size V3 X) => (back_any _ _ X (hct3.below hX) (by simp)).mono (R' := fun e w' => ∃ v', e = .returned v' ∧ Below X.heap.size X w' ∧ RdC w' v' [cc.norm]) fun _ _ ⟨v', h1, h2, h3⟩ => ⟨v', h1, h2, h3.rd⟩)
            have hsm := Lib.hid (fun X u1 u2 (h1 : RdC X u1 [cc.norm]) (h2 : RdC X u2 [cc.bare]) => (refSame_row _ _ u1 u2 X h1 h2 (by simpa using fn.out) (by simpa using fb.out)).mono (R' := fun e w' => e = .returned (.bool true) ∧ Below X.heap.size X w') fun _ _ ⟨h3, h4⟩ => ⟨by rw [h3, hsb.out], h4⟩)
            have hnew : Hid (∀ X : World, RdC (X.alloc (.cells #[.int .i64 cc.kind, .int .i64 cc.client, .int .i64 cc.bare.ok, .int .i64 cc.bare.oa, .int .i64 cc.bare.on, .float .f64 cc.bare.bias] 45)) (.slice (some ⟨X.heap.size, 0, .none⟩) 1 1) [cc.bare]) := Lib.hid fun X => (RdS.new (sz := 6) (n := 1) (heap_alloc_new X _) rfl (by omega)).c
            have hal := Lib.hid (fun (X : World) o => (Below.refl X.heap.size X).alloc (Nat.le_refl _) o)
            replace hct := Lib.hid hct
            replace hct3 := Lib.hid hct3
            generalize hq2 : cc.bare.ok = q2 at *
            generalize hq3 : cc.bare.oa = q3 at *
            generalize hq4 : cc.bare.on = q4 at *
            generalize hq5 : cc.bare.bias = q5 at *
            clear bd3 hq2 hq3 hq4 hq5 hkd fn fb hsb
            go_upto_region 19 with fail
            go_region_held3 (fun X => X.cell? ⟨D, 0, .none⟩ = some (.int .i64 cc.kind) ∧ X.cell? ⟨D, 1, .none⟩ = some (.int .i64 cc.client) ∧ X.cell? ⟨D, 2, .none⟩ = some (.int .i64 q2) ∧ X.cell? ⟨D, 3, .none⟩ = some (.int .i64 q3) ∧ X.cell? ⟨D, 4, .none⟩ = some (.int .i64 q4) ∧ X.cell? ⟨D, 5, .none⟩ = some (.float .f64 q5))
              (first | exact hKx.out _ (by go_grown) | fail)
              (first
                | (go_at_call 18; refine (hbk.out _ (by go_grown)).mono ?_; rintro e wb ⟨vb, rfl, hbb, hvb⟩; have hBb := belowTrans (w := V3) (by go_grown) hbb; have hSb := hBb.size)
                | (go_at_call 17; refine (hsm.out _ _ _ (by first | exact hvb | exact hvb.below (hal.out _ _) | exact (hvb.below (hal.out _ _)).drew | exact hvb.drew.below (hal.out _ _)) (by first | exact hnew.out _ | exact (hnew.out _).below hbb | exact (hnew.out _).drew.below hbb | exact (hnew.out _).drew)).mono ?_; rintro e ws ⟨rfl, hbs⟩; have hBs := belowTrans (w := V3) (by go_grown) hbs; have hSs := hBs.size) | fail)
            all_goals go_wp2_with fail
            all_goals exact ⟨⟨i + 1, by go_num, by omega, hY.trans ((hV3.trans (hBs.mono hV3.size)).mono hY.size)⟩, by simp [intOf]; omega⟩
      · have hlt' : ¬ (i : Int) < (n : Int) := by omega
        go_wp2_with fail
        go_ret
        exact ⟨rfl, hend.out.trans (hY.mono hend.out.size)⟩
end Go.Proofs.YtkeiehgojclecaaDoor
