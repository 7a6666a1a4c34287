/- The walk of the law ScriptLines. -/
import Derived.Test.YtkeiehgojclecaaDoorScrRt

import Derived.Test.YtkeiehgojclecaaDoorScrJ

import Derived.Test.YtkeiehgojclecaaDoorScriptPrintsW

namespace Go.Proofs.YtkeiehgojclecaaDoor

open Go.RowKit

theorem showsO_append {l m : List Ch} {s t : List UInt8} (h1 : showsO l = some s) (h2 : showsO m = some t) : showsO (l ++ m) = some (s ++ t) := by
  induction l generalizing s with
  | nil => simp [showsO] at h1; subst h1; simpa using h2
  | cons c l ih =>
    obtain ⟨a, h3, h4⟩ := Option.bind_eq_some_iff.1 h1
    obtain ⟨u, h5, rfl⟩ := Option.map_eq_some_iff.1 h4
    rw [List.cons_append, showsO, h3, ih h5]
    simp
/-- The heap's line of one page and two clients. -/
abbrev h120 : List UInt8 := [104, 101, 97, 112, 32, 49, 32, 50, 32, 48]
theorem head120 : headL 1 2 0 = h120 ++ [10] := by
  have e1 : Lib.itoa 1 = [49] := ((numO_iff _ _).1 num1).1.symm
  have e0 : Lib.itoa 0 = [48] := ((numO_iff _ _).1 num0).1.symm
  have e2 : Lib.itoa 2 = [50] := by simp [Lib.itoa, Lib.decDigits]
  simp [headL, wordsL, e0, e1, e2]
theorem i64s : i64 1 ∧ i64 2 ∧ i64 0 := ⟨⟨by decide, by decide⟩, ⟨by decide, by decide⟩, ⟨by decide, by decide⟩⟩
theorem lines_plain {l : List Ch} (hl : ∀ c ∈ l, c.wf) (hn : l.length ≤ 200) {k : Nat} (hk : k ≤ l.length) {ts tt : List UInt8} (h1 : showsO (l.take k) = some ts) (h2 : showsO (l.drop k) = some tt)
    {bad : List UInt8} (hb : lineO bad = none) (hb10 : ∀ b ∈ bad, b ≠ 10) (hbl : bad.length ≤ 20) :
    (headL 1 2 0 ++ ts ++ tt).length ≤ 40000 ∧ parseO (headL 1 2 0 ++ ts ++ tt) = ((1, 2, 0), l.map Ch.norm, 0, 0) ∧ parseO (headL 1 2 0 ++ ts ++ (bad ++ 10 :: tt)) = ((0, 0, 0), [], (k : Int) + 2, 7) := by
  obtain ⟨i1, i2, i0⟩ := i64s
  have hl1 : ∀ c ∈ l.take k, c.wf := fun c hc => hl c (List.mem_of_mem_take hc)
  have hl2 : ∀ c ∈ l.drop k, c.wf := fun c hc => hl c (List.mem_of_mem_drop hc)
  have g1 := showsO_length hl1 h1
  have g2 := showsO_length hl2 h2
  have hh : (headL 1 2 0).length = 11 := by rw [head120]; rfl
  rw [List.length_take] at g1
  rw [List.length_drop] at g2
  have hk1 : min k l.length = k := by omega
  rw [hk1] at g1
  have hs := showsO_append h1 h2
  rw [List.take_append_drop] at hs
  refine ⟨by simp only [List.length_append, hh]; omega, ?_, ?_⟩
  · rw [List.append_assoc]
    exact parse_print i1 i2 i0 hl hs (by simp only [List.length_append, hh]; omega) (by omega)
  · have hr : spl 10 (bad ++ 10 :: tt) = bad :: spl 10 tt := spl_cut hb10 tt
    obtain ⟨ps, k1, k2, _⟩ := spl_shows hl2 h2 []
    rw [List.append_nil] at k2
    have hsz : (spl 10 tt).length = (l.drop k).length + 1 := by rw [k2, List.length_append, k1]; rfl
    rw [List.length_drop] at hsz
    rw [parse_head i1 i2 i0 hl1 h1 (bad ++ 10 :: tt) (by simp only [List.length_append, List.length_cons, hh]; omega) (by rw [hr, List.length_cons, List.length_take, hsz]; omega), hr]
    obtain ⟨q, qs, hq⟩ : ∃ q qs, spl 10 tt = q :: qs := List.exists_cons_of_ne_nil (spl_ne 10 tt)
    rw [hq, goO, if_neg (by omega), hb, List.length_take, hk1]
    dsimp only
    congr 3
    omega
theorem num_none {l : List UInt8} (h : ∀ z : Int, Lib.itoa z ≠ l) : numO l = none := by
  cases e : numO l with
  | none => rfl
  | some z => exact absurd ((numO_iff _ _).1 e).1.symm (h z)
/-- The ten lines. -/
def badL : List (List UInt8) := [[115, 116, 101, 112], [], [107, 105, 108, 108, 32, 49, 32, 50], [115, 116, 97, 114, 116, 32, 48, 32, 49], [109, 97, 108, 108, 111, 99, 32, 49], [102, 114, 101, 101, 32, 49, 32, 43, 50], [32, 115, 116, 101, 112, 32, 49], [114, 101, 97, 108, 108, 111, 99, 32, 49, 32, 50], [115, 116, 111, 112, 32, 49], [97, 100, 111, 112, 116, 32, 48, 32, 48, 48]]
theorem num_plus : numO [43, 50] = none := by decide +kernel
theorem num_00 : numO [48, 48] = none := by decide +kernel
theorem rd_1 : rdO [49] = none := by decide +kernel
theorem bad_line (b : List UInt8) (h : b ∈ badL) : lineO b = none := by
  have s1 : spl 32 [115, 116, 101, 112] = [[115, 116, 101, 112]] := by decide +kernel
  have s2 : spl 32 [] = [[]] := by decide +kernel
  have s3 : spl 32 [107, 105, 108, 108, 32, 49, 32, 50] = [[107, 105, 108, 108], [49], [50]] := by decide +kernel
  have s4 : spl 32 [115, 116, 97, 114, 116, 32, 48, 32, 49] = [[115, 116, 97, 114, 116], [48], [49]] := by decide +kernel
  have s5 : spl 32 [109, 97, 108, 108, 111, 99, 32, 49] = [[109, 97, 108, 108, 111, 99], [49]] := by decide +kernel
  have s6 : spl 32 [102, 114, 101, 101, 32, 49, 32, 43, 50] = [[102, 114, 101, 101], [49], [43, 50]] := by decide +kernel
  have s7 : spl 32 [32, 115, 116, 101, 112, 32, 49] = [[], [115, 116, 101, 112], [49]] := by decide +kernel
  have s8 : spl 32 [114, 101, 97, 108, 108, 111, 99, 32, 49, 32, 50] = [[114, 101, 97, 108, 108, 111, 99], [49], [50]] := by decide +kernel
  have s9 : spl 32 [115, 116, 111, 112, 32, 49] = [[115, 116, 111, 112], [49]] := by decide +kernel
  have s10 : spl 32 [97, 100, 111, 112, 116, 32, 48, 32, 48, 48] = [[97, 100, 111, 112, 116], [48], [48, 48]] := by decide +kernel
  unfold badL at h
  simp only [List.mem_cons, List.not_mem_nil, or_false] at h
  rcases h with rfl | rfl | rfl | rfl | rfl | rfl | rfl | rfl | rfl | rfl <;> unfold lineO
  · rw [s1]; simp [wordsO, oneO]
  · rw [s2]; simp [wordsO]
  · rw [s3]; simp [wordsO, oneO]
  · rw [s4]; simp [wordsO, startO, rd_1]
  · rw [s5]; simp [wordsO, opO]
  · rw [s6]; simp [wordsO, opO, numsO, num_plus]
  · rw [s7]; simp [wordsO]
  · rw [s8]; simp [wordsO, opO]
  · rw [s9]; simp [wordsO]
  · rw [s10]; simp [wordsO, opO, numsO, num_00]
open Fl

attribute [local go_sem ↓] Go.wp_at_zero Go.wp_at_succ

attribute [local go_sem high] run_cut_l run_cut_h run_cut_lh

theorem bd_u8 {a : Int} (h : (Lit.int .u8 a).wf = true) : 0 ≤ a ∧ a < 256 := by
  simp [Lit.wf, IntKind.min, IntKind.max, IntKind.signed, IntKind.bits] at h
  omega
theorem S_get (l : List UInt8) (i : Nat) (h : i < (S l).size) : (S l)[i] = l[i]'(by rw [S_size] at h; exact h) := rfl
theorem head_ten (i : Nat) (hi : i ≤ 10) (tt : List UInt8) (h : i < (h120 ++ 10 :: tt).length) : ((((h120 ++ 10 :: tt)[i]'h).toNat : Int) != 10) = decide (i ≠ 10) := by
  match i, hi with
  | 0, _ => rfl
  | 1, _ => rfl
  | 2, _ => rfl
  | 3, _ => rfl
  | 4, _ => rfl
  | 5, _ => rfl
  | 6, _ => rfl
  | 7, _ => rfl
  | 8, _ => rfl
  | 9, _ => rfl
  | 10, _ => rfl
theorem S_cut (l : List UInt8) (a b : Nat) : (S l).extract a b = S ((l.drop a).take (b - a)) := by
  apply ByteArray.ext
  rw [ByteArray.data_extract]
  simp [List.extract_eq_take_drop]
set_option maxRecDepth 100000 in
set_option maxHeartbeats 2000000 in
theorem slines_any (l : List Ch) (v : Value) (at0 kd : Nat) (h8 : at0 < 256) (hk8 : kd < 256) (w : World) (hr : RdC w v l) (hf : ∀ c ∈ l, c.wf) (h : Laid w) :
    Calls Tryd.prog 3 #[v, .int .u8 at0, .int .u8 kd] w fun e w' => e = .returned (.bool true) ∧ Below w.heap.size w w' := by
  have haw := Lib.hid (awake25_any w h)
  go_enter Tryd.func3, Tryd.ntmps3
  go_upto_region 3 with (go_at_call 8; refine haw.out.mono ?_; rintro r w1 ⟨rfl, hb1⟩)
  have hB := Lib.hid hb1
  have hr1 := hr.below hb1
  have hL1 := h.below hb1
  have hroom := Lib.hid (room22_any l v 200 w1 hr1)
  clear haw hr h hb1
  by_cases hn : l.length ≤ 200
  case neg =>
    have hd : decide (l.length ≤ 200) = false := by simpa using hn
    rw [hd] at hroom
    clear hd
    go_wp2_with (go_at_call 9; refine hroom.out.mono ?_; rintro r w2 ⟨rfl, hw⟩; obtain rfl := hw.symm)
    go_ret
    exact ⟨rfl, hB.out⟩
  have hd : decide (l.length ≤ 200) = true := by simpa using hn
  rw [hd] at hroom
  clear hd
  go_upto_region 5 with (go_at_call 9; refine hroom.out.mono ?_; rintro r w2 ⟨rfl, hw⟩; obtain rfl := hw.symm)
  obtain ⟨a0, cap0, e0, hcap0, -, -⟩ := id hr1
  subst e0
  obtain ⟨n, hnn, hnn'⟩ : ∃ n, Hid (n = l.length) ∧ n = l.length := ⟨_, Lib.hid rfl, rfl⟩
  simp only [← hnn'] at hr1 hn hcap0 ⊢
  clear hnn' hroom
  have wa : IntKind.i64.wrap (at0 : Int) = (at0 : Int) := IntWalk.i64_in _ ⟨by omega, by omega⟩
  have wn : IntKind.i64.wrap ((n : Int) + 1) = (n : Int) + 1 := IntWalk.i64_in _ ⟨by omega, by omega⟩
  have nz : ((n : Int) + 1 == 0) = false := by simp; omega
  go_upto_region 6 with fail
  have ek : ((at0 : Int) % ((n : Int) + 1)) = ((at0 % (n + 1) : Nat) : Int) := by simp
  have hkn : at0 % (n + 1) ≤ n := by have := Nat.mod_lt at0 (show n + 1 > 0 by omega); omega
  rw [ek]
  clear ek
  generalize at0 % (n + 1) = k at *
  go_upto_region 7 with fail
  have bx := heap_alloc_new w1 (.cells #[.int .i64 1, .int .i64 2, .int .i64 0] 26)
  have hW := (Below.refl w1.heap.size w1).alloc (Nat.le_refl _) (.cells #[.int .i64 1, .int .i64 2, .int .i64 0] 26)
  generalize w1.alloc (.cells #[.int .i64 1, .int .i64 2, .int .i64 0] 26) = W at *
  obtain ⟨H, hH, hH'⟩ : ∃ H, Hid (H = w1.heap.size) ∧ H = w1.heap.size := ⟨_, Lib.hid rfl, rfl⟩
  simp only [← hH'] at bx ⊢
  clear hH'
  have hrW := hr1.below hW
  have hLW := hL1.below hW
  have hBW := Lib.hid (hB.out.trans (hW.mono hB.out.size))
  have l1 : H < W.heap.size := (Array.getElem?_eq_some_iff.1 bx).1
  have r1 := hrW.cut (l := 0) (h := k) (by omega) hkn
  have r2 := hrW.cut (l := k) (h := n) hkn (by omega)
  rw [List.drop_zero, Nat.sub_zero] at r1
  have e2 : (l.drop k).take (n - k) = l.drop k := List.take_of_length_le (by rw [List.length_drop, ← hnn.out]; exact Nat.le_refl _)
  rw [e2] at r2
  clear e2
  obtain ⟨i1, i2, i0⟩ := i64s
  have hl1 : ∀ c ∈ l.take k, c.wf := fun c hc => hf c (List.mem_of_mem_take hc)
  have hl2 : ∀ c ∈ l.drop k, c.wf := fun c hc => hf c (List.mem_of_mem_drop hc)
  have z1 : (l.take k).length ≤ 200 := by rw [List.length_take]; have := hnn.out; omega
  have z2 : (l.drop k).length ≤ 200 := by rw [List.length_drop]; have := hnn.out; omega
  have hp1 := Lib.hid (fun X (hX : Below W.heap.size W X) => rprint_any 1 2 0 i1 i2 i0 _ _ X (r1.below hX) hl1 (by omega) (small_text i1 i2 i0 hl1 (by omega)))
  have hp2 := Lib.hid (fun X (hX : Below W.heap.size W X) => rprint_any 1 2 0 i1 i2 i0 _ _ X (r2.below hX) hl2 (by omega) (small_text i1 i2 i0 hl2 (by omega)))
  have hK : Hid (∀ X, Below W.heap.size W X → X.cell? ⟨H, 0, .none⟩ = some (.int .i64 1) ∧ X.cell? ⟨H, 1, .none⟩ = some (.int .i64 2) ∧ X.cell? ⟨H, 2, .none⟩ = some (.int .i64 0)) := Lib.hid fun X hX =>
    ⟨(cell_blk (hX.block H l1)).trans (rowCells bx 0), (cell_blk (hX.block H l1)).trans (rowCells bx 1), (cell_blk (hX.block H l1)).trans (rowCells bx 2)⟩
  obtain ⟨y0, y1, y2⟩ := hK.out W (Below.refl _ _)
  have hPO1 : Hid (printO 1 2 0 (l.take k) = match showsO (l.take k) with | some t => (headL 1 2 0 ++ t, 0) | none => ([], 1)) := Lib.hid rfl
  have hPO2 : Hid (printO 1 2 0 (l.drop k) = match showsO (l.drop k) with | some t => (headL 1 2 0 ++ t, 0) | none => ([], 1)) := Lib.hid rfl
  generalize printO 1 2 0 (l.take k) = PO1 at *
  generalize printO 1 2 0 (l.drop k) = PO2 at *
  have kk0 : (0 : Int) ≤ (k : Int) := by omega
  have kk1 : (k : Int) ≤ (n : Int) := by omega
  have kk2 : (k : Int) ≤ (cap0 : Int) := by omega
  have kk3 : ((k : Int)).toNat = k := by omega
  replace hLW := Lib.hid hLW
  replace hrW := Lib.hid hrW
  replace r1 := Lib.hid r1
  replace r2 := Lib.hid r2
  clear hr1 hL1 hW hB bx z1 z2 hl1 hl2
  go_region_held3 (fun X => X.cell? ⟨H, 0, .none⟩ = some (.int .i64 1) ∧ X.cell? ⟨H, 1, .none⟩ = some (.int .i64 2) ∧ X.cell? ⟨H, 2, .none⟩ = some (.int .i64 0))
    (first | exact hK.out _ (by go_grown) | fail)
    (first
      | (go_at_call 10; refine (hp1.out _ (by go_grown)).mono ?_; rintro e w2 ⟨rfl, hb2⟩; have hB2 := belowTrans (w := W) (by go_grown) hb2; have hS2 := hB2.size) | fail)
  obtain ⟨q0, q1, q2⟩ := hK.out w2 hB2
  have hp3 := Lib.hid (fun X (hX : Below w2.heap.size w2 X) => hp2.out X (hB2.trans (hX.mono hB2.size)))
  have hK2 := Lib.hid (fun X (hX : Below w2.heap.size w2 X) => hK.out X (hB2.trans (hX.mono hB2.size)))
  clear hp1 hp2 hK y0 y1 y2 hb2 hS2
  go_upto_region 8 with fail
  go_region_held3 (fun X => X.cell? ⟨H, 0, .none⟩ = some (.int .i64 1) ∧ X.cell? ⟨H, 1, .none⟩ = some (.int .i64 2) ∧ X.cell? ⟨H, 2, .none⟩ = some (.int .i64 0))
    (first | exact hK2.out _ (by go_grown) | fail)
    (first
      | (go_at_call 10; refine (hp3.out _ (by go_grown)).mono ?_; rintro e w3 ⟨rfl, hb3⟩; have hB3 := belowTrans (w := w2) (by go_grown) hb3; have hS3 := hB3.size) | fail)
  obtain ⟨P1, E1⟩ := PO1
  obtain ⟨P2, E2⟩ := PO2
  dsimp only
  have hB4 := hB2.trans (hB3.mono hB2.size)
  clear hp3 hK2 q0 q1 q2 hb3 hS3 hB3 hB2
  have hend := Lib.hid (hBW.out.trans (hB4.mono hBW.out.size))
  cases hs1 : showsO (l.take k) with
  | none =>
    have e := hPO1.out
    rw [hs1] at e
    injection e with e1 e2
    subst e2
    clear hPO1 hPO2 hs1 e1
    go_wp2_with fail
    go_ret
    exact ⟨rfl, hend.out⟩
  | some ts =>
  have e := hPO1.out
  rw [hs1] at e
  injection e with eP1 e2
  subst e2
  cases hs2 : showsO (l.drop k) with
  | none =>
    have e := hPO2.out
    rw [hs2] at e
    injection e with e1 e2
    subst e2
    clear hPO1 hPO2 hs1 hs2 e1 eP1
    go_wp2_with fail
    go_ret
    exact ⟨rfl, hend.out⟩
  | some tt =>
  have e := hPO2.out
  rw [hs2] at e
  injection e with eP2 e2
  subst e2
  have hpl := fun bad hb hb10 hbl => lines_plain hf (by rw [← hnn.out]; exact hn) (by rw [← hnn.out]; exact hkn) hs1 hs2 (bad := bad) hb hb10 hbl
  clear hPO1 hPO2 hs1 hs2
  obtain ⟨hlen, hgood, _⟩ := hpl [] (bad_line _ (by simp [badL])) (by simp) (by simp)
  have hbad := Lib.hid (fun bad hb hb10 hbl => (hpl bad hb hb10 hbl).2.2)
  clear hpl
  have e1 : headL 1 2 0 ++ ts ++ tt = P1 ++ tt := by rw [eP1]
  have e3 : P2 = h120 ++ 10 :: tt := by rw [eP2, head120]; simp
  have hlen2 : P1.length + P2.length ≤ 50000 := by
    rw [e1, List.length_append] at hlen
    have e4 : P2.length = 11 + tt.length := by rw [e3]; simp; omega
    omega
  rw [e1] at hgood hlen
  have hsz1 : (S P1).size = P1.length := S_size P1
  have hsz2 : (S P2).size = P2.length := S_size P2
  replace hgood := Lib.hid hgood
  replace eP1 := Lib.hid eP1
  replace eP2 := Lib.hid eP2
  replace hlen := Lib.hid hlen
  replace e3 := Lib.hid e3
  clear e1
  obtain ⟨M1, hM1, hM1'⟩ : ∃ M, Hid (M = P1.length) ∧ M = P1.length := ⟨_, Lib.hid rfl, rfl⟩
  obtain ⟨M2, hM2, hM2'⟩ : ∃ M, Hid (M = P2.length) ∧ M = P2.length := ⟨_, Lib.hid rfl, rfl⟩
  rw [← hM1'] at hsz1 hlen2
  rw [← hM2'] at hsz2 hlen2
  clear hM1' hM2'
  have hM11 : 11 ≤ M2 := by rw [hM2.out, e3.out]; simp
  have wM : IntKind.i64.wrap ((M1 : Int) + (M2 : Int)) = (M1 : Int) + (M2 : Int) := IntWalk.i64_in _ ⟨by omega, by omega⟩
  have hgt : ¬ (50000 : Int) < (M1 : Int) + (M2 : Int) := by omega
  go_upto_block 0 with fail
  go_cut [13] (fun s wx => s = .int .i64 10 ∧ wx = w3)
  case first =>
    go_wp2_with fail
    go_loopw [13] (fun v13 wr => ∃ i : Nat, v13 = .int .i64 i ∧ i ≤ 10 ∧ wr = w3) (fun v13 _ => 10 - (intOf v13).toNat)
    case atStart => exact ⟨0, rfl, by omega, rfl⟩
    case round =>
      obtain ⟨i, rfl, hi, rfl⟩ := hrel
      have hlt : (i : Int) < (M2 : Int) := by omega
      have hi0 : (0 : Int) ≤ (i : Int) := by omega
      have hit : ((i : Int)).toNat = i := by omega
      have wi1 : IntKind.i64.wrap ((i : Int) + 1) = (i : Int) + 1 := IntWalk.i64_in _ ⟨by omega, by omega⟩
      have hx : ∀ h : i < (S P2).size, ((((S P2)[i]'h).toNat : Int) != 10) = decide (i ≠ 10) := by
        rw [e3.out]
        exact fun h => head_ten i hi tt _
      replace hx := Lib.hid hx
      have hP2 : i < (S P2).size := by omega
      go_wp2_with fail
      case roundEnd =>
        rename_i hq
        rw [hx.out hP2] at hq
        have hq2 : i ≠ 10 := of_decide_eq_true hq
        exact ⟨⟨i + 1, by go_num, by omega, trivial⟩, by simp [intOf]; omega⟩
      all_goals rename_i hq
      all_goals rw [hx.out hP2] at hq
      all_goals have hq2 : i = 10 := by simpa using hq
      all_goals subst hq2
      all_goals go_meet
      all_goals exact ⟨rfl, rfl⟩
  case rest =>
    obtain ⟨rfl, hw3⟩ := hcut
    obtain rfl := hw3.symm
    have hS2 : (S P2).extract 11 M2 = S tt := by
      rw [S_cut, e3.out, hM2.out, e3.out]
      simp
    have hcat : S P1 ++ S tt = S (P1 ++ tt) := S_append _ _
    have hle : (11 : Int) ≤ (M2 : Int) := by omega
    have hpa := Lib.hid (fun X (hX : Below W.heap.size W X) => parse_any (P1 ++ tt) (by have := hlen.out; omega) X (hLW.out.below hX))
    rw [hgood.out] at hpa
    go_upto_region 15 with fail
    have bg := heap_alloc_new w3 (.cells #[.string ⟨#[115, 116, 101, 112, 10]⟩, .string ⟨#[10]⟩, .string ⟨#[107, 105, 108, 108, 32, 49, 32, 50, 10]⟩, .string ⟨#[115, 116, 97, 114, 116, 32, 48, 32, 49, 10]⟩, .string ⟨#[109, 97, 108, 108, 111, 99, 32, 49, 10]⟩, .string ⟨#[102, 114, 101, 101, 32, 49, 32, 43, 50, 10]⟩, .string ⟨#[32, 115, 116, 101, 112, 32, 49, 10]⟩, .string ⟨#[114, 101, 97, 108, 108, 111, 99, 32, 49, 32, 50, 10]⟩, .string ⟨#[115, 116, 111, 112, 32, 49, 10]⟩, .string ⟨#[97, 100, 111, 112, 116, 32, 48, 32, 48, 48, 10]⟩] 9)
    have hU := (Below.refl w3.heap.size w3).alloc (Nat.le_refl _) (.cells #[.string ⟨#[115, 116, 101, 112, 10]⟩, .string ⟨#[10]⟩, .string ⟨#[107, 105, 108, 108, 32, 49, 32, 50, 10]⟩, .string ⟨#[115, 116, 97, 114, 116, 32, 48, 32, 49, 10]⟩, .string ⟨#[109, 97, 108, 108, 111, 99, 32, 49, 10]⟩, .string ⟨#[102, 114, 101, 101, 32, 49, 32, 43, 50, 10]⟩, .string ⟨#[32, 115, 116, 101, 112, 32, 49, 10]⟩, .string ⟨#[114, 101, 97, 108, 108, 111, 99, 32, 49, 32, 50, 10]⟩, .string ⟨#[115, 116, 111, 112, 32, 49, 10]⟩, .string ⟨#[97, 100, 111, 112, 116, 32, 48, 32, 48, 48, 10]⟩] 9)
    generalize w3.alloc (.cells #[.string ⟨#[115, 116, 101, 112, 10]⟩, .string ⟨#[10]⟩, .string ⟨#[107, 105, 108, 108, 32, 49, 32, 50, 10]⟩, .string ⟨#[115, 116, 97, 114, 116, 32, 48, 32, 49, 10]⟩, .string ⟨#[109, 97, 108, 108, 111, 99, 32, 49, 10]⟩, .string ⟨#[102, 114, 101, 101, 32, 49, 32, 43, 50, 10]⟩, .string ⟨#[32, 115, 116, 101, 112, 32, 49, 10]⟩, .string ⟨#[114, 101, 97, 108, 108, 111, 99, 32, 49, 32, 50, 10]⟩, .string ⟨#[115, 116, 111, 112, 32, 49, 10]⟩, .string ⟨#[97, 100, 111, 112, 116, 32, 48, 32, 48, 48, 10]⟩] 9) = U at *
    obtain ⟨G, hG, hG'⟩ : ∃ G, Hid (G = w3.heap.size) ∧ G = w3.heap.size := ⟨_, Lib.hid rfl, rfl⟩
    simp only [← hG'] at bg ⊢
    clear hG'
    have lG : G < U.heap.size := (Array.getElem?_eq_some_iff.1 bg).1
    obtain ⟨j, hj, hj10⟩ : ∃ j : Nat, (kd : Int) % 10 = (j : Int) ∧ j < 10 := ⟨kd % 10, by omega, Nat.mod_lt _ (by omega)⟩
    obtain ⟨bad, hbm, gj⟩ : ∃ bad, bad ∈ badL ∧ U.cell? ⟨G, j, .none⟩ = some (.string (S (bad ++ [10]))) := by
      match j, hj10 with
      | 0, _ => exact ⟨[115, 116, 101, 112], by simp [badL], rowCells bg 0⟩
      | 1, _ => exact ⟨[], by simp [badL], rowCells bg 1⟩
      | 2, _ => exact ⟨[107, 105, 108, 108, 32, 49, 32, 50], by simp [badL], rowCells bg 2⟩
      | 3, _ => exact ⟨[115, 116, 97, 114, 116, 32, 48, 32, 49], by simp [badL], rowCells bg 3⟩
      | 4, _ => exact ⟨[109, 97, 108, 108, 111, 99, 32, 49], by simp [badL], rowCells bg 4⟩
      | 5, _ => exact ⟨[102, 114, 101, 101, 32, 49, 32, 43, 50], by simp [badL], rowCells bg 5⟩
      | 6, _ => exact ⟨[32, 115, 116, 101, 112, 32, 49], by simp [badL], rowCells bg 6⟩
      | 7, _ => exact ⟨[114, 101, 97, 108, 108, 111, 99, 32, 49, 32, 50], by simp [badL], rowCells bg 7⟩
      | 8, _ => exact ⟨[115, 116, 111, 112, 32, 49], by simp [badL], rowCells bg 8⟩
      | 9, _ => exact ⟨[97, 100, 111, 112, 116, 32, 48, 32, 48, 48], by simp [badL], rowCells bg 9⟩
    have hbl := bad_line bad hbm
    have hb10 : (∀ b ∈ bad, b ≠ 10) ∧ bad.length ≤ 20 := by
      unfold badL at hbm
      simp only [List.mem_cons, List.not_mem_nil, or_false] at hbm
      rcases hbm with rfl | rfl | rfl | rfl | rfl | rfl | rfl | rfl | rfl | rfl <;> exact ⟨by decide, by decide⟩
    have hpb := hbad.out bad hbl hb10.1 hb10.2
    have hQ : Hid (headL 1 2 0 ++ ts ++ (bad ++ 10 :: tt) = P1 ++ (bad ++ [10]) ++ tt) := Lib.hid (by rw [eP1.out]; simp)
    rw [hQ.out] at hpb
    have hBU := hB4.trans (hU.mono hB4.size)
    have hpa1 := Lib.hid (hpa.out U hBU)
    have hpa2 := Lib.hid (fun X (hX : Below U.heap.size U X) => parse_any (P1 ++ (bad ++ [10]) ++ tt) (by
      have h1 := hlen.out
      have h2 := hb10.2
      simp only [List.length_append, List.length_cons, List.length_nil] at h1 ⊢
      omega) X (hLW.out.below (hBU.trans (hX.mono hBU.size))))
    rw [hpb] at hpa2
    have hc1 : S P1 ++ S (bad ++ [10]) = S (P1 ++ (bad ++ [10])) := S_append _ _
    have hc2 : S (P1 ++ (bad ++ [10])) ++ S tt = S (P1 ++ (bad ++ [10]) ++ tt) := S_append _ _
    have ht0 : tt.length ≤ 40000 := by have := hlen.out; rw [List.length_append] at this; omega
    have nb0 : ¬ 9223372036854775807 < M1 + tt.length := by omega
    have nb1 : ¬ 9223372036854775807 < M1 + (bad ++ [10]).length := by rw [List.length_append]; have := hb10.2; simp; omega
    have nb2 : ¬ 9223372036854775807 < (P1 ++ (bad ++ [10])).length + tt.length := by rw [List.length_append, List.length_append, ← hM1.out]; have := hb10.2; simp; omega
    replace ht0 := Lib.hid ht0
    replace hb10 := Lib.hid hb10
    replace hbl := Lib.hid hbl
    replace hbm := Lib.hid hbm
    replace hpb := Lib.hid hpb
    replace hS2 := hS2
    clear bg hpa
    generalize bad ++ [10] = BN at *
    generalize P1 ++ BN = Q1 at *
    generalize Q1 ++ tt = Q2 at *
    go_upto_region 16 with (go_at_call 11; refine hpa1.out.mono ?_; rintro r w5 ⟨⟨v5, rfl, hr5⟩, hb5⟩)
    replace hr5 : RdC w5 v5 (l.map Ch.norm) := hr5
    obtain ⟨a5, cap5, e5, -, -, -⟩ := id hr5
    rw [List.length_map, ← hnn.out] at e5
    subst e5
    clear hr5 hpa1
    have hY := (Below.refl w5.heap.size w5).alloc (Nat.le_refl _) (.cells #[.int .i64 1, .int .i64 2, .int .i64 0] 26)
    generalize w5.alloc (.cells #[.int .i64 1, .int .i64 2, .int .i64 0] 26) = Y at *
    have hUY := hb5.trans (hY.mono hb5.size)
    have gj2 := Lib.hid (fun X (hX : Below Y.heap.size Y X) => ((hX.cell (p := ⟨G, j, .none⟩) (Nat.lt_of_lt_of_le lG hUY.size)).trans ((hUY.cell (p := ⟨G, j, .none⟩) lG).trans gj)))
    have hpa3 := Lib.hid (fun X (hX : Below Y.heap.size Y X) => hpa2.out X (hUY.trans (hX.mono hUY.size)))
    have gY := gj2.out Y (Below.refl _ _)
    have hw3Y := Lib.hid ((hend.out.trans (hU.mono hend.out.size)).trans (hUY.mono (hend.out.trans (hU.mono hend.out.size)).size))
    have wk : IntKind.i64.wrap (kd : Int) = (kd : Int) := IntWalk.i64_in _ ⟨by omega, by omega⟩
    have hjt : Int.tmod (kd : Int) 10 = (j : Int) := by rw [Int.tmod_eq_emod_of_nonneg (by omega)]; exact hj
    have hj3 : kd % 10 = j := by omega
    have hj4 : j < 10 := hj10
    have w11 : IntKind.i64.wrap ((10 : Int) + 1) = 11 := IntWalk.i64_in _ ⟨by omega, by omega⟩
    have w11b : IntKind.i64.wrap 11 = 11 := IntWalk.i64_in _ ⟨by omega, by omega⟩
    have hle3 : (10 : Int) + 1 ≤ (M2 : Int) := by omega
    have hle4 : ¬ (M2 : Int) < 11 := by omega
    have hS3 : (S P2).extract (10 + 1) M2 = S tt := hS2
    have j0 : (0 : Int) ≤ (j : Int) := by omega
    have j1 : (j : Int) < 10 := by omega
    have jt : ((j : Int)).toNat = j := by omega
    clear hb5 hY hU hUY gj hpa2
    go_upto_region 16 with fail
    go_cut [20, 21, 22] (fun v20 v21 v22 wx => (∃ ao cap, v20 = .slice ao 0 cap) ∧ v21 = .int .i64 ((k : Int) + 2) ∧ v22 = .int .i64 7 ∧ Below Y.heap.size Y wx)
    case first =>
      go_region_held3 (fun X => X.cell? ⟨G, j, .none⟩ = some (.string (S BN)))
        (first | exact gj2.out _ (by go_grown) | fail)
        (first
          | (go_at_call 11; refine (hpa3.out _ (by go_grown)).mono ?_; rintro e w6 ⟨⟨v6, rfl, hr6⟩, hb6⟩; have hB6 := belowTrans (w := Y) (by go_grown) hb6; have hS6 := hB6.size; try (have hz := (hb6.block Y.heap.size (by first | (simp; done) | (show Y.heap.size < (Y.alloc (.cells #[.int .i64 0, .int .i64 0, .int .i64 0] 26)).heap.size; simp; done))).trans (heap_alloc_new Y (.cells #[.int .i64 0, .int .i64 0, .int .i64 0] 26)); have z0 : w6.cell? ⟨Y.heap.size, 0, .none⟩ = some (.int .i64 0) := rowCells hz 0; have z1 : w6.cell? ⟨Y.heap.size, 1, .none⟩ = some (.int .i64 0) := rowCells hz 1; have z2 : w6.cell? ⟨Y.heap.size, 2, .none⟩ = some (.int .i64 0) := rowCells hz 2; have zf := rowFree hz)) | fail)
      all_goals obtain ⟨ao6, cap6, e6, -, -, -⟩ := id hr6
      all_goals subst e6
      all_goals go_wp2_with fail
      all_goals go_meet
      all_goals refine ⟨⟨ao6, cap6, rfl⟩, rfl, rfl, ?_⟩
      all_goals first
        | exact hB6.trans ((Below.refl w6.heap.size w6).alloc (Nat.le_refl _) _ |>.mono hB6.size)
        | exact ((hB6.setCell (Nat.le_refl _) _).setCell (Nat.le_refl _) _).setCell (Nat.le_refl _) _
    case rest =>
      obtain ⟨⟨ao, cap, rfl⟩, rfl, rfl, hbz⟩ := hcut
      have wk2 : IntKind.i64.wrap ((k : Int) + 2) = (k : Int) + 2 := IntWalk.i64_in _ ⟨by omega, by omega⟩
      go_wp2_with fail
      go_ret
      exact ⟨ret_bool (by simp), hw3Y.out.trans (hbz.mono hw3Y.out.size)⟩
end Go.Proofs.YtkeiehgojclecaaDoor
