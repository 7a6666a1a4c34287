/- What the library's listed variables hold, and the library's functions under that. -/
import Derived.Test.YtkeiehgojclecaaDoorBase

import Derived.Test.YtkeiehgojclecaaDoorShelf

namespace Go.Proofs.YtkeiehgojclecaaDoor

open Go.RowKit

/-- The listed variables as their initialisers lay them, and the one that is not listed. -/
structure Laid (w : World) : Prop where
  tab : Lib.TabIs Tryd.prog w "internal/strconv.uint64pow10" .u64 Lib.pow10Tab
  es : ∃ tp p, w.cell? ⟨5, 0, .none⟩ = some (.iface tp p)
  er : ∃ tp p, w.cell? ⟨6, 0, .none⟩ = some (.iface tp p)
  ml : ∃ m, w.cell? ⟨1, 0, .none⟩ = some (.int .i64 m)
  db : w.cell? ⟨8, 15, .none⟩ = some (.int .u8 4)
theorem var_below {P : Program} {w w' : World} (hb : Below w.heap.size w w') {name : String} {cs : Array Value} (h : w.var? P name = some cs) : w'.var? P name = some cs := by
  unfold World.var? at *
  cases hg : P.globalNamed name with
  | none => rw [hg] at h; cases h
  | some g =>
    rw [hg] at h
    simp only [Option.bind_some] at h ⊢
    cases ho : w.heap[g]? with
    | none => rw [ho] at h; cases h
    | some o => rw [hb.block g (Array.getElem?_eq_some_iff.1 ho).1, ho]; rw [ho] at h; exact h
theorem Laid.below {w w' : World} (h : Laid w) (hb : Below w.heap.size w w') : Laid w' := by
  obtain ⟨h1, ⟨a, b, h2⟩, ⟨c, d, h3⟩, ⟨m, h4⟩, h5⟩ := h
  exact ⟨var_below hb h1, ⟨a, b, keepF hb _ _ _ h2⟩, ⟨c, d, keepF hb _ _ _ h3⟩, ⟨m, keepF hb _ _ _ h4⟩, keepF hb _ _ _ h5⟩

theorem trailing64_any (w : World) (h : Laid w) : Calls Tryd.prog 108 #[.int .u64 16] w fun e w' => e = .returned (.int .i64 4) ∧ w' = w := by
  have h5 := h.db
  have e1 : IntKind.u64.wrap (bits .and .u64 16 (IntKind.u64.wrap (-16)) * 285870213051353865) / 288230376151711744 = 15 := by decide +kernel
  go_enter Tryd.func108, Tryd.ntmps108
  go_wp2
  go_ret
  exact ⟨rfl, rfl⟩
theorem trailing_any (w : World) (h : Laid w) : Calls Tryd.prog 103 #[.int .u64 16] w fun e w' => e = .returned (.int .i64 4) ∧ w' = w := by
  go_enter Tryd.func103, Tryd.ntmps103
  go_wp2_with (go_at_call 108; refine (trailing64_any w h).mono ?_; rintro r w1 ⟨rfl, rfl⟩)
  go_ret
  exact ⟨rfl, rfl⟩
/-- A digit of base 16, the digits. -/
def hexd (d : Nat) : UInt8 := UInt8.ofNat (if d < 10 then 48 + d else 87 + d)
def hexL (u : Nat) : List UInt8 := if _h : u < 16 then [hexd u] else hexL (u / 16) ++ [hexd (u % 16)]
termination_by u
decreasing_by omega
theorem hexL_lt {u : Nat} (h : u < 16) : hexL u = [hexd u] := by rw [hexL, dif_pos h]
theorem hexL_ge {u : Nat} (h : ¬ u < 16) : hexL u = hexL (u / 16) ++ [hexd (u % 16)] := by rw [hexL, dif_neg h]
theorem hexL_length (k : Nat) : ∀ u, u < 16 ^ (k + 1) → (hexL u).length ≤ k + 1 := by
  induction k with
  | zero => intro u hu; rw [hexL_lt (by simpa using hu)]; simp
  | succ k ih =>
    intro u hu
    by_cases h : u < 16
    · rw [hexL_lt h]; simp
    · rw [hexL_ge h, List.length_append, List.length_singleton]
      have := ih (u / 16) (by rw [Nat.pow_succ] at hu; exact Nat.div_lt_of_lt_mul (by rwa [Nat.mul_comm]))
      omega
theorem power_any (w : World) : Calls Tryd.prog 102 #[.int .i64 16] w fun e w' => e = .returned (.bool true) ∧ w' = w := by
  have e1 : bits .and .i64 16 15 = 0 := by decide +kernel
  go_enter Tryd.func102, Tryd.ntmps102
  go_wp2
  go_ret
  exact ⟨rfl, rfl⟩
/-- One digit more in the array. -/
theorem hex_store {Y : World} {A j1 : Nat} {c : List Value} {ty : TypeId} {t : List UInt8} {d : Nat} {val : Value} (hb : Y.heap[A]? = some (.cells c.toArray ty (0, 0))) (hc : c.length = 65) (hj : j1 + 1 + t.length = 65) (hdr : c.drop (j1 + 1) = t.map (fun b => Value.int .u8 b.toNat)) (hv : val = .int .u8 (hexd d).toNat) :
    ∃ c' : List Value, c'.length = 65 ∧ c'.drop j1 = (hexd d :: t).map (fun b => Value.int .u8 b.toNat) ∧ (Y.setCell ⟨A, j1, .none⟩ val).heap[A]? = some (.cells c'.toArray ty (0, 0)) := by
  refine ⟨c.set j1 val, by simp [hc], ?_, ?_⟩
  · rw [List.drop_set, if_neg (by omega), Nat.sub_self, List.drop_eq_getElem_cons (by omega), List.set_cons_zero, hdr, hv]; rfl
  · rw [heap_setCell_same Y A j1 _ _ _ hb]; simp
set_option maxRecDepth 100000 in
set_option maxHeartbeats 4000000 in
theorem format_any (u : Nat) (hu : u < 18446744073709551616) (w : World) (h : Laid w) : Calls Tryd.prog 85 #[.slice none 0 0, .int .u64 u, .int .i64 16, .bool false, .bool false] w fun e w' => e = .returned (.tuple #[.slice none 0 0, .string ⟨(hexL u).toArray⟩]) ∧ Below w.heap.size w w' := by
  have hT := Lib.hid (fun X hX => trailing_any X (h.below (w' := X) hX))
  go_enter Tryd.func85, Tryd.ntmps85
  go_wp2_with (first | (go_at_call 102; refine (power_any _).mono ?_; rintro r w1 ⟨rfl, rfl⟩) | (go_at_call 103; refine (hT.out _ ((Below.refl _ _).alloc (Nat.le_refl _) _)).mono ?_; rintro r w1 ⟨rfl, hw⟩))
  clear hw
  have zc : Tryd.zeroCells145 = (List.replicate 65 (Value.int .u8 0)).toArray := by kernel_rfl
  have hb0 := (Below.refl w.heap.size w).alloc (Nat.le_refl _) (.cells Tryd.zeroCells145 145)
  have hh0 := heap_alloc_new w (.cells Tryd.zeroCells145 145)
  rw [zc] at hb0 hh0 ⊢
  generalize w.alloc (.cells (List.replicate 65 (Value.int .u8 0)).toArray 145) = V at *
  obtain ⟨A, hA, hA'⟩ : ∃ A, Hid (A = w.heap.size) ∧ A = w.heap.size := ⟨_, Lib.hid rfl, rfl⟩
  rw [← hA'] at hh0 ⊢
  clear hA' hT zc w1
  go_loopw [1, 13] (fun v1 v13 wr => ∃ (x j : Nat) (c : List Value) (t : List UInt8), v1 = .int .u64 x ∧ v13 = .int .i64 j ∧ j + t.length = 65 ∧ t.length ≤ 15 ∧ c.length = 65 ∧ c.drop j = t.map (fun b => Value.int .u8 b.toNat) ∧ hexL u = hexL x ++ t ∧ x * 16 ^ t.length ≤ u ∧ Below A w wr ∧ wr.heap[A]? = some (.cells c.toArray 145 (0, 0))) (fun v1 _ _ => (intOf v1).toNat)
  case atStart => exact ⟨u, 65, List.replicate 65 (Value.int .u8 0), [], rfl, rfl, rfl, by simp, by simp, by simp, by simp, by simp, by rw [hA.out]; exact hb0, hh0⟩
  case round =>
    obtain ⟨x, j, c, t, rfl, rfl, hjt, h15, hc, hdr, hx, hle, hbr, hbA⟩ := hrel
    obtain ⟨Y, rfl⟩ : ∃ V : World, V = wr := ⟨_, rfl⟩
    have hxu : x ≤ u := Nat.le_trans (Nat.le_mul_of_pos_right x (Nat.pow_pos (by decide))) hle
    by_cases h16 : x < 16
    · obtain ⟨j1, rfl⟩ : ∃ j1, j = j1 + 1 := ⟨j - 1, by omega⟩
      have g1 : decide ((x : Int) ≥ 16) = false := by simp; omega
      have wj1 : IntKind.i64.wrap (((j1 + 1 : Nat) : Int) - 1) = (j1 : Int) := by rw [IntKind.wrap_i64]; omega
      have hj1 : (j1 : Int) < 65 := by omega
      have hj0 : (0 : Int) ≤ (j1 : Int) := by omega
      obtain ⟨old, ho⟩ : ∃ o, c[j1]? = some o := ⟨_, List.getElem?_eq_getElem (by omega)⟩
      have y0 : Y.cell? ⟨A, j1, .none⟩ = some old := by rw [cell_of_row Y A j1 c.toArray _ (0, 0) hbA]; simpa using ho
      have yf : Y.frozen? ⟨A, j1, .none⟩ = false := rowFree hbA j1
      have hd0 : (0 : Int) ≤ (x : Int) := by omega
      have hd1 : (x : Int) < 36 := by omega
      have hal : Tryd.prog.arrayLen 145 = 65 := by kernel_rfl
      have hj2 : (j1 : Int) ≤ 65 := by omega
      have hfin : Hid (∀ val : Value, val = .int .u8 (hexd x).toNat → Below A w (Y.setCell ⟨A, j1, .none⟩ val) ∧ (convert 63 9 (.slice (some ⟨A, j1, .none⟩) (65 - j1) (65 - j1))).run Tryd.prog (Y.setCell ⟨A, j1, .none⟩ val) = .ok (.string ⟨(hexL u).toArray⟩) (Y.setCell ⟨A, j1, .none⟩ val)) := Lib.hid fun val hv => by
        obtain ⟨c', k1, k2, k3⟩ := hex_store hbA hc hjt hdr hv
        refine ⟨hbr.setCell (p := ⟨A, j1, .none⟩) (Nat.le_refl _) _, ?_⟩
        have hL : hexL u = hexd x :: t := by rw [hx, hexL_lt h16]; rfl
        have hl : (hexL u).length = 65 - j1 := by rw [hL, List.length_cons]; omega
        rw [← hl]
        refine run_convert_bytes_back _ 63 9 5 ⟨A, j1, .none⟩ _ (hexL u) Tryd.underlying63 Tryd.underlying5 Tryd.underlying9 fun i hi => ?_
        rw [Addr.add_lit, cell_of_row _ A (j1 + i) c'.toArray _ (0, 0) k3]
        have := congrArg (fun l => l[i]?) k2
        simp only [List.getElem?_drop, List.getElem?_map] at this
        rw [List.getElem?_toArray, this, ← hL, List.getElem?_eq_getElem hi]
        rfl
      go_upto_region 30 with fail
      generalize hval : Value.int .u8 _ = val
      have hv : val = .int .u8 (hexd x).toNat := by
        rw [← hval]
        clear hfin hval
        rcases (by omega : x = 0 ∨ x = 1 ∨ x = 2 ∨ x = 3 ∨ x = 4 ∨ x = 5 ∨ x = 6 ∨ x = 7 ∨ x = 8 ∨ x = 9 ∨ x = 10 ∨ x = 11 ∨ x = 12 ∨ x = 13 ∨ x = 14 ∨ x = 15) with rfl | rfl | rfl | rfl | rfl | rfl | rfl | rfl | rfl | rfl | rfl | rfl | rfl | rfl | rfl | rfl <;> rfl
      obtain ⟨hb9, hcv⟩ := hfin.out val hv
      clear hval hfin hv hx hdr
      generalize Y.setCell ⟨A, j1, .none⟩ val = Z at *
      go_wp2
      go_ret2
      exact ⟨rfl, by rw [← hA.out]; exact hb9⟩
    · have hlen : t.length < 15 := by
        rcases Nat.lt_or_ge t.length 15 with h | h
        · exact h
        · have h1 : 16 ^ 15 ≤ 16 ^ t.length := Nat.pow_le_pow_right (by decide) h
          have h2 : 16 * 16 ^ 15 ≤ x * 16 ^ t.length := Nat.mul_le_mul (by omega) h1
          omega
      obtain ⟨j1, rfl⟩ : ∃ j1, j = j1 + 1 := ⟨j - 1, by omega⟩
      have g1 : decide ((x : Int) ≥ 16) = true := by simp; omega
      have hand : bits .and .u64 (x : Int) 15 = ((x % 16 : Nat) : Int) := by
        have := bits_mask .u64 64 (by decide) (fun n a b => by rw [IntKind.wrap_u64]; omega) 4 (by decide) (x : Int) (by omega) (by omega)
        simpa using this
      have wj1 : IntKind.i64.wrap (((j1 + 1 : Nat) : Int) - 1) = (j1 : Int) := by rw [IntKind.wrap_i64]; omega
      have hj1 : (j1 : Int) < 65 := by omega
      have hj0 : (0 : Int) ≤ (j1 : Int) := by omega
      obtain ⟨old, ho⟩ : ∃ o, c[j1]? = some o := ⟨_, List.getElem?_eq_getElem (by omega)⟩
      have y0 : Y.cell? ⟨A, j1, .none⟩ = some old := by rw [cell_of_row Y A j1 c.toArray _ (0, 0) hbA]; simpa using ho
      have yf : Y.frozen? ⟨A, j1, .none⟩ = false := rowFree hbA j1
      have hm : x % 16 < 16 := Nat.mod_lt _ (by decide)
      obtain ⟨d, hd⟩ : ∃ d, d = x % 16 := ⟨_, rfl⟩
      rw [← hd] at hand hm
      have hd0 : (0 : Int) ≤ (d : Int) := by omega
      have hd1 : (d : Int) < 36 := by omega
      have hfin : Hid (∀ val : Value, val = .int .u8 (hexd d).toNat → (∃ (x' j' : Nat) (c : List Value) (t : List UInt8), Value.int .u64 ((x : Int) / 16) = .int .u64 x' ∧ Value.int .i64 (j1 : Int) = .int .i64 j' ∧ j' + t.length = 65 ∧ t.length ≤ 15 ∧ c.length = 65 ∧ c.drop j' = t.map (fun b => Value.int .u8 b.toNat) ∧ hexL u = hexL x' ++ t ∧ x' * 16 ^ t.length ≤ u ∧ Below A w (Y.setCell ⟨A, j1, .none⟩ val) ∧ (Y.setCell ⟨A, j1, .none⟩ val).heap[A]? = some (.cells c.toArray 145 (0, 0))) ∧ (intOf (Value.int .u64 ((x : Int) / 16))).toNat < (intOf (Value.int .u64 (x : Int))).toNat) := Lib.hid fun val hv => by
        obtain ⟨c', k1, k2, k3⟩ := hex_store hbA hc hjt hdr hv
        have hx2 := hexL_ge h16
        refine ⟨⟨x / 16, j1, c', hexd d :: t, by simp, rfl, by simp; omega, by simp; omega, k1, k2, ?_, ?_, ?_, k3⟩, ?_⟩
        · rw [hx, hx2, hd, List.append_assoc]; rfl
        · have h3 : x / 16 * 16 ≤ x := Nat.div_mul_le_self x 16
          have h4 := Nat.mul_le_mul_right (16 ^ t.length) h3
          rw [List.length_cons, Nat.pow_succ, Nat.mul_comm (16 ^ t.length) 16, ← Nat.mul_assoc]
          omega
        · exact hbr.setCell (p := ⟨A, j1, .none⟩) (Nat.le_refl _) _
        · simp [intOf]; omega
      clear hd hdr
      go_wp2
      refine hfin.out _ ?_
      clear hfin
      rcases (by omega : d = 0 ∨ d = 1 ∨ d = 2 ∨ d = 3 ∨ d = 4 ∨ d = 5 ∨ d = 6 ∨ d = 7 ∨ d = 8 ∨ d = 9 ∨ d = 10 ∨ d = 11 ∨ d = 12 ∨ d = 13 ∨ d = 14 ∨ d = 15) with rfl | rfl | rfl | rfl | rfl | rfl | rfl | rfl | rfl | rfl | rfl | rfl | rfl | rfl | rfl | rfl <;> rfl
theorem formatUint0_any (u : Nat) (hu : u < 18446744073709551616) (w : World) (h : Laid w) : Calls Tryd.prog 70 #[.int .u64 u, .int .i64 16] w fun e w' => e = .returned (.string ⟨(hexL u).toArray⟩) ∧ Below w.heap.size w w' := by
  go_enter Tryd.func70, Tryd.ntmps70
  go_wp2_with (go_at_call 85; refine (format_any u hu w h).mono ?_; rintro r w1 ⟨rfl, hb⟩)
  go_ret
  exact ⟨rfl, hb⟩
theorem formatUint_any (u : Nat) (hu : u < 18446744073709551616) (w : World) (h : Laid w) : Calls Tryd.prog 55 #[.int .u64 u, .int .i64 16] w fun e w' => e = .returned (.string ⟨(hexL u).toArray⟩) ∧ Below w.heap.size w w' := by
  go_enter Tryd.func55, Tryd.ntmps55
  go_wp2_with (go_at_call 70; refine (formatUint0_any u hu w h).mono ?_; rintro r w1 ⟨rfl, hb⟩)
  go_ret
  exact ⟨rfl, hb⟩
end Go.Proofs.YtkeiehgojclecaaDoor
