/- Plain facts on the words that the law PackKinds reads. -/
import Derived.Test.YtngglkefhinkgaaPackR
import Derived.Test.YtngglkefhinkgaaPackApartW
namespace Go.Proofs.Ytngglkefhinkgaa
open Go.RowKit

theorem kp1 (d : Int) (h0 : 0 ≤ d) (h1 : d ≤ 11) : pageV 1 d 0 = 1 + 16 * d := by
  have : pageBad 1 d 0 = false := by simp [pageBad]
  rw [pageV, this, if_neg Bool.false_ne_true, putV2 _ _ _ h0 (by omega) (by omega) (by omega)]; omega
theorem kp2 (k d : Int) (h0 : 0 ≤ k) (h1 : k ≤ 3) (hd : 0 ≤ d) (hd1 : d ≤ 11) : pageV 2 k d = 2 + 16 * k + 4096 * d := by
  have : pageBad 2 k d = false := by simp [pageBad]
  rw [pageV, this, if_neg Bool.false_ne_true, putV2 _ _ _ h0 (by omega) (by omega) (by omega)]
theorem ke (q k : Int) (h0 : 0 ≤ q) (h1 : q ≤ 63) (hk : 0 ≤ k) (hk1 : k ≤ 3) : putV 1 [q, 1, k] = 1 + 16 * q + 4096 + 1048576 * k := by
  rw [putV3 _ _ _ _ h0 (by omega) (by omega) (by omega) hk (by omega)]; omega

theorem readKind (x : Int) (k a b : Int) (hx : x = k + 16 * a + 4096 * b) (hk : 0 ≤ k ∧ k ≤ 15) (ha : 0 ≤ a ∧ a ≤ 255) (hb : 0 ≤ b ∧ b ≤ 255) : kindV x = k ∧ partV x 0 = a ∧ partV x 1 = b := by
  simp only [kindV, partV, Int.pow_zero, Int.mul_one, Int.pow_one]
  omega
theorem readKind3 (x : Int) (k a b c : Int) (hx : x = k + 16 * a + 4096 * b + 1048576 * c) (hk : 0 ≤ k ∧ k ≤ 15) (ha : 0 ≤ a ∧ a ≤ 255) (hb : 0 ≤ b ∧ b ≤ 255) (hc : 0 ≤ c ∧ c ≤ 255) : partV x 0 = a ∧ partV x 1 = b ∧ partV x 2 = c := by
  have : (256 : Int) ^ 2 = 65536 := by decide
  simp only [partV, Int.pow_zero, Int.mul_one, Int.pow_one, this]
  omega
theorem pageIx_ok {p c m q : Int} (hm : mayB p c m = true) (h0 : 0 ≤ q) (h1 : q ≤ p - 1) : 0 ≤ pageIx p c m q := by
  have := mayB_iff.1 hm
  rw [pageIx, if_pos ⟨hm, wi_iff.2 ⟨h0, h1⟩⟩]; omega

/-- A page's word is small. -/
theorem pageV_bd (k a b : Int) (hk : 0 ≤ k ∧ k ≤ 15) (ha : 0 ≤ a ∧ a ≤ 255) (hb : 0 ≤ b ∧ b ≤ 255) : pageV k a b < 1048576 := by
  rw [pageV]
  split
  · omega
  · rw [putV2 _ _ _ ha.1 ha.2 hb.1 hb.2]; omega

theorem readPage_ok {p c m q x k a b : Int} (hm : mayB p c m = true) (h0 : 0 ≤ q) (h1 : q ≤ p - 1) (hx : x = k + 16 * a + 4096 * b) (hk : 0 ≤ k ∧ k ≤ 15) (ha : 0 ≤ a ∧ a ≤ 255) (hb : 0 ≤ b ∧ b ≤ 255) (hp : pageV k a b = x) (hf : fitsB p c q k a b = true) (w : World) :
    Calls Try.prog 27 #[.agg #[.int .i64 p, .int .i64 c, .int .i64 m], .int .i64 q, .int .u64 x] w fun e w' => e = .returned (.tuple #[.agg #[.int .i64 k, .int .i64 a, .int .i64 b], .bool true]) ∧ Below w.heap.size w w' := by
  obtain ⟨e1, e2, e3⟩ := readKind x k a b hx hk ha hb
  have hr : readPageB p c m q x = true := by
    rw [readPageB, e1, e2, e3, hf, hp]; simp [pageIx_ok hm h0 h1]
  refine (readPage_any p c m q x w (by omega) (by omega)).mono ?_
  rintro e w' ⟨hb', rfl⟩
  rw [hr, if_pos rfl, e1, e2, e3]
  exact ⟨rfl, hb'⟩

theorem readPage_bad {p c m q x : Int} (hx : 1048576 ≤ x) (hx1 : x < 18446744073709551616) (w : World) :
    Calls Try.prog 27 #[.agg #[.int .i64 p, .int .i64 c, .int .i64 m], .int .i64 q, .int .u64 x] w fun e w' => e = .returned (.tuple #[.agg #[.int .i64 0, .int .i64 0, .int .i64 0], .bool false]) ∧ Below w.heap.size w w' := by
  have hr : readPageB p c m q x = false := by
    have := pageV_bd (kindV x) (partV x 0) (partV x 1) (kindV_bd x) (partV_bd x 0) (partV_bd x 1)
    have hn : (pageV (kindV x) (partV x 0) (partV x 1) == x) = false := by simp; omega
    rw [readPageB, hn]; rfl
  refine (readPage_any p c m q x w (by omega) (by omega)).mono ?_
  rintro e w' ⟨hb', rfl⟩
  rw [hr, if_neg Bool.false_ne_true]
  exact ⟨rfl, hb'⟩

theorem readEntry_ok {p c m q x k : Int} (hm : mayB p c m = true) (h0 : 0 ≤ q) (h1 : q ≤ p - 1) (hk : 0 ≤ k ∧ k ≤ 3) (hx : x = 1 + 16 * q + 4096 + 1048576 * k) (w : World) :
    Calls Try.prog 28 #[.agg #[.int .i64 p, .int .i64 c, .int .i64 m], .int .u64 x] w fun e w' => e = .returned (.tuple #[.agg #[.int .i64 q, .int .i64 1, .int .i64 k], .bool true]) ∧ Below w.heap.size w w' := by
  have hmm := mayB_iff.1 hm
  obtain ⟨e1, e2, e3⟩ := readKind3 x 1 q 1 k (by omega) (by omega) (by omega) (by omega) (by omega)
  have hs : 1 < slotsV k := by
    have : k = 0 ∨ k = 1 ∨ k = 2 ∨ k = 3 := by omega
    rcases this with rfl | rfl | rfl | rfl <;> decide
  have hr : readEntryB p c m x = true := by
    rw [readEntryB, e1, e2, e3, ke q k h0 (by omega) hk.1 hk.2]; simp [pageIx_ok hm h0 h1, hs, hx]
  refine (readEntry_any p c m x w (by omega) (by omega)).mono ?_
  rintro e w' ⟨hb', rfl⟩
  rw [hr, if_pos rfl, e1, e2, e3]
  exact ⟨rfl, hb'⟩

theorem readEntry_bad {p c m x : Int} (hx : 268435456 ≤ x) (hx1 : x < 18446744073709551616) (w : World) :
    Calls Try.prog 28 #[.agg #[.int .i64 p, .int .i64 c, .int .i64 m], .int .u64 x] w fun e w' => e = .returned (.tuple #[.agg #[.int .i64 0, .int .i64 0, .int .i64 0], .bool false]) ∧ Below w.heap.size w w' := by
  have hr : readEntryB p c m x = false := by
    have a := partV_bd x 0
    have b := partV_bd x 1
    have d := partV_bd x 2
    have hn : (putV 1 [partV x 0, partV x 1, partV x 2] == x) = false := by
      rw [putV3 _ _ _ _ a.1 a.2 b.1 b.2 d.1 d.2]; simp; omega
    rw [readEntryB, hn]; rfl
  refine (readEntry_any p c m x w (by omega) (by omega)).mono ?_
  rintro e w' ⟨hb', rfl⟩
  rw [hr, if_neg Bool.false_ne_true]
  exact ⟨rfl, hb'⟩

theorem readSlot_bad {x : Int} (hx : 4096 ≤ x) (hx1 : x < 18446744073709551616) (w : World) :
    Calls Try.prog 29 #[.int .u64 x] w fun e w' => e = .returned (.agg #[.int .i64 0, .int .i64 0]) ∧ Below w.heap.size w w' := by
  have hr : readSlotB x = false := by
    have a := partV_bd x 0
    have b := kindV_bd x
    have hn : (slotV (kindV x) (partV x 0) == x) = false := by
      rw [slotV]
      split
      · simp; omega
      · rw [putV1 _ _ a.1 a.2]; simp; omega
    rw [readSlotB, hn]
  refine (readSlot_any x w (by omega) (by omega)).mono ?_
  rintro e w' ⟨hb', rfl⟩
  rw [hr, if_neg Bool.false_ne_true]
  exact ⟨rfl, hb'⟩

theorem allocOld {w : World} {o : Obj} {b i : Nat} (h : b < w.heap.size) : (w.alloc o).cell? ⟨b, i, .none⟩ = w.cell? ⟨b, i, .none⟩ := bcell (W := w) (Below.refl _ _ |>.alloc (Nat.le_refl _) o) b i h

theorem or_pow (x : Int) (e n : Nat) (h0 : 0 ≤ x) (h1 : x < 18446744073709551616) (he : e ≤ 63) (hn : n ≤ e) :
    (2 : Int) ^ n ≤ bits .or .u64 x (IntKind.u64.wrap (2 ^ e)) ∧ bits .or .u64 x (IntKind.u64.wrap (2 ^ e)) < 18446744073709551616 := by
  have hp : (2 : Nat) ^ e < 2 ^ 64 := Nat.pow_lt_pow_right (by decide) (by omega)
  have hq : (2 : Nat) ^ n ≤ 2 ^ e := Nat.pow_le_pow_right (by decide) hn
  have hc : (2 : Int) ^ e = ((2 ^ e : Nat) : Int) := by simp
  have hcn : (2 : Int) ^ n = ((2 ^ n : Nat) : Int) := by simp
  have hb : ∀ y, y < 2 ^ 64 → y ||| 2 ^ e < 2 ^ 64 := fun y hy => Nat.or_lt_two_pow hy hp
  have hp' : (2 : Nat) ^ e < 18446744073709551616 := hp
  rw [hc, hcn]
  clear hc hcn hp
  generalize (2 : Nat) ^ e = s at *
  generalize (2 : Nat) ^ n = t at *
  rw [u64_wraps _ (by omega) (by omega), u64_or _ _ h0 h1 (by omega) (by omega), Int.toNat_natCast]
  have ha : s ≤ x.toNat ||| s := Nat.right_le_or
  have hb' : x.toNat ||| s < 18446744073709551616 := hb _ (by omega)
  generalize x.toNat ||| s = r at *
  omega
theorem or_far (x s n : Int) (h0 : 0 ≤ x) (h1 : x < 18446744073709551616) (hs : 0 ≤ s) (_hn : 0 ≤ n) (h : n + s ≤ 63) :
    ∃ z, bits .or .u64 x (IntKind.u64.wrap (2 ^ (n + s).toNat)) = z ∧ (2 : Int) ^ n.toNat ≤ z ∧ z < 18446744073709551616 :=
  ⟨_, rfl, (or_pow x _ _ h0 h1 (by omega) (by omega)).1, (or_pow x _ n.toNat h0 h1 (by omega) (by omega)).2⟩
theorem kslot (d : Int) (h0 : 0 ≤ d) (h1 : d ≤ 11) : slotV 2 d = 2 + 16 * d := by
  have : slotBad 2 d = false := by simp [slotBad]
  rw [slotV, this, if_neg Bool.false_ne_true, putV1 _ _ h0 (by omega)]
end Go.Proofs.Ytngglkefhinkgaa
