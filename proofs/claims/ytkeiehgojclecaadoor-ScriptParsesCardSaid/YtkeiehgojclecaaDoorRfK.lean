/- The reference's numbers. -/
import Derived.Test.YtkeiehgojclecaaDoorRfJ

namespace Go.Proofs.YtkeiehgojclecaaDoor

open Go.RowKit

attribute [local go_sem ↓] Go.wp_at_zero Go.wp_at_succ

/-- So many numbers, with a blank between. -/
def nR : Nat → List UInt8 → Option (List Int)
  | 0, _ => some []
  | k + 1, l => if (wordR l).2.2 = decide (0 < k) then (numO (wordR l).1).bind fun x => (nR k (wordR l).2.1).map (x :: ·) else none
theorem nR_spl (k : Nat) (l : List UInt8) : nR (k + 1) l = if (spl 32 l).length = k + 1 then numsO (spl 32 l) else none := by
  induction k generalizing l with
  | zero =>
    rw [nR, spl_word]
    cases h : (wordR l).2.2 with
    | false => simp [nR, numsO]
    | true =>
      have := spl_ne 32 (wordR l).2.1
      simp [this]
  | succ k ih =>
    rw [nR, spl_word]
    cases h : (wordR l).2.2 with
    | false => simp
    | true =>
      rw [ih]
      by_cases hk : (spl 32 (wordR l).2.1).length = k + 1
      · simp [hk, numsO]
      · simp [hk]
theorem wordR_len (l : List UInt8) : (wordR l).1.length ≤ l.length ∧ (wordR l).2.1.length ≤ l.length := by
  induction l with
  | nil => exact ⟨Nat.le_refl _, Nat.le_refl _⟩
  | cons b l ih =>
    unfold wordR
    split
    · exact ⟨by simp, by simp⟩
    · exact ⟨by simpa using ih.1, by simp only [List.length_cons]; omega⟩
set_option maxRecDepth 100000 in
set_option maxHeartbeats 1000000 in
theorem rnumbers_any (l : List UInt8) (hl : l.length < 1000000) (n : Nat) (hn : n ≤ 100) (w : World) :
    Calls Tryd.prog 31 #[.string (S l), .int .i64 n] w fun e w' => (∃ v', e = .returned (.tuple #[v', .bool (nR n l).isSome]) ∧ ∀ vs, nR n l = some vs → RdZ .i64 w' v' vs) ∧ Below w.heap.size w w' := by
  obtain ⟨i0, hi0, hz0, hz1, hz2⟩ := info_parts infoI
  go_enter Tryd.func31, Tryd.ntmps31
  go_wp2_with fail
  go_loopw [0, 6, 7, 8, 9, 10, 11, 12] (fun v0 v6 v7 _ _ _ _ _ wr => ∃ (i : Nat) (r : List UInt8) (vs : List Int), i ≤ n ∧ v0 = .string (S r) ∧ v7 = .int .i64 i ∧ vs.length = i ∧ r.length < 1000000 ∧ nR n l = (nR (n - i) r).map (vs ++ ·) ∧ Below w.heap.size w wr ∧ wr.ownsRow w.heap.size 3 1 v6 i (vs.map (.int .i64))) (fun _ _ v7 _ _ _ _ _ _ => n - (intOf v7).toNat)
  case atStart => exact ⟨0, l, [], Nat.zero_le _, rfl, rfl, rfl, hl, by simp, Below.refl _ _, ⟨rfl, .inl ⟨rfl, rfl⟩⟩⟩
  case round =>
    obtain ⟨i, r, vs, hi, rfl, rfl, hvl, hrl, hd, hbr, hown⟩ := hrel
    obtain ⟨Y, rfl⟩ : ∃ V : World, V = wr := ⟨_, rfl⟩
    by_cases hlt : i < n
    · have hlt' : (i : Int) < (n : Int) := by omega
      have wi1 : IntKind.i64.wrap ((i : Int) + 1) = (i : Int) + 1 := IntWalk.i64_in _ ⟨by omega, by omega⟩
      have hwd := Lib.hid (word_any r hrl Y)
      have hwl := wordR_len r
      have hstep : nR (n - i) r = if (wordR r).2.2 = decide (i + 1 < n) then (numO (wordR r).1).bind fun x => (nR (n - (i + 1)) (wordR r).2.1).map (x :: ·) else none := by
        obtain ⟨k, hk⟩ : ∃ k, n - i = k + 1 := ⟨n - i - 1, by omega⟩
        rw [hk, nR, show n - (i + 1) = k by omega, show decide (i + 1 < n) = decide (0 < k) by (rw [decide_eq_decide]; omega)]
      rw [hstep] at hd
      clear hstep
      generalize hW : wordR r = W3 at *
      obtain ⟨A, B, q⟩ := W3
      dsimp only at hd hwl hwd
      clear hW
      have hA : A.length < 1000000 := by omega
      have hB : B.length < 1000000 := by omega
      have hYs := hbr.size
      obtain ⟨p, hp, hp'⟩ : ∃ p, Hid (p = decide (i + 1 < n)) ∧ p = decide (i + 1 < n) := ⟨_, Lib.hid rfl, rfl⟩
      rw [← hp'] at hd
      have hpi : decide ((i : Int) + 1 < (n : Int)) = p := by rw [hp', decide_eq_decide]; omega
      clear hp'
      replace hd := Lib.hid hd
      replace hvl := Lib.hid hvl
      replace hA := Lib.hid hA
      replace hB := Lib.hid hB
      clear hwl hrl hl
      go_upto_region 7 with (first
        | (go_at_call 30; refine hwd.out.mono ?_; rintro e w1 ⟨rfl, hb1⟩)
        | (go_at_call 44; refine (readNumber_any A hA.out _).mono ?_; rintro e w2 ⟨⟨x, rfl, hx⟩, hw2⟩; obtain rfl := hw2.symm; replace hx := Lib.hid hx) | fail)
      have hbr1 := hbr.trans (hb1.mono hbr.size)
      have hown1 : w1.ownsRow w.heap.size 3 1 u6 i (vs.map (.int .i64)) := ownsRow_of_blocks hown fun k hk => hb1.block k (hown.lt k hk).2
      clear hown hbr hwd hb1
      have hW1 := hbr1.size
      cases hno : numO A with
      | none =>
        have hd2 : Hid (nR n l = none) := Lib.hid (by rw [hd.out, hno]; simp)
        clear hd hx hno
        go_wp2_with fail
        go_ret2
        exact ⟨⟨_, by rw [hd2.out]; rfl, fun us h => by rw [hd2.out] at h; cases h⟩, hbr1⟩
      | some r0 =>
        obtain rfl := hx.out r0 hno
        by_cases hqp : q = p
        · have hd2 : Hid (nR n l = (nR (n - (i + 1)) B).map ((vs ++ [x]) ++ ·)) := Lib.hid (by rw [hd.out, hno, if_pos hqp]; simp [Function.comp_def])
          have hne : (q != p) = false := by simp [hqp]
          have hne2 : (q == p) = true := by simp [hqp]
          replace hqp := Lib.hid hqp
          clear hd hx hno
          obtain ⟨V, rfl⟩ : ∃ V : World, V = w1 := ⟨_, rfl⟩
          go_wp2_with (refine wpList_append_rd rfl (.tmp 39) (.tmp 41) 78 rfl w.heap.size 3 i0 _ 1 8 Tryd.underlying78 hi0 hz0 hz1 hz2 rfl (by omega) _ i _ rfl (hown1.alloc _) _ 1 [.int .i64 x] rfl (RdS.new (cs := #[.int .i64 x]) (t := 3) (sz := 1) (n := 1) (heap_alloc_new V _) rfl (by omega)) (by intro u hu; simp at hu; subst hu; rfl) (by simp only [maxLen]; omega) (by omega) (by simp; omega) ?_; intro v1 w3 hown2 hgrow2 hat2; have hbr4 := grown_belowS (hbr1.alloc hW1 _) (hown1.alloc _) (by simp; omega) hgrow2)
          exact ⟨⟨i + 1, B, vs ++ [x], by omega, rfl, by go_num, by simp [hvl.out], hB.out, hd2.out, hbr4, by rw [List.map_append]; exact hown2⟩, by simp [intOf]; omega⟩
        · have hd2 : Hid (nR n l = none) := Lib.hid (by rw [hd.out, if_neg hqp]; rfl)
          have hne : (q != p) = true := by simpa using hqp
          have hne2 : (q == p) = false := by simpa using hqp
          replace hqp := Lib.hid hqp
          clear hd hx hno
          go_wp2_with fail
          go_ret2
          exact ⟨⟨_, by rw [hd2.out]; rfl, fun us h => by rw [hd2.out] at h; cases h⟩, hbr1⟩
    · have him : i = n := by omega
      subst him
      have hj0 : ¬ ((i : Int) < (i : Int)) := by omega
      rw [Nat.sub_self, nR] at hd
      have hd2 : Hid (nR i l = some vs) := Lib.hid (by rw [hd]; simp)
      clear hd
      replace hvl := Lib.hid hvl
      go_wp2_with fail
      go_ret2
      refine ⟨⟨_, by rw [hd2.out]; rfl, fun us h => ?_⟩, hbr⟩
      rw [hd2.out] at h; injection h with h; subst h
      unfold RdZ
      rw [hvl.out]
      exact RdS.of_own hown
end Go.Proofs.YtkeiehgojclecaaDoor
