/- The greatest of some floats, and the walk of the law EdgeMost. -/
import Derived.Test.YtngglkefhinkgabEdgeS
namespace Go.Proofs.Ytngglkefhinkgab
open Go.RowKit Fl

/-- The greatest of the first k floats (and of the first one). -/
def mxF (X : Nat → Nat) : Nat → Nat
  | 0 => X 0
  | k + 1 => if key (mxF X k) < key (X k) then X k else mxF X k
theorem mxF_ge (X : Nat → Nat) (k : Nat) : key (X 0) ≤ key (mxF X k) ∧ ∀ j, j < k → key (X j) ≤ key (mxF X k) := by
  induction k with
  | zero => exact ⟨Int.le_refl _, fun j hj => by omega⟩
  | succ k ih =>
    have h1 : key (mxF X k) ≤ key (mxF X (k + 1)) ∧ key (X k) ≤ key (mxF X (k + 1)) := by
      simp only [mxF]
      split <;> omega
    refine ⟨by omega, fun j hj => ?_⟩
    rcases Nat.lt_or_ge j k with h | h
    · have := ih.2 j h; omega
    · obtain rfl : j = k := by omega
      exact h1.2
theorem mxF_mem (X : Nat → Nat) (k : Nat) : mxF X k = X 0 ∨ ∃ j, j < k ∧ mxF X k = X j := by
  induction k with
  | zero => exact .inl rfl
  | succ k ih =>
    simp only [mxF]
    split
    · exact .inr ⟨k, by omega, rfl⟩
    · rcases ih with h | ⟨j, hj, h⟩
      · exact .inl h
      · exact .inr ⟨j, by omega, h⟩
def inB (X : Nat → Nat) (m : Nat) : Nat → Bool
  | 0 => false
  | i + 1 => inB X m i || decide (key (X i) = key m)
theorem inB_true {X : Nat → Nat} {m i j : Nat} (hj : j < i) (h : key (X j) = key m) : inB X m i = true := by
  induction i with
  | zero => omega
  | succ i ih =>
    simp only [inB, Bool.or_eq_true, decide_eq_true_eq]
    rcases Nat.lt_or_ge j i with h1 | h1
    · exact .inl (ih h1)
    · obtain rfl : j = i := by omega
      exact .inr h
theorem inB_mx {X : Nat → Nat} {n : Nat} (h : n ≠ 0) : inB X (mxF X n) n = true := by
  rcases mxF_mem X n with h1 | ⟨j, hj, h1⟩
  · exact inB_true (j := 0) (by omega) (by rw [h1])
  · exact inB_true hj (by rw [h1])

/-- A row of floats. -/
def Row (w : World) (ao : Option Addr) (n : Nat) (X : Nat → Nat) : Prop := (∀ j, j < n → ∃ b off, ao = some ⟨b, off, .none⟩ ∧ w.cell? ⟨b, off + j, .none⟩ = some (F64 (X j))) ∧ ∀ j, X j < 18446744073709551616
theorem mxF_lt {X : Nat → Nat} (h : ∀ j, X j < 18446744073709551616) (k : Nat) : mxF X k < 18446744073709551616 := by
  rcases mxF_mem X k with h1 | ⟨j, _, h1⟩ <;> rw [h1] <;> exact h _

set_option maxHeartbeats 1000000 in
theorem max_any (ao : Option Addr) (n cap : Nat) (X : Nat → Nat) (w : World) (hn : (n : Int) ≤ 9223372036854775807) (hr : Row w ao n X) :
    Calls Try.prog 24 #[.slice ao n cap] w fun e w' => e = .returned (.tuple #[F64 (if n = 0 then 0 else mxF X n), .bool (decide (n ≠ 0))]) ∧ w' = w := by
  by_cases h0 : n = 0
  · rw [if_pos h0, decide_eq_false (by omega)]
    subst h0
    go_enter Try.func24, Try.ntmps24
    go_wp2
    go_ret2
    exact ⟨rfl, rfl⟩
  · rw [if_neg h0, decide_eq_true h0]
    have hne : ((n : Int) == 0) = false := by simpa using h0
    have hnp : (0 : Int) < (n : Int) := by omega
    have hnp2 : 0 < n := by omega
    obtain ⟨b, off, rfl, c0⟩ := hr.1 0 (by omega)
    rw [Nat.add_zero] at c0
    have h0' := Lib.hid h0
    clear h0
    go_enter Try.func24, Try.ntmps24
    go_wp2
    go_loop [4, 15] (fun v4 v15 => ∃ k : Nat, k ≤ n ∧ v15 = .int .i64 k ∧ v4 = F64 (mxF X k)) (fun _ v15 => n - (intOf v15).toNat)
    case atStart => exact ⟨0, Nat.zero_le _, rfl, rfl⟩
    case round =>
      obtain ⟨k, hk, rfl, rfl⟩ := hrel
      by_cases hlt : k < n
      · have hkl : (k : Int) < (n : Int) := by omega
        have ck : w.cell? ⟨b, off + k, .none⟩ = some (F64 (X k)) := by
          obtain ⟨b', off', he, h⟩ := hr.1 k hlt
          injection he with he; injection he with e1 e2
          rw [e1, e2]; exact h
        have hc := compare_any (X k) (mxF X k) (hr.2 _) (mxF_lt hr.2 _)
        have hs : mxF X (k + 1) = if key (mxF X k) < key (X k) then X k else mxF X k := rfl
        have hb := cmpI_cases (key (X k)) (key (mxF X k))
        generalize cmpI (key (X k)) (key (mxF X k)) = c at *
        by_cases hg : key (mxF X k) < key (X k)
        · rw [if_pos hg] at hs
          have hcc : 0 < c := by omega
          have hs := Lib.hid hs
          clear hb hg
          go_wp2_with (go_at_call 10; refine (hc _).mono ?_; rintro e w1 ⟨rfl, rfl⟩)
          go_round
          case rel => exact ⟨k + 1, by omega, by go_num, by rw [hs.out]⟩
          case measure => simp [intOf]; omega
        · rw [if_neg hg] at hs
          have hcc : ¬ 0 < c := by omega
          have hs := Lib.hid hs
          clear hb hg
          go_wp2_with (go_at_call 10; refine (hc _).mono ?_; rintro e w1 ⟨rfl, rfl⟩)
          go_round
          case rel => exact ⟨k + 1, by omega, by go_num, by rw [hs.out]⟩
          case measure => simp [intOf]; omega
      · obtain rfl : k = n := by omega
        go_wp2
        go_ret2
        exact ⟨rfl, rfl⟩

/-- A float that is brought between two. -/
theorem clamp_facts (x lo hi : Nat) : (key (clampF x lo hi) = key x ∨ key (clampF x lo hi) = key lo ∨ key (clampF x lo hi) = key hi) ∧
    (nan lo = false → nan hi = false → key lo ≤ key hi → key lo ≤ key (clampF x lo hi) ∧ key (clampF x lo hi) ≤ key hi) ∧
    (nan lo = true ∨ nan hi = true ∨ key hi < key lo → key (clampF x lo hi) = key lo) := by
  unfold clampF
  by_cases h1 : nan x = true ∨ nan lo = true ∨ nan hi = true
  · rw [if_pos h1]
    exact ⟨.inr (.inl rfl), fun _ _ h => ⟨Int.le_refl _, h⟩, fun _ => rfl⟩
  · rw [if_neg h1]
    by_cases h2 : key hi < key lo ∨ key x < key lo
    · rw [if_pos h2]
      exact ⟨.inr (.inl rfl), fun _ _ h => ⟨Int.le_refl _, h⟩, fun _ => rfl⟩
    · rw [if_neg h2]
      have h3 : ¬ (nan lo = true ∨ nan hi = true ∨ key hi < key lo) := by
        rintro (h | h | h)
        · exact h1 (.inr (.inl h))
        · exact h1 (.inr (.inr h))
        · exact h2 (.inl h)
      by_cases h4 : key hi < key x
      · rw [if_pos h4]
        exact ⟨.inr (.inr rfl), fun _ _ h => ⟨h, Int.le_refl _⟩, fun h => absurd h h3⟩
      · rw [if_neg h4]
        exact ⟨.inl rfl, fun _ _ h => ⟨by omega, by omega⟩, fun h => absurd h h3⟩
end Go.Proofs.Ytngglkefhinkgab
