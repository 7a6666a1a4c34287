/- Texts bound together: PlnX QTail. -/
import Derived.StillTail

import Derived.Test.YtcgakbgmdabnkaaGreatBn6

import Derived.Test.YtcgakbgmdabnkaaGreatBn1

set_option linter.all false
/- The walks of plan's Words, Status, Slot, Mag, Split, Address. -/
namespace Go.Proofs.YtcgakbgmdabnkaaGreat

open Go.RowKit


set_option maxHeartbeats 800000 in
theorem planStatus_any (p c m x : Int) (w : World) :
    Calls Tryz.prog 43 #[.agg #[.int .i64 p, .int .i64 c, .int .i64 m], .int .i64 x] w fun e w' => e = .returned (.int .i64 (statusIx p c m x)) ∧ Below w.heap.size w w' := by
  by_cases h1 : mayB p c m = true
  case neg =>
    have h1' : mayB p c m = false := by simpa using h1
    have hv : statusIx p c m x = -1 := by unfold statusIx; rw [if_neg (fun h => h1 h.1)]
    rw [hv]
    clear h1 hv
    go_enter Tryz.func43, Tryz.ntmps43
    go_wp2_with (first
        | (go_at_call 100; refine (may_any _ _ _ _).mono ?_; rintro e w1 ⟨rfl, rfl⟩)
        | (go_at_call 101; refine (within_any _ _ _ _).mono ?_; rintro e w' ⟨rfl, rfl⟩))
    go_ret
    exact ⟨rfl, by go_grown⟩
  case pos =>
    have hb := mayB_iff.1 h1
    have wc : wrap64 (c - 1) = c - 1 := IntWalk.wrap64_in _ ⟨by omega, by omega⟩
    by_cases q0 : wi x 0 (c - 1) = true
    case neg =>
      have q' : wi x 0 (c - 1) = false := by simpa using q0
      have hv : statusIx p c m x = -1 := by unfold statusIx; rw [if_neg (fun h => q0 h.2)]
      rw [hv]
      clear q0 hv
      go_enter Tryz.func43, Tryz.ntmps43
      go_wp2_with (first
        | (go_at_call 100; refine (may_any _ _ _ _).mono ?_; rintro e w1 ⟨rfl, rfl⟩)
        | (go_at_call 101; refine (within_any _ _ _ _).mono ?_; rintro e w' ⟨rfl, rfl⟩))
      go_ret
      exact ⟨rfl, by go_grown⟩
    have b0 := wi_iff.1 q0
    have hv : statusIx p c m x = x := by unfold statusIx; rw [if_pos ⟨h1, q0⟩]
    rw [hv]
    clear hv
    go_enter Tryz.func43, Tryz.ntmps43
    go_wp2_with (first
        | (go_at_call 100; refine (may_any _ _ _ _).mono ?_; rintro e w1 ⟨rfl, rfl⟩)
        | (go_at_call 101; refine (within_any _ _ _ _).mono ?_; rintro e w' ⟨rfl, rfl⟩))
    go_ret
    exact ⟨rfl, by go_grown⟩

set_option maxHeartbeats 800000 in
theorem planSlot_any (p c m a i : Int) (w : World) :
    Calls Tryz.prog 221 #[.agg #[.int .i64 p, .int .i64 c, .int .i64 m], .int .i64 a, .int .i64 i] w fun e w' => e = .returned (.int .i64 (slotIx p c m a i)) ∧ Below w.heap.size w w' := by
  by_cases h1 : mayB p c m = true
  case neg =>
    have h1' : mayB p c m = false := by simpa using h1
    have hv : slotIx p c m a i = -1 := by unfold slotIx; rw [if_neg (fun h => h1 h.1)]
    rw [hv]
    clear h1 hv
    go_enter Tryz.func221, Tryz.ntmps221
    go_wp2_with (first
        | (go_at_call 100; refine (may_any _ _ _ _).mono ?_; rintro e w1 ⟨rfl, rfl⟩)
        | (go_at_call 101; refine (within_any _ _ _ _).mono ?_; rintro e w' ⟨rfl, rfl⟩))
    go_ret
    exact ⟨rfl, by go_grown⟩
  case pos =>
    have hb := mayB_iff.1 h1
    have wc : wrap64 (p - 1) = p - 1 := IntWalk.wrap64_in _ ⟨by omega, by omega⟩
    by_cases q0 : wi a 0 (p - 1) = true
    case neg =>
      have q' : wi a 0 (p - 1) = false := by simpa using q0
      have hv : slotIx p c m a i = -1 := by unfold slotIx; rw [if_neg (fun h => q0 h.2.1)]
      rw [hv]
      clear q0 hv
      go_enter Tryz.func221, Tryz.ntmps221
      go_wp2_with (first
        | (go_at_call 100; refine (may_any _ _ _ _).mono ?_; rintro e w1 ⟨rfl, rfl⟩)
        | (go_at_call 101; refine (within_any _ _ _ _).mono ?_; rintro e w' ⟨rfl, rfl⟩))
      go_ret
      exact ⟨rfl, by go_grown⟩
    have b0 := wi_iff.1 q0
    by_cases q1 : wi i 0 15 = true
    case neg =>
      have q' : wi i 0 15 = false := by simpa using q1
      have hv : slotIx p c m a i = -1 := by unfold slotIx; rw [if_neg (fun h => q1 h.2.2)]
      rw [hv]
      clear q1 hv
      go_enter Tryz.func221, Tryz.ntmps221
      go_wp2_with (first
        | (go_at_call 100; refine (may_any _ _ _ _).mono ?_; rintro e w1 ⟨rfl, rfl⟩)
        | (go_at_call 101; refine (within_any _ _ _ _).mono ?_; rintro e w' ⟨rfl, rfl⟩))
      go_ret
      exact ⟨rfl, by go_grown⟩
    have b1 := wi_iff.1 q1
    have hv : slotIx p c m a i = c + p + a * 16 + i := by unfold slotIx; rw [if_pos ⟨h1, q0, q1⟩]
    rw [hv]
    clear hv
    have w1 : IntKind.i64.wrap (c + p) = c + p := IntWalk.i64_in _ ⟨by omega, by omega⟩
    have w2 : IntKind.i64.wrap (a * 16) = a * 16 := IntWalk.i64_in _ ⟨by omega, by omega⟩
    have w3 : IntKind.i64.wrap (c + p + a * 16) = c + p + a * 16 := IntWalk.i64_in _ ⟨by omega, by omega⟩
    have w4 : IntKind.i64.wrap (c + p + a * 16 + i) = c + p + a * 16 + i := IntWalk.i64_in _ ⟨by omega, by omega⟩
    go_enter Tryz.func221, Tryz.ntmps221
    go_wp2_with (first
        | (go_at_call 100; refine (may_any _ _ _ _).mono ?_; rintro e w1 ⟨rfl, rfl⟩)
        | (go_at_call 101; refine (within_any _ _ _ _).mono ?_; rintro e w' ⟨rfl, rfl⟩))
    go_ret
    exact ⟨rfl, by go_grown⟩

set_option maxHeartbeats 800000 in
theorem planMag_any (p c m x i : Int) (w : World) :
    Calls Tryz.prog 250 #[.agg #[.int .i64 p, .int .i64 c, .int .i64 m], .int .i64 x, .int .i64 i] w fun e w' => e = .returned (.int .i64 (magIx p c m x i)) ∧ Below w.heap.size w w' := by
  by_cases h1 : mayB p c m = true
  case neg =>
    have h1' : mayB p c m = false := by simpa using h1
    have hv : magIx p c m x i = -1 := by unfold magIx; rw [if_neg (fun h => h1 h.1)]
    rw [hv]
    clear h1 hv
    go_enter Tryz.func250, Tryz.ntmps250
    go_wp2_with (first
        | (go_at_call 100; refine (may_any _ _ _ _).mono ?_; rintro e w1 ⟨rfl, rfl⟩)
        | (go_at_call 101; refine (within_any _ _ _ _).mono ?_; rintro e w' ⟨rfl, rfl⟩))
    go_ret
    exact ⟨rfl, by go_grown⟩
  case pos =>
    have hb := mayB_iff.1 h1
    have wc : wrap64 (c - 1) = c - 1 := IntWalk.wrap64_in _ ⟨by omega, by omega⟩
    have wd : wrap64 (m - 1) = m - 1 := IntWalk.wrap64_in _ ⟨by omega, by omega⟩
    by_cases q0 : wi x 0 (c - 1) = true
    case neg =>
      have q' : wi x 0 (c - 1) = false := by simpa using q0
      have hv : magIx p c m x i = -1 := by unfold magIx; rw [if_neg (fun h => q0 h.2.1)]
      rw [hv]
      clear q0 hv
      go_enter Tryz.func250, Tryz.ntmps250
      go_wp2_with (first
        | (go_at_call 100; refine (may_any _ _ _ _).mono ?_; rintro e w1 ⟨rfl, rfl⟩)
        | (go_at_call 101; refine (within_any _ _ _ _).mono ?_; rintro e w' ⟨rfl, rfl⟩))
      go_ret
      exact ⟨rfl, by go_grown⟩
    have b0 := wi_iff.1 q0
    by_cases q1 : wi i 0 (m - 1) = true
    case neg =>
      have q' : wi i 0 (m - 1) = false := by simpa using q1
      have hv : magIx p c m x i = -1 := by unfold magIx; rw [if_neg (fun h => q1 h.2.2)]
      rw [hv]
      clear q1 hv
      go_enter Tryz.func250, Tryz.ntmps250
      go_wp2_with (first
        | (go_at_call 100; refine (may_any _ _ _ _).mono ?_; rintro e w1 ⟨rfl, rfl⟩)
        | (go_at_call 101; refine (within_any _ _ _ _).mono ?_; rintro e w' ⟨rfl, rfl⟩))
      go_ret
      exact ⟨rfl, by go_grown⟩
    have b1 := wi_iff.1 q1
    have hv : magIx p c m x i = c + p + p * 16 + x * m + i := by unfold magIx; rw [if_pos ⟨h1, q0, q1⟩]
    rw [hv]
    clear hv
    have hm := mul_bd (c := x) (m := m) (C := 11) (M := 8) (by omega) (by omega)
    have w1 : IntKind.i64.wrap (c + p) = c + p := IntWalk.i64_in _ ⟨by omega, by omega⟩
    have w2 : IntKind.i64.wrap (p * 16) = p * 16 := IntWalk.i64_in _ ⟨by omega, by omega⟩
    have w3 : IntKind.i64.wrap (c + p + p * 16) = c + p + p * 16 := IntWalk.i64_in _ ⟨by omega, by omega⟩
    have w4 : IntKind.i64.wrap (x * m) = x * m := IntWalk.i64_in _ ⟨by omega, by omega⟩
    have w5 : IntKind.i64.wrap (c + p + p * 16 + x * m) = c + p + p * 16 + x * m := IntWalk.i64_in _ ⟨by omega, by omega⟩
    have w6 : IntKind.i64.wrap (c + p + p * 16 + x * m + i) = c + p + p * 16 + x * m + i := IntWalk.i64_in _ ⟨by omega, by omega⟩
    go_enter Tryz.func250, Tryz.ntmps250
    go_wp2_with (first
        | (go_at_call 100; refine (may_any _ _ _ _).mono ?_; rintro e w1 ⟨rfl, rfl⟩)
        | (go_at_call 101; refine (within_any _ _ _ _).mono ?_; rintro e w' ⟨rfl, rfl⟩))
    go_ret
    exact ⟨rfl, by go_grown⟩


def splitB (p c m a : Int) : Bool := mayB p c m && wi a 0 (p * 64 - 1)
theorem and63 (x : Int) (h0 : 0 ≤ x) (h1 : x < 9223372036854775808) : bits .and .i64 x 63 = x % 64 :=
  bits_mask .i64 63 (by decide) (fun n a b => IntWalk.i64_in _ ⟨by omega, by omega⟩) 6 (by decide) x h0 h1
set_option maxHeartbeats 800000 in
theorem split_any (p c m a : Int) (w : World) :
    Calls Tryz.prog 105 #[.agg #[.int .i64 p, .int .i64 c, .int .i64 m], .int .i64 a] w fun e w' => e = .returned (.tuple (if splitB p c m a = true then #[.int .i64 (a / 64), .int .i64 (a % 64), .bool true] else #[.int .i64 0, .int .i64 0, .bool false])) ∧ Below w.heap.size w w' := by
  by_cases h1 : mayB p c m = true
  case neg =>
    have h1' : mayB p c m = false := by simpa using h1
    have hv : splitB p c m a = false := by unfold splitB; rw [h1']; rfl
    rw [hv, if_neg Bool.false_ne_true]
    clear h1 hv
    go_enter Tryz.func105, Tryz.ntmps105
    go_wp2_with (first
        | (go_at_call 100; refine (may_any _ _ _ _).mono ?_; rintro e w1 ⟨rfl, rfl⟩)
        | (go_at_call 101; refine (within_any _ _ _ _).mono ?_; rintro e w' ⟨rfl, rfl⟩))
    go_ret3
    exact ⟨rfl, by go_grown⟩
  case pos =>
    have hb := mayB_iff.1 h1
    have w1 : IntKind.i64.wrap (p * 64) = p * 64 := IntWalk.i64_in _ ⟨by omega, by omega⟩
    have w2 : IntKind.i64.wrap (p * 64 - 1) = p * 64 - 1 := IntWalk.i64_in _ ⟨by omega, by omega⟩
    by_cases q0 : wi a 0 (p * 64 - 1) = true
    case neg =>
      have q' : wi a 0 (p * 64 - 1) = false := by simpa using q0
      have hv : splitB p c m a = false := by unfold splitB; rw [q', Bool.and_false]
      rw [hv, if_neg Bool.false_ne_true]
      clear q0 hv
      go_enter Tryz.func105, Tryz.ntmps105
      go_wp2_with (first
        | (go_at_call 100; refine (may_any _ _ _ _).mono ?_; rintro e w1 ⟨rfl, rfl⟩)
        | (go_at_call 101; refine (within_any _ _ _ _).mono ?_; rintro e w' ⟨rfl, rfl⟩))
      go_ret3
      exact ⟨rfl, by go_grown⟩
    have b0 := wi_iff.1 q0
    have hv : splitB p c m a = true := by unfold splitB; rw [h1, q0]; rfl
    rw [hv, if_pos rfl]
    clear hv
    have hand := and63 a (by omega) (by omega)
    go_enter Tryz.func105, Tryz.ntmps105
    go_wp2_with (first
        | (go_at_call 100; refine (may_any _ _ _ _).mono ?_; rintro e w1 ⟨rfl, rfl⟩)
        | (go_at_call 101; refine (within_any _ _ _ _).mono ?_; rintro e w' ⟨rfl, rfl⟩))
    go_ret3
    exact ⟨rfl, by go_grown⟩

set_option maxHeartbeats 800000 in
theorem address_any (p i k : Int) (w : World) (hp : 0 ≤ p ∧ p ≤ 64) (hi : 0 ≤ i ∧ i ≤ 16) :
    Calls Tryz.prog 154 #[.int .i64 p, .int .i64 i, .int .i64 k] w fun e w' => e = .returned (.int .i64 (p * 64 + i * sizeV k)) ∧ w' = w := by
  have hs := size_bd k
  have hm := mul_bd (c := i) (m := sizeV k) (C := 16) (M := 32) (by omega) (by omega)
  have w1 : IntKind.i64.wrap (p * 64) = p * 64 := IntWalk.i64_in _ ⟨by omega, by omega⟩
  have w2 : IntKind.i64.wrap (i * sizeV k) = i * sizeV k := IntWalk.i64_in _ ⟨by omega, by omega⟩
  have w3 : IntKind.i64.wrap (p * 64 + i * sizeV k) = p * 64 + i * sizeV k := IntWalk.i64_in _ ⟨by omega, by omega⟩
  go_enter Tryz.func154, Tryz.ntmps154
  go_wp2_with (go_at_call 148; refine (size_any _ _).mono ?_; rintro e w' ⟨rfl, rfl⟩)
  go_ret
  exact ⟨rfl, rfl⟩
end Go.Proofs.YtcgakbgmdabnkaaGreat
/- A drawn region whose operations read, or call what makes memory of its own, but for a last row of operations that wait for all others: one walk. -/
namespace Go.Proofs.YtcgakbgmdabnkaaGreat

open Go.RowKit

section

variable {P : Program} {ops : Array Oper} {md : Region.Mode} {C : World → Prop}

/-- Whatever order the first n operations are picked in, each of them quiet in the class. -/
def headQ (P : Program) (md : Region.Mode) (ops : Array Oper) (C : World → Prop) (n : Nat) (L : Array Bool → Act → Prop) : Nat → Array Bool → Act → Prop
  | 0, listed, a => L listed a
  | f + 1, listed, a => Region.ready md ops listed ≠ [] ∧ ∀ i ∈ Region.ready md ops listed, i < n ∧ qOp P ops C i (headQ P md ops C n L f (listed.setIfInBounds i true)) a

theorem headQ_any {n g : Nat} {L : Array Bool → Act → Prop} {Q' : Exit → Act → World → Prop} (hL : ∀ listed a w, C w → L listed a → wpAny P md ops Q' g listed a w) (f : Nat) :
    ∀ (listed : Array Bool) (a : Act) (w : World), C w → headQ P md ops C n L f listed a → wpAny P md ops Q' (f + g) listed a w := by
  induction f with
  | zero => intro listed a w hw h; rw [Nat.zero_add]; exact hL _ _ _ hw h
  | succ f ih =>
    intro listed a w hw h
    rw [show f + 1 + g = (f + g) + 1 by omega]
    exact ⟨fun h0 => absurd h0 h.1, fun i hi => wpOp_of_qOp hw (fun a' w' hw' h' => ih _ a' w' hw' h') (h.2 i hi).2⟩

theorem headQ_first {n i : Nat} {oi : Oper} {v : Value} {L : Array Bool → Act → Prop} (hi : ops[i]? = some oi) (hsel : ∀ (j : Nat) (o : Oper) cs b, ops[j]? = some o → o.op ≠ .select cs b)
    (hs : Region.sinkB md ops n = true) (hc : Region.chainB md ops n = true) (hn : n < ops.size) (hin : i < n)
    (hdone : ∀ listed a, L listed a → ∀ j ∈ Region.ready md ops listed, n ≤ j) (f : Nat) :
    ∀ (listed : Array Bool) (a : Act), HeadInv md ops n listed →
      (∀ j oj, ops[j]? = some oj → j ≠ i → listed.getD j true = false → (∀ e ∈ oj.after, Region.binds md e = true → e.on ≠ i) → oi.apart ops oj = true) →
      i ∈ Region.ready md ops listed → YieldsIn P ops C oi v a → headQ P md ops C n L f (listed.setIfInBounds i true) (a.put oi.dst v) → headQ P md ops C n L (f + 1) listed a := by
  have small : ∀ listed : Array Bool, HeadInv md ops n listed → i ∈ Region.ready md ops listed → ∀ j ∈ Region.ready md ops listed, j < n := fun listed inv hr j hj => by
    rcases Nat.lt_or_ge j n with h | h
    · exact h
    · exact absurd hj (tail_waits hs hc hn inv _ i rfl hin (mem_ready.1 hr).1 j h)
  induction f with
  | zero =>
    intro listed a inv _ hr hy H
    refine ⟨fun h => (by rw [h] at hr; cases hr), fun j hj => ?_⟩
    have hjn := small listed inv hr j hj
    by_cases hji : j = i
    · subst hji; exact ⟨hjn, hy.qOp hi H⟩
    · have := hdone _ _ H j (ready_mono hj hji)
      omega
  | succ f ih =>
    intro listed a inv hfree hr hy H
    refine ⟨fun h => (by rw [h] at hr; cases hr), fun j hj => ?_⟩
    have hjn := small listed inv hr j hj
    refine ⟨hjn, ?_⟩
    by_cases hji : j = i
    · subst hji; exact hy.qOp hi H
    · have h1 := (H.2 j (ready_mono hj hji)).2
      obtain ⟨hjun, oj, hoj, hall⟩ := mem_ready.1 hj
      have hnot : ∀ e ∈ oj.after, Region.binds md e = true → e.on ≠ i := fun e he hb heq => by
        have h1 := hall e he hb
        rw [heq, getD_both (mem_ready.1 hr).1] at h1
        cases h1
      have h2 := qOp_put hoj (hfree j oj hoj hji hjun hnot) (fun cs b => hsel i oi cs b hi) (fun cs b => hsel j oj cs b hoj) hy h1
      refine qOp_mono (fun a' h3 => ih (listed.setIfInBounds j true) a' (inv.set hj hjn) (fun k ok hk hki hun hno => ?_) (ready_mono hr (Ne.symm hji)) h3.1 ?_) h2
      · refine hfree k ok hk hki ?_ hno
        by_cases hjk : j = k
        · subst hjk; exact hjun
        · rw [getD_set_ne true hjk] at hun; exact hun
      · rw [Array.setIfInBounds_comm _ _ hji]
        exact h3.2

theorem headQ_lex {n g : Nat} {Lq : Act → Prop} (hsel : Region.noSelect ops = true) (hs : Region.sinkB md ops n = true) (hc : Region.chainB md ops n = true) (hn : n < ops.size) (l : List Oper) :
    ∀ (k : Nat) (listed : Array Bool) (a : Act), (∀ j, j < l.length → l[j]? = ops[k + j]?) → k + l.length = n → HeadInv md ops n listed →
    Region.lexHead md ops g l.length k listed = true → wpQuiet P ops C Lq l a → headQ P md ops C n (fun listed' a' => Region.seqB md ops g n listed' = true ∧ Lq a') l.length listed a := by
  induction l with
  | nil =>
    intro k listed a _ hk _ hB h
    have : k = n := by simpa using hk
    subst this
    exact ⟨by simpa [Region.lexHead] using hB, h⟩
  | cons o l ih =>
    intro k listed a hl hk inv hB h
    have h0 : ops[k]? = some o := by simpa using (hl 0 (by simp)).symm
    simp only [List.length_cons, Region.lexHead, Bool.and_eq_true] at hB
    obtain ⟨⟨hr, hf⟩, hB'⟩ := hB
    have hkn : k < n := by simp only [List.length_cons] at hk; omega
    have hr' : k ∈ Region.ready md ops listed := by simpa using hr
    have hst : qOp P ops C k (wpQuiet P ops C Lq l) a := by unfold qOp; simp only [h0]; exact h
    obtain ⟨v, hy, hK⟩ := yieldsIn_of_qOp h0 hst
    exact headQ_first h0 (Region.noSelect_spec hsel) hs hc hn hkn (fun listed' a' hL => seqB_ready hL.1) l.length listed a inv (Region.free_spec h0 hf) hr' hy
      (ih (k + 1) _ _ (fun j hj => by have := hl (j + 1) (by simp; omega); simpa [Nat.add_assoc, Nat.add_comm 1 j] using this) (by simp only [List.length_cons] at hk; omega) (inv.set hr' hkn) hB' hK)

theorem wp_region_quiet_tail {id : Nat} {Q : Exit → Act → World → Prop} {a : Act} {w : World} {l : List Oper} (n : Nat) (hm : P.follows .mixedOrders = true) (hB : Region.lexTailB .any l.toArray n = true) (hC : C { w with drawn := w.drawn + 1 })
    (h : wpQuiet P l.toArray C (fun a' => ∀ w', C w' → wpList P l.toArray Q (l.drop n) a' w') (l.take n) a) : (Code.region id l.toArray true).wp P Q a w := by
  simp only [Region.lexTailB, Bool.and_eq_true, decide_eq_true_eq] at hB
  obtain ⟨⟨⟨⟨hsel, hn⟩, hs⟩, hc⟩, hlex⟩ := hB
  have hn' : n < l.length := by simpa using hn
  have htl : (l.take n).length = n := by simp; omega
  have hdl : (l.drop n).length = l.toArray.size - n := by simp
  have inv0 : HeadInv .any l.toArray n (Array.replicate l.toArray.size false) :=
    ⟨by simp, fun j oj _ hl => (by rw [getD_replicate_false] at hl; cases hl), fun t _ ht => getD_in (by simpa using ht) (getD_replicate_false _ _)⟩
  have H := headQ_lex (md := .any) (g := l.toArray.size - n) hsel hs hc hn (l.take n) 0 _ a (fun j hj => by
    have hj' : j < n := by rw [htl] at hj; exact hj
    simp [hj']) (by simpa using htl) inv0 (by rw [htl]; exact hlex) h
  refine wp_region_any hm ?_
  have := headQ_any (Q' := Q) (g := l.toArray.size - n) (fun listed a' w' hw' hL => by
    have := wpAny_of_seq (md := .any) (Q' := Q) (l.drop n) n listed a' w' (fun j => by simp [List.getElem?_drop]) (by rw [hdl]; exact hL.1) (hL.2 w' hw')
    rwa [hdl] at this) _ _ _ _ hC H
  rw [htl, show n + (l.toArray.size - n) = l.toArray.size by omega] at this
  exact this
end

/-- The same at the class of worlds in which what was there is as it was. -/
theorem wp_region_ext_tail {P : Program} {id : Nat} {Q : Exit → Act → World → Prop} {a : Act} {w : World} {l : List Oper} (n : Nat) (hm : P.follows .mixedOrders = true) (hB : Region.lexTailB .any l.toArray n = true)
    (h : wpQuiet P l.toArray (fun w' => ∃ e : Ext w, w' = e.w) (fun a' => ∀ w', (∃ e : Ext w, w' = e.w) → wpList P l.toArray Q (l.drop n) a' w') (l.take n) a) : (Code.region id l.toArray true).wp P Q a w :=
  wp_region_quiet_tail n hm hB ⟨⟨_, (Below.refl _ _).drew⟩, rfl⟩ h
end Go.Proofs.YtcgakbgmdabnkaaGreat
