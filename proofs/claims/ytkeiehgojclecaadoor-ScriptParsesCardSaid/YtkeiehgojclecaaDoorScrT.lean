/- Printed texts are short: plain. -/
import Derived.Test.YtkeiehgojclecaaDoorScrJ

namespace Go.Proofs.YtkeiehgojclecaaDoor

open Go.RowKit

theorem showL_length {c : Ch} (hc : c.wf) {s : List UInt8} (h : showL c = some s) : s.length ≤ 100 := by
  obtain ⟨_, w2, _, w4, w5, w6⟩ := hc
  have i2 := Lib.itoa_length_le c.client w2.1 w2.2
  have i4 := Lib.itoa_length_le c.oa w4.1 w4.2
  have i5 := Lib.itoa_length_le c.on w5.1 w5.2
  have i6 := wrL_length w6
  unfold showL askL wordsL at h
  repeat' split at h
  all_goals first
    | cases h; done
    | (injection h with h; subst h; simp; omega)
theorem showsO_length {l : List Ch} (hl : ∀ c ∈ l, c.wf) {t : List UInt8} (h : showsO l = some t) : t.length ≤ 101 * l.length := by
  induction l generalizing t with
  | nil => simp [showsO] at h; subst h; simp
  | cons c r ih =>
    obtain ⟨s, h1, h2⟩ := Option.bind_eq_some_iff.1 h
    obtain ⟨u, h3, rfl⟩ := Option.map_eq_some_iff.1 h2
    have k1 := showL_length (hl c (by simp)) h1
    have k2 := ih (fun d hd => hl d (by simp [hd])) h3
    simp
    omega
theorem headL_length {p c m : Int} (hp : i64 p) (hc : i64 c) (hm : i64 m) : (headL p c m).length ≤ 101 := by
  have := wordsL_length [104, 101, 97, 112] [p, c, m] (by intro z hz; simp at hz; rcases hz with rfl | rfl | rfl <;> assumption)
  unfold headL
  simp at this ⊢
  omega
theorem small_text {p c m : Int} (hp : i64 p) (hc : i64 c) (hm : i64 m) {l : List Ch} (hl : ∀ c ∈ l, c.wf) (hn : l.length ≤ 600) (i : Nat) (t : List UInt8) (h : showsO (l.take i) = some t) : (headL p c m ++ t).length ≤ 65536 := by
  have h1 := headL_length hp hc hm
  have h2 := showsO_length (fun d hd => hl d (List.mem_of_mem_take hd)) h
  have h3 : (l.take i).length ≤ 600 := Nat.le_trans (by rw [List.length_take]; exact Nat.min_le_right _ _) hn
  rw [List.length_append]
  omega
end Go.Proofs.YtkeiehgojclecaaDoor
