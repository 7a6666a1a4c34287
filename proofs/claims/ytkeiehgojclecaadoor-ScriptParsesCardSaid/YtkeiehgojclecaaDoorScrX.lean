/- The walks of package script's lines, written. -/
import Derived.Test.YtkeiehgojclecaaDoorScrS

namespace Go.Proofs.YtkeiehgojclecaaDoor

open Go.RowKit

attribute [local go_sem ↓] Go.wp_at_zero Go.wp_at_succ

/-- Numbers with blanks between, behind a word. -/
def wordsL (p : List UInt8) (zs : List Int) : List UInt8 := p ++ zs.flatMap fun z => 32 :: Lib.itoa z
def i64 (z : Int) : Prop := -9223372036854775808 ≤ z ∧ z ≤ 9223372036854775807
theorem wordsL_snoc (p : List UInt8) (zs : List Int) (z : Int) : wordsL p (zs ++ [z]) = wordsL p zs ++ (32 :: Lib.itoa z) := by simp [wordsL]
theorem wordsL_length (p : List UInt8) (zs : List Int) (hz : ∀ z ∈ zs, i64 z) : (wordsL p zs).length ≤ p.length + 22 * zs.length := by
  unfold wordsL
  rw [List.length_append]
  induction zs with
  | nil => simp
  | cons z zs ih =>
    have h1 := Lib.itoa_length_le z (hz z (by simp)).1 (hz z (by simp)).2
    have h2 := ih (fun y hy => hz y (by simp [hy]))
    simp only [List.flatMap_cons, List.length_append, List.length_cons]
    omega
set_option maxRecDepth 100000 in
theorem words_any (p : List UInt8) (zs : List Int) (v : Value) (w : World) (hr : RdZ .i64 w v zs) (hz : ∀ z ∈ zs, i64 z) (hn : zs.length ≤ 100) (hp : p.length ≤ 1000000) (h : Laid w) :
    Calls Tryd.prog 25 #[.string (S p), v] w fun e w' => e = .returned (.string (S (wordsL p zs))) ∧ Below w.heap.size w w' := by
  obtain ⟨ao, cap, rfl, hcap, hcm, hrow⟩ := hr.cells
  have hit := Lib.hid (fun z hz X hX => itoa_any z hz X (h.below (w' := X) hX))
  clear h
  obtain ⟨n, hnn, hn'⟩ : ∃ n, Hid (n = zs.length) ∧ n = zs.length := ⟨_, Lib.hid rfl, rfl⟩
  rw [← hn'] at hcap hn ⊢
  clear hn' hr
  replace hz := Lib.hid hz
  replace hrow := Lib.hid hrow
  go_enter Tryd.func25, Tryd.ntmps25
  go_wp2_with fail
  go_loopw [0, 9] (fun v0 v9 wr => ∃ i : Nat, i ≤ n ∧ v9 = .int .i64 i ∧ v0 = .string (S (wordsL p (zs.take i))) ∧ Below w.heap.size w wr) (fun _ v9 _ => n - (intOf v9).toNat)
  case atStart => exact ⟨0, Nat.zero_le _, rfl, by simp [wordsL], Below.refl _ _⟩
  case round =>
    obtain ⟨i, hi, rfl, rfl, hbr⟩ := hrel
    obtain ⟨Y, rfl⟩ : ∃ V : World, V = wr := ⟨_, rfl⟩
    by_cases hlt : i < n
    · have hlt' : (i : Int) < (n : Int) := by omega
      have hi0' : (0 : Int) ≤ (i : Int) := by omega
      have wi1 : IntKind.i64.wrap ((i : Int) + 1) = (i : Int) + 1 := IntWalk.i64_in _ ⟨by omega, by omega⟩
      have hil : i < zs.length := hnn.out ▸ hlt
      obtain ⟨b, off, rfl, hbw, hcc⟩ := hrow.out (fun e => by rw [e] at hil; simp at hil)
      have x0 : Y.cell? ⟨b, off + i, .none⟩ = some (.int .i64 zs[i]) := keepF hbr _ _ _ (hcc i hil)
      have hc1 := hit.out zs[i] (hz.out _ (List.getElem_mem hil)) Y hbr
      have hst : S (wordsL p (zs.take i)) ++ (S [32] ++ S (Lib.itoa zs[i])) = S (wordsL p (zs.take (i + 1))) := by
        rw [List.take_add_one, List.getElem?_eq_getElem hil, Option.toList_some, wordsL_snoc, S_append, S_append]; rfl
      replace hst := Lib.hid hst
      have hl1 := Lib.itoa_length_le zs[i] (hz.out _ (List.getElem_mem hil)).1 (hz.out _ (List.getElem_mem hil)).2
      have hl2 := wordsL_length p (zs.take i) (fun z h => hz.out z (List.mem_of_mem_take h))
      have hl3 : (zs.take i).length ≤ 100 := by rw [List.length_take]; omega
      clear hcc hrow hit hz
      generalize zs[i] = z at *
      replace hc1 := Lib.hid hc1
      have q1 : ¬ 9223372036854775807 < 1 + (Lib.itoa z).length := by omega
      have q2 : ¬ 9223372036854775807 < (wordsL p (zs.take i)).length + (1 + (Lib.itoa z).length) := by omega
      clear hl1 hl2 hl3
      go_wp2_with (go_at_call 41; refine hc1.out.mono ?_; rintro r w1 ⟨rfl, hb1⟩)
      refine ⟨⟨i + 1, by omega, by go_num, congrArg Value.string hst.out, hbr.trans (hb1.mono hbr.size)⟩, by simp [intOf]; omega⟩
    · have him : i = n := by omega
      subst him
      rw [show zs.take i = zs from List.take_of_length_le (Nat.le_of_eq hnn.out.symm)]
      go_wp2
      go_ret
      exact ⟨rfl, hbr⟩
end Go.Proofs.YtkeiehgojclecaaDoor
