/- The reference's bias. -/
import Derived.Test.YtkeiehgojclecaaDoorRfD

namespace Go.Proofs.YtkeiehgojclecaaDoor

open Go.RowKit Fl

attribute [local go_sem ↓] Go.wp_at_zero Go.wp_at_succ

set_option maxRecDepth 100000 in
set_option maxHeartbeats 400000 in
theorem rbias_any (x : Nat) (hx : x < 18446744073709551616) (w : World) :
    Calls Tryd.prog 35 #[F64 x] w fun e w' => e = .returned (.string (S (wrL x))) ∧ Below w.heap.size w w' := by
  have hwr : wrL x = if nan x = true then [110, 97, 110] else pad16 x := rfl
  have hb := run_bits x
  have h1 := Lib.hid (rhex_any x hx w)
  go_enter Tryd.func35, Tryd.ntmps35
  have hl16 := hexL_le16 hx
  have e0 : ∀ l, ByteArray.mk #[48] ++ S l = S (48 :: l) := fun l => S_append [48] l
  have hne : (FloatKind.f64.format.order x x != some Ordering.eq) = nan x := by rw [fmt_eq, bne, order_eqB, Fl.eq_self, Bool.not_not]
  cases hn : nan x with
  | true =>
    rw [hn, if_pos rfl] at hwr
    rw [hn] at hne
    have hwr' := Lib.hid hwr
    clear hwr hn h1 e0
    go_wp2_with fail
    go_ret
    exact ⟨by rw [hwr'.out]; rfl, Below.refl _ _⟩
  | false =>
    rw [hn, if_neg (by decide)] at hwr
    rw [hn] at hne
    have hpad : Hid (∀ k, k + (hexL x).length = 16 → List.replicate k 48 ++ hexL x = wrL x) := Lib.hid fun k hk => by rw [hwr]; unfold pad16; rw [show 16 - (hexL x).length = k by omega]
    clear hwr hn
    obtain ⟨m, hm, hm'⟩ : ∃ m, Hid (m = (hexL x).length) ∧ m = (hexL x).length := ⟨_, Lib.hid rfl, rfl⟩
    rw [← hm'] at hl16
    clear hm'
    generalize hexL x = L at *
    go_wp2_with (go_at_call 34; refine h1.out.mono ?_; rintro r w1 ⟨rfl, hb1⟩)
    go_loopw [3] (fun v3 wr => ∃ k : Nat, v3 = .string (S (List.replicate k 48 ++ L)) ∧ k + m ≤ 16 ∧ wr = w1) (fun v3 _ => 16 - (match v3 with | .string s => s.size | _ => 0))
    case atStart => exact ⟨0, rfl, by omega, rfl⟩
    case round =>
      obtain ⟨k, rfl, hk, rfl⟩ := hrel
      have hsz : (List.replicate k 48 ++ L).length = k + m := by rw [List.length_append, List.length_replicate, ← hm.out]
      have hS : (S (List.replicate k 48 ++ L)).size = k + m := by rw [S_size, hsz]
      have hnx : ByteArray.mk #[48] ++ S (List.replicate k 48 ++ L) = S (List.replicate (k + 1) 48 ++ L) := by rw [e0, List.replicate_succ]; rfl
      clear e0 hsz
      by_cases hlt : k + m < 16
      · have hlt' : ((k : Int) + (m : Int)) < 16 := by omega
        go_wp2_with fail
        refine ⟨⟨k + 1, rfl, by omega, trivial⟩, ?_⟩
        show 16 - (S (List.replicate (k + 1) 48 ++ L)).size < 16 - (S (List.replicate k 48 ++ L)).size
        have hmm := hm.out
        rw [S_size, S_size, List.length_append, List.length_append, List.length_replicate, List.length_replicate]
        omega
      · have hlt' : ¬ ((k : Int) + (m : Int)) < 16 := by omega
        have hp := Lib.hid (hpad.out k (by have := hm.out; omega))
        go_wp2_with fail
        go_ret
        exact ⟨by rw [← hp.out]; rfl, hb1⟩
end Go.Proofs.YtkeiehgojclecaaDoor
