/- The walk of the reference's Room. -/
import Derived.Test.YtpplmgahpohbmabMdlR
namespace Go.Proofs.Ytpplmgahpohbmab
open Go.RowKit
attribute [local go_sem ↓] Go.wp_at_zero Go.wp_at_succ

set_option maxHeartbeats 2000000 in
theorem rroom_any {B s : Nat} {w : World} {sl : Value} {W : Int} {l : List Bk} (h : RM B w s sl W l) (k : Int) :
    Calls Try.prog 23 #[.pointer (some ⟨s, 0, .none⟩), .int .i64 k] w fun e w' => e = .returned (.bool (decide (1 ≤ k) && roomB W k 0 l)) ∧ Below w.heap.size w w' := by
  have c0 := h.cell0
  have c1 := h.cell1
  obtain ⟨ao, cap, rfl, hcap, hcm, hrow⟩ := h.rd.nth
  have hs := h.small
  have hlen := h.len
  have hW0 : 0 ≤ W := h.ok.le
  obtain ⟨n, hn, hn'⟩ : ∃ n, Hid (n = l.length) ∧ n = l.length := ⟨_, Lib.hid rfl, rfl⟩
  rw [← hn'] at c0 hcap hlen
  clear hn'
  obtain ⟨R, hR⟩ : ∃ R, R = (decide (1 ≤ k) && roomB W k 0 l) := ⟨_, rfl⟩
  rw [← hR]
  replace hR := Lib.hid hR
  go_enter Try.func23, Try.ntmps23
  go_wp2
  go_loopw [5, 6] (fun ve vi wr => ∃ (i : Nat) (e : Int), i ≤ n + 1 ∧ vi = .int .i64 i ∧ ve = .int .i64 e ∧ (0 ≤ e ∧ e ≤ W) ∧ (i ≤ n → Hid (e = endB l i) ∧ Hid (R = (decide (1 ≤ k) && roomB W k (endB l i) (l.drop i)))) ∧ (i = n + 1 → R = false) ∧ Below w.heap.size w wr) (fun _ vi _ => n + 1 - (intOf vi).toNat)
  case atStart => exact ⟨0, 0, by omega, rfl, rfl, ⟨by omega, hW0⟩, (fun _ => ⟨rfl, hR⟩), (fun h => by omega), Below.refl _ _⟩
  case round =>
    obtain ⟨i, e, hi, rfl, rfl, ⟨he0, he1⟩, hin, hout, hbr⟩ := hrel
    have d0 := keepF hbr _ _ _ c0
    have d1 := keepF hbr _ _ _ c1
    by_cases hlt : i < n
    · obtain ⟨hee, hrb⟩ := hin (by omega)
      have hil : i < l.length := hn.out ▸ hlt
      obtain ⟨b, off, rfl, hb, hc⟩ := hrow (fun e => by rw [e] at hil; simp at hil)
      obtain ⟨x0, x1⟩ := hc i hil
      replace x0 := keepF hbr _ _ _ x0
      replace x1 := keepF hbr _ _ _ x1
      have hm := h.ok.mem _ (List.getElem_mem hil)
      have hrs := hrb.out
      rw [roomB_at i hil, ← hee.out] at hrs
      have hes : Hid (endB l (i + 1) = l[i].a + l[i].n) := by show _ = _; simp only [endB, List.getElem?_eq_getElem hil]
      have hii : (i : Int) < (n : Int) := by omega
      have hle : (i : Int) ≤ (n : Int) := by omega
      have hi0 : (0 : Int) ≤ (i : Int) := by omega
      have hadd : IntKind.i64.wrap (l[i].a + l[i].n) = l[i].a + l[i].n := by rw [IntKind.wrap_i64]; omega
      generalize l[i].a = ba at *
      generalize l[i].n = bn at *
      clear hc hrow hrb hin hout
      by_cases hk : 1 ≤ k ∧ k ≤ ba - e
      · have hfin : R = true := by rw [hrs, decide_eq_true hk.1, decide_eq_true hk.2]; rfl
        subst hfin
        clear hrs hR
        obtain ⟨hk1, hk2⟩ := hk
        go_wp2
        go_ret
        exact ⟨rfl, hbr⟩
      · have hnx : Hid (R = (decide (1 ≤ k) && roomB W k (endB l (i + 1)) (l.drop (i + 1)))) := by
          show _ = _
          rw [hrs]
          by_cases h1 : 1 ≤ k
          · rw [decide_eq_false (by omega : ¬ k ≤ ba - e)]; rfl
          · rw [decide_eq_false h1]; rfl
        clear hrs hR
        have hcase : (1 ≤ k ∧ ba - e < k) ∨ k < 1 := by omega
        clear hk
        rcases hcase with ⟨h1, h2⟩ | h1
        all_goals
          go_wp2
          go_quiet (fail)
          go_wp2
          exact ⟨⟨i + 1, ba + bn, by omega, by go_num, rfl, ⟨by omega, by omega⟩, (fun _ => ⟨hes.out.symm, hnx⟩), (fun h => by omega), below_drewN hbr _⟩, by simp [intOf]; omega⟩
    · by_cases hie : i = n
      · subst hie
        obtain ⟨hee, hrb⟩ := hin (by omega)
        have hj0 : ¬ ((i : Int) < (i : Int)) := by omega
        have hle : (i : Int) ≤ (i : Int) := by omega
        have hrs := hrb.out
        rw [List.drop_of_length_le (by rw [← hn.out]; exact Nat.le_refl _), ← hee.out] at hrs
        have hrr : roomB W k e [] = decide (k ≤ W - e) := rfl
        rw [hrr] at hrs
        clear hrb hin hout hlt hrr
        by_cases hk : 1 ≤ k ∧ k ≤ W - e
        · have hfin : R = true := by rw [hrs, decide_eq_true hk.1, decide_eq_true hk.2]; rfl
          subst hfin
          clear hrs hR
          obtain ⟨hk1, hk2⟩ := hk
          go_wp2
          go_ret
          exact ⟨rfl, hbr⟩
        · have hfin : R = false := by
            rw [hrs]
            by_cases h1 : 1 ≤ k
            · rw [decide_eq_false (by omega : ¬ k ≤ W - e), Bool.and_false]
            · rw [decide_eq_false h1]; rfl
          subst hfin
          clear hrs hR
          have hcase : (1 ≤ k ∧ W - e < k) ∨ k < 1 := by omega
          clear hk
          rcases hcase with ⟨h1, h2⟩ | h1
          all_goals
            go_wp2
            exact ⟨⟨i + 1, e, by omega, by go_num, rfl, ⟨he0, he1⟩, (fun h => by omega), (fun _ => by first | rfl | trivial), hbr⟩, by first | (simp [intOf]; done) | (simp [intOf]; omega)⟩
      · have hie : i = n + 1 := by omega
        have hR0 := hout hie
        subst hR0
        have hj0 : (n : Int) < (i : Int) := by omega
        replace hie := Lib.hid hie
        clear hin hout hlt hR
        go_wp2
        go_ret
        exact ⟨rfl, hbr⟩
end Go.Proofs.Ytpplmgahpohbmab
