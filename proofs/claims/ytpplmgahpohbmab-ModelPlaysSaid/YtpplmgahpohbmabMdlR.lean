/- The walks of the reference's model: NewModel, Used, At, Inside, Room. -/
import Derived.Test.YtpplmgahpohbmabMdlB
namespace Go.Proofs.Ytpplmgahpohbmab
open Go.RowKit
attribute [local go_sem ↓] Go.wp_at_zero Go.wp_at_succ

abbrev RM := Mdl 48 44
theorem rnew_any (n : Int) (w : World) : Calls Try.prog 18 #[.int .i64 n] w fun e w' => e = .returned (.pointer (some ⟨w.heap.size, 0, .none⟩)) ∧ Below w.heap.size w w' ∧ RM w.heap.size w' w.heap.size (.slice none 0 0) (capW n) [] := by
  have key : ∀ W : Int, W = capW n → RM w.heap.size (w.alloc (.cells #[.slice none 0 0, .int .i64 W] 48)) w.heap.size (.slice none 0 0) (capW n) [] := fun W e => by
    have := capW_bd n
    exact ⟨Nat.le_refl _, by rw [← e]; exact heap_alloc_new w _, ⟨rfl, .inl ⟨rfl, rfl⟩⟩, by simp [Value.ownBlock], by show (0 : Int) ≤ capW n; omega, by omega⟩
  by_cases h1 : n < 0
  · have k := key 0 (by unfold capW; rw [if_pos (.inl h1)])
    go_enter Try.func18, Try.ntmps18
    go_wp2
    go_ret
    exact ⟨rfl, (Below.refl _ _).alloc (Nat.le_refl _) _, k⟩
  · by_cases h2 : 4096 < n
    · have k := key 0 (by unfold capW; rw [if_pos (.inr h2)])
      have hd : decide (4096 < n) = true := decide_eq_true h2
      go_enter Try.func18, Try.ntmps18
      go_wp2
      go_ret
      exact ⟨rfl, (Below.refl _ _).alloc (Nat.le_refl _) _, k⟩
    · have k := key n (by unfold capW; rw [if_neg (by omega)])
      have hd : decide (4096 < n) = false := decide_eq_false h2
      go_enter Try.func18, Try.ntmps18
      go_wp2
      go_ret
      exact ⟨rfl, (Below.refl _ _).alloc (Nat.le_refl _) _, k⟩

set_option maxHeartbeats 1000000 in
theorem rused_any {B s : Nat} {w : World} {sl : Value} {W : Int} {l : List Bk} (h : RM B w s sl W l) :
    Calls Try.prog 24 #[.pointer (some ⟨s, 0, .none⟩)] w fun e w' => e = .returned (.int .i64 (usedB l)) ∧ Below w.heap.size w w' := by
  have c0 := h.cell0
  obtain ⟨ao, cap, rfl, hcap, hcm, hrow⟩ := h.rd.nth
  have hs := h.small
  have hlen := h.len
  obtain ⟨n, hn, hn'⟩ : ∃ n, Hid (n = l.length) ∧ n = l.length := ⟨_, Lib.hid rfl, rfl⟩
  rw [← hn'] at c0 hcap hlen
  clear hn'
  go_enter Try.func24, Try.ntmps24
  go_wp2
  go_loopw [3, 4] (fun vs vi wr => ∃ i : Nat, i ≤ n ∧ vi = .int .i64 i ∧ vs = .int .i64 (usedB (l.take i)) ∧ Below w.heap.size w wr) (fun _ vi _ => n - (intOf vi).toNat)
  case atStart => exact ⟨0, Nat.zero_le _, rfl, by simp [usedB], Below.refl _ _⟩
  case round =>
    obtain ⟨i, hi, rfl, rfl, hbr⟩ := hrel
    have d0 := keepF hbr _ _ _ c0
    by_cases hlt : i < n
    · have hil : i < l.length := hn.out ▸ hlt
      obtain ⟨b, off, rfl, hb, hc⟩ := hrow (fun e => by rw [e] at hil; simp at hil)
      obtain ⟨x0, x1⟩ := hc i hil
      replace x1 := keepF hbr _ _ _ x1
      have hu := usedB_take h.ok i
      have hu2 := usedB_take h.ok (i + 1)
      have hus : usedB (l.take (i + 1)) = usedB (l.take i) + l[i].n := by rw [List.take_succ_eq_append_getElem hil, usedB_snoc]
      rw [hus] at hu2
      replace hus := Lib.hid hus
      generalize l[i].n = bn at *
      generalize usedB (l.take i) = U at *
      clear hc hrow x0
      go_wp2
      exact ⟨⟨i + 1, by omega, by go_num, by rw [hus.out], hbr⟩, by simp [intOf]; omega⟩
    · have hie : i = n := by omega
      subst hie
      have hj0 : ¬ ((i : Int) < (i : Int)) := by omega
      have hfin : Hid (usedB l = usedB (l.take i)) := by
        show _ = _
        rw [List.take_of_length_le (by rw [← hn.out]; exact Nat.le_refl _)]
      clear hlt
      go_wp2
      go_ret
      exact ⟨ret_int hfin.out.symm, hbr⟩

theorem atB_get {W lo : Int} {l : List Bk} (h : okB W lo l) (i : Nat) (hi : i < l.length) : atB l l[i].a = some l[i] := by
  have hp := posB_unique l[i].a l i (by omega) (fun k hk hkl => by have := h.lt k i hk hi; have := (h.mem _ (List.getElem_mem hkl)).2.1; omega) (fun _ => Int.le_refl _)
  have hf : foundB l[i].a l = true := (foundB_iff _ _).2 ⟨by omega, by simp only [hp]⟩
  unfold atB
  rw [if_pos hf, hp, List.getElem?_eq_getElem hi]
theorem atB_none {W lo a : Int} {l : List Bk} (h : okB W lo l) (hn : ∀ i (hi : i < l.length), l[i].a ≠ a) : atB l a = none := by
  unfold atB
  rw [if_neg]
  intro hf
  obtain ⟨b, hb, e⟩ := (foundB_mem h).1 hf
  obtain ⟨i, hi, rfl⟩ := List.getElem_of_mem hb
  exact hn i hi e

set_option maxHeartbeats 1000000 in
theorem rat_any {B s : Nat} {w : World} {sl : Value} {W : Int} {l : List Bk} (h : RM B w s sl W l) (at' : Int) :
    Calls Try.prog 21 #[.pointer (some ⟨s, 0, .none⟩), .int .i64 at'] w fun e w' => e = .returned (blkV (atB l at')) ∧ Below w.heap.size w w' := by
  have c0 := h.cell0
  have hlts := h.lt
  obtain ⟨ao, cap, rfl, hcap, hcm, hrow⟩ := h.rd.nth
  have hs := h.small
  have hlen := h.len
  obtain ⟨n, hn, hn'⟩ : ∃ n, Hid (n = l.length) ∧ n = l.length := ⟨_, Lib.hid rfl, rfl⟩
  rw [← hn'] at c0 hcap hlen
  clear hn'
  go_enter Try.func21, Try.ntmps21
  go_wp2
  go_loopw [6] (fun vi wr => ∃ i : Nat, i ≤ n ∧ vi = .int .i64 i ∧ (∀ j (hj : j < l.length), j < i → l[j].a ≠ at') ∧ wr = w.alloc (.cells #[.int .i64 0, .int .i64 0] 44)) (fun vi _ => n - (intOf vi).toNat)
  case atStart => exact ⟨0, Nat.zero_le _, rfl, (fun j hj h => absurd h (Nat.not_lt_zero _)), by first | rfl | trivial⟩
  case round =>
    obtain ⟨i, hi, rfl, hno, rfl⟩ := hrel
    have hbw : Below w.heap.size w (w.alloc (.cells #[.int .i64 0, .int .i64 0] 44)) := (Below.refl _ _).alloc (Nat.le_refl _) _
    by_cases hlt : i < n
    · have hil : i < l.length := hn.out ▸ hlt
      obtain ⟨b, off, rfl, hb, hc⟩ := hrow (fun e => by rw [e] at hil; simp at hil)
      obtain ⟨x0, x1⟩ := hc i hil
      have hget := atB_get h.ok i hil
      have hii : (i : Int) < (n : Int) := by omega
      have hi0 : (0 : Int) ≤ (i : Int) := by omega
      by_cases he : l[i].a = at'
      · have hfin : blkV (atB l at') = .tuple #[.agg #[.int .i64 l[i].a, .int .i64 l[i].n], .bool true] := by rw [← he, hget]; rfl
        replace hfin := Lib.hid hfin
        have hne : b ≠ w.heap.size := by omega
        have hnes : s ≠ w.heap.size := by omega
        clear hget hno hc hrow
        generalize l[i].a = ba at *
        generalize l[i].n = bn at *
        subst he
        go_wp2
        exact bodyPost_ret (v := .tuple #[.agg #[.int .i64 ba, .int .i64 bn], .bool true]) (by simp [results, Try.results21, go_sem]) rfl ⟨by rw [hfin.out], (Below.refl _ _).alloc (Nat.le_refl _) _⟩
      · have hno2 : ∀ j (hj : j < l.length), j < i + 1 → l[j].a ≠ at' := fun j hj h => by
          rcases Nat.lt_or_ge j i with h1 | h1
          · exact hno j hj h1
          · have : j = i := by omega
            subst this; exact he
        replace hno2 := Lib.hid hno2
        clear hget hno hc hrow
        generalize l[i].a = ba at *
        generalize l[i].n = bn at *
        have hed : (ba == at') = false := by rw [beq_eq_false_iff_ne]; exact he
        go_wp2
        exact ⟨⟨i + 1, by omega, by go_num, hno2.out, by first | rfl | trivial⟩, by simp [intOf]; omega⟩
    · have hie : i = n := by omega
      subst hie
      have hj0 : ¬ ((i : Int) < (i : Int)) := by omega
      have hfin : blkV (atB l at') = .tuple #[.agg #[.int .i64 0, .int .i64 0], .bool false] := by
        rw [atB_none h.ok (fun j hj => hno j hj (by have := hn.out; omega))]; rfl
      replace hfin := Lib.hid hfin
      clear hlt hno
      go_wp2
      exact bodyPost_ret (v := .tuple #[.agg #[.int .i64 0, .int .i64 0], .bool false]) (by simp [results, Try.results21, go_sem]) rfl ⟨by rw [hfin.out], hbw⟩

theorem insideB_get {l : List Bk} {x : Int} (i : Nat) (hi : i < l.length) (h1 : l[i].a ≤ x) (h2 : x < l[i].a + l[i].n) (ho : ∀ j (hj : j < l.length), j < i → ¬ (l[j].a ≤ x ∧ x < l[j].a + l[j].n)) : insideB l x = some l[i] :=
  find_unique i hi (decide_eq_true ⟨h1, h2⟩) (fun j hj h => decide_eq_false (ho j hj h))
theorem insideB_none {l : List Bk} {x : Int} (ho : ∀ j (hj : j < l.length), ¬ (l[j].a ≤ x ∧ x < l[j].a + l[j].n)) : insideB l x = none := by
  unfold insideB
  rw [List.find?_eq_none]
  intro b hb
  obtain ⟨j, hj, rfl⟩ := List.getElem_of_mem hb
  simpa using ho j hj

set_option maxHeartbeats 1000000 in
theorem rinside_any {B s : Nat} {w : World} {sl : Value} {W : Int} {l : List Bk} (h : RM B w s sl W l) (at' : Int) :
    Calls Try.prog 22 #[.pointer (some ⟨s, 0, .none⟩), .int .i64 at'] w fun e w' => e = .returned (blkV (insideB l at')) ∧ Below w.heap.size w w' := by
  have c0 := h.cell0
  have hlts := h.lt
  obtain ⟨ao, cap, rfl, hcap, hcm, hrow⟩ := h.rd.nth
  have hs := h.small
  have hlen := h.len
  have hmem := h.ok.mem
  obtain ⟨n, hn, hn'⟩ : ∃ n, Hid (n = l.length) ∧ n = l.length := ⟨_, Lib.hid rfl, rfl⟩
  rw [← hn'] at c0 hcap hlen
  clear hn'
  go_enter Try.func22, Try.ntmps22
  go_wp2
  go_loopw [6] (fun vi wr => ∃ i : Nat, i ≤ n ∧ vi = .int .i64 i ∧ (∀ j (hj : j < l.length), j < i → ¬ (l[j].a ≤ at' ∧ at' < l[j].a + l[j].n)) ∧ ∃ k, wr = (w.alloc (.cells #[.int .i64 0, .int .i64 0] 44)).drewN k) (fun vi _ => n - (intOf vi).toNat)
  case atStart => exact ⟨0, Nat.zero_le _, rfl, (fun j hj h => absurd h (Nat.not_lt_zero _)), 0, by first | rfl | trivial⟩
  case round =>
    obtain ⟨i, hi, rfl, hno, k, hwr⟩ := hrel
    have hz : w.heap.size < wr.heap.size := by rw [hwr]; simp
    have hh : wr.heap[w.heap.size]? = some (.cells #[.int .i64 0, .int .i64 0] 44 (0, 0)) := by rw [hwr]; exact heap_alloc_new w _
    have r0 : wr.cell? ⟨w.heap.size, 0, .none⟩ = some (.int .i64 0) := rowCells hh 0
    have r1 : wr.cell? ⟨w.heap.size, 1, .none⟩ = some (.int .i64 0) := rowCells hh 1
    have f0 : wr.frozen? ⟨w.heap.size, 0, .none⟩ = false := rowFree hh 0
    have f1 : wr.frozen? ⟨w.heap.size, 1, .none⟩ = false := rowFree hh 1
    have hbw : Below w.heap.size w wr := by rw [hwr]; exact below_drewN ((Below.refl _ _).alloc (Nat.le_refl _) _) _
    have d0 := keepF hbw _ _ _ c0
    replace hwr := Lib.hid hwr
    by_cases hlt : i < n
    · have hil : i < l.length := hn.out ▸ hlt
      obtain ⟨b, off, rfl, hb, hc⟩ := hrow (fun e => by rw [e] at hil; simp at hil)
      obtain ⟨x0, x1⟩ := hc i hil
      replace x0 := keepF hbw _ _ _ x0
      replace x1 := keepF hbw _ _ _ x1
      obtain ⟨q0, q1, q2⟩ := hmem _ (List.getElem_mem hil)
      have hget := fun h1 h2 => insideB_get (x := at') i hil h1 h2 hno
      have hii : (i : Int) < (n : Int) := by omega
      have hi0 : (0 : Int) ≤ (i : Int) := by omega
      have hne : b ≠ w.heap.size := by omega
      have hnes : s ≠ w.heap.size := by omega
      have hadd : IntKind.i64.wrap (l[i].a + l[i].n) = l[i].a + l[i].n := by rw [IntKind.wrap_i64]; omega
      have hno2 : ¬ (l[i].a ≤ at' ∧ at' < l[i].a + l[i].n) → ∀ j (hj : j < l.length), j < i + 1 → ¬ (l[j].a ≤ at' ∧ at' < l[j].a + l[j].n) := fun hx j hj h => by
        rcases Nat.lt_or_ge j i with h1 | h1
        · exact hno j hj h1
        · have : j = i := by omega
          subst this; exact hx
      by_cases h1 : l[i].a ≤ at'
      · have hd1 : decide (l[i].a ≤ at') = true := decide_eq_true h1
        by_cases h2 : at' < l[i].a + l[i].n
        · have hd2 : decide (at' < l[i].a + l[i].n) = true := decide_eq_true h2
          have hfin : blkV (insideB l at') = .tuple #[.agg #[.int .i64 l[i].a, .int .i64 l[i].n], .bool true] := by rw [hget h1 h2]; rfl
          replace hfin := Lib.hid hfin
          clear hget hno hc hrow hno2
          generalize l[i].a = ba at *
          generalize l[i].n = bn at *
          go_wp2
          go_quiet (fail)
          go_wp2
          exact bodyPost_ret (v := .tuple #[.agg #[.int .i64 ba, .int .i64 bn], .bool true]) (by simp [results, Try.results22, go_sem, r0, r1, hz]) rfl ⟨by rw [hfin.out], (((below_drewN hbw _).setCell (Nat.le_refl _) _).setCell (Nat.le_refl _) _)⟩
        · have hd2 : decide (at' < l[i].a + l[i].n) = false := decide_eq_false h2
          have hno3 := hno2 (fun h => h2 h.2)
          replace hno3 := Lib.hid hno3
          clear hget hno hc hrow hno2
          generalize l[i].a = ba at *
          generalize l[i].n = bn at *
          go_wp2
          go_quiet (fail)
          go_wp2
          exact ⟨⟨i + 1, by omega, by go_num, hno3.out, _, by rw [hwr.out]; first | rfl | (rw [World.drewN_drewN])⟩, by simp [intOf]; omega⟩
      · have hd1 : decide (l[i].a ≤ at') = false := decide_eq_false h1
        have hno3 := hno2 (fun h => h1 h.1)
        replace hno3 := Lib.hid hno3
        clear hget hno hc hrow hno2
        generalize l[i].a = ba at *
        generalize l[i].n = bn at *
        go_wp2
        go_quiet (fail)
        go_wp2
        exact ⟨⟨i + 1, by omega, by go_num, hno3.out, _, by rw [hwr.out]; first | rfl | (rw [World.drewN_drewN])⟩, by simp [intOf]; omega⟩
    · have hie : i = n := by omega
      subst hie
      have hj0 : ¬ ((i : Int) < (i : Int)) := by omega
      have hfin : blkV (insideB l at') = .tuple #[.agg #[.int .i64 0, .int .i64 0], .bool false] := by
        rw [insideB_none (fun j hj => hno j hj (by have := hn.out; omega))]; rfl
      replace hfin := Lib.hid hfin
      clear hlt hno
      go_wp2
      exact bodyPost_ret (v := .tuple #[.agg #[.int .i64 0, .int .i64 0], .bool false]) (by simp [results, Try.results22, go_sem, r0, r1, hz]) rfl ⟨by rw [hfin.out], ((hbw.setCell (Nat.le_refl _) _).setCell (Nat.le_refl _) _)⟩
end Go.Proofs.Ytpplmgahpohbmab
