/- The reference's lines. -/
import Derived.Test.YtkeiehgojclecaaDoorRfL

namespace Go.Proofs.YtkeiehgojclecaaDoor

open Go.RowKit

attribute [local go_sem ↓] Go.wp_at_zero Go.wp_at_succ

/-- The lines, and whether something is left. -/
def linesR (l : List UInt8) : List (List UInt8) × Bool := if (spl 10 l).getLast? = some [] then ((spl 10 l).dropLast, false) else (spl 10 l, true)
theorem infoS : (Tryd.prog.info? 9).map (fun i => (i.zero, i.size, i.bytes)) = some (some (.string (S [])), 1, 16) := by kernel_rfl
theorem spl_at {l : List UInt8} {f i : Nat} (hf : f ≤ i) (hi : i < l.length) (hno : ∀ j, f ≤ j → j < i → ∀ h : j < l.length, l[j] ≠ 10) (hb : l[i] = 10) :
    spl 10 (l.drop f) = (l.drop f).take (i - f) :: spl 10 (l.drop (i + 1)) := by
  have e : l.drop f = (l.drop f).take (i - f) ++ 10 :: l.drop (i + 1) := by
    have h1 : (l.drop f).drop (i - f) = 10 :: l.drop (i + 1) := by
      rw [List.drop_drop, show f + (i - f) = i by omega, List.drop_eq_getElem_cons hi, hb]
    rw [← h1, List.take_append_drop]
  conv => lhs; rw [e]
  refine spl_cut (fun b hb2 => ?_) _
  obtain ⟨j, hj, rfl⟩ := List.getElem_of_mem hb2
  rw [List.length_take, List.length_drop] at hj
  rw [List.getElem_take, List.getElem_drop]
  exact hno (f + j) (by omega) (by omega) (by omega)
theorem spl_end {l : List UInt8} {f : Nat} (hno : ∀ j, f ≤ j → ∀ h : j < l.length, l[j] ≠ 10) : spl 10 (l.drop f) = [l.drop f] := by
  refine spl_none fun b hb2 => ?_
  obtain ⟨j, hj, rfl⟩ := List.getElem_of_mem hb2
  rw [List.getElem_drop]
  rw [List.length_drop] at hj
  exact hno (f + j) (by omega) (by omega)
set_option maxRecDepth 100000 in
set_option maxHeartbeats 1000000 in
theorem rlines_any (l : List UInt8) (hl : l.length < 1000000) (w : World) :
    Calls Tryd.prog 29 #[.string (S l)] w fun e w' => (∃ v', e = .returned (.tuple #[v', .bool (linesR l).2]) ∧ RdT w' v' (linesR l).1) ∧ Below w.heap.size w w' := by
  have hsz : (S l).size = l.length := S_size l
  obtain ⟨n, hn, hn'⟩ : ∃ n, Hid (n = l.length) ∧ n = l.length := ⟨_, Lib.hid rfl, rfl⟩
  rw [← hn'] at hsz hl
  have htl := Lib.hid (fun i => S_tail l i n hn'.symm)
  clear hn'
  obtain ⟨i0, hi0, hz0, hz1, hz2⟩ := info_parts infoS
  go_enter Tryd.func29, Tryd.ntmps29
  go_upto_block 0 with fail
  go_cut [4, 5, 6] (fun v4 v5 v6 wr => ∃ (f : Nat) (ps : List (List UInt8)), v5 = .int .i64 f ∧ f ≤ n ∧ ps.length ≤ f ∧ Hid (spl 10 l = ps ++ [l.drop f]) ∧ Below w.heap.size w wr ∧ wr.ownsRow w.heap.size 9 1 v4 ps.length (ps.map fun p => Value.string (S p)))
  case first =>
    go_wp2_with fail
    go_loopw [4, 5, 6] (fun v4 v5 v6 wr => ∃ (i f : Nat) (ps : List (List UInt8)), v5 = .int .i64 f ∧ v6 = .int .i64 i ∧ i ≤ n ∧ f ≤ i ∧ ps.length ≤ f ∧ Hid (spl 10 l = ps ++ spl 10 (l.drop f) ∧ ∀ j, f ≤ j → j < i → ∀ h : j < l.length, l[j] ≠ 10) ∧ Below w.heap.size w wr ∧ wr.ownsRow w.heap.size 9 1 v4 ps.length (ps.map fun p => Value.string (S p))) (fun _ _ v6 _ => n - (intOf v6).toNat)
    case atStart => exact ⟨0, 0, [], rfl, rfl, Nat.zero_le _, Nat.le_refl _, Nat.le_refl _, Lib.hid ⟨rfl, fun j _ h => by omega⟩, Below.refl _ _, ⟨rfl, .inl ⟨rfl, rfl⟩⟩⟩
    case round =>
      obtain ⟨i, f, ps, rfl, rfl, hi, hfi, hpf, hd, hbr, hown⟩ := hrel
      obtain ⟨Y, rfl⟩ : ∃ V : World, V = wr := ⟨_, rfl⟩
      by_cases hlt : i < n
      · have hlt' : (i : Int) < (n : Int) := by omega
        have hi0' : (0 : Int) ≤ (i : Int) := by omega
        have hit : ((i : Int)).toNat = i := by omega
        have hf0 : (0 : Int) ≤ (f : Int) := by omega
        have hft : ((f : Int)).toNat = f := by omega
        have hfi' : (f : Int) ≤ (i : Int) := by omega
        have hle0 : (i : Int) ≤ (n : Int) := by omega
        have wi1 : IntKind.i64.wrap ((i : Int) + 1) = (i : Int) + 1 := IntWalk.i64_in _ ⟨by omega, by omega⟩
        have hil : i < l.length := by have := hn.out; omega
        have hYs := hbr.size
        by_cases hb : l[i] = 10
        · have hx : ∀ h : i < (S l).size, ((((S l)[i]'h).toNat : Int) == 10) = true := fun h => by rw [S_get, hb]; rfl
          have hsp := spl_at hfi hil hd.out.2 hb
          have h1 := S_cut l f i
          have hsp2 : Hid (spl 10 l = (ps ++ [(l.drop f).take (i - f)]) ++ spl 10 (l.drop (i + 1))) := Lib.hid (by rw [hd.out.1, hsp]; simp)
          clear hsp hd
          replace hb := Lib.hid hb
          replace hil := Lib.hid hil
          generalize (l.drop f).take (i - f) = P at *
          obtain ⟨m, hm, hm'⟩ : ∃ m, Hid (m = ps.length) ∧ m = ps.length := ⟨_, Lib.hid rfl, rfl⟩
          rw [← hm'] at hown hpf
          clear hm'
          go_wp2_with (refine wpList_append_rd rfl (.tmp 17) (.tmp 22) 29 rfl w.heap.size 9 i0 _ 1 16 Tryd.underlying29 hi0 hz0 hz1 hz2 rfl (by omega) _ m _ rfl (hown.alloc _) _ 1 [.string (S P)] rfl (RdS.new (cs := #[.string (S P)]) (t := 9) (sz := 1) (n := 1) (heap_alloc_new Y _) rfl (by omega)) (by intro u hu; simp at hu; subst hu; rfl) (by simp only [maxLen]; omega) (by omega) (by simp; omega) ?_; intro v1 w3 hown2 hgrow2 hat2; have hbr4 := grown_belowS (hbr.alloc hYs _) (hown.alloc _) (by simp; omega) hgrow2)
          refine ⟨⟨i + 1, i + 1, ps ++ [P], by go_num, by go_num, by omega, Nat.le_refl _, by rw [List.length_append, ← hm.out]; simp; omega, Lib.hid ⟨hsp2.out, fun j h1 h2 => by omega⟩, hbr4, ?_⟩, by simp [intOf]; omega⟩
          rw [List.length_append, List.map_append, ← hm.out]
          exact hown2
        · have hx : ∀ h : i < (S l).size, ((((S l)[i]'h).toNat : Int) == 10) = false := fun h => by
            rw [S_get]
            have : l[i].toNat ≠ 10 := fun e => hb (UInt8.toNat_inj.1 (by simpa using e))
            simpa using (by omega : ((l[i].toNat : Int)) ≠ 10)
          replace hb := Lib.hid hb
          replace hil := Lib.hid hil
          go_wp2_with fail
          exact ⟨⟨i + 1, f, ps, rfl, by go_num, by omega, by omega, hpf, Lib.hid ⟨hd.out.1, fun j h1 h2 h => by
            by_cases e : j = i
            · subst e; exact hb.out
            · exact hd.out.2 j h1 (by omega) h⟩, hbr, hown⟩, by simp [intOf]; omega⟩
      · have hlt' : ¬ (i : Int) < (n : Int) := by omega
        have he := Lib.hid (spl_end (l := l) (f := f) (fun j h1 h => hd.out.2 j h1 (by have := hn.out; omega) h))
        go_wp2_with fail
        go_meet
        exact ⟨f, ps, rfl, by omega, hpf, Lib.hid (by rw [hd.out.1, he.out]), hbr, hown⟩
  case rest =>
    obtain ⟨f, ps, rfl, hfn, hpf, hsp, hbr, hown⟩ := hcut
    obtain ⟨Y, rfl⟩ : ∃ V : World, V = wc := ⟨_, rfl⟩
    have hYs := hbr.size
    have hf0 : (0 : Int) ≤ (f : Int) := by omega
    have hft : ((f : Int)).toNat = f := by omega
    by_cases hlt : f < n
    · have hlt' : (f : Int) < (n : Int) := by omega
      have hfn' : (f : Int) ≤ (n : Int) := by omega
      have hne : l.drop f ≠ [] := by
        intro e
        have := congrArg List.length e
        rw [List.length_drop, ← hn.out] at this
        simp at this; omega
      have hlr : linesR l = (ps ++ [l.drop f], true) := by
        unfold linesR
        rw [hsp.out, if_neg (by rw [List.getLast?_concat]; simpa using hne)]
      have h1 := htl.out f
      replace hlr := Lib.hid hlr
      replace hne := Lib.hid hne
      clear hsp
      generalize l.drop f = P at *
      obtain ⟨m, hm, hm'⟩ : ∃ m, Hid (m = ps.length) ∧ m = ps.length := ⟨_, Lib.hid rfl, rfl⟩
      rw [← hm'] at hown hpf
      clear hm'
      go_wp2_with (refine wpList_append_rd rfl (.tmp 30) (.tmp 34) 29 rfl w.heap.size 9 i0 _ 1 16 Tryd.underlying29 hi0 hz0 hz1 hz2 rfl (by omega) _ m _ rfl (hown.alloc _) _ 1 [.string (S P)] rfl (RdS.new (cs := #[.string (S P)]) (t := 9) (sz := 1) (n := 1) (heap_alloc_new Y _) rfl (by omega)) (by intro u hu; simp at hu; subst hu; rfl) (by simp only [maxLen]; omega) (by omega) (by simp; omega) ?_; intro v1 w3 hown2 hgrow2 hat2; have hbr4 := grown_belowS (hbr.alloc hYs _) (hown.alloc _) (by simp; omega) hgrow2)
      go_ret2
      refine ⟨⟨v1, by rw [hlr.out]; rfl, ?_⟩, hbr4⟩
      rw [hlr.out]
      unfold RdT
      rw [List.length_append, List.map_append, ← hm.out]
      exact RdS.of_own hown2
    · have hlt' : ¬ (f : Int) < (n : Int) := by omega
      have hne : l.drop f = [] := List.drop_of_length_le (by rw [← hn.out]; omega)
      have hlr : linesR l = (ps, false) := by
        unfold linesR
        rw [hsp.out, hne, if_pos (by rw [List.getLast?_concat])]
        simp
      replace hlr := Lib.hid hlr
      replace hne := Lib.hid hne
      clear hsp
      go_wp2_with fail
      go_ret2
      refine ⟨⟨_, by rw [hlr.out]; rfl, ?_⟩, hbr⟩
      rw [hlr.out]
      exact RdS.of_own hown
end Go.Proofs.YtkeiehgojclecaaDoor
