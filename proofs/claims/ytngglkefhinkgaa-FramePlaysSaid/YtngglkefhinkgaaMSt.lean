/- The walks of the reference's stack of frames. -/
import Derived.Test.YtngglkefhinkgaaStkV
namespace Go.Proofs.Ytngglkefhinkgaa
open Go.RowKit
abbrev MK := Stk 58 63

set_option maxHeartbeats 400000 in
theorem mPush_no {B : Nat} {w : World} {s : Nat} {sl : Value} {most code : Int} {fs : List Fr} {ao : Option Addr} {n cap : Nat} (h : MK B w s sl most fs) (h0 : most ≤ fs.length ∨ (8 : Int) < n) :
    Calls Try.prog 23 #[.pointer (some ⟨s, 0, .none⟩), .int .i64 code, .slice ao n cap] w fun e w' => e = .returned (.bool false) ∧ ∃ n, w' = w.drewN n := by
  have c0 := h.cell0
  have c1 := h.cell1
  have hsl : ∃ a c, sl = .slice a fs.length c := by
    rcases h.form with ⟨rfl, rfl⟩ | ⟨g, cap, rfl, _⟩
    · exact ⟨_, _, rfl⟩
    · exact ⟨_, _, rfl⟩
  obtain ⟨a, c, rfl⟩ := hsl
  clear h
  by_cases h1 : most ≤ fs.length
  · go_enter Try.func23, Try.ntmps23
    go_wp2_with fail
    go_quiet (fail)
    go_wp2_with fail
    go_ret
    exact ⟨rfl, _, rfl⟩
  · have h2 : (8 : Int) < n := by omega
    have h3 : decide (most ≤ (fs.length : Int)) = false := by simpa using h1
    go_enter Try.func23, Try.ntmps23
    go_wp2_with fail
    go_quiet (fail)
    go_wp2_with fail
    go_ret
    exact ⟨rfl, _, rfl⟩

theorem infoMFrame : (Try.prog.info? 63).map (fun i => (i.zero, i.size, i.bytes)) = some (some zeroFrame, 10, 80) := by kernel_rfl

theorem cell_lt' {w : World} {p : Addr} {v : Value} (h : w.cell? p = some v) : p.block < w.heap.size := by
  rcases Nat.lt_or_ge p.block w.heap.size with h' | h'
  · exact h'
  · simp [World.cell?, Array.getElem?_eq_none h'] at h
theorem padded_take_get {zs : List Int} {i k : Nat} (hz : zs.length ≤ 8) (hi : i ≤ zs.length) (hk : k < 8) : (padded (zs.take i))[k]? = some (if k < i then zs.getD k 0 else 0) := by
  have hl : (zs.take i).length = i := by simp; omega
  simp only [padded, List.getElem?_append, hl]
  by_cases h : k < i
  · have hkz : k < zs.length := by omega
    rw [if_pos h, if_pos h, List.getElem?_take, if_pos h]; simp [List.getD_eq_getElem?_getD, hkz]
  · rw [if_neg h, if_neg h, List.getElem?_replicate, if_pos (by omega)]
theorem padded_step {zs : List Int} {i : Nat} (code pc : Int) (hz : zs.length ≤ 8) (hi : i < zs.length) :
    (Fr.mk code pc (padded (zs.take (i + 1)))).cells = ((Fr.mk code pc (padded (zs.take i))).cells).set (2 + i) (.int .i64 (zs.getD i 0)) := by
  have h1 : padded (zs.take (i + 1)) = (padded (zs.take i)).set i (zs.getD i 0) := by
    apply List.ext_getElem?
    intro k
    have l1 := padded_length (zs := zs.take (i + 1)) (by simp; omega)
    have l2 := padded_length (zs := zs.take i) (by simp; omega)
    by_cases hk : k < 8
    · rw [padded_take_get hz (by omega) hk, List.getElem?_set, padded_take_get hz (by omega) hk]
      by_cases e : i = k
      · subst e; rw [if_pos rfl, if_pos (by omega), if_pos (by omega)]
      · rw [if_neg e]
        by_cases h : k < i
        · rw [if_pos h, if_pos (by omega)]
        · rw [if_neg h, if_neg (by omega)]
    · rw [List.getElem?_eq_none (by omega), List.getElem?_eq_none (by simp; omega)]
  rw [h1]
  simp only [Fr.cells]
  rw [show 2 + i = i + 1 + 1 from by omega, List.set_cons_succ, List.set_cons_succ, List.map_set]

set_option maxHeartbeats 1000000 in
theorem mPush_any {B : Nat} {w : World} {s : Nat} {sl : Value} {most code : Int} {fs : List Fr} {ao : Option Addr} {zs : List Int} {cap : Nat} (h : MK B w s sl most fs) (h1 : fs.length < most) (hz : zs.length ≤ 8) (hB : B ≤ w.heap.size) (hm : most ≤ 100000)
    (hc : ∀ a, ao = some a → ∀ j v, (zs.map (Value.int .i64))[j]? = some v → w.cell? (a.add j) = some v) (hn : ao = none → zs = []) :
    Calls Try.prog 23 #[.pointer (some ⟨s, 0, .none⟩), .int .i64 code, .slice ao zs.length cap] w fun e w' => e = .returned (.bool true) ∧ Only (foot s sl) w w' ∧
      ∃ sl', (∀ k, sl'.ownBlock = some k → sl.ownBlock = some k ∨ w.heap.size ≤ k) ∧ MK B w' s sl' most (fs ++ [⟨code, 0, padded zs⟩]) := by
  have c0 := h.cell0
  have c1 := h.cell1
  have hsl : ∃ a c, sl = .slice a fs.length c := by
    rcases h.form with ⟨rfl, rfl⟩ | ⟨g, cap, rfl, _⟩
    · exact ⟨_, _, rfl⟩
    · exact ⟨_, _, rfl⟩
  obtain ⟨a, c, rfl⟩ := hsl
  have h3 : decide (most ≤ (fs.length : Int)) = false := by simp; omega
  have h4 : decide ((8 : Int) < (zs.length : Int)) = false := by simp; omega
  go_enter Try.func23, Try.ntmps23
  go_wp2_with fail
  go_quiet (fail)
  have h' : MK B (w.drewN nq) s (.slice a fs.length c) most fs := h.blocks fun _ _ => rfl
  have hc' : ∀ a, ao = some a → ∀ j v, (zs.map (Value.int .i64))[j]? = some v → (w.drewN nq).cell? (a.add j) = some v := hc
  have ho : Only (foot s (.slice a fs.length c)) w (w.drewN nq) := Only.drewN (Only.refl _ _) nq
  have hsz : (w.drewN nq).heap.size = w.heap.size := rfl
  generalize w.drewN nq = W at *
  clear c0 c1 hc h
  have c0 := h'.cell0
  have hlt := h'.lt
  go_upto_region 4 with fail
  have k1 : (W.alloc (.cells #[.int .i64 code, .int .i64 0, .int .i64 0, .int .i64 0, .int .i64 0, .int .i64 0, .int .i64 0, .int .i64 0, .int .i64 0, .int .i64 0] 63)).heap[w.heap.size]? = some (.cells (Fr.mk code 0 (padded (zs.take 0))).cells.toArray 63 (0, 0)) := by rw [← hsz]; exact heap_alloc_new W _
  have k6 : Below W.heap.size W (W.alloc (.cells #[.int .i64 code, .int .i64 0, .int .i64 0, .int .i64 0, .int .i64 0, .int .i64 0, .int .i64 0, .int .i64 0, .int .i64 0, .int .i64 0] 63)) := (Below.refl _ _).alloc (Nat.le_refl _) _
  go_upto_region 5 with fail
  go_loopw [8] (fun v8 wr => ∃ i : Nat, i ≤ zs.length ∧ v8 = .int .i64 i ∧ Below W.heap.size W wr ∧ wr.heap[w.heap.size]? = some (.cells (Fr.mk code 0 (padded (zs.take i))).cells.toArray 63 (0, 0))) (fun v8 _ => zs.length - (intOf v8).toNat)
  case atStart => exact ⟨0, Nat.zero_le _, rfl, k6, k1⟩
  case round =>
    obtain ⟨i, hi, rfl, hbw, hH⟩ := hrel
    by_cases hlt : i < zs.length
    · have hil : (i : Int) < (zs.length : Int) := by omega
      obtain ⟨ad, rfl⟩ : ∃ ad : Addr, ao = some ad := by
        cases ao with
        | none => rw [hn rfl] at hlt; simp at hlt
        | some ad => exact ⟨ad, rfl⟩
      have hcz : wr.cell? (ad.add i) = some (.int .i64 (zs.getD i 0)) := by
        have h := hc' ad rfl i (.int .i64 (zs.getD i 0)) (by simp [List.getD_eq_getElem?_getD, hlt])
        rw [hbw.cell (cell_lt' h)]; exact h
      have hst : wr.cell? ⟨w.heap.size, 2 + i, .none⟩ = some (.int .i64 0) := by
        rw [cell_of_row wr w.heap.size (2 + i) _ _ (0, 0) hH]
        have := padded_take_get (i := i) (k := i) hz (by omega) (by omega)
        simp [Fr.cells, show 2 + i = i + 1 + 1 from by omega, this]
      have hfz : wr.frozen? ⟨w.heap.size, 2 + i, .none⟩ = false := rowFree hH _
      have hrow := heap_setCell_same wr w.heap.size (2 + i) _ _ (.int .i64 (zs.getD i 0)) hH
      have hstep := padded_step code 0 hz hlt
      rw [List.setIfInBounds_toArray, ← hstep] at hrow
      generalize zs.getD i 0 = z at *
      have hrow' := Lib.hid hrow
      clear hrow hstep
      go_wp2_with fail
      exact ⟨⟨i + 1, by omega, rfl, Below.setCell hbw (by show W.heap.size ≤ w.heap.size; omega) _, hrow'.out⟩, by simp [intOf]; omega⟩
    · have hil : ¬ (i : Int) < (zs.length : Int) := by omega
      obtain rfl : i = zs.length := by omega
      rw [List.take_length] at hH
      go_wp2_with fail
      obtain ⟨w2, rfl⟩ : ∃ w2 : World, w2 = wr := ⟨_, rfl⟩
      have hH' := hH
      clear hH
      obtain ⟨e0, e1, e2, e3, e4, e5, e6, e7, he⟩ := list8 (padded_length hz)
      rw [he] at hH'
      have hh := fun i => cell_of_row w2 w.heap.size i _ _ (0, 0) hH'
      simp only [Fr.cells, List.map_cons, List.map_nil] at hh hH'
      have h2 := h'.below hbw
      have ho2 := ho.trans (Only.of_below (F := fun _ => False) hbw) (fun _ _ h => h.elim)
      have hs1 : s ≠ w.heap.size := by omega
      have hsz2 : W.heap.size < w2.heap.size := (Array.getElem?_eq_some_iff.1 (hsz ▸ hH')).1
      clear k1 k6 hc' hn ho

      have hu2 := Try.underlying56
      obtain ⟨i0, hi, hz0, hz1, hz2⟩ := info_parts infoMFrame
      have c2 := h2.cell0
      have fz2 := cell_free_of h2.head 0
      have hrow := h2.rowLt
      have hrl := h'.rowLt
      have ne1 : some s ≠ (Value.slice a fs.length c).ownBlock := fun e => h2.apart e.symm
      have ne2 : some w.heap.size ≠ (Value.slice a fs.length c).ownBlock := fun e => by have := (hrl _ e.symm).2; omega
      have hB2 : B ≤ w2.heap.size := by omega
      have hs2 : s < w2.heap.size := h2.lt
      have hone : ∀ u ∈ ([.int .i64 code, .int .i64 0, .int .i64 e0, .int .i64 e1, .int .i64 e2, .int .i64 e3, .int .i64 e4, .int .i64 e5, .int .i64 e6, .int .i64 e7] : List Value), u.oneCell' = true := by intro u hu; simp at hu; rcases hu with rfl | rfl | rfl | rfl | rfl | rfl | rfl | rfl | rfl | rfl <;> rfl
      have hb1 : (fs.length + 1) * 80 ≤ 140737488355328 := by omega
      have hb3 : fs.length + 1 ≤ maxLen := by simp only [maxLen]; omega
      generalize hH : w.heap.size = H at *
      have g0 : ∀ i, w2.cell? ⟨H, i, .none⟩ = (#[.int .i64 code, .int .i64 0, .int .i64 e0, .int .i64 e1, .int .i64 e2, .int .i64 e3, .int .i64 e4, .int .i64 e5, .int .i64 e6, .int .i64 e7] : Array Value)[i]? := hh
      clear hh h' h3 h4
      have hS : ∀ w', Below w2.heap.size w2 w' → w'.cell? ⟨s, 0, .none⟩ = some (.slice a fs.length c) ∧ w'.frozen? ⟨s, 0, .none⟩ = false ∧ w'.cell? ⟨H, 0, .none⟩ = some (.int .i64 code) ∧ w'.cell? ⟨H, 1, .none⟩ = some (.int .i64 0) ∧ w'.cell? ⟨H, 2, .none⟩ = some (.int .i64 e0) ∧ w'.cell? ⟨H, 3, .none⟩ = some (.int .i64 e1) ∧ w'.cell? ⟨H, 4, .none⟩ = some (.int .i64 e2) ∧ w'.cell? ⟨H, 5, .none⟩ = some (.int .i64 e3) ∧ w'.cell? ⟨H, 6, .none⟩ = some (.int .i64 e4) ∧ w'.cell? ⟨H, 7, .none⟩ = some (.int .i64 e5) ∧ w'.cell? ⟨H, 8, .none⟩ = some (.int .i64 e6) ∧ w'.cell? ⟨H, 9, .none⟩ = some (.int .i64 e7) := by
        intro w' hb
        have kk := keepF hb
        refine ⟨kk _ _ _ c2, (hb.frozen (p := ⟨s, 0, .none⟩) hs2).trans fz2, ?_⟩
        (repeat' apply And.intro) <;> exact kk _ _ _ (g0 _)
      have hS3 : ∀ w1 w', Below w2.heap.size w2 w1 → w1.grownBy w' (Value.slice a fs.length c).ownBlock → w'.cell? ⟨s, 0, .none⟩ = some (.slice a fs.length c) ∧ w'.frozen? ⟨s, 0, .none⟩ = false ∧ w'.cell? ⟨H, 0, .none⟩ = some (.int .i64 code) ∧ w'.cell? ⟨H, 1, .none⟩ = some (.int .i64 0) ∧ w'.cell? ⟨H, 2, .none⟩ = some (.int .i64 e0) ∧ w'.cell? ⟨H, 3, .none⟩ = some (.int .i64 e1) ∧ w'.cell? ⟨H, 4, .none⟩ = some (.int .i64 e2) ∧ w'.cell? ⟨H, 5, .none⟩ = some (.int .i64 e3) ∧ w'.cell? ⟨H, 6, .none⟩ = some (.int .i64 e4) ∧ w'.cell? ⟨H, 7, .none⟩ = some (.int .i64 e5) ∧ w'.cell? ⟨H, 8, .none⟩ = some (.int .i64 e6) ∧ w'.cell? ⟨H, 9, .none⟩ = some (.int .i64 e7) := by
        intro w1 w' hb hg
        have h := hS w1 hb
        have hs3 : s < w1.heap.size := by have := hb.size; omega
        refine ⟨hg.cell h.1 ne1, (World.frozen?_of_block (hg.block s hs3 ne1)).trans h.2.1, ?_⟩
        obtain ⟨_, _, h0, h1, h2, h3, h4, h5, h6, h7, h8, h9⟩ := h
        exact ⟨hg.cell h0 ne2, hg.cell h1 ne2, hg.cell h2 ne2, hg.cell h3 ne2, hg.cell h4 ne2, hg.cell h5 ne2, hg.cell h6 ne2, hg.cell h7 ne2, hg.cell h8 ne2, hg.cell h9 ne2⟩
      go_cut [] (fun wx => Only (foot s (.slice a fs.length c)) w wx ∧ ∃ sl', (∀ k, sl'.ownBlock = some k → (Value.slice a fs.length c).ownBlock = some k ∨ H ≤ k) ∧ MK B wx s sl' most (fs ++ [⟨code, 0, padded zs⟩]))
      case first =>
        go_region_law
          (first
            | (refine step_append_lies _ rfl (.tmp 43) (.tmp 45) 56 rfl B 63 i0 zeroFrame 10 80 hu2 hi hz0 hz1 hz2 rfl (by decide) (.slice a fs.length c) fs.length (flat fs) rfl (own_later h2 (by go_grown)) ⟨w2.heap.size, 0, .none⟩ 1 1 [.int .i64 code, .int .i64 0, .int .i64 e0, .int .i64 e1, .int .i64 e2, .int .i64 e3, .int .i64 e4, .int .i64 e5, .int .i64 e6, .int .i64 e7] rfl rfl (World.news_of_block (by exact heap_alloc_new w2 _)) hone (by decide) hb3 hb1 (Nat.le_trans hB2 (Below.size (B := 0) (by go_grown))) _ rfl ?_; intro g cap' w3 hown3 hgrow3 hat3 hlt3; have q1 := (hS3 _ _ (by go_grown) hgrow3).1; have q2 := (hS3 _ _ (by go_grown) hgrow3).2.1))
        all_goals go_wp2_with fail
        all_goals
          go_meet
          case rel =>
            refine push_done h2 (he ▸ hown3) hgrow3 ?_ ho2 hat3 (fun k => by rcases k with k | k; exact .inl k; right; rw [k]; simp; omega) (okRegs_snoc h2.regs (padded_length hz))
            go_grown
      case rest =>
        obtain ⟨hw, sl', hsl', hst⟩ := hcut
        go_wp2_with fail
        go_ret
        exact ⟨rfl, hw, sl', by rw [hH]; exact hsl', hst⟩

end Go.Proofs.Ytngglkefhinkgaa
