/- What a judge says who heard all: the walk. -/
import Derived.Test.YtclidckjnoafcaaJudN

namespace Go.Proofs.Ytclidckjnoafcaa

open Go.RowKit

attribute [local go_sem ↓] Go.wp_at_zero Go.wp_at_succ

/-- A slice of events. -/
def RdE (w : World) (v : Value) (es : List Ev) : Prop := RdS w 8 v es.length (es.flatMap fun e => e.cells.toList)
theorem evC_len (e : Ev) : e.cells.toList.length = 8 := rfl
theorem RdE.below {w w' : World} {v : Value} {es : List Ev} (h : RdE w v es) (hb : Below w.heap.size w w') : RdE w' v es := RdS.below h hb
theorem RdE.nth {w : World} {v : Value} {es : List Ev} (h : RdE w v es) : ∃ ao cap, v = .slice ao es.length cap ∧ es.length ≤ cap ∧ (cap : Int) ≤ 9223372036854775807 ∧
    (es ≠ [] → ∃ b off, ao = some ⟨b, off, .none⟩ ∧ b < w.heap.size ∧ ∀ i (hi : i < es.length) j, j < 8 → w.cell? ⟨b, off + i * 8 + j, .none⟩ = (es[i]).cells.toList[j]?) := by
  obtain ⟨ao, cap, e, h1, h2, h3, h4⟩ := h
  refine ⟨ao, cap, e, h1, h2, fun hn => ?_⟩
  obtain ⟨b, off, e2, h5, h6⟩ := h4 (fun e => hn (List.eq_nil_of_length_eq_zero e))
  refine ⟨b, off, e2, h5, fun i hi j hj => ?_⟩
  rw [Nat.add_assoc, h6 _ (by omega)]
  exact flatF_get (fun e : Ev => e.cells.toList) 8 evC_len es i j hi hj
theorem RdE.take {w : World} {ao : Option Addr} {cap : Nat} {es : List Ev} (h : RdE w (.slice ao es.length cap) es) (n : Nat) (hn : n ≤ es.length) : RdE w (cutV ao 0 n cap 8) (es.take n) := by
  have hc := RdS.cut (l := 0) (h := n) h (Nat.zero_le _) hn
  unfold RdE
  have hl : (es.take n).length = n := by rw [List.length_take]; omega
  rw [hl]
  have e : (es.take n).flatMap (fun e => e.cells.toList) = ((es.flatMap fun e => e.cells.toList).drop (0 * 8)).take ((n - 0) * 8) := by
    rw [Nat.zero_mul, List.drop_zero, Nat.sub_zero]
    have h2 : es.flatMap (fun e => e.cells.toList) = (es.take n).flatMap (fun e => e.cells.toList) ++ (es.drop n).flatMap (fun e => e.cells.toList) := by
      rw [← List.flatMap_append, List.take_append_drop]
    have h3 : ((es.take n).flatMap (fun e => e.cells.toList)).length = n * 8 := by
      rw [flatF_length _ 8 evC_len, hl]
    rw [h2, ← h3, List.take_left]
  rw [e]
  simpa using hc
def fitE (es : List Ev) : Prop := ∀ e ∈ es, e.fit

theorem hear_len (J : Jd) (e : Ev) : (hearJ J e).ps.length = J.ps.length := by
  unfold hearJ
  split
  · rfl
  · split
    · exact why_len _ _ _ _
    · rw [List.length_map]; exact why_len _ _ _ _
theorem run_len (J : Jd) (es : List Ev) : (runJ J es).ps.length = J.ps.length := by
  induction es generalizing J with
  | nil => rfl
  | cons e es ih => rw [runJ_cons, ih, hear_len]
theorem hear_m (J : Jd) (e : Ev) : J.m ≤ (hearJ J e).m ∧ (hearJ J e).m ≤ J.m + 1 := by
  unfold hearJ
  split
  · omega
  · split
    · simp; omega
    · simp; omega
theorem run_m (J : Jd) (es : List Ev) : J.m ≤ (runJ J es).m ∧ (runJ J es).m ≤ J.m + es.length := by
  induction es generalizing J with
  | nil => simp [runJ]
  | cons e es ih =>
    have h1 := hear_m J e
    have h2 := ih (hearJ J e)
    rw [runJ_cons, List.length_cons]
    omega
theorem new_len (p c m : Int) : (newJ p c m).ps.length ≤ 12 ∧ (newJ p c m).m = 0 := by
  unfold newJ
  split
  · rename_i h
    have := mayB_iff.1 h
    simp; omega
  · simp
/-- What a judge is after some events: it is small. -/
theorem run_small (p c m : Int) (es : List Ev) (h : es.length ≤ 100000) : (0 ≤ (runJ (newJ p c m) es).m ∧ (runJ (newJ p c m) es).m ≤ 1000000) ∧ (runJ (newJ p c m) es).ps.length ≤ 100 := by
  have h1 := new_len p c m
  have h2 := run_m (newJ p c m) es
  rw [run_len]
  omega
theorem footJ_base {B : Nat} {w : World} {jb s pb : Nat} {sl : Value} {J : Jd} (h : JgA B w jb s pb sl J) : ∀ k, footJ jb s pb sl k → B ≤ k := by
  rintro k (rfl | rfl | rfl | e)
  · exact h.lies.1
  · exact h.lies.2
  · exact h.model.lies
  · exact (h.model.owns.lt k e).1

set_option maxRecDepth 100000 in
set_option maxHeartbeats 2000000 in
theorem rule_any (p c m : Int) (v : Value) (es : List Ev) (w : World) (hr : RdE w v es) (hf : fitE es) (hl : es.length ≤ 100000) :
    Calls Try.prog 8 #[.agg #[.int .i64 p, .int .i64 c, .int .i64 m], v] w fun r w' => r = .returned (.agg #[.int .i64 (runJ (newJ p c m) es).at', .int .i64 (runJ (newJ p c m) es).why]) ∧ Below w.heap.size w w' := by
  have hnew := Lib.hid (fun X => jnew_any p c m X)
  obtain ⟨ao, cap, hv, hcap, hcm, hrow⟩ := hr.nth
  have hsm : Hid (∀ i, i ≤ es.length → (0 ≤ (runJ (newJ p c m) (es.take i)).m ∧ (runJ (newJ p c m) (es.take i)).m ≤ 1000000) ∧ (runJ (newJ p c m) (es.take i)).ps.length ≤ 100) := Lib.hid fun i hi => run_small p c m _ (by rw [List.length_take]; omega)
  have hnx : Hid (∀ i (hi : i < es.length), runJ (newJ p c m) (es.take (i + 1)) = hearJ (runJ (newJ p c m) (es.take i)) es[i]) := Lib.hid fun i hi => by
    rw [List.take_succ_eq_append_getElem hi, runJ_snoc]
  have hall : Hid (runJ (newJ p c m) (es.take es.length) = runJ (newJ p c m) es) := Lib.hid (by rw [List.take_length])
  have hfi : Hid (∀ i (hi : i < es.length), (es[i]).fit) := Lib.hid fun i hi => hf _ (List.getElem_mem hi)
  have h0 : Hid (runJ (newJ p c m) (es.take 0) = newJ p c m) := Lib.hid rfl
  obtain ⟨n, hn, hn'⟩ : ∃ n, Hid (n = es.length) ∧ n = es.length := ⟨_, Lib.hid rfl, rfl⟩
  rw [← hn'] at hv hcap hl
  clear hn'
  subst hv
  replace hrow := Lib.hid hrow
  have b1 := (Below.refl w.heap.size w).alloc (Nat.le_refl _) (.cells #[.int .i64 p, .int .i64 c, .int .i64 m] 23)
  have b2 := b1.alloc b1.size (.cells #[.int .i64 0, .int .i64 0] 27)
  obtain ⟨t1, t2, hsz, _⟩ := two_blocks w (.cells #[.int .i64 p, .int .i64 c, .int .i64 m] 23) (.cells #[.int .i64 0, .int .i64 0] 27)
  obtain ⟨H, hH, hH'⟩ : ∃ H, Hid (H = w.heap.size) ∧ H = w.heap.size := ⟨_, Lib.hid rfl, rfl⟩
  obtain ⟨K, hK, hK'⟩ : ∃ K, Hid (K = w.heap.size + 1) ∧ K = w.heap.size + 1 := ⟨_, Lib.hid rfl, rfl⟩
  go_enter Try.func8, Try.ntmps8
  go_upto_region 1 with fail
  generalize (w.alloc (.cells #[.int .i64 p, .int .i64 c, .int .i64 m] 23)).alloc (.cells #[.int .i64 0, .int .i64 0] 27) = W at *
  try rw [← hK'] at t2 ⊢
  rw [← hH'] at t1 ⊢
  clear hH' hK'
  have lK : K < W.heap.size := (Array.getElem?_eq_some_iff.1 t2).1
  have lH : H < W.heap.size := (Array.getElem?_eq_some_iff.1 t1).1
  have c0 : W.cell? ⟨H, 0, .none⟩ = some (.int .i64 p) := rowCells t1 0
  have c1 : W.cell? ⟨H, 1, .none⟩ = some (.int .i64 c) := rowCells t1 1
  have c2 : W.cell? ⟨H, 2, .none⟩ = some (.int .i64 m) := rowCells t1 2
  go_wp2_with fail
  refine (hnew.out W).mono ?_
  rintro r w1 ⟨jb, s, pb, rfl, hb1, hj1⟩
  obtain ⟨B, hB⟩ : ∃ B, B = W.heap.size := ⟨_, rfl⟩
  rw [← hB] at hj1
  obtain ⟨V, rfl⟩ : ∃ V : World, V = w1 := ⟨_, rfl⟩
  have hBl : W.heap.size ≤ B := by omega
  have hBu : B ≤ W.heap.size := by omega
  clear hB
  have hsz2 : w.heap.size ≤ W.heap.size := b2.size
  clear b1
  go_wp2_with fail
  go_loopw [12] (fun vi wr => ∃ (i : Nat) (sl : Value), i ≤ n ∧ vi = .int .i64 i ∧ JgA B wr jb s pb sl (runJ (newJ p c m) (es.take i)) ∧ Below W.heap.size W wr) (fun vi _ => n - (intOf vi).toNat)
  case atStart => exact ⟨0, _, Nat.zero_le _, rfl, by rw [h0.out]; exact hj1, hb1⟩
  case round =>
    obtain ⟨i, sl, hi, rfl, hj, hbr⟩ := hrel
    obtain ⟨Y, rfl⟩ : ∃ V : World, V = wr := ⟨_, rfl⟩
    by_cases hlt : i < n
    · have hlt' : (i : Int) < (n : Int) := by omega
      have hi0 : (0 : Int) ≤ (i : Int) := by omega
      have wi1 : IntKind.i64.wrap ((i : Int) + 1) = (i : Int) + 1 := IntWalk.i64_in _ ⟨by omega, by omega⟩
      have hil : i < es.length := hn.out ▸ hlt
      obtain ⟨b, off, hao, hb, hc⟩ := hrow.out (fun e => by rw [e] at hil; simp at hil)
      subst hao
      have hc := hc i hil
      obtain ⟨e, he⟩ : ∃ e, es[i] = e := ⟨_, rfl⟩
      have hef := hfi.out i hil
      have hnx := hnx.out i hil
      rw [he] at hc hef hnx
      have hsmi := hsm.out i (by omega)
      have hBY := b2.trans (hbr.mono b2.size)
      have x0 : Y.cell? ⟨b, off + i * 8, .none⟩ = some (.int .i64 e.k) := keepF hBY _ _ _ (hc 0 (by omega))
      have x1 : Y.cell? ⟨b, off + i * 8 + 1, .none⟩ = some (.int .i64 e.c) := keepF hBY _ _ _ (hc 1 (by omega))
      have x2 : Y.cell? ⟨b, off + i * 8 + 2, .none⟩ = some (.int .i64 e.ok) := keepF hBY _ _ _ (hc 2 (by omega))
      have x3 : Y.cell? ⟨b, off + i * 8 + 3, .none⟩ = some (.int .i64 e.oa) := keepF hBY _ _ _ (hc 3 (by omega))
      have x4 : Y.cell? ⟨b, off + i * 8 + 4, .none⟩ = some (.int .i64 e.on) := keepF hBY _ _ _ (hc 4 (by omega))
      have x5 : Y.cell? ⟨b, off + i * 8 + 5, .none⟩ = some (.int .i64 e.at') := keepF hBY _ _ _ (hc 5 (by omega))
      have x6 : Y.cell? ⟨b, off + i * 8 + 6, .none⟩ = some (.int .i64 e.n) := keepF hBY _ _ _ (hc 6 (by omega))
      have x7 : Y.cell? ⟨b, off + i * 8 + 7, .none⟩ = some (.int .i64 e.er) := keepF hBY _ _ _ (hc 7 (by omega))
      have bA := (Below.refl Y.heap.size Y).alloc (Nat.le_refl _) (.cells #[.int .i64 e.k, .int .i64 e.c, .int .i64 e.ok, .int .i64 e.oa, .int .i64 e.on, .int .i64 e.at', .int .i64 e.n, .int .i64 e.er] 37)
      have hjA := hj.below bA
      have hhr := hear_any hjA e hef hsmi.1 hsmi.2
      unfold Ev.val Ev.cells at hhr
      have hbA := hbr.trans (bA.mono hbr.size)
      have hfin : Hid (∀ w', Left B (Y.alloc (.cells #[.int .i64 e.k, .int .i64 e.c, .int .i64 e.ok, .int .i64 e.oa, .int .i64 e.on, .int .i64 e.at', .int .i64 e.n, .int .i64 e.er] 37)) w' jb s pb sl (hearJ (runJ (newJ p c m) (es.take i)) e) → ∃ (j : Nat) (sl : Value), j ≤ n ∧ Value.int .i64 ((i : Int) + 1) = .int .i64 j ∧ JgA B w' jb s pb sl (runJ (newJ p c m) (es.take j)) ∧ Below W.heap.size W w') := Lib.hid fun w' hL => by
        obtain ⟨⟨sl', hj', _⟩, ho⟩ := hL
        refine ⟨i + 1, sl', by omega, by go_num, by rw [hnx]; exact hj', hbA.trans (ho.below (by have := hbA.size; omega) fun k hk => Nat.le_trans hBl (footJ_base hjA k hk))⟩
      replace hhr := Lib.hid hhr
      clear hc hnx he hj hbr hBY bA hjA hbA hsmi
      go_wp2_with (go_at_call 10; refine hhr.out.mono ?_; rintro r w4 ⟨rfl, hL⟩)
      exact ⟨hfin.out _ hL, by simp [intOf]; omega⟩
    · have hie : i = n := by omega
      subst hie
      rw [hn.out, hall.out] at hj
      have hru := Lib.hid (ruling_any hj)
      have hKY := (hbr.block _ lK).trans t2
      go_wp2_with fail
      refine hru.out.mono ?_
      rintro r w4 ⟨rfl, hb4⟩
      have hB4 := hbr.trans (hb4.mono hbr.size)
      have tK := (hB4.block _ lK).trans t2
      have r0 := (rowCells tK 0).trans (show _ = some (.int .i64 0) from rfl)
      have r1 := (rowCells tK 1).trans (show _ = some (.int .i64 0) from rfl)
      have rF := rowFree tK
      have hKw := hK.out
      have hfin : Hid (Below w.heap.size w ((w4.setCell ⟨K, 0, .none⟩ (.int .i64 (runJ (newJ p c m) es).at')).setCell ⟨K, 1, .none⟩ (.int .i64 (runJ (newJ p c m) es).why))) := Lib.hid (((b2.trans (hB4.mono b2.size)).setCell (p := ⟨K, 0, .none⟩) (by show w.heap.size ≤ K; omega) _).setCell (p := ⟨K, 1, .none⟩) (by show w.heap.size ≤ K; omega) _)
      clear hKw hru tK hKY hj
      go_wp2
      exact bodyPost_ret (v := .agg #[.int .i64 (runJ (newJ p c m) es).at', .int .i64 (runJ (newJ p c m) es).why]) (by simp [results, Try.results8, go_sem, r0, r1]) rfl ⟨rfl, hfin.out⟩
end Go.Proofs.Ytclidckjnoafcaa
