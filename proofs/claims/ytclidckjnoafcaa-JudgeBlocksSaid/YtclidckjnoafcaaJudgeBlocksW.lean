/- The law JudgeBlocks: the walk. -/
import Derived.Test.YtclidckjnoafcaaJudA

import Derived.Test.YtclidckjnoafcaaJudBlkP

import Derived.Test.YtclidckjnoafcaaAtR

import Derived.Test.YtclidckjnoafcaaQTail

import Derived.Test.YtclidckjnoafcaaQVar1

import Derived.Deep.CutBlock

namespace Go.Proofs.Ytclidckjnoafcaa

open Go.RowKit

attribute [local go_sem ↓] Go.wp_at_zero Go.wp_at_succ

attribute [local go_sem high] run_cut_l run_cut_h run_cut_lh

/-- What is in blocks, as a row of events says it. -/
def bksOf (es : List Ev) : List Bk := es.map fun e => ⟨e.at', e.n⟩
/-- The judge and the row of what was taken and not given. -/
structure BlkSt (B : Nat) (W X : World) (jb s pb : Nat) (J : Jd) (v : Value) (xs : List Ev) (sl : Value) : Prop where
  judge : JgA B X jb s pb sl J
  below : Below W.heap.size W X
  row : AtR X B 37 8 v xs.length (xs.flatMap fun e => e.cells.toList)
  apart : ∀ k, v.ownBlock = some k → ¬ footJ jb s pb sl k
  same : List.Perm (bksOf xs) J.l
/-- Behind a hearing: all but what the event did to the blocks. -/
theorem BlkSt.heard {B : Nat} {W X X' : World} {jb s pb : Nat} {J J' : Jd} {v : Value} {xs : List Ev} {sl : Value} (h : BlkSt B W X jb s pb J v xs sl) (hB : W.heap.size ≤ B) (hL : Left B X X' jb s pb sl J') :
    ∃ sl', JgA B X' jb s pb sl' J' ∧ Below W.heap.size W X' ∧ AtR X' B 37 8 v xs.length (xs.flatMap fun e => e.cells.toList) ∧ ∀ k, v.ownBlock = some k → ¬ footJ jb s pb sl' k := by
  obtain ⟨⟨sl', hj', hsl⟩, ho⟩ := hL
  refine ⟨sl', hj', h.below.trans (ho.below h.below.size fun k hk => Nat.le_trans hB (footJ_base h.judge k hk)), h.row.of_block ho.size fun k hk => ho.block k (h.row.lt hk).2 (h.apart k hk), fun k hk hf => ?_⟩
  rcases hf with e | e | e | e
  · exact h.apart k hk (.inl e)
  · exact h.apart k hk (.inr (.inl e))
  · exact h.apart k hk (.inr (.inr (.inl e)))
  · rcases hsl k e with e2 | e2
    · exact h.apart k hk (.inr (.inr (.inr e2)))
    · have := (h.row.lt hk).2
      omega
theorem JgA.of_foot {B : Nat} {w w' : World} {jb s pb : Nat} {sl : Value} {J : Jd} (h : JgA B w jb s pb sl J) (hs : w.heap.size ≤ w'.heap.size) (hk : ∀ k, k < w.heap.size → footJ jb s pb sl k → w'.heap[k]? = w.heap[k]?) : JgA B w' jb s pb sl J := by
  have hm := h.model
  refine ⟨(hk jb h.lt (.inl rfl)).trans h.head, ⟨hm.lies, (hk s hm.lt (.inr (.inr (.inl rfl)))).trans hm.head, ownsRow_of_blocks hm.owns fun k e => hk k (hm.owns.lt k e).2 (.inr (.inr (.inr e))), hm.apart, hm.ok, hm.small⟩, fun e => (h.row e).of_block (hk pb h.plt (.inr (.inl rfl))), h.lies, Nat.lt_of_lt_of_le h.plt hs, h.apart⟩
/-- The row has grown or shrunk. -/
theorem BlkSt.put {B : Nat} {W Z Z2 X : World} {jb s pb : Nat} {J : Jd} {v v' : Value} {ys : List Ev} {sl : Value} (hj : JgA B Z jb s pb sl J) (hb : Below W.heap.size W Z) (hW : W.heap.size ≤ B) (hv : ∀ k, v.ownBlock = some k → B ≤ k ∧ ¬ footJ jb s pb sl k) (hl : Below Z.heap.size Z Z2) (hg : Z2.grownBy X v.ownBlock)
    (hat : v'.ownBlock = v.ownBlock ∨ ∀ k, v'.ownBlock = some k → Z2.heap.size ≤ k) (hr : AtR X B 37 8 v' ys.length (ys.flatMap fun e => e.cells.toList)) (hp : List.Perm (bksOf ys) J.l) : BlkSt B W X jb s pb J v' ys sl := by
  have hlt : ∀ k, footJ jb s pb sl k → k < Z.heap.size := by
    rintro k (e | e | e | e)
    · exact e ▸ hj.lt
    · exact e ▸ hj.plt
    · exact e ▸ hj.model.lt
    · exact (hj.model.owns.lt k e).2
  have hne : ∀ k, footJ jb s pb sl k → some k ≠ v.ownBlock := fun k hk e => (hv k e.symm).2 hk
  refine ⟨hj.of_foot (Nat.le_trans hl.size hg.size) fun k h1 h2 => (hg.block k (Nat.lt_of_lt_of_le h1 hl.size) (hne k h2)).trans (hl.block k h1), ?_, hr, fun k hk hf => ?_, hp⟩
  · refine (hb.trans (hl.mono hb.size)).trans ⟨hg.os, hg.tape, hg.output, hg.size, fun k hk => hg.block k (Nat.lt_of_lt_of_le hk (Nat.le_trans hb.size hl.size)) fun e => ?_⟩
    have := (hv k e.symm).1
    omega
  · rcases hat with e | e
    · exact (hv k (e ▸ hk)).2 hf
    · have h1 := hlt k hf
      have h2 := e k hk
      have h3 := hl.size
      omega
theorem AtR.full {w : World} {base : Nat} {t : TypeId} {size n : Nat} {v : Value} {xs : List Value} (h : AtR w base t size v n xs) (hn : n ≠ 0) : ∃ g cap, v = .slice (some ⟨g, 0, .none⟩) n cap ∧ n ≤ cap ∧ (cap : Int) ≤ 9223372036854775807 ∧ base ≤ g ∧ g < w.heap.size ∧ xs.length = n * size ∧ ∀ i, i < n * size → w.cell? ⟨g, i, .none⟩ = xs[i]? := by
  obtain ⟨ao, cap, rfl, h1, h2, h3, h4⟩ := h.rd
  obtain ⟨b, off, rfl, h5, h6⟩ := h4 hn
  have h0 : off = 0 ∧ base ≤ b := by
    rcases h with h | ⟨_, g, e, h7, _⟩
    · rcases h.2 with ⟨e, _⟩ | ⟨g, cap', cur, e, h7, _⟩
      · cases e
      · injection e with e _ _
        injection e with e
        injection e with e1 e2
        exact ⟨e2, e1 ▸ h7⟩
    · injection e with e _ _
      injection e with e
      injection e with e1 e2
      exact ⟨e2, e1 ▸ h7⟩
  obtain ⟨rfl, h7⟩ := h0
  exact ⟨b, cap, rfl, h1, h2, h7, h5, h3, fun i hi => by have := h6 i hi; rwa [Nat.zero_add] at this⟩
/-- The first so many, with no room behind them. -/
theorem AtR.first {w : World} {base : Nat} {t : TypeId} {size n k cap g : Nat} {xs : List Value} (h : AtR w base t size (.slice (some ⟨g, 0, .none⟩) n cap) n xs) (hn : n ≠ 0) (hk : k ≤ n) : AtR w base t size (.slice (some ⟨g, 0, .none⟩) k k) k (xs.take (k * size)) := by
  obtain ⟨g', cap', e, h1, h2, h3, h4, h5, h6⟩ := h.full hn
  injection e with e _ _
  injection e with e
  injection e with e1 _
  subst e1
  have hkn : k * size ≤ n * size := Nat.mul_le_mul_right _ hk
  refine .inr ⟨⟨_, k, rfl, Nat.le_refl _, by omega, by rw [List.length_take]; omega, fun _ => ⟨g, 0, rfl, h4, fun i hi => ?_⟩⟩, g, rfl, h3, h4⟩
  rw [Nat.zero_add, h6 i (by omega), List.getElem?_take_of_lt hi]
theorem evTake (xs : List Ev) (k : Nat) : (xs.flatMap fun e => e.cells.toList).take (k * 8) = (xs.take k).flatMap fun e => e.cells.toList := by
  induction xs generalizing k with
  | nil => simp
  | cons x xs ih =>
    cases k with
    | zero => simp
    | succ k =>
      have h8 : x.cells.toList.length = 8 := rfl
      rw [List.take_succ_cons, List.flatMap_cons, List.flatMap_cons, List.take_append, h8, List.take_of_length_le (by omega), show (k + 1) * 8 - 8 = k * 8 by omega, ih]
theorem evDrop (xs : List Ev) (k : Nat) : (xs.flatMap fun e => e.cells.toList).drop (k * 8) = (xs.drop k).flatMap fun e => e.cells.toList := by
  induction xs generalizing k with
  | nil => simp
  | cons x xs ih =>
    cases k with
    | zero => simp
    | succ k =>
      have h8 : x.cells.toList.length = 8 := rfl
      rw [List.drop_succ_cons, List.flatMap_cons, List.drop_append, h8, List.drop_of_length_le (by omega), show (k + 1) * 8 - 8 = k * 8 by omega, ih, List.nil_append]
theorem bks_cut (xs : List Ev) (j : Nat) : bksOf (xs.take j ++ xs.drop (j + 1)) = (bksOf xs).take j ++ (bksOf xs).drop (j + 1) := by
  unfold bksOf
  rw [List.map_append, List.map_take, List.map_drop]
theorem give_evs {W a : Int} {l : List Bk} {xs : List Ev} (h : okK W 0 l) (hp : List.Perm (bksOf xs) l) (j : Nat) (hj : j < xs.length) (ha : xs[j].at' = a) : List.Perm (bksOf (xs.take j ++ xs.drop (j + 1))) (giveB l a) ∧ usedB (giveB l a) = usedB l - xs[j].n := by
  have h2 : j < (bksOf xs).length := by simpa [bksOf] using hj
  have h3 : (bksOf xs)[j] = ⟨xs[j].at', xs[j].n⟩ := by simp [bksOf]
  subst ha
  have := give_perm h hp j h2 (a := xs[j].at') (by rw [h3])
  rw [h3] at this
  rw [bks_cut]
  exact this
theorem infoEv : (Try.prog.info? 37).map (fun i => (i.zero, i.size, i.bytes)) = some (some (.agg #[.int .i64 0, .int .i64 0, .int .i64 0, .int .i64 0, .int .i64 0, .int .i64 0, .int .i64 0, .int .i64 0]), 8, 64) := by kernel_rfl
theorem BlkSt.later {B : Nat} {W X X' : World} {jb s pb : Nat} {J : Jd} {v : Value} {xs : List Ev} {sl : Value} (h : BlkSt B W X jb s pb J v xs sl) (hb : Below X.heap.size X X') : BlkSt B W X' jb s pb J v xs sl :=
  ⟨h.judge.below hb, h.below.trans (hb.mono h.below.size), h.row.of_block hb.size fun k hk => hb.block k (h.row.lt hk).2, h.apart, h.same⟩
theorem cell2_keep {X X' : World} {N : Nat} {t : TypeId} {a b : Value} (h : X.heap[N]? = some (.cells #[a, b] t (0, 0))) (hb : Below X.heap.size X X') : X'.cell? ⟨N, 0, .none⟩ = some a ∧ X'.cell? ⟨N, 1, .none⟩ = some b ∧ (∀ i, X'.frozen? ⟨N, i, .none⟩ = false) ∧ N < X'.heap.size := by
  have h2 : X'.heap[N]? = some (.cells #[a, b] t (0, 0)) := (hb.block N (Array.getElem?_eq_some_iff.1 h).1).trans h
  exact ⟨rowCells h2 0, rowCells h2 1, fun i => rowFree h2 i, (Array.getElem?_eq_some_iff.1 h2).1⟩
/-- A block's variable: made, filled. -/
theorem blk_step {l : List Oper} {aF : Act} {Q : Exit → Act → World → Prop} {x : VarOp} {a0 b0 : Int} {ty1 ty2 : TypeId} {p1 p2 : String} {af1 af2 : Array Edge} {oz : Oper}
    (ht : x.t = 52) (hz : x.zero = #[.int .i64 0, .int .i64 0]) (hv : x.val = #[.int .i64 a0, .int .i64 b0]) (hF : aF.eval (.tmp x.src) = .agg #[.int .i64 a0, .int .i64 b0])
    (h1 : l.toArray[x.al]? = some { dst := some x.d, op := .alloc 52, type := ty1, pos := p1, after := af1, guard := none })
    (h2 : l.toArray[x.st]? = some { dst := none, op := .store 52 (.tmp x.d) (.tmp x.src), type := ty2, pos := p2, after := af2, guard := none })
    (h3 : l.toArray[x.so]? = some oz) (h4 : oz.dst = some x.src) (ha : (af2.any fun e => Region.binds .any e && e.on == x.al) = true) (hs : (af2.any fun e => Region.binds .any e && e.on == x.so) = true) : VarStep Try.prog l Q aF x := by
  obtain ⟨al, st, so, d, src, t, zero, val⟩ := x
  subst ht hz hv
  dsimp only at *
  refine ⟨fun a w K hK => ?_, fun a w K M e1 e2 hM hK => ?_, fun listed hr => ?_, ⟨oz, h3, h4⟩⟩
  · unfold wpOp
    rw [h1]
    simp only [Region.wanted, if_true]
    left
    simp [go_sem, Oper.wp]
    exact hK
  · unfold wpOp
    rw [h2]
    simp only [Region.wanted, if_true]
    left
    have m0 : w.cell? ⟨M, 0, .none⟩ = some (.int .i64 0) := rowCells hM 0
    have m1 : w.cell? ⟨M, 1, .none⟩ = some (.int .i64 0) := rowCells hM 1
    have f0 : ∀ i, w.frozen? ⟨M, i, .none⟩ = false := fun i => rowFree hM i
    rw [← e2] at hF
    have e3 : a.tmps[d]?.getD undef = .pointer (some ⟨M, 0, .none⟩) := by simpa [Act.eval, vptr] using e1
    have e4 : a.tmps[src]?.getD undef = .agg #[.int .i64 a0, .int .i64 b0] := by simpa [Act.eval] using hF
    simp [go_sem, Oper.wp, e3, e4, m0, m1, f0]
    refine hK _ ?_ ?_ ?_
    · rw [heap_setCell_same _ M 1 _ _ _ (heap_setCell_same _ M 0 _ _ _ hM)]; rfl
    · exact ((Only.refl (fun k => k = M) w).setCell (p := ⟨M, 0, .none⟩) (.inl rfl) _).setCell (p := ⟨M, 1, .none⟩) (.inl rfl) _
    · simp [World.setCell]
  · obtain ⟨_, o, ho, he⟩ := mem_ready.1 hr
    rw [h2] at ho
    injection ho with ho
    subst ho
    have out : ∀ n, (af2.any fun e => Region.binds .any e && e.on == n) = true → listed.getD n false = true := fun n hn => by
      obtain ⟨i, hi, hu⟩ := Array.any_eq_true.1 hn
      simp only [Bool.and_eq_true, beq_iff_eq] at hu
      exact hu.2 ▸ he _ (Array.getElem_mem hi) hu.1
    exact ⟨out _ ha, out _ hs⟩
theorem evOne (es : List Ev) : ∀ u ∈ es.flatMap (fun e => e.cells.toList), u.oneCell' = true := by
  intro u hu
  obtain ⟨e, _, he⟩ := List.mem_flatMap.1 hu
  simp only [Ev.cells, List.mem_cons, List.not_mem_nil, or_false] at he
  rcases he with rfl | rfl | rfl | rfl | rfl | rfl | rfl | rfl <;> rfl
set_option maxRecDepth 100000 in
set_option maxHeartbeats 4000000 in
theorem judgeBlocks_any (p c m : Int) (es : List Ev) (v : Value) (w : World) (hr : RdE w v es) (hf : fitE es) :
    Calls Try.prog 6 #[.agg #[.int .i64 p, .int .i64 c, .int .i64 m], v] w fun e w' => e = .returned (.bool true) ∧ Below w.heap.size w w' := by
  obtain ⟨ao, cap, rfl, hcap, hcm, hrow⟩ := hr.nth
  obtain ⟨n, hn, hn'⟩ : ∃ n, Hid (n = es.length) ∧ n = es.length := ⟨_, Lib.hid rfl, rfl⟩
  rw [← hn'] at hcap
  have haw := Lib.hid (fun X => awake7_any X)
  have hnw := Lib.hid (fun X => jnew_any p c m X)
  replace hrow := Lib.hid hrow
  replace hr := Lib.hid hr
  replace hf := Lib.hid hf
  have hnil : ∀ W a, (binOp .eql 32 (.pointer (some a)) (.pointer none)).run Try.prog W = .ok (.bool false) W := fun W a => by kernel_rfl
  have hnil2 : ∀ W a, (binOp .eql 44 (.pointer (some a)) (.pointer none)).run Try.prog W = .ok (.bool false) W := fun W a => by kernel_rfl
  obtain ⟨t1, t2⟩ : (w.alloc (.cells #[.int .i64 p, .int .i64 c, .int .i64 m] 23)).heap[w.heap.size]? = some (.cells #[.int .i64 p, .int .i64 c, .int .i64 m] 23 (0, 0)) ∧ Below w.heap.size w (w.alloc (.cells #[.int .i64 p, .int .i64 c, .int .i64 m] 23)) := ⟨heap_alloc_new w _, (Below.refl w.heap.size w).alloc (Nat.le_refl _) _⟩
  obtain ⟨H, hH, hH'⟩ : ∃ H, Hid (H = w.heap.size) ∧ H = w.heap.size := ⟨_, Lib.hid rfl, rfl⟩
  rw [← hn']
  go_enter Try.func6, Try.ntmps6
  go_upto_region 1 with fail
  generalize w.alloc (.cells #[.int .i64 p, .int .i64 c, .int .i64 m] 23) = W0 at *
  rw [← hH'] at t1 ⊢
  clear hH'
  go_wp2_with fail
  refine (haw.out W0).mono ?_
  rintro r W ⟨rfl, hb1⟩
  have f0 : W.cell? ⟨H, 0, .none⟩ = some (.int .i64 p) := keepF hb1 _ _ _ (rowCells t1 0)
  have f1 : W.cell? ⟨H, 1, .none⟩ = some (.int .i64 c) := keepF hb1 _ _ _ (rowCells t1 1)
  have f2 : W.cell? ⟨H, 2, .none⟩ = some (.int .i64 m) := keepF hb1 _ _ _ (rowCells t1 2)
  have lH : H < W.heap.size := Nat.lt_of_lt_of_le (Array.getElem?_eq_some_iff.1 t1).1 hb1.size
  have hn2 := Lib.hid hn'
  clear hn'
  have hbW := t2.trans (hb1.mono t2.size)
  have hfW : Hid (∀ X, Below W.heap.size W X → Below w.heap.size w X) := Lib.hid fun X hb => hbW.trans (hb.mono hbW.size)
  clear t1 t2 hb1
  by_cases h200 : n ≤ 200
  case neg =>
    have e1 : decide ((n : Int) > 200) = true := by simp; omega
    go_wp2
    go_ret
    exact ⟨rfl, hbW⟩
  case pos =>
    have e1 : decide ((n : Int) > 200) = false := by simp; omega
    go_wp2_with fail
    refine (hnw.out W).mono ?_
    rintro r W2 ⟨jb, s, pb, rfl, hb2, hj2⟩
    have j0 := hj2.h0
    clear hnw haw e1
    have hwhy : Hid (∀ i, i ≤ es.length → (0 ≤ (runJ (newJ p c m) (es.take i)).m ∧ (runJ (newJ p c m) (es.take i)).m ≤ 1000000) ∧ (runJ (newJ p c m) (es.take i)).ps.length ≤ 100) := Lib.hid fun i hi => run_small p c m _ (by rw [List.length_take]; have := hn.out; omega)
    have hev : Hid (∀ i, i < n → ∃ b off e, ao = some ⟨b, off, .none⟩ ∧ es[i]? = some e ∧ e.fit ∧ b < w.heap.size ∧ ∀ X, Below w.heap.size w X → ∀ j, j < 8 → X.cell? ⟨b, off + i * 8 + j, .none⟩ = e.cells.toList[j]?) := Lib.hid fun i hi => by
      have hil : i < es.length := hn.out ▸ hi
      obtain ⟨b, off, hao, hb, hcc⟩ := hrow.out (fun e => by rw [e] at hil; simp at hil)
      exact ⟨b, off, es[i], hao, List.getElem?_eq_getElem hil, hf.out _ (List.getElem_mem hil), hb, fun X hX j hj => by
        have e1 := hcc i hil j hj
        have e2 : j < es[i].cells.toList.length := hj
        rw [List.getElem?_eq_getElem e2] at e1 ⊢
        exact keepF hX _ _ _ e1⟩
    have hnx : Hid (∀ i e, es[i]? = some e → es.take (i + 1) = es.take i ++ [e]) := Lib.hid fun i e he => by
      obtain ⟨h3, h4⟩ := List.getElem?_eq_some_iff.1 he
      rw [List.take_add_one, he]; rfl
    clear hrow hr hf f0 f1 f2 lH
    obtain ⟨B, hB⟩ : ∃ B, B = W.heap.size := ⟨_, rfl⟩
    rw [← hB] at hj2
    have hBl : W.heap.size ≤ B := by omega
    go_upto_region 8 with fail
    have hst : BlkSt B W W2 jb s pb (newJ p c m) (.slice none 0 0) [] (.slice none 0 0) := by
      refine ⟨hj2, hb2, .inl ⟨rfl, .inl ⟨rfl, rfl⟩⟩, fun k hk => (by cases hk), ?_⟩
      have : (newJ p c m).l = [] := by unfold newJ; split <;> rfl
      rw [this]; exact List.Perm.refl _
    clear hj2 hb2 j0 hB
    obtain ⟨V, rfl⟩ : ∃ V : World, V = W2 := ⟨_, rfl⟩
    go_wp2_with fail
    have hnx2 : Hid (∀ i e, es[i]? = some e → runJ (newJ p c m) (es.take (i + 1)) = hearJ (runJ (newJ p c m) (es.take i)) e) := Lib.hid fun i e he => by rw [hnx.out i e he, runJ_snoc]
    have hu0 : usedB (runJ (newJ p c m) (es.take 0)).l = 0 := by
      have : (runJ (newJ p c m) (es.take 0)).l = [] := by unfold newJ; split <;> rfl
      rw [this]; rfl
    go_loopw [6, 7, 8, 9] (fun v6 v7 v8 v9 wr => ∃ (i : Nat) (sl : Value) (xs : List Ev), i ≤ n ∧ xs.length ≤ i ∧ v9 = .int .i64 i ∧ v7 = .int .i64 xs.length ∧ v6 = .int .i64 (usedB (runJ (newJ p c m) (es.take i)).l) ∧ BlkSt B W wr jb s pb (runJ (newJ p c m) (es.take i)) v8 xs sl) (fun _ _ _ v9 _ => n - (intOf v9).toNat)
    case atStart => exact ⟨0, _, [], Nat.zero_le _, Nat.le_refl _, rfl, rfl, by rw [hu0], hst⟩
    case round =>
      obtain ⟨i, sl, xs, hi, hxi, rfl, rfl, rfl, hst2⟩ := hrel
      obtain ⟨Y, rfl⟩ : ∃ V : World, V = wr := ⟨_, rfl⟩
      by_cases hlt : i < n
      · have hlt' : (i : Int) < (n : Int) := by omega
        have hi0 : (0 : Int) ≤ (i : Int) := by omega
        have wi1 : IntKind.i64.wrap ((i : Int) + 1) = (i : Int) + 1 := IntWalk.i64_in _ ⟨by omega, by omega⟩
        obtain ⟨b, off, e, rfl, he, hef, hbw, hcc⟩ := hev.out i hlt
        have hY := hfW.out _ hst2.below
        have x0 : Y.cell? ⟨b, off + i * 8, .none⟩ = some (.int .i64 e.k) := hcc Y hY 0 (by omega)
        have x1 : Y.cell? ⟨b, off + i * 8 + 1, .none⟩ = some (.int .i64 e.c) := hcc Y hY 1 (by omega)
        have x2 : Y.cell? ⟨b, off + i * 8 + 2, .none⟩ = some (.int .i64 e.ok) := hcc Y hY 2 (by omega)
        have x3 : Y.cell? ⟨b, off + i * 8 + 3, .none⟩ = some (.int .i64 e.oa) := hcc Y hY 3 (by omega)
        have x4 : Y.cell? ⟨b, off + i * 8 + 4, .none⟩ = some (.int .i64 e.on) := hcc Y hY 4 (by omega)
        have x5 : Y.cell? ⟨b, off + i * 8 + 5, .none⟩ = some (.int .i64 e.at') := hcc Y hY 5 (by omega)
        have x6 : Y.cell? ⟨b, off + i * 8 + 6, .none⟩ = some (.int .i64 e.n) := hcc Y hY 6 (by omega)
        have x7 : Y.cell? ⟨b, off + i * 8 + 7, .none⟩ = some (.int .i64 e.er) := hcc Y hY 7 (by omega)
        obtain ⟨sm1, sm2⟩ := hwhy.out i (by have := hn.out; omega)
        have hhr := hear_any hst2.judge e hef sm1 sm2
        unfold Ev.val Ev.cells at hhr
        have hJ1 := hnx2.out i e he
        have hblk : hearB (runJ (newJ p c m) (es.take i)) e = true → _ := hear_blocks
        have hokK := hst2.judge.model.ok
        have hsm0 := hst2.judge.model.small
        have hsame := hst2.same
        have hheard : Hid (∀ w', Left B Y w' jb s pb sl (hearJ (runJ (newJ p c m) (es.take i)) e) → _) := Lib.hid fun w' => hst2.heard hBl
        have hcc2 : Hid (∀ X, Below W.heap.size W X → ∀ j, j < 8 → X.cell? ⟨b, off + i * 8 + j, .none⟩ = e.cells.toList[j]?) := Lib.hid fun X hX => hcc X (hfW.out X hX)
        replace hhr := Lib.hid hhr
        replace hblk := Lib.hid hblk
        replace hsame := Lib.hid hsame
        replace hokK := Lib.hid hokK
        obtain ⟨J1, hJe⟩ : ∃ J1, Hid (J1 = runJ (newJ p c m) (es.take (i + 1))) := ⟨_, Lib.hid rfl⟩
        have hJ0 := hJe.out.trans hJ1
        rw [← hJ0] at hheard hblk hhr
        have hfin : Hid (∀ X v' ys sl', ys.length ≤ i + 1 → BlkSt B W X jb s pb J1 v' ys sl' → (∃ (k : Nat) (sl : Value) (xs : List Ev), k ≤ n ∧ xs.length ≤ k ∧ Value.int .i64 ((i : Int) + 1) = .int .i64 k ∧ Value.int .i64 ys.length = .int .i64 xs.length ∧ Value.int .i64 (usedB J1.l) = .int .i64 (usedB (runJ (newJ p c m) (es.take k)).l) ∧ BlkSt B W X jb s pb (runJ (newJ p c m) (es.take k)) v' xs sl) ∧ n - (intOf (Value.int .i64 ((i : Int) + 1))).toNat < n - (intOf (Value.int .i64 (i : Int))).toNat) := Lib.hid fun X v' ys sl' h1 h2 => by
          rw [hJe.out] at h2 ⊢
          exact ⟨⟨i + 1, sl', ys, by omega, h1, by go_num, rfl, rfl, h2⟩, by simp [intOf]; omega⟩
        clear hcc he hef sm1 sm2 hwhy hnx hev hst2 hst hu0 hnx2 hJ1 hJ0 hJe
        generalize runJ (newJ p c m) (es.take i) = J at *
        generalize hearB J e = hb at *
        cases hb with
        | false =>
          go_wp2_with (go_at_call 10; refine hhr.out.mono ?_; rintro r w4 ⟨rfl, hL⟩)
          go_ret
          obtain ⟨_, _, h2, _⟩ := hheard.out _ hL
          exact ⟨rfl, hfW.out _ h2⟩
        | true =>
          obtain ⟨hb3, hb4, hb5⟩ := hblk.out rfl
          go_upto_region 15 with (go_at_call 10; refine hhr.out.mono ?_; rintro r w4 ⟨rfl, hL⟩)
          obtain ⟨sl4, hj4, hW4, hrow4, hap4⟩ := hheard.out _ hL
          clear x0 x1 x2 x3 x4 x5 x6 x7 hL hheard hhr hblk hY
          have x0 : w4.cell? ⟨b, off + i * 8, .none⟩ = some (.int .i64 e.k) := hcc2.out w4 hW4 0 (by omega)
          have x5 : w4.cell? ⟨b, off + i * 8 + 5, .none⟩ = some (.int .i64 e.at') := hcc2.out w4 hW4 5 (by omega)
          have x6 : w4.cell? ⟨b, off + i * 8 + 6, .none⟩ = some (.int .i64 e.n) := hcc2.out w4 hW4 6 (by omega)
          have hok1 := hj4.model.ok
          have hus1 := usedB_le hok1
          have hus0 := usedB_le hokK.out
          have hsm1 := hj4.model.small
          obtain ⟨Z, rfl⟩ : ∃ V : World, V = w4 := ⟨_, rfl⟩
          replace hb3 := Lib.hid hb3
          replace hb4 := Lib.hid hb4
          replace hb5 := Lib.hid hb5
          go_upto_block 2 with fail
          go_cut [6, 7, 8] (fun v6 v7 v8 wx => ∃ ys sl', ys.length ≤ i + 1 ∧ v7 = .int .i64 ys.length ∧ v6 = .int .i64 (usedB J1.l) ∧ BlkSt B W wx jb s pb J1 v8 ys sl')
          case first =>
            obtain ⟨i0, hi0', hz0, hz1, hz2⟩ := info_parts infoEv
            obtain ⟨nx, hnx, hnx'⟩ : ∃ nx, Hid (nx = xs.length) ∧ nx = xs.length := ⟨_, Lib.hid rfl, rfl⟩
            rw [← hnx'] at hxi hrow4 ⊢
            have hZB : B ≤ Z.heap.size := Nat.le_trans hj4.lies.1 (Nat.le_of_lt hj4.lt)
            have hvf : Hid (∀ k, u8.ownBlock = some k → B ≤ k ∧ ¬ footJ jb s pb sl4 k) := Lib.hid fun k hk => ⟨(hrow4.lt hk).1, hap4 k hk⟩
            have hput := fun Z2 X (v' : Value) ys => Lib.hid (BlkSt.put (Z2 := Z2) (X := X) (v' := v') (ys := ys) hj4 hW4 hBl hvf.out)
            have hkeep : Hid (J1.l = J.l → BlkSt B W Z jb s pb J1 u8 xs sl4) := Lib.hid fun h => ⟨hj4, hW4, hnx.out ▸ hrow4, hap4, h ▸ hsame.out⟩
            clear hnx' hap4
            have hone := evOne
            by_cases k3 : e.k = 3
            · have hl := hb3.out k3
              have hu : usedB J1.l = usedB J.l + e.n := by rw [hl, usedB_put]
              have wu : IntKind.i64.wrap (usedB J.l + e.n) = usedB J.l + e.n := IntWalk.i64_in _ ⟨by omega, by omega⟩
              have wn : IntKind.i64.wrap ((nx : Int) + 1) = (nx : Int) + 1 := IntWalk.i64_in _ ⟨by omega, by omega⟩
              have hp : List.Perm (bksOf (xs ++ [e])) J1.l := by
                rw [hl]
                unfold bksOf
                rw [List.map_append]
                exact (List.perm_append_singleton _ _).trans ((List.Perm.cons _ hsame.out).trans (putB_perm _ _ _).symm)
              have g3 : (e.k == 3) = true := by simpa using k3
              have hsz : (xs ++ [e]).length = nx + 1 := by rw [List.length_append, List.length_singleton, hnx.out]
              have hfl : (xs ++ [e]).flatMap (fun e => e.cells.toList) = xs.flatMap (fun e => e.cells.toList) ++ e.cells.toList := by rw [List.flatMap_append]; simp
              have hone1 : ∀ u ∈ e.cells.toList, u.oneCell' = true := by have := hone [e]; simpa using this
              have hn63 : nx + 1 ≤ maxLen := by simp only [maxLen]; omega
              have hlay := (Below.refl Z.heap.size Z).alloc (Nat.le_refl _) (.cells #[.int .i64 e.k, .int .i64 e.c, .int .i64 e.ok, .int .i64 e.oa, .int .i64 e.on, .int .i64 e.at', .int .i64 e.n, .int .i64 e.er] 37)
              have hrdn : RdS (Z.alloc (.cells #[.int .i64 e.k, .int .i64 e.c, .int .i64 e.ok, .int .i64 e.oa, .int .i64 e.on, .int .i64 e.at', .int .i64 e.n, .int .i64 e.er] 37)) 8 (.slice (some ⟨Z.heap.size, 0, .none⟩) 1 1) 1 e.cells.toList := RdS.new (cs := e.cells) (t := 37) (sz := 8) (n := 1) (heap_alloc_new Z _) rfl (by omega)
              have hrz := hrow4.of_block (w' := Z.alloc (.cells #[.int .i64 e.k, .int .i64 e.c, .int .i64 e.ok, .int .i64 e.oa, .int .i64 e.on, .int .i64 e.at', .int .i64 e.n, .int .i64 e.er] 37)) hlay.size fun k hk => hlay.block k (hrow4.lt hk).2
              have hzs := hlay.size
              have x1 : Z.cell? ⟨b, off + i * 8 + 1, .none⟩ = some (.int .i64 e.c) := hcc2.out Z hW4 1 (by omega)
              have x2 : Z.cell? ⟨b, off + i * 8 + 2, .none⟩ = some (.int .i64 e.ok) := hcc2.out Z hW4 2 (by omega)
              have x3 : Z.cell? ⟨b, off + i * 8 + 3, .none⟩ = some (.int .i64 e.oa) := hcc2.out Z hW4 3 (by omega)
              have x4 : Z.cell? ⟨b, off + i * 8 + 4, .none⟩ = some (.int .i64 e.on) := hcc2.out Z hW4 4 (by omega)
              have x7 : Z.cell? ⟨b, off + i * 8 + 7, .none⟩ = some (.int .i64 e.er) := hcc2.out Z hW4 7 (by omega)
              have hend : Hid (∀ X v', AtR X B 37 8 v' (nx + 1) (xs.flatMap (fun e => e.cells.toList) ++ e.cells.toList) → (Z.alloc (.cells #[.int .i64 e.k, .int .i64 e.c, .int .i64 e.ok, .int .i64 e.oa, .int .i64 e.on, .int .i64 e.at', .int .i64 e.n, .int .i64 e.er] 37)).grownBy X u8.ownBlock → (v'.ownBlock = u8.ownBlock ∨ ∀ k, v'.ownBlock = some k → (Z.alloc (.cells #[.int .i64 e.k, .int .i64 e.c, .int .i64 e.ok, .int .i64 e.oa, .int .i64 e.on, .int .i64 e.at', .int .i64 e.n, .int .i64 e.er] 37)).heap.size ≤ k) → BlkSt B W X jb s pb J1 v' (xs ++ [e]) sl4) := Lib.hid fun X v' h1 h2 h3 => (hput _ X v' (xs ++ [e])).out hlay h2 h3 (by rw [hsz, hfl]; exact h1) hp
              replace hu := Lib.hid hu
              replace hnx := Lib.hid hnx.out
              replace hsz := Lib.hid hsz
              clear hj4 hput hkeep hl hp hfl hvf hone hlay hrow4 hcc2 hok1 hus1 hus0 k3
              go_wp2_with (refine wpList_append_at rfl (.tmp 59) (.tmp 64) 24 rfl B 37 i0 _ 8 64 Try.underlying24 hi0' hz0 hz1 hz2 rfl (by omega) _ nx _ rfl hrz _ 1 _ rfl hrdn hone1 hn63 (by omega) (by omega) ?_; intro v1 w1 hown1 hgrow1 hat1)
              go_meet
              exact ⟨xs ++ [e], sl4, by rw [hsz.out]; omega, by rw [hsz.out]; go_num, by rw [hu.out], hend.out _ _ hown1 hgrow1 hat1⟩
            · by_cases k4 : e.k = 4
              · obtain ⟨hfo, hgl⟩ := hb4.out k4
                have g3 : (e.k == 3) = false := by simp [k4]
                have g4 : (e.k == 4) = true := by simpa using k4
                have hex : Hid (∃ j, ∃ h : j < xs.length, xs[j].at' = e.at') := Lib.hid (by
                  obtain ⟨bk, hm, ha⟩ := (foundB_mem hokK.out).1 hfo
                  obtain ⟨x, hx, rfl⟩ := List.mem_map.1 (hsame.out.mem_iff.2 hm)
                  obtain ⟨j, hj, rfl⟩ := List.getElem_of_mem hx
                  exact ⟨j, hj, ha⟩)
                have hgp : Hid (∀ j (h : j < xs.length), xs[j].at' = e.at' → List.Perm (bksOf (xs.take j ++ xs.drop (j + 1))) J1.l ∧ usedB J1.l = usedB J.l - xs[j].n) := Lib.hid fun j h ha => by
                  rw [hgl]
                  exact give_evs hokK.out hsame.out j h ha
                have hn0 : nx ≠ 0 := by
                  obtain ⟨j, h, _⟩ := hex.out
                  have := hnx.out
                  omega
                obtain ⟨g, cap8, hv8, hcap8, hcm8, hBg, hgZ, _, hcl⟩ := hrow4.full hn0
                generalize u8 = v8 at *
                subst hv8
                have hx8 : Hid (∀ j, j < nx → ∃ x, xs[j]? = some x ∧ ∀ c, c < 8 → Z.cell? ⟨g, j * 8 + c, .none⟩ = x.cells.toList[c]?) := Lib.hid fun j hj => by
                  have hjl : j < xs.length := hnx.out ▸ hj
                  exact ⟨xs[j], List.getElem?_eq_getElem hjl, fun c hc => by rw [hcl _ (by omega)]; exact flatF_get (fun e : Ev => e.cells.toList) 8 evC_len xs j c hjl hc⟩
                have hlater : Hid (∀ X, Below Z.heap.size Z X → JgA B X jb s pb sl4 J1 ∧ Below W.heap.size W X ∧ AtR X B 37 8 (.slice (some ⟨g, 0, .none⟩) nx cap8) nx (xs.flatMap fun e => e.cells.toList) ∧ X.cell? ⟨b, off + i * 8 + 5, .none⟩ = some (.int .i64 e.at') ∧ ∀ j, j < nx → ∃ x, xs[j]? = some x ∧ ∀ c, c < 8 → X.cell? ⟨g, j * 8 + c, .none⟩ = x.cells.toList[c]?) := Lib.hid fun X hX => by
                  refine ⟨hj4.below hX, hW4.trans (hX.mono hW4.size), hrow4.of_block hX.size fun k hk => hX.block k (hrow4.lt hk).2, hcc2.out X (hW4.trans (hX.mono hW4.size)) 5 (by omega), fun j hj => ?_⟩
                  obtain ⟨x, h1, h2⟩ := hx8.out j hj
                  exact ⟨x, h1, fun c hc => (hX.cell (p := ⟨g, j * 8 + c, .none⟩) hgZ).trans (h2 c hc)⟩
                clear k3 k4 hkeep hput hcl hone hb3 hb4 hb5 hgl hfo hj4 hrow4 hx8 hcc2 hsame hokK hok1
                go_wp2_with fail
                go_loopw [6, 7, 8, 10] (fun v6 v7 v8 v10 wr => ∃ j : Nat, j ≤ nx ∧ v10 = .int .i64 j ∧ v6 = .int .i64 (usedB J.l) ∧ v7 = .int .i64 nx ∧ v8 = .slice (some ⟨g, 0, .none⟩) nx cap8 ∧ Below Z.heap.size Z wr ∧ ∀ k, k < j → ∀ x, xs[k]? = some x → x.at' ≠ e.at') (fun _ _ _ v10 _ => nx - (intOf v10).toNat)
                case atStart => exact ⟨0, Nat.zero_le _, rfl, rfl, rfl, rfl, Below.refl _ _, fun k hk => by omega⟩
                case round =>
                  obtain ⟨j, hj, rfl, rfl, rfl, rfl, hbr, hnot⟩ := hrel
                  by_cases hlj : j < nx
                  · obtain ⟨hjR, hWR, hrR, xR, hcR⟩ := hlater.out _ hbr
                    obtain ⟨x, hxj, hcx⟩ := hcR j hlj
                    obtain ⟨U, rfl⟩ : ∃ V : World, V = wr := ⟨_, rfl⟩
                    have hlj' : (j : Int) < (nx : Int) := by omega
                    have hj0 : (0 : Int) ≤ (j : Int) := by omega
                    have wj1 : IntKind.i64.wrap ((j : Int) + 1) = (j : Int) + 1 := IntWalk.i64_in _ ⟨by omega, by omega⟩
                    have y5 : U.cell? ⟨g, j * 8 + 5, .none⟩ = some (.int .i64 x.at') := hcx 5 (by omega)
                    have y6 : U.cell? ⟨g, j * 8 + 6, .none⟩ = some (.int .i64 x.n) := hcx 6 (by omega)
                    have lg : g < U.heap.size := Nat.lt_of_lt_of_le hgZ hbr.size
                    have lb : b < U.heap.size := cell_lt xR
                    clear hcx hcR
                    go_upto_region 23 with fail
                    go_quiet (fail)
                    have hq : Below U.heap.size U (U.drewN nq) := below_drewN (Below.refl _ _) nq
                    have hbW5 := hbr.trans (hq.mono hbr.size)
                    have z6 := (hq.cell (p := ⟨g, j * 8 + 6, .none⟩) lg).trans y6
                    generalize U.drewN nq = W5 at *
                    clear hjR hWR hrR xR y5 y6 lb
                    have hnx5 := hnx.out
                    replace hbW5 := Lib.hid hbW5
                    by_cases hat : x.at' = e.at'
                    · have ga : (x.at' == e.at') = true := by simpa using hat
                      obtain ⟨hp5, hu5⟩ := hgp.out j (by omega) (by rw [List.getElem?_eq_getElem (by omega)] at hxj; injection hxj with hxj; rw [hxj]; exact hat)
                      rw [show xs[j] = x by rw [List.getElem?_eq_getElem (by omega)] at hxj; injection hxj] at hu5
                      have wu : IntKind.i64.wrap (usedB J.l - x.n) = usedB J.l - x.n := IntWalk.i64_in _ ⟨by omega, by omega⟩
                      have wn : IntKind.i64.wrap ((nx : Int) - 1) = (nx : Int) - 1 := IntWalk.i64_in _ ⟨by omega, by omega⟩
                      have lg5 : g < W5.heap.size := Nat.lt_of_lt_of_le hgZ hbW5.out.size
                      clear hat hnot hnx5 hxj
                      have c1 : (j : Int) ≤ (nx : Int) := by omega
                      have c2 : (0 : Int) ≤ (j : Int) + 1 := by omega
                      have c3 : ((j : Int) + 1).toNat = j + 1 := by omega
                      have c4 : (j : Int) + 1 ≤ (nx : Int) := by omega
                      have c5 : (j : Int) ≤ (cap8 : Int) := by omega
                      go_upto_region 25 with fail
                      refine wp_region_ext_tail 8 (by kernel_rfl) (by kernel_rfl) ?_
                      dsimp only [List.take, List.drop]
                      repeat (go_big_quiet_step (fail))
                      refine wpQuiet_nil ?_
                      rintro _ ⟨e', rfl⟩
                      have hbX := hbW5.out.trans (e'.below.mono hbW5.out.size)
                      generalize e'.w = X5 at *
                      change wpList _ _ _ _ _ X5
                      obtain ⟨hjX, hWX, hrX, _, _⟩ := hlater.out _ hbX
                      have hfirst := hrX.first hn0 hj
                      have hsec := (AtR.rd hrX).cut (l := j + 1) (h := nx) (by omega) (Nat.le_refl _)
                      rw [evTake] at hfirst
                      have hlen2 : (xs.flatMap fun e => e.cells.toList).length = nx * 8 := by rw [flatF_length _ 8 evC_len, hnx.out]
                      rw [evDrop, List.take_of_length_le (Nat.le_of_eq (by rw [flatF_length _ 8 evC_len, List.length_drop, ← hnx.out]))] at hsec
                      have hone1 := evOne (xs.drop (j + 1))
                      have hn63 : j + (nx - (j + 1)) ≤ maxLen := by simp only [maxLen]; omega
                      have hBX : B ≤ X5.heap.size := Nat.le_trans hZB hbX.size
                      have hlen : (xs.take j ++ xs.drop (j + 1)).length = nx - 1 := by
                        have := hnx.out
                        rw [List.length_append, List.length_take, List.length_drop]; omega
                      have hend : Hid (∀ X v', AtR X B 37 8 v' (j + (nx - (j + 1))) ((xs.take j).flatMap (fun e => e.cells.toList) ++ (xs.drop (j + 1)).flatMap (fun e => e.cells.toList)) → X5.grownBy X (some g) → (v'.ownBlock = some g ∨ ∀ k, v'.ownBlock = some k → X5.heap.size ≤ k) → BlkSt B W X jb s pb J1 v' (xs.take j ++ xs.drop (j + 1)) sl4) := Lib.hid fun X v' h1 h2 h3 =>
                        BlkSt.put (v := .slice (some ⟨g, 0, .none⟩) nx cap8) hjX hWX hBl hvf.out (Below.refl _ _) h2 h3 (by rw [hlen, List.flatMap_append, show nx - 1 = j + (nx - (j + 1)) by omega]; exact h1) hp5
                      replace hlen := Lib.hid hlen
                      replace hu5 := Lib.hid hu5
                      clear hjX hWX hrX hlen2 hp5 hq hbW5 hbX hgp hlater hvf hus1 hus0 z6
                      go_wp2_with (refine wpList_append_at rfl (.tmp 97) (.tmp 101) 24 rfl B 37 i0 _ 8 64 Try.underlying24 hi0' hz0 hz1 hz2 rfl (by omega) _ j _ rfl hfirst _ _ _ rfl hsec hone1 hn63 (by omega) hBX ?_; intro v1 w1 hown1 hgrow1 hat1)
                      go_meet
                      exact ⟨_, sl4, by rw [hlen.out]; omega, by rw [hlen.out]; congr 1; omega, by rw [hu5.out], hend.out _ _ hown1 hgrow1 hat1⟩
                    · have ga : (x.at' == e.at') = false := by simpa using hat
                      go_wp2
                      exact ⟨⟨j + 1, by omega, by go_num, rfl, rfl, rfl, hbW5.out, fun k hk y hy => by
                        rcases Nat.lt_or_ge k j with h | h
                        · exact hnot k h y hy
                        · obtain rfl : k = j := by omega
                          rw [hxj] at hy; injection hy with hy; exact hy ▸ hat⟩, by simp [intOf]; omega⟩
                  · exfalso
                    obtain ⟨k, hk, he⟩ := hex.out
                    exact hnot k (by have := hnx.out; omega) _ (List.getElem?_eq_getElem hk) he
              · have g3 : (e.k == 3) = false := by simpa using k3
                have g4 : (e.k == 4) = false := by simpa using k4
                have hl := hb5.out k3 k4
                have hq := hkeep.out hl
                clear hput hkeep hj4 hone hrow4
                go_wp2
                go_meet
                exact ⟨xs, sl4, by rw [← hnx.out]; omega, by rw [hnx.out], by rw [hl], hq⟩
          case rest =>
            obtain ⟨ys, sl5, hyl, rfl, rfl, hst5⟩ := hcut
            obtain ⟨Y5, rfl⟩ : ∃ V : World, V = wc := ⟨_, rfl⟩
            have j0 := hst5.judge.h0
            have hus := Lib.hid (used_any hst5.judge.model)
            have hbl := fun X hX => Lib.hid (blocks_any (hst5.later (X' := X) hX).judge.model)
            have j0L := fun X hX => (hst5.later (X' := X) hX).judge.h0
            have hly : J1.l.length = ys.length := by have := hst5.same.length_eq; unfold bksOf at this; rw [List.length_map] at this; omega
            rw [hly] at hbl
            have hend : Hid (∀ X, Below Y5.heap.size Y5 X → BlkSt B W X jb s pb J1 u8 ys sl5) := Lib.hid fun X hX => hst5.later hX
            obtain ⟨ny, hny, hny'⟩ : ∃ ny, Hid (ny = ys.length) ∧ ny = ys.length := ⟨_, Lib.hid rfl, rfl⟩
            rw [← hny'] at hbl ⊢
            have hfin5 : Hid (∀ X, Below Y5.heap.size Y5 X → _) := Lib.hid fun X hX => hfin.out X _ ys sl5 hyl (hend.out X hX)
            rw [← hny'] at hfin5
            have hW5 := hst5.below
            clear hny' hly hst5 hyl hb3 hb4 hb5 hrow4 hap4 hj4 hW4 x0 x5 x6 hfin hsame hokK hok1 hcc2 hend
            generalize usedB J1.l = uu at *
            go_wp2_with (go_at_call 13; refine hus.out.mono ?_; rintro r w6 ⟨rfl, hb6⟩; have j06 := j0L w6 hb6; have hbl6 := hbl w6 hb6)
            refine (hbl w6 hb6).out.mono ?_
            rintro r w7 ⟨v7, rfl, hb7, hown⟩
            obtain ⟨ao7, cap7, rfl, hcap7, hcm7, _, _⟩ := RdS.of_own hown
            have hb67 := hb6.trans (hb7.mono hb6.size)
            have hend5 := Lib.hid (hfin5.out _ hb67)
            clear hbl hus hbl6 hown j0L hfin5
            go_wp2_with fail
            exact hend5.out
      · have hin : i = n := by omega
        have hnl := hn.out
        obtain ⟨hst3, _⟩ : BlkSt B W Y jb s pb (runJ (newJ p c m) (es.take i)) u8 xs sl ∧ True := ⟨hst2, trivial⟩
        generalize runJ (newJ p c m) (es.take i) = J at *
        have hlater : Hid (∀ X, Below Y.heap.size Y X → BlkSt B W X jb s pb J u8 xs sl) := Lib.hid fun X hX => hst3.later hX
        obtain ⟨nx, hnx3, hnx'⟩ : ∃ nx, Hid (nx = xs.length) ∧ nx = xs.length := ⟨_, Lib.hid rfl, rfl⟩
        obtain ⟨ao3, cap3, hv3, hcap3, hcm3, _, _⟩ := hst3.row.rd
        rw [← hnx'] at hxi hv3 hcap3 ⊢
        subst hin
        clear hst hst2 hst3 hlt hi hnx hnx2 hwhy hev hu0 hnl hnx'
        generalize u8 = v8 at *
        subst hv3
        generalize usedB J.l = uu at *
        go_wp2_with fail
        go_loopw [11] (fun v11 wr => ∃ j : Nat, j ≤ nx ∧ v11 = .int .i64 j ∧ Below Y.heap.size Y wr) (fun v11 _ => nx - (intOf v11).toNat)
        case atStart => exact ⟨0, Nat.zero_le _, rfl, Below.refl _ _⟩
        case round =>
          obtain ⟨j, hj, rfl, hbr⟩ := hrel
          obtain ⟨U, rfl⟩ : ∃ V : World, V = wr := ⟨_, rfl⟩
          have hU := hlater.out U hbr
          have hfU : Hid (∀ X, Below U.heap.size U X → Below Y.heap.size Y X) := Lib.hid fun X hX => hbr.trans (hX.mono hbr.size)
          by_cases hlj : j < nx
          · have hlj' : (j : Int) < (nx : Int) := by omega
            have hj0 : (0 : Int) ≤ (j : Int) := by omega
            have wj1 : IntKind.i64.wrap ((j : Int) + 1) = (j : Int) + 1 := IntWalk.i64_in _ ⟨by omega, by omega⟩
            obtain ⟨g, cap8, hv8, _, _, _, hgU, _, hcl⟩ := hU.row.full (by have := hnx3.out; omega)
            rw [← hnx3.out] at hv8 hcl
            injection hv8 with hv8 _ hc8
            subst hv8 hc8
            have hjl : j < xs.length := hnx3.out ▸ hlj
            obtain ⟨x, hx⟩ : ∃ x, x = xs[j] := ⟨_, rfl⟩
            have hcx : ∀ c, c < 8 → U.cell? ⟨g, j * 8 + c, .none⟩ = x.cells.toList[c]? := fun c hc => by rw [hcl _ (by omega), hx]; exact flatF_get (fun e : Ev => e.cells.toList) 8 evC_len xs j c hjl hc
            have y5 : U.cell? ⟨g, j * 8 + 5, .none⟩ = some (.int .i64 x.at') := hcx 5 (by omega)
            have y6 : U.cell? ⟨g, j * 8 + 6, .none⟩ = some (.int .i64 x.n) := hcx 6 (by omega)
            have hat : atB J.l x.at' = some ⟨x.at', x.n⟩ := by
              refine atB_mem hU.judge.model.ok (hU.same.mem_iff.1 (List.mem_map.2 ⟨x, ?_, rfl⟩)) rfl
              rw [hx]; exact List.getElem_mem hjl
            have haa := at_any hU.judge.model x.at'
            rw [hat] at haa
            have haL : Hid (∀ X, Below U.heap.size U X → Calls _ _ _ X _) := Lib.hid fun X hX => (by have := at_any (hlater.out X (hfU.out X hX)).judge.model x.at'; rw [hat] at this; exact this)
            have j0 := hU.judge.h0
            clear hcl hcx hat haa hx hjl
            unfold blkV at haL
            go_upto_region 31 with fail
            have hK : ∀ X : World, Below U.heap.size U X → (X.cell? ⟨jb, 0, .none⟩ = some (.pointer (some ⟨s, 0, .none⟩)) ∧ X.cell? ⟨g, j * 8 + 5, .none⟩ = some (.int .i64 x.at')) := fun X hb => ⟨keepF hb _ _ _ j0, keepF hb _ _ _ y5⟩
            replace hK := Lib.hid hK
            have lj : jb < U.heap.size := cell_lt j0
            go_cut [12, 13] (fun v12 v13 wx => v13 = .bool true ∧ ∃ q : Nat, v12 = .pointer (some ⟨q, 0, .none⟩) ∧ Below U.heap.size U wx ∧ wx.cell? ⟨q, 1, .none⟩ = some (.int .i64 x.n))
            case first =>
              refine wp_region_one_ext (x := ⟨13, 14, 11, 12, 137, 52, #[.int .i64 0, .int .i64 0], #[.int .i64 x.at', .int .i64 x.n]⟩) (y := ⟨1000, 1001, 0, 0, 127, 0, #[], #[]⟩) (by kernel_rfl) (by simp only [nopF, nopO, ownB, Nat.reduceBEq, Bool.or_false, Bool.or_true, Bool.false_eq_true, ↓reduceIte, Nat.reduceAdd]; exact rfl) (by kernel_rfl) (by kernel_rfl) (by kernel_rfl) (by constructor <;> (dsimp only; decide)) (by refine ⟨?_, ?_, ?_, ?_⟩ <;> (dsimp only; decide)) rfl (by constructor <;> simp) ?_
              apply Exists.intro
              refine ⟨fun B hb => ?_, ?_, ?_⟩
              case refine_1 =>
                obtain ⟨k0, k5⟩ := hK.out B hb
                have lB : jb < B.heap.size := Nat.lt_of_lt_of_le lj hb.size
                have lB2 : g < B.heap.size := Nat.lt_of_lt_of_le hgU hb.size
                repeat (go_big_quiet_step ((first
                  | (go_at_call 15; with_reducible exact ext_of (haL.out _ (belowTrans hb (Ext.below _)))))))
                exact wpQuiet_nil rfl
              case refine_2 => exact blk_step rfl rfl rfl rfl rfl rfl rfl rfl (by dsimp only; decide +kernel) (by dsimp only; decide +kernel)
              case refine_3 =>
                intro a w4 M hf
                obtain ⟨rfl, hb, _, hM⟩ := hf
                have m1 : w4.cell? ⟨M, 1, .none⟩ = some (.int .i64 x.n) := rowCells hM 1
                simp only [Act.put, vptr]
                go_wp2
                go_meet
                exact ⟨rfl, _, rfl, hb, m1⟩
            case rest =>
              obtain ⟨rfl, q, rfl, hb4, q1⟩ := hcut
              have z6 := keepF hb4 _ _ _ y6
              have hfin := Lib.hid (hfU.out _ hb4)
              have lq : q < wc.heap.size := cell_lt q1
              have lg : g < wc.heap.size := Nat.lt_of_lt_of_le hgU hb4.size
              clear hK hU hlater j0 y5 y6 haL
              obtain ⟨Y6, rfl⟩ : ∃ V : World, V = wc := ⟨_, rfl⟩
              go_upto_region 32 with fail
              go_quiet (fail)
              have hq := below_drewN (Below.refl Y6.heap.size Y6) nq
              have hend := Lib.hid (hfin.out.trans (hq.mono hfin.out.size))
              generalize Y6.drewN nq = Y7 at *
              clear hq hfin
              go_wp2
              exact ⟨⟨j + 1, by omega, by go_num, hend.out⟩, by simp [intOf]; omega⟩
          · have hjn : j = nx := by omega
            subst hjn
            have hb9 := hfW.out _ (hU.below)
            clear hU hlater
            go_wp2_with fail
            go_ret
            exact ⟨rfl, hb9⟩
end Go.Proofs.Ytclidckjnoafcaa
