/- copy, clear, and append of noughts, where the row written to is a block that is known whole; elements of any size. -/
import Derived.Test.YtclidckjnoafcaaOnly

import Derived.Laws.CopyRow

import Derived.Lib.Overlaps

namespace Go.Proofs.Ytclidckjnoafcaa

open Go.RowKit

/-- cs laid over cur from off on. -/
def laid (cur : List Value) (off : Nat) (cs : List Value) : List Value := cur.take off ++ cs ++ cur.drop (off + cs.length)
theorem laid_nil (cur : List Value) (off : Nat) : laid cur off [] = cur := by simp [laid]
theorem laid_length {cur cs : List Value} {off : Nat} (h : off + cs.length ≤ cur.length) : (laid cur off cs).length = cur.length := by
  unfold laid; rw [List.length_append, List.length_append, List.length_take, List.length_drop]; omega

section

variable {P : Program} {w : World}

theorem setRow_grown (w : World) (g : Nat) (cs : Array Value) : w.grownBy (w.setRow g cs) (some g) :=
  ⟨rfl, rfl, rfl, by simp, fun k _ hk => setRow_other w g k _ (fun e => hk (by simp [e]))⟩

theorem run_copy_rd (dT sT ty elem : TypeId) (sz : Nat) (hu : P.underlying dT = some (.slice elem)) (hsz : (P.info? elem).map (·.size) = some sz)
    (dp : Option Addr) (dLen dCap : Nat) (u : Value) (m sLen : Nat) (src : List Value) (g off : Nat) (cur : List Value) (t : TypeId)
    (hg : w.heap[g]? = some (.cells cur.toArray t (0, 0))) (hd : 0 < m → dp = some ⟨g, off, .none⟩) (hr : RdS w sz u sLen src) (hm : m = Nat.min sLen dLen) (hfit : off + m * sz ≤ cur.length) (h1 : ∀ v ∈ src.take (m * sz), v.oneCell' = true) (_hsz0 : 0 < sz) :
    ∃ w', (Builtin.copy_ #[dT, sT] ty #[.slice dp dLen dCap, u]).run P w = .ok (goInt m) w' ∧ w'.heap[g]? = some (.cells (laid cur off (src.take (m * sz))).toArray t (0, 0)) ∧ w.grownBy w' (some g) := by
  obtain ⟨ao, cap, rfl, hc1, hc2, hl, hrow⟩ := hr
  cases hq : P.info? elem with
  | none => simp [hq] at hsz
  | some i =>
    have hi : i.size = sz := by simpa [hq] using hsz
    rcases Nat.eq_zero_or_pos m with h0 | h0
    · subst h0
      have hl0 : ∀ (x : Addr), (loadCells x 0).run P w = .ok #[] w := fun x => by simpa using run_loadCells_list (P := P) w x [] (by simp)
      refine ⟨w, ?_, by rw [Nat.zero_mul, List.take_zero, laid_nil]; exact hg, World.grownBy.refl w _⟩
      cases dp <;> cases ao <;> simp [Builtin.copy_, run_underlying hu, Builtin.lenOf, Builtin.firstCells, sizeOf, typeInfo, hq, ← hm, storeCells, hl0]
    · obtain ⟨b, o, rfl, _, hcs⟩ := hrow (by intro h; rw [h] at hm; simp at hm; omega)
      have hle : m * sz ≤ sLen * sz := Nat.mul_le_mul_right _ (by rw [hm]; exact Nat.min_le_left _ _)
      have hln : (src.take (m * sz)).length = m * sz := by rw [List.length_take]; omega
      have hld := run_loadCells_list (P := P) w ⟨b, o, .none⟩ (src.take (m * sz)) (fun j v hj => by
        have hjlt : j < m * sz := by have := (List.getElem?_eq_some_iff.1 hj).1; omega
        rw [List.getElem?_take, if_pos hjlt] at hj
        rw [add_flat, hcs j (by omega), hj])
      have hst := run_storeCells_at P g off t (src.take (m * sz)) 0 cur.toArray w hg (by rw [hln]; simpa using hfit) h1
      rw [hln] at hld
      have hdp := hd h0
      subst hdp
      refine ⟨w.setRow g (laid cur off (src.take (m * sz))).toArray, ?_, ?_, setRow_grown w g _⟩
      · simp [Builtin.copy_, run_underlying hu, Builtin.lenOf, Builtin.firstCells, sizeOf, typeInfo, hq, hi, ← hm, hld, hst, laid]
      · exact setRow_heap w g cur.toArray _ t _ hg

theorem wp_copy_rd {o : Oper} {a : Act} {K : Act → World → Prop} {Q : Exit → Act → World → Prop} (d s : Operand) (dT sT : TypeId)
    (ho : o.op = .call { callee := .builtin .copy, args := #[d, s], argTypes := #[dT, sT] }) (elem : TypeId) (sz : Nat) (hu : P.underlying dT = some (.slice elem)) (hsz : (P.info? elem).map (·.size) = some sz) (hsz0 : 0 < sz)
    (dp : Option Addr) (dLen dCap : Nat) (hd' : a.eval d = .slice dp dLen dCap) (u : Value) (hs : a.eval s = u) (m sLen : Nat) (src : List Value) (g off : Nat) (cur : List Value) (t : TypeId)
    (hg : w.heap[g]? = some (.cells cur.toArray t (0, 0))) (hd : 0 < m → dp = some ⟨g, off, .none⟩) (hr : RdS w sz u sLen src) (hm : m = Nat.min sLen dLen) (hfit : off + m * sz ≤ cur.length) (h1 : ∀ v ∈ src.take (m * sz), v.oneCell' = true)
    (h : ∀ w', w'.heap[g]? = some (.cells (laid cur off (src.take (m * sz))).toArray t (0, 0)) → w.grownBy w' (some g) → K (a.put o.dst (goInt m)) w') : o.wp P a w K Q := by
  obtain ⟨w', hrun, h2, h3⟩ := run_copy_rd (P := P) (w := w) dT sT o.type elem sz hu hsz dp dLen dCap u m sLen src g off cur t hg hd hr hm hfit h1 hsz0
  unfold Oper.wp execOp
  simp only [ho, resolve, invoke, builtin, Sem.run_bind, Sem.run_pure, Result.andThen_ok, List.map_toArray, List.map_cons, List.map_nil, hs, hd', hrun]
  exact h w' h2 h3
theorem wpList_copy_rd {ops : Array Oper} {rest : List Oper} {o : Oper} {a : Act} {Q : Exit → Act → World → Prop} (hgd : o.guard = none) (d s : Operand) (dT sT : TypeId)
    (ho : o.op = .call { callee := .builtin .copy, args := #[d, s], argTypes := #[dT, sT] }) (elem : TypeId) (sz : Nat) (hu : P.underlying dT = some (.slice elem)) (hsz : (P.info? elem).map (·.size) = some sz) (hsz0 : 0 < sz)
    (dp : Option Addr) (dLen dCap : Nat) (hd' : a.eval d = .slice dp dLen dCap) (u : Value) (hs : a.eval s = u) (m sLen : Nat) (src : List Value) (g off : Nat) (cur : List Value) (t : TypeId)
    (hg : w.heap[g]? = some (.cells cur.toArray t (0, 0))) (hd : 0 < m → dp = some ⟨g, off, .none⟩) (hr : RdS w sz u sLen src) (hm : m = Nat.min sLen dLen) (hfit : off + m * sz ≤ cur.length) (h1 : ∀ v ∈ src.take (m * sz), v.oneCell' = true)
    (h : ∀ w', w'.heap[g]? = some (.cells (laid cur off (src.take (m * sz))).toArray t (0, 0)) → w.grownBy w' (some g) → wpList P ops Q rest (a.put o.dst (goInt m)) w') : wpList P ops Q (o :: rest) a w :=
  wpList_plain hgd fun _ hK => wp_copy_rd d s dT sT ho elem sz hu hsz hsz0 dp dLen dCap hd' u hs m sLen src g off cur t hg hd hr hm hfit h1 fun w' h2 h3 => hK _ _ (h w' h2 h3)
theorem step_copy_rd {ops : Array Oper} {o : Oper} {a : Act} {K : Act → World → Prop} {Q : Exit → Act → World → Prop} {E : Prop} (hgd : o.guard = none) (d s : Operand) (dT sT : TypeId)
    (ho : o.op = .call { callee := .builtin .copy, args := #[d, s], argTypes := #[dT, sT] }) (elem : TypeId) (sz : Nat) (hu : P.underlying dT = some (.slice elem)) (hsz : (P.info? elem).map (·.size) = some sz) (hsz0 : 0 < sz)
    (dp : Option Addr) (dLen dCap : Nat) (hd' : a.eval d = .slice dp dLen dCap) (u : Value) (hs : a.eval s = u) (m sLen : Nat) (src : List Value) (g off : Nat) (cur : List Value) (t : TypeId)
    (hg : w.heap[g]? = some (.cells cur.toArray t (0, 0))) (hd : 0 < m → dp = some ⟨g, off, .none⟩) (hr : RdS w sz u sLen src) (hm : m = Nat.min sLen dLen) (hfit : off + m * sz ≤ cur.length) (h1 : ∀ v ∈ src.take (m * sz), v.oneCell' = true)
    (h : ∀ w', w'.heap[g]? = some (.cells (laid cur off (src.take (m * sz))).toArray t (0, 0)) → w.grownBy w' (some g) → K (a.put o.dst (goInt m)) w') :
    if Region.wanted o (yielded ops a.tmps) = true then Oper.wp P o a w K Q else E := by
  have hw : Region.wanted o (yielded ops a.tmps) = true := by simp [Region.wanted, hgd]
  rw [if_pos hw]
  exact wp_copy_rd d s dT sT ho elem sz hu hsz hsz0 dp dLen dCap hd' u hs m sLen src g off cur t hg hd hr hm hfit h1 h

theorem zeroCells_one (zero : Array Value) (n : Nat) (h : ∀ v ∈ zero.toList, v.oneCell' = true) (hz : 0 < zero.size) : ∀ v ∈ (Builtin.zeroCells zero n).toList, v.oneCell' = true := by
  intro v hv
  simp only [Builtin.zeroCells, Array.toList_map, List.mem_map] at hv
  obtain ⟨i, _, rfl⟩ := hv
  have hlt : i % zero.size < zero.size := Nat.mod_lt _ hz
  rw [getElem!_pos zero (i % zero.size) hlt]
  exact h _ (Array.getElem_mem_toList hlt)

/-- clear of a cut of a row. -/
theorem run_clear_rd (t e ty : TypeId) (i : TypeInfo) (z : Value) (sz : Nat) (ht : P.underlying t = some (.slice e)) (hi : P.info? e = some i) (hz : i.zero = some z) (hzs : z.cells.size = sz) (hz1 : ∀ v ∈ z.cells.toList, v.oneCell' = true) (hsz0 : 0 < sz)
    (dp : Option Addr) (n c g off : Nat) (cur : List Value) (tt : TypeId) (hg : w.heap[g]? = some (.cells cur.toArray tt (0, 0))) (hd : 0 < n → dp = some ⟨g, off, .none⟩) (hfit : off + n * sz ≤ cur.length) :
    ∃ w' cs, (Builtin.clear_ #[t] ty #[.slice dp n c]).run P w = .ok (.tuple #[]) w' ∧ cs.length = n * sz ∧ w'.heap[g]? = some (.cells (laid cur off cs).toArray tt (0, 0)) ∧ w.grownBy w' (some g) := by
  rcases Nat.eq_zero_or_pos n with h0 | h0
  · subst h0
    refine ⟨w, [], ?_, by simp, by rw [laid_nil]; exact hg, World.grownBy.refl w _⟩
    cases dp <;> simp [Builtin.clear_, run_underlying ht]
  · have hdp := hd h0
    subst hdp
    have hl : (Builtin.zeroCells z.cells n).toList.length = n * sz := by
      rw [Array.length_toList, size_zeroCells, hzs]
    have hst := run_storeCells_at P g off tt (Builtin.zeroCells z.cells n).toList 0 cur.toArray w hg (by rw [hl]; simpa using hfit) (zeroCells_one _ _ hz1 (by omega))
    obtain ⟨m, rfl⟩ : ∃ m, n = m + 1 := ⟨n - 1, by omega⟩
    refine ⟨w.setRow g (laid cur off (Builtin.zeroCells z.cells (m + 1)).toList).toArray, (Builtin.zeroCells z.cells (m + 1)).toList, ?_, hl, setRow_heap w g cur.toArray _ tt _ hg, setRow_grown w g _⟩
    simp [Builtin.clear_, run_underlying ht, zeroValue, typeInfo, hi, hz, hst, laid]

/-- append of so many noughts, where there is no room for them. -/
theorem run_append_zeros (t tx e ty : TypeId) (i : TypeInfo) (z : Value) (sz bytes : Nat) (ht : P.underlying t = some (.slice e)) (hx : P.underlying tx = some (.int .i64)) (hi : P.info? e = some i) (hz : i.zero = some z) (hsize : i.size = sz) (hby : i.bytes = bytes) (hzs : z.cells.size = sz) (hsz0 : 0 < sz)
    (ao : Option Addr) (k cap n : Nat) (olds : List Value) (hr : RdS w sz (.slice ao k cap) k olds) (hroom : cap < k + n) (hbytes : (k + n) * bytes ≤ 140737488355328) (hsmall : k + n ≤ 1000000) :
    ∃ cap' w' rest, (Builtin.append_ #[t, tx] ty #[.slice ao k cap, .int .i64 n]).run P w = .ok (.slice (some ⟨w.heap.size, 0, .none⟩) (k + n) cap') w' ∧ k + n ≤ cap' ∧ cap' ≤ maxLen ∧
      w'.heap[w.heap.size]? = some (.cells (olds ++ rest).toArray e (0, 0)) ∧ (olds ++ rest).length = cap' * sz ∧ Below w.heap.size w w' := by
  subst hsize hby
  obtain ⟨ao', cap', e1, hc1, hc2, hl, hrow⟩ := hr
  injection e1 with e1 _ e3
  subst e1 e3
  have hn : ¬ (k + n ≤ cap) := by omega
  have hwr : IntKind.i64.wrap (n : Int) = n := by rw [IntKind.wrap_i64]; omega
  have hn0 : ¬ ((n : Int) < 0) := by omega
  have hfit := growslice_fits (need := k + n) (old := cap) (by omega) hbytes
  have h48 : ¬ (281474976710656 < Builtin.nextslicecap (k + n) cap * i.bytes) := by omega
  have hnb : n * i.bytes ≤ (k + n) * i.bytes := Nat.mul_le_mul_right _ (by omega)
  have h48n : ¬ ((281474976710656 : Int) < (n : Int) * (i.bytes : Int)) := by
    have h2 : ((n * i.bytes : Nat) : Int) ≤ 140737488355328 := by omega
    rw [Int.natCast_mul] at h2
    omega
  have h63 : ¬ ((9223372036854775807 : Int) < ((k : Int) + (n : Int))) := by omega
  have hge := grownCap_ge w (k + n) cap e
  have hle := grownCap_le_maxLen w (k + n) cap e (by simp only [maxLen]; omega)
  have hold : (Builtin.firstCells i.size k (.slice ao k cap)).run P w.drew = .ok olds.toArray w.drew := by
    rcases Nat.eq_zero_or_pos k with h0 | h0
    · subst h0
      have : olds = [] := List.eq_nil_of_length_eq_zero (by simpa using hl)
      subst this
      cases ao <;> simp [Builtin.firstCells, loadCells, loadCellsFrom]
    · obtain ⟨b, o, rfl, _, hcs⟩ := hrow (by omega)
      exact run_firstCells_some (P := P) w.drew i.size k ⟨b, o, .none⟩ k cap olds hl (fun j v hj => by
        have hjlt : j < k * i.size := by have := (List.getElem?_eq_some_iff.1 hj).1; omega
        rw [add_flat, ← hj]
        exact hcs j hjlt)
  have hai : (asInt (.int .i64 (n : Int))).run P w = .ok (n : Int) w := rfl
  have hmx : max (n : Int) 0 = (n : Int) := by omega
  have hnz : ¬ (n * i.size = 0) := by
    have : 0 < n := by omega
    exact Nat.pos_iff_ne_zero.1 (Nat.mul_pos this hsz0)
  refine ⟨grownCap w (k + n) cap e, w.drew.alloc (.cells (olds.toArray ++ Builtin.zeroCells z.cells n ++ Builtin.zeroCells z.cells (grownCap w (k + n) cap e - (k + n))) e), (Builtin.zeroCells z.cells n ++ Builtin.zeroCells z.cells (grownCap w (k + n) cap e - (k + n))).toList, ?_, hge, hle, ?_, ?_, ?_⟩
  · simp [Builtin.append_, run_underlying ht, run_underlying hx, sizeOf, typeInfo, zeroValue, hi, hz, Builtin.lenOf, hn, hwr, hn0, h48, h48n, h63, Question.forced, hold, newRow, grownCap, hnz, hai, hmx]
  · have := heap_alloc_new w.drew (.cells (olds.toArray ++ Builtin.zeroCells z.cells n ++ Builtin.zeroCells z.cells (grownCap w (k + n) cap e - (k + n))) e)
    refine this.trans ?_
    congr 2
    apply Array.ext'
    simp
  · rw [List.length_append, hl]
    simp only [Array.length_toList, Array.size_append, size_zeroCells, hzs]
    rw [← Nat.add_mul, ← Nat.add_mul]
    congr 1; omega
  · exact (Below.refl _ _).drew.alloc (Nat.le_refl _) _

theorem wpList_clear_rd {ops : Array Oper} {rest : List Oper} {o : Oper} {a : Act} {Q : Exit → Act → World → Prop} (hgd : o.guard = none) (x : Operand) (t : TypeId)
    (ho : o.op = .call { callee := .builtin .clear, args := #[x], argTypes := #[t] }) (e : TypeId) (i : TypeInfo) (z : Value) (sz : Nat) (ht : P.underlying t = some (.slice e)) (hi : P.info? e = some i) (hz : i.zero = some z) (hzs : z.cells.size = sz) (hz1 : ∀ v ∈ z.cells.toList, v.oneCell' = true) (hsz0 : 0 < sz)
    (dp : Option Addr) (n c : Nat) (hx : a.eval x = .slice dp n c) (g off : Nat) (cur : List Value) (tt : TypeId) (hg : w.heap[g]? = some (.cells cur.toArray tt (0, 0))) (hd : 0 < n → dp = some ⟨g, off, .none⟩) (hfit : off + n * sz ≤ cur.length)
    (h : ∀ w' (cs : List Value), cs.length = n * sz → w'.heap[g]? = some (.cells (laid cur off cs).toArray tt (0, 0)) → w.grownBy w' (some g) → wpList P ops Q rest (a.put o.dst (.tuple #[])) w') : wpList P ops Q (o :: rest) a w :=
  wpList_plain hgd fun _ hK => by
    obtain ⟨w', cs, hrun, h2, h3, h4⟩ := run_clear_rd (P := P) (w := w) t e o.type i z sz ht hi hz hzs hz1 hsz0 dp n c g off cur tt hg hd hfit
    unfold Oper.wp execOp
    simp only [ho, resolve, invoke, builtin, Sem.run_bind, Sem.run_pure, Result.andThen_ok, List.map_toArray, List.map_cons, List.map_nil, hx, hrun]
    exact hK _ _ (h w' cs h2 h3 h4)
theorem wpList_append_zeros {ops : Array Oper} {rest : List Oper} {o : Oper} {a : Act} {Q : Exit → Act → World → Prop} (hgd : o.guard = none) (s x : Operand) (t tx : TypeId)
    (ho : o.op = .call { callee := .builtin .append, args := #[s, x], argTypes := #[t, tx] }) (e : TypeId) (i : TypeInfo) (z : Value) (sz bytes : Nat) (ht : P.underlying t = some (.slice e)) (htx : P.underlying tx = some (.int .i64)) (hi : P.info? e = some i) (hz : i.zero = some z) (hsize : i.size = sz) (hby : i.bytes = bytes) (hzs : z.cells.size = sz) (hsz0 : 0 < sz)
    (ao : Option Addr) (k cap n : Nat) (hs : a.eval s = .slice ao k cap) (zi : Int) (hx' : a.eval x = .int .i64 zi) (hzi : zi = (n : Int)) (olds : List Value) (hr : RdS w sz (.slice ao k cap) k olds) (hroom : cap < k + n) (hbytes : (k + n) * bytes ≤ 140737488355328) (hsmall : k + n ≤ 1000000)
    (h : ∀ cap' w' rest', k + n ≤ cap' → cap' ≤ maxLen → w'.heap[w.heap.size]? = some (.cells (olds ++ rest').toArray e (0, 0)) → (olds ++ rest').length = cap' * sz → Below w.heap.size w w' →
      wpList P ops Q rest (a.put o.dst (.slice (some ⟨w.heap.size, 0, .none⟩) (k + n) cap')) w') : wpList P ops Q (o :: rest) a w :=
  wpList_plain hgd fun _ hK => by
    have hx := hzi ▸ hx'
    obtain ⟨cap', w', rest', hrun, h1, h2, h3, h4, h5⟩ := run_append_zeros (P := P) (w := w) t tx e o.type i z sz bytes ht htx hi hz hsize hby hzs hsz0 ao k cap n olds hr hroom hbytes hsmall
    unfold Oper.wp execOp
    simp only [ho, resolve, invoke, builtin, Sem.run_bind, Sem.run_pure, Result.andThen_ok, List.map_toArray, List.map_cons, List.map_nil, hs, hx, hrun]
    exact hK _ _ (h cap' w' rest' h1 h2 h3 h4 h5)
end

end Go.Proofs.Ytclidckjnoafcaa
