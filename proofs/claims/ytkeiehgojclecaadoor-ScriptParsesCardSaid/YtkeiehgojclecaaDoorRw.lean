/- A slice that reads as a row of cells, whatever it is (nil, empty, cut); appending it to a row of the call's own; cutting it. -/
import Derived.Test.YtkeiehgojclecaaDoorBase

import Derived.Deep.AppendLies

import Derived.Deep.RegionLaw

import Derived.Maps.AppendAt

import Derived.Deep.Draws

namespace Go.Proofs.YtkeiehgojclecaaDoor

open Go.RowKit

theorem add_flat (b o n : Nat) : (⟨b, o, .none⟩ : Addr).add n = ⟨b, o + n, .none⟩ := by
  unfold Addr.add; split <;> simp_all
/-- The slice v has n elements of sz cells; these read as cs. -/
def RdS (w : World) (sz : Nat) (v : Value) (n : Nat) (cs : List Value) : Prop := ∃ ao cap, v = .slice ao n cap ∧ n ≤ cap ∧ (cap : Int) ≤ 9223372036854775807 ∧ cs.length = n * sz ∧
  (n ≠ 0 → ∃ b off, ao = some ⟨b, off, .none⟩ ∧ b < w.heap.size ∧ ∀ i, i < n * sz → w.cell? ⟨b, off + i, .none⟩ = cs[i]?)

/-- What an expression s[l:h] is: by name, so that the walk leaves it whole. -/
def cutV (a : Option Addr) (l h m s : Nat) : Value := sliced a l h m s

section

variable {w w' : World} {sz n : Nat} {v : Value} {cs : List Value}

theorem RdS.keep (h : RdS w sz v n cs) (hs : w.heap.size ≤ w'.heap.size) (hk : ∀ b o, b < w.heap.size → w'.cell? ⟨b, o, .none⟩ = w.cell? ⟨b, o, .none⟩) : RdS w' sz v n cs :=
  let ⟨ao, cap, e, h1, h2, h3, h4⟩ := h
  ⟨ao, cap, e, h1, h2, h3, fun hn => let ⟨b, off, ea, hlt, hc⟩ := h4 hn; ⟨b, off, ea, Nat.lt_of_lt_of_le hlt hs, fun i hi => (hk b _ hlt).trans (hc i hi)⟩⟩
theorem RdS.below (h : RdS w sz v n cs) (hb : Below w.heap.size w w') : RdS w' sz v n cs := h.keep hb.size fun b o hlt => hb.cell (p := ⟨b, o, .none⟩) hlt
theorem RdS.drew (h : RdS w sz v n cs) : RdS w.drew sz v n cs := h
theorem RdS.drewN (h : RdS w sz v n cs) (k : Nat) : RdS (w.drewN k) sz v n cs := h
theorem RdS.alloc (h : RdS w sz v n cs) (o : Obj) : RdS (w.alloc o) sz v n cs := h.below ((Below.refl _ _).alloc (Nat.le_refl _) o)
theorem RdS.of_own {base : Nat} {e : TypeId} (h : w.ownsRow base e sz v n cs) : RdS w sz v n cs := by
  rcases h.2 with ⟨h1, h2⟩ | ⟨g, cap, cur, rfl, h1, h2, h3, h4, h5, h6⟩
  · subst h2
    exact ⟨none, 0, h1, Nat.le_refl _, by omega, h.1, fun h => absurd rfl h⟩
  · refine ⟨_, cap, rfl, h3, by simp only [maxLen] at h4; omega, h.1, fun _ => ⟨g, 0, rfl, (Array.getElem?_eq_some_iff.1 h2).1, fun i hi => ?_⟩⟩
    rw [cell_of_row w g _ cur e (0, 0) h2, ← h6, List.getElem?_take, if_pos hi]
    simp
/-- A cut of what reads. -/
theorem RdS.cut {ao : Option Addr} {cap l h : Nat} (r : RdS w sz (.slice ao n cap) n cs) (hl : l ≤ h) (hh : h ≤ n) : RdS w sz (cutV ao l h cap sz) (h - l) ((cs.drop (l * sz)).take ((h - l) * sz)) := by
  obtain ⟨ao', cap', e, h1, h2, h3, h4⟩ := r
  injection e with e1 _ e3
  subst e1 e3
  refine ⟨_, _, rfl, by omega, by omega, ?_, fun hn => ?_⟩
  · rw [List.length_take, List.length_drop, h3, ← Nat.sub_mul]
    exact Nat.min_eq_left (Nat.mul_le_mul_right _ (by omega))
  · obtain ⟨b, off, rfl, hlt, hc⟩ := h4 (by omega)
    rw [if_neg (by omega)]
    refine ⟨b, off + l * sz, by show some (Addr.add _ _) = _; rw [add_flat], hlt, fun i hi => ?_⟩
    rw [List.getElem?_take, if_pos hi, List.getElem?_drop, Nat.add_assoc]
    have hm : (h - l) * sz + l * sz ≤ n * sz := by rw [← Nat.add_mul]; exact Nat.mul_le_mul_right _ (by omega)
    exact hc _ (by omega)
/-- A cut of an owned row from its head is owned. -/
theorem own_at {base : Nat} {e : TypeId} {g cap : Nat} {n : Nat} (h : w.ownsRow base e sz (.slice (some ⟨g, 0, .none⟩) n cap) n cs) : base ≤ g ∧ g < w.heap.size := by
  rcases h.2 with ⟨h1, _⟩ | ⟨g', cap', cur, e1, h1, h2, _⟩
  · cases h1
  · injection e1 with e1
    injection e1 with e1
    injection e1 with e1
    subst e1
    exact ⟨h1, (Array.getElem?_eq_some_iff.1 h2).1⟩
end

section

variable {P : Program} {w : World} (t : TypeId) (a : Option Addr) (len cap : Nat) (ht : P.underlying t = some (.slice (P.elem t)))

include ht

theorem run_cut_l (kl : IntKind) (l : Int) (h0 : 0 ≤ l) (h1 : l ≤ len) :
    (Instr.slice t (.slice a len cap) (some (.int kl l)) none none).run P w = ((sizeOf (P.elem t)).run P w).andThen fun s w => .ok (cutV a l.toNat len cap s) w := run_slice_l w t a len cap ht kl l h0 h1
theorem run_cut_h (kh : IntKind) (h : Int) (h0 : 0 ≤ h) (h2 : h ≤ cap) :
    (Instr.slice t (.slice a len cap) none (some (.int kh h)) none).run P w = ((sizeOf (P.elem t)).run P w).andThen fun s w => .ok (cutV a 0 h.toNat cap s) w := run_slice_h w t a len cap ht kh h h0 h2
theorem run_cut_lh (kl kh : IntKind) (l h : Int) (h0 : 0 ≤ l) (h1 : l ≤ h) (h2 : h ≤ cap) :
    (Instr.slice t (.slice a len cap) (some (.int kl l)) (some (.int kh h)) none).run P w = ((sizeOf (P.elem t)).run P w).andThen fun s w => .ok (cutV a l.toNat h.toNat cap s) w := run_slice_lh w t a len cap ht kl kh l h h0 h1 h2
theorem run_cut_all : (Instr.slice t (.slice a len cap) none none none).run P w = ((sizeOf (P.elem t)).run P w).andThen fun s w => .ok (cutV a 0 len cap s) w := run_slice_all w t a len cap ht
end

section

variable {P : Program} (w : World)

theorem append_nothing (base : Nat) (t ty e : TypeId) (i : TypeInfo) (size : Nat) (ht : P.underlying t = some (.slice e)) (hi : P.info? e = some i)
    (v : Value) (n : Nat) (xs : List Value) (hown : w.ownsRow base e size v n xs) (ao : Option Addr) (c : Nat) : (Builtin.append_ #[t, t] ty #[v, .slice ao 0 c]).run P w = .ok v w := by
  rcases hown.2 with ⟨rfl, rfl⟩ | ⟨g, cap, cur, rfl, _, _, hnc, _⟩
  · cases ao <;> simp [Builtin.append_, run_underlying ht, sizeOf, typeInfo, hi, Builtin.lenOf, Builtin.firstCells, loadCells, loadCellsFrom]
  · cases ao <;> simp [Builtin.append_, run_underlying ht, sizeOf, typeInfo, hi, Builtin.lenOf, Builtin.firstCells, hnc, storeCells, loadCells, loadCellsFrom]
/-- Whatever reads, appended to a row of the call's own. -/
theorem run_append_rd (base : Nat) (t ty e : TypeId) (i : TypeInfo) (z : Value) (size bytes : Nat) (ht : P.underlying t = some (.slice e)) (hi : P.info? e = some i) (hz : i.zero = some z)
    (hsize : i.size = size) (hby : i.bytes = bytes) (hzs : z.cells.size = size) (hsz : 0 < size)
    (v : Value) (n : Nat) (xs : List Value) (hown : w.ownsRow base e size v n xs)
    (u : Value) (m : Nat) (news : List Value) (hr : RdS w size u m news) (h1 : ∀ u ∈ news, u.oneCell' = true)
    (h63 : n + m ≤ maxLen) (hbytes : (n + m) * bytes ≤ 140737488355328) (hbase : base ≤ w.heap.size) :
    ∃ v' w', (Builtin.append_ #[t, t] ty #[v, u]).run P w = .ok v' w' ∧ w'.ownsRow base e size v' (n + m) (xs ++ news) ∧ w.grownBy w' v.ownBlock ∧
      (v'.ownBlock = v.ownBlock ∨ v'.ownBlock = some w.heap.size) := by
  obtain ⟨ao, cap, rfl, hc1, hc2, hl, hrow⟩ := hr
  rcases Nat.eq_zero_or_pos m with h0 | h0
  · subst h0
    have hn : news = [] := List.eq_nil_of_length_eq_zero (by simpa using hl)
    subst hn
    exact ⟨v, w, append_nothing w base t ty e i size ht hi v n xs hown ao cap, by simpa using hown, World.grownBy.refl w _, .inl rfl⟩
  · obtain ⟨b, off, rfl, _, hcs⟩ := hrow (by omega)
    obtain ⟨v', w', hrun, h2, h3, _, h5⟩ := run_append_own_at (P := P) w base t ty e i z size bytes ht hi hz hsize hby hzs hsz v n xs hown ⟨b, off, .none⟩ m cap news hl
      (fun j u hu => by rw [add_flat]; rw [← hu]; exact hcs j (by have := (List.getElem?_eq_some_iff.1 hu).1; omega)) h1 h63 hbytes hbase
    exact ⟨v', w', hrun, h2, h3, h5⟩

variable {w}

theorem wp_append_rd {o : Oper} {a : Act} {K : Act → World → Prop} {Q : Exit → Act → World → Prop} (s x : Operand) (t : TypeId)
    (ho : o.op = .call { callee := .builtin .append, args := #[s, x], argTypes := #[t, t] })
    (base : Nat) (e : TypeId) (i : TypeInfo) (z : Value) (size bytes : Nat) (ht : P.underlying t = some (.slice e)) (hi : P.info? e = some i) (hz : i.zero = some z)
    (hsize : i.size = size) (hby : i.bytes = bytes) (hzs : z.cells.size = size) (hsz : 0 < size)
    (v : Value) (n : Nat) (xs : List Value) (hs : a.eval s = v) (hown : w.ownsRow base e size v n xs)
    (u : Value) (m : Nat) (news : List Value) (hx : a.eval x = u) (hr : RdS w size u m news) (h1 : ∀ u ∈ news, u.oneCell' = true)
    (h63 : n + m ≤ maxLen) (hbytes : (n + m) * bytes ≤ 140737488355328) (hbase : base ≤ w.heap.size)
    (h : ∀ v' w', w'.ownsRow base e size v' (n + m) (xs ++ news) → w.grownBy w' v.ownBlock → (v'.ownBlock = v.ownBlock ∨ v'.ownBlock = some w.heap.size) → K (a.put o.dst v') w') : o.wp P a w K Q := by
  obtain ⟨v', w', hrun, h2, h3, h4⟩ := run_append_rd (P := P) w base t o.type e i z size bytes ht hi hz hsize hby hzs hsz v n xs hown u m news hr h1 h63 hbytes hbase
  unfold Oper.wp execOp
  simp only [ho, resolve, invoke, builtin, Sem.run_bind, Sem.run_pure, Result.andThen_ok, List.map_toArray, List.map_cons, List.map_nil, hs, hx, hrun]
  exact h v' w' h2 h3 h4
theorem wpList_append_rd {ops : Array Oper} {rest : List Oper} {o : Oper} {a : Act} {Q : Exit → Act → World → Prop} (hgd : o.guard = none) (s x : Operand) (t : TypeId)
    (ho : o.op = .call { callee := .builtin .append, args := #[s, x], argTypes := #[t, t] })
    (base : Nat) (e : TypeId) (i : TypeInfo) (z : Value) (size bytes : Nat) (ht : P.underlying t = some (.slice e)) (hi : P.info? e = some i) (hz : i.zero = some z)
    (hsize : i.size = size) (hby : i.bytes = bytes) (hzs : z.cells.size = size) (hsz : 0 < size)
    (v : Value) (n : Nat) (xs : List Value) (hs : a.eval s = v) (hown : w.ownsRow base e size v n xs)
    (u : Value) (m : Nat) (news : List Value) (hx : a.eval x = u) (hr : RdS w size u m news) (h1 : ∀ u ∈ news, u.oneCell' = true)
    (h63 : n + m ≤ maxLen) (hbytes : (n + m) * bytes ≤ 140737488355328) (hbase : base ≤ w.heap.size)
    (h : ∀ v' w', w'.ownsRow base e size v' (n + m) (xs ++ news) → w.grownBy w' v.ownBlock → (v'.ownBlock = v.ownBlock ∨ v'.ownBlock = some w.heap.size) → wpList P ops Q rest (a.put o.dst v') w') : wpList P ops Q (o :: rest) a w :=
  wpList_plain hgd fun _ hK => wp_append_rd s x t ho base e i z size bytes ht hi hz hsize hby hzs hsz v n xs hs hown u m news hx hr h1 h63 hbytes hbase fun v' w' h2 h3 h4 => hK _ _ (h v' w' h2 h3 h4)
theorem step_append_rd {ops : Array Oper} {o : Oper} {a : Act} {K : Act → World → Prop} {Q : Exit → Act → World → Prop} {E : Prop} (hgd : o.guard = none) (s x : Operand) (t : TypeId)
    (ho : o.op = .call { callee := .builtin .append, args := #[s, x], argTypes := #[t, t] })
    (base : Nat) (e : TypeId) (i : TypeInfo) (z : Value) (size bytes : Nat) (ht : P.underlying t = some (.slice e)) (hi : P.info? e = some i) (hz : i.zero = some z)
    (hsize : i.size = size) (hby : i.bytes = bytes) (hzs : z.cells.size = size) (hsz : 0 < size)
    (v : Value) (n : Nat) (xs : List Value) (hs : a.eval s = v) (hown : w.ownsRow base e size v n xs)
    (u : Value) (m : Nat) (news : List Value) (hx : a.eval x = u) (hr : RdS w size u m news) (h1 : ∀ u ∈ news, u.oneCell' = true)
    (h63 : n + m ≤ maxLen) (hbytes : (n + m) * bytes ≤ 140737488355328) (hbase : base ≤ w.heap.size)
    (h : ∀ v' w', w'.ownsRow base e size v' (n + m) (xs ++ news) → w.grownBy w' v.ownBlock → (v'.ownBlock = v.ownBlock ∨ v'.ownBlock = some w.heap.size) → K (a.put o.dst v') w') :
    if Region.wanted o (yielded ops a.tmps) = true then Oper.wp P o a w K Q else E := by
  have hw : Region.wanted o (yielded ops a.tmps) = true := by simp [Region.wanted, hgd]
  rw [if_pos hw]
  exact wp_append_rd s x t ho base e i z size bytes ht hi hz hsize hby hzs hsz v n xs hs hown u m news hx hr h1 h63 hbytes hbase h
end

/-- A block of the call's own, freshly laid, reads as its cells. -/
theorem RdS.new {w : World} {g : Nat} {cs : Array Value} {t : TypeId} {sz n : Nat} (hg : w.heap[g]? = some (.cells cs t (0, 0))) (hl : cs.size = n * sz) (hn : (n : Int) ≤ 9223372036854775807) : RdS w sz (.slice (some ⟨g, 0, .none⟩) n n) n cs.toList := by
  refine ⟨_, n, rfl, Nat.le_refl _, hn, by simpa using hl, fun _ => ⟨g, 0, rfl, (Array.getElem?_eq_some_iff.1 hg).1, fun i hi => ?_⟩⟩
  rw [cell_of_row w g _ cs t (0, 0) hg]
  simp
/-- Only what lies from B on has changed, if an owned row has grown. -/
theorem grown_belowS {E : TypeId} {B sz : Nat} {a w w' : World} {v : Value} {n : Nat} {xs : List Value} (h : Below B a w) (ho : w.ownsRow B E sz v n xs) (hB : B ≤ w.heap.size) (hg : w.grownBy w' v.ownBlock) : Below B a w' :=
  h.trans ⟨hg.os, hg.tape, hg.output, hg.size, fun k hk => hg.block k (by omega) (fun e => by have := (ho.lt k e.symm).1; omega)⟩
end Go.Proofs.YtkeiehgojclecaaDoor
