/- A row that is the call's own, or full: appending to it. -/
import Derived.Test.YtclidckjnoafcaaRw

import Derived.ArgAppend

namespace Go.Proofs.Ytclidckjnoafcaa

open Go.RowKit

/-- The slice v reads as xs, lies at or above base, and is the call's own or full. -/
def AtR (w : World) (base : Nat) (e : TypeId) (size : Nat) (v : Value) (n : Nat) (xs : List Value) : Prop :=
  w.ownsRow base e size v n xs ∨ (RdS w size v n xs ∧ ∃ g, v = .slice (some ⟨g, 0, .none⟩) n n ∧ base ≤ g ∧ g < w.heap.size)
section

variable {w w' : World} {base : Nat} {e : TypeId} {size n : Nat} {v : Value} {xs : List Value}

theorem AtR.rd (h : AtR w base e size v n xs) : RdS w size v n xs := by
  rcases h with h | h
  · exact RdS.of_own h
  · exact h.1
theorem AtR.lt (h : AtR w base e size v n xs) {k : Nat} (hk : v.ownBlock = some k) : base ≤ k ∧ k < w.heap.size := by
  rcases h with h | ⟨_, g, rfl, h1, h2⟩
  · rcases h.2 with ⟨rfl, _⟩ | ⟨g, cap, cur, rfl, h1, h2, _⟩
    · cases hk
    · injection hk with hk
      subst hk
      exact ⟨h1, (Array.getElem?_eq_some_iff.1 h2).1⟩
  · injection hk with hk
    subst hk
    exact ⟨h1, h2⟩
theorem AtR.of_block (h : AtR w base e size v n xs) (hs : w.heap.size ≤ w'.heap.size) (hb : ∀ k, v.ownBlock = some k → w'.heap[k]? = w.heap[k]?) : AtR w' base e size v n xs := by
  rcases h with ⟨h1, h2⟩ | ⟨⟨ao, cap, e1, h1, h2, h3, h4⟩, g, rfl, h5, h6⟩
  · refine .inl ⟨h1, h2.imp id ?_⟩
    rintro ⟨g, cap, cur, rfl, k1, k2, k3⟩
    exact ⟨g, cap, cur, rfl, k1, (hb g rfl).trans k2, k3⟩
  · refine .inr ⟨⟨ao, cap, e1, h1, h2, h3, fun hn => ?_⟩, g, rfl, h5, by omega⟩
    obtain ⟨b, off, rfl, k1, k2⟩ := h4 hn
    injection e1 with e1 _ _
    injection e1 with e1
    injection e1 with e2 e3
    subst e2 e3
    refine ⟨g, 0, rfl, by omega, fun i hi => ?_⟩
    have hg := hb g rfl
    rw [← k2 i hi]
    unfold World.cell?
    simp only [hg]
end

section

variable {P : Program} (w : World)

theorem append_none_rd (t ty e : TypeId) (i : TypeInfo) (size : Nat) (ht : P.underlying t = some (.slice e)) (hi : P.info? e = some i) (ao bo : Option Addr) (n c cap : Nat) (hn : n ≤ cap) :
    (Builtin.append_ #[t, t] ty #[.slice ao n cap, .slice bo 0 c]).run P w = .ok (.slice ao n cap) w := by
  cases bo <;> cases ao <;> simp [Builtin.append_, run_underlying ht, sizeOf, typeInfo, hi, Builtin.lenOf, Builtin.firstCells, hn, storeCells, loadCells, loadCellsFrom]
theorem run_append_at (base : Nat) (t ty e : TypeId) (i : TypeInfo) (z : Value) (size bytes : Nat) (ht : P.underlying t = some (.slice e)) (hi : P.info? e = some i) (hz : i.zero = some z)
    (hsize : i.size = size) (hby : i.bytes = bytes) (hzs : z.cells.size = size) (hsz : 0 < size)
    (v : Value) (n : Nat) (xs : List Value) (hat : AtR w base e size v n xs)
    (u : Value) (m : Nat) (news : List Value) (hr : RdS w size u m news) (h1 : ∀ u ∈ news, u.oneCell' = true)
    (h63 : n + m ≤ maxLen) (hbytes : (n + m) * bytes ≤ 140737488355328) (hbase : base ≤ w.heap.size) :
    ∃ v' w', (Builtin.append_ #[t, t] ty #[v, u]).run P w = .ok v' w' ∧ AtR w' base e size v' (n + m) (xs ++ news) ∧ w.grownBy w' v.ownBlock ∧
      (v'.ownBlock = v.ownBlock ∨ ∀ k, v'.ownBlock = some k → w.heap.size ≤ k) := by
  rcases hat with hat | ⟨hrd, g, rfl, hg1, hg2⟩
  · obtain ⟨v', w', a1, a2, a3, a4⟩ := run_append_rd (P := P) w base t ty e i z size bytes ht hi hz hsize hby hzs hsz v n xs hat u m news hr h1 h63 hbytes hbase
    refine ⟨v', w', a1, .inl a2, a3, a4.imp id fun h k hk => ?_⟩
    rw [h] at hk
    injection hk with hk
    omega
  · obtain ⟨ao, cap, rfl, hc1, hc2, hl, hrow⟩ := hr
    rcases Nat.eq_zero_or_pos m with h0 | h0
    · subst h0
      have hn : news = [] := List.eq_nil_of_length_eq_zero (by simpa using hl)
      subst hn
      exact ⟨_, w, append_none_rd w t ty e i size ht hi _ ao n cap n (Nat.le_refl _), .inr ⟨by simpa using hrd, g, rfl, hg1, hg2⟩, World.grownBy.refl w _, .inl rfl⟩
    · obtain ⟨b, off, rfl, _, hcs⟩ := hrow (by omega)
      obtain ⟨ao2, cap2, e2, _, _, hl2, hrow2⟩ := hrd
      injection e2 with e3 _ e4
      subst e3 e4
      have hold : ∀ j u, xs[j]? = some u → w.cell? ((⟨g, 0, .none⟩ : Addr).add j) = some u := fun j u hu => by
        have hj := (List.getElem?_eq_some_iff.1 hu).1
        rw [hl2] at hj
        obtain ⟨b2, off2, e5, _, hcs2⟩ := hrow2 (fun h => by subst h; simp at hj)
        injection e5 with e5
        injection e5 with e6 e7
        subst e6 e7
        rw [add_flat]
        rw [← hu]
        exact hcs2 j hj
      obtain ⟨v', w', a1, a2, a3⟩ := run_append_arg_grows (P := P) w t ty e i z size bytes ht hi hz hsize hby hzs hsz ⟨g, 0, .none⟩ n n xs hl2 hold ⟨b, off, .none⟩ m cap news hl
        (fun j u hu => by rw [add_flat]; rw [← hu]; exact hcs j (by have := (List.getElem?_eq_some_iff.1 hu).1; omega)) (by omega) h63 hbytes
      have hown : w'.ownsRow base e size v' (n + m) (xs ++ news) := by
        refine ⟨a2.1, a2.2.imp id ?_⟩
        rintro ⟨g', cap', cur, k1, k2, k3⟩
        exact ⟨g', cap', cur, k1, Nat.le_trans hbase k2, k3⟩
      refine ⟨v', w', a1, .inl hown, ⟨a3.os, a3.tape, a3.output, a3.size, fun k hk _ => a3.block k hk (by simp)⟩, .inr fun k hk => ?_⟩
      rcases a2.2 with ⟨rfl, _⟩ | ⟨g', cap', cur, rfl, k2, _⟩
      · cases hk
      · injection hk with hk
        exact hk ▸ k2
variable {w}

theorem wp_append_at {o : Oper} {a : Act} {K : Act → World → Prop} {Q : Exit → Act → World → Prop} (s x : Operand) (t : TypeId)
    (ho : o.op = .call { callee := .builtin .append, args := #[s, x], argTypes := #[t, t] })
    (base : Nat) (e : TypeId) (i : TypeInfo) (z : Value) (size bytes : Nat) (ht : P.underlying t = some (.slice e)) (hi : P.info? e = some i) (hz : i.zero = some z)
    (hsize : i.size = size) (hby : i.bytes = bytes) (hzs : z.cells.size = size) (hsz : 0 < size)
    (v : Value) (n : Nat) (xs : List Value) (hs : a.eval s = v) (hat : AtR w base e size v n xs)
    (u : Value) (m : Nat) (news : List Value) (hx : a.eval x = u) (hr : RdS w size u m news) (h1 : ∀ u ∈ news, u.oneCell' = true)
    (h63 : n + m ≤ maxLen) (hbytes : (n + m) * bytes ≤ 140737488355328) (hbase : base ≤ w.heap.size)
    (h : ∀ v' w', AtR w' base e size v' (n + m) (xs ++ news) → w.grownBy w' v.ownBlock → (v'.ownBlock = v.ownBlock ∨ ∀ k, v'.ownBlock = some k → w.heap.size ≤ k) → K (a.put o.dst v') w') : o.wp P a w K Q := by
  obtain ⟨v', w', hrun, h2, h3, h4⟩ := run_append_at (P := P) w base t o.type e i z size bytes ht hi hz hsize hby hzs hsz v n xs hat u m news hr h1 h63 hbytes hbase
  unfold Oper.wp execOp
  simp only [ho, resolve, invoke, builtin, Sem.run_bind, Sem.run_pure, Result.andThen_ok, List.map_toArray, List.map_cons, List.map_nil, hs, hx, hrun]
  exact h v' w' h2 h3 h4
theorem wpList_append_at {ops : Array Oper} {rest : List Oper} {o : Oper} {a : Act} {Q : Exit → Act → World → Prop} (hgd : o.guard = none) (s x : Operand) (t : TypeId)
    (ho : o.op = .call { callee := .builtin .append, args := #[s, x], argTypes := #[t, t] })
    (base : Nat) (e : TypeId) (i : TypeInfo) (z : Value) (size bytes : Nat) (ht : P.underlying t = some (.slice e)) (hi : P.info? e = some i) (hz : i.zero = some z)
    (hsize : i.size = size) (hby : i.bytes = bytes) (hzs : z.cells.size = size) (hsz : 0 < size)
    (v : Value) (n : Nat) (xs : List Value) (hs : a.eval s = v) (hat : AtR w base e size v n xs)
    (u : Value) (m : Nat) (news : List Value) (hx : a.eval x = u) (hr : RdS w size u m news) (h1 : ∀ u ∈ news, u.oneCell' = true)
    (h63 : n + m ≤ maxLen) (hbytes : (n + m) * bytes ≤ 140737488355328) (hbase : base ≤ w.heap.size)
    (h : ∀ v' w', AtR w' base e size v' (n + m) (xs ++ news) → w.grownBy w' v.ownBlock → (v'.ownBlock = v.ownBlock ∨ ∀ k, v'.ownBlock = some k → w.heap.size ≤ k) → wpList P ops Q rest (a.put o.dst v') w') : wpList P ops Q (o :: rest) a w :=
  wpList_plain hgd fun _ hK => wp_append_at s x t ho base e i z size bytes ht hi hz hsize hby hzs hsz v n xs hs hat u m news hx hr h1 h63 hbytes hbase fun v' w' h2 h3 h4 => hK _ _ (h v' w' h2 h3 h4)
theorem step_append_at {ops : Array Oper} {o : Oper} {a : Act} {K : Act → World → Prop} {Q : Exit → Act → World → Prop} {E : Prop} (hgd : o.guard = none) (s x : Operand) (t : TypeId)
    (ho : o.op = .call { callee := .builtin .append, args := #[s, x], argTypes := #[t, t] })
    (base : Nat) (e : TypeId) (i : TypeInfo) (z : Value) (size bytes : Nat) (ht : P.underlying t = some (.slice e)) (hi : P.info? e = some i) (hz : i.zero = some z)
    (hsize : i.size = size) (hby : i.bytes = bytes) (hzs : z.cells.size = size) (hsz : 0 < size)
    (v : Value) (n : Nat) (xs : List Value) (hs : a.eval s = v) (hat : AtR w base e size v n xs)
    (u : Value) (m : Nat) (news : List Value) (hx : a.eval x = u) (hr : RdS w size u m news) (h1 : ∀ u ∈ news, u.oneCell' = true)
    (h63 : n + m ≤ maxLen) (hbytes : (n + m) * bytes ≤ 140737488355328) (hbase : base ≤ w.heap.size)
    (h : ∀ v' w', AtR w' base e size v' (n + m) (xs ++ news) → w.grownBy w' v.ownBlock → (v'.ownBlock = v.ownBlock ∨ ∀ k, v'.ownBlock = some k → w.heap.size ≤ k) → K (a.put o.dst v') w') :
    if Region.wanted o (yielded ops a.tmps) = true then Oper.wp P o a w K Q else E := by
  have hw : Region.wanted o (yielded ops a.tmps) = true := by simp [Region.wanted, hgd]
  rw [if_pos hw]
  exact wp_append_at s x t ho base e i z size bytes ht hi hz hsize hby hzs hsz v n xs hs hat u m news hx hr h1 h63 hbytes hbase h
end

end Go.Proofs.Ytclidckjnoafcaa
