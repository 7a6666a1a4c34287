/- Opening arguments by their types, and closing a law's row: whatever the law reads, reads behind the call as it did, if nothing that was there has turned. -/
import Derived.Test.YtkeiehgojclecaaDoorBase

import Derived.ProofKit

import Derived.OpenShut

import Derived.SizedLaws

import Derived.ChangeSlices

namespace Go.Proofs.YtkeiehgojclecaaDoor

open Go.RowKit Go.ChangeShapes Go.WideShapes Go.ChangeAt

theorem own : ownKnob Tryd.prog.godebug = none := by kernel_rfl
theorem laidOut : laidOutB Tryd.prog = true := by kernel_rfl

section

variable {H : Type} {enc : TypeId × Value → H} {P : Program} {w : World}

/-- Cells that can be read as a datum of a type. -/
def Rd (enc : TypeId × Value → H) (P : Program) (w : World) (t : TypeId) (cs : List Value) : Prop := ∃ fuel x, DataW.trod enc P w 0 (fun _ => true) true fuel t cs = some x

theorem rd_of_trod {t : TypeId} {v : Value} {d : DataW H} {ps : List MemPlace} (h : DataW.Trod enc P w 0 (fun _ => true) true t v d ps) : Rd enc P w t v.cells.toList :=
  let ⟨f, hf⟩ := h
  ⟨f, _, hf⟩
theorem rd_int {t : TypeId} {k : IntKind} {cs : List Value} (ht : P.underlying t = some (.int k)) (h : Rd enc P w t cs) : ∃ n, cs = [.int k n] ∧ (Lit.int k n).wf = true := by
  obtain ⟨f, x, hf⟩ := h
  obtain ⟨n, h1, _, h2⟩ := DataW.trod_int ht hf
  exact ⟨n, h1, h2⟩
theorem rd_bool {t : TypeId} {cs : List Value} (ht : P.underlying t = some .bool) (h : Rd enc P w t cs) : ∃ b, cs = [.bool b] := by
  obtain ⟨f, x, hf⟩ := h
  obtain ⟨b, h1, _⟩ := DataW.trod_bool ht hf
  exact ⟨b, h1⟩
theorem rd_float {t : TypeId} {k : FloatKind} {cs : List Value} (ht : P.underlying t = some (.float k)) (h : Rd enc P w t cs) : ∃ b, cs = [.float k b] ∧ (Lit.float k b).wf = true := by
  obtain ⟨f, x, hf⟩ := h
  cases f with
  | zero => simp [DataW.trod] at hf
  | succ n =>
    unfold DataW.trod at hf
    rw [ht] at hf
    split at hf <;> simp_all
theorem rd_string {t : TypeId} {cs : List Value} (ht : P.underlying t = some .string) (h : Rd enc P w t cs) : ∃ s : ByteArray, cs = [.string s] ∧ s.size ≤ maxLen := by
  obtain ⟨f, x, hf⟩ := h
  obtain ⟨s, h1, _, h2⟩ := DataW.trod_string ht hf
  exact ⟨s, h1, h2⟩
theorem rd_array {t : TypeId} {n : Nat} {e : TypeId} {cs : List Value} (ht : P.underlying t = some (.array n e)) (h : Rd enc P w t cs) :
    cs.length = P.cellsOf t ∧ ∀ i, i < n → Rd enc P w e ((cs.drop (i * P.cellsOf e)).take (P.cellsOf e)) := by
  obtain ⟨f, x, hf⟩ := h
  obtain ⟨xs, m, _, _, h1, h2, h3⟩ := DataW.trod_array ht hf
  refine ⟨h1, fun i hi => ?_⟩
  have := h3 i hi
  rw [List.getElem?_eq_getElem (by omega)] at this
  exact ⟨m, _, this⟩
theorem rd_struct {t : TypeId} {fs : Array Field} {cs : List Value} (ht : P.underlying t = some (.struct fs)) (h : Rd enc P w t cs) :
    cs.length = P.cellsOf t ∧ ∀ (i : Nat) (f : Field), fs[i]? = some f → Rd enc P w f.type ((cs.drop f.offset).take (P.cellsOf f.type)) := by
  obtain ⟨f, x, hf⟩ := h
  obtain ⟨xs, m, _, _, h1, h2, h3⟩ := DataW.trod_struct ht hf
  refine ⟨h1, fun i f hi => ?_⟩
  have hlt : i < xs.length := by rw [h2]; exact (Array.getElem?_eq_some_iff.1 hi).1
  have := h3 i f hi
  rw [List.getElem?_eq_getElem hlt] at this
  exact ⟨m, _, this⟩

theorem mapM_each {α β : Type} {f : α → Option β} {l : List α} {r : List β} (h : l.mapM f = some r) (i : Nat) (x : α) (hx : l[i]? = some x) : ∃ y, f x = some y := by
  have h1 := mapM_some_get h i x hx
  have h2 := mapM_some_length h
  have hl : i < l.length := (List.getElem?_eq_some_iff.1 hx).1
  rw [List.getElem?_eq_getElem (by omega)] at h1
  exact ⟨_, h1⟩

theorem rd_slice {t e : TypeId} {cs : List Value} (ht : P.underlying t = some (.slice e)) (h : Rd enc P w t cs) :
    cs = [.slice none 0 0] ∨ ∃ (a : Addr) (len cap : Nat), cs = [.slice (some a) len cap] ∧ len ≤ cap ∧ cap ≤ maxLen ∧
      ∀ i, i < cap → ∃ es, w.cells? 0 (a.add (i * P.cellsOf e)) (P.cellsOf e) = some es ∧ Rd enc P w e es := by
  obtain ⟨f, x, hf⟩ := h
  cases f with
  | zero => simp [DataW.trod] at hf
  | succ n =>
    unfold DataW.trod at hf
    rw [ht] at hf
    split at hf <;> (try (simp_all; done))
    rename_i e' a len cap he
    injection he with he; injection he with he; subst he
    right
    dsimp only at hf
    by_cases hc : 0 ≤ a.block ∧ len ≤ cap ∧ cap ≤ maxLen
    case neg => rw [if_neg hc] at hf; cases hf
    rw [if_pos hc] at hf
    simp only [Option.bind_eq_some_iff, Option.map_eq_some_iff, if_true] at hf
    obtain ⟨elems, h1, rest, h2, _⟩ := hf
    refine ⟨a, len, cap, rfl, hc.2.1, hc.2.2, fun i hi => ?_⟩
    have key : ∃ y, (w.cells? 0 (a.add (i * P.cellsOf e)) (P.cellsOf e)).bind (DataW.trod enc P w 0 (fun _ => true) true n e) = some y := by
      by_cases hl : i < len
      · exact mapM_each h1 i i (by rw [List.getElem?_range hl])
      · have := mapM_each h2 (i - len) (i - len) (by rw [List.getElem?_range (by omega)])
        rwa [show len + (i - len) = i from by omega] at this
    obtain ⟨y, hy⟩ := key
    obtain ⟨es, h3, h4⟩ := Option.bind_eq_some_iff.1 hy
    exact ⟨es, h3, n, y, h4⟩

/-- The cells of a row that could be read, one by one. -/
theorem cells_at {a : Addr} {n : Nat} {es : List Value} (h : w.cells? 0 a n = some es) : es.length = n ∧ ∀ j, j < n → w.cell? (a.add j) = es[j]? := by
  unfold World.cells? at h
  split at h
  · have hl := mapM_some_length h
    simp at hl
    exact ⟨hl, fun j hj => mapM_some_get h j j (by simp [hj])⟩
  · cases h

theorem agg_of {r : Reach} {b0 : Nat} {t : TypeId} {v : Value} (ht : (∃ fs, P.underlying t = some (.struct fs)) ∨ ∃ n e, P.underlying t = some (.array n e)) (h : Value.okWide P w r b0 t v) : ∃ cs, v = .agg cs := by
  rcases ht with ⟨fs, ht⟩ | ⟨n, e, ht⟩ <;> (simp only [Value.okWide, ht] at h; obtain ⟨cs, h1, _⟩ := h; exact ⟨cs, h1⟩)
theorem cells1 {v : Value} {c : Value} (h : v.cells.toList = [c]) (hn : ∀ cs, v ≠ .agg cs) : v = c := by
  cases v <;> simp_all [Value.cells]

theorem list_ofFn_get {α : Type} (l : List α) : ∀ (n : Nat), l.length = n → ∀ (R : α → Prop), (∀ i, i < n → ∀ x, l[i]? = some x → R x) → ∀ x ∈ l, R x := fun n hn R h x hx => by
  obtain ⟨i, hi, rfl⟩ := List.getElem_of_mem hx
  exact h i (by omega) _ (List.getElem?_eq_getElem hi)
theorem ints_of_list {k : IntKind} : ∀ (cs : List Value), (∀ c ∈ cs, ∃ n, c = .int k n ∧ (Lit.int k n).wf = true) → ∃ zs : List Int, cs = zs.map (.int k) ∧ ∀ z ∈ zs, (Lit.int k z).wf = true
  | [], _ => ⟨[], rfl, fun _ h => by cases h⟩
  | c :: cs, h => by
    obtain ⟨n, rfl, hn⟩ := h c (by simp)
    obtain ⟨zs, rfl, hz⟩ := ints_of_list cs (fun c hc => h c (by simp [hc]))
    exact ⟨n :: zs, rfl, fun z hz' => by rcases List.mem_cons.1 hz' with rfl | h'; exact hn; exact hz z h'⟩
theorem take1_drop {cs : List Value} {i : Nat} (h : i < cs.length) : (cs.drop i).take 1 = [cs[i]] := by
  rw [List.drop_eq_getElem_cons h]; rfl
/-- An array of integers. -/
theorem arr_ints {t e : TypeId} {n : Nat} {k : IntKind} {cs : List Value} (ht : P.underlying t = some (.array n e)) (he : P.underlying e = some (.int k)) (ce : P.cellsOf e = 1) (ct : P.cellsOf t = n)
    (h : Rd enc P w t cs) : ∃ zs : List Int, zs.length = n ∧ cs = zs.map (.int k) ∧ ∀ z ∈ zs, (Lit.int k z).wf = true := by
  obtain ⟨h1, h2⟩ := rd_array ht h
  rw [ct] at h1
  obtain ⟨zs, rfl, hz⟩ := ints_of_list (k := k) cs (list_ofFn_get cs n h1 _ fun i hi x hx => by
    have := h2 i hi
    rw [ce, Nat.mul_one, take1_drop (by omega)] at this
    obtain ⟨m, hm, hw⟩ := rd_int he this
    rw [List.getElem?_eq_getElem (by omega)] at hx
    injection hx with hx; injection hm with hm
    exact ⟨m, by rw [← hx, hm], hw⟩)
  exact ⟨zs, by simpa using h1, rfl, hz⟩
theorem list3 {α : Type} {l : List α} (h : l.length = 3) : ∃ a b c, l = [a, b, c] := by
  match l, h with
  | [a, b, c], _ => exact ⟨a, b, c, rfl⟩
theorem list2 {α : Type} {l : List α} (h : l.length = 2) : ∃ a b, l = [a, b] := by
  match l, h with
  | [a, b], _ => exact ⟨a, b, rfl⟩
/-- Three integers by value. -/
theorem open_arr3 {r : Reach} {b0 : Nat} {t e : TypeId} {k : IntKind} {v : Value} {d : DataW H} {ps : List MemPlace} (ht : P.underlying t = some (.array 3 e)) (he : P.underlying e = some (.int k)) (ce : P.cellsOf e = 1) (ct : P.cellsOf t = 3)
    (hv : Value.okWide P w r b0 t v) (h : DataW.Trod enc P w 0 (fun _ => true) true t v d ps) :
    ∃ a b c : Int, v = .agg #[.int k a, .int k b, .int k c] ∧ (Lit.int k a).wf = true ∧ (Lit.int k b).wf = true ∧ (Lit.int k c).wf = true := by
  obtain ⟨cs, rfl⟩ := agg_of (.inr ⟨_, _, ht⟩) hv
  obtain ⟨zs, hl, hc, hz⟩ := arr_ints ht he ce ct (rd_of_trod h)
  obtain ⟨a, b, c, rfl⟩ := list3 hl
  refine ⟨a, b, c, ?_, hz a (by simp), hz b (by simp), hz c (by simp)⟩
  congr 1
  exact Array.toList_inj.1 (by simpa [Value.cells] using hc)

/-- A struct of three integers, by value. -/
theorem open_int3 {r : Reach} {b0 : Nat} {t : TypeId} {k : IntKind} {f0 f1 f2 : Field} {v : Value} {d : DataW H} {ps : List MemPlace} (ht : P.underlying t = some (.struct #[f0, f1, f2]))
    (u0 : P.underlying f0.type = some (.int k)) (u1 : P.underlying f1.type = some (.int k)) (u2 : P.underlying f2.type = some (.int k)) (c0 : P.cellsOf f0.type = 1) (c1 : P.cellsOf f1.type = 1) (c2 : P.cellsOf f2.type = 1)
    (o0 : f0.offset = 0) (o1 : f1.offset = 1) (o2 : f2.offset = 2) (ct : P.cellsOf t = 3) (hv : Value.okWide P w r b0 t v) (h : DataW.Trod enc P w 0 (fun _ => true) true t v d ps) :
    ∃ a b c : Int, v = .agg #[.int k a, .int k b, .int k c] ∧ (Lit.int k a).wf = true ∧ (Lit.int k b).wf = true ∧ (Lit.int k c).wf = true := by
  obtain ⟨cs, rfl⟩ := agg_of (.inl ⟨_, ht⟩) hv
  obtain ⟨hl, hf⟩ := rd_struct ht (rd_of_trod h)
  rw [ct] at hl
  obtain ⟨x, y, z, hx⟩ := list3 hl
  have g0 := hf 0 f0 rfl
  have g1 := hf 1 f1 rfl
  have g2 := hf 2 f2 rfl
  rw [hx, o0, c0] at g0
  rw [hx, o1, c1] at g1
  rw [hx, o2, c2] at g2
  obtain ⟨a, ha, wa⟩ := rd_int u0 g0
  obtain ⟨b, hb, wb⟩ := rd_int u1 g1
  obtain ⟨c, hc, wc⟩ := rd_int u2 g2
  simp only [List.drop_zero, List.take_succ_cons, List.take_zero, List.cons.injEq, and_true, List.drop_succ_cons] at ha hb hc
  subst ha hb hc
  refine ⟨a, b, c, ?_, wa, wb, wc⟩
  congr 1
  exact Array.toList_inj.1 (by simpa [Value.cells] using hx)

/-- A row of elements that is not empty: where it lies, and that each element can be read. -/
theorem open_rows {t e : TypeId} {a0 : Option Addr} {len cap sz : Nat} (ht : P.underlying t = some (.slice e)) (ce : P.cellsOf e = sz) (hsz : 0 < sz) (h : Rd enc P w t (Value.slice a0 len cap).cells.toList) (hl : len ≠ 0) :
    ∃ b off : Nat, a0 = some ⟨b, off, .none⟩ ∧ b < w.heap.size ∧ len ≤ cap ∧ cap ≤ maxLen ∧
      ∀ i, i < cap → ∃ es, es.length = sz ∧ Rd enc P w e es ∧ ∀ j, j < sz → w.cell? ⟨b, off + i * sz + j, .none⟩ = es[j]? := by
  rcases rd_slice ht h with h0 | ⟨a, len', cap', h0, h1, h2, h3⟩
  · simp [Value.cells] at h0; omega
  · simp [Value.cells] at h0
    obtain ⟨rfl, rfl, rfl⟩ := h0
    rw [ce] at h3
    obtain ⟨b, off, spot⟩ := a
    have hspot : spot = none := by
      obtain ⟨es, h4, _⟩ := h3 0 (by omega)
      obtain ⟨h5, h6⟩ := cells_at h4
      have h7 := h6 0 hsz
      rw [List.getElem?_eq_getElem (by omega)] at h7
      simpa [Addr.add] using World.cell?_spot h7
    subst hspot
    have key : ∀ i, i < cap → ∃ es, es.length = sz ∧ Rd enc P w e es ∧ ∀ j, j < sz → w.cell? ⟨b, off + i * sz + j, .none⟩ = es[j]? := fun i hi => by
      obtain ⟨es, h4, h5⟩ := h3 i hi
      obtain ⟨h6, h7⟩ := cells_at h4
      exact ⟨es, h6, h5, fun j hj => by have := h7 j hj; simpa [add_plain, Nat.add_assoc] using this⟩
    refine ⟨b, off, rfl, ?_, h1, h2, key⟩
    obtain ⟨es, h6, _, h7⟩ := key 0 (by omega)
    have h8 := h7 0 hsz
    rw [List.getElem?_eq_getElem (by omega)] at h8
    exact cell_lt h8

/-- A row of integers that is not empty: where it lies, its numbers. -/
theorem open_ints_at {t e : TypeId} {a0 : Option Addr} {len cap : Nat} (ht : P.underlying t = some (.slice e)) (he : P.underlying e = some (.int .i64)) (ce : P.cellsOf e = 1) (h : Rd enc P w t (Value.slice a0 len cap).cells.toList) (hl : len ≠ 0) :
    ∃ (b off : Nat) (zs : List Int), a0 = some ⟨b, off, .none⟩ ∧ (len : Int) ≤ 9223372036854775807 ∧ len ≤ cap ∧ b < w.heap.size ∧ (∀ j, j < len → w.cell? ⟨b, off + j, .none⟩ = some (.int .i64 (zs.getD j 0))) ∧
      (∀ j, -9223372036854775808 ≤ zs.getD j 0 ∧ zs.getD j 0 ≤ 9223372036854775807) := by
  rcases rd_slice ht h with h0 | ⟨a, len', cap', h0, h1, h2, h3⟩
  · simp [Value.cells] at h0; omega
  · simp [Value.cells] at h0
    obtain ⟨rfl, rfl, rfl⟩ := h0
    have key : ∀ i, i < len → ∃ n, w.cell? (a.add i) = some (.int .i64 n) ∧ (Lit.int .i64 n).wf = true := fun i hi => by
      obtain ⟨es, h4, h5⟩ := h3 i (by omega)
      rw [ce, Nat.mul_one] at h4
      obtain ⟨n, rfl, hn⟩ := rd_int he h5
      exact ⟨n, cell_of_cells?_one h4, hn⟩
    let f : Nat → Int := fun i => match w.cell? (a.add i) with | some (.int _ n) => n | _ => 0
    have hf : ∀ i, i < len → w.cell? (a.add i) = some (.int .i64 (f i)) ∧ (Lit.int .i64 (f i)).wf = true := fun i hi => by
      obtain ⟨n, hn, hw⟩ := key i hi
      have : f i = n := by simp only [f, hn]
      rw [this]; exact ⟨hn, hw⟩
    have hgd : ∀ j, j < len → ((List.range len).map f).getD j 0 = f j := fun j hj => by simp [List.getD_eq_getElem?_getD, hj]
    have hints : ∀ i, i < ((List.range len).map f).length → w.cell? (a.add i) = some (.int .i64 (((List.range len).map f).getD i 0)) := fun i hi => by
      have hi' : i < len := by simpa using hi
      rw [hgd i hi']; exact (hf i hi').1
    obtain ⟨b, off, rfl, hc⟩ := ints_at hints (by simp; omega)
    refine ⟨b, off, (List.range len).map f, rfl, by simp only [maxLen] at h2; omega, h1, cell_lt (hc 0 (by simp; omega)), fun j hj => hc j (by simpa using hj), fun j => ?_⟩
    by_cases hj : j < len
    · rw [hgd j hj]; exact bounds_i64 (hf j hj).2
    · have : ((List.range len).map f).getD j 0 = 0 := by simp [List.getD_eq_getElem?_getD, hj]
      rw [this]; omega

theorem trodAll_below (hl : laidOutB P = true) {W W' : World} (hb : Below W.heap.size W W') : ∀ {ts : List TypeId} {vs : List Value} {ds : List (DataW H)} {ps : List MemPlace},
    (ts.all fun t => P.readableRec t && decide (t < P.types.size)) = true → (∀ x ∈ ps, x.block < W.heap.size) → DataW.TrodAll enc P W 0 (fun _ => true) true ts vs ds ps →
    DataW.TrodAll enc P W' 0 (fun b => decide (b < W.heap.size)) true ts vs ds ps
  | [], [], [], _, _, _, h => h
  | [], [], _ :: _, _, _, _, h => h.elim
  | [], _ :: _, _, _, _, _, h => h.elim
  | _ :: _, [], _, _, _, _, h => h.elim
  | _ :: _, _ :: _, [], _, _, _, h => h.elim
  | t :: ts, v :: vs, d :: ds, ps, ht, hp, h => by
    obtain ⟨p, q, h1, h2, rfl⟩ := h
    simp only [List.all_cons, Bool.and_eq_true, decide_eq_true_eq] at ht
    exact ⟨p, q, Below.trod hl ht.1.1 ht.1.2 h1 hb (fun x hx => hp x (by simp [hx])), trodAll_below hl hb ht.2 (fun x hx => hp x (by simp [hx])) h2, rfl⟩

/-- A LAW's end: true, and each argument reads as it read. -/
theorem law_post {f : Func} {s : ChangeSpec} {W W' : World} {args : Array Value} {ds gs : List (DataW H)} {before : List MemPlace} {tb : TypeId}
    (hl : laidOutB P = true) (hres : f.resultTypes = #[tb]) (hu : P.underlying tb = some .bool) (hv : s.vars = [])
    (hr : (f.params.toList.all fun t => P.readableRec t && decide (t < P.types.size)) = true)
    (hs : (s.fn H (ds ++ gs)).results = [.lit (.bool true)] ∧ (s.fn H (ds ++ gs)).args = ds ∧ (s.fn H (ds ++ gs)).vars = [])
    (hW : DataW.Whole enc P f.params.toList s.vars false W args.toList ds gs before) (hb : Below W.heap.size W W') :
    s.post enc P f false true false false W args (.bool true) W' := by
  have hW' := hW
  obtain ⟨p, q, hA, hV, rfl, hfz, _⟩ := hW
  rw [hv] at hV
  obtain ⟨rfl, rfl⟩ : gs = [] ∧ q = [] := by
    cases gs with
    | nil => exact ⟨rfl, hV⟩
    | cons _ _ => exact hV.elim
  have hlt : ∀ x ∈ p, x.block < W.heap.size := fun x hx => by simpa using hW'.lt x (by simp [hx])
  refine ⟨_, _, _, [], p, [], hW', ?_, ?_, ?_, hb.frame _, fun h => by cases h⟩
  · rw [hs.1, hres]; exact trodAll_mk1 (shut_bool hu _)
  · rw [hs.2.1]; exact trodAll_below hl hb hr hlt hA
  · rw [hs.2.2, hv]; rfl
end

end Go.Proofs.YtkeiehgojclecaaDoor
