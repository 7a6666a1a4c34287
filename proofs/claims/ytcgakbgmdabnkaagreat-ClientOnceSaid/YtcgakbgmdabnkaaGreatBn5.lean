/- Texts bound together: Open RwO WdsW EvP EvR. -/
import Derived.ProofKit

import Derived.OpenShut

import Derived.SizedLaws

import Derived.ChangeSlices

import Derived.Lib.Hide

import Derived.Test.YtcgakbgmdabnkaaGreatBn1

import Derived.Test.YtcgakbgmdabnkaaGreatBn3

import Derived.Test.YtcgakbgmdabnkaaGreatBn4

set_option linter.all false
/- Opening arguments by their types, and closing a law's row: whatever the law reads, reads behind the call as it did, if nothing that was there has turned. -/
namespace Go.Proofs.YtcgakbgmdabnkaaGreat

open Go.RowKit Go.ChangeShapes Go.WideShapes Go.ChangeAt

theorem own : ownKnob Tryz.prog.godebug = none := by kernel_rfl
theorem laidOut : laidOutB Tryz.prog = true := by kernel_rfl

section

variable {H : Type} {enc : TypeId × Value → H} {P : Program} {w : World}

/-- Cells that can be read as a datum of a type. -/
def Rd (enc : TypeId × Value → H) (P : Program) (w : World) (t : TypeId) (cs : List Value) : Prop := ∃ fuel x, DataW.trod enc P w 0 (fun _ => true) true fuel t cs = some x

theorem rd_of_trod {t : TypeId} {v : Value} {d : DataW H} {ps : List MemPlace} (h : DataW.Trod enc P w 0 (fun _ => true) true t v d ps) : Rd enc P w t v.cells.toList :=
  let ⟨f, hf⟩ := h
  ⟨f, _, hf⟩
theorem rd_int {t : TypeId} {k : IntKind} {cs : List Value} (ht : P.underlying t = some (.int k)) (h : Rd enc P w t cs) : ∃ n, cs = [.int k n] ∧ (Lit.int k n).wf = true := by
  obtain ⟨f, x, hf⟩ := h
  obtain ⟨n, h1, _, h2⟩ := DataW.trod_int ht hf
  exact ⟨n, h1, h2⟩
theorem rd_array {t : TypeId} {n : Nat} {e : TypeId} {cs : List Value} (ht : P.underlying t = some (.array n e)) (h : Rd enc P w t cs) :
    cs.length = P.cellsOf t ∧ ∀ i, i < n → Rd enc P w e ((cs.drop (i * P.cellsOf e)).take (P.cellsOf e)) := by
  obtain ⟨f, x, hf⟩ := h
  obtain ⟨xs, m, _, _, h1, h2, h3⟩ := DataW.trod_array ht hf
  refine ⟨h1, fun i hi => ?_⟩
  have := h3 i hi
  rw [List.getElem?_eq_getElem (by omega)] at this
  exact ⟨m, _, this⟩
theorem rd_struct {t : TypeId} {fs : Array Field} {cs : List Value} (ht : P.underlying t = some (.struct fs)) (h : Rd enc P w t cs) :
    cs.length = P.cellsOf t ∧ ∀ (i : Nat) (f : Field), fs[i]? = some f → Rd enc P w f.type ((cs.drop f.offset).take (P.cellsOf f.type)) := by
  obtain ⟨f, x, hf⟩ := h
  obtain ⟨xs, m, _, _, h1, h2, h3⟩ := DataW.trod_struct ht hf
  refine ⟨h1, fun i f hi => ?_⟩
  have hlt : i < xs.length := by rw [h2]; exact (Array.getElem?_eq_some_iff.1 hi).1
  have := h3 i f hi
  rw [List.getElem?_eq_getElem hlt] at this
  exact ⟨m, _, this⟩

theorem mapM_each {α β : Type} {f : α → Option β} {l : List α} {r : List β} (h : l.mapM f = some r) (i : Nat) (x : α) (hx : l[i]? = some x) : ∃ y, f x = some y := by
  have h1 := mapM_some_get h i x hx
  have h2 := mapM_some_length h
  have hl : i < l.length := (List.getElem?_eq_some_iff.1 hx).1
  rw [List.getElem?_eq_getElem (by omega)] at h1
  exact ⟨_, h1⟩

theorem rd_slice {t e : TypeId} {cs : List Value} (ht : P.underlying t = some (.slice e)) (h : Rd enc P w t cs) :
    cs = [.slice none 0 0] ∨ ∃ (a : Addr) (len cap : Nat), cs = [.slice (some a) len cap] ∧ len ≤ cap ∧ cap ≤ maxLen ∧
      ∀ i, i < cap → ∃ es, w.cells? 0 (a.add (i * P.cellsOf e)) (P.cellsOf e) = some es ∧ Rd enc P w e es := by
  obtain ⟨f, x, hf⟩ := h
  cases f with
  | zero => simp [DataW.trod] at hf
  | succ n =>
    unfold DataW.trod at hf
    rw [ht] at hf
    split at hf <;> (try (simp_all; done))
    rename_i e' a len cap he
    injection he with he; injection he with he; subst he
    right
    dsimp only at hf
    by_cases hc : 0 ≤ a.block ∧ len ≤ cap ∧ cap ≤ maxLen
    case neg => rw [if_neg hc] at hf; cases hf
    rw [if_pos hc] at hf
    simp only [Option.bind_eq_some_iff, Option.map_eq_some_iff, if_true] at hf
    obtain ⟨elems, h1, rest, h2, _⟩ := hf
    refine ⟨a, len, cap, rfl, hc.2.1, hc.2.2, fun i hi => ?_⟩
    have key : ∃ y, (w.cells? 0 (a.add (i * P.cellsOf e)) (P.cellsOf e)).bind (DataW.trod enc P w 0 (fun _ => true) true n e) = some y := by
      by_cases hl : i < len
      · exact mapM_each h1 i i (by rw [List.getElem?_range hl])
      · have := mapM_each h2 (i - len) (i - len) (by rw [List.getElem?_range (by omega)])
        rwa [show len + (i - len) = i from by omega] at this
    obtain ⟨y, hy⟩ := key
    obtain ⟨es, h3, h4⟩ := Option.bind_eq_some_iff.1 hy
    exact ⟨es, h3, n, y, h4⟩

/-- The cells of a row that could be read, one by one. -/
theorem cells_at {a : Addr} {n : Nat} {es : List Value} (h : w.cells? 0 a n = some es) : es.length = n ∧ ∀ j, j < n → w.cell? (a.add j) = es[j]? := by
  unfold World.cells? at h
  split at h
  · have hl := mapM_some_length h
    simp at hl
    exact ⟨hl, fun j hj => mapM_some_get h j j (by simp [hj])⟩
  · cases h

theorem agg_of {r : Reach} {b0 : Nat} {t : TypeId} {v : Value} (ht : (∃ fs, P.underlying t = some (.struct fs)) ∨ ∃ n e, P.underlying t = some (.array n e)) (h : Value.okWide P w r b0 t v) : ∃ cs, v = .agg cs := by
  rcases ht with ⟨fs, ht⟩ | ⟨n, e, ht⟩ <;> (simp only [Value.okWide, ht] at h; obtain ⟨cs, h1, _⟩ := h; exact ⟨cs, h1⟩)
theorem list3 {α : Type} {l : List α} (h : l.length = 3) : ∃ a b c, l = [a, b, c] := by
  match l, h with
  | [a, b, c], _ => exact ⟨a, b, c, rfl⟩
/-- A struct of three integers, by value. -/
theorem open_int3 {r : Reach} {b0 : Nat} {t : TypeId} {k : IntKind} {f0 f1 f2 : Field} {v : Value} {d : DataW H} {ps : List MemPlace} (ht : P.underlying t = some (.struct #[f0, f1, f2]))
    (u0 : P.underlying f0.type = some (.int k)) (u1 : P.underlying f1.type = some (.int k)) (u2 : P.underlying f2.type = some (.int k)) (c0 : P.cellsOf f0.type = 1) (c1 : P.cellsOf f1.type = 1) (c2 : P.cellsOf f2.type = 1)
    (o0 : f0.offset = 0) (o1 : f1.offset = 1) (o2 : f2.offset = 2) (ct : P.cellsOf t = 3) (hv : Value.okWide P w r b0 t v) (h : DataW.Trod enc P w 0 (fun _ => true) true t v d ps) :
    ∃ a b c : Int, v = .agg #[.int k a, .int k b, .int k c] ∧ (Lit.int k a).wf = true ∧ (Lit.int k b).wf = true ∧ (Lit.int k c).wf = true := by
  obtain ⟨cs, rfl⟩ := agg_of (.inl ⟨_, ht⟩) hv
  obtain ⟨hl, hf⟩ := rd_struct ht (rd_of_trod h)
  rw [ct] at hl
  obtain ⟨x, y, z, hx⟩ := list3 hl
  have g0 := hf 0 f0 rfl
  have g1 := hf 1 f1 rfl
  have g2 := hf 2 f2 rfl
  rw [hx, o0, c0] at g0
  rw [hx, o1, c1] at g1
  rw [hx, o2, c2] at g2
  obtain ⟨a, ha, wa⟩ := rd_int u0 g0
  obtain ⟨b, hb, wb⟩ := rd_int u1 g1
  obtain ⟨c, hc, wc⟩ := rd_int u2 g2
  simp only [List.drop_zero, List.take_succ_cons, List.take_zero, List.cons.injEq, and_true, List.drop_succ_cons] at ha hb hc
  subst ha hb hc
  refine ⟨a, b, c, ?_, wa, wb, wc⟩
  congr 1
  exact Array.toList_inj.1 (by simpa [Value.cells] using hx)

/-- A row of elements that is not empty: where it lies, and that each element can be read. -/
theorem open_rows {t e : TypeId} {a0 : Option Addr} {len cap sz : Nat} (ht : P.underlying t = some (.slice e)) (ce : P.cellsOf e = sz) (hsz : 0 < sz) (h : Rd enc P w t (Value.slice a0 len cap).cells.toList) (hl : len ≠ 0) :
    ∃ b off : Nat, a0 = some ⟨b, off, .none⟩ ∧ b < w.heap.size ∧ len ≤ cap ∧ cap ≤ maxLen ∧
      ∀ i, i < cap → ∃ es, es.length = sz ∧ Rd enc P w e es ∧ ∀ j, j < sz → w.cell? ⟨b, off + i * sz + j, .none⟩ = es[j]? := by
  rcases rd_slice ht h with h0 | ⟨a, len', cap', h0, h1, h2, h3⟩
  · simp [Value.cells] at h0; omega
  · simp [Value.cells] at h0
    obtain ⟨rfl, rfl, rfl⟩ := h0
    rw [ce] at h3
    obtain ⟨b, off, spot⟩ := a
    have hspot : spot = none := by
      obtain ⟨es, h4, _⟩ := h3 0 (by omega)
      obtain ⟨h5, h6⟩ := cells_at h4
      have h7 := h6 0 hsz
      rw [List.getElem?_eq_getElem (by omega)] at h7
      simpa [Addr.add] using World.cell?_spot h7
    subst hspot
    have key : ∀ i, i < cap → ∃ es, es.length = sz ∧ Rd enc P w e es ∧ ∀ j, j < sz → w.cell? ⟨b, off + i * sz + j, .none⟩ = es[j]? := fun i hi => by
      obtain ⟨es, h4, h5⟩ := h3 i hi
      obtain ⟨h6, h7⟩ := cells_at h4
      exact ⟨es, h6, h5, fun j hj => by have := h7 j hj; simpa [add_plain, Nat.add_assoc] using this⟩
    refine ⟨b, off, rfl, ?_, h1, h2, key⟩
    obtain ⟨es, h6, _, h7⟩ := key 0 (by omega)
    have h8 := h7 0 hsz
    rw [List.getElem?_eq_getElem (by omega)] at h8
    exact cell_lt h8

theorem trodAll_below (hl : laidOutB P = true) {W W' : World} (hb : Below W.heap.size W W') : ∀ {ts : List TypeId} {vs : List Value} {ds : List (DataW H)} {ps : List MemPlace},
    (ts.all fun t => P.readableRec t && decide (t < P.types.size)) = true → (∀ x ∈ ps, x.block < W.heap.size) → DataW.TrodAll enc P W 0 (fun _ => true) true ts vs ds ps →
    DataW.TrodAll enc P W' 0 (fun b => decide (b < W.heap.size)) true ts vs ds ps
  | [], [], [], _, _, _, h => h
  | [], [], _ :: _, _, _, _, h => h.elim
  | [], _ :: _, _, _, _, _, h => h.elim
  | _ :: _, [], _, _, _, _, h => h.elim
  | _ :: _, _ :: _, [], _, _, _, h => h.elim
  | t :: ts, v :: vs, d :: ds, ps, ht, hp, h => by
    obtain ⟨p, q, h1, h2, rfl⟩ := h
    simp only [List.all_cons, Bool.and_eq_true, decide_eq_true_eq] at ht
    exact ⟨p, q, Below.trod hl ht.1.1 ht.1.2 h1 hb (fun x hx => hp x (by simp [hx])), trodAll_below hl hb ht.2 (fun x hx => hp x (by simp [hx])) h2, rfl⟩

/-- A LAW's end: true, and each argument reads as it read. -/
theorem law_post {f : Func} {s : ChangeSpec} {W W' : World} {args : Array Value} {ds gs : List (DataW H)} {before : List MemPlace} {tb : TypeId}
    (hl : laidOutB P = true) (hres : f.resultTypes = #[tb]) (hu : P.underlying tb = some .bool) (hv : s.vars = [])
    (hr : (f.params.toList.all fun t => P.readableRec t && decide (t < P.types.size)) = true)
    (hs : (s.fn H (ds ++ gs)).results = [.lit (.bool true)] ∧ (s.fn H (ds ++ gs)).args = ds ∧ (s.fn H (ds ++ gs)).vars = [])
    (hW : DataW.Whole enc P f.params.toList s.vars false W args.toList ds gs before) (hb : Below W.heap.size W W') :
    s.post enc P f false true false false W args (.bool true) W' := by
  have hW' := hW
  obtain ⟨p, q, hA, hV, rfl, hfz, _⟩ := hW
  rw [hv] at hV
  obtain ⟨rfl, rfl⟩ : gs = [] ∧ q = [] := by
    cases gs with
    | nil => exact ⟨rfl, hV⟩
    | cons _ _ => exact hV.elim
  have hlt : ∀ x ∈ p, x.block < W.heap.size := fun x hx => by simpa using hW'.lt x (by simp [hx])
  refine ⟨_, _, _, [], p, [], hW', ?_, ?_, ?_, hb.frame _, fun h => by cases h⟩
  · rw [hs.1, hres]; exact trodAll_mk1 (shut_bool hu _)
  · rw [hs.2.1]; exact trodAll_below hl hb hr hlt hA
  · rw [hs.2.2, hv]; rfl
end

end Go.Proofs.YtcgakbgmdabnkaaGreat
/- Opening an argument that is a slice: it reads as a list of what its elements are. -/
namespace Go.Proofs.YtcgakbgmdabnkaaGreat

open Go.RowKit Go.ChangeShapes Go.WideShapes Go.ChangeAt

theorem flatF_length {α : Type} (f : α → List Value) (sz : Nat) (hf : ∀ a, (f a).length = sz) (xs : List α) : (xs.flatMap f).length = xs.length * sz := by
  induction xs with
  | nil => simp
  | cons x xs ih => rw [List.flatMap_cons, List.length_append, hf, ih, List.length_cons, Nat.add_mul, Nat.one_mul, Nat.add_comm]
theorem flatF_get {α : Type} (f : α → List Value) (sz : Nat) (hf : ∀ a, (f a).length = sz) (xs : List α) (i j : Nat) (hi : i < xs.length) (hj : j < sz) : (xs.flatMap f)[i * sz + j]? = (f xs[i])[j]? := by
  induction xs generalizing i with
  | nil => simp at hi
  | cons x xs ih =>
    rw [List.flatMap_cons]
    cases i with
    | zero => rw [List.getElem?_append_left (by rw [hf]; omega)]; simp
    | succ i =>
      rw [List.getElem?_append_right (by rw [hf, Nat.add_mul, Nat.one_mul]; omega), hf, show (i + 1) * sz + j - sz = i * sz + j from by rw [Nat.add_mul, Nat.one_mul]; omega]
      simpa using ih i (by simpa using hi)
theorem flatF_one {α : Type} (f : α → Value) (xs : List α) : xs.flatMap (fun a => [f a]) = xs.map f := by
  induction xs with
  | nil => rfl
  | cons x xs ih => rw [List.flatMap_cons, ih]; rfl

section

variable {H : Type} {enc : TypeId × Value → H} {P : Program} {w : World}

theorem open_list {α : Type} (f : α → List Value) (good : α → Prop) {t e : TypeId} {v : Value} {sz : Nat} (ht : P.underlying t = some (.slice e)) (ce : P.cellsOf e = sz) (hsz : 0 < sz) (hf : ∀ a, (f a).length = sz)
    (hα : ∀ es, es.length = sz → Rd enc P w e es → ∃ a, f a = es ∧ good a) {r : Reach} {b0 : Nat} {d : DataW H} {ps : List MemPlace} (hv : Value.okWide P w r b0 t v) (h0 : DataW.Trod enc P w 0 (fun _ => true) true t v d ps) :
    ∃ xs : List α, RdS w sz v xs.length (xs.flatMap f) ∧ ∀ a ∈ xs, good a := by
  obtain ⟨a0, len, cap, rfl⟩ := okWide_slice ht hv
  have h := rd_of_trod h0
  by_cases hl : len = 0
  · subst hl
    refine ⟨[], ?_, fun a ha => by cases ha⟩
    have hcap : cap ≤ maxLen := by
      rcases rd_slice ht h with h0 | ⟨a, len', cap', h0, h1, h2, h3⟩
      · simp [Value.cells] at h0
        omega
      · simp [Value.cells] at h0
        obtain ⟨rfl, _, rfl⟩ := h0
        exact h2
    exact ⟨a0, cap, rfl, Nat.zero_le _, by simp only [maxLen] at hcap; omega, by simp, fun h => absurd rfl h⟩
  · obtain ⟨b, off, rfl, hb, hcap, hmax, hes⟩ := open_rows ht ce hsz h hl
    have key : ∀ i : Fin len, ∃ a, good a ∧ ∀ j, j < sz → w.cell? ⟨b, off + i * sz + j, .none⟩ = (f a)[j]? := fun i => by
      obtain ⟨es, h1, h2, h3⟩ := hes i (by have := i.2; omega)
      obtain ⟨a, rfl, hg⟩ := hα es h1 h2
      exact ⟨a, hg, h3⟩
    let xs : List α := List.ofFn fun i : Fin len => Classical.choose (key i)
    have hxl : xs.length = len := List.length_ofFn
    have hxi : ∀ i (hi : i < xs.length), xs[i] = Classical.choose (key ⟨i, hxl ▸ hi⟩) := fun i hi => List.getElem_ofFn _
    refine ⟨xs, ?_, fun a ha => ?_⟩
    · rw [hxl]
      refine ⟨_, cap, rfl, hcap, by simp only [maxLen] at hmax; omega, by rw [flatF_length f sz hf, hxl], fun _ => ⟨b, off, rfl, hb, fun i hi => ?_⟩⟩
      have h1 : i / sz < xs.length := by rw [hxl]; exact Nat.div_lt_of_lt_mul (by rw [Nat.mul_comm]; exact hi)
      have h2 := (Classical.choose_spec (key ⟨i / sz, hxl ▸ h1⟩)).2 (i % sz) (Nat.mod_lt _ hsz)
      have h3 := flatF_get f sz hf xs (i / sz) (i % sz) h1 (Nat.mod_lt _ hsz)
      rw [← hxi _ h1, ← h3] at h2
      have e0 : i / sz * sz + i % sz = i := by rw [Nat.mul_comm]; exact Nat.div_add_mod i sz
      have h4 : w.cell? ⟨b, off + i / sz * sz + i % sz, .none⟩ = (xs.flatMap f)[i / sz * sz + i % sz]? := h2
      rw [Nat.add_assoc, e0] at h4
      exact h4
    · obtain ⟨i, hi, rfl⟩ := List.getElem_of_mem ha
      rw [hxi i hi]
      exact (Classical.choose_spec (key ⟨i, hxl ▸ hi⟩)).1

/-- A slice of integers. -/
def RdZ (k : IntKind) (w : World) (v : Value) (zs : List Int) : Prop := RdS w 1 v zs.length (zs.map (.int k))
def RdBo (w : World) (v : Value) (l : List Bool) : Prop := RdS w 1 v l.length (l.map .bool)
theorem open_zs {t e : TypeId} {k : IntKind} {v : Value} (ht : P.underlying t = some (.slice e)) (he : P.underlying e = some (.int k)) (ce : P.cellsOf e = 1)
    {r : Reach} {b0 : Nat} {d : DataW H} {ps : List MemPlace} (hv : Value.okWide P w r b0 t v) (h0 : DataW.Trod enc P w 0 (fun _ => true) true t v d ps) : ∃ zs : List Int, RdZ k w v zs ∧ ∀ z ∈ zs, (Lit.int k z).wf = true := by
  obtain ⟨xs, h1, h2⟩ := open_list (fun z : Int => [Value.int k z]) (fun z => (Lit.int k z).wf = true) ht ce (by omega) (fun _ => rfl) (fun es h1 h2 => by
    obtain ⟨n, rfl, hn⟩ := rd_int he h2
    exact ⟨n, rfl, hn⟩) hv h0
  rw [flatF_one] at h1
  exact ⟨xs, h1, h2⟩
end

theorem RdZ.cells {k : IntKind} {w : World} {v : Value} {zs : List Int} (h : RdZ k w v zs) : ∃ ao cap, v = .slice ao zs.length cap ∧ zs.length ≤ cap ∧ (cap : Int) ≤ 9223372036854775807 ∧
    (zs ≠ [] → ∃ b off, ao = some ⟨b, off, .none⟩ ∧ b < w.heap.size ∧ ∀ i (hi : i < zs.length), w.cell? ⟨b, off + i, .none⟩ = some (.int k zs[i])) := by
  obtain ⟨ao, cap, e, h1, h2, _, h4⟩ := h
  refine ⟨ao, cap, e, h1, h2, fun hn => ?_⟩
  obtain ⟨b, off, ea, hlt, hc⟩ := h4 (fun h => hn (List.eq_nil_of_length_eq_zero h))
  refine ⟨b, off, ea, hlt, fun i hi => (hc i (by omega)).trans ?_⟩
  simp [hi]
theorem RdBo.cells {w : World} {v : Value} {zs : List Bool} (h : RdBo w v zs) : ∃ ao cap, v = .slice ao zs.length cap ∧ zs.length ≤ cap ∧ (cap : Int) ≤ 9223372036854775807 ∧
    (zs ≠ [] → ∃ b off, ao = some ⟨b, off, .none⟩ ∧ b < w.heap.size ∧ ∀ i (hi : i < zs.length), w.cell? ⟨b, off + i, .none⟩ = some (.bool zs[i])) := by
  obtain ⟨ao, cap, e, h1, h2, _, h4⟩ := h
  refine ⟨ao, cap, e, h1, h2, fun hn => ?_⟩
  obtain ⟨b, off, ea, hlt, hc⟩ := h4 (fun h => hn (List.eq_nil_of_length_eq_zero h))
  refine ⟨b, off, ea, hlt, fun i hi => (hc i (by omega)).trans ?_⟩
  simp [hi]
theorem RdZ.below {k : IntKind} {w w' : World} {v : Value} {zs : List Int} (h : RdZ k w v zs) (hb : Below w.heap.size w w') : RdZ k w' v zs := RdS.below h hb
theorem RdBo.below {w w' : World} {v : Value} {zs : List Bool} (h : RdBo w v zs) (hb : Below w.heap.size w w') : RdBo w' v zs := RdS.below h hb
end Go.Proofs.YtcgakbgmdabnkaaGreat
/- The shared words in memory: they are made, read, changed without an access. -/
namespace Go.Proofs.YtcgakbgmdabnkaaGreat

open Go.RowKit

attribute [local go_sem ↓] Go.wp_at_zero Go.wp_at_succ

theorem infoUw : (Tryz.prog.info? 76).map (fun i => (i.zero, i.size, i.bytes)) = some (some (.int .u64 0), 1, 8) := by kernel_rfl
theorem make_wds (n : Nat) (hn : n ≤ 100000) : ∀ u : World, (Instr.makeSlice 24 (.int .i64 (n : Int)) (.int .i64 (n : Int))).run Tryz.prog u = .ok (.slice (some ⟨u.heap.size, 0, .none⟩) n n) (u.alloc (.cells (madeCells #[.int .u64 0] n) 76)) := fun u => by
  obtain ⟨i0, hi, hz0, hz1, hz2⟩ := info_parts infoUw
  have h := run_make (P := Tryz.prog) u 24 76 i0 (.int .u64 0) Tryz.underlying24 hi hz0 .i64 .i64 (n : Int) (n : Int) (by omega) (Int.le_refl _) (by rw [hz2]; omega) (by omega)
  rw [Int.toNat_natCast] at h
  simpa [hz1, Value.cells] using h
/-- Words that are all nought. -/
def memNew (n : Nat) : Mem := ⟨List.replicate n 0, 0, ⟨0, 0, 0, 0, 0, false⟩⟩
theorem rowW_new (n : Nat) : madeCells #[.int .u64 0] n = rowW (List.replicate n 0) := by
  apply Array.toList_inj.1
  rw [toList_madeCells_one]
  simp [rowW]
theorem memNew_fit (n : Nat) : (memNew n).fit := fun x hx => by
  rw [List.eq_of_mem_replicate hx]; exact ⟨by decide, by decide⟩
theorem wnew_any (n : Nat) (hn : n ≤ 2000) (w : World) :
    Calls Tryz.prog 41 #[.int .i64 (n : Int)] w fun e w' => ∃ p b, e = .returned (.pointer (some ⟨p, 0, .none⟩)) ∧ WdsAt w' p b (memNew n) ∧ w.heap.size ≤ p ∧ w.heap.size ≤ b ∧ Below w.heap.size w w' := by
  have hmk := make_wds n (by omega)
  have h1 : decide ((n : Int) < 0) = false := decide_eq_false (by omega)
  have h2 : decide ((2000 : Int) < (n : Int)) = false := decide_eq_false (by omega)
  go_enter Tryz.func41, Tryz.ntmps41
  go_wp2_with fail
  go_returns
  refine ⟨_, w.heap.size, rfl, ⟨by simp, ?_, ?_, memNew_fit n, by simp [memNew]; omega, by simp [memNew]⟩, by simp, Nat.le_refl _, ?_⟩
  · have h := heap_alloc_new (w.alloc (.cells (madeCells #[.int .u64 0] n) 76)) (.cells (memCells w.heap.size (memNew n)) 123)
    simpa [memCells, memNew] using h
  · have h := heap_alloc_new w (.cells (madeCells #[.int .u64 0] n) 76)
    rw [rowW_new] at h
    have h2 := RowAt.alloc (T := 76) h (.cells (memCells w.heap.size (memNew n)) 123)
    simpa [memCells, memNew, RowAt, rowW_new] using h2
  · exact ((Below.refl _ _).alloc (Nat.le_refl _) _).alloc (by simp) _
theorem wput_any (p b : Nat) (m : Mem) (a x : Int) (w : World) (h : WdsAt w p b m) (ha : m.has a) (hx : 0 ≤ x ∧ x < 18446744073709551616) :
    Calls Tryz.prog 42 #[.pointer (some ⟨p, 0, .none⟩), .int .i64 a, .int .u64 x] w fun e w' => e = .returned (.bool true) ∧ WdsAt w' p b ⟨m.ws.set a.toNat x, m.st, m.la⟩ ∧ Only (fun k => k = b) w w' := by
  have h1 := Lib.hid (win_any p b m a w h ha)
  have hput := Lib.hid (h.put ha hx)
  obtain ⟨n, hn, hn'⟩ : ∃ n, Hid (n = m.ws.length) ∧ n = m.ws.length := ⟨_, Lib.hid rfl, rfl⟩
  have x0 : w.cell? ⟨p, 0, .none⟩ = some (.slice (some ⟨b, 0, .none⟩) n n) := by rw [hn']; exact rowCells h.blk 0
  have y0 := h.cell ha
  have yf := rowFree h.row
  have a0 : (0 : Int) ≤ a := ha.1
  have a1 : a < (n : Int) := by rw [hn']; exact ha.2
  clear hn' h ha
  go_enter Tryz.func42, Tryz.ntmps42
  go_wp2_with (go_at_call 99; refine h1.out.mono ?_; rintro r w1 ⟨rfl, hw1⟩; obtain rfl := hw1.symm)
  go_returns
  exact ⟨rfl, hput.out, Only.setCell (F := fun k => k = b) (Only.refl _ _) (.inl rfl) _⟩
theorem wsteps_any (p b : Nat) (m : Mem) (w : World) (h : WdsAt w p b m) :
    Calls Tryz.prog 16 #[.pointer (some ⟨p, 0, .none⟩)] w fun e w' => e = .returned (.int .i64 m.st) ∧ w' = w := by
  have x0 : w.cell? ⟨p, 1, .none⟩ = some (.int .i64 m.st) := rowCells h.blk 1
  clear h
  go_enter Tryz.func16, Tryz.ntmps16
  go_wp2_with fail
  go_returns
  exact ⟨rfl, rfl⟩
theorem clone_us (xs : List Int) (v : Value) (w : World) (hr : RdS w 1 v xs.length (xs.map (Value.int .u64))) (hlen : xs.length ≤ 2000) :
    Calls Tryz.prog 56 #[v] w fun e w' => ∃ v', e = .returned v' ∧ Below w.heap.size w w' ∧ w'.ownsRow w.heap.size 76 1 v' xs.length (xs.map (Value.int .u64)) := by
  obtain ⟨ao, cap, rfl, hcap, hcm, hl, hrow⟩ := id hr
  have heq : ∀ W : World, (binOp .eql 24 (.slice ao xs.length cap) (.slice none 0 0)).run Tryz.prog W = .ok (.bool ao.isNone) W := fun W => Lib.run_eql_slice_nil W _ _ ao _ _ _ _ Tryz.underlying24
  rcases ao with _ | ad
  · have hn : xs = [] := by
      rcases xs with _ | ⟨b, l⟩
      · rfl
      · obtain ⟨_, _, h, _⟩ := hrow (by simp); cases h
    subst hn
    replace heq : ∀ W : World, (binOp .eql 24 (.slice none 0 cap) (.slice none 0 0)).run Tryz.prog W = .ok (.bool true) W := heq
    show Calls Tryz.prog 56 #[.slice none 0 cap] w _
    go_enter Tryz.func56, Tryz.ntmps56
    go_wp2
    go_ret
    exact ⟨_, rfl, Below.refl _ _, ⟨rfl, .inl ⟨rfl, rfl⟩⟩⟩
  · obtain ⟨i0, hi0, hz0, hz1, hz2⟩ := info_parts infoUw
    have own0 : (w.alloc (.cells #[] 76)).ownsRow w.heap.size 76 1 (.slice (some ⟨w.heap.size, 0, .none⟩) 0 0) 0 [] := World.ownsRow_lit w #[] 0 (Nat.le_refl _) (Nat.zero_le _) rfl
    have hr1 : RdS (w.alloc (.cells #[] 76)) 1 (.slice (some ad) xs.length cap) xs.length (xs.map (Value.int .u64)) := RdS.alloc hr _
    go_enter Tryz.func56, Tryz.ntmps56
    go_wp2_with (refine wpList_append_rd rfl (.tmp 5) (.tmp 6) 24 rfl w.heap.size 76 i0 _ 1 8 Tryz.underlying24 hi0 hz0 hz1 hz2 rfl (by omega) _ 0 [] rfl own0 _ xs.length (xs.map (Value.int .u64)) rfl hr1 (by intro c hc; obtain ⟨x, _, rfl⟩ := List.mem_map.1 hc; rfl) (by simp only [maxLen]; omega) (by omega) (by simp) ?_; intro v1 w1 hown1 hgrow1 hat1; have hb1 := grown_belowS ((Below.refl w.heap.size w).alloc (Nat.le_refl _) _) own0 (by simp) hgrow1)
    go_ret
    rw [Nat.zero_add, List.nil_append] at hown1
    exact ⟨_, rfl, hb1, hown1⟩
theorem WdsAt.rd {w : World} {p b : Nat} {m : Mem} (h : WdsAt w p b m) : RdS w 1 (.slice (some ⟨b, 0, .none⟩) m.ws.length m.ws.length) m.ws.length (m.ws.map (Value.int .u64)) := by
  have h2 := RdS.new (sz := 1) (n := m.ws.length) h.row (by simp [rowW]) (by have := h.few; omega)
  simpa [rowW] using h2
theorem wall_any (p b : Nat) (m : Mem) (w : World) (h : WdsAt w p b m) :
    Calls Tryz.prog 19 #[.pointer (some ⟨p, 0, .none⟩)] w fun e w' => ∃ v', e = .returned v' ∧ Below w.heap.size w w' ∧ w'.ownsRow w.heap.size 76 1 v' m.ws.length (m.ws.map (Value.int .u64)) := by
  have x0 : w.cell? ⟨p, 0, .none⟩ = some (.slice (some ⟨b, 0, .none⟩) m.ws.length m.ws.length) := rowCells h.blk 0
  have hc := Lib.hid (clone_us m.ws _ w h.rd h.few)
  go_enter Tryz.func19, Tryz.ntmps19
  go_wp2_with (go_at_call 56; refine hc.out.mono ?_; rintro e w1 ⟨v1, rfl, hb1, ho1⟩)
  go_ret
  exact ⟨_, rfl, hb1, ho1⟩
end Go.Proofs.YtcgakbgmdabnkaaGreat
/- An event of a history. Plain. -/
namespace Go.Proofs.YtcgakbgmdabnkaaGreat

/-- An event: kind, client, its operation (kind, place, words), place, words, error. -/
structure Ev where
  k : Int
  c : Int
  ok : Int
  oa : Int
  on : Int
  at' : Int
  n : Int
  er : Int
  deriving DecidableEq
def Ev.cells (e : Ev) : Array Value := #[.int .i64 e.k, .int .i64 e.c, .int .i64 e.ok, .int .i64 e.oa, .int .i64 e.on, .int .i64 e.at', .int .i64 e.n, .int .i64 e.er]
def Ev.val (e : Ev) : Value := .agg e.cells
end Go.Proofs.YtcgakbgmdabnkaaGreat
/- A slice of events in memory. -/
namespace Go.Proofs.YtcgakbgmdabnkaaGreat

open Go.RowKit

/-- A slice of events. -/
def RdE (w : World) (v : Value) (es : List Ev) : Prop := RdS w 8 v es.length (es.flatMap fun e => e.cells.toList)
theorem evC_len (e : Ev) : e.cells.toList.length = 8 := rfl
theorem RdE.below {w w' : World} {v : Value} {es : List Ev} (h : RdE w v es) (hb : Below w.heap.size w w') : RdE w' v es := RdS.below h hb
theorem RdE.nth {w : World} {v : Value} {es : List Ev} (h : RdE w v es) : ∃ ao cap, v = .slice ao es.length cap ∧ es.length ≤ cap ∧ (cap : Int) ≤ 9223372036854775807 ∧
    (es ≠ [] → ∃ b off, ao = some ⟨b, off, .none⟩ ∧ b < w.heap.size ∧ ∀ i (hi : i < es.length) j, j < 8 → w.cell? ⟨b, off + i * 8 + j, .none⟩ = (es[i]).cells.toList[j]?) := by
  obtain ⟨ao, cap, e, h1, h2, h3, h4⟩ := h
  refine ⟨ao, cap, e, h1, h2, fun hn => ?_⟩
  obtain ⟨b, off, e2, h5, h6⟩ := h4 (fun e => hn (List.eq_nil_of_length_eq_zero e))
  refine ⟨b, off, e2, h5, fun i hi j hj => ?_⟩
  rw [Nat.add_assoc, h6 _ (by omega)]
  exact flatF_get (fun e : Ev => e.cells.toList) 8 evC_len es i j hi hj
theorem RdE.take {w : World} {ao : Option Addr} {cap : Nat} {es : List Ev} (h : RdE w (.slice ao es.length cap) es) (n : Nat) (hn : n ≤ es.length) : RdE w (cutV ao 0 n cap 8) (es.take n) := by
  have hc := RdS.cut (l := 0) (h := n) h (Nat.zero_le _) hn
  unfold RdE
  have hl : (es.take n).length = n := by rw [List.length_take]; omega
  rw [hl]
  have e : (es.take n).flatMap (fun e => e.cells.toList) = ((es.flatMap fun e => e.cells.toList).drop (0 * 8)).take ((n - 0) * 8) := by
    rw [Nat.zero_mul, List.drop_zero, Nat.sub_zero]
    have h2 : es.flatMap (fun e => e.cells.toList) = (es.take n).flatMap (fun e => e.cells.toList) ++ (es.drop n).flatMap (fun e => e.cells.toList) := by
      rw [← List.flatMap_append, List.take_append_drop]
    have h3 : ((es.take n).flatMap (fun e => e.cells.toList)).length = n * 8 := by
      rw [flatF_length _ 8 evC_len, hl]
    rw [h2, ← h3, List.take_left]
  rw [e]
  simpa using hc
end Go.Proofs.YtcgakbgmdabnkaaGreat
