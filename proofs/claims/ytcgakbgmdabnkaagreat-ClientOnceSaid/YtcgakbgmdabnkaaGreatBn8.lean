/- A drawn region whose operations read, or call what makes memory of its own, but that makes two variables and puts into each what one of them has yielded: one walk. -/
import Derived.Test.YtcgakbgmdabnkaaGreatBn7

import Derived.Test.YtcgakbgmdabnkaaGreatBn3

set_option linter.all false
namespace Go.Proofs.YtcgakbgmdabnkaaGreat

open Go.RowKit

/-- A variable: the operation that makes it, the one that fills it, the one whose value it is filled with; its slot, that value's slot; its type, its cells before and behind. -/
structure VarOp where
  al : Nat
  st : Nat
  so : Nat
  d : Nat
  src : Nat
  t : TypeId
  zero : Array Value
  val : Array Value
def vptr (N : Nat) : Value := .pointer (some ⟨N, 0, .none⟩)
def vput (b : Bool) (d N : Nat) (a : Act) : Act := if b = true then a.put (some d) (vptr N) else a
def VarOp.lies (x : VarOp) (W w : World) (listed : Array Bool) (N : Nat) : Prop :=
  listed.getD x.al false = true → W.heap.size ≤ N ∧ w.heap[N]? = some (.cells (if listed.getD x.st false = true then x.val else x.zero) x.t (0, 0))
structure VarRel (W : World) (x y : VarOp) (listed : Array Bool) (aQ a : Act) (w : World) : Prop where
  below : Below W.heap.size W w
  fits : x.d < aQ.tmps.size ∧ y.d < aQ.tmps.size
  firsts : (listed.getD x.st false = true → listed.getD x.al false = true) ∧ (listed.getD y.st false = true → listed.getD y.al false = true)
  there : ∃ M N, a = vput (listed.getD x.al false) x.d M (vput (listed.getD y.al false) y.d N aQ) ∧ x.lies W w listed M ∧ y.lies W w listed N ∧ (listed.getD x.al false = true → listed.getD y.al false = true → M ≠ N)
def inBel (w : World) : World → Prop := fun w' => Below w.heap.size w w'
/-- The four operations on variables. -/
def ownB (x y : VarOp) (i : Nat) : Bool := i == x.al || i == x.st || i == y.al || i == y.st
def nopO (o : Oper) : Oper := { o with op := .move (.const undef), dst := none, guard := none }
def nopL (x y : VarOp) (l : List Oper) : List Oper := l.mapIdx fun i o => if ownB x y i = true then nopO o else o
/-- What is asked of the operations' form. -/
def formB (ops : Array Oper) (x y : VarOp) : Bool :=
  (List.range ops.size).all fun i => match ops[i]? with
    | some o => (o.after.all fun e => !Region.binds .any e || decide (e.on < i)) && (ownB x y i || (o.guard.isNone && o.dst != some x.d && o.dst != some y.d && !(o.looksAt ops).contains x.d && !(o.looksAt ops).contains y.d)) &&
        ((List.range ops.size).all fun j => match ops[j]? with | some p => i == j || o.dst.isNone || o.dst != p.dst | none => true)
    | none => true
theorem Act.eval_put_self {a : Act} {d : Tmp} {v : Value} (h : d < a.tmps.size) : (a.put (some d) v).eval (.tmp d) = v := by
  show (a.tmps.setIfInBounds d v).getD d undef = v
  simp [h]
theorem vput_put {b : Bool} {d N : Nat} {a : Act} {t : Option Tmp} {v : Value} (h : t ≠ some d) : (vput b d N a).put t v = vput b d N (a.put t v) := by
  unfold vput
  split
  · exact Act.put_comm a _ _ fun e he hx => h (by rw [hx, ← he])
  · rfl
theorem vput_eval {b : Bool} {d N : Nat} {a : Act} {x : Operand} (h : x ≠ .tmp d) : (vput b d N a).eval x = a.eval x := by
  unfold vput
  split
  · exact Act.eval_put fun e he hx => h (by rw [hx]; injection he with he; rw [he])
  · rfl
section

variable {P : Program} {ops ops' : Array Oper} {md : Region.Mode} {aF : Act} {W : World} {Q : Exit → Act → World → Prop}

/-- What an operation that has come up has left in its slot is there in the end. -/
theorem any_det {C : World → Prop} {i t : Nat} {o : Oper} (hi : ops'[i]? = some o) (hd : o.dst = some t) (hdist : ∀ j p, ops'[j]? = some p → j ≠ i → p.dst ≠ some t) (f : Nat) :
    ∀ (listed : Array Bool) (aQ : Act), listed.getD i false = true → wpAnyQ P md ops' C (fun a => a = aF) f listed aQ → aQ.tmps[t]? = aF.tmps[t]? := by
  induction f with
  | zero => intro listed aQ _ h; rw [h.2]
  | succ f ih =>
    intro listed aQ hl h
    cases hr : Region.ready md ops' listed with
    | nil => rw [h.1 hr]
    | cons j js =>
      have hj : j ∈ Region.ready md ops' listed := by rw [hr]; exact List.mem_cons_self ..
      obtain ⟨hju, p, hp, _⟩ := mem_ready.1 hj
      obtain ⟨v, _, hK⟩ := yieldsIn_of_qOp hp (h.2 j hj)
      have hji : j ≠ i := fun e => by
        subst e
        have := getD_both hju
        rw [hl] at this; cases this
      have := ih _ _ (getD_set_true hl) hK
      rw [← this]
      have hne := hdist j p hp hji
      cases hpd : p.dst with
      | none => rfl
      | some d =>
        have : d ≠ t := fun e => hne (by rw [hpd, e])
        simp [Act.put, Array.getElem?_setIfInBounds_ne this]
/-- So the state behind an operation does not hang on the class. -/
theorem any_put {C : World → Prop} {i : Nat} {o : Oper} {v : Value} (hi : ops'[i]? = some o) (hdist : ∀ t, o.dst = some t → ∀ j p, ops'[j]? = some p → j ≠ i → p.dst ≠ some t) {f : Nat} {listed : Array Bool} {aQ : Act} (hu : i < listed.size)
    (h : wpAnyQ P md ops' C (fun a => a = aF) f (listed.setIfInBounds i true) (aQ.put o.dst v)) : aQ.put o.dst v = aQ.put o.dst ((o.dst.map fun t => aF.tmps.getD t undef).getD undef) := by
  cases hd : o.dst with
  | none => rfl
  | some t =>
    rw [hd] at h
    have h1 := any_det hi hd (hdist t hd) f _ _ (by simp [hu]) h
    simp only [Option.map_some, Option.getD_some]
    rcases Nat.lt_or_ge t aQ.tmps.size with ht | ht
    · have : (aQ.put (some t) v).tmps[t]? = some v := by simp [Act.put, ht]
      rw [this] at h1
      rw [Array.getD_eq_getD_getElem?, ← h1]; rfl
    · simp [Act.put, Array.setIfInBounds_eq_of_size_le ht]
end

theorem gset {listed : Array Bool} {i j : Nat} (h : i < listed.size) : (listed.setIfInBounds i true).getD j false = (decide (j = i) || listed.getD j false) := by
  by_cases e : j = i
  · subst e; simp [h]
  · have hne : i ≠ j := fun e2 => e e2.symm
    simp [Array.getElem?_setIfInBounds_ne hne, e]
theorem unlisted_lt {listed : Array Bool} {i : Nat} (h : listed.getD i true = false) : i < listed.size := by
  rcases Nat.lt_or_ge i listed.size with h1 | h1
  · exact h1
  · simp [Array.getElem?_eq_none h1] at h
section

variable {P : Program} {l : List Oper} {md : Region.Mode} {aF : Act} {W : World} {Q : Exit → Act → World → Prop} {x y : VarOp}

theorem nop_get (i : Nat) : (nopL x y l).toArray[i]? = (l.toArray[i]?).map fun o => if ownB x y i = true then nopO o else o := by
  simp [nopL, List.getElem?_mapIdx]
theorem nop_ready (listed : Array Bool) : Region.ready md (nopL x y l).toArray listed = Region.ready md l.toArray listed := by
  unfold Region.ready
  have hs : (nopL x y l).toArray.size = l.toArray.size := by simp [nopL]
  rw [hs]
  apply List.filter_congr
  intro i _
  rw [nop_get]
  congr 1
  cases l.toArray[i]? with
  | none => rfl
  | some o =>
    simp only [Option.map_some, Option.getD_some]
    split <;> rfl
structure FormOf (l : List Oper) (x y : VarOp) (i : Nat) (o : Oper) : Prop where
  low : ∀ e ∈ o.after, Region.binds .any e = true → e.on < i
  quiet : ownB x y i = false → o.guard = none ∧ o.dst ≠ some x.d ∧ o.dst ≠ some y.d ∧ x.d ∉ o.looksAt l.toArray ∧ y.d ∉ o.looksAt l.toArray
  dist : ∀ t, o.dst = some t → ∀ j p, l.toArray[j]? = some p → j ≠ i → p.dst ≠ some t
theorem form_spec (h : formB l.toArray x y = true) {i : Nat} {o : Oper} (hi : l.toArray[i]? = some o) : FormOf l x y i o := by
  have hlt : i < l.toArray.size := (Array.getElem?_eq_some_iff.1 hi).1
  have h1 := List.all_eq_true.1 h i (List.mem_range.2 hlt)
  simp only [hi, Bool.and_eq_true, Bool.or_eq_true] at h1
  obtain ⟨⟨h2, h3⟩, h4⟩ := h1
  refine ⟨fun e he hbi => ?_, fun hown => ?_, fun t ht j p hj hne => ?_⟩
  · have := (Array.all_eq_true_iff_forall_mem.1 h2) e he
    simpa [hbi] using this
  · rw [hown] at h3
    simp only [Bool.false_eq_true, false_or, bne_iff_ne, ne_eq, Bool.not_eq_true', Option.isNone_iff_eq_none, List.contains_eq_mem, decide_eq_false_iff_not] at h3
    exact ⟨h3.1.1.1.1, h3.1.1.1.2, h3.1.1.2, h3.1.2, h3.2⟩
  · have hjl : j < l.toArray.size := (Array.getElem?_eq_some_iff.1 hj).1
    have h5 := List.all_eq_true.1 h4 j (List.mem_range.2 hjl)
    simp only [hj, ht, Bool.or_eq_true, beq_iff_eq, bne_iff_ne, ne_eq, Option.isNone_some, Bool.false_eq_true, or_false] at h5
    rcases h5 with h5 | h5
    · exact absurd h5.symm hne
    · exact fun e => h5 e.symm
/-- What is asked of a variable's two operations. -/
structure VarStep (P : Program) (l : List Oper) (Q : Exit → Act → World → Prop) (aF : Act) (x : VarOp) : Prop where
  make : ∀ a w K, K (a.put (some x.d) (vptr w.heap.size)) (w.alloc (.cells x.zero x.t (0, 0))) → wpOp P l.toArray Q x.al K a w
  fill : ∀ a w K M, a.eval (.tmp x.d) = vptr M → a.eval (.tmp x.src) = aF.eval (.tmp x.src) → w.heap[M]? = some (.cells x.zero x.t (0, 0)) →
    (∀ w', w'.heap[M]? = some (.cells x.val x.t (0, 0)) → Only (fun k => k = M) w w' → w'.heap.size = w.heap.size → K a w') → wpOp P l.toArray Q x.st K a w
  waits : ∀ listed, x.st ∈ Region.ready .any l.toArray listed → listed.getD x.al false = true ∧ listed.getD x.so false = true
  src : ∃ o, l.toArray[x.so]? = some o ∧ o.dst = some x.src
/-- The numbers of the operations, the slots: each another one. -/
structure Apart4 (x y : VarOp) : Prop where
  n1 : x.al ≠ x.st
  n2 : x.al ≠ y.al
  n3 : x.al ≠ y.st
  n4 : x.st ≠ y.al
  n5 : x.st ≠ y.st
  n6 : y.al ≠ y.st
  d1 : x.d ≠ y.d
  d2 : x.src ≠ x.d
  d3 : x.src ≠ y.d
  d4 : y.src ≠ x.d
  d5 : y.src ≠ y.d
theorem Apart4.symm (h : Apart4 x y) : Apart4 y x := ⟨h.n6, h.n2.symm, h.n4.symm, h.n3.symm, h.n5.symm, h.n1, h.d1.symm, h.d5, h.d4, h.d3, h.d2⟩
theorem vput_comm {b c : Bool} {d e M N : Nat} {a : Act} (h : d ≠ e) : vput b d M (vput c e N a) = vput c e N (vput b d M a) := by
  unfold vput
  cases b <;> cases c <;> simp
  exact Act.put_comm a _ _ fun u hu hv => h (by injection hu with hu; injection hv with hv; omega)
theorem VarRel.symm {listed : Array Bool} {aQ a : Act} {w : World} (hp : Apart4 x y) (h : VarRel W x y listed aQ a w) : VarRel W y x listed aQ a w := by
  obtain ⟨M, N, h1, h2, h3, h4⟩ := h.there
  exact ⟨h.below, h.fits.symm, h.firsts.symm, N, M, by rw [h1, vput_comm hp.d1], h3, h2, fun u v => (h4 v u).symm⟩
theorem own_make {listed : Array Bool} {aQ a : Act} {w : World} (hp : Apart4 x y) (hs : VarStep P l Q aF x) (h : VarRel W x y listed aQ a w) (hu : listed.getD x.al true = false) :
    wpOp P l.toArray Q x.al (fun a' w' => VarRel W x y (listed.setIfInBounds x.al true) aQ a' w') a w := by
  have hlt := unlisted_lt hu
  have hf := getD_both hu
  obtain ⟨M, N, h1, h2, h3, h4⟩ := h.there
  have hst : listed.getD x.st false = false := by
    rcases Bool.eq_false_or_eq_true (listed.getD x.st false) with e | e
    · have := h.firsts.1 e; rw [hf] at this; cases this
    · exact e
  have gy : (listed.setIfInBounds x.al true).getD y.al false = listed.getD y.al false := by rw [gset hlt, decide_eq_false hp.n2.symm, Bool.false_or]
  have gs : (listed.setIfInBounds x.al true).getD x.st false = false := by rw [gset hlt, decide_eq_false hp.n1.symm, Bool.false_or]; exact hst
  have gt : (listed.setIfInBounds x.al true).getD y.st false = listed.getD y.st false := by rw [gset hlt, decide_eq_false hp.n3.symm, Bool.false_or]
  have gx : (listed.setIfInBounds x.al true).getD x.al false = true := by rw [gset hlt, decide_eq_true rfl, Bool.true_or]
  refine hs.make a w _ ⟨h.below.alloc h.below.size _, h.fits, ⟨fun e => (by rw [gs] at e; cases e), fun e => (by rw [gy]; rw [gt] at e; exact h.firsts.2 e)⟩, ⟨w.heap.size, N, ?_, fun _ => ⟨h.below.size, ?_⟩, fun e => ?_, fun _ e => ?_⟩⟩
  · rw [gx, gy, h1, hf]
    rfl
  · rw [gs, if_neg (by decide)]; exact heap_alloc_new w _
  · rw [gy] at e
    obtain ⟨k1, k2⟩ := h3 e
    rw [gt]
    refine ⟨k1, ?_⟩
    have : N < w.heap.size := (Array.getElem?_eq_some_iff.1 k2).1
    rw [Below.heap_alloc _ _ _ this]; exact k2
  · rw [gy] at e
    have : N < w.heap.size := (Array.getElem?_eq_some_iff.1 (h3 e).2).1
    omega
theorem own_fill {listed : Array Bool} {aQ a : Act} {w : World} (hp : Apart4 x y) (hs : VarStep P l Q aF x) (h : VarRel W x y listed aQ a w) (hu : x.st ∈ Region.ready .any l.toArray listed) (hsrc : aQ.eval (.tmp x.src) = aF.eval (.tmp x.src)) :
    wpOp P l.toArray Q x.st (fun a' w' => VarRel W x y (listed.setIfInBounds x.st true) aQ a' w') a w := by
  have hul := (mem_ready.1 hu).1
  have hlt := unlisted_lt hul
  have hf := getD_both hul
  obtain ⟨hal, hso⟩ := hs.waits listed hu
  obtain ⟨M, N, h1, h2, h3, h4⟩ := h.there
  obtain ⟨k1, k2⟩ := h2 hal
  rw [hf] at k2
  simp only [Bool.false_eq_true, if_false] at k2
  have gx : (listed.setIfInBounds x.st true).getD x.al false = true := by rw [gset hlt, hal, Bool.or_true]
  have gs : (listed.setIfInBounds x.st true).getD x.st false = true := by rw [gset hlt, decide_eq_true rfl, Bool.true_or]
  have gy : (listed.setIfInBounds x.st true).getD y.al false = listed.getD y.al false := by rw [gset hlt, decide_eq_false hp.n4.symm, Bool.false_or]
  have gt : (listed.setIfInBounds x.st true).getD y.st false = listed.getD y.st false := by rw [gset hlt, decide_eq_false hp.n5.symm, Bool.false_or]
  have ha : a = (vput (listed.getD y.al false) y.d N aQ).put (some x.d) (vptr M) := by rw [h1, hal]; rfl
  have hsz : x.d < (vput (listed.getD y.al false) y.d N aQ).tmps.size := by
    have : (vput (listed.getD y.al false) y.d N aQ).tmps.size = aQ.tmps.size := by unfold vput; split <;> simp [Act.put]
    rw [this]; exact h.fits.1
  have e1 : a.eval (.tmp x.d) = vptr M := by
    rw [ha]; exact Act.eval_put_self hsz
  have e2 : a.eval (.tmp x.src) = aF.eval (.tmp x.src) := by
    rw [h1, vput_eval (fun e => hp.d2 (by injection e)), vput_eval (fun e => hp.d3 (by injection e))]; exact hsrc
  refine hs.fill a w _ M e1 e2 k2 fun w' hw ho hz => ?_
  have hM : M < w.heap.size := (Array.getElem?_eq_some_iff.1 k2).1
  have hb : Below W.heap.size W w' := h.below.trans (ho.below (B := W.heap.size) h.below.size fun k e => e ▸ k1)
  refine ⟨hb, h.fits, ⟨fun _ => gx, fun e => (by rw [gy]; rw [gt] at e; exact h.firsts.2 e)⟩, ⟨M, N, ?_, fun _ => ⟨k1, ?_⟩, fun e => ?_, fun _ e => ?_⟩⟩
  · rw [gx, gy, h1, hal]
  · rw [gs]; simpa using hw
  · rw [gy] at e
    obtain ⟨j1, j2⟩ := h3 e
    rw [gt]
    refine ⟨j1, ?_⟩
    have hN : N < w.heap.size := (Array.getElem?_eq_some_iff.1 j2).1
    rw [ho.block N hN (fun e2 => h4 hal e e2.symm)]; exact j2
  · rw [gy] at e; exact h4 hal e
theorem put_size {a : Act} {t : Option Tmp} {v : Value} : (a.put t v).tmps.size = a.tmps.size := by cases t <;> simp [Act.put]
theorem looks_mem {ops : Array Oper} {o : Oper} {d : Nat} (h : d ∉ o.looksAt ops) : ∀ z ∈ o.op.operands, z ≠ .tmp d := by
  intro z hz e
  subst e
  refine h (List.mem_append_left _ (List.mem_filterMap.2 ⟨.tmp d, by simpa using hz, rfl⟩))
theorem below_far {W w w' : World} (h : Below W.heap.size W w) (k : Below w.heap.size w w') : Below W.heap.size W w' :=
  ⟨k.os.trans h.os, k.tape.trans h.tape, k.output.trans h.output, Nat.le_trans h.size k.size, fun i hi => (k.block i (Nat.lt_of_lt_of_le hi h.size)).trans (h.block i hi)⟩
/-- Where nothing more may come up, all has. -/
theorem all_in (hf : formB l.toArray x y = true) {listed : Array Bool} (hz : listed.size = l.toArray.size) (h : Region.ready .any l.toArray listed = []) : ∀ n i, i < n → i < l.toArray.size → listed.getD i true = true := by
  intro n
  induction n with
  | zero => intro i hi; omega
  | succ n ih =>
    intro i hi hl
    rcases Bool.eq_false_or_eq_true (listed.getD i true) with e | e
    · exact e
    · have ho : l.toArray[i]? = some l.toArray[i] := Array.getElem?_eq_getElem hl
      have hm : i ∈ Region.ready .any l.toArray listed := mem_ready.2 ⟨e, _, ho, fun ed he hbi => by
        have hlow := (form_spec hf ho).low ed he hbi
        have := ih ed.on (by omega) (by omega)
        have hlt : ed.on < listed.size := by omega
        simp only [Array.getD_eq_getD_getElem?, Array.getElem?_eq_getElem hlt, Option.getD_some] at this ⊢
        exact this⟩
      rw [h] at hm; cases hm
theorem nop_dist (hf : formB l.toArray x y = true) {i : Nat} {o : Oper} (hi : l.toArray[i]? = some o) : ∀ t, o.dst = some t → ∀ j p, (nopL x y l).toArray[j]? = some p → j ≠ i → p.dst ≠ some t := by
  intro t ht j p hj hne
  rw [nop_get] at hj
  cases hq : l.toArray[j]? with
  | none => rw [hq] at hj; cases hj
  | some q =>
    rw [hq] at hj
    simp only [Option.map_some, Option.some.injEq] at hj
    subst hj
    split
    · exact fun e => by cases e
    · exact (form_spec hf hi).dist t ht j q hq hne
theorem own_nop {C : World → Prop} {i : Nat} {K : Act → Prop} {aQ : Act} (hown : ownB x y i = true) (hi : ∃ o, l.toArray[i]? = some o) (h : qOp P (nopL x y l).toArray C i K aQ) : K aQ := by
  obtain ⟨o, ho⟩ := hi
  have h0 : (nopL x y l).toArray[i]? = some (nopO o) := by rw [nop_get, ho]; simp [hown]
  obtain ⟨v, _, hK⟩ := yieldsIn_of_qOp h0 h
  exact hK
theorem quiet_own {listed : Array Bool} {aQ a a2 : Act} {w w' : World} {i : Nat} {t : Option Tmp} {v : Value} (hu : i < listed.size) (h : VarRel W x y listed aQ a w) (hown : ownB x y i = false) (tx : t ≠ some x.d) (ty : t ≠ some y.d)
    (hb : Below w.heap.size w w') (ha : a2 = a.put t v) : VarRel W x y (listed.setIfInBounds i true) (aQ.put t v) a2 w' := by
  simp only [ownB, Bool.or_eq_false_iff, beq_eq_false_iff_ne, ne_eq] at hown
  obtain ⟨⟨⟨n1, n2⟩, n3⟩, n4⟩ := hown
  have g : ∀ j, j ≠ i → (listed.setIfInBounds i true).getD j false = listed.getD j false := fun j hj => by rw [gset hu, decide_eq_false hj, Bool.false_or]
  obtain ⟨M, N, h1, h2, h3, h4⟩ := h.there
  have lie : ∀ (z : VarOp) (R : Nat), z.al ≠ i → z.st ≠ i → z.lies W w listed R → z.lies W w' (listed.setIfInBounds i true) R := fun z R z1 z2 hz e => by
    rw [g _ z1] at e
    rw [g _ z2]
    obtain ⟨k1, k2⟩ := hz e
    exact ⟨k1, (hb.block R (Array.getElem?_eq_some_iff.1 k2).1).trans k2⟩
  refine ⟨below_far h.below hb, by rw [put_size]; exact h.fits, ?_, ⟨M, N, ?_, lie x M (Ne.symm n1) (Ne.symm n2) h2, lie y N (Ne.symm n3) (Ne.symm n4) h3, ?_⟩⟩
  · rw [g _ (Ne.symm n1), g _ (Ne.symm n2), g _ (Ne.symm n3), g _ (Ne.symm n4)]; exact h.firsts
  · rw [g _ (Ne.symm n1), g _ (Ne.symm n3), ha, h1, vput_put tx, vput_put ty]
  · rw [g _ (Ne.symm n1), g _ (Ne.symm n3)]; exact h4
/-- The state at the end: both variables there and filled. -/
structure Filled (W : World) (x y : VarOp) (aF a : Act) (w : World) (M N : Nat) : Prop where
  state : a = (aF.put (some y.d) (vptr N)).put (some x.d) (vptr M)
  below : Below W.heap.size W w
  apart : M ≠ N
  new : W.heap.size ≤ M ∧ W.heap.size ≤ N
  one : w.heap[M]? = some (.cells x.val x.t (0, 0))
  two : w.heap[N]? = some (.cells y.val y.t (0, 0))
/-- The operations with the own ones left out, written out. -/
def nopF (x y : VarOp) : Nat → List Oper → List Oper
  | _, [] => []
  | i, o :: r => (if ownB x y i = true then nopO o else o) :: nopF x y (i + 1) r
theorem nopF_get : ∀ (r : List Oper) (i j : Nat), (nopF x y i r)[j]? = (r[j]?).map fun o => if ownB x y (i + j) = true then nopO o else o
  | [], _, _ => by simp [nopF]
  | o :: r, i, 0 => by simp [nopF]
  | o :: r, i, j + 1 => by
    simp only [nopF, List.getElem?_cons_succ]
    rw [nopF_get r (i + 1) j, show i + 1 + j = i + (j + 1) by omega]
theorem nopL_eq : nopL x y l = nopF x y 0 l := by
  apply List.ext_getElem?
  intro j
  rw [nopF_get]
  simp [nopL, List.getElem?_mapIdx]
theorem inBel_ext {B : World} : inBel B = fun w' => ∃ e : Ext B, w' = e.w := by
  funext w'
  exact propext ⟨fun h => ⟨⟨w', h⟩, rfl⟩, fun ⟨e, h⟩ => h ▸ e.below⟩
end

end Go.Proofs.YtcgakbgmdabnkaaGreat
