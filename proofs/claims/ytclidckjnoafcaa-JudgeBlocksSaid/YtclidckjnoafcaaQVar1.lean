/- A drawn region whose operations read, or call what makes memory of its own, but that makes one variable and puts into it what one of them has yielded: one walk. -/
import Derived.Test.YtclidckjnoafcaaQVars

namespace Go.Proofs.Ytclidckjnoafcaa

open Go.RowKit

section

variable {P : Program} {l : List Oper} {md : Region.Mode} {aF : Act} {W : World} {Q : Exit → Act → World → Prop} {x y : VarOp}

/-- The state at the end: the variable there and filled. -/
structure Filled1 (W : World) (x : VarOp) (aF a : Act) (w : World) (M : Nat) : Prop where
  state : a = aF.put (some x.d) (vptr M)
  below : Below W.heap.size W w
  new : W.heap.size ≤ M
  one : w.heap[M]? = some (.cells x.val x.t (0, 0))
theorem lock1 (hf : formB l.toArray x y = true) (hsel : Region.noSelect l.toArray = true) (hp : Apart4 x y) (hx : VarStep P l Q aF x)
    (hin : x.al < l.toArray.size ∧ x.st < l.toArray.size ∧ l.toArray.size ≤ y.al ∧ l.toArray.size ≤ y.st)
    (hso : ownB x y x.so = false)
    (hend : ∀ a w M, Filled1 W x aF a w M → Q .normal a w) (fuel : Nat) : ∀ (listed : Array Bool) (aQ a : Act) (w : World), listed.size = l.toArray.size → VarRel W x y listed aQ a w →
    (∀ B, Below W.heap.size W B → wpAnyQ P .any (nopL x y l).toArray (inBel B) (fun a => a = aF) fuel listed aQ) → wpAny P .any l.toArray Q fuel listed a w := by
  have fin : ∀ (listed : Array Bool) (aQ a : Act) (w : World), listed.size = l.toArray.size → VarRel W x y listed aQ a w → Region.ready .any l.toArray listed = [] → aQ = aF → Q .normal a w := by
    intro listed aQ a w hz hr h0 e
    have hall : ∀ i, i < l.toArray.size → listed.getD i false = true := fun i hi => by
      have := all_in hf hz h0 (i + 1) i (by omega) hi
      have hlt : i < listed.size := by omega
      simp only [Array.getD_eq_getD_getElem?, Array.getElem?_eq_getElem hlt, Option.getD_some] at this ⊢
      exact this
    have hno : listed.getD y.al false = false := by
      have : listed.size ≤ y.al := by omega
      simp [Array.getElem?_eq_none this]
    obtain ⟨M, N, h1, h2, h3, h4⟩ := hr.there
    rw [hall _ hin.1, hno, e] at h1
    obtain ⟨k1, k2⟩ := h2 (hall _ hin.1)
    rw [hall _ hin.2.1] at k2
    exact hend a w M ⟨h1, hr.below, k1, by simpa using k2⟩
  induction fuel with
  | zero =>
    intro listed aQ a w hz hr h
    have h1 := h W (Below.refl _ _)
    have h0 : Region.ready .any l.toArray listed = [] := by rw [← nop_ready (x := x) (y := y)]; exact h1.1
    exact ⟨h0, fin listed aQ a w hz hr h0 h1.2⟩
  | succ fuel ih =>
    intro listed aQ a w hz hr h
    refine ⟨fun h0 => fin listed aQ a w hz hr h0 ((h W (Below.refl _ _)).1 (by rw [nop_ready]; exact h0)), fun i hi => ?_⟩
    have hi' : i ∈ Region.ready .any (nopL x y l).toArray listed := by rw [nop_ready]; exact hi
    obtain ⟨hun, o, ho, hedge⟩ := mem_ready.1 hi
    have hlt := unlisted_lt hun
    have hil : i < l.toArray.size := (Array.getElem?_eq_some_iff.1 ho).1
    have hz' : (listed.setIfInBounds i true).size = l.toArray.size := by simpa using hz
    cases hown : ownB x y i with
    | true =>
      have hK : ∀ B, Below W.heap.size W B → wpAnyQ P .any (nopL x y l).toArray (inBel B) (fun a => a = aF) fuel (listed.setIfInBounds i true) aQ := fun B hB =>
        own_nop hown ⟨o, ho⟩ ((h B hB).2 i hi')
      have src : ∀ z : VarOp, VarStep P l Q aF z → ownB x y z.so = false → listed.getD z.so false = true → aQ.eval (.tmp z.src) = aF.eval (.tmp z.src) := fun z hz ho hl => by
        obtain ⟨oz, k1, k2⟩ := hz.src
        have h1 : (nopL x y l).toArray[z.so]? = some oz := by rw [nop_get, k1]; simp [ho]
        have := any_det h1 k2 (nop_dist hf k1 _ k2) _ listed aQ hl (h W (Below.refl _ _))
        show aQ.tmps.getD z.src undef = aF.tmps.getD z.src undef
        rw [Array.getD_eq_getD_getElem?, Array.getD_eq_getD_getElem?, this]
      have hc : i = x.al ∨ i = x.st := by
        simp only [ownB, Bool.or_eq_true, beq_iff_eq] at hown
        omega
      rcases hc with e | e <;> subst e
      · exact wpOp_mono (fun a' w' hr' => ih _ _ _ _ hz' hr' hK) (own_make hp hx hr hun)
      · exact wpOp_mono (fun a' w' hr' => ih _ _ _ _ hz' hr' hK) (own_fill hp hx hr hi (src x hx hso (hx.waits _ hi).2))
    | false =>
      obtain ⟨qg, qx, qy, lx, ly⟩ := (form_spec hf ho).quiet hown
      have h0 : (nopL x y l).toArray[i]? = some o := by rw [nop_get, ho]; simp [hown]
      obtain ⟨v, hyv, hKv⟩ := yieldsIn_of_qOp h0 ((h w hr.below).2 i hi')
      have hv := any_put h0 (nop_dist hf ho) hlt hKv
      have hK : ∀ B, Below W.heap.size W B → wpAnyQ P .any (nopL x y l).toArray (inBel B) (fun a => a = aF) fuel (listed.setIfInBounds i true) (aQ.put o.dst v) := fun B hB => by
        obtain ⟨u, _, hKu⟩ := yieldsIn_of_qOp h0 ((h B hB).2 i hi')
        have hu := any_put h0 (nop_dist hf ho) hlt hKu
        rw [hv, ← hu]; exact hKu
      have hwant : ∀ k, Region.wanted o k = true := fun k => by unfold Region.wanted; rw [qg]
      have hq : ∀ w', inBel w w' → o.quietAt P aQ (inBel w) w' v := by
        rcases hyv with ⟨_, h2⟩ | ⟨h2, _⟩
        · exact h2
        · rw [hwant] at h2; cases h2
      obtain ⟨M, N, h1, _⟩ := hr.there
      have hex : execOp a.eval o = execOp aQ.eval o := execOp_congr o (fun cs b => Region.noSelect_spec hsel i o cs b ho) fun z hz => by
        rw [h1, vput_eval (looks_mem lx z hz), vput_eval (looks_mem ly z hz)]
      unfold wpOp
      rw [ho]
      simp only [hwant, if_true]
      refine .inl (Oper.wp_of_quiet (C := inBel w) (K := fun a' => a' = a.put o.dst v) (Below.refl _ _) (fun a' w' hw' e => ih _ _ _ _ hz' (quiet_own hlt hr hown qx qy hw' e) hK) ⟨v, fun w' hw' => ?_, rfl⟩)
      have := hq w' hw'
      unfold Oper.quietAt at *
      rw [hex]; exact this
/-- The region's law, the walk's list written out; y: no variable (numbers beyond the operations', a slot that none of them names). -/
theorem wp_region_one_ext {id : Nat} {a : Act} {l' : List Oper} (hm : P.follows .mixedOrders = true) (hl : nopF x y 0 l = l') (hB : Region.lexB .any l'.toArray = true) (hf : formB l.toArray x y = true) (hsel : Region.noSelect l.toArray = true) (hp : Apart4 x y)
    (hin : x.al < l.toArray.size ∧ x.st < l.toArray.size ∧ l.toArray.size ≤ y.al ∧ l.toArray.size ≤ y.st) (hso : ownB x y x.so = false) (hfit : x.d < a.tmps.size ∧ y.d < a.tmps.size)
    (hall : ∃ aF, (∀ B, Below W.heap.size W B → wpQuiet P l'.toArray (fun w' => ∃ e : Ext B, w' = e.w) (fun a' => a' = aF) l' a) ∧ VarStep P l Q aF x ∧
      ∀ a w M, Filled1 W x aF a w M → Q .normal a w) : (Code.region id l.toArray true).wp P Q a W := by
  subst hl
  obtain ⟨aF, h, hx, hend⟩ := hall
  rw [← nopL_eq] at hB h
  simp only [Region.lexB, Bool.and_eq_true] at hB
  have hlen : (nopL x y l).length = l.toArray.size := by simp [nopL]
  refine wp_region_any hm (lock1 (W := W.drew) hf hsel hp hx hin hso (fun a w M hf => hend a w M ⟨hf.state, ⟨hf.below.os, hf.below.tape, hf.below.output, hf.below.size, hf.below.block⟩, hf.new, hf.one⟩) l.toArray.size _ a a _ (by simp) ⟨Below.refl _ _, hfit, ⟨fun e => ?_, fun e => ?_⟩, ⟨0, 0, ?_, fun e => ?_, fun e => ?_, fun e => ?_⟩⟩ fun B hb => ?_)
  · rw [getD_replicate_false] at e; cases e
  · rw [getD_replicate_false] at e; cases e
  · rw [getD_replicate_false, getD_replicate_false]; rfl
  · rw [getD_replicate_false] at e; cases e
  · rw [getD_replicate_false] at e; cases e
  · rw [getD_replicate_false] at e; cases e
  · have h3 := h B ⟨hb.os, hb.tape, hb.output, hb.size, hb.block⟩
    rw [← inBel_ext] at h3
    have := wpAnyQ_lex (C := inBel B) (md := .any) hB.1 (nopL x y l) 0 (Array.replicate l.toArray.size false) a (by simp) (by
      have h2 := hB.2
      simpa [nopL] using h2) h3
    rw [hlen] at this
    exact this
end

end Go.Proofs.Ytclidckjnoafcaa
