/- Both stacks of the law FramePlays: what each call leaves of them. -/
import Derived.Test.YtngglkefhinkgaaMSame
import Derived.Test.YtngglkefhinkgaaFrameB
namespace Go.Proofs.Ytngglkefhinkgaa
open Go.RowKit

/-- Both stacks, in blocks of their own. -/
structure Two (S : Nat) (w : World) (mm : Int) (fs gs : List Fr) (sl ml : Value) : Prop where
  left : SK S w S sl mm fs
  right : MK S w (S + 1) ml mm gs
  sl1 : sl.ownBlock ≠ some (S + 1)
  ml0 : ml.ownBlock ≠ some S
  apart : ∀ k, sl.ownBlock = some k → ml.ownBlock ≠ some k

/-- Both stacks, with the same frames. -/
def Both (S : Nat) (w : World) (mm : Int) (fs : List Fr) : Prop := ∃ sl ml, Two S w mm fs fs sl ml

section
variable {S : Nat} {w w' : World} {mm : Int} {fs gs fs' gs' : List Fr} {sl ml sl' ml' : Value}
theorem Two.below (h : Two S w mm fs gs sl ml) (hb : Below w.heap.size w w') : Two S w' mm fs gs sl ml :=
  ⟨h.left.below hb, h.right.below hb, h.sl1, h.ml0, h.apart⟩
theorem Two.heap (h : Two S w mm fs gs sl ml) (hb : ∀ k : Nat, w'.heap[k]? = w.heap[k]?) : Two S w' mm fs gs sl ml :=
  ⟨h.left.blocks fun k _ => hb k, h.right.blocks fun k _ => hb k, h.sl1, h.ml0, h.apart⟩
theorem Both.below (h : Both S w mm fs) (hb : Below w.heap.size w w') : Both S w' mm fs := let ⟨sl, ml, h⟩ := h; ⟨sl, ml, h.below hb⟩
/-- A call on the first. -/
theorem Two.onLeft (h : Two S w mm fs gs sl ml) (ho : Only (foot S sl) w w') (h' : SK S w' S sl' mm fs') (hn : ∀ k, sl'.ownBlock = some k → sl.ownBlock = some k ∨ w.heap.size ≤ k) : Two S w' mm fs' gs sl' ml := by
  refine ⟨h', ho.stk h.right ?_, ?_, h.ml0, ?_⟩
  · rintro k hk hF
    rcases hk with rfl | hk
    · rcases hF with hF | hF
      · omega
      · exact h.sl1 hF
    · rcases hF with rfl | hF
      · exact h.ml0 hk
      · exact h.apart k hF hk
  · intro hk
    rcases hn _ hk with h1 | h1
    · exact h.sl1 h1
    · have := h.right.lt; omega
  · intro k hk hm
    rcases hn _ hk with h1 | h1
    · exact h.apart k h1 hm
    · have := (h.right.rowLt k hm).2; omega
/-- A call on the second. -/
theorem Two.onRight (h : Two S w mm fs gs sl ml) (ho : Only (foot (S + 1) ml) w w') (h' : MK S w' (S + 1) ml' mm gs') (hn : ∀ k, ml'.ownBlock = some k → ml.ownBlock = some k ∨ w.heap.size ≤ k) : Two S w' mm fs gs' sl ml' := by
  refine ⟨ho.stk h.left ?_, h', h.sl1, ?_, ?_⟩
  · rintro k hk hF
    rcases hk with rfl | hk
    · rcases hF with hF | hF
      · omega
      · exact h.ml0 hF
    · rcases hF with rfl | hF
      · exact h.sl1 hk
      · exact h.apart k hk hF
  · intro hk
    rcases hn _ hk with h1 | h1
    · exact h.ml0 h1
    · have := h.left.lt; omega
  · intro k hk hm
    rcases hn _ hm with h1 | h1
    · exact h.apart k hk h1
    · have := (h.left.rowLt k hk).2; omega
theorem Two.outLeft (h : Two S w mm fs gs sl ml) (ho : Only (foot S sl) w w') : Below S w w' := below_of_only h.left ho
theorem Two.outRight (h : Two S w mm fs gs sl ml) (ho : Only (foot (S + 1) ml) w w') : Below S w w' :=
  ho.below (by have := h.left.lt; omega) (footGe h.right)

theorem Both.of_two (h0 : w.heap[S]? = some (.cells #[.slice none 0 0, .int .i64 mm] 80 (0, 0))) (h1 : w.heap[S + 1]? = some (.cells #[.slice none 0 0, .int .i64 mm] 58 (0, 0))) : Both S w mm [] :=
  ⟨.slice none 0 0, .slice none 0 0, ⟨Nat.le_refl _, h0, World.ownsRow_nil _ _ _ _, by simp [Value.ownBlock], fun f hf => by cases hf⟩, ⟨by omega, h1, World.ownsRow_nil _ _ _ _, by simp [Value.ownBlock], fun f hf => by cases hf⟩, by simp [Value.ownBlock], by simp [Value.ownBlock], fun k hk => by simp [Value.ownBlock] at hk⟩
theorem both_new (w1 : World) (mm most : Int) : ∀ w', w' = ((w1.alloc (.cells #[.slice none 0 0, .int .i64 mm] 80)).alloc (.cells #[.slice none 0 0, .int .i64 most] 58)) →
    w'.heap[w1.heap.size]? = some (.cells #[.slice none 0 0, .int .i64 mm] 80 (0, 0)) ∧ w'.heap[w1.heap.size + 1]? = some (.cells #[.slice none 0 0, .int .i64 most] 58 (0, 0)) := by
  rintro _ rfl
  have h := two_blocks w1 (.cells #[.slice none 0 0, .int .i64 mm] 80) (.cells #[.slice none 0 0, .int .i64 most] 58)
  exact ⟨h.1, h.2.1⟩
end

/-- The last frame's row, cell by cell. -/
theorem last_row {T E : TypeId} {B : Nat} {w : World} {s : Nat} {sl : Value} {most : Int} {fs : List Fr} (h : Stk T E B w s sl most fs) (h0 : fs.length ≠ 0) :
    ∃ g cap code pc r0 r1 r2 r3 r4 r5 r6 r7, sl = .slice (some ⟨g, 0, .none⟩) fs.length cap ∧ g < w.heap.size ∧ g ≠ s ∧ B ≤ g ∧ topFr fs = ⟨code, pc, [r0, r1, r2, r3, r4, r5, r6, r7]⟩ ∧
      w.cell? ⟨g, (fs.length - 1) * 10, .none⟩ = some (.int .i64 code) ∧ w.cell? ⟨g, (fs.length - 1) * 10 + 1, .none⟩ = some (.int .i64 pc) ∧
      w.cell? ⟨g, (fs.length - 1) * 10 + 2, .none⟩ = some (.int .i64 r0) ∧ w.cell? ⟨g, (fs.length - 1) * 10 + 3, .none⟩ = some (.int .i64 r1) ∧
      w.cell? ⟨g, (fs.length - 1) * 10 + 4, .none⟩ = some (.int .i64 r2) ∧ w.cell? ⟨g, (fs.length - 1) * 10 + 5, .none⟩ = some (.int .i64 r3) ∧
      w.cell? ⟨g, (fs.length - 1) * 10 + 6, .none⟩ = some (.int .i64 r4) ∧ w.cell? ⟨g, (fs.length - 1) * 10 + 7, .none⟩ = some (.int .i64 r5) ∧
      w.cell? ⟨g, (fs.length - 1) * 10 + 8, .none⟩ = some (.int .i64 r6) ∧ w.cell? ⟨g, (fs.length - 1) * 10 + 9, .none⟩ = some (.int .i64 r7) ∧ fs.length ≤ cap ∧ (fs.length : Int) ≤ 9223372036854775807 ∧ ∀ i, w.frozen? ⟨g, i, .none⟩ = false := by
  rcases h.form with ⟨rfl, rfl⟩ | ⟨g, cap, rfl, hcap, hg, hgs, hB, hn, hc⟩
  · simp at h0
  · have hl : fs.length - 1 < fs.length := by omega
    have hr := h.regs _ (List.getElem_mem hl)
    have ht : topFr fs = fs[fs.length - 1] := by simp [topFr, List.getLast?_eq_getElem?, hl]
    rw [ht]
    generalize hf : fs[fs.length - 1] = f at hr
    have hc' := fun j => hc (fs.length - 1) j hl
    rw [hf] at hc'
    have hfr : ∀ i, w.frozen? ⟨g, i, .none⟩ = false := fun i => by
      rcases h.owns.2 with ⟨h1, _⟩ | ⟨g', cap', cur, hv, k1, k2, _⟩
      · cases h1
      · obtain rfl : g = g' := by injection hv with a _ b; injection a with a; injection a with a
        exact cell_free_of k2 i
    obtain ⟨code, pc, regs⟩ := f
    match regs, hr with
    | [r0, r1, r2, r3, r4, r5, r6, r7], _ =>
      exact ⟨g, cap, code, pc, r0, r1, r2, r3, r4, r5, r6, r7, rfl, hg, hgs, hB, rfl, hc' 0 (by omega), hc' 1 (by omega), hc' 2 (by omega), hc' 3 (by omega), hc' 4 (by omega), hc' 5 (by omega), hc' 6 (by omega), hc' 7 (by omega), hc' 8 (by omega), hc' 9 (by omega), hcap, hn, hfr⟩

/-- What a deed holds. -/
def DeedAt (w : World) (b o : Nat) (dv n x : Int) (ao : Option Addr) (rl rc : Nat) : Prop :=
  w.cell? ⟨b, o, .none⟩ = some (.int .i64 dv) ∧ w.cell? ⟨b, o + 1, .none⟩ = some (.int .i64 n) ∧ w.cell? ⟨b, o + 2, .none⟩ = some (.int .i64 x) ∧ w.cell? ⟨b, o + 3, .none⟩ = some (.slice ao rl rc) ∧
  (rl : Int) ≤ 9223372036854775807 ∧ ((rl : Int) ≤ 50 → ∃ zs : List Int, zs.length = rl ∧ (∀ a, ao = some a → ∀ j v, (zs.map (Value.int .i64))[j]? = some v → w.cell? (a.add j) = some v) ∧ (ao = none → zs = []))
theorem same_top (code pc r0 r1 r2 r3 r4 r5 r6 r7 : Int) (w : World) :
    Calls Try.prog 24 #[.agg #[.int .i64 code, .int .i64 pc, .int .i64 r0, .int .i64 r1, .int .i64 r2, .int .i64 r3, .int .i64 r4, .int .i64 r5, .int .i64 r6, .int .i64 r7], .agg #[.int .i64 code, .int .i64 pc, .int .i64 r0, .int .i64 r1, .int .i64 r2, .int .i64 r3, .int .i64 r4, .int .i64 r5, .int .i64 r6, .int .i64 r7]] w fun e w' => e = .returned (.bool true) ∧ Below w.heap.size w w' :=
  same_any ⟨code, pc, [r0, r1, r2, r3, r4, r5, r6, r7]⟩ rfl w

/-- The same memory; draws may have been made. -/
structure Like (w w' : World) : Prop where
  os : w'.os = w.os
  tape : w'.tape = w.tape
  output : w'.output = w.output
  heap : w'.heap = w.heap
theorem Like.below {B : Nat} {a w w' : World} (h : Below B a w) (hl : Like w w') : Below B a w' :=
  ⟨hl.os.trans h.os, hl.tape.trans h.tape, hl.output.trans h.output, by rw [hl.heap]; exact h.size, fun k hk => by rw [hl.heap]; exact h.block k hk⟩
theorem Like.only {F : Nat → Prop} {w w' w2 : World} (hl : Like w w') (h : Only F w' w2) : Only F w w2 :=
  ⟨h.os.trans hl.os, h.tape.trans hl.tape, h.output.trans hl.output, by rw [← hl.heap]; exact h.size, fun k hk hf => by rw [← hl.heap]; exact h.block k (by rw [hl.heap]; exact hk) hf⟩
theorem Only.cellAt {F : Nat → Prop} {w w' : World} (ho : Only F w w') {b o : Nat} {v : Value} (h : w.cell? ⟨b, o, .none⟩ = some v) (hF : ¬ F b) : w'.cell? ⟨b, o, .none⟩ = some v := by
  have hlt := cell_lt h
  have := ho.block b hlt hF
  simp only [World.cell?] at h ⊢
  rw [this]; exact h
theorem zs_at {w w' : World} {zs : List Int} {ao : Option Addr} (h : ∀ a, ao = some a → ∀ j v, (zs.map (Value.int .i64))[j]? = some v → w.cell? (a.add j) = some v) (hb : Below w.heap.size w w') :
    ∀ a, ao = some a → ∀ j v, (zs.map (Value.int .i64))[j]? = some v → w'.cell? (a.add j) = some v := fun a ha j v hv => by
  have h := h a ha j v hv
  rw [hb.cell (cell_lt' h)]; exact h

section
variable {S : Nat} {w W w' : World} {mm : Int} {fs gs : List Fr} {sl ml : Value} {zs : List Int} {ao : Option Addr} {n : Int} {rc : Nat}
theorem Two.like (h : Two S W mm fs gs sl ml) (hl : Like W w') : Two S w' mm fs gs sl ml := h.heap fun k => by rw [hl.heap]
theorem Two.sz (h : Two S W mm fs gs sl ml) : S ≤ W.heap.size := by have := h.left.lt; omega
/-- What a call on the first stack leaves. -/
def LeftTo (S : Nat) (W : World) (mm : Int) (gs : List Fr) (sl ml : Value) (fs' : List Fr) (w2 : World) : Prop :=
  Below S W w2 ∧ (∀ b o v, W.cell? ⟨b, o, .none⟩ = some v → ¬ foot S sl b → w2.cell? ⟨b, o, .none⟩ = some v) ∧ ∃ sl2, Two S w2 mm fs' gs sl2 ml
def RightTo (S : Nat) (W : World) (mm : Int) (fs : List Fr) (sl ml : Value) (gs' : List Fr) (w2 : World) : Prop :=
  Below S W w2 ∧ (∀ b o v, W.cell? ⟨b, o, .none⟩ = some v → ¬ foot (S + 1) ml b → w2.cell? ⟨b, o, .none⟩ = some v) ∧ ∃ ml2, Two S w2 mm fs gs' sl ml2
theorem Two.leftTo (hT : Two S W mm fs gs sl ml) (hl : Like W w') {w2 : World} {fs' : List Fr} {sl2 : Value} (ho : Only (foot S sl) w' w2) (h2 : SK S w2 S sl2 mm fs') (hn : ∀ k, sl2.ownBlock = some k → sl.ownBlock = some k ∨ w'.heap.size ≤ k) : LeftTo S W mm gs sl ml fs' w2 :=
  ⟨hT.outLeft (hl.only ho), fun _ _ _ h hF => (hl.only ho).cellAt h hF, sl2, (hT.like hl).onLeft ho h2 hn⟩
theorem Two.rightTo (hT : Two S W mm fs gs sl ml) (hl : Like W w') {w2 : World} {gs' : List Fr} {ml2 : Value} (ho : Only (foot (S + 1) ml) w' w2) (h2 : MK S w2 (S + 1) ml2 mm gs') (hn : ∀ k, ml2.ownBlock = some k → ml.ownBlock = some k ∨ w'.heap.size ≤ k) : RightTo S W mm fs sl ml gs' w2 :=
  ⟨hT.outRight (hl.only ho), fun _ _ _ h hF => (hl.only ho).cellAt h hF, ml2, (hT.like hl).onRight ho h2 hn⟩
theorem Two.leftBelow (hT : Two S W mm fs gs sl ml) (hl : Like W w') {w2 : World} (hb : Below w'.heap.size w' w2) : LeftTo S W mm gs sl ml fs w2 :=
  hT.leftTo hl (Only.of_below hb) (((hT.like hl).left).below hb) (fun _ h => .inl h)
theorem Two.rightBelow (hT : Two S W mm fs gs sl ml) (hl : Like W w') {w2 : World} (hb : Below w'.heap.size w' w2) : RightTo S W mm fs sl ml gs w2 :=
  hT.rightTo hl (Only.of_below hb) (((hT.like hl).right).below hb) (fun _ h => .inl h)

theorem two_push (hT : Two S W mm fs gs sl ml) (hl : Like W w') (hz : zs.length ≤ 8) (hm : mm ≤ 16) (h1 : (fs.length : Int) < mm)
    (hzc : ∀ a, ao = some a → ∀ j v, (zs.map (Value.int .i64))[j]? = some v → w.cell? (a.add j) = some v) (hk : Below w.heap.size w W) (hzn : ao = none → zs = []) :
    Calls Try.prog 16 #[.pointer (some ⟨S, 0, .none⟩), .int .i64 n, .slice ao zs.length rc] w' fun e w2 => e = .returned (.bool true) ∧ LeftTo S W mm gs sl ml (fs ++ [⟨n, 0, padded zs⟩]) w2 :=
  (Push_any (hT.like hl).left h1 hz (hT.like hl).sz (by omega) (zs_at hzc (hl.below hk)) hzn).mono fun _ _ ⟨he, ho, _, hsl, h2⟩ => ⟨he, hT.leftTo hl ho h2 hsl⟩
theorem two_push_no (hT : Two S W mm fs gs sl ml) (hl : Like W w') (h0 : ¬ ((fs.length : Int) < mm ∧ zs.length ≤ 8)) :
    Calls Try.prog 16 #[.pointer (some ⟨S, 0, .none⟩), .int .i64 n, .slice ao zs.length rc] w' fun e w2 => e = .returned (.bool false) ∧ LeftTo S W mm gs sl ml fs w2 :=
  (Push_no (hT.like hl).left (by omega)).mono fun _ _ ⟨he, _, hb⟩ => ⟨he, hT.leftBelow hl (by rw [hb]; exact below_drewN (Below.refl _ _) _)⟩
theorem two_mpush (hT : Two S W mm fs gs sl ml) (hl : Like W w') (hz : zs.length ≤ 8) (hm : mm ≤ 16) (h1 : (gs.length : Int) < mm)
    (hzc : ∀ a, ao = some a → ∀ j v, (zs.map (Value.int .i64))[j]? = some v → w.cell? (a.add j) = some v) (hk : Below w.heap.size w W) (hzn : ao = none → zs = []) :
    Calls Try.prog 23 #[.pointer (some ⟨S + 1, 0, .none⟩), .int .i64 n, .slice ao zs.length rc] w' fun e w2 => e = .returned (.bool true) ∧ RightTo S W mm fs sl ml (gs ++ [⟨n, 0, padded zs⟩]) w2 :=
  (mPush_any (hT.like hl).right h1 hz (hT.like hl).sz (by omega) (zs_at hzc (hl.below hk)) hzn).mono fun _ _ ⟨he, ho, _, hsl, h2⟩ => ⟨he, hT.rightTo hl ho h2 hsl⟩
theorem two_mpush_no (hT : Two S W mm fs gs sl ml) (hl : Like W w') (h0 : ¬ ((gs.length : Int) < mm ∧ zs.length ≤ 8)) :
    Calls Try.prog 23 #[.pointer (some ⟨S + 1, 0, .none⟩), .int .i64 n, .slice ao zs.length rc] w' fun e w2 => e = .returned (.bool false) ∧ RightTo S W mm fs sl ml gs w2 :=
  (mPush_no (hT.like hl).right (by omega)).mono fun _ _ ⟨he, _, hb⟩ => ⟨he, hT.rightBelow hl (by rw [hb]; exact below_drewN (Below.refl _ _) _)⟩
theorem two_pop (hT : Two S W mm fs gs sl ml) (hl : Like W w') (h0 : fs.length ≠ 0) {code pc r0 r1 r2 r3 r4 r5 r6 r7 : Int} (ht : topFr fs = ⟨code, pc, [r0, r1, r2, r3, r4, r5, r6, r7]⟩) :
    Calls Try.prog 22 #[.pointer (some ⟨S, 0, .none⟩)] w' fun e w2 => e = .returned (.tuple #[.agg #[.int .i64 code, .int .i64 pc, .int .i64 r0, .int .i64 r1, .int .i64 r2, .int .i64 r3, .int .i64 r4, .int .i64 r5, .int .i64 r6, .int .i64 r7], .bool true]) ∧ LeftTo S W mm gs sl ml fs.dropLast w2 := by
  have := Pop_any (hT.like hl).left h0
  rw [ht] at this
  exact this.mono fun _ _ ⟨he, ho, _, hsl, h2⟩ => ⟨he, hT.leftTo hl ho h2 (fun k hk => .inl (hsl ▸ hk))⟩
theorem two_pop_nil (hT : Two S W mm fs gs sl ml) (hl : Like W w') (h0 : fs.length = 0) :
    Calls Try.prog 22 #[.pointer (some ⟨S, 0, .none⟩)] w' fun e w2 => e = .returned (.tuple #[.agg #[.int .i64 0, .int .i64 0, .int .i64 0, .int .i64 0, .int .i64 0, .int .i64 0, .int .i64 0, .int .i64 0, .int .i64 0, .int .i64 0], .bool false]) ∧ LeftTo S W mm gs sl ml fs w2 :=
  (Pop_nil (hT.like hl).left h0).mono fun _ _ ⟨he, hb⟩ => ⟨he, hT.leftBelow hl hb⟩
theorem two_go (hT : Two S W mm fs gs sl ml) (hl : Like W w') (h0 : fs.length ≠ 0) :
    Calls Try.prog 21 #[.pointer (some ⟨S, 0, .none⟩), .int .i64 n] w' fun e w2 => e = .returned (.bool true) ∧ LeftTo S W mm gs sl ml (putLast fs 1 n) w2 :=
  (Go_any (hT.like hl).left h0).mono fun _ _ ⟨he, ho, h2⟩ => ⟨he, hT.leftTo hl ho h2 (fun _ hk => .inl hk)⟩
theorem two_go_nil (hT : Two S W mm fs gs sl ml) (hl : Like W w') (h0 : fs.length = 0) :
    Calls Try.prog 21 #[.pointer (some ⟨S, 0, .none⟩), .int .i64 n] w' fun e w2 => e = .returned (.bool false) ∧ LeftTo S W mm gs sl ml fs w2 :=
  (Go_nil (hT.like hl).left h0).mono fun _ _ ⟨he, hb⟩ => ⟨he, hT.leftBelow hl hb⟩
theorem two_set (hT : Two S W mm fs gs sl ml) (hl : Like W w') (h0 : fs.length ≠ 0) {x : Int} (hr0 : 0 ≤ n) (hr8 : n < 8) :
    Calls Try.prog 18 #[.pointer (some ⟨S, 0, .none⟩), .int .i64 n, .int .i64 x] w' fun e w2 => e = .returned (.bool true) ∧ LeftTo S W mm gs sl ml (putLast fs (2 + n.toNat) x) w2 :=
  (Set_any (hT.like hl).left h0 hr0 hr8).mono fun _ _ ⟨he, ho, h2⟩ => ⟨he, hT.leftTo hl ho h2 (fun _ hk => .inl hk)⟩
theorem two_set_no (hT : Two S W mm fs gs sl ml) (hl : Like W w') {x : Int} (h0 : fs.length = 0 ∨ n < 0 ∨ 8 ≤ n) :
    Calls Try.prog 18 #[.pointer (some ⟨S, 0, .none⟩), .int .i64 n, .int .i64 x] w' fun e w2 => e = .returned (.bool false) ∧ LeftTo S W mm gs sl ml fs w2 :=
  (Set_no (hT.like hl).left h0).mono fun _ _ ⟨he, hb⟩ => ⟨he, hT.leftBelow hl hb⟩
theorem two_get (hT : Two S W mm fs gs sl ml) (hl : Like W w') (h0 : fs.length ≠ 0) (hr0 : 0 ≤ n) (hr8 : n < 8) :
    Calls Try.prog 25 #[.pointer (some ⟨S, 0, .none⟩), .int .i64 n] w' fun e w2 => e = .returned (.tuple #[.int .i64 ((topFr fs).regs.getD n.toNat 0), .bool true]) ∧ Like W w2 :=
  (Get_any (hT.like hl).left h0 hr0 hr8).mono fun _ _ ⟨he, _, hb⟩ => ⟨he, by rw [hb]; exact ⟨hl.os, hl.tape, hl.output, hl.heap⟩⟩
theorem two_get_no (hT : Two S W mm fs gs sl ml) (hl : Like W w') (h0 : fs.length = 0 ∨ n < 0 ∨ 8 ≤ n) :
    Calls Try.prog 25 #[.pointer (some ⟨S, 0, .none⟩), .int .i64 n] w' fun e w2 => e = .returned (.tuple #[.int .i64 0, .bool false]) ∧ Like W w2 :=
  (Get_no (hT.like hl).left h0).mono fun _ _ ⟨he, _, hb⟩ => ⟨he, by rw [hb]; exact ⟨hl.os, hl.tape, hl.output, hl.heap⟩⟩
theorem two_clear (hT : Two S W mm fs gs sl ml) (hl : Like W w') :
    Calls Try.prog 19 #[.pointer (some ⟨S, 0, .none⟩)] w' fun e w2 => e = .returned (.tuple #[]) ∧ LeftTo S W mm gs sl ml [] w2 :=
  (Clear_any (hT.like hl).left).mono fun _ _ ⟨he, ho, h2⟩ => ⟨he, hT.leftTo hl ho h2 (fun _ hk => by simp [Value.ownBlock] at hk)⟩
theorem Like.belowSize {w w' w2 : World} (hl : Like w w') (h : Below w'.heap.size w' w2) : Below w.heap.size w w2 :=
  ⟨h.os.trans hl.os, h.tape.trans hl.tape, h.output.trans hl.output, by rw [← hl.heap]; exact h.size, fun k hk => by rw [← hl.heap]; exact h.block k (by rw [hl.heap]; exact hk)⟩
theorem two_top (hT : Two S W mm fs gs sl ml) (hl : Like W w') (h0 : fs.length ≠ 0) {code pc r0 r1 r2 r3 r4 r5 r6 r7 : Int} (ht : topFr fs = ⟨code, pc, [r0, r1, r2, r3, r4, r5, r6, r7]⟩) :
    Calls Try.prog 17 #[.pointer (some ⟨S, 0, .none⟩)] w' fun e w2 => e = .returned (.tuple #[.agg #[.int .i64 code, .int .i64 pc, .int .i64 r0, .int .i64 r1, .int .i64 r2, .int .i64 r3, .int .i64 r4, .int .i64 r5, .int .i64 r6, .int .i64 r7], .bool true]) ∧ Below W.heap.size W w2 := by
  have := Top_any (hT.like hl).left
  rw [ht, decide_eq_true h0] at this
  exact this.mono fun _ _ ⟨he, hb⟩ => ⟨he, hl.belowSize hb⟩
theorem two_top_nil (hT : Two S W mm fs gs sl ml) (hl : Like W w') (h0 : fs.length = 0) :
    Calls Try.prog 17 #[.pointer (some ⟨S, 0, .none⟩)] w' fun e w2 => e = .returned (.tuple #[.agg #[.int .i64 0, .int .i64 0, .int .i64 0, .int .i64 0, .int .i64 0, .int .i64 0, .int .i64 0, .int .i64 0, .int .i64 0, .int .i64 0], .bool false]) ∧ Below W.heap.size W w2 := by
  have := Top_any (hT.like hl).left
  rw [List.eq_nil_of_length_eq_zero h0] at this
  exact this.mono fun _ _ ⟨he, hb⟩ => ⟨he, hl.belowSize hb⟩
theorem two_depth (hT : Two S W mm fs gs sl ml) (hb : Below W.heap.size W w') :
    Calls Try.prog 20 #[.pointer (some ⟨S, 0, .none⟩)] w' fun e w2 => e = .returned (.int .i64 fs.length) ∧ w2 = w' :=
  depth_any (hT.below hb).left
end
/-- The first block of a number in a code. -/
def findBlock (n : Nat) : Code → Option Code
  | .block m c => if m = n then some (.block m c) else findBlock n c
  | .seq a b => match findBlock n a with
    | some c => some c
    | none => findBlock n b
  | .loop c => findBlock n c
  | .scope c => findBlock n c
  | .cond _ a b => match findBlock n a with
    | some c => some c
    | none => findBlock n b
  | _ => none
/-- The switch of the law FramePlays. -/
noncomputable def swCode : Code := (Try.f7.body.bind (findBlock 2)).getD .skip
end Go.Proofs.Ytngglkefhinkgaa
