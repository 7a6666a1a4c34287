/- Texts bound together: CliA TelP LwA LwB. -/
import Derived.Test.YtcgakbgmdabnkaaGreatBn33

import Derived.Test.YtcgakbgmdabnkaaGreatBn36

import Derived.Test.YtcgakbgmdabnkaaGreatBn5

import Derived.Test.YtcgakbgmdabnkaaGreatBn1

set_option linter.all false
/- A client in memory: what lies there; its last event. -/
namespace Go.Proofs.YtcgakbgmdabnkaaGreat

open Go.RowKit

attribute [local go_sem ↓] Go.wp_at_zero Go.wp_at_succ

def klCells (s : Sh) (k : Kl) (idle : Bool) (jv sv : Value) : Array Value := #[.int .i64 s.p, .int .i64 s.c, .int .i64 s.m, .int .i64 k.c, .int .i64 k.first, .int .i64 k.op.k, .int .i64 k.op.a, .int .i64 k.op.n, jv, .bool idle, .bool k.told, sv, .int .i64 k.steps]
set_option maxRecDepth 100000 in
set_option maxHeartbeats 4000000 in
theorem klanswer_any {q sp : Nat} {s : Sh} {k : Kl} {i : Bool} {jv sl : Value} {most : Int} {fs : List Fr} (x at' : Int) {w : World} (h : RowAt w q (klCells s k i jv (.pointer (some ⟨sp, 0, .none⟩))) 110) (hs : SK 0 w sp sl most fs) (hqs : ¬ foot sp sl q) :
    Calls Tryz.prog 49 #[.pointer (some ⟨q, 0, .none⟩), .int .i64 x, .int .i64 at'] w fun r w' => r = .returned (evAnswer k.c k.op at' x).val ∧ RowAt w' q (klCells s k true .nilIface (.pointer (some ⟨sp, 0, .none⟩))) 110 ∧ SK 0 w' sp (.slice none 0 0) most [] ∧ Only (fun b => b = q ∨ foot sp sl b) w w' := by
  unfold Ev.val Ev.cells evAnswer
  dsimp only
  obtain ⟨sp', sc, sm⟩ := s
  obtain ⟨kc, kf, ⟨ok, oa, on⟩, kj, kt, ks⟩ := k
  dsimp only [klCells] at h ⊢
  have hb0 := (Below.refl w.heap.size w).alloc (Nat.le_refl _) (.cells #[.int .i64 0, .int .i64 0, .int .i64 0, .int .i64 0, .int .i64 0, .int .i64 0, .int .i64 0, .int .i64 0] 39)
  have hE : RowAt (w.alloc (.cells #[.int .i64 0, .int .i64 0, .int .i64 0, .int .i64 0, .int .i64 0, .int .i64 0, .int .i64 0, .int .i64 0] 39)) w.heap.size #[.int .i64 0, .int .i64 0, .int .i64 0, .int .i64 0, .int .i64 0, .int .i64 0, .int .i64 0, .int .i64 0] 39 := heap_alloc_new _ _
  have lq : q < w.heap.size := h.lt
  go_enter Tryz.func49, Tryz.ntmps49
  go_upto_region 1 with fail
  have hX := h.below hb0
  have hsX := hs.below hb0
  generalize w.alloc (.cells #[.int .i64 0, .int .i64 0, .int .i64 0, .int .i64 0, .int .i64 0, .int .i64 0, .int .i64 0, .int .i64 0] 39) = X at *
  obtain ⟨E, hEE, hEE'⟩ : ∃ E, Hid (E = w.heap.size) ∧ E = w.heap.size := ⟨_, Lib.hid rfl, rfl⟩
  rw [← hEE'] at hE ⊢
  have hEw : w.heap.size ≤ E := by omega
  have hqE : q ≠ E := by omega
  have hsE : ∀ b, foot sp sl b → b ≠ E := fun b hb => by
    rcases hb with rfl | hb
    · have := hs.lt; omega
    · have := hs.rowLt b hb; omega
  have hspE : sp ≠ E := hsE sp (.inl rfl)
  clear hEE'
  have lX : q < X.heap.size := hX.lt
  have fX := rowFree hX
  have c9 : X.cell? ⟨q, 9, .none⟩ = some (.bool i) := hX.cell 9
  have c8 : X.cell? ⟨q, 8, .none⟩ = some jv := hX.cell 8
  go_upto_region 2 with fail
  have hX2 := (hX.set 9 (.bool true)).set 8 .nilIface
  have hqs' : ∀ b, foot sp sl b → b ≠ q := fun b hb e => hqs (e ▸ hb)
  have hs2 : SK 0 ((X.setCell ⟨q, 9, .none⟩ (.bool true)).setCell ⟨q, 8, .none⟩ .nilIface) sp sl most fs := hsX.blocks fun b hb => by
    rw [Below.heap_setCell _ ⟨q, 8, .none⟩ _ b (hqs' b hb), Below.heap_setCell _ ⟨q, 9, .none⟩ _ b (hqs' b hb)]
  have hE2 := (hE.other (fun e => hqE e.symm) 9 (.bool true)).other (fun e => hqE e.symm) 8 .nilIface
  have ho2 : Only (fun b => b = q ∨ foot sp sl b) w ((X.setCell ⟨q, 9, .none⟩ (.bool true)).setCell ⟨q, 8, .none⟩ .nilIface) := Only.setCell (F := fun b => b = q ∨ foot sp sl b) (Only.setCell (F := fun b => b = q ∨ foot sp sl b) (Only.of_below hb0) (.inl (.inl rfl)) _) (.inl (.inl rfl)) _
  generalize (X.setCell ⟨q, 9, .none⟩ (.bool true)).setCell ⟨q, 8, .none⟩ .nilIface = Y at *
  clear c9 c8 lX fX hX hsX hs hb0
  replace hX2 := hX2.cast (cs' := #[.int .i64 sp', .int .i64 sc, .int .i64 sm, .int .i64 kc, .int .i64 kf, .int .i64 ok, .int .i64 oa, .int .i64 on, .nilIface, .bool true, .bool kt, .pointer (some ⟨sp, 0, .none⟩), .int .i64 ks]) rfl
  have lY : q < Y.heap.size := hX2.lt
  have c11 : Y.cell? ⟨q, 11, .none⟩ = some (.pointer (some ⟨sp, 0, .none⟩)) := hX2.cell 11
  have hcl := Lib.hid (stkClear_any hs2)
  go_upto_region 3 with (first | (go_at_call 107; (with_reducible refine hcl.out.mono ?_); rintro r w1 ⟨rfl, ho1, hs1⟩) | fail)
  have hX3 := hX2.only ho1 hqs
  have hE3 := hE2.only ho1 (fun hb => hsE E hb rfl)
  have ho3 := ho2.trans ho1 (fun b _ hb => .inr hb)
  clear lY c11 hcl hX2 hE2 ho2 ho1 hs2 hsE
  have lq3 : q < w1.heap.size := hX3.lt
  have lE3 : E < w1.heap.size := hE3.lt
  have d3 : w1.cell? ⟨q, 3, .none⟩ = some (.int .i64 kc) := hX3.cell 3
  have d5 : w1.cell? ⟨q, 5, .none⟩ = some (.int .i64 ok) := hX3.cell 5
  have d6 : w1.cell? ⟨q, 6, .none⟩ = some (.int .i64 oa) := hX3.cell 6
  have d7 : w1.cell? ⟨q, 7, .none⟩ = some (.int .i64 on) := hX3.cell 7
  refine wp_region_ext_tail 11 (by kernel_rfl) (by kernel_rfl) ?_
  dsimp only [List.take, List.drop]
  repeat (go_big_quiet_step (fail))
  refine wpQuiet_nil ?_
  rintro _ ⟨e', rfl⟩
  have hXZ := hX3.below e'.below
  have hEZ := hE3.below e'.below
  have hsZ := hs1.below e'.below
  have hoZ := ho3.trans (Only.of_below (F := fun _ => False) e'.below) (fun _ _ hb => hb.elim)
  generalize e'.w = Z at *
  change wpList _ _ _ _ _ Z
  clear lq3 lE3 d3 d5 d6 d7 hX3 hE3 hs1 ho3
  have lE : E < Z.heap.size := hEZ.lt
  have fE := rowFree hEZ
  have e0 : Z.cell? ⟨E, 0, .none⟩ = some (.int .i64 0) := hEZ.cell 0
  have e1 : Z.cell? ⟨E, 1, .none⟩ = some (.int .i64 0) := hEZ.cell 1
  have e2 : Z.cell? ⟨E, 2, .none⟩ = some (.int .i64 0) := hEZ.cell 2
  have e3 : Z.cell? ⟨E, 3, .none⟩ = some (.int .i64 0) := hEZ.cell 3
  have e4 : Z.cell? ⟨E, 4, .none⟩ = some (.int .i64 0) := hEZ.cell 4
  have e5 : Z.cell? ⟨E, 5, .none⟩ = some (.int .i64 0) := hEZ.cell 5
  have e6 : Z.cell? ⟨E, 6, .none⟩ = some (.int .i64 0) := hEZ.cell 6
  have e7 : Z.cell? ⟨E, 7, .none⟩ = some (.int .i64 0) := hEZ.cell 7
  go_wp2_with fail
  have hF : RowAt ((((((((Z.setCell ⟨E, 0, .none⟩ (.int .i64 5)).setCell ⟨E, 1, .none⟩ (.int .i64 kc)).setCell ⟨E, 2, .none⟩ (.int .i64 ok)).setCell ⟨E, 3, .none⟩ (.int .i64 oa)).setCell ⟨E, 4, .none⟩ (.int .i64 on)).setCell ⟨E, 5, .none⟩ (.int .i64 at')).setCell ⟨E, 6, .none⟩ (.int .i64 0)).setCell ⟨E, 7, .none⟩ (.int .i64 x)) E #[.int .i64 5, .int .i64 kc, .int .i64 ok, .int .i64 oa, .int .i64 on, .int .i64 at', .int .i64 0, .int .i64 x] 39 := ((((((((hEZ.set 0 (.int .i64 5)).set 1 (.int .i64 kc)).set 2 (.int .i64 ok)).set 3 (.int .i64 oa)).set 4 (.int .i64 on)).set 5 (.int .i64 at')).set 6 (.int .i64 0)).set 7 (.int .i64 x))
  have hqF : RowAt ((((((((Z.setCell ⟨E, 0, .none⟩ (.int .i64 5)).setCell ⟨E, 1, .none⟩ (.int .i64 kc)).setCell ⟨E, 2, .none⟩ (.int .i64 ok)).setCell ⟨E, 3, .none⟩ (.int .i64 oa)).setCell ⟨E, 4, .none⟩ (.int .i64 on)).setCell ⟨E, 5, .none⟩ (.int .i64 at')).setCell ⟨E, 6, .none⟩ (.int .i64 0)).setCell ⟨E, 7, .none⟩ (.int .i64 x)) q #[.int .i64 sp', .int .i64 sc, .int .i64 sm, .int .i64 kc, .int .i64 kf, .int .i64 ok, .int .i64 oa, .int .i64 on, .nilIface, .bool true, .bool kt, .pointer (some ⟨sp, 0, .none⟩), .int .i64 ks] 110 := ((((((((hXZ.other hqE 0 (.int .i64 5)).other hqE 1 (.int .i64 kc)).other hqE 2 (.int .i64 ok)).other hqE 3 (.int .i64 oa)).other hqE 4 (.int .i64 on)).other hqE 5 (.int .i64 at')).other hqE 6 (.int .i64 0)).other hqE 7 (.int .i64 x))
  have hoF : Only (fun b => b = q ∨ foot sp sl b) w ((((((((Z.setCell ⟨E, 0, .none⟩ (.int .i64 5)).setCell ⟨E, 1, .none⟩ (.int .i64 kc)).setCell ⟨E, 2, .none⟩ (.int .i64 ok)).setCell ⟨E, 3, .none⟩ (.int .i64 oa)).setCell ⟨E, 4, .none⟩ (.int .i64 on)).setCell ⟨E, 5, .none⟩ (.int .i64 at')).setCell ⟨E, 6, .none⟩ (.int .i64 0)).setCell ⟨E, 7, .none⟩ (.int .i64 x)) := ((((((((hoZ.setCell (p := ⟨E, 0, .none⟩) (.inr hEw) (.int .i64 5)).setCell (p := ⟨E, 1, .none⟩) (.inr hEw) (.int .i64 kc)).setCell (p := ⟨E, 2, .none⟩) (.inr hEw) (.int .i64 ok)).setCell (p := ⟨E, 3, .none⟩) (.inr hEw) (.int .i64 oa)).setCell (p := ⟨E, 4, .none⟩) (.inr hEw) (.int .i64 on)).setCell (p := ⟨E, 5, .none⟩) (.inr hEw) (.int .i64 at')).setCell (p := ⟨E, 6, .none⟩) (.inr hEw) (.int .i64 0)).setCell (p := ⟨E, 7, .none⟩) (.inr hEw) (.int .i64 x))
  have hsF : SK 0 ((((((((Z.setCell ⟨E, 0, .none⟩ (.int .i64 5)).setCell ⟨E, 1, .none⟩ (.int .i64 kc)).setCell ⟨E, 2, .none⟩ (.int .i64 ok)).setCell ⟨E, 3, .none⟩ (.int .i64 oa)).setCell ⟨E, 4, .none⟩ (.int .i64 on)).setCell ⟨E, 5, .none⟩ (.int .i64 at')).setCell ⟨E, 6, .none⟩ (.int .i64 0)).setCell ⟨E, 7, .none⟩ (.int .i64 x)) sp (.slice none 0 0) most [] := hsZ.blocks fun b hb => by
    have hbE : b ≠ E := by
      rcases hb with rfl | hb
      · exact hspE
      · cases hb
    simp only [Below.heap_setCell _ ⟨E, _, .none⟩ _ b hbE]
  generalize (((((((Z.setCell ⟨E, 0, .none⟩ (.int .i64 5)).setCell ⟨E, 1, .none⟩ (.int .i64 kc)).setCell ⟨E, 2, .none⟩ (.int .i64 ok)).setCell ⟨E, 3, .none⟩ (.int .i64 oa)).setCell ⟨E, 4, .none⟩ (.int .i64 on)).setCell ⟨E, 5, .none⟩ (.int .i64 at')).setCell ⟨E, 6, .none⟩ (.int .i64 0)).setCell ⟨E, 7, .none⟩ (.int .i64 x) = U at *
  have r0 : U.cell? ⟨E, 0, .none⟩ = some (.int .i64 5) := hF.cell 0
  have r1 : U.cell? ⟨E, 1, .none⟩ = some (.int .i64 kc) := hF.cell 1
  have r2 : U.cell? ⟨E, 2, .none⟩ = some (.int .i64 ok) := hF.cell 2
  have r3 : U.cell? ⟨E, 3, .none⟩ = some (.int .i64 oa) := hF.cell 3
  have r4 : U.cell? ⟨E, 4, .none⟩ = some (.int .i64 on) := hF.cell 4
  have r5 : U.cell? ⟨E, 5, .none⟩ = some (.int .i64 at') := hF.cell 5
  have r6 : U.cell? ⟨E, 6, .none⟩ = some (.int .i64 0) := hF.cell 6
  have r7 : U.cell? ⟨E, 7, .none⟩ = some (.int .i64 x) := hF.cell 7
  exact bodyPost_ret (v := .agg #[.int .i64 5, .int .i64 kc, .int .i64 ok, .int .i64 oa, .int .i64 on, .int .i64 at', .int .i64 0, .int .i64 x]) (by simp [results, Tryz.results49, go_sem, r0, r1, r2, r3, r4, r5, r6, r7]) rfl ⟨rfl, hqF, hsF, hoF⟩
end Go.Proofs.YtcgakbgmdabnkaaGreat
/- What a client's job answers, whatever kind it is of; rows of events. -/
namespace Go.Proofs.YtcgakbgmdabnkaaGreat

open Go.RowKit

theorem infoEv : (Tryz.prog.info? 39).map (fun i => (i.zero, i.size, i.bytes)) = some (some (.agg #[.int .i64 0, .int .i64 0, .int .i64 0, .int .i64 0, .int .i64 0, .int .i64 0, .int .i64 0, .int .i64 0]), 8, 64) := by kernel_rfl
theorem evNil (B : Nat) (w : World) : w.ownsRow B 39 8 (.slice none 0 0) 0 [] := ⟨by simp, .inl ⟨rfl, rfl⟩⟩
theorem evOne (e : Ev) : ∀ u ∈ e.cells.toList, u.oneCell' = true := by
  intro u hu
  simp only [Ev.cells, List.mem_cons, List.not_mem_nil, or_false] at hu
  rcases hu with rfl | rfl | rfl | rfl | rfl | rfl | rfl | rfl <;> rfl
theorem evRd (e : Ev) (X : World) : RdS (X.alloc (.cells e.cells 39)) 8 (.slice (some ⟨X.heap.size, 0, .none⟩) 1 1) 1 e.cells.toList := RdS.new (heap_alloc_new _ _) rfl (by decide)
theorem ownBel {w w' : World} {B : Nat} {E : TypeId} {size : Nat} {v : Value} {n : Nat} {xs : List Value} (h : w.ownsRow B E size v n xs) (hb : Below w.heap.size w w') : w'.ownsRow B E size v n xs :=
  ownsRow_of_blocks h fun k hk => hb.block k (h.lt k hk).2
theorem ownOn {w w' : World} {B : Nat} {F : Nat → Prop} {E : TypeId} {size : Nat} {v : Value} {n : Nat} {xs : List Value} (h : w.ownsRow B E size v n xs) (ho : Only F w w') (hF : ∀ b, B ≤ b → ¬ F b) : w'.ownsRow B E size v n xs :=
  ownsRow_of_blocks h fun k hk => ho.block k (h.lt k hk).2 (hF k (h.lt k hk).1)
theorem RowAt.belB {B : Nat} {w w' : World} {q : Nat} {cs : Array Value} {T : TypeId} (h : RowAt w q cs T) (hb : Below B w w') (hq : q < B) : RowAt w' q cs T := (hb.block q hq).trans h
theorem onBel {F : Nat → Prop} {w X Y : World} (h : Only F w X) (hb : Below w.heap.size X Y) : Only F w Y :=
  ⟨hb.os.trans h.os, hb.tape.trans h.tape, hb.output.trans h.output, Nat.le_trans h.size hb.size, fun k hk hf => (hb.block k hk).trans (h.block k hk hf)⟩
theorem belOn {B : Nat} {w w' : World} (hb : Below B w w') : Only (fun b => B ≤ b) w w' := ⟨hb.os, hb.tape, hb.output, hb.size, fun k _ hf => hb.block k (by omega)⟩
/-- An Adopter whose block is in F. -/
def AdO (F : Nat → Prop) (w : World) (q : Nat) (s : Sh) (a : Ad) : Prop := F q ∧ RowAt w q (adCells s a) 243
theorem AdO.only {F G : Nat → Prop} {w w' : World} {q : Nat} {s : Sh} {a : Ad} (h : AdO F w q s a) (ho : Only G w w') (hd : ∀ k, F k → ¬ G k) : AdO F w' q s a := ⟨h.1, h.2.only ho (hd q h.1)⟩
theorem AdO.below {F : Nat → Prop} {w w' : World} {q : Nat} {s : Sh} {a : Ad} (h : AdO F w q s a) (hb : Below w.heap.size w w') : AdO F w' q s a := ⟨h.1, h.2.below hb⟩
theorem FeO.below {F : Nat → Prop} {w w' : World} {q : Nat} {s : Sh} {t : Fe} (h : FeO F w q s t) (hb : Below w.heap.size w w') : FeO F w' q s t := h.only (Only.of_below (F := fun _ => False) hb) (fun _ _ e => e)
theorem MalO.below {F : Nat → Prop} {w w' : World} {q : Nat} {s : Sh} {cl : Int} {r : Rs} {c : Option Cm} (h : MalO F w q s cl r c) (hb : Below w.heap.size w w') : MalO F w' q s cl r c := h.only (Only.of_below (F := fun _ => False) hb) (fun _ _ e => e)
/-- What tell comes to: the row of events, the client, its stack. -/
structure TellEnds (q sp : Nat) (s : Sh) (k : Kl) (d : Bool) (jv sl : Value) (most : Int) (fs : List Fr) (es : List Ev) (w w' : World) (r : Ending) : Prop where
  ret : ∃ v, r = .returned v ∧ w'.ownsRow w.heap.size 39 8 v es.length (es.flatMap fun e => e.cells.toList)
  row : RowAt w' q (klCells s k d (if d = true then .nilIface else jv) (.pointer (some ⟨sp, 0, .none⟩))) 110
  stk : SK 0 w' sp (if d = true then .slice none 0 0 else sl) most (if d = true then [] else fs)
  only : Only (fun b => b = q ∨ foot sp sl b) w w'
section

variable {G : Nat → Prop} {Y : World} {q1 : Nat} {s : Sh}

theorem cGave_fre {f : Fe} (h : FeO G Y q1 s f) : Calls Tryz.prog 253 #[.agg #[.pointer (some ⟨q1, 0, .none⟩)]] Y fun e w' => e = .returned (.bool f.gave) ∧ Below Y.heap.size Y w' := by
  obtain ⟨_, q2, h3, _⟩ := h
  exact jfgave_any q1 _ f.gave Y h3.row rfl
theorem cDone_fre {f : Fe} (h : FeO G Y q1 s f) : Calls Tryz.prog 167 #[.pointer (some ⟨q1, 0, .none⟩)] Y fun e w' => e = .returned (.bool f.done) ∧ Below Y.heap.size Y w' := by
  obtain ⟨_, q2, h3, _⟩ := h
  exact (fedone_any q1 _ f.done Y h3.row rfl).mono (fun e w' h => ⟨h.1, h.2 ▸ Below.refl _ _⟩)
theorem cTook_fre {f : Fe} (_h : FeO G Y q1 s f) : Calls Tryz.prog 254 #[.agg #[.pointer (some ⟨q1, 0, .none⟩)]] Y fun e w' => e = .returned (gotV none) ∧ Below Y.heap.size Y w' := jftook_any _ Y
theorem cErr_fre {f : Fe} (h : FeO G Y q1 s f) : Calls Tryz.prog 252 #[.agg #[.pointer (some ⟨q1, 0, .none⟩)]] Y fun e w' => e = .returned (.int .i64 (Jb.fre f).err) ∧ Below Y.heap.size Y w' := by
  obtain ⟨_, q2, h3, _⟩ := h
  exact jferr_any q1 _ f.gave Y h3.row rfl
theorem cGave_aga {t : Rr} (h : RrO G Y q1 s t) : Calls Tryz.prog 259 #[.agg #[.pointer (some ⟨q1, 0, .none⟩)]] Y fun e w' => e = .returned (.bool (Jb.aga t).gave) ∧ Below Y.heap.size Y w' := jagave_any h
theorem cDone_aga {t : Rr} (h : RrO G Y q1 s t) : Calls Tryz.prog 255 #[.pointer (some ⟨q1, 0, .none⟩)] Y fun e w' => e = .returned (.bool t.done) ∧ Below Y.heap.size Y w' := by
  obtain ⟨_, _, _, _, _, _, _, _, _, _, hrow, _⟩ := h
  exact (rrdone_any q1 _ t.done Y hrow rfl).mono (fun e w' h => ⟨h.1, h.2 ▸ Below.refl _ _⟩)
theorem cTook_aga {t : Rr} (hd : t.done = true → t.err = 0 → ∃ r, t.res = some r) (h : RrO G Y q1 s t) : Calls Tryz.prog 260 #[.agg #[.pointer (some ⟨q1, 0, .none⟩)]] Y fun e w' => e = .returned (gotV (Jb.aga t).took) ∧ Below Y.heap.size Y w' := jatook_any h hd
theorem cErr_aga {t : Rr} (h : RrO G Y q1 s t) : Calls Tryz.prog 258 #[.agg #[.pointer (some ⟨q1, 0, .none⟩)]] Y fun e w' => e = .returned (.int .i64 (Jb.aga t).err) ∧ Below Y.heap.size Y w' := by
  obtain ⟨_, _, _, _, _, _, _, _, _, _, hrow, _⟩ := h
  exact jaerr_any q1 s t _ _ _ _ Y hrow
theorem cGave_mal {cl : Int} {r : Rs} {c : Option Cm} (_h : MalO G Y q1 s cl r c) : Calls Tryz.prog 213 #[.pointer (some ⟨q1, 0, .none⟩)] Y fun e w' => e = .returned (.bool false) ∧ Below Y.heap.size Y w' := (malgave_any _ Y).mono (fun e w' h => ⟨h.1, h.2 ▸ Below.refl _ _⟩)
theorem cDone_mal {cl : Int} {r : Rs} {c : Option Cm} (h : MalO G Y q1 s cl r c) : Calls Tryz.prog 210 #[.pointer (some ⟨q1, 0, .none⟩)] Y fun e w' => e = .returned (.bool (Jb.mal r c).done) ∧ Below Y.heap.size Y w' := maldone_any h
theorem cTook_mal {cl : Int} {r : Rs} {c : Option Cm} (h : MalO G Y q1 s cl r c) : Calls Tryz.prog 214 #[.pointer (some ⟨q1, 0, .none⟩)] Y fun e w' => e = .returned (gotV (Jb.mal r c).took) ∧ Below Y.heap.size Y w' := maltook_any h
theorem cErr_mal {cl : Int} {r : Rs} {c : Option Cm} (h : MalO G Y q1 s cl r c) : Calls Tryz.prog 212 #[.pointer (some ⟨q1, 0, .none⟩)] Y fun e w' => e = .returned (.int .i64 (Jb.mal r c).err) ∧ Below Y.heap.size Y w' := malerr_any h
theorem cGave_hei {a : Ad} (_h : AdO G Y q1 s a) : Calls Tryz.prog 277 #[.agg #[.pointer (some ⟨q1, 0, .none⟩)]] Y fun e w' => e = .returned (.bool false) ∧ Below Y.heap.size Y w' := jhgave_any _ Y
theorem cDone_hei {a : Ad} (h : AdO G Y q1 s a) : Calls Tryz.prog 264 #[.pointer (some ⟨q1, 0, .none⟩)] Y fun e w' => e = .returned (.bool a.done) ∧ Below Y.heap.size Y w' := (addone_any q1 _ a.done Y h.2 rfl).mono (fun e w' h => ⟨h.1, h.2 ▸ Below.refl _ _⟩)
theorem cTook_hei {a : Ad} (_h : AdO G Y q1 s a) : Calls Tryz.prog 278 #[.agg #[.pointer (some ⟨q1, 0, .none⟩)]] Y fun e w' => e = .returned (gotV none) ∧ Below Y.heap.size Y w' := jhtook_any _ Y
theorem cErr_hei {a : Ad} (h : AdO G Y q1 s a) : Calls Tryz.prog 276 #[.agg #[.pointer (some ⟨q1, 0, .none⟩)]] Y fun e w' => e = .returned (.int .i64 a.err) ∧ Below Y.heap.size Y w' := jherr_any q1 s a Y h.2
end

end Go.Proofs.YtcgakbgmdabnkaaGreat
/- What laws over words and clients use: Total, Fair, Fill, Steps; are two rows of words, of events, the same? -/
namespace Go.Proofs.YtcgakbgmdabnkaaGreat

open Go.RowKit

attribute [local go_sem ↓] Go.wp_at_zero Go.wp_at_succ

theorem lwMul {c m C M : Int} (hc : 0 ≤ c ∧ c ≤ C) (hm : 0 ≤ m ∧ m ≤ M) : 0 ≤ c * m ∧ c * m ≤ C * M := by
  refine ⟨Int.mul_nonneg hc.1 hm.1, ?_⟩
  exact Int.le_trans (Int.mul_le_mul_of_nonneg_right hc.2 hm.1) (Int.mul_le_mul_of_nonneg_left hm.2 (by omega))
theorem lwTotal_bd {s : Sh} (h : mayB s.p s.c s.m = true) : totalV s.p s.c s.m = s.c + s.p + s.p * 16 + s.c * s.m ∧ 18 ≤ totalV s.p s.c s.m ∧ totalV s.p s.c s.m ≤ 1196 := by
  have hb := mayB_iff.1 h
  have hm := lwMul (c := s.c) (m := s.m) (C := 12) (M := 8) (by omega) (by omega)
  have : totalV s.p s.c s.m = s.c + s.p + s.p * 16 + s.c * s.m := by unfold totalV; rw [if_pos h]
  omega
theorem lwTotal_any (s : Sh) (w : World) :
    Calls Tryz.prog 39 #[.agg #[.int .i64 s.p, .int .i64 s.c, .int .i64 s.m]] w fun e w' => e = .returned (.int .i64 (totalV s.p s.c s.m)) ∧ Below w.heap.size w w' := by
  obtain ⟨p, c, m⟩ := s
  dsimp only
  by_cases h1 : mayB p c m = true
  · have hb := mayB_iff.1 h1
    have hm := lwMul (c := c) (m := m) (C := 12) (M := 8) (by omega) (by omega)
    have ht : totalV p c m = c + p + p * 16 + c * m := by unfold totalV; rw [if_pos h1]
    have w1 : IntKind.i64.wrap (c + p) = c + p := IntWalk.i64_in _ ⟨by omega, by omega⟩
    have w2 : IntKind.i64.wrap (16 * p) = 16 * p := IntWalk.i64_in _ ⟨by omega, by omega⟩
    have w3 : IntKind.i64.wrap (c + p + 16 * p) = c + p + 16 * p := IntWalk.i64_in _ ⟨by omega, by omega⟩
    have w4 : IntKind.i64.wrap (c * m) = c * m := IntWalk.i64_in _ ⟨by omega, by omega⟩
    have w5 : IntKind.i64.wrap (c + p + 16 * p + c * m) = c + p + 16 * p + c * m := IntWalk.i64_in _ ⟨by omega, by omega⟩
    have hr := fun W => refMay_any p c m W
    rw [h1] at hr
    replace hr := Lib.hid hr
    rw [show totalV p c m = c + p + 16 * p + c * m by omega]
    clear ht hm hb h1
    go_enter Tryz.func39, Tryz.ntmps39
    go_wp2_with (go_at_call 40; refine (hr.out _).mono ?_; rintro e w1 ⟨rfl, rfl⟩)
    go_ret
    exact ⟨rfl, by go_grown⟩
  · have h1' : mayB p c m = false := by simpa using h1
    have ht : totalV p c m = 0 := by unfold totalV; rw [if_neg h1]
    have hr := fun W => refMay_any p c m W
    rw [h1'] at hr
    replace hr := Lib.hid hr
    rw [ht]
    clear h1 h1' ht
    go_enter Tryz.func39, Tryz.ntmps39
    go_wp2_with (go_at_call 40; refine (hr.out _).mono ?_; rintro e w1 ⟨rfl, rfl⟩)
    go_ret
    exact ⟨rfl, by go_grown⟩
/-- Words as they are. -/
def memOf (zs : List Int) : Mem := ⟨zs, 0, ⟨0, 0, 0, 0, 0, false⟩⟩
def fillW (zs : List Int) (i : Nat) : List Int := zs.take i ++ List.replicate (zs.length - i) 0
theorem fillW_len (zs : List Int) {i : Nat} (h : i ≤ zs.length) : (fillW zs i).length = zs.length := by unfold fillW; simp; omega
theorem fillW_set (zs : List Int) {i : Nat} (h : i < zs.length) : (fillW zs i).set i zs[i] = fillW zs (i + 1) := by
  unfold fillW
  rw [List.set_append_right _ _ (by simp; omega)]
  have e1 : i - (zs.take i).length = 0 := by simp; omega
  rw [e1, show zs.length - i = (zs.length - (i + 1)) + 1 by omega, List.replicate_succ, List.set_cons_zero, List.take_succ_eq_append_getElem h, List.append_assoc]
  rfl
/-- Words were made. -/
def LwFilled (zs : List Int) (w w' : World) (e : Ending) : Prop := ∃ p b, e = .returned (.pointer (some ⟨p, 0, .none⟩)) ∧ WdsAt w' p b (memOf zs) ∧ w.heap.size ≤ p ∧ w.heap.size ≤ b ∧ Below w.heap.size w w'
set_option maxHeartbeats 1000000 in
theorem fill_any (zs : List Int) (v : Value) (w : World) (hr : RdZ .u64 w v zs) (hz : (memOf zs).fit) (hl : zs.length ≤ 2000) :
    Calls Tryz.prog 10 #[v] w fun e w' => LwFilled zs w w' e := by
  obtain ⟨ao, cap, rfl, hcap, hcm, hcell⟩ := hr.cells
  obtain ⟨n, hn, hn'⟩ : ∃ n, Hid (n = zs.length) ∧ n = zs.length := ⟨_, Lib.hid rfl, rfl⟩
  rw [← hn'] at hcap ⊢
  have hnew := Lib.hid (wnew_any n (by omega) w)
  clear hn'
  have hnil : ∀ (p : Nat) (W : World), (binOp .neq 29 (.pointer (some ⟨p, 0, .none⟩)) (.pointer none)).run Tryz.prog W = .ok (.bool true) W := fun p W => by kernel_rfl
  go_enter Tryz.func10, Tryz.ntmps10
  go_wp2_with (first | (go_at_call 41; (with_reducible refine hnew.out.mono ?_); rintro e w1 ⟨p, b, rfl, hw1, hp1, hb1, hB1⟩) | fail)
  go_loopw [4] (fun vi wr => ∃ i : Nat, i ≤ n ∧ vi = .int .i64 i ∧ WdsAt wr p b ⟨fillW zs i, 0, ⟨0, 0, 0, 0, 0, false⟩⟩ ∧ Below w.heap.size w wr) (fun vi _ => n - (intOf vi).toNat)
  case atStart => exact ⟨0, Nat.zero_le _, rfl, by unfold fillW; rw [← hn.out]; exact hw1, hB1⟩
  case round =>
    obtain ⟨i, hi, rfl, hw, hB⟩ := hrel
    by_cases hin : i < n
    · have hil : (i : Int) < (n : Int) := by omega
      have hi0 : (0 : Int) ≤ (i : Int) := by omega
      have hit : i < zs.length := hn.out ▸ hin
      obtain ⟨bx, ox, rfl, hbx, hcx⟩ := hcell (fun e => by rw [e] at hit; simp at hit)
      have X0 : wr.cell? ⟨bx, ox + i, .none⟩ = some (.int .u64 zs[i]) := keepF hB _ _ _ (hcx i hit)
      have hput := wput_any p b ⟨fillW zs i, 0, ⟨0, 0, 0, 0, 0, false⟩⟩ i zs[i] wr hw ⟨by omega, by show (i : Int) < ((fillW zs i).length : Int); rw [fillW_len zs (by omega)]; omega⟩ (hz _ (List.getElem_mem hit))
      have hset : (fillW zs i).set (i : Int).toNat zs[i] = fillW zs (i + 1) := by rw [Int.toNat_natCast]; exact fillW_set zs hit
      dsimp only at hput
      rw [hset] at hput
      replace hput := Lib.hid hput
      have wi1 : IntKind.i64.wrap ((i : Int) + 1) = (i : Int) + 1 := IntWalk.i64_in _ ⟨by omega, by omega⟩
      clear hset hcx hcell hw
      generalize zs[i] = x at *
      go_wp2_with (first | (go_at_call 42; (with_reducible refine hput.out.mono ?_); rintro e w3 ⟨rfl, hw3, ho3⟩) | fail)
      exact ⟨⟨i + 1, by omega, by go_num, hw3, hB.trans (ho3.below hB.size fun k hk => by rw [hk]; exact hb1)⟩, by simp [intOf]; omega⟩
    · have hie : i = n := by omega
      subst hie
      have hj0 : ¬ ((i : Int) < (i : Int)) := by omega
      go_wp2_with fail
      go_returns
      have e : fillW zs i = zs := by unfold fillW; rw [hn.out]; simp
      rw [e] at hw
      exact ⟨p, b, rfl, hw, hp1, hb1, hB⟩
end Go.Proofs.YtcgakbgmdabnkaaGreat
/- What laws over words and clients use: Fair, Steps; rows of words, of events, that are the same. -/
namespace Go.Proofs.YtcgakbgmdabnkaaGreat

open Go.RowKit

attribute [local go_sem ↓] Go.wp_at_zero Go.wp_at_succ

def fairB (s : Sh) (n : Nat) : Bool := mayB s.p s.c s.m && decide ((n : Int) = totalV s.p s.c s.m)
theorem fair_any (s : Sh) (ao : Option Addr) (n cap : Nat) (w : World) :
    Calls Tryz.prog 9 #[.agg #[.int .i64 s.p, .int .i64 s.c, .int .i64 s.m], .slice ao n cap] w fun e w' => e = .returned (.bool (fairB s n)) ∧ Below w.heap.size w w' := by
  have hm := fun W => refMay_any s.p s.c s.m W
  have ht := fun W => lwTotal_any s W
  unfold fairB
  generalize totalV s.p s.c s.m = tt at *
  generalize mayB s.p s.c s.m = mb at *
  obtain ⟨sp, sc, sm⟩ := s
  dsimp only at hm ht ⊢
  replace hm := Lib.hid hm
  replace ht := Lib.hid ht
  have hb0 := (Below.refl w.heap.size w).alloc (Nat.le_refl _) (.cells #[.int .i64 sp, .int .i64 sc, .int .i64 sm] 23)
  have t0 : RowAt (w.alloc (.cells #[.int .i64 sp, .int .i64 sc, .int .i64 sm] 23)) w.heap.size #[.int .i64 sp, .int .i64 sc, .int .i64 sm] 23 := heap_alloc_new _ _
  have hcs : (mb = false) ∨ (mb = true ∧ ((n : Int) == tt) = false) ∨ (mb = true ∧ (n : Int) = tt) := by
    cases mb
    · exact .inl rfl
    · by_cases h : (n : Int) = tt
      · exact .inr (.inr ⟨rfl, h⟩)
      · exact .inr (.inl ⟨rfl, by simpa using h⟩)
  go_enter Tryz.func9, Tryz.ntmps9
  go_upto_region 1 with fail
  generalize w.alloc (.cells #[.int .i64 sp, .int .i64 sc, .int .i64 sm] 23) = X at *
  obtain ⟨H, hHH, hHH'⟩ : ∃ H, Hid (H = w.heap.size) ∧ H = w.heap.size := ⟨_, Lib.hid rfl, rfl⟩
  rw [← hHH'] at t0 ⊢
  clear hHH'
  have lH : H < X.heap.size := t0.lt
  have c0 : X.cell? ⟨H, 0, .none⟩ = some (.int .i64 sp) := t0.cell 0
  have c1 : X.cell? ⟨H, 1, .none⟩ = some (.int .i64 sc) := t0.cell 1
  have c2 : X.cell? ⟨H, 2, .none⟩ = some (.int .i64 sm) := t0.cell 2
  rcases hcs with rfl | ⟨rfl, h⟩ | ⟨rfl, h⟩
  · go_wp2_with (first | (go_at_call 40; (with_reducible refine (hm.out _).mono ?_); rintro r w1 ⟨rfl, hw1⟩; obtain rfl := hw1.symm) | fail)
    go_returns
    exact ⟨rfl, hb0.alloc hb0.size _⟩
  · go_wp2_with (first
      | (go_at_call 40; (with_reducible refine (hm.out _).mono ?_); rintro r w1 ⟨rfl, hw1⟩; obtain rfl := hw1.symm)
      | (go_at_call 39; (with_reducible refine (ht.out _).mono ?_); rintro r w2 ⟨rfl, hb2⟩)
      | fail)
    go_returns
    refine ⟨?_, belowTrans (hb0.alloc hb0.size _) hb2⟩
    have h2 : decide ((n : Int) = tt) = false := by simpa using h
    rw [h2]; rfl
  · subst h
    go_wp2_with (first
      | (go_at_call 40; (with_reducible refine (hm.out _).mono ?_); rintro r w1 ⟨rfl, hw1⟩; obtain rfl := hw1.symm)
      | (go_at_call 39; (with_reducible refine (ht.out _).mono ?_); rintro r w2 ⟨rfl, hb2⟩)
      | fail)
    go_returns
    refine ⟨?_, belowTrans (hb0.alloc hb0.size _) hb2⟩
    simp
theorem ref20Steps_any (s : Sh) (hm : mayB s.p s.c s.m = true) (w : World) :
    Calls Tryz.prog 13 #[.agg #[.int .i64 s.p, .int .i64 s.c, .int .i64 s.m]] w fun e w' => e = .returned (.int .i64 (110 * s.p + 4 * s.m + 60)) ∧ Below w.heap.size w w' := by
  have hb := mayB_iff.1 hm
  have hr := fun W => refMay_any s.p s.c s.m W
  rw [hm] at hr
  obtain ⟨p, c, m⟩ := s
  dsimp only at hr hb ⊢
  have w1 : IntKind.i64.wrap (110 * p) = 110 * p := IntWalk.i64_in _ ⟨by omega, by omega⟩
  have w2 : IntKind.i64.wrap (4 * m) = 4 * m := IntWalk.i64_in _ ⟨by omega, by omega⟩
  have w3 : IntKind.i64.wrap (110 * p + 4 * m) = 110 * p + 4 * m := IntWalk.i64_in _ ⟨by omega, by omega⟩
  have w4 : IntKind.i64.wrap (110 * p + 4 * m + 60) = 110 * p + 4 * m + 60 := IntWalk.i64_in _ ⟨by omega, by omega⟩
  replace hr := Lib.hid hr
  clear hm hb
  go_enter Tryz.func13, Tryz.ntmps13
  go_wp2_with (go_at_call 40; refine (hr.out _).mono ?_; rintro e w1 ⟨rfl, rfl⟩)
  go_ret
  exact ⟨rfl, by go_grown⟩
set_option maxHeartbeats 1000000 in
theorem sameWords_eq (xs : List Int) (v u : Value) (w : World) (hx : RdZ .u64 w v xs) (hy : RdZ .u64 w u xs) :
    Calls Tryz.prog 18 #[v, u] w fun e w' => e = .returned (.bool true) ∧ Below w.heap.size w w' := by
  obtain ⟨ax, cx, rfl, hcx, hmx, hrx⟩ := hx.cells
  obtain ⟨ay, cy, rfl, hcy, hmy, hry⟩ := hy.cells
  obtain ⟨n, hn, hn'⟩ : ∃ n, Hid (n = xs.length) ∧ n = xs.length := ⟨_, Lib.hid rfl, rfl⟩
  rw [← hn'] at hcx hcy ⊢
  have hlN : n ≤ 9223372036854775807 := by omega
  clear hn'
  go_enter Tryz.func18, Tryz.ntmps18
  go_wp2
  go_loopw [5] (fun v5 wr => ∃ j : Nat, j ≤ n ∧ v5 = .int .i64 j ∧ Below w.heap.size w wr) (fun v5 _ => n - (intOf v5).toNat)
  case atStart => exact ⟨0, Nat.zero_le _, rfl, Below.refl _ _⟩
  case round =>
    obtain ⟨j, hj, rfl, hbr⟩ := hrel
    by_cases hjn : j < n
    · have hjl : (j : Int) < (n : Int) := by omega
      have hj0 : (0 : Int) ≤ (j : Int) := by omega
      have hjt : j < xs.length := hn.out ▸ hjn
      obtain ⟨bx, ox, rfl, hbx, hcx'⟩ := hrx (fun h => by subst h; simp at hjt)
      obtain ⟨by', oy, rfl, hby, hcy'⟩ := hry (fun h => by subst h; simp at hjt)
      have X0 : wr.cell? ⟨bx, ox + j, .none⟩ = some (.int .u64 xs[j]) := keepF hbr _ _ _ (hcx' j hjt)
      have Y0 : wr.cell? ⟨by', oy + j, .none⟩ = some (.int .u64 xs[j]) := keepF hbr _ _ _ (hcy' j hjt)
      have wi1 : IntKind.i64.wrap ((j : Int) + 1) = (j : Int) + 1 := IntWalk.i64_in _ ⟨by omega, by omega⟩
      clear hcx' hcy' hrx hry
      generalize xs[j] = a at *
      have hD := fun n => below_drewN hbr n
      go_wp2
      go_quiet (fail)
      go_wp2
      exact ⟨⟨j + 1, by omega, by go_num, hD _⟩, by simp [intOf]; omega⟩
    · have hje : j = n := by omega
      subst hje
      have hj0 : ¬ ((j : Int) < (j : Int)) := by omega
      go_wp2
      go_ret
      exact ⟨rfl, hbr⟩
set_option maxRecDepth 100000 in
set_option maxHeartbeats 2000000 in
theorem sameTrace_eq (xs : List Ev) (v u : Value) (w : World) (hx : RdE w v xs) (hy : RdE w u xs) :
    Calls Tryz.prog 55 #[v, u] w fun e w' => e = .returned (.bool true) ∧ Below w.heap.size w w' := by
  obtain ⟨ax, cx, rfl, hcx, hmx, hrx⟩ := hx.nth
  obtain ⟨ay, cy, rfl, hcy, hmy, hry⟩ := hy.nth
  obtain ⟨n, hn, hn'⟩ : ∃ n, Hid (n = xs.length) ∧ n = xs.length := ⟨_, Lib.hid rfl, rfl⟩
  rw [← hn'] at hcx hcy ⊢
  have hlN : n ≤ 9223372036854775807 := by omega
  clear hn'
  go_enter Tryz.func55, Tryz.ntmps55
  go_wp2
  go_loopw [5] (fun v5 wr => ∃ j : Nat, j ≤ n ∧ v5 = .int .i64 j ∧ Below w.heap.size w wr) (fun v5 _ => n - (intOf v5).toNat)
  case atStart => exact ⟨0, Nat.zero_le _, rfl, Below.refl _ _⟩
  case round =>
    obtain ⟨j, hj, rfl, hbr⟩ := hrel
    by_cases hjn : j < n
    · have hjl : (j : Int) < (n : Int) := by omega
      have hj0 : (0 : Int) ≤ (j : Int) := by omega
      have hjt : j < xs.length := hn.out ▸ hjn
      obtain ⟨bx, ox, rfl, hbx, hcx'⟩ := hrx (fun h => by subst h; simp at hjt)
      obtain ⟨by', oy, rfl, hby, hcy'⟩ := hry (fun h => by subst h; simp at hjt)
      have X0 : wr.cell? ⟨bx, ox + j * 8, .none⟩ = some (.int .i64 xs[j].k) := keepF hbr _ _ _ ((hcx' j hjt 0 (by omega)).trans rfl)
      have X1 : wr.cell? ⟨bx, ox + j * 8 + 1, .none⟩ = some (.int .i64 xs[j].c) := keepF hbr _ _ _ ((hcx' j hjt 1 (by omega)).trans rfl)
      have X2 : wr.cell? ⟨bx, ox + j * 8 + 2, .none⟩ = some (.int .i64 xs[j].ok) := keepF hbr _ _ _ ((hcx' j hjt 2 (by omega)).trans rfl)
      have X3 : wr.cell? ⟨bx, ox + j * 8 + 3, .none⟩ = some (.int .i64 xs[j].oa) := keepF hbr _ _ _ ((hcx' j hjt 3 (by omega)).trans rfl)
      have X4 : wr.cell? ⟨bx, ox + j * 8 + 4, .none⟩ = some (.int .i64 xs[j].on) := keepF hbr _ _ _ ((hcx' j hjt 4 (by omega)).trans rfl)
      have X5 : wr.cell? ⟨bx, ox + j * 8 + 5, .none⟩ = some (.int .i64 xs[j].at') := keepF hbr _ _ _ ((hcx' j hjt 5 (by omega)).trans rfl)
      have X6 : wr.cell? ⟨bx, ox + j * 8 + 6, .none⟩ = some (.int .i64 xs[j].n) := keepF hbr _ _ _ ((hcx' j hjt 6 (by omega)).trans rfl)
      have X7 : wr.cell? ⟨bx, ox + j * 8 + 7, .none⟩ = some (.int .i64 xs[j].er) := keepF hbr _ _ _ ((hcx' j hjt 7 (by omega)).trans rfl)
      have Y0 : wr.cell? ⟨by', oy + j * 8, .none⟩ = some (.int .i64 xs[j].k) := keepF hbr _ _ _ ((hcy' j hjt 0 (by omega)).trans rfl)
      have Y1 : wr.cell? ⟨by', oy + j * 8 + 1, .none⟩ = some (.int .i64 xs[j].c) := keepF hbr _ _ _ ((hcy' j hjt 1 (by omega)).trans rfl)
      have Y2 : wr.cell? ⟨by', oy + j * 8 + 2, .none⟩ = some (.int .i64 xs[j].ok) := keepF hbr _ _ _ ((hcy' j hjt 2 (by omega)).trans rfl)
      have Y3 : wr.cell? ⟨by', oy + j * 8 + 3, .none⟩ = some (.int .i64 xs[j].oa) := keepF hbr _ _ _ ((hcy' j hjt 3 (by omega)).trans rfl)
      have Y4 : wr.cell? ⟨by', oy + j * 8 + 4, .none⟩ = some (.int .i64 xs[j].on) := keepF hbr _ _ _ ((hcy' j hjt 4 (by omega)).trans rfl)
      have Y5 : wr.cell? ⟨by', oy + j * 8 + 5, .none⟩ = some (.int .i64 xs[j].at') := keepF hbr _ _ _ ((hcy' j hjt 5 (by omega)).trans rfl)
      have Y6 : wr.cell? ⟨by', oy + j * 8 + 6, .none⟩ = some (.int .i64 xs[j].n) := keepF hbr _ _ _ ((hcy' j hjt 6 (by omega)).trans rfl)
      have Y7 : wr.cell? ⟨by', oy + j * 8 + 7, .none⟩ = some (.int .i64 xs[j].er) := keepF hbr _ _ _ ((hcy' j hjt 7 (by omega)).trans rfl)
      have wi1 : IntKind.i64.wrap ((j : Int) + 1) = (j : Int) + 1 := IntWalk.i64_in _ ⟨by omega, by omega⟩
      clear hcx' hcy' hrx hry
      generalize xs[j] = a at *
      obtain ⟨a0, a1, a2, a3, a4, a5, a6, a7⟩ := a
      dsimp only at X0 X1 X2 X3 X4 X5 X6 X7 Y0 Y1 Y2 Y3 Y4 Y5 Y6 Y7
      have hD := fun n => below_drewN hbr n
      go_wp2
      go_quiet (fail)
      go_wp2
      exact ⟨⟨j + 1, by omega, by go_num, hD _⟩, by simp [intOf]; omega⟩
    · have hje : j = n := by omega
      subst hje
      have hj0 : ¬ ((j : Int) < (j : Int)) := by omega
      go_wp2
      go_ret
      exact ⟨rfl, hbr⟩
theorem events_eq (xs : List Ev) (v u : Value) (w : World) (hx : RdE w v xs) (hy : RdE w u xs) :
    Calls Tryz.prog 17 #[v, u] w fun e w' => e = .returned (.bool true) ∧ Below w.heap.size w w' := by
  have h := Lib.hid (sameTrace_eq xs v u w hx hy)
  go_enter Tryz.func17, Tryz.ntmps17
  go_wp2_with (first | (go_at_call 55; (with_reducible refine h.out.mono ?_); rintro r w1 ⟨rfl, hb1⟩) | fail)
  go_returns
  exact ⟨rfl, hb1⟩
end Go.Proofs.YtcgakbgmdabnkaaGreat
