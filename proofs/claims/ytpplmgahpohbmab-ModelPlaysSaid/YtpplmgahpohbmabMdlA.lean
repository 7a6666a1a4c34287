/- The law's awake; its deeds. -/
import Derived.Test.YtpplmgahpohbmabMdlK
import Derived.Test.YtpplmgahpohbmabMdlL
import Derived.Test.YtpplmgahpohbmabRwO
namespace Go.Proofs.Ytpplmgahpohbmab
open Go.RowKit Go.ChangeShapes Go.WideShapes Go.ChangeAt

/-- A deed. -/
structure Dd where
  d : Int
  a : Int
  n : Int
def Dd.cells (x : Dd) : List Value := [.int .i64 x.d, .int .i64 x.a, .int .i64 x.n]
def Dd.fit (x : Dd) : Prop := (-9223372036854775808 ≤ x.a ∧ x.a ≤ 9223372036854775807) ∧ (-9223372036854775808 ≤ x.n ∧ x.n ≤ 9223372036854775807)
def RdD (w : World) (v : Value) (l : List Dd) : Prop := RdS w 3 v l.length (l.flatMap Dd.cells)
theorem RdD.nth {w : World} {v : Value} {l : List Dd} (r : RdD w v l) : ∃ ao cap, v = .slice ao l.length cap ∧ l.length ≤ cap ∧ (cap : Int) ≤ 9223372036854775807 ∧ (l ≠ [] → ∃ b off, ao = some ⟨b, off, .none⟩ ∧ b < w.heap.size ∧
    ∀ i (hi : i < l.length), w.cell? ⟨b, off + i * 3, .none⟩ = some (.int .i64 l[i].d) ∧ w.cell? ⟨b, off + i * 3 + 1, .none⟩ = some (.int .i64 l[i].a) ∧ w.cell? ⟨b, off + i * 3 + 2, .none⟩ = some (.int .i64 l[i].n)) := by
  obtain ⟨ao, cap, e, h1, h2, _, h4⟩ := r
  refine ⟨ao, cap, e, h1, h2, fun hn => ?_⟩
  obtain ⟨b, off, ea, hlt, hc⟩ := h4 (fun h => hn (List.eq_nil_of_length_eq_zero h))
  have key : ∀ i j (hi : i < l.length) (_ : j < 3), w.cell? ⟨b, off + i * 3 + j, .none⟩ = (l[i].cells)[j]? := fun i j hi hj => by
    rw [Nat.add_assoc, hc (i * 3 + j) (by omega)]
    exact flatF_get Dd.cells 3 (fun _ => rfl) l i j hi hj
  exact ⟨b, off, ea, hlt, fun i hi => ⟨key i 0 hi (by omega), key i 1 hi (by omega), key i 2 hi (by omega)⟩⟩

section
variable {H : Type} {enc : TypeId × Value → H} {w : World}
theorem open_deeds {v : Value} {r : Reach} {b0 : Nat} {d : DataW H} {ps : List MemPlace} (hv : Value.okWide Try.prog w r b0 22 v) (h0 : DataW.Trod enc Try.prog w 0 (fun _ => true) true 22 v d ps) :
    ∃ xs : List Dd, RdD w v xs ∧ ∀ x ∈ xs, x.fit := by
  refine open_list Dd.cells Dd.fit Try.underlying22 (sz := 3) (by kernel_rfl) (by omega) (fun _ => rfl) (fun es hl h => ?_) hv h0
  obtain ⟨_, hf⟩ := rd_struct Try.underlying28 h
  match es, hl with
  | [x0, x1, x2], _ =>
    have k1 : Try.prog.cellsOf 3 = 1 := by kernel_rfl
    have g0 : Rd enc Try.prog w 3 (([x0, x1, x2].drop 0).take (Try.prog.cellsOf 3)) := hf 0 _ rfl
    have g1 : Rd enc Try.prog w 3 (([x0, x1, x2].drop 1).take (Try.prog.cellsOf 3)) := hf 1 _ rfl
    have g2 : Rd enc Try.prog w 3 (([x0, x1, x2].drop 2).take (Try.prog.cellsOf 3)) := hf 2 _ rfl
    rw [k1] at g0 g1 g2
    obtain ⟨a, ha, _⟩ := rd_int Try.underlying3 g0
    obtain ⟨b, hb, wb⟩ := rd_int Try.underlying3 g1
    obtain ⟨c, hc, wc⟩ := rd_int Try.underlying3 g2
    injection ha with ha; injection hb with hb; injection hc with hc
    subst ha hb hc
    exact ⟨⟨a, b, c⟩, rfl, bounds_i64 wb, bounds_i64 wc⟩
end

theorem Only.below' {F : Nat → Prop} {B : Nat} {a w w' : World} (h : Below B a w) (ho : Only F w w') (hB : B ≤ w.heap.size) (hF : ∀ k, F k → B ≤ k) : Below B a w' := h.trans (ho.below hB hF)
theorem Mdl.foot_ge {T E : TypeId} {B s : Nat} {w : World} {sl : Value} {W : Int} {l : List Bk} (h : Mdl T E B w s sl W l) : ∀ k, foot s sl k → B ≤ k := fun k hk => by
  rcases hk with rfl | hk
  · exact h.lies
  · exact (h.rowLt k hk).1

set_option maxHeartbeats 2000000 in
theorem awake_any (w : World) : Calls Try.prog 7 #[] w fun e w' => e = .returned (.bool true) ∧ Below w.heap.size w w' := by
  have e1 : capW 10 = 10 := by decide
  have e2 : takeOk 10 [] 2 4 = true := by decide
  have e3 : takeB 10 [] 2 4 = [⟨2, 4⟩] := by decide
  have e4 : takeOk 10 [⟨2, 4⟩] 5 1 = false := by decide
  have e5 : takeB 10 [⟨2, 4⟩] 5 1 = [⟨2, 4⟩] := by decide
  have e6 : (decide ((1 : Int) ≤ 4) && roomB 10 4 0 [⟨2, 4⟩]) = true := by decide
  have e7 : (decide ((1 : Int) ≤ 5) && roomB 10 5 0 [⟨2, 4⟩]) = false := by decide
  have e8 : usedB [⟨2, 4⟩] = 4 := by decide
  have e9 : foundB 2 [⟨2, 4⟩] = true := by decide
  have e10 : giveB [⟨2, 4⟩] 2 = [] := by decide
  have e11 : (decide ((1 : Int) ≤ 10) && roomB 10 10 0 []) = true := by decide
  replace e1 := Lib.hid e1
  replace e2 := Lib.hid e2
  replace e3 := Lib.hid e3
  replace e4 := Lib.hid e4
  replace e5 := Lib.hid e5
  replace e6 := Lib.hid e6
  replace e7 := Lib.hid e7
  replace e8 := Lib.hid e8
  replace e9 := Lib.hid e9
  replace e10 := Lib.hid e10
  replace e11 := Lib.hid e11
  have hnil : ∀ (W : World) (a : Addr), (binOp .eql 24 (.pointer (some a)) (.pointer none)).run Try.prog W = .ok (.bool false) W := fun W a => by kernel_rfl
  go_enter Try.func7, Try.ntmps7
  go_wp2_with fail
  refine (new_any 10 _).mono ?_
  rintro e w1 ⟨rfl, hb1, m1⟩
  rw [e1.out] at m1
  go_wp2_with fail
  refine (take_any m1 2 4 (by omega) (by omega) (by omega) (by omega)).mono ?_
  rintro e w2 ⟨rfl, s2, m2, o2, _⟩
  rw [e2.out]
  rw [e3.out] at m2
  have hb2 := Only.below' hb1 o2 hb1.size m1.foot_ge
  go_wp2_with fail
  refine (take_any m2 5 1 (by omega) (by omega) (by omega) (by omega)).mono ?_
  rintro e w3 ⟨rfl, s3, m3, o3, _⟩
  rw [e4.out]
  rw [e5.out] at m3
  have hb3 := Only.below' hb2 o3 hb2.size m2.foot_ge
  go_wp2_with fail
  refine (room_any m3 4 (by omega) (by omega)).mono ?_
  rintro e w4 ⟨rfl, b4⟩
  rw [e6.out]
  have m4 := m3.below b4
  have hb4 : Below w.heap.size w w4 := hb3.trans (b4.mono hb3.size)
  go_wp2_with fail
  refine (room_any m4 5 (by omega) (by omega)).mono ?_
  rintro e w5 ⟨rfl, b5⟩
  rw [e7.out]
  have m5 := m4.below b5
  have hb5 : Below w.heap.size w w5 := hb4.trans (b5.mono hb4.size)
  go_wp2_with fail
  refine (used_any m5).mono ?_
  rintro e w6 ⟨rfl, b6⟩
  rw [e8.out]
  have m6 := m5.below b6
  have hb6 : Below w.heap.size w w6 := hb5.trans (b6.mono hb5.size)
  go_wp2_with fail
  refine (give_any m6 2).mono ?_
  rintro e w7 ⟨rfl, s7, m7, o7, _⟩
  rw [e9.out]
  rw [e10.out] at m7
  have hb7 := Only.below' hb6 o7 hb6.size m6.foot_ge
  go_wp2_with fail
  refine (room_any m7 10 (by omega) (by omega)).mono ?_
  rintro e w8 ⟨rfl, b8⟩
  rw [e11.out]
  have hb8 : Below w.heap.size w w8 := hb7.trans (b8.mono hb7.size)
  go_wp2
  go_ret
  exact ⟨rfl, hb8⟩
end Go.Proofs.Ytpplmgahpohbmab
