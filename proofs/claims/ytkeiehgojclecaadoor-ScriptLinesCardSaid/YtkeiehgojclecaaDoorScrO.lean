/- The law's arguments: a shape, a row of choices, with bounds. -/
import Derived.Test.YtkeiehgojclecaaDoorSchO

import Derived.Test.YtkeiehgojclecaaDoorScrJ

import Derived.Test.YtkeiehgojclecaaDoorRfG

namespace Go.Proofs.YtkeiehgojclecaaDoor

open Go.RowKit Go.ChangeShapes Go.WideShapes Go.ChangeAt

theorem i64_wf {a : Int} (h : (Lit.int .i64 a).wf = true) : i64 a := by
  simp [Lit.wf, IntKind.min, IntKind.max, IntKind.bits, IntKind.signed] at h
  unfold i64
  omega
section

variable {H : Type} {enc : TypeId × Value → H} {w : World}

theorem rd_opw {es : List Value} (h : Rd enc Tryd.prog w 43 es) : ∃ a b c : Int, es = [.int .i64 a, .int .i64 b, .int .i64 c] ∧ i64 a ∧ i64 b ∧ i64 c := by
  obtain ⟨hl, hf⟩ := rd_struct Tryd.underlying43 h
  have ct : Tryd.prog.cellsOf 43 = 3 := by kernel_rfl
  have k1 : Tryd.prog.cellsOf 3 = 1 := by kernel_rfl
  rw [ct] at hl
  obtain ⟨x, y, z, rfl⟩ := list3 hl
  have g0 : Rd enc Tryd.prog w 3 (([x, y, z].drop 0).take (Tryd.prog.cellsOf 3)) := hf 0 _ rfl
  have g1 : Rd enc Tryd.prog w 3 (([x, y, z].drop 1).take (Tryd.prog.cellsOf 3)) := hf 1 _ rfl
  have g2 : Rd enc Tryd.prog w 3 (([x, y, z].drop 2).take (Tryd.prog.cellsOf 3)) := hf 2 _ rfl
  rw [k1] at g0 g1 g2
  obtain ⟨a, ha, wa⟩ := rd_int Tryd.underlying3 g0
  obtain ⟨b, hb, wb⟩ := rd_int Tryd.underlying3 g1
  obtain ⟨c, hc, wc⟩ := rd_int Tryd.underlying3 g2
  injection ha with ha; injection hb with hb; injection hc with hc
  subst ha hb hc
  exact ⟨a, b, c, rfl, i64_wf wa, i64_wf wb, i64_wf wc⟩
set_option maxRecDepth 20000 in
theorem rd_chw {es : List Value} (hl : es.length = 6) (h : Rd enc Tryd.prog w 45 es) : ∃ c : Ch, c.cells = es ∧ c.wf := by
  obtain ⟨_, hf⟩ := rd_struct Tryd.underlying45 h
  match es, hl with
  | [x0, x1, x2, x3, x4, x5], _ =>
    have k1 : Tryd.prog.cellsOf 3 = 1 := by kernel_rfl
    have k2 : Tryd.prog.cellsOf 43 = 3 := by kernel_rfl
    have k3 : Tryd.prog.cellsOf 40 = 1 := by kernel_rfl
    have g0 : Rd enc Tryd.prog w 3 (([x0, x1, x2, x3, x4, x5].drop 0).take (Tryd.prog.cellsOf 3)) := hf 0 _ rfl
    have g1 : Rd enc Tryd.prog w 3 (([x0, x1, x2, x3, x4, x5].drop 1).take (Tryd.prog.cellsOf 3)) := hf 1 _ rfl
    have g2 : Rd enc Tryd.prog w 43 (([x0, x1, x2, x3, x4, x5].drop 2).take (Tryd.prog.cellsOf 43)) := hf 2 _ rfl
    have g3 : Rd enc Tryd.prog w 40 (([x0, x1, x2, x3, x4, x5].drop 5).take (Tryd.prog.cellsOf 40)) := hf 3 _ rfl
    rw [k1] at g0 g1
    rw [k2] at g2
    rw [k3] at g3
    obtain ⟨a, ha, wa⟩ := rd_int Tryd.underlying3 g0
    obtain ⟨b, hb, wb⟩ := rd_int Tryd.underlying3 g1
    obtain ⟨c, d, e, hc, wc, wd, we⟩ := rd_opw g2
    obtain ⟨f, hd, hw⟩ := rd_float Tryd.underlying40 g3
    injection ha with ha; injection hb with hb; injection hd with hd
    injection hc with h2 hc; injection hc with h3 hc; injection hc with h4 hc
    subst ha hb h2 h3 h4 hd
    exact ⟨⟨a, b, c, d, e, f⟩, rfl, i64_wf wa, i64_wf wb, wc, wd, we, by show f < _; simpa [Lit.wf] using hw⟩
set_option maxRecDepth 20000 in
theorem open_chw {v : Value} {r : Reach} {b0 : Nat} {d : DataW H} {ps : List MemPlace} (hv : Value.okWide Tryd.prog w r b0 22 v) (h0 : DataW.Trod enc Tryd.prog w 0 (fun _ => true) true 22 v d ps) :
    ∃ xs : List Ch, RdC w v xs ∧ ∀ c ∈ xs, c.wf := by
  obtain ⟨xs, h1, h2⟩ := open_list Ch.cells Ch.wf Tryd.underlying22 (sz := 6) (by kernel_rfl) (by omega) (fun _ => rfl) (fun es h1 h2 => rd_chw h1 h2) hv h0
  exact ⟨xs, RdS.c h1, h2⟩
end

theorem showL_length {c : Ch} (hc : c.wf) {s : List UInt8} (h : showL c = some s) : s.length ≤ 100 := by
  obtain ⟨_, w2, _, w4, w5, w6⟩ := hc
  have i2 := Lib.itoa_length_le c.client w2.1 w2.2
  have i4 := Lib.itoa_length_le c.oa w4.1 w4.2
  have i5 := Lib.itoa_length_le c.on w5.1 w5.2
  have i6 := wrL_length w6
  unfold showL askL wordsL at h
  repeat' split at h
  all_goals first
    | cases h; done
    | (injection h with h; subst h; simp; omega)
theorem showsO_length {l : List Ch} (hl : ∀ c ∈ l, c.wf) {t : List UInt8} (h : showsO l = some t) : t.length ≤ 101 * l.length := by
  induction l generalizing t with
  | nil => simp [showsO] at h; subst h; simp
  | cons c r ih =>
    obtain ⟨s, h1, h2⟩ := Option.bind_eq_some_iff.1 h
    obtain ⟨u, h3, rfl⟩ := Option.map_eq_some_iff.1 h2
    have k1 := showL_length (hl c (by simp)) h1
    have k2 := ih (fun d hd => hl d (by simp [hd])) h3
    simp
    omega
theorem headL_length {p c m : Int} (hp : i64 p) (hc : i64 c) (hm : i64 m) : (headL p c m).length ≤ 101 := by
  have := wordsL_length [104, 101, 97, 112] [p, c, m] (by intro z hz; simp at hz; rcases hz with rfl | rfl | rfl <;> assumption)
  unfold headL
  simp at this ⊢
  omega
theorem small_text {p c m : Int} (hp : i64 p) (hc : i64 c) (hm : i64 m) {l : List Ch} (hl : ∀ c ∈ l, c.wf) (hn : l.length ≤ 600) (i : Nat) (t : List UInt8) (h : showsO (l.take i) = some t) : (headL p c m ++ t).length ≤ 65536 := by
  have h1 := headL_length hp hc hm
  have h2 := showsO_length (fun d hd => hl d (List.mem_of_mem_take hd)) h
  have h3 : (l.take i).length ≤ 600 := Nat.le_trans (by rw [List.length_take]; exact Nat.min_le_right _ _) hn
  rw [List.length_append]
  omega
end Go.Proofs.YtkeiehgojclecaaDoor
