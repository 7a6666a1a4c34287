/- Texts bound together: JobS MchL. -/
import Derived.Test.YtcgakbgmdabnkaaGreatBn32

import Derived.Test.YtcgakbgmdabnkaaGreatBn17

set_option linter.all false
/- A Malloc in memory: its Step. -/
namespace Go.Proofs.YtcgakbgmdabnkaaGreat

open Go.RowKit

attribute [local go_sem ↓] Go.wp_at_zero Go.wp_at_succ

theorem MalO.resStep {F : Nat → Prop} {q p b : Nat} {s : Sh} {cl : Int} {r : Rs} {c : Option Cm} {m : Mem} {w : World} (h : MalO F w q s cl r c) (hw : WdsAt w p b m) (hp : ¬ F p) (hb : ¬ F b) (hf : Fits s m) (ho : (∀ x, r.seeker = some x → skOk s x) ∧ (∀ x, r.runner = some x → rnOk s x)) (hs : m.st < 1000000000) :
    ∃ q1, w.cell? ⟨q, 0, .none⟩ = some (.pointer (some ⟨q1, 0, .none⟩)) ∧ (Calls Tryz.prog 166 #[.pointer (some ⟨q1, 0, .none⟩)] w fun e w' => e = .returned (.bool r.done) ∧ w' = w) ∧
      Calls Tryz.prog 215 #[.pointer (some ⟨q1, 0, .none⟩), .pointer (some ⟨p, 0, .none⟩)] w fun e w' => OStep F p b w w' e (rsStep s r m).2 ∧ MalO (grow F w w') w' q s cl (rsStep s r m).1 c := by
  obtain ⟨hF, h1, q1, q2, F1, hF1, hrow, hr, hc⟩ := h
  refine ⟨q1, hrow.cell 0, rsdone_any hr, (rsstep_any hr hw (fun e => hp (hF1 p e).1) (fun e => hb (hF1 b e).1) hf ho hs).mono fun e w' hS => ?_⟩
  obtain ⟨hO, hR⟩ := hS
  have hsz := hO.only.size
  have hq : ¬ (F1 q ∨ q = p ∨ q = b) := by
    rintro (e | e | e)
    · exact (hF1 q e).2 rfl
    · exact hp (e ▸ h1)
    · exact hb (e ▸ h1)
  have hout : ∀ k, F k → ¬ F1 k → ¬ (F1 k ∨ k = p ∨ k = b) := fun k hk hk1 e => by
    rcases e with e | e | e
    · exact hk1 e
    · exact hp (e ▸ hk)
    · exact hb (e ▸ hk)
  have hng : ∀ k, F k → ¬ F1 k → ¬ grow F1 w w' k := fun k hk hk1 e => by
    rcases e with e | e
    · exact hk1 e
    · have := hF k hk; omega
  refine ⟨⟨hO.ret, hO.wds, hO.only.weak fun k hk => hk.imp (fun e => (hF1 k e).1) id⟩, grow_lt hF hsz, .inl h1, q1, q2, grow F1 w w', fun k hk => ?_, hrow.only hO.only hq, hR, ?_⟩
  · rcases hk with hk | hk
    · exact ⟨.inl (hF1 k hk).1, (hF1 k hk).2⟩
    · exact ⟨.inr hk, fun e => by have := hF q h1; omega⟩
  · intro x hx
    obtain ⟨⟨a1, a2, a3⟩, a4⟩ := hc x hx
    exact ⟨⟨.inl a1, a2, hng _ a1 a3⟩, a4.only hO.only (hout _ a1 a3)⟩
set_option maxRecDepth 100000 in
set_option maxHeartbeats 4000000 in
theorem malstep_any {F : Nat → Prop} {q p b : Nat} {s : Sh} {cl : Int} {r : Rs} {c : Option Cm} {m : Mem} {w : World} (h : MalO F w q s cl r c) (hw : WdsAt w p b m) (hp : ¬ F p) (hb : ¬ F b) (hf : Fits s m) (ho : (∀ x, r.seeker = some x → skOk s x) ∧ (∀ x, r.runner = some x → rnOk s x)) (hs : m.st < 1000000000)
    (hcase : r.done = false ∨ (r.done = true ∧ c = none ∧ ∃ b, r.got = some b)) :
    Calls Tryz.prog 211 #[.pointer (some ⟨q, 0, .none⟩), .pointer (some ⟨p, 0, .none⟩)] w fun e w' => OStep F p b w w' e (Jb.step s cl m (.mal r c)).2 ∧ ∃ r' c', (Jb.step s cl m (.mal r c)).1 = .mal r' c' ∧ MalO (grow F w w') w' q s cl r' c' := by
  obtain ⟨q1, c0, hdn, hst⟩ := h.resStep hw hp hb hf ho hs
  rcases hcase with hrd | ⟨hrd, rfl, ⟨bl, bp, bs, bk, bn⟩, hg⟩
  · have hr : Jb.step s cl m (.mal r c) = (.mal (rsStep s r m).1 c, (rsStep s r m).2) := by unfold Jb.step; dsimp only; rw [if_pos hrd]
    rw [hr]
    rw [hrd] at hdn
    replace hdn := Lib.hid hdn
    replace hst := Lib.hid hst
    have hfin : ∀ (e : Ending) (w3 : World), OStep F p b w w3 e (rsStep s r m).2 ∧ MalO (grow F w w3) w3 q s cl (rsStep s r m).1 c → OStep F p b w w3 e (rsStep s r m).2 ∧ ∃ r' c', (Jb.mal (rsStep s r m).1 c, (rsStep s r m).2).1 = .mal r' c' ∧ MalO (grow F w w3) w3 q s cl r' c' := fun e w3 hh => ⟨hh.1, _, _, rfl, hh.2⟩
    replace hfin := Lib.hid hfin
    dsimp only at hfin ⊢
    have lq : q < w.heap.size := h.1 q h.2.1
    clear h hr hw hp hb hf ho hs hrd
    go_enter Tryz.func211, Tryz.ntmps211
    go_wp2_with (first
      | (go_at_call 166; (with_reducible refine hdn.out.mono ?_); rintro r w2 ⟨rfl, hw2⟩; obtain rfl := hw2.symm)
      | (go_at_call 215; (with_reducible refine hst.out.mono ?_); rintro r w3 hS; obtain rfl := hS.1.ret)
      | fail)
    go_returns
    exact hfin.out _ _ hS
  · have hr : Jb.step s cl m (.mal r none) = (.mal r (some (cmStep s (cmNew s cl ⟨bl, bp, bs, bk, bn⟩) m).1), (cmStep s (cmNew s cl ⟨bl, bp, bs, bk, bn⟩) m).2) := by
      unfold Jb.step; dsimp only; rw [if_neg (by rw [hrd]; decide)]
      have : malCom s cl r none = some (cmNew s cl ⟨bl, bp, bs, bk, bn⟩) := by unfold malCom; rw [hg]
      rw [this]
    rw [hr]
    rw [hrd] at hdn
    replace hdn := Lib.hid hdn
    clear hst hr
    obtain ⟨hF, h1, q1', q2, F1, hF1, hrow, hrs, _⟩ := h
    have eq1 : q1' = q1 := by
      have := (hrow.cell 0).symm.trans c0
      simpa [malCells] using this
    subst eq1
    have lq : q < w.heap.size := hF q h1
    have hfo := rsfound_any hrs
    rw [hg] at hfo
    replace hfo : Calls Tryz.prog 163 #[.pointer (some ⟨q1', 0, .none⟩)] w fun e w' => e = .returned (.tuple #[.agg #[.bool bl, .int .i64 bp, .int .i64 bs, .int .i64 bk, .int .i64 bn], .bool true]) ∧ Below w.heap.size w w' := hfo
    replace hfo := Lib.hid hfo
    have gn := fun W => cmnew_any s cl ⟨bl, bp, bs, bk, bn⟩ W
    dsimp only at gn
    have hcs := fun Y q6 (hY : RowAt Y q6 (cmCells s (cmNew s cl ⟨bl, bp, bs, bk, bn⟩)) 271) (hwY : WdsAt Y p b m) (h6p : q6 ≠ p) (h6b : q6 ≠ b) => cmstep_any q6 p b s (cmNew s cl ⟨bl, bp, bs, bk, bn⟩) m Y hY hwY h6p h6b hf (cmNew_ok _ _ _) hs
    have hpl := hw.ltp
    have hbl := hw.ltb
    have hqp : q ≠ p := fun e => hp (e ▸ h1)
    have hqb : q ≠ b := fun e => hb (e ▸ h1)
    have hfin : ∀ (w4 w6 : World) (e : Ending) (q6 : Nat), Below w.heap.size w w4 → w4.heap.size ≤ w6.heap.size → RowAt w6 q (malCells s cl (.pointer (some ⟨q1', 0, .none⟩)) (.pointer (some ⟨q6, 0, .none⟩))) 182 → w.heap.size ≤ q6 → RowAt w6 q6 (cmCells s (cmStep s (cmNew s cl ⟨bl, bp, bs, bk, bn⟩) m).1) 271 → WdsAt w6 p b (cmStep s (cmNew s cl ⟨bl, bp, bs, bk, bn⟩) m).2 → Only (fun k => k = q ∨ k = p ∨ k = b) w w6 →
        OStep F p b w w6 (.returned (.tuple #[])) (cmStep s (cmNew s cl ⟨bl, bp, bs, bk, bn⟩) m).2 ∧ ∃ r' c', Jb.mal r (some (cmStep s (cmNew s cl ⟨bl, bp, bs, bk, bn⟩) m).1) = .mal r' c' ∧ MalO (grow F w w6) w6 q s cl r' c' := fun w4 w6 e q6 hb4 hs6 hrow6 hq6 hc6 hw6 hon => by
      have hsz := hon.size
      refine ⟨⟨rfl, hw6, hon.weak fun k hk => ?_⟩, _, _, rfl, grow_lt hF hsz, .inl h1, q1', q6, F1, fun k hk => ⟨.inl (hF1 k hk).1, (hF1 k hk).2⟩, hrow6, hrs.only hon (fun k hk hh => ?_), fun x hx => ?_⟩
      · rcases hk with rfl | hk | hk
        · exact .inl h1
        · exact .inr (.inl hk)
        · exact .inr (.inr hk)
      · rcases hh with rfl | rfl | rfl
        · exact (hF1 _ hk).2 rfl
        · exact hp (hF1 _ hk).1
        · exact hb (hF1 _ hk).1
      · injection hx with hx
        subst hx
        exact ⟨⟨.inr ⟨hq6, hc6.lt⟩, fun e => by omega, fun e => by have := hF _ (hF1 _ e).1; omega⟩, hc6⟩
    generalize cmStep s (cmNew s cl ⟨bl, bp, bs, bk, bn⟩) m = cs6 at *
    generalize cmNew s cl ⟨bl, bp, bs, bk, bn⟩ = cm0 at *
    replace hcs := Lib.hid hcs
    replace hfin := Lib.hid hfin
    dsimp only at hfin ⊢
    obtain ⟨sp, sc, sm⟩ := s
    dsimp only at gn
    replace gn := Lib.hid gn
    clear hp hb hf ho hs hrd hg hF h1 hF1 hrs
    go_enter Tryz.func211, Tryz.ntmps211
    go_upto_region 3 with (first
      | (go_at_call 166; (with_reducible refine hdn.out.mono ?_); rintro r w2 ⟨rfl, hw2⟩; obtain rfl := hw2.symm)
      | (go_at_call 163; (with_reducible refine hfo.out.mono ?_); rintro r w3 ⟨rfl, hb3⟩)
      | fail)
    have hbX := hb3.trans ((Below.refl w.heap.size w3).alloc hb3.size (.cells #[.bool bl, .int .i64 bp, .int .i64 bs, .int .i64 bk, .int .i64 bn] 197))
    have hEX : RowAt (w3.alloc (.cells #[.bool bl, .int .i64 bp, .int .i64 bs, .int .i64 bk, .int .i64 bn] 197)) w3.heap.size #[.bool bl, .int .i64 bp, .int .i64 bs, .int .i64 bk, .int .i64 bn] 197 := heap_alloc_new _ _
    have hEw : w.heap.size ≤ w3.heap.size := hb3.size
    generalize w3.alloc (.cells #[.bool bl, .int .i64 bp, .int .i64 bs, .int .i64 bk, .int .i64 bn] 197) = X at *
    obtain ⟨E, hEE, hEE'⟩ : ∃ E, Hid (E = w3.heap.size) ∧ E = w3.heap.size := ⟨_, Lib.hid rfl, rfl⟩
    simp only [← hEE'] at hEX hEw ⊢
    have hqE : q ≠ E := by omega
    clear hEE' hEE hb3 c0 hfo hdn
    have hrX : RowAt X q (malCells ⟨sp, sc, sm⟩ cl (.pointer (some ⟨q1', 0, .none⟩)) (.pointer none)) 182 := hrow.below hbX
    have hwX := hw.below hbX
    have lX : q < X.heap.size := hrX.lt
    have x0 : X.cell? ⟨q, 0, .none⟩ = some (.pointer (some ⟨q1', 0, .none⟩)) := hrX.cell 0
    have x1 : X.cell? ⟨q, 1, .none⟩ = some (.pointer none) := hrX.cell 1
    go_upto_region 4 with fail
    have hrd := hrX.drew
    have hEd := hEX.drew
    have hwd := hwX.drew
    have hbd := hbX.drew
    clear x0 x1 lX
    have lX : q < X.drew.heap.size := hrd.lt
    have lE : E < X.drew.heap.size := hEd.lt
    have hS := Lib.hid (fun (Y : World) (v : Value) (h : RowAt Y q (malCells ⟨sp, sc, sm⟩ cl (.pointer (some ⟨q1', 0, .none⟩)) v) 182) (h2 : RowAt Y E #[.bool bl, .int .i64 bp, .int .i64 bs, .int .i64 bk, .int .i64 bn] 197) => (⟨h.cell 2, h.cell 3, h.cell 4, h.cell 5, h2.cell 0, h2.cell 1, h2.cell 2, h2.cell 3, h2.cell 4⟩ : Y.cell? ⟨q, 2, .none⟩ = some (.int .i64 sp) ∧ Y.cell? ⟨q, 3, .none⟩ = some (.int .i64 sc) ∧ Y.cell? ⟨q, 4, .none⟩ = some (.int .i64 sm) ∧ Y.cell? ⟨q, 5, .none⟩ = some (.int .i64 cl) ∧ Y.cell? ⟨E, 0, .none⟩ = some (.bool bl) ∧ Y.cell? ⟨E, 1, .none⟩ = some (.int .i64 bp) ∧ Y.cell? ⟨E, 2, .none⟩ = some (.int .i64 bs) ∧ Y.cell? ⟨E, 3, .none⟩ = some (.int .i64 bk) ∧ Y.cell? ⟨E, 4, .none⟩ = some (.int .i64 bn)))
    go_region_held3 (fun Y => Y.cell? ⟨q, 2, .none⟩ = some (.int .i64 sp) ∧ Y.cell? ⟨q, 3, .none⟩ = some (.int .i64 sc) ∧ Y.cell? ⟨q, 4, .none⟩ = some (.int .i64 sm) ∧ Y.cell? ⟨q, 5, .none⟩ = some (.int .i64 cl) ∧ Y.cell? ⟨E, 0, .none⟩ = some (.bool bl) ∧ Y.cell? ⟨E, 1, .none⟩ = some (.int .i64 bp) ∧ Y.cell? ⟨E, 2, .none⟩ = some (.int .i64 bs) ∧ Y.cell? ⟨E, 3, .none⟩ = some (.int .i64 bk) ∧ Y.cell? ⟨E, 4, .none⟩ = some (.int .i64 bn))
      (first | exact hS.out _ _ hrd hEd | exact hS.out _ _ hC hE6 | exact hS.out _ _ ((hC.set 1 _).cast rfl) (hE6.other (fun e => hqE e.symm) _ _) | fail)
      (first
        | (go_at_call 169; (with_reducible refine (gn.out _).mono ?_); rintro r w6 ⟨q6, rfl, hq6, hrow6, hb6⟩; have hC := hrd.below hb6; have hE6 := hEd.below hb6; have z1 : w6.cell? ⟨q, 1, .none⟩ = some (.pointer none) := hC.cell 1; have zf := rowFree hC)
        | fail)
    have h61 := hb6.size
    have hlw : w.heap.size ≤ X.drew.heap.size := hbd.size
    have hq6q : q6 ≠ q := by omega
    have hq6p : q6 ≠ p := by omega
    have hq6b : q6 ≠ b := by omega
    have hw6 := (hwd.below hb6).other hqp hqb 1 (.pointer (some ⟨q6, 0, .none⟩))
    have hr6 := (hC.set 1 (.pointer (some ⟨q6, 0, .none⟩))).cast (cs' := malCells ⟨sp, sc, sm⟩ cl (.pointer (some ⟨q1', 0, .none⟩)) (.pointer (some ⟨q6, 0, .none⟩))) rfl
    have hn6 := hrow6.other hq6q 1 (.pointer (some ⟨q6, 0, .none⟩))
    have ho6 : Only (fun k => k = q) w (w6.setCell ⟨q, 1, .none⟩ (.pointer (some ⟨q6, 0, .none⟩))) := Only.setCell (F := fun k => k = q) (Only.of_below (belowTrans hbd hb6)) (.inl rfl) _
    have hbz : Below w.heap.size w w6 := belowTrans hbd hb6
    have hsz : w6.heap.size = (w6.setCell ⟨q, 1, .none⟩ (.pointer (some ⟨q6, 0, .none⟩))).heap.size := (size_set _ _ _).symm
    clear hC hE6 z1 zf hrd hEd hwd hbd hrow6 hb6 hS hrX hwX hEX
    generalize w6.setCell ⟨q, 1, .none⟩ (.pointer (some ⟨q6, 0, .none⟩)) = Z at *
    have y1 : Z.cell? ⟨q, 1, .none⟩ = some (.pointer (some ⟨q6, 0, .none⟩)) := hr6.cell 1
    have lZ : q < Z.heap.size := hr6.lt
    have hgo := Lib.hid (hcs.out Z q6 hn6 hw6 hq6p hq6b)
    clear hcs gn
    go_wp2_with (first
      | (go_at_call 216; (with_reducible refine hgo.out.mono ?_); rintro r w8 hSt; obtain rfl := hSt.ret)
      | fail)
    go_returns
    have hs8 := hSt.only.size
    refine hfin.out w6 _ (.returned (.tuple #[])) q6 hbz (by omega) (hr6.only hSt.only ?_) (by omega) hSt.row hSt.wds ?_
    · rintro (e | e | e)
      · exact hq6q e.symm
      · exact hqp e
      · exact hqb e
    · refine (ho6.weak (G := fun k => k = q ∨ k = p ∨ k = b) (fun k hk => .inl hk)).trans hSt.only (fun k hk hh => ?_)
      rcases hh with rfl | hh | hh
      · omega
      · exact .inr (.inl hh)
      · exact .inr (.inr hh)
end Go.Proofs.YtcgakbgmdabnkaaGreat
/- How many accesses the simple machines do at most, and that a step is one access of their client's. Plain. -/
namespace Go.Proofs.YtcgakbgmdabnkaaGreat

/-- One access of a client to a word that is there. -/
inductive Acts (c : Int) (m : Mem) : Mem → Prop
  | load {a : Int} (h : m.has a) : Acts c m (m.load c a)
  | store {a x : Int} (h : m.has a) (hx : 0 ≤ x ∧ x < 18446744073709551616) : Acts c m (m.store c a x)
  | swap {a y x : Int} (h : m.has a) (hx : 0 ≤ x ∧ x < 18446744073709551616) : Acts c m (m.swap c a y x)
theorem Acts.st {c : Int} {m m' : Mem} (h : Acts c m m') : m'.st = m.st + 1 := by cases h <;> rfl
theorem Acts.len {c : Int} {m m' : Mem} (h : Acts c m m') : m'.ws.length = m.ws.length := by cases h <;> simp
theorem Acts.fits {s : Sh} {c : Int} {m m' : Mem} (h : Acts c m m') (hf : Fits s m) : Fits s m' := hf.of_len h.len
theorem fit_set {m : Mem} {k : Nat} {x st : Int} {la : Acc} (hf : m.fit) (hx : 0 ≤ x ∧ x < 18446744073709551616) : Mem.fit ⟨m.ws.set k x, st, la⟩ := by
  intro y hy
  rcases List.mem_or_eq_of_mem_set hy with h | h
  · exact hf y h
  · rw [h]; exact hx
theorem Acts.fit {c : Int} {m m' : Mem} (h : Acts c m m') (hf : m.fit) : m'.fit := by
  cases h with
  | load _ => exact hf
  | store _ hx => exact fit_set hf hx
  | swap _ hx =>
    unfold Mem.swap
    split
    · exact fit_set hf hx
    · exact hf
theorem Acts.of {c c' : Int} {m m' : Mem} (h : Acts c m m') (e : c = c') : Acts c' m m' := e ▸ h
theorem Fits.magA {s : Sh} {m : Mem} (h : Fits s m) {x i : Int} (hx : 0 ≤ x ∧ x < s.c) (hi : 0 ≤ i ∧ i < s.m) : m.has (magIx s.p s.c s.m x i) := by rw [(h.mag hx hi).1]; exact (h.mag hx hi).2
theorem Fits.slotA {s : Sh} {m : Mem} (h : Fits s m) {x i : Int} (hx : 0 ≤ x ∧ x < s.p) (hi : 0 ≤ i ∧ i < 16) : m.has (slotIx s.p s.c s.m x i) := by rw [(h.slot hx hi).1]; exact (h.slot hx hi).2
theorem Fits.pageA {s : Sh} {m : Mem} (h : Fits s m) {x : Int} (hx : 0 ≤ x ∧ x < s.p) : m.has (pageIx s.p s.c s.m x) := by rw [(h.page hx).1]; exact (h.page hx).2
theorem Fits.statusA {s : Sh} {m : Mem} (h : Fits s m) {x : Int} (hx : 0 ≤ x ∧ x < s.c) : m.has (statusIx s.p s.c s.m x) := by rw [(h.status hx).1]; exact (h.status hx).2
theorem word0 : (0 : Int) ≤ 0 ∧ (0 : Int) < 18446744073709551616 := by decide
theorem openW_u64 (k : Int) : 0 ≤ openW k ∧ openW k < 18446744073709551616 := slotV_u64 _ _
theorem wayW_u64 (k : Int) : 0 ≤ wayW k ∧ wayW k < 18446744073709551616 := slotV_u64 _ _
theorem takenW_u64 (k : Int) : 0 ≤ takenW k ∧ takenW k < 18446744073709551616 := slotV_u64 _ _
theorem heldW_u64 (k : Int) : 0 ≤ heldW k ∧ heldW k < 18446744073709551616 := pageV_u64 _ _ _

def tkLeft (s : Sh) (t : Tk) : Int := if t.done = true then 0 else if t.hit = true then 1 else s.m - t.i + 1
theorem tk_pos {s : Sh} {t : Tk} (h : tkOk s t) (hd : t.done = false) : 1 ≤ tkLeft s t := by
  have := h.cl hd
  unfold tkLeft
  rw [if_neg (by rw [hd]; decide)]
  split <;> omega
theorem tk_step {s : Sh} {t : Tk} {m : Mem} (h : tkOk s t) (hd : t.done = false) (hf : Fits s m) : Acts t.c m (tkStep s t m).2 ∧ (tkStep s t m).1.c = t.c ∧ tkLeft s (tkStep s t m).1 + 1 ≤ tkLeft s t := by
  have hc := h.cl hd
  have hm := hf.magA hc.1 hc.2
  have hnd : ¬ t.done = true := by rw [hd]; decide
  unfold tkStep tkLeft
  dsimp only
  rw [if_neg hnd]
  by_cases hh : t.hit = true
  · rw [if_pos hh]
    refine ⟨.store hm word0, rfl, ?_⟩
    simp only [if_true, hh, hd, Bool.false_eq_true, if_false]
    omega
  · rw [if_neg hh]
    split
    · refine ⟨.load hm, rfl, ?_⟩
      simp only [if_true, hh, hd, Bool.false_eq_true, if_false]
      omega
    · refine ⟨.load hm, rfl, ?_⟩
      simp only [hh, hd, Bool.false_eq_true, if_false, decide_eq_true_eq]
      split <;> omega
theorem tk_new (s : Sh) (c k : Int) (hm : 0 ≤ s.m) : tkLeft s (tkNew s c k) ≤ s.m + 1 ∧ (tkNew s c k).c = c := by
  refine ⟨?_, rfl⟩
  unfold tkLeft tkNew
  dsimp only
  split
  · omega
  · rw [if_neg (by decide)]; omega
theorem tk_nonneg {s : Sh} {t : Tk} (h : tkOk s t) : 0 ≤ tkLeft s t := by
  rcases Bool.eq_false_or_eq_true t.done with hd | hd
  · unfold tkLeft; rw [if_pos hd]; omega
  · have := tk_pos h hd; omega

def puLeft (s : Sh) (t : Pu) : Int := if t.done = true then 0 else if t.hit = true then 1 else s.m - t.i + 1
theorem pu_pos {s : Sh} {t : Pu} (h : puOk s t) (hd : t.done = false) : 1 ≤ puLeft s t := by
  have := h.cl hd
  unfold puLeft
  rw [if_neg (by rw [hd]; decide)]
  split <;> omega
theorem pu_step {s : Sh} {t : Pu} {m : Mem} (h : puOk s t) (hd : t.done = false) (hf : Fits s m) : Acts t.c m (puStep s t m).2 ∧ (puStep s t m).1.c = t.c ∧ puLeft s (puStep s t m).1 + 1 ≤ puLeft s t := by
  have hc := h.cl hd
  have hm := hf.magA hc.1 hc.2
  have hnd : ¬ t.done = true := by rw [hd]; decide
  unfold puStep puLeft
  dsimp only
  rw [if_neg hnd]
  by_cases hh : t.hit = true
  · rw [if_pos hh]
    refine ⟨.store hm (putV_u64 _ _ (by decide) (by simp)), rfl, ?_⟩
    simp only [if_true, hh, hd, Bool.false_eq_true, if_false]
    omega
  · rw [if_neg hh]
    split
    · refine ⟨.load hm, rfl, ?_⟩
      simp only [if_true, hh, hd, Bool.false_eq_true, if_false]
      omega
    · refine ⟨.load hm, rfl, ?_⟩
      simp only [hh, hd, Bool.false_eq_true, if_false, decide_eq_true_eq]
      split <;> omega
theorem pu_new (s : Sh) (c pg sl k : Int) (hm : 0 ≤ s.m) : puLeft s (puNew s c pg sl k) ≤ s.m + 1 ∧ (puNew s c pg sl k).c = c := by
  refine ⟨?_, rfl⟩
  unfold puLeft puNew
  dsimp only
  split
  · omega
  · rw [if_neg (by decide)]; omega
theorem pu_nonneg {s : Sh} {t : Pu} (h : puOk s t) : 0 ≤ puLeft s t := by
  rcases Bool.eq_false_or_eq_true t.done with hd | hd
  · unfold puLeft; rw [if_pos hd]; omega
  · have := pu_pos h hd; omega

def scLeft (s : Sh) (t : Sc) : Int := if t.done = true then 0 else (s.p - t.many - 1) * 33 + (if t.next = 0 then 33 else if t.next = 1 then 2 * (slotsV t.k - t.i) else 2 * (slotsV t.k - t.i) - 1)
theorem sc_pos {s : Sh} {t : Sc} (h : scOk s t) (hd : t.done = false) : 1 ≤ scLeft s t := by
  have := h.cl hd
  unfold scLeft
  rw [if_neg (by rw [hd]; decide)]
  split <;> (try split) <;> omega
theorem sc_turn {s : Sh} {t : Sc} (h : t.many < s.p) : scLeft s (t.turn s) ≤ (s.p - t.many - 1) * 33 ∧ (t.turn s).c = t.c := by
  refine ⟨?_, rfl⟩
  unfold scLeft Sc.turn
  dsimp only
  simp only [decide_eq_true_eq, if_true]
  split <;> omega
theorem sc_miss {s : Sh} {t : Sc} (hd : t.done = false) (h : t.many < s.p) (hi : t.i < slotsV t.k) : scLeft s (t.miss s) ≤ (s.p - t.many - 1) * 33 + 2 * (slotsV t.k - t.i) - 2 ∧ (t.miss s).c = t.c := by
  unfold Sc.miss
  split
  · have := sc_turn (t := { t with i := t.i + 1, next := 1 }) h
    dsimp only at this
    exact ⟨by omega, this.2⟩
  · refine ⟨?_, rfl⟩
    unfold scLeft
    dsimp only
    rw [if_neg (by rw [hd]; decide), if_neg (by decide), if_pos rfl]
    omega
theorem sc_step {s : Sh} {t : Sc} {m : Mem} (h : scOk s t) (hd : t.done = false) (hf : Fits s m) : Acts t.c m (scStep s t m).2 ∧ (scStep s t m).1.c = t.c ∧ scLeft s (scStep s t m).1 + 1 ≤ scLeft s t := by
  obtain ⟨hc, hk, hfi, hma, hi, hn⟩ := h.cl hd
  have hsl := slotsV_ok hk
  have hpg : 0 ≤ t.page s ∧ t.page s < s.p := ⟨Int.emod_nonneg _ (by omega), Int.emod_lt_of_pos _ (by omega)⟩
  have hm1 := hf.pageA hpg
  have hm2 := hf.slotA (i := t.i) hpg (by omega)
  have hnd : ¬ t.done = true := by rw [hd]; decide
  have ht := sc_turn (t := t) (s := s) hma.2
  have hmi := sc_miss (t := t) (s := s) hd hma.2 hi.2
  have hL : scLeft s t = (s.p - t.many - 1) * 33 + (if t.next = 0 then 33 else if t.next = 1 then 2 * (slotsV t.k - t.i) else 2 * (slotsV t.k - t.i) - 1) := by unfold scLeft; rw [if_neg hnd]
  rw [hL]
  unfold scStep
  dsimp only
  rw [if_neg hnd]
  by_cases n0 : t.next = 0
  · rw [if_pos n0, if_pos n0]
    dsimp only
    refine ⟨.load hm1, ?_, ?_⟩
    · split
      · rfl
      · exact ht.2
    · split
      · unfold scLeft
        dsimp only
        rw [if_neg hnd, if_neg (by decide), if_pos rfl]
        omega
      · omega
  · rw [if_neg n0, if_neg n0]
    by_cases n1 : t.next = 1
    · rw [if_pos n1, if_pos n1]
      dsimp only
      refine ⟨.load hm2, ?_, ?_⟩
      · split
        · rfl
        · exact hmi.2
      · split
        · unfold scLeft
          dsimp only
          rw [if_neg hnd, if_neg (by decide), if_neg (by decide)]
          omega
        · omega
    · rw [if_neg n1, if_neg n1]
      dsimp only
      refine ⟨.swap hm2 (wayW_u64 _), ?_, ?_⟩
      · split
        · rfl
        · exact hmi.2
      · split
        · unfold scLeft
          dsimp only
          rw [if_pos rfl]
          omega
        · omega
theorem sc_new (s : Sh) (c k f : Int) (hp : 1 ≤ s.p) : scLeft s (scNew s c k f) ≤ 33 * s.p ∧ (scNew s c k f).c = c := by
  refine ⟨?_, rfl⟩
  unfold scLeft scNew
  dsimp only
  split
  · omega
  · rw [if_pos rfl]; omega
theorem sc_nonneg {s : Sh} {t : Sc} (h : scOk s t) : 0 ≤ scLeft s t := by
  rcases Bool.eq_false_or_eq_true t.done with hd | hd
  · unfold scLeft; rw [if_pos hd]; omega
  · have := sc_pos h hd; omega

def pcLeft (s : Sh) (t : Pc) : Int := if t.done = true then 0 else 2 * (s.p - t.many) - (if t.empty = true then 1 else 0)
theorem pc_pos {s : Sh} {t : Pc} (h : pcOk s t) (hd : t.done = false) : 1 ≤ pcLeft s t := by
  have := h.cl hd
  unfold pcLeft
  rw [if_neg (by rw [hd]; decide)]
  split <;> omega
theorem pc_step {s : Sh} {t : Pc} {m : Mem} (h : pcOk s t) (hd : t.done = false) (hf : Fits s m) : Acts t.c m (pcStep s t m).2 ∧ (pcStep s t m).1.c = t.c ∧ pcLeft s (pcStep s t m).1 + 1 ≤ pcLeft s t := by
  obtain ⟨hc, hfi, hma⟩ := h.cl hd
  have hpg : 0 ≤ t.page s ∧ t.page s < s.p := ⟨Int.emod_nonneg _ (by omega), Int.emod_lt_of_pos _ (by omega)⟩
  have hm1 := hf.pageA hpg
  have hnd : ¬ t.done = true := by rw [hd]; decide
  have hL : pcLeft s t = 2 * (s.p - t.many) - (if t.empty = true then 1 else 0) := by unfold pcLeft; rw [if_neg hnd]
  rw [hL]
  unfold pcStep
  dsimp only
  rw [if_neg hnd]
  cases he : t.empty
  · rw [if_pos rfl]
    dsimp only
    refine ⟨.load hm1, ?_, ?_⟩
    · split <;> rfl
    · split
      · unfold pcLeft
        dsimp only
        rw [if_neg hnd, if_pos rfl, if_neg (by decide)]
        omega
      · unfold pcLeft
        dsimp only
        simp only [decide_eq_true_eq, Bool.false_eq_true, if_false]
        split <;> omega
  · rw [if_neg (by decide)]
    dsimp only
    refine ⟨.swap hm1 (heldW_u64 _), ?_, ?_⟩
    · split <;> rfl
    · split
      · unfold pcLeft
        dsimp only
        simp only [if_true]
        omega
      · unfold pcLeft
        dsimp only
        simp only [decide_eq_true_eq, Bool.false_eq_true, if_false, if_true]
        split <;> omega
theorem pc_new (s : Sh) (c f : Int) (hp : 1 ≤ s.p) : pcLeft s (pcNew s c f) ≤ 2 * s.p ∧ (pcNew s c f).c = c := by
  refine ⟨?_, rfl⟩
  unfold pcLeft pcNew
  dsimp only
  split
  · omega
  · rw [if_neg (by decide)]; omega
theorem pc_nonneg {s : Sh} {t : Pc} (h : pcOk s t) : 0 ≤ pcLeft s t := by
  rcases Bool.eq_false_or_eq_true t.done with hd | hd
  · unfold pcLeft; rw [if_pos hd]; omega
  · have := pc_pos h hd; omega

def spLeft (t : Sp) : Int := if t.done = true then 0 else if t.back = true then t.i else 2 * slotsV t.k - t.i - 1
theorem sp_pos {s : Sh} {t : Sp} (h : spOk s t) (hd : t.done = false) : 1 ≤ spLeft t := by
  have := h.cl hd
  have h2 := slotsV_ok this.2.2.1
  unfold spLeft
  rw [if_neg (by rw [hd]; decide)]
  split
  · rename_i hb
    have := this.2.2.2.2 hb
    omega
  · omega
theorem sp_step {s : Sh} {t : Sp} {m : Mem} (h : spOk s t) (hd : t.done = false) (hf : Fits s m) : Acts t.c m (spStep s t m).2 ∧ (spStep s t m).1.c = t.c ∧ spLeft (spStep s t m).1 + 1 ≤ spLeft t := by
  obtain ⟨hc, hpg, hk, hi, hb⟩ := h.cl hd
  have hsl := slotsV_ok hk
  have hm1 := hf.pageA hpg
  have hnd : ¬ t.done = true := by rw [hd]; decide
  have hL : spLeft t = if t.back = true then t.i else 2 * slotsV t.k - t.i - 1 := by unfold spLeft; rw [if_neg hnd]
  rw [hL]
  unfold spStep
  rw [if_neg hnd]
  by_cases hbk : t.back = true
  · have hb := hb hbk
    have hm2 := hf.slotA (i := t.i - 1) hpg (by omega)
    rw [if_pos hbk, if_pos hbk]
    refine ⟨.store hm2 (openW_u64 _), rfl, ?_⟩
    unfold spLeft
    dsimp only
    simp only [decide_eq_true_eq, hbk, if_true]
    split <;> omega
  · rw [if_neg hbk, if_neg hbk]
    by_cases hn : t.i = slotsV t.k
    · rw [if_pos hn]
      refine ⟨.store hm1 (heldW_u64 _), rfl, ?_⟩
      unfold spLeft
      dsimp only
      rw [if_pos rfl]
      omega
    · have hm2 := hf.slotA (i := t.i) hpg (by omega)
      rw [if_neg hn]
      dsimp only
      refine ⟨.swap hm2 (wayW_u64 _), ?_, ?_⟩
      · split <;> rfl
      · split
        · unfold spLeft
          dsimp only
          rw [if_neg hnd, if_neg hbk]
          omega
        · unfold spLeft
          dsimp only
          simp only [decide_eq_true_eq, if_true]
          split <;> omega
theorem sp_new (s : Sh) (c pg k : Int) : spLeft (spNew s c pg k) ≤ 31 ∧ (spNew s c pg k).c = c := by
  refine ⟨?_, rfl⟩
  unfold spLeft spNew
  dsimp only
  split
  · omega
  · rename_i h
    have h : 0 < slotsV k := by
      by_cases hk : 0 < slotsV k
      · exact hk
      · simp [hk] at h
    have := slotsV_ok h
    rw [if_neg (by decide)]; omega
theorem sp_nonneg {s : Sh} {t : Sp} (h : spOk s t) : 0 ≤ spLeft t := by
  rcases Bool.eq_false_or_eq_true t.done with hd | hd
  · unfold spLeft; rw [if_pos hd]; omega
  · have := sp_pos h hd; omega

def bnLeft (t : Bn) : Int := if t.done = true then 0 else if t.bound = true then t.i else 16 - t.i + slotsV t.k
theorem bn_pos {s : Sh} {t : Bn} (h : bnOk s t) (hd : t.done = false) : 1 ≤ bnLeft t := by
  have := h.cl hd
  unfold bnLeft
  rw [if_neg (by rw [hd]; decide)]
  split
  · rename_i hb
    have := this.2.2.2.2 hb
    omega
  · omega
theorem bn_step {s : Sh} {t : Bn} {m : Mem} (h : bnOk s t) (hd : t.done = false) (hf : Fits s m) : Acts t.c m (bnStep s t m).2 ∧ (bnStep s t m).1.c = t.c ∧ bnLeft (bnStep s t m).1 + 1 ≤ bnLeft t := by
  obtain ⟨hc, hpg, hk, hi, hb⟩ := h.cl hd
  have hsl := slotsV_ok hk
  have hm1 := hf.pageA hpg
  have hnd : ¬ t.done = true := by rw [hd]; decide
  have hL : bnLeft t = if t.bound = true then t.i else 16 - t.i + slotsV t.k := by unfold bnLeft; rw [if_neg hnd]
  rw [hL]
  unfold bnStep
  rw [if_neg hnd]
  by_cases hbk : t.bound = true
  · have hb := hb hbk
    have hm2 := hf.slotA (i := t.i) hpg (by omega)
    rw [if_pos hbk, if_pos hbk]
    refine ⟨.store hm2 (openW_u64 _), rfl, ?_⟩
    unfold bnLeft
    dsimp only
    simp only [decide_eq_true_eq, hbk, if_true]
    split <;> omega
  · rw [if_neg hbk, if_neg hbk]
    by_cases hn : t.i = 16
    · rw [if_pos hn]
      refine ⟨.store hm1 (pageV_u64 _ _ _), rfl, ?_⟩
      unfold bnLeft
      dsimp only
      rw [if_neg hnd, if_pos rfl]
      omega
    · have hm2 := hf.slotA (i := t.i) hpg (by omega)
      rw [if_neg hn]
      refine ⟨.store hm2 ?_, rfl, ?_⟩
      · split
        · exact wayW_u64 _
        · exact word0
      · unfold bnLeft
        dsimp only
        rw [if_neg hnd, if_neg hbk]
        omega
theorem bn_new (s : Sh) (c pg k : Int) : bnLeft (bnNew s c pg k) ≤ 32 ∧ (bnNew s c pg k).c = c := by
  refine ⟨?_, rfl⟩
  unfold bnLeft bnNew
  dsimp only
  split
  · omega
  · rename_i h
    have h : 0 < slotsV k := by
      by_cases hk : 0 < slotsV k
      · exact hk
      · simp [hk] at h
    have := slotsV_ok h
    rw [if_neg (by decide)]; omega
theorem bn_nonneg {s : Sh} {t : Bn} (h : bnOk s t) : 0 ≤ bnLeft t := by
  rcases Bool.eq_false_or_eq_true t.done with hd | hd
  · unfold bnLeft; rw [if_pos hd]; omega
  · have := bn_pos h hd; omega
end Go.Proofs.YtcgakbgmdabnkaaGreat
