/- The law ModelPlays: the walk. -/
import Derived.Test.YtpplmgahpohbmabMdlS
import Derived.Deep.CutBlock
namespace Go.Proofs.Ytpplmgahpohbmab
open Go.RowKit
attribute [local go_sem ↓] Go.wp_at_zero Go.wp_at_succ

/-- A model and the reference's, each in blocks of its own. -/
structure PlayT (B : Nat) (w : World) (s1 : Nat) (sl1 : Value) (s2 : Nat) (sl2 : Value) (W : Int) (la lb : List Bk) : Prop where
  a : PM B w s1 sl1 W la
  b : RM B w s2 sl2 W lb
  apart : ∀ k, foot s1 sl1 k → ¬ foot s2 sl2 k
/-- .. and a deed beside them. -/
structure PlayS (B : Nat) (w : World) (s1 : Nat) (sl1 : Value) (s2 : Nat) (sl2 : Value) (W : Int) (la lb : List Bk) (D : Nat) (x : Dd) : Prop where
  t : PlayT B w s1 sl1 s2 sl2 W la lb
  deed : w.heap[D]? = some (.cells #[.int .i64 x.d, .int .i64 x.a, .int .i64 x.n] 28 (0, 0))
  off1 : ¬ foot s1 sl1 D
  off2 : ¬ foot s2 sl2 D
section
variable {B s1 s2 D : Nat} {w w' : World} {sl1 sl2 sl' : Value} {W : Int} {la lb l' : List Bk} {x : Dd}
theorem Mdl.footLt {T E : TypeId} {B s : Nat} {w : World} {sl : Value} {W : Int} {l : List Bk} (h : Mdl T E B w s sl W l) : ∀ k, foot s sl k → k < w.heap.size := fun k hk => by
  rcases hk with rfl | hk
  · exact h.lt
  · exact (h.rowLt k hk).2
theorem PlayT.below (h : PlayT B w s1 sl1 s2 sl2 W la lb) (hb : Below w.heap.size w w') : PlayT B w' s1 sl1 s2 sl2 W la lb := ⟨h.a.below hb, h.b.below hb, h.apart⟩
theorem PlayT.left (h : PlayT B w s1 sl1 s2 sl2 W la lb) (m : PM B w' s1 sl' W l') (o : Only (foot s1 sl1) w w') (hf : ∀ k, foot s1 sl' k → foot s1 sl1 k ∨ w.heap.size ≤ k) : PlayT B w' s1 sl' s2 sl2 W l' lb :=
  ⟨m, h.b.only o fun k hk hk' => h.apart k hk' hk, fun k hk hk2 => by
    rcases hf k hk with h1 | h1
    · exact h.apart k h1 hk2
    · have := h.b.footLt k hk2; omega⟩
theorem PlayT.right (h : PlayT B w s1 sl1 s2 sl2 W la lb) (m : RM B w' s2 sl' W l') (o : Only (foot s2 sl2) w w') (hf : ∀ k, foot s2 sl' k → foot s2 sl2 k ∨ w.heap.size ≤ k) : PlayT B w' s1 sl1 s2 sl' W la l' :=
  ⟨h.a.only o fun k hk hk' => h.apart k hk hk', m, fun k hk hk2 => by
    rcases hf k hk2 with h1 | h1
    · exact h.apart k hk h1
    · have := h.a.footLt k hk; omega⟩
theorem PlayS.lt (h : PlayS B w s1 sl1 s2 sl2 W la lb D x) : D < w.heap.size := (Array.getElem?_eq_some_iff.1 h.deed).1
theorem PlayS.below (h : PlayS B w s1 sl1 s2 sl2 W la lb D x) (hb : Below w.heap.size w w') : PlayS B w' s1 sl1 s2 sl2 W la lb D x := ⟨h.t.below hb, (hb.block D h.lt).trans h.deed, h.off1, h.off2⟩
theorem PlayS.left (h : PlayS B w s1 sl1 s2 sl2 W la lb D x) (m : PM B w' s1 sl' W l') (o : Only (foot s1 sl1) w w') (hf : ∀ k, foot s1 sl' k → foot s1 sl1 k ∨ w.heap.size ≤ k) : PlayS B w' s1 sl' s2 sl2 W l' lb D x :=
  ⟨h.t.left m o hf, (o.block D h.lt h.off1).trans h.deed, fun hk => by
    rcases hf D hk with h1 | h1
    · exact h.off1 h1
    · have := h.lt; omega, h.off2⟩
theorem PlayS.right (h : PlayS B w s1 sl1 s2 sl2 W la lb D x) (m : RM B w' s2 sl' W l') (o : Only (foot s2 sl2) w w') (hf : ∀ k, foot s2 sl' k → foot s2 sl2 k ∨ w.heap.size ≤ k) : PlayS B w' s1 sl1 s2 sl' W la l' D x :=
  ⟨h.t.right m o hf, (o.block D h.lt h.off2).trans h.deed, h.off1, fun hk => by
    rcases hf D hk with h1 | h1
    · exact h.off2 h1
    · have := h.lt; omega⟩
theorem PlayS.cells (h : PlayS B w s1 sl1 s2 sl2 W la lb D x) : w.cell? ⟨D, 0, .none⟩ = some (.int .i64 x.d) ∧ w.cell? ⟨D, 1, .none⟩ = some (.int .i64 x.a) ∧ w.cell? ⟨D, 2, .none⟩ = some (.int .i64 x.n) :=
  ⟨rowCells h.deed 0, rowCells h.deed 1, rowCells h.deed 2⟩
end
theorem blkV_form (o : Option Bk) : ∃ p q r, blkV o = .tuple #[.agg #[.int .i64 p, .int .i64 q], .bool r] := by
  cases o with
  | none => exact ⟨_, _, _, rfl⟩
  | some b => exact ⟨_, _, _, rfl⟩

set_option maxRecDepth 100000 in
set_option maxHeartbeats 8000000 in
theorem modelPlays_any (z : Int) (xs : List Dd) (v : Value) (w : World) (hr : RdD w v xs) (hf : ∀ x ∈ xs, x.fit) :
    Calls Try.prog 6 #[.int .i64 z, v] w fun e w' => e = .returned (.bool true) ∧ Below w.heap.size w w' := by
  obtain ⟨ao, cap, rfl, hcap, hcm, hrow⟩ := hr.nth
  obtain ⟨N, hN, hN'⟩ : ∃ N, Hid (N = xs.length) ∧ N = xs.length := ⟨_, Lib.hid rfl, rfl⟩
  rw [← hN'] at hcap ⊢
  clear hN'
  by_cases hlong : 100 < N
  · have h1 : (100 : Int) < (N : Int) := by omega
    go_enter Try.func6, Try.ntmps6
    go_wp2_with (go_at_call 7; refine (awake_any _).mono ?_; rintro e w1 ⟨rfl, hb1⟩)
    go_ret
    exact ⟨rfl, hb1⟩
  · have hN100 : N ≤ 100 := by omega
    have hnil : ∀ (W : World) (a : Addr), (binOp .eql 24 (.pointer (some a)) (.pointer none)).run Try.prog W = .ok (.bool false) W := fun W a => by kernel_rfl
    go_enter Try.func6, Try.ntmps6
    go_wp2_with fail
    refine (awake_any _).mono ?_
    rintro e w1 ⟨rfl, hb1⟩
    have hs1 := hb1.size
    go_wp2_with fail
    refine (new_any z _).mono ?_
    rintro e w2 ⟨rfl, hb2, m2⟩
    go_wp2_with fail
    refine (rnew_any z _).mono ?_
    rintro e w3 ⟨rfl, hb3, m3⟩
    have hs2 : w1.heap.size < w2.heap.size := m2.lt
    have hb13 : Below w1.heap.size w1 w3 := hb2.trans (hb3.mono hb2.size)
    generalize capW z = W at *
    have S0 : PlayT w1.heap.size w3 w1.heap.size (.slice none 0 0) w2.heap.size (.slice none 0 0) W [] [] :=
      ⟨m2.below hb3, ⟨by omega, m3.head, ⟨rfl, .inl ⟨rfl, rfl⟩⟩, m3.apart, m3.ok, m3.small⟩, (fun k hk hk2 => by
        simp only [foot, Value.ownBlock] at hk hk2
        rcases hk with rfl | hk
        · rcases hk2 with h | h
          · omega
          · nomatch h
        · nomatch hk)⟩
    clear m2 m3
    go_wp2_with fail
    go_loopw [7] (fun vi wr => ∃ (i : Nat) (sl1 sl2 : Value) (l : List Bk), i ≤ N ∧ vi = .int .i64 i ∧ PlayT w1.heap.size wr w1.heap.size sl1 w2.heap.size sl2 W l l ∧ Below w1.heap.size w1 wr) (fun vi _ => N - (intOf vi).toNat)
    case atStart => exact ⟨0, _, _, [], Nat.zero_le _, rfl, S0, hb13⟩
    case round =>
      obtain ⟨i, sl1, sl2, l, hi, rfl, mr, hbr⟩ := hrel
      by_cases hlt : i < N
      · have hil : i < xs.length := hN.out ▸ hlt
        obtain ⟨b, off, rfl, hb, hc⟩ := hrow (fun e => by rw [e] at hil; simp at hil)
        obtain ⟨y0, y1, y2⟩ := hc i hil
        obtain ⟨⟨f1, f2⟩, f3, f4⟩ := hf _ (List.getElem_mem hil)
        generalize xs[i] = d at *
        have hb0r : Below w.heap.size w wr := hb1.trans (hbr.mono hs1)
        have x0 := keepF hb0r _ _ _ y0
        have x1 := keepF hb0r _ _ _ y1
        have x2 := keepF hb0r _ _ _ y2
        have hi0' : (0 : Int) ≤ (i : Int) := by omega
        have hin : (i : Int) < (N : Int) := by omega
        clear hc
        have S1 : PlayS w1.heap.size (wr.alloc (.cells #[.int .i64 d.d, .int .i64 d.a, .int .i64 d.n] 28)) w1.heap.size sl1 w2.heap.size sl2 W l l wr.heap.size d :=
          ⟨mr.below ((Below.refl _ _).alloc (Nat.le_refl _) _), heap_alloc_new wr _, fun hk => by have := mr.a.footLt _ hk; omega, fun hk => by have := mr.b.footLt _ hk; omega⟩
        have hbr1 : Below w1.heap.size w1 (wr.alloc (.cells #[.int .i64 d.d, .int .i64 d.a, .int .i64 d.n] 28)) := hbr.alloc hbr.size _
        have hD : ∃ D, Hid (D = wr.heap.size) ∧ D = wr.heap.size := ⟨_, Lib.hid rfl, rfl⟩
        go_upto_block 2 with fail
        obtain ⟨D, hD, hD'⟩ := hD
        rw [← hD'] at S1 ⊢
        clear hD'
        generalize wr.alloc (.cells #[.int .i64 d.d, .int .i64 d.a, .int .i64 d.n] 28) = wx at S1 hbr1 ⊢
        clear x0 x1 x2 y0 y1 y2 mr hb0r
        have hg1 := S1.t.a.foot_ge
        obtain ⟨z0, z1, z2⟩ := S1.cells
        have hxs := hbr1.size
        go_cut [9] (fun v9 wz => v9 = .bool true ∧ ∃ (sl1 sl2 : Value) (l' : List Bk), PlayS w1.heap.size wz w1.heap.size sl1 w2.heap.size sl2 W l' l' D d ∧ Below w1.heap.size w1 wz)
        case first =>
          by_cases hd1 : d.d ≤ 3
          · have Q1 : Hid (∀ X s1 s2 la lb, PlayS w1.heap.size X w1.heap.size s1 w2.heap.size s2 W la lb D d → Below w1.heap.size w1 X → Calls Try.prog 9 #[.pointer (some ⟨w1.heap.size, 0, .none⟩), .int .i64 d.a, .int .i64 d.n] X fun e X' => e = .returned (.bool (takeOk W la d.a d.n)) ∧ ∃ s1', PlayS w1.heap.size X' w1.heap.size s1' w2.heap.size s2 W (takeB W la d.a d.n) lb D d ∧ Below w1.heap.size w1 X') :=
              Lib.hid fun X s1 s2 la lb S hb => (take_any S.t.a d.a d.n f1 f2 f3 f4).mono fun e X' ⟨he, s1', m, o, k⟩ => ⟨he, s1', S.left m o k, Only.below' hb o hb.size S.t.a.foot_ge⟩
            have Q2 : Hid (∀ X s1 s2 la lb, PlayS w1.heap.size X w1.heap.size s1 w2.heap.size s2 W la lb D d → Below w1.heap.size w1 X → Calls Try.prog 19 #[.pointer (some ⟨w2.heap.size, 0, .none⟩), .int .i64 d.a, .int .i64 d.n] X fun e X' => e = .returned (.bool (takeOk W lb d.a d.n)) ∧ ∃ s2', PlayS w1.heap.size X' w1.heap.size s1 w2.heap.size s2' W la (takeB W lb d.a d.n) D d ∧ Below w1.heap.size w1 X') :=
              Lib.hid fun X s1 s2 la lb S hb => (rtake_any S.t.b d.a d.n f1 f2 f3 f4).mono fun e X' ⟨he, s2', m, o, k⟩ => ⟨he, s2', S.right m o k, Only.below' hb o hb.size S.t.b.foot_ge⟩
            generalize takeOk W l d.a d.n = ok at *
            go_upto_region 14 with fail
            go_region_held3 (fun w' => w'.cell? ⟨D, 1, .none⟩ = some (.int .i64 d.a) ∧ w'.cell? ⟨D, 2, .none⟩ = some (.int .i64 d.n))
              (first | go_keep | exact ⟨S5.cells.2.1, S5.cells.2.2⟩ | exact ⟨S3.cells.2.1, S3.cells.2.2⟩ | exact ⟨S4.cells.2.1, S4.cells.2.2⟩)
              (first
                | (go_at_call 9; first
                    | (refine (Q1.out _ _ _ _ _ S4 hb4).mono ?_; rintro e w5 ⟨rfl, t5, S5, hb5⟩)
                    | (refine (Q1.out _ _ _ _ _ (S1.below (Below.refl _ _).drew) hbr1.drew).mono ?_; rintro e w4 ⟨rfl, t3, S3, hb3⟩))
                | (go_at_call 19; first
                    | (refine (Q2.out _ _ _ _ _ S3 hb3).mono ?_; rintro e w5 ⟨rfl, t5, S5, hb5⟩)
                    | (refine (Q2.out _ _ _ _ _ (S1.below (Below.refl _ _).drew) hbr1.drew).mono ?_; rintro e w4 ⟨rfl, t4, S4, hb4⟩)))
            all_goals
              go_wp2_with fail
              go_meet
              case rel => exact ⟨rfl, _, _, _, S5, hb5⟩
          · by_cases hd2 : d.d ≤ 5
            · have Q1 : Hid (∀ X s1 s2 la lb, PlayS w1.heap.size X w1.heap.size s1 w2.heap.size s2 W la lb D d → Below w1.heap.size w1 X → Calls Try.prog 13 #[.pointer (some ⟨w1.heap.size, 0, .none⟩), .int .i64 d.a] X fun e X' => e = .returned (.bool (foundB d.a la)) ∧ ∃ s1', PlayS w1.heap.size X' w1.heap.size s1' w2.heap.size s2 W (giveB la d.a) lb D d ∧ Below w1.heap.size w1 X') :=
                Lib.hid fun X s1 s2 la lb S hb => (give_any S.t.a d.a).mono fun e X' ⟨he, s1', m, o, k⟩ => ⟨he, s1', S.left m o (fun i hi => .inl (k i hi)), Only.below' hb o hb.size S.t.a.foot_ge⟩
              have Q2 : Hid (∀ X s1 s2 la lb, PlayS w1.heap.size X w1.heap.size s1 w2.heap.size s2 W la lb D d → Below w1.heap.size w1 X → Calls Try.prog 20 #[.pointer (some ⟨w2.heap.size, 0, .none⟩), .int .i64 d.a] X fun e X' => e = .returned (.bool (foundB d.a lb)) ∧ ∃ s2', PlayS w1.heap.size X' w1.heap.size s1 w2.heap.size s2' W la (giveB lb d.a) D d ∧ Below w1.heap.size w1 X') :=
                Lib.hid fun X s1 s2 la lb S hb => (rgive_any S.t.b d.a).mono fun e X' ⟨he, s2', m, o, k⟩ => ⟨he, s2', S.right m o k, Only.below' hb o hb.size S.t.b.foot_ge⟩
              generalize foundB d.a l = ok at *
              go_upto_region 16 with fail
              go_region_held3 (fun w' => w'.cell? ⟨D, 1, .none⟩ = some (.int .i64 d.a) ∧ w'.cell? ⟨D, 2, .none⟩ = some (.int .i64 d.n))
                (first | go_keep | exact ⟨S5.cells.2.1, S5.cells.2.2⟩ | exact ⟨S3.cells.2.1, S3.cells.2.2⟩ | exact ⟨S4.cells.2.1, S4.cells.2.2⟩)
                (first
                  | (go_at_call 13; first
                      | (refine (Q1.out _ _ _ _ _ S4 hb4).mono ?_; rintro e w5 ⟨rfl, t5, S5, hb5⟩)
                      | (refine (Q1.out _ _ _ _ _ (S1.below (Below.refl _ _).drew) hbr1.drew).mono ?_; rintro e w4 ⟨rfl, t3, S3, hb3⟩))
                  | (go_at_call 20; first
                      | (refine (Q2.out _ _ _ _ _ S3 hb3).mono ?_; rintro e w5 ⟨rfl, t5, S5, hb5⟩)
                      | (refine (Q2.out _ _ _ _ _ (S1.below (Below.refl _ _).drew) hbr1.drew).mono ?_; rintro e w4 ⟨rfl, t4, S4, hb4⟩)))
              all_goals
                go_wp2_with fail
                go_meet
                case rel => exact ⟨rfl, _, _, _, S5, hb5⟩
            · go_wp2_with fail
              go_meet
              case rel => exact ⟨rfl, _, _, _, S1, hbr1⟩
        case rest =>
          obtain ⟨rfl, sl3, sl4, l', S, hb3'⟩ := hcut
          clear S1 hbr1 z0 z1 z2 hxs hg1 S0 hb13 hbr hb2 hb3
          have hs3 := hb3'.size
          obtain ⟨p1, q1, r1, hA⟩ := blkV_form (atB l' d.a)
          obtain ⟨p2, q2, r2, hI⟩ := blkV_form (insideB l' d.a)
          replace hA := Lib.hid hA
          replace hI := Lib.hid hI
          obtain ⟨z0, z1, z2⟩ := S.cells
          go_wp2_with fail
          refine (at_any S.t.a d.a).mono ?_
          rintro e w4 ⟨rfl, b4⟩
          rw [hA.out]
          have S4 := (S.below b4).below ((Below.refl _ _).alloc (Nat.le_refl _) (.cells #[.int .i64 p1, .int .i64 q1] 32))
          have hb4 : Below w1.heap.size w1 (w4.alloc (.cells #[.int .i64 p1, .int .i64 q1] 32)) := (hb3'.trans (b4.mono hs3)).alloc (Nat.le_trans hs3 b4.size) _
          have hx4 := heap_alloc_new w4 (.cells #[.int .i64 p1, .int .i64 q1] 32)
          obtain ⟨z0, z1, z2⟩ := S4.cells
          go_upto_region 18 with fail
          generalize w4.heap.size = A4 at hx4 ⊢
          generalize w4.alloc (.cells #[.int .i64 p1, .int .i64 q1] 32) = X4 at *
          have hs4 := hb4.size
          go_wp2_with fail
          refine (rat_any S4.t.b d.a).mono ?_
          rintro e w5 ⟨rfl, b5⟩
          rw [hA.out]
          have S5 := (S4.below b5).below ((Below.refl _ _).alloc (Nat.le_refl _) (.cells #[.int .i64 p1, .int .i64 q1] 44))
          have hb5 : Below w1.heap.size w1 (w5.alloc (.cells #[.int .i64 p1, .int .i64 q1] 44)) := (hb4.trans (b5.mono hs4)).alloc (Nat.le_trans hs4 b5.size) _
          have hx5 := heap_alloc_new w5 (.cells #[.int .i64 p1, .int .i64 q1] 44)
          have hB5 : Below X4.heap.size X4 (w5.alloc (.cells #[.int .i64 p1, .int .i64 q1] 44)) := b5.alloc b5.size _
          replace hx4 := (hB5.block _ (Array.getElem?_eq_some_iff.1 hx4).1).trans hx4
          obtain ⟨z0, z1, z2⟩ := S5.cells
          go_upto_region 19 with fail
          generalize w5.heap.size = A5 at hx5 ⊢
          generalize w5.alloc (.cells #[.int .i64 p1, .int .i64 q1] 44) = X5 at *
          have hs5 := hb5.size
          go_wp2_with fail
          refine (inside_any S5.t.a d.a f1 f2).mono ?_
          rintro e w6 ⟨rfl, b6⟩
          rw [hI.out]
          have S6 := (S5.below b6).below ((Below.refl _ _).alloc (Nat.le_refl _) (.cells #[.int .i64 p2, .int .i64 q2] 32))
          have hb6 : Below w1.heap.size w1 (w6.alloc (.cells #[.int .i64 p2, .int .i64 q2] 32)) := (hb5.trans (b6.mono hs5)).alloc (Nat.le_trans hs5 b6.size) _
          have hx6 := heap_alloc_new w6 (.cells #[.int .i64 p2, .int .i64 q2] 32)
          have hB6 : Below X5.heap.size X5 (w6.alloc (.cells #[.int .i64 p2, .int .i64 q2] 32)) := b6.alloc b6.size _
          replace hx4 := (hB6.block _ (Array.getElem?_eq_some_iff.1 hx4).1).trans hx4
          replace hx5 := (hB6.block _ (Array.getElem?_eq_some_iff.1 hx5).1).trans hx5
          obtain ⟨z0, z1, z2⟩ := S6.cells
          go_upto_region 20 with fail
          generalize w6.heap.size = A6 at hx6 ⊢
          generalize w6.alloc (.cells #[.int .i64 p2, .int .i64 q2] 32) = X6 at *
          have hs6 := hb6.size
          go_wp2_with fail
          refine (rinside_any S6.t.b d.a).mono ?_
          rintro e w7 ⟨rfl, b7⟩
          rw [hI.out]
          have S7 := (S6.below b7).below ((Below.refl _ _).alloc (Nat.le_refl _) (.cells #[.int .i64 p2, .int .i64 q2] 44))
          have hb7 : Below w1.heap.size w1 (w7.alloc (.cells #[.int .i64 p2, .int .i64 q2] 44)) := (hb6.trans (b7.mono hs6)).alloc (Nat.le_trans hs6 b7.size) _
          have hx7 := heap_alloc_new w7 (.cells #[.int .i64 p2, .int .i64 q2] 44)
          have hB7 : Below X6.heap.size X6 (w7.alloc (.cells #[.int .i64 p2, .int .i64 q2] 44)) := b7.alloc b7.size _
          replace hx4 := (hB7.block _ (Array.getElem?_eq_some_iff.1 hx4).1).trans hx4
          replace hx5 := (hB7.block _ (Array.getElem?_eq_some_iff.1 hx5).1).trans hx5
          replace hx6 := (hB7.block _ (Array.getElem?_eq_some_iff.1 hx6).1).trans hx6
          obtain ⟨z0, z1, z2⟩ := S7.cells
          go_upto_region 21 with fail
          generalize w7.heap.size = A7 at hx7 ⊢
          generalize w7.alloc (.cells #[.int .i64 p2, .int .i64 q2] 44) = X7 at *
          have hs7 := hb7.size
          clear hA hI S S4 S5 S6 b4 b5 b6 b7 hB5 hB6 hB7 hb3' hb4 hb5 hb6 hs3 hs4 hs5 hs6
          have a40 := rowCells hx4 0
          have a41 := rowCells hx4 1
          have a50 := rowCells hx5 0
          have a51 := rowCells hx5 1
          have a60 := rowCells hx6 0
          have a61 := rowCells hx6 1
          have a70 := rowCells hx7 0
          have a71 := rowCells hx7 1
          clear hx4 hx5 hx6 hx7
          conv => arg 2; arg 2; simp only [List.append_eq, List.cons_append, List.nil_append]
          obtain ⟨rm, hrm⟩ : ∃ rm, Hid ((decide (1 ≤ d.n) && roomB W d.n 0 l') = rm) := ⟨_, Lib.hid rfl⟩
          obtain ⟨us, hus⟩ : ∃ us, Hid (usedB l' = us) := ⟨_, Lib.hid rfl⟩
          have hlen := S7.t.a.len
          have c0 := S7.t.b.cell0
          have hrd := S7.t.b.rd
          have hK : ∀ X, Below X7.heap.size X7 X → X.cell? ⟨A4, 0, .none⟩ = some (.int .i64 p1) ∧ X.cell? ⟨A4, 1, .none⟩ = some (.int .i64 q1) ∧ X.cell? ⟨A5, 0, .none⟩ = some (.int .i64 p1) ∧ X.cell? ⟨A5, 1, .none⟩ = some (.int .i64 q1) ∧ X.cell? ⟨A6, 0, .none⟩ = some (.int .i64 p2) ∧ X.cell? ⟨A6, 1, .none⟩ = some (.int .i64 q2) ∧ X.cell? ⟨A7, 0, .none⟩ = some (.int .i64 p2) ∧ X.cell? ⟨A7, 1, .none⟩ = some (.int .i64 q2) ∧ X.cell? ⟨D, 2, .none⟩ = some (.int .i64 d.n) ∧ X.cell? ⟨w2.heap.size, 0, .none⟩ = some sl4 := fun X h =>
            ⟨keepF h _ _ _ a40, keepF h _ _ _ a41, keepF h _ _ _ a50, keepF h _ _ _ a51, keepF h _ _ _ a60, keepF h _ _ _ a61, keepF h _ _ _ a70, keepF h _ _ _ a71, keepF h _ _ _ z2, keepF h _ _ _ c0⟩
          have T1 : Hid (∀ X, Below X7.heap.size X7 X → Calls Try.prog 10 #[.pointer (some ⟨w1.heap.size, 0, .none⟩), .int .i64 d.n] X fun e X' => e = .returned (.bool rm) ∧ Below X7.heap.size X7 X') :=
            Lib.hid fun X h => (room_any (S7.below h).t.a d.n f3 f4).mono fun e X' ⟨he, hb⟩ => ⟨he.trans (by rw [hrm.out]), h.trans (hb.mono h.size)⟩
          have T2 : Hid (∀ X, Below X7.heap.size X7 X → Calls Try.prog 23 #[.pointer (some ⟨w2.heap.size, 0, .none⟩), .int .i64 d.n] X fun e X' => e = .returned (.bool rm) ∧ Below X7.heap.size X7 X') :=
            Lib.hid fun X h => (rroom_any (S7.below h).t.b d.n).mono fun e X' ⟨he, hb⟩ => ⟨he.trans (by rw [hrm.out]), h.trans (hb.mono h.size)⟩
          have T3 : Hid (∀ X, Below X7.heap.size X7 X → Calls Try.prog 11 #[.pointer (some ⟨w1.heap.size, 0, .none⟩)] X fun e X' => e = .returned (.int .i64 us) ∧ Below X7.heap.size X7 X') :=
            Lib.hid fun X h => (used_any (S7.below h).t.a).mono fun e X' ⟨he, hb⟩ => ⟨he.trans (by rw [hus.out]), h.trans (hb.mono h.size)⟩
          have T4 : Hid (∀ X, Below X7.heap.size X7 X → Calls Try.prog 24 #[.pointer (some ⟨w2.heap.size, 0, .none⟩)] X fun e X' => e = .returned (.int .i64 us) ∧ Below X7.heap.size X7 X') :=
            Lib.hid fun X h => (rused_any (S7.below h).t.b).mono fun e X' ⟨he, hb⟩ => ⟨he.trans (by rw [hus.out]), h.trans (hb.mono h.size)⟩
          have T5 : Hid (∀ X, Below X7.heap.size X7 X → Calls Try.prog 16 #[.pointer (some ⟨w1.heap.size, 0, .none⟩)] X fun e X' => ∃ v', e = .returned v' ∧ Below X7.heap.size X7 X' ∧ RdK X' v' l') :=
            Lib.hid fun X h => (blocks_any (S7.below h).t.a).mono fun e X' ⟨v', he, hb, ho⟩ => ⟨v', he, h.trans (hb.mono h.size), RdS.of_own ho⟩
          have T6 : Hid (∀ X v', Below X7.heap.size X7 X → RdK X v' l' → Calls Try.prog 15 #[v'] X fun e X' => ∃ v'', e = .returned v'' ∧ Below X7.heap.size X7 X' ∧ RdK X' v'' l') :=
            Lib.hid fun X v' h hr => (conv_any l' v' X hr hlen).mono fun e X' ⟨v', he, hb, ho⟩ => ⟨v', he, h.trans (hb.mono h.size), RdS.of_own ho⟩
          have T7 : Hid (∀ X v', Below X7.heap.size X7 X → RdK X v' l' → Calls Try.prog 14 #[v', sl4] X fun e X' => e = .returned (.bool true) ∧ Below X7.heap.size X7 X') :=
            Lib.hid fun X v' h hr => (same_any l' v' sl4 X hr (RdS.below hrd h) hlen).mono fun e X' ⟨he, hb⟩ => ⟨he, h.trans (hb.mono h.size)⟩
          have hbd : Below X7.heap.size X7 X7.drew := (Below.refl _ _).drew
          replace hK := Lib.hid hK
          replace hrd := Lib.hid hrd
          go_region_held3 (fun X => X.cell? ⟨A4, 0, .none⟩ = some (.int .i64 p1) ∧ X.cell? ⟨A4, 1, .none⟩ = some (.int .i64 q1) ∧ X.cell? ⟨A5, 0, .none⟩ = some (.int .i64 p1) ∧ X.cell? ⟨A5, 1, .none⟩ = some (.int .i64 q1) ∧ X.cell? ⟨A6, 0, .none⟩ = some (.int .i64 p2) ∧ X.cell? ⟨A6, 1, .none⟩ = some (.int .i64 q2) ∧ X.cell? ⟨A7, 0, .none⟩ = some (.int .i64 p2) ∧ X.cell? ⟨A7, 1, .none⟩ = some (.int .i64 q2) ∧ X.cell? ⟨D, 2, .none⟩ = some (.int .i64 d.n) ∧ X.cell? ⟨w2.heap.size, 0, .none⟩ = some sl4)
            (first | exact hK.out _ (by assumption))
            (first
              | (go_at_call 10; refine (T1.out _ (by assumption)).mono ?_; rintro e w4 ⟨rfl, b4⟩)
              | (go_at_call 23; refine (T2.out _ (by assumption)).mono ?_; rintro e w5 ⟨rfl, b5⟩)
              | (go_at_call 11; refine (T3.out _ (by assumption)).mono ?_; rintro e w6 ⟨rfl, b6⟩)
              | (go_at_call 24; refine (T4.out _ (by assumption)).mono ?_; rintro e w7 ⟨rfl, b7⟩)
              | (go_at_call 16; refine (T5.out _ (by assumption)).mono ?_; rintro e w8 ⟨vb, rfl, b8, o8⟩)
              | (go_at_call 15; refine (T6.out _ _ (by assumption) o8).mono ?_; rintro e w9 ⟨vc, rfl, b9, o9⟩)
              | (go_at_call 14; refine (T7.out _ _ (by assumption) o9).mono ?_; rintro e w10 ⟨rfl, b10⟩))
          all_goals
            have S14 := S7.below b10
            have hb14 : Below w1.heap.size w1 w10 := hb7.trans (b10.mono hs7)
            go_wp2_with fail
            exact ⟨⟨i + 1, sl3, sl4, l', by omega, by go_num, S14.t, hb14⟩, by simp [intOf]; omega⟩
      · have hie : i = N := by omega
        subst hie
        have hj0 : ¬ ((i : Int) < (i : Int)) := by omega
        clear hlt
        go_wp2_with fail
        go_ret
        exact ⟨rfl, hb1.trans (hbr.mono hs1)⟩
end Go.Proofs.Ytpplmgahpohbmab
