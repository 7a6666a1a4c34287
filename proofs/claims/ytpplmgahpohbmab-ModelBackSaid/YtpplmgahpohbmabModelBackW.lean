/- The law ModelBack: the walk. -/
import Derived.Test.YtpplmgahpohbmabMdlB
import Derived.Test.YtpplmgahpohbmabMdlQ
namespace Go.Proofs.Ytpplmgahpohbmab
open Go.RowKit
attribute [local go_sem ↓] Go.wp_at_zero Go.wp_at_succ

def blkD (x : Dd) : Bk := ⟨x.a, x.n⟩
theorem infoDd : (Try.prog.info? 28).map (fun i => (i.zero, i.size, i.bytes)) = some (some (.agg #[.int .i64 0, .int .i64 0, .int .i64 0]), 3, 24) := by kernel_rfl
theorem Dd.one (x : Dd) : ∀ u ∈ x.cells, u.oneCell' = true := by
  intro u hu
  simp only [Dd.cells, List.mem_cons, List.not_mem_nil, or_false] at hu
  rcases hu with rfl | rfl | rfl <;> rfl

/-- Two models and a row of deeds, each in blocks of its own. -/
structure BackS (B : Nat) (w : World) (s1 : Nat) (sl1 : Value) (s2 : Nat) (sl2 : Value) (la lb : List Bk) (hv : Value) (hs : List Dd) : Prop where
  a : PM B w s1 sl1 100 la
  b : PM B w s2 sl2 100 lb
  apart : ∀ k, foot s1 sl1 k → ¬ foot s2 sl2 k
  row : w.ownsRow B 28 3 hv hs.length (hs.flatMap Dd.cells)
  off1 : ∀ k, hv.ownBlock = some k → ¬ foot s1 sl1 k
  off2 : ∀ k, hv.ownBlock = some k → ¬ foot s2 sl2 k
section
variable {B s1 s2 : Nat} {w w' : World} {sl1 sl2 hv sl' : Value} {la lb l' : List Bk} {hs : List Dd}
theorem Mdl.foot_lt {T E : TypeId} {W : Int} (h : Mdl T E B w s1 sl1 W la) : ∀ k, foot s1 sl1 k → k < w.heap.size := fun k hk => by
  rcases hk with rfl | hk
  · exact h.lt
  · exact (h.rowLt k hk).2
theorem BackS.below (h : BackS B w s1 sl1 s2 sl2 la lb hv hs) (hb : Below w.heap.size w w') : BackS B w' s1 sl1 s2 sl2 la lb hv hs :=
  ⟨h.a.below hb, h.b.below hb, h.apart, ownsRow_of_blocks h.row fun k hk => hb.block k (h.row.lt k hk).2, h.off1, h.off2⟩
theorem BackS.left (h : BackS B w s1 sl1 s2 sl2 la lb hv hs) (m : PM B w' s1 sl' 100 l') (o : Only (foot s1 sl1) w w') (hf : ∀ k, foot s1 sl' k → foot s1 sl1 k ∨ w.heap.size ≤ k) : BackS B w' s1 sl' s2 sl2 l' lb hv hs :=
  ⟨m, h.b.only o fun k hk hk' => h.apart k hk' hk, fun k hk hk2 => by
    rcases hf k hk with h1 | h1
    · exact h.apart k h1 hk2
    · have := h.b.foot_lt k hk2; omega,
   ownsRow_of_blocks h.row fun k hk => o.block k (h.row.lt k hk).2 (h.off1 k hk), fun k hk hk2 => by
    rcases hf k hk2 with h1 | h1
    · exact h.off1 k hk h1
    · have := (h.row.lt k hk).2; omega, h.off2⟩
theorem BackS.right (h : BackS B w s1 sl1 s2 sl2 la lb hv hs) (m : PM B w' s2 sl' 100 l') (o : Only (foot s2 sl2) w w') (hf : ∀ k, foot s2 sl' k → foot s2 sl2 k ∨ w.heap.size ≤ k) : BackS B w' s1 sl1 s2 sl' la l' hv hs :=
  ⟨h.a.only o fun k hk hk' => h.apart k hk hk', m, fun k hk hk2 => by
    rcases hf k hk2 with h1 | h1
    · exact h.apart k hk h1
    · have := h.a.foot_lt k hk; omega,
   ownsRow_of_blocks h.row fun k hk => o.block k (h.row.lt k hk).2 (h.off2 k hk), h.off1, fun k hk hk2 => by
    rcases hf k hk2 with h1 | h1
    · exact h.off2 k hk h1
    · have := (h.row.lt k hk).2; omega⟩
theorem BackS.more {x : Dd} (h : BackS B w s1 sl1 s2 sl2 la lb hv hs) {v' : Value} (ho : w'.ownsRow B 28 3 v' (hs.length + 1) (hs.flatMap Dd.cells ++ x.cells)) (hg : w.grownBy w' hv.ownBlock) (hat : v'.ownBlock = hv.ownBlock ∨ v'.ownBlock = some w.heap.size) : BackS B w' s1 sl1 s2 sl2 la lb v' (hs ++ [x]) := by
  have hB : Only (fun k => hv.ownBlock = some k) w w' := (Only.refl _ w).grown hg fun k hk => .inl hk
  refine ⟨h.a.only hB fun k hk hk' => h.off1 k hk' hk, h.b.only hB fun k hk hk' => h.off2 k hk' hk, h.apart, ?_, ?_, ?_⟩
  · rw [List.length_append, List.flatMap_append]
    simpa [List.flatMap_cons] using ho
  · intro k hk hk2
    rcases hat with e | e
    · exact h.off1 k (e ▸ hk) hk2
    · rw [e] at hk; injection hk with hk; have := h.a.foot_lt k hk2; omega
  · intro k hk hk2
    rcases hat with e | e
    · exact h.off2 k (e ▸ hk) hk2
    · rw [e] at hk; injection hk with hk; have := h.b.foot_lt k hk2; omega
end

set_option maxRecDepth 100000 in
set_option maxHeartbeats 8000000 in
theorem modelBack_any (xs : List Dd) (v : Value) (t : Nat) (w : World) (hr : RdD w v xs) (hf : ∀ x ∈ xs, x.fit) (ht : t ≤ 255) :
    Calls Try.prog 4 #[v, .int .u8 t] w fun e w' => e = .returned (.bool true) ∧ Below w.heap.size w w' := by
  obtain ⟨ao, cap, rfl, hcap, hcm, hrow⟩ := hr.nth
  obtain ⟨N, hN, hN'⟩ : ∃ N, Hid (N = xs.length) ∧ N = xs.length := ⟨_, Lib.hid rfl, rfl⟩
  rw [← hN'] at hcap ⊢
  clear hN'
  by_cases hlong : 40 < N
  · have h1 : (40 : Int) < (N : Int) := by omega
    go_enter Try.func4, Try.ntmps4
    go_wp2_with (go_at_call 7; refine (awake_any _).mono ?_; rintro e w1 ⟨rfl, hb1⟩)
    go_ret
    exact ⟨rfl, hb1⟩
  · have hN40 : N ≤ 40 := by omega
    have ec : capW 100 = 100 := by decide
    replace ec := Lib.hid ec
    have hnil : ∀ (W : World) (a : Addr), (binOp .eql 24 (.pointer (some a)) (.pointer none)).run Try.prog W = .ok (.bool false) W := fun W a => by kernel_rfl
    obtain ⟨i0, hi0, hz0, hz1, hz2⟩ := info_parts infoDd
    go_enter Try.func4, Try.ntmps4
    go_wp2_with fail
    refine (awake_any _).mono ?_
    rintro e w1 ⟨rfl, hb1⟩
    have hs1 := hb1.size
    go_wp2_with fail
    refine (new_any 100 _).mono ?_
    rintro e w2 ⟨rfl, hb2, m2⟩
    rw [ec.out] at m2
    go_wp2_with fail
    refine (new_any 100 _).mono ?_
    rintro e w3 ⟨rfl, hb3, m3⟩
    rw [ec.out] at m3
    have hs2 : w1.heap.size < w2.heap.size := m2.lt
    have hb13 : Below w1.heap.size w1 w3 := hb2.trans (hb3.mono hb2.size)
    have S0 : BackS w1.heap.size w3 w1.heap.size (.slice none 0 0) w2.heap.size (.slice none 0 0) [] [] (.slice none 0 0) [] :=
      ⟨m2.below hb3, ⟨by omega, m3.head, ⟨rfl, .inl ⟨rfl, rfl⟩⟩, m3.apart, m3.ok, m3.small⟩, (fun k hk hk2 => by
        simp only [foot, Value.ownBlock] at hk hk2
        rcases hk with rfl | hk
        · rcases hk2 with h | h
          · omega
          · nomatch h
        · nomatch hk), ⟨rfl, .inl ⟨rfl, rfl⟩⟩, (fun k hk => nomatch hk), (fun k hk => nomatch hk)⟩
    clear m2 m3
    go_wp2_with fail
    go_loopw [7, 8] (fun hv vi wr => ∃ (i : Nat) (sl1 : Value) (la : List Bk) (hs : List Dd), i ≤ N ∧ vi = .int .i64 i ∧ hs.length ≤ i ∧ BackS w1.heap.size wr w1.heap.size sl1 w2.heap.size (.slice none 0 0) la [] hv hs ∧ Good 100 la (hs.map blkD) ∧ (∀ x ∈ hs, x.fit) ∧ Below w1.heap.size w1 wr) (fun _ vi _ => N - (intOf vi).toNat)
    case atStart => exact ⟨0, _, _, [], Nat.zero_le _, rfl, Nat.le_refl _, S0, Good.nil (by omega), (fun x hx => nomatch hx), hb13⟩
    case round =>
      obtain ⟨i, sl, la, hs, hi, rfl, hsl, mr, hg, hfh, hbr⟩ := hrel
      by_cases hlt : i < N
      · have hil : i < xs.length := hN.out ▸ hlt
        obtain ⟨b, off, rfl, hb, hc⟩ := hrow (fun e => by rw [e] at hil; simp at hil)
        obtain ⟨y0, y1, y2⟩ := hc i hil
        obtain ⟨⟨f1, f2⟩, f3, f4⟩ := hf _ (List.getElem_mem hil)
        have hfd := hf _ (List.getElem_mem hil)
        generalize xs[i] = d at *
        have hb0r : Below w.heap.size w wr := hb1.trans (hbr.mono hs1)
        have x1 := keepF hb0r _ _ _ y1
        have x2 := keepF hb0r _ _ _ y2
        have hi0' : (0 : Int) ≤ (i : Int) := by omega
        have hin : (i : Int) < (N : Int) := by omega
        clear hc
        obtain ⟨ok, hok⟩ : ∃ ok, takeOk 100 la d.a d.n = ok := ⟨_, rfl⟩
        replace hok := Lib.hid hok
        go_wp2_with fail
        go_region_held3 (fun w' => w'.cell? ⟨b, off + i * 3 + 1, .none⟩ = some (.int .i64 d.a) ∧ w'.cell? ⟨b, off + i * 3 + 2, .none⟩ = some (.int .i64 d.n))
          (first | go_keep | exact ⟨keepF hb4 _ _ _ y1, keepF hb4 _ _ _ y2⟩)
          ((go_at_call 9; refine (take_any (mr.a.below (Below.refl _ _).drew) d.a d.n f1 f2 f3 f4).mono ?_; rintro e w4 ⟨rfl, sl4, m4, o4, k4⟩; rw [hok.out]; have S4 := (mr.below (Below.refl _ _).drew).left m4 o4 k4; have hbr4 := Only.below' hbr.drew o4 hbr.size (mr.a.below (Below.refl _ _).drew).foot_ge; have hb4 : Below w.heap.size w w4 := hb1.trans (hbr4.mono hs1)))
        cases ok with
        | false =>
          rw [takeB_no hok.out] at S4
          go_wp2_with fail
          exact ⟨⟨i + 1, sl4, la, hs, by omega, by go_num, by omega, S4, hg, hfh, hbr4⟩, by simp [intOf]; omega⟩
        | true =>
          rw [takeB_eq hok.out] at S4
          have z0 := keepF hb4 _ _ _ y0
          have z1 := keepF hb4 _ _ _ y1
          have z2 := keepF hb4 _ _ _ y2
          have S5 := S4.below ((Below.refl w4.heap.size w4).alloc (Nat.le_refl _) (.cells d.cells.toArray 28))
          have hbr5 : Below w1.heap.size w1 (w4.alloc (.cells d.cells.toArray 28)) := hbr4.alloc hbr4.size _
          go_wp2_with (refine wpList_append_rd rfl (.tmp 44) (.tmp 49) 22 rfl w1.heap.size 28 i0 _ 3 24 Try.underlying22 hi0 hz0 hz1 hz2 rfl (by omega) _ hs.length (hs.flatMap Dd.cells) rfl S5.row _ 1 d.cells rfl (RdS.new (cs := d.cells.toArray) (t := 28) (sz := 3) (n := 1) (heap_alloc_new w4 _) rfl (by omega)) (Dd.one _) (by simp only [maxLen]; omega) (by omega) hbr5.size ?_; intro v6 w6 hown6 hgrow6 hat6; have hbr6 := grown_belowS hbr5 S5.row hbr5.size hgrow6)
          have S6 := S5.more hown6 hgrow6 hat6
          refine ⟨⟨i + 1, sl4, _, hs ++ [d], by omega, by go_num, by rw [List.length_append]; simp; omega, S6, ?_, ?_, hbr6⟩, by simp [intOf]; omega⟩
          · rw [List.map_append]; exact hg.take hok.out
          · intro x hx
            rcases List.mem_append.1 hx with h | h
            · exact hfh x h
            · rw [List.mem_singleton] at h; subst h; exact hfd
      · have hie : i = N := by omega
        subst hie
        have hj0 : ¬ ((i : Int) < (i : Int)) := by omega
        clear hlt hrow hf hr
        obtain ⟨M, hM, hM'⟩ : ∃ M, Hid (M = hs.length) ∧ M = hs.length := ⟨_, Lib.hid rfl, rfl⟩
        have hM40 : M ≤ 40 := by omega
        have hrd : ∀ {W : World} {s1 s2 : Nat} {a1 a2 : Value} {l1 l2 : List Bk} {hv : Value}, BackS w1.heap.size W s1 a1 s2 a2 l1 l2 hv hs → RdD W hv hs := fun h => RdS.of_own h.row
        obtain ⟨ho, hcap2, rfl, hh1, hh2, _⟩ := (hrd mr).nth
        have hgR := hg.rot t
        obtain ⟨R, hR⟩ : ∃ R, R = rotL hs t := ⟨_, rfl⟩
        have hRl : R.length = hs.length := by rw [hR, rotL_length]
        rw [rotL_map, ← hR] at hgR
        have hRg : ∀ i, i < hs.length → R[i]? = hs[(i + t) % hs.length]? := fun i hi => by rw [hR]; exact rotL_get hs t i hi
        have hRf : ∀ x ∈ R, x.fit := fun x hx => hfh x ((rotL_perm hs t).mem_iff.1 (hR ▸ hx))
        rw [← hM'] at hh1 hRl hRg ⊢
        replace hR := Lib.hid hR
        replace hRl := Lib.hid hRl
        replace hRg := Lib.hid hRg
        clear hM' hsl hg hfh
        go_wp2_with fail
        go_loopw [9] (fun vi wr => ∃ (i : Nat) (sl2 : Value) (lb : List Bk), i ≤ M ∧ vi = .int .i64 i ∧ BackS w1.heap.size wr w1.heap.size sl w2.heap.size sl2 la lb (.slice ho hs.length hcap2) hs ∧ Good 100 lb ((R.map blkD).take i) ∧ Below w1.heap.size w1 wr) (fun vi _ => M - (intOf vi).toNat)
        case atStart => exact ⟨0, _, _, by omega, rfl, mr, Good.nil (by omega), hbr⟩
        case round =>
          obtain ⟨j, sl2, lb, hj, rfl, S, hgb, hbr2⟩ := hrel
          by_cases hlt : j < M
          · have hjl : j < hs.length := hM.out ▸ hlt
            have hjR : j < R.length := hRl.out ▸ hlt
            obtain ⟨_, _, e, _, _, hcc⟩ := (hrd S).nth
            have hM0 : 0 < M := by omega
            have hq : (j + t) % M < M := Nat.mod_lt _ hM0
            obtain ⟨q, hq'⟩ : ∃ q, (j + t) % M = q := ⟨_, rfl⟩
            rw [hq'] at hq
            have hqh : q < hs.length := hM.out ▸ hq
            obtain ⟨b, off, e2, hb, hc⟩ := hcc (fun e => by rw [e] at hqh; simp at hqh)
            injection e with e1 _ e3
            subst e1 e3
            subst e2
            obtain ⟨y0, y1, y2⟩ := hc q hqh
            have hRq : R[j] = hs[q] := by
              have := hRg.out j hlt
              rw [hq', List.getElem?_eq_getElem hqh, List.getElem?_eq_getElem hjR] at this
              injection this
            have hmod : ((j : Int) + (t : Int)).tmod (M : Int) = (q : Int) := by
              rw [← hq']; norm_cast
            have hnx := hgR.next j (by rw [List.length_map]; exact hjR) hgb
            have hst := hgR.step j (by rw [List.length_map]; exact hjR) hgb
            have hbk : (R.map blkD)[j]'(by rw [List.length_map]; exact hjR) = ⟨hs[q].a, hs[q].n⟩ := by rw [List.getElem_map, hRq]; rfl
            rw [hbk] at hnx hst
            obtain ⟨⟨f1, f2⟩, f3, f4⟩ := hRf _ (hRq ▸ List.getElem_mem hjR)
            clear hbk hRq hc hcc
            generalize hs[q] = d at *
            simp only at hnx hst
            replace hnx := Lib.hid hnx
            replace hst := Lib.hid hst
            replace hq' := Lib.hid hq'
            have hj0' : (0 : Int) ≤ (j : Int) := by omega
            have hjn : (j : Int) < (M : Int) := by omega
            have hMn : (M : Int) ≠ 0 := by omega
            have hq0 : (0 : Int) ≤ (q : Int) := by omega
            have hqn : (q : Int) < (M : Int) := by omega
            go_wp2_with fail
            have S1 := S.below ((Below.refl wr.heap.size wr).alloc (Nat.le_refl _) (.cells #[.int .i64 d.d, .int .i64 d.a, .int .i64 d.n] 28))
            have hbr3 : Below w1.heap.size w1 (wr.alloc (.cells #[.int .i64 d.d, .int .i64 d.a, .int .i64 d.n] 28)) := hbr2.alloc hbr2.size _
            refine (take_any S1.b d.a d.n f1 f2 f3 f4).mono ?_
            rintro e w5 ⟨rfl, sl5, m5, o5, k5⟩
            have S2 := S1.right m5 o5 k5
            have hbr5 := Only.below' hbr3 o5 hbr3.size S1.b.foot_ge
            rw [takeB_eq hnx.out] at S2
            rw [hnx.out]
            clear m5 o5 k5
            go_wp2_with fail
            exact ⟨⟨j + 1, sl5, _, by omega, by go_num, S2, hst.out, hbr5⟩, by simp [intOf]; omega⟩
          · have hje : j = M := by omega
            subst hje
            have hj0 : ¬ ((j : Int) < (j : Int)) := by omega
            rw [List.take_of_length_le (by rw [List.length_map, hRl.out]; exact Nat.le_refl _)] at hgb
            have e : lb = la := hgb.same hgR (fun _ => Iff.rfl)
            subst e
            clear hlt hgb
            have hlen := S.a.len
            have hs2 := hbr2.size
            go_wp2_with fail
            refine (blocks_any S.a).mono ?_
            rintro e w4 ⟨va, rfl, b4, o4⟩
            have S4 := S.below b4
            have hb4 : Below w1.heap.size w1 w4 := hbr2.trans (b4.mono hs2)
            go_wp2_with fail
            refine (conv_any lb va _ (RdS.of_own o4) hlen).mono ?_
            rintro e w5 ⟨vb, rfl, b5, o5⟩
            have S5 := S4.below b5
            have hb5 : Below w1.heap.size w1 w5 := hb4.trans (b5.mono hb4.size)
            go_wp2_with fail
            refine (blocks_any S5.b).mono ?_
            rintro e w6 ⟨vc, rfl, b6, o6⟩
            have S6 := S5.below b6
            have hb6 : Below w1.heap.size w1 w6 := hb5.trans (b6.mono hb5.size)
            go_wp2_with fail
            refine (conv_any lb vc _ (RdS.of_own o6) hlen).mono ?_
            rintro e w7 ⟨vd, rfl, b7, o7⟩
            have S7 := S6.below b7
            have hb7 : Below w1.heap.size w1 w7 := hb6.trans (b7.mono hb6.size)
            have r1 : RdK w7 vb lb := RdS.below (RdS.below (RdS.of_own o5) b6) b7
            go_wp2_with fail
            refine (same_any lb vb vd _ r1 (RdS.of_own o7) hlen).mono ?_
            rintro e w8 ⟨rfl, b8⟩
            have S8 := S7.below b8
            have hb8 : Below w1.heap.size w1 w8 := hb7.trans (b8.mono hb7.size)
            go_wp2_with fail
            refine (used_any S8.a).mono ?_
            rintro e w9 ⟨rfl, b9⟩
            have S9 := S8.below b9
            have hb9 : Below w1.heap.size w1 w9 := hb8.trans (b9.mono hb8.size)
            go_wp2_with fail
            refine (used_any S9.b).mono ?_
            rintro e w10 ⟨rfl, b10⟩
            have S10 := S9.below b10
            have hb10 : Below w1.heap.size w1 w10 := hb9.trans (b10.mono hb9.size)
            clear S4 S5 S6 S7 S8 S9 o4 o5 o6 o7 r1 b4 b5 b6 b7 b8 b9 b10 S
            go_wp2_with fail
            go_loopw [11] (fun vi wr => ∃ (i : Nat) (sl1 : Value) (lc : List Bk), i ≤ j ∧ vi = .int .i64 i ∧ BackS w1.heap.size wr w1.heap.size sl1 w2.heap.size sl2 lc lb (.slice ho hs.length hcap2) hs ∧ Good 100 lc ((R.map blkD).drop i) ∧ Below w1.heap.size w1 wr) (fun vi _ => j - (intOf vi).toNat)
            case atStart => exact ⟨0, _, _, by omega, rfl, S10, hgR, hb10⟩
            case round =>
              obtain ⟨g, sl3, lc, hg, rfl, S, hgc, hbr3⟩ := hrel
              by_cases hlt : g < j
              · have hgl : g < hs.length := hM.out ▸ hlt
                have hgR' : g < R.length := hRl.out ▸ hlt
                obtain ⟨_, _, e, _, _, hcc⟩ := (hrd S).nth
                have hM0 : 0 < j := by omega
                have hq : (g + t) % j < j := Nat.mod_lt _ hM0
                obtain ⟨q, hq'⟩ : ∃ q, (g + t) % j = q := ⟨_, rfl⟩
                rw [hq'] at hq
                have hqh : q < hs.length := hM.out ▸ hq
                obtain ⟨b, off, e2, hb, hc⟩ := hcc (fun e => by rw [e] at hqh; simp at hqh)
                injection e with e1 _ e3
                subst e1 e3
                subst e2
                obtain ⟨y0, y1, y2⟩ := hc q hqh
                have hRq : R[g] = hs[q] := by
                  have := hRg.out g hlt
                  rw [hq', List.getElem?_eq_getElem hqh, List.getElem?_eq_getElem hgR'] at this
                  injection this
                have hmod : ((g : Int) + (t : Int)).tmod (j : Int) = (q : Int) := by
                  rw [← hq']; norm_cast
                have hbk : (R.map blkD)[g]'(by rw [List.length_map]; exact hgR') = ⟨hs[q].a, hs[q].n⟩ := by rw [List.getElem_map, hRq]; rfl
                rw [List.drop_eq_getElem_cons (by rw [List.length_map]; exact hgR'), hbk] at hgc
                obtain ⟨g1, g2, g3⟩ := hgc.give
                obtain ⟨⟨f1, f2⟩, f3, f4⟩ := hRf _ (hRq ▸ List.getElem_mem hgR')
                clear hbk hRq hc hcc hgc
                generalize hs[q] = d at *
                simp only at g1 g2 g3
                replace g1 := Lib.hid g1
                replace g2 := Lib.hid g2
                replace g3 := Lib.hid g3
                replace hq' := Lib.hid hq'
                have hj0' : (0 : Int) ≤ (g : Int) := by omega
                have hjn : (g : Int) < (j : Int) := by omega
                have hMn : (j : Int) ≠ 0 := by omega
                have hq0 : (0 : Int) ≤ (q : Int) := by omega
                have hqn : (q : Int) < (j : Int) := by omega
                have S1 := S.below ((Below.refl wr.heap.size wr).alloc (Nat.le_refl _) (.cells #[.int .i64 d.d, .int .i64 d.a, .int .i64 d.n] 28))
                have hbr4 : Below w1.heap.size w1 (wr.alloc (.cells #[.int .i64 d.d, .int .i64 d.a, .int .i64 d.n] 28)) := hbr3.alloc hbr3.size _
                go_wp2_with fail
                refine (give_any S1.a d.a).mono ?_
                rintro e w5 ⟨rfl, sl5, m5, o5, k5⟩
                have S2 := S1.left m5 o5 (fun k hk => .inl (k5 k hk))
                have hbr5 := Only.below' hbr4 o5 hbr4.size S1.a.foot_ge
                rw [g1.out]
                have hbx : w5.cell? ⟨wr.heap.size, 1, .none⟩ = some (.int .i64 d.a) := by
                  have h1 : w5.heap[wr.heap.size]? = some (.cells #[.int .i64 d.d, .int .i64 d.a, .int .i64 d.n] 28 (0, 0)) := by
                    rw [o5.block wr.heap.size (Array.getElem?_eq_some_iff.1 (heap_alloc_new wr _)).1 (fun h => by have := S.a.foot_lt _ h; omega)]
                    exact heap_alloc_new wr _
                  simpa using cell_of_row w5 wr.heap.size 1 _ _ (0, 0) h1
                clear m5 o5 k5
                go_wp2_with fail
                refine (give_any S2.a d.a).mono ?_
                rintro e w6 ⟨rfl, sl6, m6, o6, k6⟩
                have S3 := S2.left m6 o6 (fun k hk => .inl (k6 k hk))
                have hbr6 := Only.below' hbr5 o6 hbr5.size S2.a.foot_ge
                rw [g3.out]
                rw [giveB_no g3.out] at S3
                clear m6 o6 k6
                go_wp2_with fail
                exact ⟨⟨g + 1, sl6, _, by omega, by go_num, S3, g2.out, hbr6⟩, by simp [intOf]; omega⟩
              · have hge : g = j := by omega
                subst hge
                have hg0 : ¬ ((g : Int) < (g : Int)) := by omega
                rw [List.drop_of_length_le (by rw [List.length_map, hRl.out]; exact Nat.le_refl _)] at hgc
                have e := hgc.empty
                subst e
                clear hlt hgc
                have hs3 := hbr3.size
                have hu : usedB [] = 0 := rfl
                have hrm : (decide ((1 : Int) ≤ 100) && roomB 100 100 0 []) = true := by decide
                replace hu := Lib.hid hu
                replace hrm := Lib.hid hrm
                go_wp2_with fail
                refine (used_any S.a).mono ?_
                rintro e w4 ⟨rfl, b4⟩
                rw [hu.out]
                have S4 := S.below b4
                have hb4 : Below w1.heap.size w1 w4 := hbr3.trans (b4.mono hs3)
                go_wp2_with fail
                refine (blocks_any S4.a).mono ?_
                rintro e w5 ⟨va, rfl, b5, o5⟩
                have S5 := S4.below b5
                have hb5 : Below w1.heap.size w1 w5 := hb4.trans (b5.mono hb4.size)
                obtain ⟨vo, vc, rfl, _, _, _⟩ := RdS.of_own o5
                go_wp2_with fail
                refine (room_any S5.a 100 (by omega) (by omega)).mono ?_
                rintro e w6 ⟨rfl, b6⟩
                rw [hrm.out]
                have hb6 : Below w1.heap.size w1 w6 := hb5.trans (b6.mono hb5.size)
                go_wp2_with fail
                go_ret
                exact ⟨rfl, hb1.trans (hb6.mono hs1)⟩
end Go.Proofs.Ytpplmgahpohbmab
