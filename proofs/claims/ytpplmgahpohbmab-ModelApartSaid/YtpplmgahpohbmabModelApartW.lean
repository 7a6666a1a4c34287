/- The law ModelApart: the walk. -/
import Derived.Test.YtpplmgahpohbmabMdlA
import Derived.Test.YtpplmgahpohbmabMdlN
import Derived.Test.YtpplmgahpohbmabRwM
namespace Go.Proofs.Ytpplmgahpohbmab
open Go.RowKit
attribute [local go_sem ↓] Go.wp_at_zero Go.wp_at_succ
attribute [local go_sem high] run_max_n

/-- What all these deeds leave. -/
def doesL (W : Int) (xs : List Dd) : List Bk := xs.foldl (fun bs x => doB W bs x.d x.a x.n) []
theorem doesL_snoc (W : Int) (xs : List Dd) (x : Dd) : doesL W (xs ++ [x]) = doB W (doesL W xs) x.d x.a x.n := by simp [doesL, List.foldl_append]
theorem manyB_snoc (bs : List Bk) (k : Nat) (h : k < bs.length) (a : Int) : manyB (bs.take (k + 1)) a = manyB (bs.take k) a + if inW bs[k] a then 1 else 0 := by
  rw [List.take_succ_eq_append_getElem h, manyB, List.filter_append, List.length_append, manyB]
  congr 1
  simp only [List.filter_cons, List.filter_nil]
  split <;> rfl

set_option maxRecDepth 100000 in
set_option maxHeartbeats 8000000 in
theorem modelApart_any (xs : List Dd) (v : Value) (w : World) (hr : RdD w v xs) (hf : ∀ x ∈ xs, x.fit) :
    Calls Try.prog 5 #[v] w fun e w' => e = .returned (.bool true) ∧ Below w.heap.size w w' := by
  obtain ⟨ao, cap, rfl, hcap, hcm, hrow⟩ := hr.nth
  obtain ⟨N, hN, hN'⟩ : ∃ N, Hid (N = xs.length) ∧ N = xs.length := ⟨_, Lib.hid rfl, rfl⟩
  rw [← hN'] at hcap ⊢
  clear hN'
  by_cases hlong : 60 < N
  · have h1 : (60 : Int) < (N : Int) := by omega
    go_enter Try.func5, Try.ntmps5
    go_wp2_with (go_at_call 7; refine (awake_any _).mono ?_; rintro e w1 ⟨rfl, hb1⟩)
    go_ret
    exact ⟨rfl, hb1⟩
  · have hN60 : N ≤ 60 := by omega
    have ec : capW 60 = 60 := by decide
    replace ec := Lib.hid ec
    have hnil : ∀ (W : World) (a : Addr), (binOp .eql 24 (.pointer (some a)) (.pointer none)).run Try.prog W = .ok (.bool false) W := fun W a => by kernel_rfl
    go_enter Try.func5, Try.ntmps5
    go_wp2_with fail
    refine (awake_any _).mono ?_
    rintro e w1 ⟨rfl, hb1⟩
    have hs1 := hb1.size
    go_wp2_with fail
    refine (new_any 60 _).mono ?_
    rintro e w2 ⟨rfl, hb2, m2⟩
    rw [ec.out] at m2
    go_wp2_with fail
    go_loopw [4] (fun vi wr => ∃ (i : Nat) (sl : Value), i ≤ N ∧ vi = .int .i64 i ∧ PM w1.heap.size wr w1.heap.size sl 60 (doesL 60 (xs.take i)) ∧ Below w1.heap.size w1 wr) (fun vi _ => N - (intOf vi).toNat)
    case atStart => exact ⟨0, _, Nat.zero_le _, rfl, m2, hb2⟩
    case round =>
      obtain ⟨i, sl, hi, rfl, mr, hbr⟩ := hrel
      by_cases hlt : i < N
      · have hil : i < xs.length := hN.out ▸ hlt
        obtain ⟨b, off, rfl, hb, hc⟩ := hrow (fun e => by rw [e] at hil; simp at hil)
        obtain ⟨y0, y1, y2⟩ := hc i hil
        obtain ⟨⟨f1, f2⟩, f3, f4⟩ := hf _ (List.getElem_mem hil)
        have hnx : doesL 60 (xs.take (i + 1)) = doB 60 (doesL 60 (xs.take i)) xs[i].d xs[i].a xs[i].n := by rw [List.take_succ_eq_append_getElem hil, doesL_snoc]
        generalize xs[i] = d at *
        obtain ⟨d0, da, dn⟩ := d
        simp only at f1 f2 f3 f4 hnx y0 y1 y2
        have hb0r : Below w.heap.size w wr := hb1.trans (hbr.mono hs1)
        have x0 := keepF hb0r _ _ _ y0
        have x1 := keepF hb0r _ _ _ y1
        have x2 := keepF hb0r _ _ _ y2
        have hi0 : (0 : Int) ≤ (i : Int) := by omega
        have hin : (i : Int) < (N : Int) := by omega
        clear hc
        unfold doB at hnx
        by_cases hd : d0 ≤ 3
        · rw [if_pos hd] at hnx
          replace hnx := Lib.hid hnx
          go_wp2_with fail
          go_region_held3 (fun w' => w'.cell? ⟨b, off + i * 3 + 1, .none⟩ = some (.int .i64 da) ∧ w'.cell? ⟨b, off + i * 3 + 2, .none⟩ = some (.int .i64 dn))
            (first | go_keep | exact ⟨keepF hb3 _ _ _ y1, keepF hb3 _ _ _ y2⟩)
            ((go_at_call 9; refine (take_any (mr.below (Below.refl _ _).drew) da dn f1 f2 f3 f4).mono ?_; rintro e w3 ⟨rfl, sl3, m3, o3, _⟩; have hbr3 := Only.below' hbr.drew o3 hbr.size (mr.below (Below.refl _ _).drew).foot_ge; have hb3 : Below w.heap.size w w3 := hb1.trans (hbr3.mono hs1)))
          go_wp2
          exact ⟨⟨i + 1, sl3, by omega, by go_num, by rw [hnx.out]; exact m3, hbr3⟩, by simp [intOf]; omega⟩
        · rw [if_neg hd] at hnx
          replace hnx := Lib.hid hnx
          go_wp2_with fail
          refine (give_any mr da).mono ?_
          rintro e w3 ⟨rfl, sl3, m3, o3, _⟩
          have hbr3 := Only.below' hbr o3 hbr.size mr.foot_ge
          go_wp2
          exact ⟨⟨i + 1, sl3, by omega, by go_num, by rw [hnx.out]; exact m3, hbr3⟩, by simp [intOf]; omega⟩
      · have hie : i = N := by omega
        subst hie
        have hj0 : ¬ ((i : Int) < (i : Int)) := by omega
        rw [List.take_of_length_le (by rw [← hN.out]; exact Nat.le_refl _)] at mr
        obtain ⟨bs, hbs⟩ : ∃ bs, bs = doesL 60 xs := ⟨_, rfl⟩
        rw [← hbs] at mr
        clear hlt hbs hrow hf hr
        go_wp2_with fail
        refine (blocks_any mr).mono ?_
        rintro e w5 ⟨bv, rfl, hb5, ho5⟩
        have m5 := mr.below hb5
        have hb15 : Below w1.heap.size w1 w5 := hbr.trans (hb5.mono hbr.size)
        have hrk : RdK w5 bv bs := RdS.of_own ho5
        obtain ⟨ko, kcap, rfl, hkcap, hkm, hkrow⟩ := hrk.nth
        obtain ⟨K, hK, hK'⟩ : ∃ K, Hid (K = bs.length) ∧ K = bs.length := ⟨_, Lib.hid rfl, rfl⟩
        rw [← hK'] at hkcap ⊢
        have hKl : K ≤ 60 := by have := m5.ok.len; omega
        clear hK' ho5 hrk
        have hmem := m5.ok.mem
        go_wp2_with fail
        go_loopw [5, 6, 7, 9] (fun vr vm vu va wr => ∃ j : Nat, j ≤ 60 ∧ va = .int .i64 j ∧ vr = .int .i64 (rowF bs j) ∧ vm = .int .i64 (mostF bs j) ∧ vu = .int .i64 (usedF bs j) ∧ Below w5.heap.size w5 wr) (fun _ _ _ va _ => 60 - (intOf va).toNat)
        case atStart => exact ⟨0, by omega, rfl, rfl, rfl, rfl, Below.refl _ _⟩
        case round =>
          obtain ⟨j, hj, rfl, rfl, rfl, rfl, hbr6⟩ := hrel
          have m6 := m5.below hbr6
          have hs6 := hbr6.size
          have l1 := rowF_le bs j
          have l2 := mostF_le bs j
          have l3 := usedF_le bs j
          by_cases hlt : j < 60
          · have hj1 : (j : Int) < 60 := by omega
            have eR : rowF bs (j + 1) = if cov bs j then 0 else rowF bs j + 1 := rfl
            have eM : mostF bs (j + 1) = max (mostF bs j) (rowF bs (j + 1)) := rfl
            have eU : usedF bs (j + 1) = if cov bs j then usedF bs j + 1 else usedF bs j := rfl
            generalize rowF bs j = rj at *
            generalize mostF bs j = mj at *
            generalize usedF bs j = uj at *
            have hmany := manyB_eq (a := j) m5.ok
            have hic := inside_cov bs j
            have hin := fun b => inside_in (l := bs) (a := j) (b := b)
            replace eR := Lib.hid eR
            replace eM := Lib.hid eM
            replace eU := Lib.hid eU
            replace hmany := Lib.hid hmany
            replace hic := Lib.hid hic
            replace hin := Lib.hid hin
            go_wp2_with fail
            go_loopw [10, 11] (fun vm vk wr => ∃ k : Nat, k ≤ K ∧ vk = .int .i64 k ∧ vm = .int .i64 (manyB (bs.take k) j) ∧ Below w5.heap.size w5 wr) (fun _ vk _ => K - (intOf vk).toNat)
            case atStart => exact ⟨0, by omega, rfl, rfl, hbr6⟩
            case round =>
              obtain ⟨k, hk, rfl, rfl, hbr7⟩ := hrel
              have hmk := manyB_eq (a := j) (m5.ok.take k)
              have hm1 : manyB (bs.take k) j ≤ 1 := by rw [hmk]; split <;> omega
              clear hmk
              by_cases hlk : k < K
              · have hkl : k < bs.length := hK.out ▸ hlk
                obtain ⟨b, off, rfl, hb, hc⟩ := hkrow (fun e => by rw [e] at hkl; simp at hkl)
                obtain ⟨y0, y1⟩ := hc k hkl
                obtain ⟨q0, q1, q2⟩ := hmem _ (List.getElem_mem hkl)
                have hsn := manyB_snoc bs k hkl j
                have x0 := keepF hbr7 _ _ _ y0
                have x1 := keepF hbr7 _ _ _ y1
                have hiw : inW bs[k] j = decide (bs[k].a ≤ (j : Int) ∧ (j : Int) < bs[k].a + bs[k].n) := rfl
                rw [hiw] at hsn
                clear hiw hc y0 y1
                generalize bs[k].a = ba at *
                generalize bs[k].n = bn at *
                generalize manyB (bs.take k) j = mk at *
                have hk0 : (0 : Int) ≤ (k : Int) := by omega
                have hkn : (k : Int) < (K : Int) := by omega
                have hwd : IntKind.i64.wrap ((j : Int) - ba) = (j : Int) - ba := by rw [IntKind.wrap_i64]; omega
                by_cases h1 : ba ≤ (j : Int)
                · have hd1 : decide (ba ≤ (j : Int)) = true := decide_eq_true h1
                  by_cases h2 : (j : Int) - ba < bn
                  · have hd2 : decide ((j : Int) - ba < bn) = true := decide_eq_true h2
                    have hs : manyB (bs.take (k + 1)) j = mk + 1 := by rw [hsn, if_pos (decide_eq_true ⟨h1, by omega⟩)]
                    replace hs := Lib.hid hs
                    clear hsn
                    go_wp2_with fail
                    go_quiet (fail)
                    go_wp2
                    exact ⟨⟨k + 1, by omega, by go_num, by rw [hs.out]; go_num, below_drewN hbr7 _⟩, by simp [intOf]; omega⟩
                  · have hd2 : decide ((j : Int) - ba < bn) = false := decide_eq_false h2
                    have hs : manyB (bs.take (k + 1)) j = mk := by rw [hsn, if_neg (by rw [decide_eq_true_eq]; omega)]; rfl
                    replace hs := Lib.hid hs
                    clear hsn
                    go_wp2_with fail
                    go_quiet (fail)
                    go_wp2
                    exact ⟨⟨k + 1, by omega, by go_num, by rw [hs.out], below_drewN hbr7 _⟩, by simp [intOf]; omega⟩
                · have hd1 : decide (ba ≤ (j : Int)) = false := decide_eq_false h1
                  have hs : manyB (bs.take (k + 1)) j = mk := by rw [hsn, if_neg (by rw [decide_eq_true_eq]; omega)]; rfl
                  replace hs := Lib.hid hs
                  clear hsn
                  go_wp2_with fail
                  go_quiet (fail)
                  go_wp2
                  exact ⟨⟨k + 1, by omega, by go_num, by rw [hs.out], below_drewN hbr7 _⟩, by simp [intOf]; omega⟩
              · have hke : k = K := by omega
                subst hke
                have hk0 : ¬ ((k : Int) < (k : Int)) := by omega
                rw [List.take_of_length_le (by rw [← hK.out]; exact Nat.le_refl _)]
                have m7 := m5.below hbr7
                have hs7 := hbr7.size
                clear hkrow hm1 hlk
                cases hcv : cov bs j with
                | true =>
                  have hmc : manyB bs j = 1 := by rw [hmany.out, hcv]; rfl
                  rw [hmc]
                  obtain ⟨c, hc⟩ := Option.isSome_iff_exists.1 (hic.out.trans hcv)
                  obtain ⟨c1, c2, c3⟩ := hin.out c hc
                  obtain ⟨c4, c5, c6⟩ := hmem c c3
                  have hbv : blkV (insideB bs j) = .tuple #[.agg #[.int .i64 c.a, .int .i64 c.n], .bool true] := by rw [hc]; rfl
                  replace eR : Hid (rowF bs (j + 1) = 0) := by show _ = _; rw [eR.out, hcv]; rfl
                  replace eU : Hid (usedF bs (j + 1) = uj + 1) := by show _ = _; rw [eU.out, hcv]; rfl
                  replace eM : Hid (mostF bs (j + 1) = max mj 0) := by show _ = _; rw [eM.out, eR.out]
                  replace hbv := Lib.hid hbv
                  generalize c.a = ca at *
                  generalize c.n = cn at *
                  have hwd : IntKind.i64.wrap ((j : Int) - ca) = (j : Int) - ca := by rw [IntKind.wrap_i64]; omega
                  clear hc hcv hmc hmem
                  go_wp2_with fail
                  refine (inside_any m7 j (by omega) (by omega)).mono ?_
                  rintro e w8 ⟨rfl, b8⟩
                  rw [hbv.out]
                  have hb8 : Below w5.heap.size w5 w8 := hbr7.trans (b8.mono hs7)
                  go_wp2_with fail
                  exact ⟨⟨j + 1, by omega, by go_num, by rw [eR.out]; rfl, by rw [eM.out]; go_num, by rw [eU.out]; go_num, hb8.alloc hb8.size _⟩, by simp [intOf]; omega⟩
                | false =>
                  have hmc : manyB bs j = 0 := by rw [hmany.out, hcv]; rfl
                  rw [hmc]
                  have hbv : blkV (insideB bs j) = .tuple #[.agg #[.int .i64 0, .int .i64 0], .bool false] := by
                    have hno : insideB bs j = none := by
                      have h := hic.out
                      rw [hcv] at h
                      cases hx : insideB bs j with
                      | none => rfl
                      | some c => rw [hx] at h; cases h
                    rw [hno]; rfl
                  replace eR : Hid (rowF bs (j + 1) = rj + 1) := by show _ = _; rw [eR.out, hcv]; rfl
                  replace eU : Hid (usedF bs (j + 1) = uj) := by show _ = _; rw [eU.out, hcv]; rfl
                  replace eM : Hid (mostF bs (j + 1) = max mj (rj + 1)) := by show _ = _; rw [eM.out, eR.out]
                  replace hbv := Lib.hid hbv
                  clear hcv hmc hmem
                  go_wp2_with fail
                  refine (inside_any m7 j (by omega) (by omega)).mono ?_
                  rintro e w8 ⟨rfl, b8⟩
                  rw [hbv.out]
                  have hb8 : Below w5.heap.size w5 w8 := hbr7.trans (b8.mono hs7)
                  go_wp2_with fail
                  exact ⟨⟨j + 1, by omega, by go_num, by rw [eR.out]; go_num, by rw [eM.out]; go_num, by rw [eU.out], hb8.alloc hb8.size _⟩, by simp [intOf]; omega⟩
          · have hje : j = 60 := by omega
            subst hje
            have hua := used_all m5.ok (by omega)
            have hrm : roomB 60 ((mostF bs 60 : Nat) + 1 : Int) 0 bs = false := room_more m5.ok
            have hrt : mostF bs 60 ≠ 0 → roomB 60 (mostF bs 60 : Int) 0 bs = true := room_most m5.ok
            generalize rowF bs 60 = rj at *
            generalize mostF bs 60 = mj at *
            generalize usedF bs 60 = uj at *
            have hk1 : (decide ((1 : Int) ≤ (mj : Int) + 1) && roomB 60 ((mj : Int) + 1) 0 bs) = false := by rw [hrm, Bool.and_false]
            have hk2 : mj ≠ 0 → (decide ((1 : Int) ≤ (mj : Int)) && roomB 60 (mj : Int) 0 bs) = true := fun h => by rw [hrt h, decide_eq_true (by omega : (1 : Int) ≤ (mj : Int))]; rfl
            replace hua := Lib.hid hua
            replace hk1 := Lib.hid hk1
            replace hk2 := Lib.hid hk2
            clear hrm hrt hmem hkrow
            by_cases hz : mj = 0
            · replace hz := Lib.hid hz
              go_wp2_with fail
              refine (used_any m6).mono ?_
              rintro e w8 ⟨rfl, b8⟩
              rw [← hua.out]
              have m8 := m6.below b8
              have hb8 : Below w5.heap.size w5 w8 := hbr6.trans (b8.mono hs6)
              go_wp2_with fail
              refine (room_any m8 (mj + 1) (by omega) (by omega)).mono ?_
              rintro e w9 ⟨rfl, b9⟩
              rw [hk1.out]
              have hb9 : Below w5.heap.size w5 w9 := hb8.trans (b9.mono hb8.size)
              have hz1 : (mj : Int) = 0 := by have := hz.out; omega
              go_wp2_with fail
              go_ret
              exact ⟨rfl, hb1.trans ((hb15.trans (hb9.mono hb15.size)).mono hs1)⟩
            · have hz1 : (mj : Int) ≠ 0 := by omega
              go_wp2_with fail
              refine (used_any m6).mono ?_
              rintro e w8 ⟨rfl, b8⟩
              rw [← hua.out]
              have m8 := m6.below b8
              have hb8 : Below w5.heap.size w5 w8 := hbr6.trans (b8.mono hs6)
              go_wp2_with fail
              refine (room_any m8 (mj + 1) (by omega) (by omega)).mono ?_
              rintro e w9 ⟨rfl, b9⟩
              rw [hk1.out]
              have m9 := m8.below b9
              have hb9 : Below w5.heap.size w5 w9 := hb8.trans (b9.mono hb8.size)
              go_wp2_with fail
              refine (room_any m9 mj (by omega) (by omega)).mono ?_
              rintro e w10 ⟨rfl, b10⟩
              rw [hk2.out hz]
              have hb10 : Below w5.heap.size w5 w10 := hb9.trans (b10.mono hb9.size)
              go_wp2_with fail
              go_ret
              exact ⟨rfl, hb1.trans ((hb15.trans (hb10.mono hb15.size)).mono hs1)⟩
end Go.Proofs.Ytpplmgahpohbmab
