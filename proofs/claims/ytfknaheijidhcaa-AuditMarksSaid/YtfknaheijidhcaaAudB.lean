/- The walk of package audit's Blocks. -/
import Derived.Test.YtfknaheijidhcaaAudX

import Derived.Test.YtfknaheijidhcaaMdlF

import Derived.Deep.CutBlock

import Derived.Deep.Onto

namespace Go.Proofs.Ytfknaheijidhcaa

open Go.RowKit

attribute [local go_sem ↓] Go.wp_at_zero Go.wp_at_succ

attribute [local go_sem ↓] run_field_slot0 run_field_slot1

theorem Bk.oneC (b : Bk) : ∀ u ∈ b.cells, u.oneCell' = true := by
  intro u hu
  simp only [Bk.cells, List.mem_cons, List.not_mem_nil, or_false] at hu
  rcases hu with rfl | rfl <;> rfl
/-- The blocks among the first i slots of a page. -/
def Hp.slB (h : Hp) (a : Int) : Nat → List Bk
  | 0 => []
  | i + 1 => h.slB a i ++ (if h.sk a i = 3 then [⟨a * 64 + i * sizeV (h.pa a), sizeV (h.pa a)⟩] else [])
def Hp.pgB (h : Hp) (a : Int) : List Bk :=
  if h.pk a = 3 then [⟨a * 64, h.pa a * 64⟩] else if h.pk a = 2 then h.slB a (slotsV (h.pa a)).toNat else []
def Hp.blT (h : Hp) : Nat → List Bk
  | 0 => []
  | k + 1 => h.blT k ++ h.pgB k
def Hp.bl (h : Hp) : List Bk := if h.ok = true then h.blT h.p.toNat else []
theorem Hp.slB_len (h : Hp) (a : Int) (i : Nat) : (h.slB a i).length ≤ i := by
  induction i with
  | zero => exact Nat.le_refl _
  | succ i ih =>
    unfold Hp.slB
    rw [List.length_append]
    split <;> simp <;> omega
theorem Hp.pgB_len (h : Hp) (a : Int) : (h.pgB a).length ≤ 16 := by
  unfold Hp.pgB
  have hb := slots_bd (h.pa a)
  split
  · simp
  · split
    · have := h.slB_len a (slotsV (h.pa a)).toNat; omega
    · simp
theorem Hp.blT_len (h : Hp) (k : Nat) : (h.blT k).length ≤ 16 * k := by
  induction k with
  | zero => exact Nat.le_refl _
  | succ k ih =>
    unfold Hp.blT
    rw [List.length_append]
    have := h.pgB_len k
    omega
theorem own_below {w w' : World} {B : Nat} {E : TypeId} {size : Nat} {v : Value} {n : Nat} {xs : List Value} (h : w.ownsRow B E size v n xs) (hb : Below w.heap.size w w') : w'.ownsRow B E size v n xs :=
  ownsRow_of_blocks h fun k hk => hb.block k (h.lt k hk).2
theorem flatB_snoc (l : List Bk) (b : Bk) : flatB (l ++ [b]) = flatB l ++ b.cells := by rw [flatB_append]; simp [flatB]
theorem cell_blk {w w' : World} {g : Nat} (h : w'.heap[g]? = w.heap[g]?) (o : Nat) : w'.cell? ⟨g, o, .none⟩ = w.cell? ⟨g, o, .none⟩ := by
  simp only [World.cell?, h]
theorem infoPr : (Try.prog.info? 65).map (fun i => (i.zero, i.size, i.bytes)) = some (some (.agg #[.int .i64 0, .int .i64 0]), 2, 16) := by kernel_rfl

set_option maxRecDepth 100000 in
set_option maxHeartbeats 8000000 in
theorem ablocks_any (h : Hp) (v : Value) (w : World) (hr : RdZ .u64 w v h.xs) (hf : h.fit) :
    Calls Try.prog 31 #[shV h, v] w fun e w' => ∃ v', e = .returned v' ∧ Below w.heap.size w w' ∧ w'.ownsRow w.heap.size 65 2 v' h.bl.length (flatB h.bl) := by
  obtain ⟨ao, cap, hv, _, _, _⟩ := hr.cells
  generalize h.xs.length = m at hv
  subst hv
  have hop := fun X hX => open_any h (.slice ao m cap) X (hr.below (w' := X) hX)
  have b1 := (Below.refl w.heap.size w).alloc (Nat.le_refl _) (.cells #[.int .i64 h.p, .int .i64 h.c, .int .i64 h.m] 23)
  have hbl : h.bl = if h.ok = true then h.blT h.p.toNat else [] := rfl
  obtain ⟨i0, hi0, hz0, hz1, hz2⟩ := info_parts infoPr
  rcases Bool.eq_false_or_eq_true h.ok with hok | hok
  case inr =>
    rw [hok] at hop
    rw [hbl, hok, if_neg Bool.false_ne_true]
    clear hbl hok
    replace hop := Lib.hid hop
    go_enter Try.func31, Try.ntmps31
    go_wp2_with fail
    refine (hop.out _ b1).mono ?_
    rintro e w1 ⟨rfl, hb1⟩
    have hB := b1.trans (hb1.mono b1.size)
    go_wp2
    go_ret
    exact ⟨_, rfl, hB.alloc hB.size _, ⟨rfl, .inl ⟨rfl, rfl⟩⟩⟩
  case inl =>
    have b : Bok w (.slice ao m cap) h := ⟨hok, hr, hf⟩
    obtain ⟨bp, _, _, _⟩ := b.bd
    rw [hok] at hop
    rw [hbl, hok, if_pos rfl]
    have hpg := fun a X (hX : Below w.heap.size w X) ha => page_any h (.slice ao m cap) a X (b.below hX) ha
    have hsl := fun a i X (hX : Below w.heap.size w X) ha hi => slot_any h (.slice ao m cap) a i X (b.below hX) ha hi
    obtain ⟨P, hP⟩ : ∃ P : Nat, Hid (h.p = P) := ⟨h.p.toNat, Lib.hid (by omega)⟩
    have hPt : h.p.toNat = P := by have := hP.out; omega
    rw [hPt]
    have hk3 := fun a => Hp.kind3 (h := h) (a := a)
    have hk2 := fun a => Hp.kind2 (h := h) (a := a)
    have hpk0 : Hid (∀ a, h.pb a = false → h.pk a = 0) := Lib.hid fun a hb => by unfold Hp.pk; rw [hb, if_neg Bool.false_ne_true]
    have hT0 : Hid (h.blT 0 = []) := Lib.hid rfl
    have hTS : Hid (∀ k : Nat, h.blT (k + 1) = h.blT k ++ h.pgB k) := Lib.hid fun _ => rfl
    have hTL : Hid (∀ k : Nat, (h.blT k).length ≤ 16 * k) := Lib.hid h.blT_len
    have hG : Hid (∀ a, h.pgB a = if h.pk a = 3 then [⟨a * 64, h.pa a * 64⟩] else if h.pk a = 2 then h.slB a (slotsV (h.pa a)).toNat else []) := Lib.hid fun _ => rfl
    have hS0 : Hid (∀ a, h.slB a 0 = []) := Lib.hid fun _ => rfl
    have hSS : Hid (∀ a (i : Nat), h.slB a (i + 1) = h.slB a i ++ (if h.sk a i = 3 then [⟨a * 64 + i * sizeV (h.pa a), sizeV (h.pa a)⟩] else [])) := Lib.hid fun _ _ => rfl
    have hSL : Hid (∀ a (i : Nat), (h.slB a i).length ≤ i) := Lib.hid h.slB_len
    replace hop := Lib.hid hop
    replace hpg := Lib.hid hpg
    replace hsl := Lib.hid hsl
    replace hk3 := Lib.hid hk3
    replace hk2 := Lib.hid hk2
    clear hbl hok hPt b
    go_enter Try.func31, Try.ntmps31
    go_wp2_with fail
    refine (hop.out _ b1).mono ?_
    rintro e w1 ⟨rfl, hb1⟩
    have hB1 := b1.trans (hb1.mono b1.size)
    have hB := hB1.alloc hB1.size (.cells #[.int .i64 h.p, .int .i64 h.c, .int .i64 h.m, .slice ao m cap] 72)
    have hb2 := hb1.alloc hb1.size (.cells #[.int .i64 h.p, .int .i64 h.c, .int .i64 h.m, .slice ao m cap] 72)
    have r0 := (hb2.block _ (by simp)).trans (heap_alloc_new w (.cells #[.int .i64 h.p, .int .i64 h.c, .int .i64 h.m] 23))
    have r3 := heap_alloc_new w1 (.cells #[.int .i64 h.p, .int .i64 h.c, .int .i64 h.m, .slice ao m cap] 72)
    go_upto_region 2 with fail
    obtain ⟨H, hH, hH'⟩ : ∃ H, Hid (H = w.heap.size) ∧ H = w.heap.size := ⟨_, Lib.hid rfl, rfl⟩
    obtain ⟨K, hK, hK'⟩ : ∃ K, Hid (K = w1.heap.size) ∧ K = w1.heap.size := ⟨_, Lib.hid rfl, rfl⟩
    rw [← hK'] at r3 ⊢
    rw [← hH'] at r0 ⊢
    clear hK' hH' hb1 hb2 hB1
    generalize w1.alloc (.cells #[.int .i64 h.p, .int .i64 h.c, .int .i64 h.m, .slice ao m cap] 72) = W at *
    have s0 : W.cell? ⟨H, 0, .none⟩ = some (.int .i64 h.p) := rowCells r0 0
    have k0 : W.cell? ⟨K, 0, .none⟩ = some (.int .i64 h.p) := rowCells r3 0
    have k1 : W.cell? ⟨K, 1, .none⟩ = some (.int .i64 h.c) := rowCells r3 1
    have k2 : W.cell? ⟨K, 2, .none⟩ = some (.int .i64 h.m) := rowCells r3 2
    have k3 : W.cell? ⟨K, 3, .none⟩ = some (.slice ao m cap) := rowCells r3 3
    have hWs := hB.size
    clear r0 r3
    go_wp2_with fail
    go_loopw [7, 22] (fun vl vi wr => ∃ i : Nat, i ≤ P ∧ vi = .int .i64 i ∧ Below W.heap.size W wr ∧ wr.ownsRow W.heap.size 65 2 vl (h.blT i).length (flatB (h.blT i))) (fun _ vi _ => P - (intOf vi).toNat)
    case atStart => exact ⟨0, Nat.zero_le _, rfl, Below.refl _ _, by rw [hT0.out]; exact ⟨rfl, .inl ⟨rfl, rfl⟩⟩⟩
    case round =>
      obtain ⟨i, hi, rfl, hbr, hown⟩ := hrel
      have d0 := keepF hbr _ _ _ k0
      have d1 := keepF hbr _ _ _ k1
      have d2 := keepF hbr _ _ _ k2
      have d3 := keepF hbr _ _ _ k3
      have hBr := hB.trans (hbr.mono hB.size)
      by_cases hlt : (i : Int) < h.p
      · have hiP : i < P := by have := hP.out; omega
        have hip : 0 ≤ (i : Int) ∧ (i : Int) < h.p := by omega
        have hTi := hTS.out i
        rw [hG.out] at hTi
        have hL := hTL.out i
        have hpx := hpg.out i wr hBr hip
        have x3 := hk3.out i
        have x2 := hk2.out i
        have x0 := hpk0.out i
        have hsx := fun j X hX hj => hsl.out i j X hX hip hj
        have y0 := hS0.out i
        have yS := hSS.out i
        have yL := hSL.out i
        generalize h.blT i = L at *
        generalize hLn : L.length = n at *
        generalize h.pk i = pk at *
        generalize h.pa i = pa at *
        generalize h.pn i = pn at *
        generalize h.pb i = pb at *
        replace hpx := Lib.hid hpx
        replace hsx := Lib.hid hsx
        replace y0 := Lib.hid y0
        replace yS := Lib.hid yS
        replace yL := Lib.hid yL
        replace hTi := Lib.hid hTi
        replace x0 := Lib.hid x0
        replace x2 := Lib.hid x2
        replace x3 := Lib.hid x3
        replace hLn := Lib.hid hLn
        have fin : Hid (∀ X v l, Below W.heap.size W X → X.ownsRow W.heap.size 65 2 v l.length (flatB l) → h.blT (i + 1) = l → ∃ j : Nat, j ≤ P ∧ Value.int .i64 ((i : Int) + 1) = .int .i64 j ∧ Below W.heap.size W X ∧ X.ownsRow W.heap.size 65 2 v (h.blT j).length (flatB (h.blT j))) :=
          Lib.hid fun X v l hb ho e => ⟨i + 1, by omega, by go_num, hb, by rw [e]; exact ho⟩
        go_wp2_with fail
        refine hpx.out.mono ?_
        rintro e w2 ⟨rfl, hb2⟩
        have hbr2 := hbr.trans (hb2.mono hbr.size)
        have hbr3 := hbr2.alloc hbr2.size (.cells #[.int .i64 pk, .int .i64 pa, .int .i64 pn] 79)
        have own2 := own_below hown hb2
        have own3 := own2.alloc (.cells #[.int .i64 pk, .int .i64 pa, .int .i64 pn] 79)
        have g3 := heap_alloc_new w2 (.cells #[.int .i64 pk, .int .i64 pa, .int .i64 pn] 79)
        have hne : u7.ownBlock ≠ some w2.heap.size := fun e => by have := (own2.lt _ e).2; omega
        go_upto_region 9 with fail
        clear hown hb2 hbr2 own2 d0 d1 d2 d3 hpx hbr hBr
        generalize w2.heap.size = G at g3 hne ⊢
        generalize w2.alloc (.cells #[.int .i64 pk, .int .i64 pa, .int .i64 pn] 79) = V at *
        have p0 : V.cell? ⟨G, 0, .none⟩ = some (.int .i64 pk) := rowCells g3 0
        have p1 : V.cell? ⟨G, 1, .none⟩ = some (.int .i64 pa) := rowCells g3 1
        have lG := (Array.getElem?_eq_some_iff.1 g3).1
        have hVs := hbr3.size
        clear g3
        by_cases hk3 : pk = 3
        · subst hk3
          have hpb : pb = true := by
            rcases Bool.eq_false_or_eq_true pb with hp | hp
            · exact hp
            · exact absurd (x0.out hp) (by omega)
          subst hpb
          obtain ⟨a1, a2, a3⟩ := x3.out rfl
          have m1 : IntKind.i64.wrap ((i : Int) * 64) = (i : Int) * 64 := IntWalk.i64_in _ ⟨by omega, by omega⟩
          have m2 : IntKind.i64.wrap (pa * 64) = pa * 64 := IntWalk.i64_in _ ⟨by omega, by omega⟩
          go_wp2_with (refine wpList_append_rd rfl (.tmp 34) (.tmp 41) 63 rfl W.heap.size 65 i0 _ 2 16 Try.underlying63 hi0 hz0 hz1 hz2 rfl (by omega) _ n (flatB L) rfl (own3.alloc _) _ 1 (Bk.cells ⟨(i : Int) * 64, pa * 64⟩) rfl (RdS.new (cs := (Bk.cells ⟨(i : Int) * 64, pa * 64⟩).toArray) (t := 65) (sz := 2) (n := 1) (heap_alloc_new V _) rfl (by omega)) (Bk.oneC _) (by simp only [maxLen]; omega) (by omega) (by simp; omega) ?_; intro v1 w1 hown1 hgrow1 hat1; have hbr4 := grown_belowS (hbr3.alloc hVs _) (own3.alloc _) (by simp; omega) hgrow1; have q0 := (cell_blk (hgrow1.block G (by simp; omega) (fun e => hne e.symm)) 0).trans (keepF ((Below.refl V.heap.size V).alloc (Nat.le_refl _) _) _ _ _ p0))
          refine ⟨fin.out _ _ (L ++ [⟨(i : Int) * 64, pa * 64⟩]) hbr4 ?_ ?_, by simp [intOf]; omega⟩
          · rw [flatB_snoc, List.length_append, List.length_singleton, hLn.out]; exact hown1
          · exact hTi.out
        · by_cases hk2 : pk = 2
          · subst hk2
            have hpb : pb = true := by
              rcases Bool.eq_false_or_eq_true pb with hp | hp
              · exact hp
              · exact absurd (x0.out hp) (by omega)
            subst hpb
            obtain ⟨a1, a2⟩ := x2.out rfl
            have hss := slots_any pa
            have hsz := size_any pa
            have hsb := slots_bd pa
            have hzb := size_bd pa
            have had := fun (j : Int) X (hj : 0 ≤ j ∧ j ≤ 16) => address_any i j pa X (by omega) hj
            have hT := hTi.out
            rw [if_neg hk3, if_pos rfl] at hT
            obtain ⟨q, hq⟩ : ∃ q : Nat, slotsV pa = q := ⟨(slotsV pa).toNat, by omega⟩
            rw [hq] at hss hsb hT
            rw [Int.toNat_natCast] at hT
            generalize sizeV pa = z at *
            replace hss := Lib.hid hss
            replace hsz := Lib.hid hsz
            replace had := Lib.hid had
            replace hT := Lib.hid hT
            clear hTi x0 x2 x3 hk3 hq
            go_wp2_with fail
            refine (hss.out _).mono ?_
            rintro e w3 ⟨rfl, hw⟩
            obtain rfl := hw.symm
            clear hw
            obtain ⟨Wr, rfl⟩ : ∃ V : World, V = wr := ⟨_, rfl⟩
            go_wp2_with fail
            go_loopw [7, 49] (fun vl vj wr => ∃ j : Nat, j ≤ q ∧ vj = .int .i64 j ∧ Below W.heap.size W wr ∧ wr.ownsRow W.heap.size 65 2 vl (n + (h.slB i j).length) (flatB (L ++ h.slB i j)) ∧ wr.cell? ⟨G, 1, .none⟩ = some (.int .i64 pa) ∧ G < wr.heap.size ∧ vl.ownBlock ≠ some G) (fun _ vj _ => q - (intOf vj).toNat)
            case atStart => exact ⟨0, Nat.zero_le _, rfl, hbr3, by rw [y0.out, List.append_nil]; exact own3, p1, lG, hne⟩
            case round =>
              obtain ⟨j, hj, rfl, hbq, owq, r1, lq, hnq⟩ := hrel
              by_cases hlj : j < q
              · have d0 := keepF hbq _ _ _ k0
                have d1 := keepF hbq _ _ _ k1
                have d2 := keepF hbq _ _ _ k2
                have d3 := keepF hbq _ _ _ k3
                have hBq := hB.trans (hbq.mono hB.size)
                have hsa := hsx.out j wr hBq (by omega)
                have hst := yS.out j
                have hSl := yL.out j
                have hzz := mul_bd (c := (j : Int)) (m := z) (C := 16) (M := 32) (by omega) (by omega)
                have hja : 0 ≤ (j : Int) ∧ (j : Int) ≤ 16 := by omega
                have hadd := fun X => had.out j X hja
                generalize h.sk i j = k4 at *
                generalize h.sa i j = k5 at *
                generalize h.slB i j = M at *
                generalize hMn : M.length = mm at *
                generalize (i : Int) * 64 + (j : Int) * z = ad at *
                replace hsa := Lib.hid hsa
                replace hst := Lib.hid hst
                replace hadd := Lib.hid hadd
                replace hMn := Lib.hid hMn
                have fin2 : Hid (∀ X v l, Below W.heap.size W X → X.ownsRow W.heap.size 65 2 v (n + l.length) (flatB (L ++ l)) → h.slB i (j + 1) = l → X.cell? ⟨G, 1, .none⟩ = some (.int .i64 pa) → G < X.heap.size → v.ownBlock ≠ some G → ∃ k : Nat, k ≤ q ∧ Value.int .i64 ((j : Int) + 1) = .int .i64 k ∧ Below W.heap.size W X ∧ X.ownsRow W.heap.size 65 2 v (n + (h.slB i k).length) (flatB (L ++ h.slB i k)) ∧ X.cell? ⟨G, 1, .none⟩ = some (.int .i64 pa) ∧ G < X.heap.size ∧ v.ownBlock ≠ some G) :=
                  Lib.hid fun X v l hb ho e c lx hn => ⟨j + 1, by omega, by go_num, hb, by rw [e]; exact ho, c, lx, hn⟩
                go_wp2_with fail
                refine hsa.out.mono ?_
                rintro e w5 ⟨rfl, hb5⟩
                have own5 := own_below owq hb5
                have hbr5 := hbq.trans (hb5.mono hbq.size)
                have r5 := keepF hb5 _ _ _ r1
                have hs5 := hb5.size
                have hs6 := hbr5.size
                clear d0 d1 d2 d3 hBq owq hbq r1 hb5
                by_cases hk4 : k4 = 3
                · subst hk4
                  have hst2 := hst.out
                  rw [if_pos rfl] at hst2
                  replace hst2 := Lib.hid hst2
                  clear hst hsa
                  go_upto_region 16 with fail
                  go_region_held3 (fun w' => w'.cell? ⟨G, 1, .none⟩ = some (.int .i64 pa)) (first | go_keep | exact q1)
                    (first
                      | (go_at_call 62; (with_reducible refine (hadd.out _).mono ?_); rintro e w6 ⟨rfl, rfl⟩)
                      | (go_at_call 63; (with_reducible refine (hsz.out _).mono ?_); rintro e w6 ⟨rfl, rfl⟩)
                      | (refine step_append_rd (by rfl) (.tmp 58) (.tmp 68) 63 (by rfl) W.heap.size 65 i0 _ 2 16 Try.underlying63 hi0 hz0 hz1 hz2 rfl (by omega) _ (n + mm) (flatB (L ++ M)) (by rfl) ((own5.alloc _).drew) _ 1 (Bk.cells ⟨ad, z⟩) (by rfl) (RdS.new (cs := (Bk.cells ⟨ad, z⟩).toArray) (t := 65) (sz := 2) (n := 1) (heap_alloc_new w5 _) rfl (by omega)) (Bk.oneC _) (by simp only [maxLen]; omega) (by omega) (by simp; omega) ?_; intro v1 w1 hown1 hgrow1 hat1; have hbr6 := grown_belowS ((hbr5.alloc hs6 _).drew) ((own5.alloc _).drew) (by simp; omega) hgrow1; have q1 := (cell_blk (hgrow1.block G (by simp; omega) (fun e => hnq e.symm)) 1).trans (keepF ((Below.refl w5.heap.size w5).alloc (Nat.le_refl _) _) _ _ _ r5); have lq1 : G < w1.heap.size := cell_lt q1; have hn1 : v1.ownBlock ≠ some G := (fun e => by rcases hat1 with h | h; exact hnq (h.symm.trans e); (have := h.symm.trans e; injection this with this; simp at this; omega))))
                  go_wp2
                  refine ⟨fin2.out _ _ (M ++ [⟨ad, z⟩]) hbr6 ?_ hst2.out q1 lq1 hn1, by simp [intOf]; omega⟩
                  rw [← List.append_assoc, flatB_snoc, List.length_append, List.length_singleton, hMn.out, ← Nat.add_assoc]
                  exact hown1
                · have e4 : (k4 == 3) = false := by rw [beq_eq_false_iff_ne]; exact hk4
                  go_wp2
                  refine ⟨fin2.out _ _ M hbr5 (by rw [hMn.out]; exact own5) ?_ r5 (by omega) hnq, by simp [intOf]; omega⟩
                  have := hst.out
                  rw [if_neg hk4, List.append_nil] at this
                  exact this
              · have hje : j = q := by omega
                subst hje
                have hj0 : ¬ ((j : Int) < (j : Int)) := by omega
                go_wp2
                refine ⟨fin.out _ _ (L ++ h.slB i j) hbq ?_ hT.out, by simp [intOf]; omega⟩
                rw [List.length_append, hLn.out]
                exact owq
          · have e3 : (pk == 3) = false := by rw [beq_eq_false_iff_ne]; exact hk3
            have e2 : (pk == 2) = false := by rw [beq_eq_false_iff_ne]; exact hk2
            go_wp2_with fail
            refine ⟨fin.out _ _ L hbr3 ?_ ?_, by simp [intOf]; omega⟩
            · rw [hLn.out]; exact own3
            · have := hTi.out
              rw [if_neg hk3, if_neg hk2, List.append_nil] at this
              exact this
      · have hie : i = P := by have := hP.out; omega
        subst hie
        go_wp2
        go_ret
        exact ⟨_, rfl, hBr, World.ownsRow.mono hown (by omega)⟩
end Go.Proofs.Ytfknaheijidhcaa
