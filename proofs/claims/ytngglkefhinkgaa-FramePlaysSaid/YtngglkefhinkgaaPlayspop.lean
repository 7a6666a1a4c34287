/- The walk of the law FramePlays: pop. -/
import Derived.Test.YtngglkefhinkgaaPlaysP
import Derived.Deep.CutBlock
import Derived.Deep.DrawnRows
namespace Go.Proofs.Ytngglkefhinkgaa
open Go.RowKit
attribute [local go_sem ↓] Go.wp_at_zero Go.wp_at_succ

set_option maxRecDepth 100000 in
set_option maxHeartbeats 4000000 in
theorem plays_pop {most : Int} {len cap b off i D rc mc S : Nat} {w w1 W : World} {mm : Int} {fs : List Fr} {dv n x : Int} {ao' ma : Option Addr} {zs : List Int} {sl : Value}
    (hmm1 : mm ≤ 16) (hfs : fs.length ≤ 16) (hzc : ∀ a, ao' = some a → ∀ j v, (zs.map (Value.int .i64))[j]? = some v → w.cell? (a.add j) = some v) (hzn : ao' = none → zs = [])
    (hbr1 : Below S w1 W) (hk1 : Below w.heap.size w W) (hlr : S + 1 < D) (hDs : D < W.heap.size) (hslD : ¬ foot S sl D) (hmlD : ¬ foot (S + 1) (.slice ma fs.length mc) D)
    (hT : Two S W mm fs fs sl (.slice ma fs.length mc)) (D0 : W.cell? ⟨D, 0, .none⟩ = some (.int .i64 dv)) (D1 : W.cell? ⟨D, 1, .none⟩ = some (.int .i64 n)) (D2 : W.cell? ⟨D, 2, .none⟩ = some (.int .i64 x)) (D3 : W.cell? ⟨D, 3, .none⟩ = some (.slice ao' zs.length rc))
    (hrl' : (zs.length : Int) ≤ 50) (hSW : S ≤ W.heap.size) (hfl : (fs.length : Int) ≤ 16) (hlw : w.heap.size ≤ S) (m0 : W.cell? ⟨S + 1, 0, .none⟩ = some (.slice ma fs.length mc))
    (k1 : ¬ dv ≤ 2) (k2 : dv = 3)
    {u4 u11 u12 u13 u14 u15 u16 u17 u18 u19 u20 u21 u22 u23 u24 u25 u26 u27 u28 u29 u30 u31 u32 u33 u34 u35 u36 u37 u44 u45 u59 u60 u61 u62 u63 u64 u65 u66 u67 u68 u69 u70 u71 u72 u73 u74 u75 u76 u77 u78 u79 u80 u81 u82 u83 u84 u85 u86 u87 u88 u89 u90 u91 u92 u93 u94 u95 u96 u97 u98 u99 u100 u101 u102 u103 u104 u105 u106 u107 u108 u109 u110 u111 u112 u113 u114 u115 u116 u117 u118 u119 u120 u121 u122 u123 u124 u125 u126 u127 u128 u129 u130 u131 u132 u133 u134 u135 u136 u137 u138 u139 u140 u141 u142 u143 u144 u145 u146 u147 u148 u149 u150 u151 u152 u153 u154 u155 u156 u157 u158 u159 u160 u161 u162 u163 u164 u165 u166 u167 u168 u169 u170 u171 u172 u173 u174 u175 u176 u177 u178 u179 u180 u181 u182 u183 u184 u185 u186 u187 u188 u189 u190 u191 u192 u193 u194 u195 u196 u197 u198 u199 u200 u201 u202 u203 u204 u205 u206 u207 u208 u209 u210 u211 u212 u213 u214 u215 u216 u217 u218 u219 u220 u221 u222 u223 u224 u225 u226 u227 u228 u229 u230 u231 u232 u233 u234 u235 u236 u237 u238 u239 u240 u241 u242 u243 u244 u245 u246 u247 u248 u249 u250 u251 u252 u253 u254 u255 u256 u257 u258 u259 u260 u261 u262 u263 u264 u265 u266 u267 u268 u269 u270 u271 u272 : Value} {J K' : Act → World → Prop} {Q' : Exit → Act → World → Prop}
    (hJ : ∀ (a' : Act) (w' : World), (∃ u10 u11 u12 u13 u14 u15 u16 u40 u41 u42 u43 u44 u45 u46 u47 u48 u49 u50 u51 u52 u53 u54 u55 u56 u57 u58 u59 u60 u61 u62 u63 u64 u65 u66 u67 u68 u69 u70 u71 u72 u73 u74 u75 u76 u77 u78 u79 u80 u81 u82 u83 u84 u85 u86 u87 u88 u89 u90 u91 u92 u93 u94 u95 u96 u97 u98 u99 u100 u101 u102 u103 u104 u105 u106 u107 u108 u109 u110 u111 u112 u113 u114 u115 u116 u117 u118 u119 u120 u121 u122 u123 u124 u125 u126 u127 u128 u129 u130 u131 u132 u133 u134 u135 u136 u137 u138 u139 u140 u141 u142 u143 u144 u145 u146 u147 u148 u149 u150 u151 u152 u153 u154 u155 u156 u157 u158 u159 u160 u161 u162 u163 u164 u165 u166 u167 u168 u169 u170 u171 u172 u173 u174 u175 u176 u177 u178 u179 u180 u181 u182 u183 u184 u185 u186 u187 u188 u189 u190 u191 u192 u193 u194 u195 u196 u197 u198 u199 u200 u201 u202 u203 u204 u205 u206 u207 u208 u209 u210 u211 u212 u213 u214 u215 u216 u217 u218 u219 u220 u221 u222 u223 u224 u225 u226 u227 u228 u229 u230 u231 u232 u233 u234 u235 u236 u237 u238 u239 u240 u241 u242 u243 u244 u245 u246 u247 u248 u249 u250 u251 u252 u253 u254 u255 u256 u257 u258 u259 u260 u261 u262 u263 u264 u265 u266 u267 u268 u269 u270 u271 u272, (u10 = Value.bool true ∧ (∃ fs', fs'.length ≤ 16 ∧ Both S w' mm fs') ∧ Below S w1 w') ∧ a' = { tmps := #[Value.int IntKind.i64 most, Value.slice (some { block := b, off := off }) len cap, undef, undef, u4, Value.pointer (some { block := S, off := 0 }), Value.pointer (some { block := S + 1, off := 0 }), Value.int IntKind.i64 ↑i, Value.pointer (some { block := D, off := 0 }), Value.int IntKind.i64 ↑fs.length, u10, u11, u12, u13, u14, u15, u16, u17, u18, u19, u20, u21, u22, u23, u24, u25, u26, u27, u28, u29, u30, u31, u32, u33, u34, u35, u36, u37, Value.pointer (some { block := S, off := 0 }), Value.bool false, u40, u41, u42, u43, u44, u45, u46, u47, u48, u49, u50, u51, u52, u53, u54, u55, u56, u57, u58, u59, u60, u61, u62, u63, u64, u65, u66, u67, u68, u69, u70, u71, u72, u73, u74, u75, u76, u77, u78, u79, u80, u81, u82, u83, u84, u85, u86, u87, u88, u89, u90, u91, u92, u93, u94, u95, u96, u97, u98, u99, u100, u101, u102, u103, u104, u105, u106, u107, u108, u109, u110, u111, u112, u113, u114, u115, u116, u117, u118, u119, u120, u121, u122, u123, u124, u125, u126, u127, u128, u129, u130, u131, u132, u133, u134, u135, u136, u137, u138, u139, u140, u141, u142, u143, u144, u145, u146, u147, u148, u149, u150, u151, u152, u153, u154, u155, u156, u157, u158, u159, u160, u161, u162, u163, u164, u165, u166, u167, u168, u169, u170, u171, u172, u173, u174, u175, u176, u177, u178, u179, u180, u181, u182, u183, u184, u185, u186, u187, u188, u189, u190, u191, u192, u193, u194, u195, u196, u197, u198, u199, u200, u201, u202, u203, u204, u205, u206, u207, u208, u209, u210, u211, u212, u213, u214, u215, u216, u217, u218, u219, u220, u221, u222, u223, u224, u225, u226, u227, u228, u229, u230, u231, u232, u233, u234, u235, u236, u237, u238, u239, u240, u241, u242, u243, u244, u245, u246, u247, u248, u249, u250, u251, u252, u253, u254, u255, u256, u257, u258, u259, u260, u261, u262, u263, u264, u265, u266, u267, u268, u269, u270, u271, u272], defers := [] }) → J a' w')
    (hK : ∀ (a' : Act) (w' : World), Met J a' w' → K' a' w') :
    Code.wp Try.prog swCode (Exit.then K' Q') { tmps := #[Value.int IntKind.i64 most, Value.slice (some { block := b, off := off }) len cap, undef, undef, u4, Value.pointer (some { block := S, off := 0 }), Value.pointer (some { block := S + 1, off := 0 }), Value.int IntKind.i64 ↑i, Value.pointer (some { block := D, off := 0 }), Value.int IntKind.i64 ↑fs.length, Value.bool false, u11, u12, u13, u14, u15, u16, u17, u18, u19, u20, u21, u22, u23, u24, u25, u26, u27, u28, u29, u30, u31, u32, u33, u34, u35, u36, u37, Value.pointer (some { block := S, off := 0 }), Value.bool false, Value.int IntKind.i64 ↑i, Value.slice (some { block := b, off := off }) len cap, Value.int IntKind.i64 ↑len, Value.bool true, u44, u45, Value.slice (some { block := b, off := off }) len cap, Value.int IntKind.i64 ↑i, Value.pointer (some { block := b, off := off + i * 4 }), Value.agg #[Value.int IntKind.i64 dv, Value.int IntKind.i64 n, Value.int IntKind.i64 x, Value.slice ao' zs.length rc], Value.pointer (some { block := D, off := 3 }), Value.slice ao' zs.length rc, Value.int IntKind.i64 ↑zs.length, Value.bool false, Value.pointer (some { block := S + 1, off := 0 }), Value.pointer (some { block := S + 1, off := 0 }), Value.pointer (some { block := S + 1, off := 0 }), Value.slice ma fs.length mc, Value.int IntKind.i64 ↑fs.length, u59, u60, u61, u62, u63, u64, u65, u66, u67, u68, u69, u70, u71, u72, u73, u74, u75, u76, u77, u78, u79, u80, u81, u82, u83, u84, u85, u86, u87, u88, u89, u90, u91, u92, u93, u94, u95, u96, u97, u98, u99, u100, u101, u102, u103, u104, u105, u106, u107, u108, u109, u110, u111, u112, u113, u114, u115, u116, u117, u118, u119, u120, u121, u122, u123, u124, u125, u126, u127, u128, u129, u130, u131, u132, u133, u134, u135, u136, u137, u138, u139, u140, u141, u142, u143, u144, u145, u146, u147, u148, u149, u150, u151, u152, u153, u154, u155, u156, u157, u158, u159, u160, u161, u162, u163, u164, u165, u166, u167, u168, u169, u170, u171, u172, u173, u174, u175, u176, u177, u178, u179, u180, u181, u182, u183, u184, u185, u186, u187, u188, u189, u190, u191, u192, u193, u194, u195, u196, u197, u198, u199, u200, u201, u202, u203, u204, u205, u206, u207, u208, u209, u210, u211, u212, u213, u214, u215, u216, u217, u218, u219, u220, u221, u222, u223, u224, u225, u226, u227, u228, u229, u230, u231, u232, u233, u234, u235, u236, u237, u238, u239, u240, u241, u242, u243, u244, u245, u246, u247, u248, u249, u250, u251, u252, u253, u254, u255, u256, u257, u258, u259, u260, u261, u262, u263, u264, u265, u266, u267, u268, u269, u270, u271, u272],defers := [] } W := by
  conv => arg 2; whnf
  subst k2
  by_cases h0 : fs.length = 0
  · have hp : ¬ (0 : Int) < (fs.length : Int) := by omega
    have H0 := Lib.hid h0
    clear h0
    go_wp2_with (go_at_call 22; refine Calls.mono (two_pop_nil hT (by exact ⟨rfl, rfl, rfl, rfl⟩) H0.out) ?_; rintro e w2 ⟨rfl, hb2, hc2, sl2, hT2⟩; (try go_simp))
    go_meet
    refine ⟨by first | rfl | (congr 1; simp; omega) | (have h := H0.out; congr 1; simp [h]), ⟨_, hfs, _, _, hT2.below (by go_grown)⟩, (hbr1.trans hb2).alloc hT2.sz _⟩
  · have hp : (0 : Int) < (fs.length : Int) := by omega
    have hpb : decide (0 < fs.length) = true := decide_eq_true (by omega)
    obtain ⟨_, _, code, pc, r0, r1, r2, r3, r4, r5, r6, r7, _, _, _, _, ht, _⟩ := last_row hT.left h0
    go_upto_region 27 with (go_at_call 22; refine Calls.mono (two_pop hT (by exact ⟨rfl, rfl, rfl, rfl⟩) h0 ht) ?_; rintro e w2 ⟨rfl, hb2, hc2, sl2, hT2⟩; (try go_simp))
    obtain ⟨g, cap, code', pc', x0, x1, x2, x3, x4, x5, x6, x7, hml, hg, hgs, hBg, ht', c0, c1, c2, c3, c4, c5, c6, c7, c8, c9, hcap, hn63, hfr⟩ := last_row hT2.right h0
    simp only [ht, Fr.mk.injEq, List.cons.injEq, and_true] at ht'
    obtain ⟨rfl, rfl, rfl, rfl, rfl, rfl, rfl, rfl, rfl, rfl⟩ := ht'
    cases hml
    have hm1 := hT2.right.cell0
    have hS1 := hT2.right.lt
    have b1 : (0 : Int) ≤ (fs.length : Int) - 1 := by omega
    have b2 : (fs.length : Int) - 1 < (fs.length : Int) := by omega
    have b3 : ((fs.length : Int) - 1).toNat = fs.length - 1 := by omega
    have b4 : (fs.length : Int) - 1 ≤ (mc : Int) := by omega
    have hF := rowCells (heap_alloc_new w2 (.cells #[.int .i64 code, .int .i64 pc, .int .i64 r0, .int .i64 r1, .int .i64 r2, .int .i64 r3, .int .i64 r4, .int .i64 r5, .int .i64 r6, .int .i64 r7] 41))
    have hbV : Below w2.heap.size w2 (w2.alloc (.cells #[.int .i64 code, .int .i64 pc, .int .i64 r0, .int .i64 r1, .int .i64 r2, .int .i64 r3, .int .i64 r4, .int .i64 r5, .int .i64 r6, .int .i64 r7] 41)) := by go_grown
    have hFs : w2.heap.size < (w2.alloc (.cells #[.int .i64 code, .int .i64 pc, .int .i64 r0, .int .i64 r1, .int .i64 r2, .int .i64 r3, .int .i64 r4, .int .i64 r5, .int .i64 r6, .int .i64 r7] 41)).heap.size := by simp
    generalize (w2.alloc (.cells #[.int .i64 code, .int .i64 pc, .int .i64 r0, .int .i64 r1, .int .i64 r2, .int .i64 r3, .int .i64 r4, .int .i64 r5, .int .i64 r6, .int .i64 r7] 41)) = V at *
    have hTV := hT2.below hbV
    have kk := keepF hbV
    replace c0 := kk _ _ _ c0
    replace c1 := kk _ _ _ c1
    replace c2 := kk _ _ _ c2
    replace c3 := kk _ _ _ c3
    replace c4 := kk _ _ _ c4
    replace c5 := kk _ _ _ c5
    replace c6 := kk _ _ _ c6
    replace c7 := kk _ _ _ c7
    replace c8 := kk _ _ _ c8
    replace c9 := kk _ _ _ c9
    replace hm1 := kk _ _ _ hm1
    have f0 : V.cell? ⟨w2.heap.size, 0, .none⟩ = some (.int .i64 code) := hF 0
    have f1 : V.cell? ⟨w2.heap.size, 1, .none⟩ = some (.int .i64 pc) := hF 1
    have f2 : V.cell? ⟨w2.heap.size, 2, .none⟩ = some (.int .i64 r0) := hF 2
    have f3 : V.cell? ⟨w2.heap.size, 3, .none⟩ = some (.int .i64 r1) := hF 3
    have f4 : V.cell? ⟨w2.heap.size, 4, .none⟩ = some (.int .i64 r2) := hF 4
    have f5 : V.cell? ⟨w2.heap.size, 5, .none⟩ = some (.int .i64 r3) := hF 5
    have f6 : V.cell? ⟨w2.heap.size, 6, .none⟩ = some (.int .i64 r4) := hF 6
    have f7 : V.cell? ⟨w2.heap.size, 7, .none⟩ = some (.int .i64 r5) := hF 7
    have f8 : V.cell? ⟨w2.heap.size, 8, .none⟩ = some (.int .i64 r6) := hF 8
    have f9 : V.cell? ⟨w2.heap.size, 9, .none⟩ = some (.int .i64 r7) := hF 9
    have hgV : g < V.heap.size := by omega
    have hSV : S + 1 < V.heap.size := by omega
    clear kk hF m0 D0 D1 D2 D3 hT hzc hzn
    generalize hFF : w2.heap.size = F at *
    refine wp_region_ext (by kernel_rfl) (by kernel_rfl) ?_
    repeat (go_big_quiet_step ((first
      | (go_at_call 24; exact ext_of (same_top _ _ _ _ _ _ _ _ _ _ _)))))
    refine wpQuiet_nil ?_
    rintro _ ⟨e, rfl⟩
    have hTe := hTV.below e.below
    have hm2 := keepF e.below _ _ _ hm1
    have hfz := rowFree hTe.right.head 0
    have hbe := e.below
    generalize e.w = X at *
    clear e c0 c1 c2 c3 c4 c5 c6 c7 c8 c9 f0 f1 f2 f3 f4 f5 f6 f7 f8 f9 hm1
    go_wp2_with fail
    go_meet
    refine ⟨by first | rfl | (congr 1; simp; omega) | (have h := H0.out; congr 1; simp [h]), ⟨fs.dropLast, by simp; omega, _, _, hTe.onRight (Only.setCell (Only.refl _ _) (.inl (.inl rfl)) _) (Stk_pop hTe.right h0) (fun _ h => .inl h)⟩, Below.setCell ?_ (by show S ≤ S + 1; omega) _⟩
    exact (hbr1.trans hb2).trans ((hbV.mono (by have := hT2.sz; omega)).trans (hbe.mono hTV.sz))
end Go.Proofs.Ytngglkefhinkgaa
