/- What one operation of a client tells, plain: it is asked once, answered once, at its last access; between them at most one of each other kind. -/
import Derived.Test.YtcgakbgmdabnkaaGreatBn36

import Derived.Test.YtcgakbgmdabnkaaGreatBn46

set_option linter.all false
namespace Go.Proofs.YtcgakbgmdabnkaaGreat

/-- So many events of a kind. -/
def manyE (es : List Ev) (i : Int) : Nat := es.countP (fun e => e.k == i)
theorem manyE_app (es xs : List Ev) (i : Int) : manyE (es ++ xs) i = manyE es i + manyE xs i := List.countP_append
theorem manyE_one (e : Ev) (i : Int) : manyE [e] i = if e.k = i then 1 else 0 := by
  unfold manyE
  rw [List.countP_cons, List.countP_nil]
  by_cases h : e.k = i <;> simp [h]
theorem manyE_nil (i : Int) : manyE [] i = 0 := rfl
structure OnceI (o : Op3) (k : Kl) (all : List Ev) : Prop where
  op : k.op = o
  c : k.c = 0
  ev : ∀ e ∈ all, e.c = 0 ∧ 2 ≤ e.k ∧ e.k ≤ 5
  two : manyE all 2 = 1
  len : (all.length : Int) ≤ 2 + 3 * k.steps
  run : ∀ j, k.job = some j → manyE all 5 = 0 ∧ manyE all 3 = 0 ∧ (manyE all 4 = if k.told = true then 1 else 0) ∧ (k.told = true → j.gave = true) ∧ (o.k = 2 → ∃ f, j = .fre f)
  fin : k.job = none → ∃ pre e, all = pre ++ [e] ∧ e.k = 5 ∧ e.ok = o.k ∧ e.oa = o.a ∧ e.on = o.n ∧ manyE all 5 = 1 ∧ manyE all 3 ≤ 1 ∧ manyE all 4 ≤ 1 ∧ (manyE all 3 = 0 ∨ e.er = 0) ∧ (o.k = 2 → (manyE all 4 = 1 ↔ e.er = 0))
theorem jb_took_err {j : Jb} {b : Blk} (h : j.took = some b) : j.err = 0 := by
  cases j with
  | mal r c =>
    simp only [Jb.took] at h
    split at h
    · simp [Jb.err, h]
    · cases h
  | fre f => cases h
  | aga r =>
    simp only [Jb.took] at h
    split at h
    · rename_i h1; exact h1.2
    · cases h
  | hei a => cases h
theorem jb_fre_err (f : Fe) : (Jb.fre f).err = 0 ↔ (Jb.fre f).gave = true := by
  simp only [Jb.err, Jb.gave]
  cases f.gave <;> simp
theorem onceE_pos {s : Sh} {c k a n : Int} (h : onceB s c k a n = true) : onceE s c k a n ≠ 0 := by
  unfold onceB at h
  unfold onceE
  split
  · omega
  · rename_i h1
    have h2 : onceNo s k n = true := by simpa [h1] using h
    rw [if_pos h2]; omega
theorem once_ask {s : Sh} {f : Int} {o : Op3} (hk : 1 ≤ o.k ∧ o.k ≤ 4) (hm : mayB s.p s.c s.m = true) (hf : 0 ≤ f ∧ f < s.p) (hc : 0 < s.c) :
    ((klNew 0 f).invoke s o).2.2 = 0 ∧ (∃ r, ((klNew 0 f).invoke s o).2.1 = evAsked 0 o :: r) ∧ OnceI o ((klNew 0 f).invoke s o).1 ((klNew 0 f).invoke s o).2.1 := by
  have hr : ¬ (klNew 0 f).rests = false := by unfold Kl.rests klNew; simp
  have h2 : ¬ (o.k < 1 ∨ 4 < o.k) := by omega
  unfold Kl.invoke
  rw [if_neg hr, if_neg h2]
  by_cases hb : onceB s (klNew 0 f).c o.k o.a o.n = true
  · rw [if_pos hb]
    have hne := onceE_pos hb
    refine ⟨rfl, ⟨_, rfl⟩, rfl, rfl, fun e he => ?_, by simp [manyE, evAsked, evAnswer, klNew], by simp, fun j hj => (by cases hj), fun _ => ⟨[_], _, rfl, rfl, rfl, rfl, rfl, by simp [manyE, evAsked, evAnswer, klNew], by simp [manyE, evAsked, evAnswer, klNew], by simp [manyE, evAsked, evAnswer, klNew], .inl (by simp [manyE, evAsked, evAnswer, klNew]), fun _ => ⟨fun h => by simp [manyE, evAsked, evAnswer, klNew] at h, fun h => absurd h hne⟩⟩⟩
    rcases List.mem_cons.1 he with rfl | he
    · exact ⟨rfl, by simp [evAsked, evAnswer], by simp [evAsked, evAnswer]⟩
    · rcases List.mem_cons.1 he with rfl | he
      · exact ⟨rfl, by simp [evAsked, evAnswer], by simp [evAsked, evAnswer]⟩
      · cases he
  · rw [if_neg hb]
    have hb' : onceB s 0 o.k o.a o.n = false := by simpa [klNew] using hb
    have hl := jbNew_live hm ⟨by omega, hc⟩ hf hk hb'
    refine ⟨rfl, ⟨_, rfl⟩, rfl, rfl, fun e he => ?_, by simp [manyE, evAsked, klNew], by simp, fun j hj => ⟨by simp [manyE, evAsked, klNew], by simp [manyE, evAsked, klNew], by simp [manyE, evAsked, klNew], fun h => by simp at h, fun h => ?_⟩, fun h => by cases h⟩
    · rcases List.mem_cons.1 he with rfl | he
      · exact ⟨rfl, by simp [evAsked, evAnswer], by simp [evAsked, evAnswer]⟩
      · cases he
    · injection hj with hj
      rw [← hj]
      unfold jbNew
      rw [if_neg (by omega), if_pos h]
      exact ⟨_, rfl⟩
def tookEv (c : Int) (j : Jb) : List Ev := match j.took with
  | some b => [evTook c b.at' b.len]
  | none => []
theorem tells_eq (k : Kl) (j : Jb) : k.tells j = (if j.gave = true ∧ k.told = false then [evGave k.c k.op.a] else []) ++ (if j.done = true then tookEv k.c j ++ [evAnswer k.c k.op (tookAt j.took) j.err] else []) := rfl
/-- One access. -/
theorem once_step {s : Sh} {k : Kl} {m : Mem} {j : Jb} {o : Op3} {all : List Ev} (h : OnceI o k all) (hok : klOk s k) (hj : k.job = some j) (hf : Fits s m) (hfit : m.fit) :
    OnceI o (k.step s m).1 (all ++ (k.step s m).2.2.1) ∧ (k.step s m).2.2.1.length ≤ 3 ∧ (k.step s m).2.2.2 = 0 ∧
    ((k.step s m).1.rests = true → ∃ pre e, (k.step s m).2.2.1 = pre ++ [e] ∧ e.k = 5) ∧ ((k.step s m).1.rests = false → ∀ e ∈ (k.step s m).2.2.1, e.k = 4) := by
  obtain ⟨j1, j2, _, _⟩ := hok.jb j hj
  have hs := jb_step j1 hok.cl j2 hf hfit
  obtain ⟨r1, r2, r3, r4, r5⟩ := h.run j hj
  unfold Kl.step
  rw [hj]
  dsimp only
  have hfr : o.k = 2 → ∃ f, (j.step s k.c m).1 = .fre f := fun e => by
    obtain ⟨f, rfl⟩ := r5 e
    exact ⟨_, rfl⟩
  have hg : k.told = true → (j.step s k.c m).1.gave = true := fun e => hs.2.2.2 (r4 e)
  generalize (j.step s k.c m).1 = j' at *
  clear hs j1 j2
  obtain ⟨kc, kf, ko, kj, kt, ks⟩ := k
  obtain ⟨hop, hc, hev, htwo, hlen, _, _⟩ := h
  dsimp only at hop hc hlen r3 r4 hg
  subst hop hc
  rw [tells_eq]
  unfold Kl.after Kl.rests
  dsimp only
  obtain ⟨G, hG⟩ : ∃ G, G = (if j'.gave = true ∧ kt = false then [evGave 0 ko.a] else []) := ⟨_, rfl⟩
  have hG4 : manyE all 4 + manyE G 4 = if (kt || j'.gave) = true then 1 else 0 := by
    rw [r3, hG]
    cases kt <;> cases hgv : j'.gave <;> simp [manyE, evGave]
  have hGo : ∀ i, i ≠ 4 → manyE G i = 0 := fun i hi => by
    rw [hG]
    split
    · rw [manyE_one, if_neg (fun e => hi e.symm)]
    · rfl
  have hGe : ∀ e ∈ G, e.c = 0 ∧ e.k = 4 := fun e he => by
    rw [hG] at he
    split at he
    · rcases List.mem_cons.1 he with rfl | he
      · exact ⟨rfl, rfl⟩
      · cases he
    · cases he
  have hGl : G.length ≤ 1 := by rw [hG]; split <;> simp
  rw [← hG]
  by_cases hd : j'.done = true
  · rw [if_pos hd, if_pos hd]
    obtain ⟨tk, htk⟩ : ∃ tk, tk = tookEv 0 j' := ⟨_, rfl⟩
    have hTo : ∀ i, i ≠ 3 → manyE tk i = 0 := fun i hi => by
      rw [htk]
      unfold tookEv
      split
      · rw [manyE_one, if_neg (fun e => hi e.symm)]
      · rfl
    have hT3 : manyE tk 3 ≤ 1 ∧ (manyE tk 3 = 0 ∨ j'.err = 0) := by
      rw [htk]
      unfold tookEv
      split
      · rename_i b hb
        exact ⟨by rw [manyE_one]; split <;> omega, .inr (jb_took_err hb)⟩
      · exact ⟨Nat.zero_le _, .inl rfl⟩
    have hTe : ∀ e ∈ tk, e.c = 0 ∧ e.k = 3 := fun e he => by
      rw [htk] at he
      unfold tookEv at he
      split at he
      · rcases List.mem_cons.1 he with rfl | he
        · exact ⟨rfl, rfl⟩
        · cases he
      · cases he
    have hTl : tk.length ≤ 1 := by rw [htk]; unfold tookEv; split <;> simp
    rw [← htk]
    have hA : ∀ i, manyE [evAnswer 0 ko (tookAt j'.took) j'.err] i = if (5 : Int) = i then 1 else 0 := fun i => manyE_one _ i
    have hall : ∀ i, manyE (all ++ (G ++ (tk ++ [evAnswer 0 ko (tookAt j'.took) j'.err]))) i = manyE all i + (manyE G i + (manyE tk i + if (5 : Int) = i then 1 else 0)) := fun i => by
      rw [manyE_app, manyE_app, manyE_app, hA]
    refine ⟨⟨rfl, rfl, fun e he => ?_, ?_, ?_, fun x hx => (by cases hx), fun _ => ⟨all ++ (G ++ tk), evAnswer 0 ko (tookAt j'.took) j'.err, by simp [List.append_assoc], rfl, rfl, rfl, rfl, ?_, ?_, ?_, ?_, fun h2 => ?_⟩⟩, ?_, rfl, fun _ => ⟨G ++ tk, _, by rw [List.append_assoc], rfl⟩, fun h => by simp at h⟩
    · rcases List.mem_append.1 he with he | he
      · exact hev e he
      · rcases List.mem_append.1 he with he | he
        · have := hGe e he; exact ⟨this.1, by omega, by omega⟩
        · rcases List.mem_append.1 he with he | he
          · have := hTe e he; exact ⟨this.1, by omega, by omega⟩
          · rcases List.mem_cons.1 he with rfl | he
            · exact ⟨rfl, by simp [evAnswer], by simp [evAnswer]⟩
            · cases he
    · rw [hall, hGo 2 (by omega), hTo 2 (by omega), htwo, if_neg (by omega)]
    · simp only [List.length_append, List.length_cons, List.length_nil]
      omega
    · rw [hall, hGo 5 (by omega), hTo 5 (by omega), r1, if_pos rfl]
    · rw [hall, hGo 3 (by omega), r2, if_neg (by omega)]; have := hT3.1; omega
    · rw [hall, hTo 4 (by omega), if_neg (by omega)]
      have : (if (kt || j'.gave) = true then 1 else 0) ≤ 1 := by split <;> omega
      omega
    · rw [hall, hGo 3 (by omega), r2, if_neg (by omega)]
      rcases hT3.2 with h | h
      · exact .inl (by omega)
      · exact .inr h
    · rw [hall, hTo 4 (by omega), if_neg (by omega)]
      obtain ⟨f, rfl⟩ := hfr h2
      have h1 := jb_fre_err f
      show _ ↔ (Jb.fre f).err = 0
      rw [h1]
      have e : (manyE all 4 + (manyE G 4 + (0 + 0)) = 1) ↔ (kt || (Jb.fre f).gave) = true := by
        rw [show manyE all 4 + (manyE G 4 + (0 + 0)) = manyE all 4 + manyE G 4 by omega, hG4]
        split <;> simp_all
      rw [e]
      cases kt
      · simp
      · simp [hg rfl]
    · simp only [List.length_append, List.length_cons, List.length_nil]
      omega
  · rw [if_neg hd, if_neg hd, List.append_nil]
    refine ⟨⟨rfl, rfl, fun e he => ?_, ?_, ?_, fun x hx => ?_, fun h => (by cases h)⟩, by omega, rfl, fun h => by simp at h, fun _ e he => (hGe e he).2⟩
    · rcases List.mem_append.1 he with he | he
      · exact hev e he
      · have := hGe e he; exact ⟨this.1, by omega, by omega⟩
    · rw [manyE_app, hGo 2 (by omega), htwo]
    · simp only [List.length_append]
      omega
    · injection hx with hx
      subst hx
      refine ⟨by rw [manyE_app, hGo 5 (by omega), r1], by rw [manyE_app, hGo 3 (by omega), r2], by rw [manyE_app]; exact hG4, fun h => ?_, hfr⟩
      rcases Bool.or_eq_true _ _ |>.mp h with h | h
      · exact hg h
      · exact h
end Go.Proofs.YtcgakbgmdabnkaaGreat
