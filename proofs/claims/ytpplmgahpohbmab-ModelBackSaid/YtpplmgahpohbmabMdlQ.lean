/- What is taken and given back again leaves nothing: plain. -/
import Derived.Test.YtpplmgahpohbmabMdlN
namespace Go.Proofs.Ytpplmgahpohbmab

def apartB (x y : Bk) : Prop := ¬ (x.a < y.a + y.n ∧ y.a < x.a + x.n)
theorem apartB.symm {x y : Bk} (h : apartB x y) : apartB y x := fun ⟨h1, h2⟩ => h ⟨h2, h1⟩
/-- The blocks of a heap are just these, in some order. -/
structure Good (W : Int) (l H : List Bk) : Prop where
  ok : okB W 0 l
  mem : ∀ c, c ∈ l ↔ c ∈ H
  apart : H.Pairwise apartB
theorem mem_putB (l : List Bk) (a n : Int) (c : Bk) : c ∈ putB l a n ↔ c ∈ l ∨ c = ⟨a, n⟩ := by
  have h : c ∈ l ↔ c ∈ l.take (posB a l) ∨ c ∈ l.drop (posB a l) := by rw [← List.mem_append, List.take_append_drop]
  unfold putB
  rw [List.mem_append, List.mem_cons, h]
  constructor
  · rintro (h | h | h)
    · exact .inl (.inl h)
    · exact .inr h
    · exact .inl (.inr h)
  · rintro ((h | h) | h)
    · exact .inl h
    · exact .inr (.inr h)
    · exact .inr (.inl h)
theorem Good.nil {W : Int} (h : 0 ≤ W) : Good W [] [] := ⟨h, fun _ => Iff.rfl, .nil⟩
theorem takeOk_iff {W a n : Int} {l : List Bk} : takeOk W l a n = true ↔ (1 ≤ n ∧ 0 ≤ a ∧ a ≤ W ∧ n ≤ W - a) ∧ ∀ b ∈ l, ¬ (b.a < a + n ∧ a < b.a + b.n) := by
  simp only [takeOk, fitsB, Bool.and_eq_true, decide_eq_true_eq, Bool.not_eq_true', List.any_eq_false, meets]
theorem Good.take {W a n : Int} {l H : List Bk} (h : Good W l H) (ht : takeOk W l a n = true) : Good W (putB l a n) (H ++ [⟨a, n⟩]) := by
  have h1 := takeB_ok (at' := a) (n := n) h.ok
  rw [takeB_eq ht] at h1
  refine ⟨h1, fun c => ?_, ?_⟩
  · rw [mem_putB, List.mem_append, List.mem_singleton, h.mem]
  · rw [List.pairwise_append]
    refine ⟨h.apart, List.pairwise_singleton _ _, fun x hx y hy => ?_⟩
    rw [List.mem_singleton] at hy
    subst hy
    exact (takeOk_iff.1 ht).2 x ((h.mem x).2 hx)
theorem okB_ext {W lo : Int} {l l' : List Bk} (h : okB W lo l) (h' : okB W lo l') (hm : ∀ c, c ∈ l ↔ c ∈ l') : l = l' := by
  induction l generalizing lo l' with
  | nil =>
    cases l' with
    | nil => rfl
    | cons b l' => exact absurd ((hm b).2 (by simp)) (by simp)
  | cons b l ih =>
    cases l' with
    | nil => exact absurd ((hm b).1 (by simp)) (by simp)
    | cons b' l' =>
      have e : b = b' := by
        rcases List.mem_cons.1 ((hm b).1 (by simp)) with e | e
        · exact e
        · rcases List.mem_cons.1 ((hm b').2 (by simp)) with e' | e'
          · exact e'.symm
          · have h1 := (h'.2.2.mem b e).1
            have h2 := (h.2.2.mem b' e').1
            have := h.2.1; have := h'.2.1
            omega
      subst e
      have key : ∀ c, c ∈ l ↔ c ∈ l' := fun c => by
        constructor
        · intro hc
          rcases List.mem_cons.1 ((hm c).1 (List.mem_cons_of_mem _ hc)) with e | e
          · have h1 := (h.2.2.mem c hc).1
            have := h.2.1
            rw [e] at h1
            omega
          · exact e
        · intro hc
          rcases List.mem_cons.1 ((hm c).2 (List.mem_cons_of_mem _ hc)) with e | e
          · have h1 := (h'.2.2.mem c hc).1
            have := h.2.1
            rw [e] at h1
            omega
          · exact e
      rw [ih h.2.2 h'.2.2 key]
theorem Good.same {W : Int} {l l' H H' : List Bk} (h : Good W l H) (h' : Good W l' H') (hm : ∀ c, c ∈ H ↔ c ∈ H') : l = l' :=
  okB_ext h.ok h'.ok fun c => by rw [h.mem, h'.mem, hm]
theorem mem_giveB {W lo a : Int} {l : List Bk} (h : okB W lo l) (c : Bk) : c ∈ giveB l a ↔ c ∈ l ∧ c.a ≠ a := by
  unfold giveB
  by_cases hf : foundB a l = true
  · rw [if_pos hf]
    obtain ⟨hp, he⟩ := (foundB_iff a l).1 hf
    unfold dropB
    rw [List.mem_append]
    constructor
    · rintro (hc | hc)
      · obtain ⟨i, hi, rfl⟩ := List.getElem_of_mem hc
        rw [List.length_take] at hi
        have := posB_below a l i (by omega) (by omega)
        rw [List.getElem_take]
        exact ⟨List.getElem_mem _, by omega⟩
      · obtain ⟨i, hi, rfl⟩ := List.getElem_of_mem hc
        rw [List.length_drop] at hi
        rw [List.getElem_drop]
        have h1 := h.lt (posB a l) (posB a l + 1 + i) (by omega) (by omega)
        have h2 := (h.mem _ (List.getElem_mem hp)).2.1
        exact ⟨List.getElem_mem _, by omega⟩
    · rintro ⟨hc, hn⟩
      obtain ⟨i, hi, rfl⟩ := List.getElem_of_mem hc
      rcases Nat.lt_trichotomy i (posB a l) with h1 | h1 | h1
      · left
        rw [List.mem_iff_getElem]
        exact ⟨i, by rw [List.length_take]; omega, by rw [List.getElem_take]⟩
      · subst h1; exact absurd he hn
      · right
        rw [List.mem_iff_getElem]
        refine ⟨i - (posB a l + 1), by rw [List.length_drop]; omega, ?_⟩
        rw [List.getElem_drop]
        congr 1; omega
  · rw [if_neg hf]
    constructor
    · intro hc
      exact ⟨hc, fun e => hf ((foundB_mem h).2 ⟨c, hc, e⟩)⟩
    · exact fun hc => hc.1
theorem Good.give {W : Int} {l H : List Bk} {b : Bk} (h : Good W l (b :: H)) : foundB b.a l = true ∧ Good W (giveB l b.a) H ∧ foundB b.a (giveB l b.a) = false := by
  have hok := giveB_ok (at' := b.a) h.ok
  have hp := List.pairwise_cons.1 h.apart
  have hb := h.ok.mem b ((h.mem b).2 (by simp))
  refine ⟨(foundB_mem h.ok).2 ⟨b, (h.mem b).2 (by simp), rfl⟩, ⟨hok, fun c => ?_, hp.2⟩, ?_⟩
  · rw [mem_giveB h.ok, h.mem, List.mem_cons]
    constructor
    · rintro ⟨rfl | hc, hn⟩
      · exact absurd rfl hn
      · exact hc
    · intro hc
      refine ⟨.inr hc, fun e => ?_⟩
      have h1 := hp.1 c hc
      have h2 := h.ok.mem c ((h.mem c).2 (by simp [hc]))
      exact h1 ⟨by omega, by omega⟩
  · rw [Bool.eq_false_iff]
    intro hf
    obtain ⟨c, hc, e⟩ := (foundB_mem hok).1 hf
    exact ((mem_giveB h.ok c).1 hc).2 e
theorem giveB_no {a : Int} {l : List Bk} (h : foundB a l = false) : giveB l a = l := by unfold giveB; rw [if_neg (by simp [h])]
theorem Good.empty {W : Int} {l : List Bk} (h : Good W l []) : l = [] := by
  cases l with
  | nil => rfl
  | cons b l => exact absurd ((h.mem b).1 (by simp)) (by simp)

/-- A row turned by so many places. -/
def rotL {α : Type} (H : List α) (t : Nat) : List α := H.drop (t % H.length) ++ H.take (t % H.length)
theorem rotL_length {α : Type} (H : List α) (t : Nat) : (rotL H t).length = H.length := by
  unfold rotL
  rw [List.length_append, List.length_drop, List.length_take]
  omega
theorem rotL_get {α : Type} (H : List α) (t i : Nat) (hi : i < H.length) : (rotL H t)[i]? = H[(i + t) % H.length]? := by
  have hk : t % H.length < H.length := Nat.mod_lt _ (by omega)
  have he : (i + t) % H.length = (i + t % H.length) % H.length := by rw [Nat.add_mod, Nat.add_mod i (t % H.length), Nat.mod_mod]
  unfold rotL
  rw [he]
  generalize t % H.length = k at *
  rcases Nat.lt_or_ge i (H.length - k) with h | h
  · rw [List.getElem?_append_left (by rw [List.length_drop]; omega), List.getElem?_drop, Nat.mod_eq_of_lt (by omega), Nat.add_comm]
  · rw [List.getElem?_append_right (by rw [List.length_drop]; omega), List.length_drop, List.getElem?_take_of_lt (by omega)]
    congr 1
    rw [Nat.mod_eq_sub_mod (by omega), Nat.mod_eq_of_lt (by omega)]
    omega
theorem rotL_perm {α : Type} (H : List α) (t : Nat) : (rotL H t).Perm H := by
  unfold rotL
  refine List.perm_append_comm.trans ?_
  rw [List.take_append_drop]
theorem Good.rot {W : Int} {l H : List Bk} (h : Good W l H) (t : Nat) : Good W l (rotL H t) :=
  ⟨h.ok, fun c => by rw [(rotL_perm H t).mem_iff, h.mem], ((rotL_perm H t).pairwise_iff (fun h => h.symm)).2 h.apart⟩
theorem rotL_map {α β : Type} (f : α → β) (H : List α) (t : Nat) : rotL (H.map f) t = (rotL H t).map f := by
  unfold rotL
  rw [List.length_map, ← List.map_drop, ← List.map_take, List.map_append]
/-- The next one of a row that is taken elsewhere may be taken here. -/
theorem Good.next {W : Int} {la lb R : List Bk} (h : Good W la R) (i : Nat) (hi : i < R.length) (hb : Good W lb (R.take i)) : takeOk W lb R[i].a R[i].n = true := by
  have h1 := h.ok.mem R[i] ((h.mem _).2 (List.getElem_mem hi))
  refine takeOk_iff.2 ⟨by omega, fun b hb' => ?_⟩
  have h2 := (hb.mem b).1 hb'
  obtain ⟨j, hj, rfl⟩ := List.getElem_of_mem h2
  rw [List.length_take] at hj
  rw [List.getElem_take]
  exact List.pairwise_iff_getElem.1 h.apart j i (by omega) hi (by omega)
theorem Good.step {W : Int} {la lb R : List Bk} (h : Good W la R) (i : Nat) (hi : i < R.length) (hb : Good W lb (R.take i)) : Good W (putB lb R[i].a R[i].n) (R.take (i + 1)) := by
  rw [List.take_succ_eq_append_getElem hi]
  exact hb.take (h.next i hi hb)
end Go.Proofs.Ytpplmgahpohbmab
