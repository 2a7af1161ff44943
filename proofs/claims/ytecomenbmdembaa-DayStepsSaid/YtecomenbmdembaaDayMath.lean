/- The plain laws of doors: lists that rise, how many numbers of one are no greater, when doors close next, how often between. -/
import Derived.Test.YtecomenbmdembaaWWords
import Derived.Lib.SlicesCompact
namespace Go.Proofs.Ytecomenbmdembaa.DayM
open Go.RowKit

abbrev el (l : List Int) (i : Nat) : Int := l.getD i 0

/-- Can doors be? -/
def DoorsOk (l : List Int) : Prop := l ≠ [] ∧ ∀ i, i < l.length → 0 ≤ el l i ∧ el l i < 96 ∧ (0 < i → el l (i - 1) < el l i)

instance (l : List Int) : Decidable (DoorsOk l) := by unfold DoorsOk; infer_instance

theorem el_get (l : List Int) (i : Nat) (h : i < l.length) : el l i = l[i] := by
  unfold el; rw [List.getD_eq_getElem?_getD, List.getElem?_eq_getElem h]; rfl

theorem ok_lt {l : List Int} (h : DoorsOk l) (i : Nat) : ∀ j, i < j → j < l.length → el l i < el l j := by
  intro j
  induction j with
  | zero => intro h1; omega
  | succ j ih =>
    intro h1 h2
    have h3 := (h.2 (j + 1) h2).2.2 (by omega)
    rw [Nat.add_sub_cancel] at h3
    rcases Nat.lt_or_ge i j with h4 | h4
    · have := ih h4 (by omega); omega
    · obtain rfl : i = j := by omega
      exact h3

theorem ok_pairwise {l : List Int} (h : DoorsOk l) : l.Pairwise (· < ·) := by
  rw [List.pairwise_iff_getElem]
  intro i j hi hj hij
  have := ok_lt h i j hij hj
  rwa [el_get l i hi, el_get l j hj] at this

theorem ok_of {l : List Int} (hn : l ≠ []) (hr : ∀ x ∈ l, 0 ≤ x ∧ x < 96) (hp : l.Pairwise (· < ·)) : DoorsOk l := by
  refine ⟨hn, fun i hi => ?_⟩
  have h1 := hr (l[i]) (List.getElem_mem hi)
  rw [el_get l i hi]
  refine ⟨h1.1, h1.2, fun h0 => ?_⟩
  rw [el_get l (i - 1) (by omega)]
  exact (List.pairwise_iff_getElem.1 hp) (i - 1) i (by omega) hi (by omega)

theorem ok_range {l : List Int} (h : DoorsOk l) : ∀ x ∈ l, 0 ≤ x ∧ x < 96 := by
  intro x hx
  obtain ⟨i, hi, rfl⟩ := List.mem_iff_getElem.1 hx
  have := h.2 i hi
  rw [el_get l i hi] at this
  exact ⟨this.1, this.2.1⟩

/-- How many are no greater. -/
def cnt (l : List Int) (n : Int) : Nat := l.countP fun y => decide (y ≤ n)

theorem cnt_le (l : List Int) (n : Int) : cnt l n ≤ l.length := List.countP_le_length

theorem cnt_spec {n : Int} : ∀ {l : List Int}, l.Pairwise (· < ·) → ∀ i, i < l.length → (el l i ≤ n ↔ i < cnt l n)
  | [], _, i, hi => by simp at hi
  | x :: xs, hp, i, hi => by
    obtain ⟨hx, hp'⟩ := List.pairwise_cons.1 hp
    by_cases hxn : x ≤ n
    · have hc : cnt (x :: xs) n = cnt xs n + 1 := by unfold cnt; rw [List.countP_cons_of_pos (by simpa using hxn)]
      cases i with
      | zero => simp [el, hc, hxn]
      | succ i =>
        have := cnt_spec (n := n) hp' i (by simpa using hi)
        rw [hc]
        simp only [el, List.getD_cons_succ] at this ⊢
        omega
    · have hc : cnt (x :: xs) n = 0 := by
        unfold cnt
        rw [List.countP_eq_zero]
        intro y hy
        rcases List.mem_cons.1 hy with rfl | hy
        · simpa using hxn
        · have := hx y hy
          simp; omega
      rw [hc]
      have : ¬ el (x :: xs) i ≤ n := by
        cases i with
        | zero => simpa [el] using hxn
        | succ i =>
          have hi' : i < xs.length := by simpa using hi
          have := hx _ (List.getElem_mem hi')
          have e := el_get xs i hi'
          simp only [el, List.getD_cons_succ] at e ⊢
          omega
      omega

theorem cnt_all {l : List Int} {n : Int} (h : ∀ x ∈ l, x ≤ n) : cnt l n = l.length := by
  unfold cnt; rw [List.countP_eq_length]; intro x hx; simpa using h x hx

theorem cnt_none {l : List Int} {n : Int} (h : ∀ x ∈ l, n < x) : cnt l n = 0 := by
  unfold cnt; rw [List.countP_eq_zero]; intro x hx; have := h x hx; simp; omega

theorem cnt_succ {n : Int} : ∀ {l : List Int}, l.Pairwise (· < ·) → cnt l (n + 1) = cnt l n + if n + 1 ∈ l then 1 else 0
  | [], _ => by simp [cnt]
  | x :: xs, hp => by
    obtain ⟨hx, hp'⟩ := List.pairwise_cons.1 hp
    have ih := cnt_succ (n := n) hp'
    by_cases h1 : x ≤ n
    · have c1 : cnt (x :: xs) n = cnt xs n + 1 := by unfold cnt; rw [List.countP_cons_of_pos (by simpa using h1)]
      have c2 : cnt (x :: xs) (n + 1) = cnt xs (n + 1) + 1 := by unfold cnt; rw [List.countP_cons_of_pos (by simp; omega)]
      have hne : n + 1 ≠ x := by omega
      rw [c1, c2, ih]
      simp only [List.mem_cons, hne, false_or]
      omega
    · by_cases h2 : x = n + 1
      · subst h2
        have c1 : cnt ((n + 1) :: xs) n = 0 := cnt_none (by
          intro y hy
          rcases List.mem_cons.1 hy with rfl | hy
          · omega
          · have := hx y hy; omega)
        have c2 : cnt ((n + 1) :: xs) (n + 1) = cnt xs (n + 1) + 1 := by unfold cnt; rw [List.countP_cons_of_pos (by simp)]
        have c3 : cnt xs (n + 1) = 0 := cnt_none hx
        rw [c1, c2, c3]
        simp
      · have hm : n + 1 ∉ x :: xs := by
          intro hm
          rcases List.mem_cons.1 hm with h | h
          · exact h2 h.symm
          · have := hx _ h; omega
        have c1 : cnt (x :: xs) n = 0 := cnt_none (by
          intro y hy
          rcases List.mem_cons.1 hy with rfl | hy
          · omega
          · have := hx y hy; omega)
        have c2 : cnt (x :: xs) (n + 1) = 0 := cnt_none (by
          intro y hy
          rcases List.mem_cons.1 hy with rfl | hy
          · omega
          · have := hx y hy; omega)
        rw [c1, c2, if_neg hm]

/-- Do they close at a tick? -/
def Closes (l : List Int) (t : Int) : Prop := t % 96 ∈ l
instance (l : List Int) (t : Int) : Decidable (Closes l t) := by unfold Closes; infer_instance

/-- When they close next. -/
def nextV (l : List Int) (t : Int) : Int :=
  if cnt l (t % 96) = l.length then (t / 96 + 1) * 96 + el l 0 else t / 96 * 96 + el l (cnt l (t % 96))

theorem el_mem {l : List Int} {i : Nat} (h : i < l.length) : el l i ∈ l := by rw [el_get l i h]; exact List.getElem_mem h

theorem next_spec {l : List Int} (h : DoorsOk l) {t : Int} (_h0 : 0 ≤ t) : Closes l (nextV l t) ∧ t < nextV l t ∧ nextV l t ≤ t + 96 ∧ ∀ u, t < u → u < nextV l t → ¬ Closes l u := by
  have hp := ok_pairwise h
  have hl : 0 < l.length := List.length_pos_iff.2 h.1
  have hle := cnt_le l (t % 96)
  unfold nextV
  by_cases hc : cnt l (t % 96) = l.length
  · rw [if_pos hc]
    have hr := h.2 0 hl
    have hall : ∀ i, i < l.length → el l i ≤ t % 96 := fun i hi => (cnt_spec hp i hi).2 (by omega)
    have h00 := hall 0 hl
    refine ⟨?_, by omega, by omega, fun u h1 h2 hcl => ?_⟩
    · unfold Closes
      rw [show ((t / 96 + 1) * 96 + el l 0) % 96 = el l 0 by omega]
      exact el_mem hl
    · unfold Closes at hcl
      obtain ⟨i, hi, he⟩ := List.mem_iff_getElem.1 hcl
      have hle1 := hall i hi
      rw [el_get l i hi, he] at hle1
      have hge : el l 0 ≤ u % 96 := by
        rcases Nat.eq_zero_or_pos i with rfl | hpos
        · rw [el_get l 0 hl, he]; exact Int.le_refl _
        · have := ok_lt h 0 i hpos hi
          rw [el_get l i hi, he] at this
          omega
      omega
  · rw [if_neg hc]
    have hlt : cnt l (t % 96) < l.length := by omega
    have hr := h.2 _ hlt
    have hgt : t % 96 < el l (cnt l (t % 96)) := by
      have := cnt_spec (n := t % 96) hp _ hlt
      omega
    refine ⟨?_, by omega, by omega, fun u h1 h2 hcl => ?_⟩
    · unfold Closes
      rw [show (t / 96 * 96 + el l (cnt l (t % 96))) % 96 = el l (cnt l (t % 96)) by omega]
      exact el_mem hlt
    · unfold Closes at hcl
      obtain ⟨i, hi, he⟩ := List.mem_iff_getElem.1 hcl
      have hei := el_get l i hi
      rw [he] at hei
      have hnot : ¬ el l i ≤ t % 96 := by omega
      have hge : cnt l (t % 96) ≤ i := by
        have := cnt_spec (n := t % 96) hp i hi
        omega
      have hle2 : el l (cnt l (t % 96)) ≤ el l i := by
        rcases Nat.eq_or_lt_of_le hge with e | e
        · rw [e]; exact Int.le_refl _
        · have := ok_lt h _ i e hi; omega
      omega

theorem next_unique {l : List Int} (h : DoorsOk l) {t v : Int} (h0 : 0 ≤ t) (hv : Closes l v) (h1 : t < v) (h2 : ∀ u, t < u → u < v → ¬ Closes l u) : v = nextV l t := by
  obtain ⟨a, b, _, d⟩ := next_spec h h0
  rcases Int.lt_trichotomy v (nextV l t) with e | e | e
  · exact absurd hv (d v h1 e)
  · exact e
  · exact absurd a (h2 _ b e)

/-- How often they have closed up to a tick. -/
def bef (l : List Int) (t : Int) : Int := t / 96 * l.length + cnt l (t % 96)

theorem bef_step {l : List Int} (h : DoorsOk l) {t : Int} : bef l (t + 1) = bef l t + if Closes l (t + 1) then 1 else 0 := by
  have hp := ok_pairwise h
  have hr := ok_range h
  unfold bef
  by_cases h95 : t % 96 = 95
  · have e1 : (t + 1) / 96 = t / 96 + 1 := by omega
    have e2 : (t + 1) % 96 = 0 := by omega
    have c1 : cnt l (t % 96) = l.length := cnt_all (fun x hx => by have := hr x hx; omega)
    have c2 := cnt_succ (n := -1) hp
    have c3 : cnt l (-1) = 0 := cnt_none (fun x hx => by have := hr x hx; omega)
    rw [c3] at c2
    simp only [Int.reduceNeg, Int.reduceAdd, Nat.zero_add] at c2
    by_cases hc : Closes l (t + 1)
    · have hm : (t + 1) % 96 ∈ l := hc
      rw [e2] at hm
      rw [if_pos hm] at c2
      rw [if_pos hc, e1, e2, c1, c2, Int.add_mul, Int.one_mul]
      rfl
    · have hm : ¬ (t + 1) % 96 ∈ l := hc
      rw [e2] at hm
      rw [if_neg hm] at c2
      rw [if_neg hc, e1, e2, c1, c2, Int.add_mul, Int.one_mul]
      rfl
  · have e1 : (t + 1) / 96 = t / 96 := by omega
    have e2 : (t + 1) % 96 = t % 96 + 1 := by omega
    have c2 := cnt_succ (n := t % 96) hp
    by_cases hc : Closes l (t + 1)
    · have hm : (t + 1) % 96 ∈ l := hc
      rw [e2] at hm
      rw [if_pos hm] at c2
      rw [if_pos hc, e1, e2, c2]
      simp
      omega
    · have hm : ¬ (t + 1) % 96 ∈ l := hc
      rw [e2] at hm
      rw [if_neg hm] at c2
      rw [if_neg hc, e1, e2, c2]
      simp

theorem bef_96 {l : List Int} {t : Int} : bef l (t + 96) = bef l t + l.length := by
  unfold bef
  rw [show (t + 96) / 96 = t / 96 + 1 by omega, show (t + 96) % 96 = t % 96 by omega, Int.add_mul, Int.one_mul]
  omega

theorem bef_mul {l : List Int} {t : Int} (m : Nat) : bef l (t + 96 * m) = bef l t + m * l.length := by
  induction m with
  | zero => simp
  | succ m ih =>
    rw [show t + 96 * ((m + 1 : Nat) : Int) = (t + 96 * (m : Int)) + 96 by omega, bef_96, ih]
    rw [Int.natCast_add, Int.add_mul]
    simp
    omega

theorem bef_mono {l : List Int} (h : DoorsOk l) {t : Int} (n : Nat) : bef l t ≤ bef l (t + n) := by
  induction n with
  | zero => simp
  | succ n ih =>
    rw [show t + ((n + 1 : Nat) : Int) = (t + n) + 1 by omega, bef_step h]
    split <;> omega

theorem bef_le {l : List Int} (h : DoorsOk l) {a b : Int} (hab : a ≤ b) : bef l a ≤ bef l b := by
  have := bef_mono h (t := a) (b - a).toNat
  rwa [show a + ((b - a).toNat : Int) = b by omega] at this

theorem bef_const {l : List Int} (h : DoorsOk l) {t : Int} (n : Nat) : (∀ u, t < u → u ≤ t + n → ¬ Closes l u) → bef l (t + n) = bef l t := by
  induction n with
  | zero => intro; simp
  | succ n ih =>
    intro hu
    rw [show t + ((n + 1 : Nat) : Int) = (t + n) + 1 by omega, bef_step h, if_neg (hu _ (by omega) (by omega)), ih (fun u h1 h2 => hu u h1 (by omega))]
    simp

theorem bef_next {l : List Int} (h : DoorsOk l) {t : Int} (h0 : 0 ≤ t) : bef l (nextV l t) = bef l t + 1 := by
  obtain ⟨a, b, c, d⟩ := next_spec h h0
  have h1 := bef_const h (t := t) (nextV l t - 1 - t).toNat (fun u h1 h2 => d u h1 (by omega))
  rw [show t + ((nextV l t - 1 - t).toNat : Int) = nextV l t - 1 by omega] at h1
  have h2 := bef_step h (t := nextV l t - 1)
  rw [show nextV l t - 1 + 1 = nextV l t by omega, if_pos a] at h2
  omega

theorem next_96 {l : List Int} {t : Int} : nextV l (t + 96) = nextV l t + 96 := by
  unfold nextV
  rw [show (t + 96) / 96 = t / 96 + 1 by omega, show (t + 96) % 96 = t % 96 by omega]
  split <;> omega

/-! ### sorted, each once -/
theorem compact_spec (s : List Int) (hs : s.Pairwise (· ≤ ·)) : (Lib.compact s).Pairwise (· < ·) ∧ ∀ x, x ∈ Lib.compact s ↔ x ∈ s := by
  have key : ∀ m, m ≤ s.length → (Lib.compactUpTo s.toArray m).Pairwise (· < ·) ∧ (∀ x, x ∈ Lib.compactUpTo s.toArray m ↔ ∃ j, j < m ∧ el s j = x) := by
    intro m
    induction m with
    | zero => intro _; exact ⟨by simp [Lib.compactUpTo], by simp [Lib.compactUpTo]⟩
    | succ m ih =>
      intro hm
      obtain ⟨ih1, ih2⟩ := ih (by omega)
      have hms : m < s.length := by omega
      have hgm : s.toArray[m]! = el s m := by rw [el_get s m hms]; simp [hms]
      have hle : ∀ a, a < m → el s a ≤ el s m := fun a ha => by
        rw [el_get s a (by omega), el_get s m hms]
        exact (List.pairwise_iff_getElem.1 hs) a m (by omega) hms ha
      rw [Lib.compactUpTo_succ]
      by_cases hk : Lib.keeps s.toArray m = true
      · rw [if_pos hk, hgm]
        constructor
        · rw [List.pairwise_append]
          refine ⟨ih1, List.pairwise_singleton _ _, ?_⟩
          intro a ha b hb
          rw [List.mem_singleton] at hb
          subst hb
          obtain ⟨j, hj, rfl⟩ := (ih2 a).1 ha
          have h1 : el s (m - 1) ≠ el s m := by
            intro he
            have : Lib.keeps s.toArray m = false := Lib.keeps_neg (by omega) (by
              rw [hgm]
              have : s.toArray[m - 1]! = el s (m - 1) := by rw [el_get s (m - 1) (by omega)]; simp [show m - 1 < s.length by omega]
              rw [this, he])
            rw [this] at hk
            cases hk
          have h2 := hle (m - 1) (by omega)
          have h3 : el s j ≤ el s (m - 1) := by
            rcases Nat.lt_or_ge j (m - 1) with h | h
            · rw [el_get s j (by omega), el_get s (m - 1) (by omega)]
              exact (List.pairwise_iff_getElem.1 hs) j (m - 1) (by omega) (by omega) h
            · obtain rfl : j = m - 1 := by omega
              exact Int.le_refl _
          omega
        · intro x
          rw [List.mem_append, ih2, List.mem_singleton]
          constructor
          · rintro (⟨j, hj, rfl⟩ | rfl)
            · exact ⟨j, by omega, rfl⟩
            · exact ⟨m, by omega, rfl⟩
          · rintro ⟨j, hj, rfl⟩
            rcases Nat.lt_or_ge j m with h | h
            · exact .inl ⟨j, h, rfl⟩
            · obtain rfl : j = m := by omega
              exact .inr rfl
      · rw [if_neg hk, List.append_nil]
        refine ⟨ih1, fun x => ?_⟩
        rw [ih2]
        constructor
        · rintro ⟨j, hj, rfl⟩
          exact ⟨j, by omega, rfl⟩
        · rintro ⟨j, hj, rfl⟩
          rcases Nat.lt_or_ge j m with h | h
          · exact ⟨j, h, rfl⟩
          · obtain rfl : j = m := by omega
            have h0 : 0 < j := by
              rcases Nat.eq_zero_or_pos j with rfl | h
              · exact absurd (Lib.keeps_lt_one s.toArray 0 (by omega)) hk
              · exact h
            refine ⟨j - 1, by omega, ?_⟩
            have : s.toArray[j]! = s.toArray[j - 1]! := by
              apply Decidable.byContradiction
              intro hne
              exact hk (Lib.keeps_pos hne)
            rw [hgm] at this
            rw [this, el_get s (j - 1) (by omega)]
            simp [show j - 1 < s.length by omega]
  obtain ⟨k1, k2⟩ := key s.length (Nat.le_refl _)
  refine ⟨k1, fun x => ?_⟩
  unfold Lib.compact
  rw [k2, List.mem_iff_getElem]
  constructor
  · rintro ⟨j, hj, rfl⟩; exact ⟨j, hj, (el_get s j hj).symm⟩
  · rintro ⟨j, hj, rfl⟩; exact ⟨j, hj, el_get s j hj⟩

/-- The numbers of a list, sorted, each once. -/
def once (l : List Int) : List Int := Lib.compact (l.mergeSort fun x y => decide (x ≤ y))

theorem once_spec (l : List Int) : (once l).Pairwise (· < ·) ∧ ∀ x, x ∈ once l ↔ x ∈ l := by
  have hs : (l.mergeSort fun x y => decide (x ≤ y)).Pairwise (· ≤ ·) := by
    have := List.pairwise_mergeSort (le := fun x y : Int => decide (x ≤ y)) (by intro a b c; simp; omega) (by intro a b; simp; omega) l
    exact this.imp (by intro a b h; simpa using h)
  obtain ⟨h1, h2⟩ := compact_spec _ hs
  exact ⟨h1, fun x => (h2 x).trans (List.mergeSort_perm l _).mem_iff⟩

/-- Two lists that rise and hold the same are one. -/
theorem rise_ext : ∀ {a b : List Int}, a.Pairwise (· < ·) → b.Pairwise (· < ·) → (∀ x, x ∈ a ↔ x ∈ b) → a = b
  | [], [], _, _, _ => rfl
  | [], y :: ys, _, _, h => by have := (h y).2 (by simp); simp at this
  | x :: xs, [], _, _, h => by have := (h x).1 (by simp); simp at this
  | x :: xs, y :: ys, ha, hb, h => by
    obtain ⟨hx, ha'⟩ := List.pairwise_cons.1 ha
    obtain ⟨hy, hb'⟩ := List.pairwise_cons.1 hb
    have hxy : x = y := by
      have h1 := (h x).1 (by simp)
      have h2 := (h y).2 (by simp)
      rcases List.mem_cons.1 h1 with h1 | h1
      · exact h1
      · rcases List.mem_cons.1 h2 with h2 | h2
        · exact h2.symm
        · have := hx _ h2; have := hy _ h1; omega
    subst hxy
    congr 1
    refine rise_ext ha' hb' (fun z => ?_)
    have hz := h z
    simp only [List.mem_cons] at hz
    constructor
    · intro hm
      rcases hz.1 (.inr hm) with e | e
      · subst e; have := hx _ hm; omega
      · exact e
    · intro hm
      rcases hz.2 (.inr hm) with e | e
      · subst e; have := hy _ hm; omega
      · exact e

theorem once_id {l : List Int} (h : l.Pairwise (· < ·)) : once l = l := rise_ext (once_spec l).1 h (once_spec l).2

theorem once_length (l : List Int) : (once l).length ≤ l.length := by
  unfold once Lib.compact Lib.compactUpTo
  rw [List.length_map]
  exact Nat.le_trans (List.length_filter_le _ _) (by simp)

end Go.Proofs.Ytecomenbmdembaa.DayM
