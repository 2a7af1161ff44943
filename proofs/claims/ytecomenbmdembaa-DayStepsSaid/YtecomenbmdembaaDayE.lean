/- What the printed functions of days come to, in the words of the plain laws. -/
import Derived.Test.YtecomenbmdembaaPdx4
import Derived.Test.YtecomenbmdembaaDayMath
namespace Go.Proofs.Ytecomenbmdembaa.DayE
open Go.RowKit Go.Proofs.Ytecomenbmdembaa.Pd Go.Proofs.YtecomenbmdembaaW.PrintWords Go.Proofs.Ytecomenbmdembaa.DayM

theorem rd_nat (l : List Int) (i : Nat) : rd l (i : Int) = el l i := by simp [rd]
theorem wrap_id {x : Int} (h : -9223372036854775808 ≤ x ∧ x ≤ 9223372036854775807) : wrap64 x = x := by unfold wrap64; omega

theorem door_eval (n : Int) : day_door.f n = some (decide (0 ≤ n ∧ n < 96)) := by
  unfold day_door.f
  by_cases h : n ≥ 0
  · rw [if_pos h]; simp; omega
  · rw [if_neg h]; simp; omega

theorem doors_loop (l : List Int) (hl : l.length ≤ 4611686018427387904) (d : Nat) : ∀ (k i : Nat), i ≤ l.length → l.length - i = d → d < k →
    (∀ j, j < i → 0 ≤ el l j ∧ el l j < 96 ∧ (0 < j → el l (j - 1) < el l j)) → day_doors.l0 k l l (l.length : Int) (i : Int) = some (decide (DoorsOk l)) := by
  induction d with
  | zero =>
    intro k i hi hd hk hg
    obtain ⟨k, rfl⟩ : ∃ m, k = m + 1 := ⟨k - 1, by omega⟩
    simp only [day_doors.l0]
    rw [if_neg (by omega)]
    obtain rfl : i = l.length := by omega
    congr 1
    rw [decide_eq_decide]
    constructor
    · intro h
      exact ⟨fun e => by rw [e] at h; simp at h, hg⟩
    · intro h
      have := List.length_pos_iff.2 h.1
      omega
  | succ d ih =>
    intro k i hi hd hk hg
    obtain ⟨k, rfl⟩ : ∃ m, k = m + 1 := ⟨k - 1, by omega⟩
    have hlt : i < l.length := by omega
    have no : ¬ (0 ≤ el l i ∧ el l i < 96 ∧ (0 < i → el l (i - 1) < el l i)) → decide (DoorsOk l) = false := fun hn => by
      rw [decide_eq_false_iff_not]
      exact fun h => hn (h.2 i hlt)
    have yes : (0 ≤ el l i ∧ el l i < 96 ∧ (0 < i → el l (i - 1) < el l i)) → day_doors.l0 k l l (l.length : Int) ((i + 1 : Nat) : Int) = some (decide (DoorsOk l)) := fun h =>
      ih k (i + 1) (by omega) (by omega) (by omega) (fun j hj => by
        rcases Nat.lt_or_ge j i with h2 | h2
        · exact hg j h2
        · obtain rfl : j = i := by omega
          exact h)
    have hw : wrap64 ((i : Int) + 1) = ((i + 1 : Nat) : Int) := by rw [wrap_id (by omega)]; omega
    simp only [day_doors.l0]
    rw [if_pos (by omega), if_pos (by omega), if_pos (by omega), door_eval, rd_nat, hw]
    simp only [Option.bind_some, decide_eq_true_eq]
    by_cases hr : 0 ≤ el l i ∧ el l i < 96
    · rw [if_pos hr]
      by_cases h0 : (i : Int) > 0
      · have hw2 : wrap64 ((i : Int) - 1) = ((i - 1 : Nat) : Int) := by rw [wrap_id (by omega)]; omega
        rw [if_pos h0, hw2, if_pos (by omega), if_pos (by omega), rd_nat]
        by_cases hc : el l (i - 1) ≥ el l i
        · rw [if_pos hc, no (fun h => by have := h.2.2 (by omega); omega)]
        · rw [if_neg hc]
          exact yes ⟨hr.1, hr.2, fun _ => by omega⟩
      · rw [if_neg h0]
        exact yes ⟨hr.1, hr.2, fun h => by omega⟩
    · rw [if_neg hr, no (fun h => hr ⟨h.1, h.2.1⟩)]

theorem doors_eval (l : List Int) (hl : l.length ≤ 4611686018427387904) (k : Nat) (hk : l.length < k) : day_doors.f k l = some (decide (DoorsOk l)) := by
  unfold day_doors.f
  exact doors_loop l hl l.length k 0 (by omega) (by omega) hk (fun j hj => by omega)

/-- What day.Doors answers. -/
def doorsV (l : List Int) : List Int × Int := if DoorsOk (once l) then (once l, 0) else ([], 31)

theorem Doors_eval (l : List Int) (hl : l.length < 17592186044416) (k : Nat) (hk : l.length < k) : day_Doors.f k l = some (doorsV l) := by
  unfold day_Doors.f
  have h1 := once_length l
  have h2 := doors_eval (once l) (by omega) k (by omega)
  unfold once at h2
  rw [if_pos hl, h2]
  simp only [Option.bind_some, decide_eq_true_eq, doorsV]
  unfold once
  split <;> rfl

theorem same_loop (a b : List Int) (hl : a.length ≤ 4611686018427387904) (hab : a.length = b.length) (d : Nat) : ∀ (k i : Nat), i ≤ a.length → a.length - i = d → d < k →
    (∀ j, j < i → el a j = el b j) → packhorseref03_Same.l0 k a b (a.length : Int) (i : Int) = some (decide (a = b)) := by
  induction d with
  | zero =>
    intro k i hi hd hk hg
    obtain ⟨k, rfl⟩ : ∃ m, k = m + 1 := ⟨k - 1, by omega⟩
    simp only [packhorseref03_Same.l0]
    rw [if_neg (by omega)]
    have : a = b := List.ext_getElem hab (fun j h1 h2 => by
      have := hg j (by omega)
      rwa [el_get a j h1, el_get b j h2] at this)
    rw [decide_eq_true this]
  | succ d ih =>
    intro k i hi hd hk hg
    obtain ⟨k, rfl⟩ : ∃ m, k = m + 1 := ⟨k - 1, by omega⟩
    have hw : wrap64 ((i : Int) + 1) = ((i + 1 : Nat) : Int) := by rw [wrap_id (by omega)]; omega
    simp only [packhorseref03_Same.l0]
    rw [if_pos (by omega), if_pos (by omega), if_pos (by omega), if_pos (by omega), rd_nat, rd_nat, hw]
    by_cases he : el a i = el b i
    · rw [if_pos he]
      exact ih k (i + 1) (by omega) (by omega) (by omega) (fun j hj => by
        rcases Nat.lt_or_ge j i with h2 | h2
        · exact hg j h2
        · obtain rfl : j = i := by omega
          exact he)
    · rw [if_neg he, decide_eq_false (fun h => he (by rw [h]))]

theorem Same_eval (a b : List Int) (hl : a.length ≤ 4611686018427387904) (k : Nat) (hk : a.length < k) : packhorseref03_Same.f k a b = some (decide (a = b)) := by
  unfold packhorseref03_Same.f
  by_cases h : (a.length : Int) = (b.length : Int)
  · rw [if_pos h]
    exact same_loop a b hl (by omega) a.length k 0 (by omega) (by omega) hk (fun j hj => by omega)
  · rw [if_neg h, decide_eq_false (fun e => h (by rw [e]))]

theorem Right_eval (t : Int) : day_Right.f t = some (decide (0 ≤ t ∧ t ≤ 1099511627776)) := by
  unfold day_Right.f
  by_cases h : t ≥ 0
  · rw [if_pos h]; simp; omega
  · rw [if_neg h]; simp; omega
theorem refRight_eval (t : Int) : packhorseref03_Right.f t = some (decide (0 ≤ t ∧ t ≤ 1099511627776)) := by
  unfold packhorseref03_Right.f
  by_cases h : 0 ≤ t
  · rw [if_pos h]; simp; omega
  · rw [if_neg h]; simp; omega

theorem Of_yes {t : Int} (h : 0 ≤ t ∧ t ≤ 1099511627776) : day_Of.f t = some (t / 96, t % 96) := by
  unfold day_Of.f
  rw [Right_eval, decide_eq_true h]
  simp only [Option.bind_some, if_true]
  rw [Int.tdiv_eq_ediv_of_nonneg h.1, Int.tmod_eq_emod_of_nonneg h.1, wrap_id (by omega)]
theorem Of_no {t : Int} (h : ¬ (0 ≤ t ∧ t ≤ 1099511627776)) : day_Of.f t = some (0, 0) := by
  unfold day_Of.f
  rw [Right_eval, decide_eq_false h]
  rfl

theorem told_eval (t : Int) : day_told.f t = some (if 0 ≤ t ∧ t ≤ 1099511627776 then (t, 0) else (0, 31)) := by
  unfold day_told.f
  rw [Right_eval]
  simp only [Option.bind_some, decide_eq_true_eq]
  split <;> rfl

theorem search_eval {l : List Int} (h : DoorsOk l) (hl : l.length < 4611686018427387904) (n : Int) : sort_SearchInts.f l (n + 1) = some (cnt l n : Int) := by
  unfold sort_SearchInts.f
  have hp := (ok_pairwise h).imp (fun {a b} (hab : a < b) => Int.le_of_lt hab)
  rw [if_pos ⟨hl, hp⟩]
  congr 2
  unfold cnt
  congr 1
  funext y
  by_cases hy : y ≤ n
  · rw [decide_eq_true hy, decide_eq_false (by omega)]; rfl
  · rw [decide_eq_false hy, decide_eq_true (by omega)]; rfl

/-- What day.Next answers. -/
def nextA (l : List Int) (t : Int) : Int × Int :=
  if DoorsOk l ∧ (0 ≤ t ∧ t ≤ 1099511627776) ∧ nextV l t ≤ 1099511627776 then (nextV l t, 0) else (0, 31)

theorem Next_eval (l : List Int) (hl : l.length ≤ 17592186044416) (t : Int) (k : Nat) (hk : l.length + 1 < k) : day_Next.f k l t = some (nextA l t) := by
  unfold day_Next.f nextA
  rw [doors_eval l (by omega) k (by omega)]
  obtain ⟨k, rfl⟩ : ∃ m, k = m + 1 := ⟨k - 1, by omega⟩
  simp only [Option.bind_some, decide_eq_true_eq, Right_eval]
  by_cases h : DoorsOk l
  · rw [if_pos h]
    by_cases ht : 0 ≤ t ∧ t ≤ 1099511627776
    · rw [decide_eq_true ht]
      simp only [day_Next.j0, Bool.not_true, Bool.false_eq_true, if_false]
      rw [Of_yes ht]
      simp only [Option.bind_some]
      rw [wrap_id (by omega), search_eval h (by omega)]
      simp only [Option.bind_some]
      have hpos : 0 < l.length := List.length_pos_iff.2 h.1
      have hc := cnt_le l (t % 96)
      have hs := next_spec h ht.1
      have e0 := h.2 0 hpos
      by_cases hcl : cnt l (t % 96) = l.length
      · rw [if_pos (by omega), if_pos (by omega)]
        have hr : rd l 0 = el l 0 := rd_nat l 0
        have hv : nextV l t = (t / 96 + 1) * 96 + el l 0 := by unfold nextV; rw [if_pos hcl]
        rw [hr, wrap_id (x := t / 96 + 1) (by omega), wrap_id (x := (t / 96 + 1) * 96) (by omega), wrap_id (by omega), told_eval, ← hv]
        simp only [Option.bind_some]
        by_cases hm : nextV l t ≤ 1099511627776
        · rw [if_pos ⟨by omega, hm⟩, if_pos ⟨h, ht, hm⟩]
        · rw [if_neg (fun q => hm q.2), if_neg (fun q => hm q.2.2)]
      · have hlt : cnt l (t % 96) < l.length := by omega
        have e1 := h.2 _ hlt
        rw [if_neg (by omega), if_pos (by omega), if_pos (by omega), rd_nat]
        have hv : nextV l t = t / 96 * 96 + el l (cnt l (t % 96)) := by unfold nextV; rw [if_neg hcl]
        rw [wrap_id (x := t / 96 * 96) (by omega), wrap_id (by omega), told_eval, ← hv]
        simp only [Option.bind_some]
        by_cases hm : nextV l t ≤ 1099511627776
        · rw [if_pos ⟨by omega, hm⟩, if_pos ⟨h, ht, hm⟩]
        · rw [if_neg (fun q => hm q.2), if_neg (fun q => hm q.2.2)]
    · rw [decide_eq_false ht, if_neg (fun q => ht q.2.1)]
      simp only [day_Next.j0, Bool.not_false, if_true]
  · rw [if_neg h, if_neg (fun q => h q.1)]
    simp only [day_Next.j0, if_true]

theorem ok_3264 : DoorsOk (once [64, 32, 64]) ∧ once [64, 32, 64] = [32, 64] := by
  have hp : ([32, 64] : List Int).Pairwise (· < ·) := by decide
  have he : once [64, 32, 64] = [32, 64] := rise_ext (once_spec _).1 hp (fun x => by rw [(once_spec _).2]; simp; omega)
  refine ⟨?_, he⟩
  rw [he]
  exact ok_of (by simp) (by intro x hx; simp at hx; omega) hp

theorem alive_eval (k : Nat) (hk : 5 < k) : packhorselaw03_dayAlive.f k = some true := by
  obtain ⟨h1, h2⟩ := ok_3264
  unfold packhorselaw03_dayAlive.f
  rw [Doors_eval _ (by simp) k (by simp; omega)]
  unfold doorsV
  rw [if_pos h1, h2]
  simp only [Option.bind_some]
  rw [Next_eval _ (by simp) 64 k (by simp; omega), Of_yes (by omega)]
  have ha : nextA [32, 64] 64 = (128, 0) := by decide
  rw [ha]
  simp only [Option.bind_some, if_true]
  rw [Same_eval _ _ (by simp) k (by simp; omega)]
  rfl

theorem End_eval (t : Int) : day_End.f t = some (if (0 ≤ t ∧ t ≤ 1099511627776) ∧ (t / 96 + 1) * 96 ≤ 1099511627776 then ((t / 96 + 1) * 96, 0) else (0, 31)) := by
  unfold day_End.f
  rw [Right_eval]
  simp only [Option.bind_some, decide_eq_true_eq]
  by_cases ht : 0 ≤ t ∧ t ≤ 1099511627776
  · rw [if_pos ht, Int.tmod_eq_emod_of_nonneg ht.1, wrap_id (x := t - t % 96) (by omega), wrap_id (by omega), told_eval]
    simp only [Option.bind_some]
    have he : t - t % 96 + 96 = (t / 96 + 1) * 96 := by omega
    rw [he]
    by_cases hm : (t / 96 + 1) * 96 ≤ 1099511627776
    · rw [if_pos ⟨by omega, hm⟩, if_pos ⟨ht, hm⟩]
    · rw [if_neg (fun q => hm q.2), if_neg (fun q => hm q.2)]
  · rw [if_neg ht, if_neg (fun q => ht q.1)]

theorem before_eval {l : List Int} (h : DoorsOk l) (hl : l.length ≤ 96) {t : Int} (ht : 0 ≤ t ∧ t ≤ 1099511627776) : day_before.f l t = some (bef l t) := by
  unfold day_before.f
  rw [Of_yes ht]
  simp only [Option.bind_some]
  rw [wrap_id (by omega), search_eval h (by omega)]
  simp only [Option.bind_some]
  have hc := cnt_le l (t % 96)
  have h1 : 0 ≤ t / 96 * (l.length : Int) := Int.mul_nonneg (by omega) (by omega)
  have h2 : t / 96 * (l.length : Int) ≤ t / 96 * 96 := Int.mul_le_mul_of_nonneg_left (by omega) (by omega)
  rw [wrap_id (x := t / 96 * (l.length : Int)) (by omega), wrap_id (by omega)]
  rfl

/-- Doors are at most 96. -/
theorem ok_len {l : List Int} (h : DoorsOk l) : l.length ≤ 96 := by
  have key : ∀ i, i < l.length → (i : Int) ≤ el l i := by
    intro i
    induction i with
    | zero => intro hi; have := h.2 0 hi; omega
    | succ i ih =>
      intro hi
      have h1 := ih (by omega)
      have h2 := (h.2 (i + 1) hi).2.2 (by omega)
      rw [Nat.add_sub_cancel] at h2
      omega
  rcases Nat.eq_zero_or_pos l.length with h0 | h0
  · omega
  · have h1 := key (l.length - 1) (by omega)
    have h2 := (h.2 (l.length - 1) (by omega)).2.1
    omega

theorem bef_range {l : List Int} (h : DoorsOk l) {t : Int} (ht : 0 ≤ t ∧ t ≤ 1099511627776) : 0 ≤ bef l t ∧ bef l t ≤ 2199023255552 := by
  have hl := ok_len h
  have hc := cnt_le l (t % 96)
  have h1 : 0 ≤ t / 96 * (l.length : Int) := Int.mul_nonneg (by omega) (by omega)
  have h2 : t / 96 * (l.length : Int) ≤ t / 96 * 96 := Int.mul_le_mul_of_nonneg_left (by omega) (by omega)
  unfold bef
  omega

/-- What day.Passed answers. -/
def passedA (l : List Int) (a b : Int) : Int × Int :=
  if DoorsOk l ∧ (0 ≤ a ∧ a ≤ 1099511627776) ∧ (0 ≤ b ∧ b ≤ 1099511627776) ∧ a ≤ b then (bef l b - bef l a, 0) else (0, 31)

theorem Passed_eval (l : List Int) (hl : l.length ≤ 17592186044416) (a b : Int) (k : Nat) (hk : l.length + 1 < k) : day_Passed.f k l a b = some (passedA l a b) := by
  unfold day_Passed.f passedA
  rw [doors_eval l (by omega) k (by omega)]
  obtain ⟨k, rfl⟩ : ∃ m, k = m + 1 := ⟨k - 1, by omega⟩
  simp only [Option.bind_some, decide_eq_true_eq, Right_eval]
  by_cases h : DoorsOk l
  · rw [if_pos h]
    by_cases ha : 0 ≤ a ∧ a ≤ 1099511627776
    · rw [if_pos ha]
      by_cases hb : 0 ≤ b ∧ b ≤ 1099511627776
      · rw [if_pos hb]
        by_cases hab : a > b
        · rw [decide_eq_true hab, if_neg (fun q => by omega)]
          simp only [day_Passed.j0, if_true]
        · rw [decide_eq_false hab, if_pos ⟨h, ha, hb, by omega⟩]
          have r1 := bef_range h ha
          have r2 := bef_range h hb
          simp only [day_Passed.j0, Bool.false_eq_true, if_false]
          rw [before_eval h (ok_len h) hb, before_eval h (ok_len h) ha]
          simp only [Option.bind_some]
          rw [wrap_id (by omega)]
      · rw [if_neg hb, if_neg (fun q => hb q.2.2.1)]
        simp only [day_Passed.j0, if_true]
    · rw [if_neg ha, if_neg (fun q => ha q.2.1)]
      simp only [day_Passed.j0, if_true]
  · rw [if_neg h, if_neg (fun q => h q.1)]
    simp only [day_Passed.j0, if_true]

/-! ### the document's -/
theorem fits_loop (l : List Int) (hl : l.length ≤ 4611686018427387904) (d : Nat) : ∀ (k i : Nat), i ≤ l.length → l.length - i = d → d < k →
    (∀ j, j < i → 0 ≤ el l j ∧ el l j < 96 ∧ (0 < j → el l (j - 1) < el l j)) → packhorseref03_Fits.l0 k l (if i = 0 then -1 else el l (i - 1)) l (l.length : Int) (i : Int) = some (decide (DoorsOk l)) := by
  induction d with
  | zero =>
    intro k i hi hd hk hg
    obtain ⟨k, rfl⟩ : ∃ m, k = m + 1 := ⟨k - 1, by omega⟩
    simp only [packhorseref03_Fits.l0]
    rw [if_neg (by omega)]
    obtain rfl : i = l.length := by omega
    congr 1
    rw [decide_eq_decide]
    constructor
    · intro h
      exact ⟨fun e => by rw [e] at h; simp at h, hg⟩
    · intro h
      have := List.length_pos_iff.2 h.1
      omega
  | succ d ih =>
    intro k i hi hd hk hg
    obtain ⟨k, rfl⟩ : ∃ m, k = m + 1 := ⟨k - 1, by omega⟩
    have hlt : i < l.length := by omega
    have no : ¬ (0 ≤ el l i ∧ el l i < 96 ∧ (0 < i → el l (i - 1) < el l i)) → decide (DoorsOk l) = false := fun hn => by
      rw [decide_eq_false_iff_not]
      exact fun h => hn (h.2 i hlt)
    have yes : (0 ≤ el l i ∧ el l i < 96 ∧ (0 < i → el l (i - 1) < el l i)) → packhorseref03_Fits.l0 k l (el l i) l (l.length : Int) ((i + 1 : Nat) : Int) = some (decide (DoorsOk l)) := fun h => by
      have := ih k (i + 1) (by omega) (by omega) (by omega) (fun j hj => by
        rcases Nat.lt_or_ge j i with h2 | h2
        · exact hg j h2
        · obtain rfl : j = i := by omega
          exact h)
      rwa [if_neg (by omega), Nat.add_sub_cancel] at this
    have hw : wrap64 ((i : Int) + 1) = ((i + 1 : Nat) : Int) := by rw [wrap_id (by omega)]; omega
    simp only [packhorseref03_Fits.l0]
    rw [if_pos (by omega), if_pos (by omega), if_pos (by omega), rd_nat, hw]
    have hprev : 0 < i → 0 ≤ el l (i - 1) := fun h0 => (hg (i - 1) (by omega)).1
    by_cases hc : el l i ≤ (if i = 0 then -1 else el l (i - 1))
    · rw [if_pos hc, no]
      intro h
      by_cases h0 : i = 0
      · rw [if_pos h0] at hc; omega
      · rw [if_neg h0] at hc; have := h.2.2 (by omega); omega
    · rw [if_neg hc]
      have hge : 0 ≤ el l i ∧ (0 < i → el l (i - 1) < el l i) := by
        by_cases h0 : i = 0
        · rw [if_pos h0] at hc; exact ⟨by omega, fun h => by omega⟩
        · rw [if_neg h0] at hc; have := hprev (by omega); exact ⟨by omega, fun _ => by omega⟩
      by_cases h9 : el l i > 95
      · rw [if_pos h9, no (fun h => by omega)]
      · rw [if_neg h9]
        exact yes ⟨hge.1, by omega, hge.2⟩

theorem Fits_eval (l : List Int) (hl : l.length ≤ 4611686018427387904) (k : Nat) (hk : l.length < k) : packhorseref03_Fits.f k l = some (decide (DoorsOk l)) := by
  unfold packhorseref03_Fits.f
  exact fits_loop l hl l.length k 0 (by omega) (by omega) hk (fun j hj => by omega)

theorem closes_loop (l : List Int) (hl : l.length ≤ 4611686018427387904) (t : Int) (ht : 0 ≤ t) (d : Nat) : ∀ (k i : Nat), i ≤ l.length → l.length - i = d → d < k →
    (∀ j, j < i → el l j ≠ t % 96) → packhorseref03_Closes.l0 k t l (l.length : Int) (i : Int) = some (decide (Closes l t)) := by
  induction d with
  | zero =>
    intro k i hi hd hk hg
    obtain ⟨k, rfl⟩ : ∃ m, k = m + 1 := ⟨k - 1, by omega⟩
    simp only [packhorseref03_Closes.l0]
    rw [if_neg (by omega), decide_eq_false]
    intro h
    obtain ⟨j, hj, he⟩ := List.mem_iff_getElem.1 h
    exact hg j (by omega) (by rw [el_get l j hj, he])
  | succ d ih =>
    intro k i hi hd hk hg
    obtain ⟨k, rfl⟩ : ∃ m, k = m + 1 := ⟨k - 1, by omega⟩
    have hw : wrap64 ((i : Int) + 1) = ((i + 1 : Nat) : Int) := by rw [wrap_id (by omega)]; omega
    simp only [packhorseref03_Closes.l0]
    rw [if_pos (by omega), if_pos (by omega), if_pos (by omega), rd_nat, hw, Int.tmod_eq_emod_of_nonneg ht]
    by_cases he : el l i = t % 96
    · rw [if_pos he, decide_eq_true]
      unfold Closes
      rw [← he]
      exact el_mem (by omega)
    · rw [if_neg he]
      exact ih k (i + 1) (by omega) (by omega) (by omega) (fun j hj => by
        rcases Nat.lt_or_ge j i with h2 | h2
        · exact hg j h2
        · obtain rfl : j = i := by omega
          exact he)

theorem Closes_eval (l : List Int) (hl : l.length ≤ 4611686018427387904) (t : Int) (ht : 0 ≤ t) (k : Nat) (hk : l.length < k) : packhorseref03_Closes.f k l t = some (decide (Closes l t)) := by
  unfold packhorseref03_Closes.f
  exact closes_loop l hl t ht l.length k 0 (by omega) (by omega) hk (fun j hj => by omega)

end Go.Proofs.Ytecomenbmdembaa.DayE
