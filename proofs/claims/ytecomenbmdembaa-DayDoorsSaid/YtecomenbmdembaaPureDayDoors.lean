/- The plain statement of DayDoors: any numbers as doors, held against the document's. -/
import Derived.Test.YtecomenbmdembaaPdx2
import Derived.Test.YtecomenbmdembaaDayE
namespace Go.Proofs.Ytecomenbmdembaa.Pure
open Go.RowKit Go.Proofs.Ytecomenbmdembaa.Pd Go.Proofs.YtecomenbmdembaaW.PrintWords Go.Proofs.YtecomenbmdembaaW.PrintLast Go.Proofs.Ytecomenbmdembaa.DayM Go.Proofs.Ytecomenbmdembaa.DayE

/-- The numbers from 0 up to n that stand in a list. -/
def upd (l : List Int) (n : Nat) : List Int := ((List.range n).map fun j : Nat => (j : Int)).filter fun x => decide (x ∈ l)

theorem upd_succ (l : List Int) (n : Nat) : upd l (n + 1) = upd l n ++ if (n : Int) ∈ l then [(n : Int)] else [] := by
  unfold upd
  rw [List.range_succ, List.map_append, List.filter_append]
  congr 1
  by_cases h : (n : Int) ∈ l <;> simp [h]

theorem upd_len (l : List Int) (n : Nat) : (upd l n).length ≤ n := by
  unfold upd
  exact Nat.le_trans (List.length_filter_le _ _) (by simp)

theorem upd_mem (l : List Int) (n : Nat) (x : Int) : x ∈ upd l n ↔ x ∈ l ∧ 0 ≤ x ∧ x < n := by
  unfold upd
  simp only [List.mem_filter, List.mem_map, List.mem_range, decide_eq_true_eq]
  constructor
  · rintro ⟨⟨j, hj, rfl⟩, h⟩; exact ⟨h, by omega, by omega⟩
  · rintro ⟨h, h0, h1⟩; exact ⟨⟨x.toNat, by omega, by omega⟩, h⟩

theorem upd_rise (l : List Int) (n : Nat) : (upd l n).Pairwise (· < ·) := by
  unfold upd
  refine List.Pairwise.filter _ ?_
  rw [List.pairwise_map]
  exact (List.pairwise_lt_range (n := n)).imp (fun h => by omega)

/-- What the document answers. -/
def refV (l : List Int) : List Int × Int := if l ≠ [] ∧ ∀ x ∈ l, 0 ≤ x ∧ x ≤ 95 then (upd l 96, 0) else ([], 31)

theorem l2_loop (l : List Int) (hl : l.length ≤ 4611686018427387904) (d : Nat) : ∀ (k i : Nat), i ≤ l.length → l.length - i = d → d < k →
    (∀ j, j < i → 0 ≤ el l j ∧ el l j ≤ 95) → packhorseref03_Doors.l2 k l (upd l 96) l (l.length : Int) (i : Int) = some (refV l) := by
  induction d with
  | zero =>
    intro k i hi hd hk hg
    obtain ⟨k, rfl⟩ : ∃ m, k = m + 1 := ⟨k - 1, by omega⟩
    simp only [packhorseref03_Doors.l2]
    rw [if_neg (by omega)]
    have hall : ∀ x ∈ l, 0 ≤ x ∧ x ≤ 95 := fun x hx => by
      obtain ⟨j, hj, rfl⟩ := List.mem_iff_getElem.1 hx
      have := hg j (by omega)
      rwa [el_get l j hj] at this
    unfold refV
    by_cases h0 : (l.length : Int) = 0
    · rw [if_pos h0, if_neg (fun q => q.1 (List.eq_nil_of_length_eq_zero (by omega)))]
    · rw [if_neg h0, if_pos ⟨fun e => h0 (by rw [e]; rfl), hall⟩]
  | succ d ih =>
    intro k i hi hd hk hg
    obtain ⟨k, rfl⟩ : ∃ m, k = m + 1 := ⟨k - 1, by omega⟩
    have hlt : i < l.length := by omega
    have hw : wrap64 ((i : Int) + 1) = ((i + 1 : Nat) : Int) := by rw [wrap_id (by omega)]; omega
    have no : ¬ (0 ≤ el l i ∧ el l i ≤ 95) → refV l = ([], 31) := fun hn => by
      unfold refV
      exact if_neg (fun q => hn (q.2 _ (el_mem hlt)))
    simp only [packhorseref03_Doors.l2]
    rw [if_pos (by omega), if_pos (by omega), if_pos (by omega), rd_nat, hw]
    by_cases h1 : el l i < 0
    · rw [if_pos h1, no (fun q => by omega)]
    · rw [if_neg h1]
      by_cases h2 : el l i > 95
      · rw [if_pos h2, no (fun q => by omega)]
      · rw [if_neg h2]
        exact ih k (i + 1) (by omega) (by omega) (by omega) (fun j hj => by
          rcases Nat.lt_or_ge j i with h3 | h3
          · exact hg j h3
          · obtain rfl : j = i := by omega
            exact ⟨by omega, by omega⟩)

theorem l1_loop (l : List Int) (hl : l.length ≤ 4611686018427387904) (n : Nat) (hn : n < 96) (K : Nat)
    (next : ∀ k, K < k → packhorseref03_Doors.l0 k l (upd l (n + 1)) ((n + 1 : Nat) : Int) = some (refV l)) (d : Nat) : ∀ (k i : Nat), i ≤ l.length → l.length - i = d → d + K + 1 < k → (∀ j, j < i → el l j ≠ (n : Int)) →
    packhorseref03_Doors.l1 k l (upd l n) (n : Int) l (l.length : Int) (i : Int) = some (refV l) := by
  have hwn : wrap64 ((n : Int) + 1) = ((n + 1 : Nat) : Int) := by rw [wrap_id (by omega)]; omega
  have hul := upd_len l n
  have hu : (upd l n).length < 17592186044416 := by omega
  induction d with
  | zero =>
    intro k i hi hd hk hg
    obtain ⟨k, rfl⟩ : ∃ m, k = m + 1 := ⟨k - 1, by omega⟩
    simp only [packhorseref03_Doors.l1]
    rw [if_neg (by omega), hwn]
    have hno : ¬ (n : Int) ∈ l := fun hm => by
      obtain ⟨j, hj, hje⟩ := List.mem_iff_getElem.1 hm
      exact hg j (by omega) (by rw [el_get l j hj, hje])
    have := next k (by omega)
    rwa [upd_succ, if_neg hno, List.append_nil] at this
  | succ d ihd =>
    intro k i hi hd hk hg
    obtain ⟨k, rfl⟩ : ∃ m, k = m + 1 := ⟨k - 1, by omega⟩
    have hw : wrap64 ((i : Int) + 1) = ((i + 1 : Nat) : Int) := by rw [wrap_id (by omega)]; omega
    simp only [packhorseref03_Doors.l1]
    rw [if_pos (by omega), if_pos (by omega), if_pos (by omega), rd_nat, hw]
    by_cases hc : el l i = (n : Int)
    · rw [if_pos hc, if_pos hu, hwn]
      have hm : (n : Int) ∈ l := by rw [← hc]; exact el_mem (by omega)
      have := next k (by omega)
      rwa [upd_succ, if_pos hm] at this
    · rw [if_neg hc]
      refine ihd k (i + 1) (by omega) (by omega) (by omega) (fun j hj => ?_)
      rcases Nat.lt_or_ge j i with h3 | h3
      · exact hg j h3
      · obtain rfl : j = i := by omega
        exact hc

theorem l0_loop (l : List Int) (hl : l.length ≤ 4611686018427387904) (M : Nat) (hM : M = l.length + 2) (e : Nat) : ∀ (k n : Nat), n ≤ 96 → 96 - n = e → e * M + M < k →
    packhorseref03_Doors.l0 k l (upd l n) (n : Int) = some (refV l) := by
  induction e with
  | zero =>
    intro k n hn he hk
    obtain ⟨k, rfl⟩ : ∃ m, k = m + 1 := ⟨k - 1, by omega⟩
    obtain rfl : n = 96 := by omega
    simp only [packhorseref03_Doors.l0]
    rw [if_neg (by omega)]
    exact l2_loop l hl l.length k 0 (by omega) (by omega) (by omega) (fun j hj => by omega)
  | succ e ih =>
    intro k n hn he hk
    rw [Nat.add_mul, Nat.one_mul] at hk
    obtain ⟨k, rfl⟩ : ∃ m, k = m + 1 := ⟨k - 1, by omega⟩
    simp only [packhorseref03_Doors.l0]
    rw [if_pos (by omega)]
    exact l1_loop l hl n (by omega) (e * M + M) (fun k hk => ih k (n + 1) (by omega) (by omega) hk) l.length k 0 (by omega) (by omega) (by omega) (fun j hj => by omega)

theorem refDoors_eval (l : List Int) (hl : l.length ≤ 4611686018427387904) (k : Nat) (hk : 96 * (l.length + 2) + (l.length + 2) < k) : packhorseref03_Doors.f k l = some (refV l) := by
  unfold packhorseref03_Doors.f
  exact l0_loop l hl _ rfl 96 k 0 (by omega) (by omega) hk

theorem doors_same (l : List Int) : doorsV l = refV l := by
  obtain ⟨o1, o2⟩ := once_spec l
  unfold doorsV refV
  by_cases h : l ≠ [] ∧ ∀ x ∈ l, 0 ≤ x ∧ x ≤ 95
  · rw [if_pos h]
    have hne : once l ≠ [] := fun e => by
      obtain ⟨x, hx⟩ := List.exists_mem_of_ne_nil l h.1
      have := (o2 x).2 hx
      rw [e] at this
      simp at this
    have hok : DoorsOk (once l) := ok_of hne (fun x hx => by have := h.2 x ((o2 x).1 hx); omega) o1
    rw [if_pos hok]
    congr 1
    refine rise_ext o1 (upd_rise l 96) (fun x => ?_)
    rw [o2, upd_mem]
    constructor
    · intro hx; have := h.2 x hx; exact ⟨hx, by omega, by omega⟩
    · exact fun q => q.1
  · rw [if_neg h]
    have hno : ¬ DoorsOk (once l) := fun hok => h ⟨fun e => by
        apply hok.1
        have : ∀ x, x ∉ once l := fun x hx => by have := (o2 x).1 hx; rw [e] at this; simp at this
        exact List.eq_nil_iff_forall_not_mem.2 this, fun x hx => by have := ok_range hok x ((o2 x).2 hx); omega⟩
    rw [if_neg hno]

theorem DayDoors : packhorselaw03_DayDoors.Pure := by
  intro l hl hl8 _
  refine ⟨97 * (l.length + 2) + 10, ?_⟩
  unfold packhorselaw03_DayDoors.f
  rw [alive_eval _ (by omega)]
  simp only [Option.bind_some, if_true]
  split
  · rfl
  rename_i h200
  rw [if_pos (by simp; omega)]
  simp only [List.nil_append]
  rw [Doors_eval l (by omega) _ (by omega), refDoors_eval l (by omega) _ (by omega), doors_same]
  simp only [Option.bind_some]
  have hlen : (refV l).1.length ≤ 96 := by
    unfold refV
    split
    · exact upd_len l 96
    · simp
  rw [Same_eval _ _ (by omega) _ (by omega), decide_eq_true rfl]
  simp only [Option.bind_some, if_true]
  rw [Same_eval _ _ (by omega) _ (by omega), decide_eq_true rfl]
  rfl

end Go.Proofs.Ytecomenbmdembaa.Pure
