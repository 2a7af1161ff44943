/- The plain statement of DayNext: when doors close next, held against a search tick by tick; a tick's day, and when that ends. -/
import Derived.Test.YtecomenbmdembaaPdx3
import Derived.Test.YtecomenbmdembaaDayE
namespace Go.Proofs.Ytecomenbmdembaa.Pure
open Go.RowKit Go.Proofs.Ytecomenbmdembaa.Pd Go.Proofs.YtecomenbmdembaaW.PrintWords Go.Proofs.YtecomenbmdembaaW.PrintLast Go.Proofs.Ytecomenbmdembaa.DayM Go.Proofs.Ytecomenbmdembaa.DayE

theorem ref_loop {l : List Int} (h : DoorsOk l) (t : Int) (ht : 0 ≤ t ∧ t ≤ 1099511627776) (d : Nat) : ∀ (k : Nat) (u : Int), t < u → u ≤ nextV l t → (nextV l t - u).toNat = d → d + l.length + 1 < k →
    packhorseref03_Next.l0 k l u = some (if nextV l t ≤ 1099511627776 then (nextV l t, 0) else (0, 31)) := by
  have hlen := ok_len h
  obtain ⟨n1, n2, n3, n4⟩ := next_spec h ht.1
  induction d with
  | zero =>
    intro k u h1 h2 hd hk
    obtain ⟨k, rfl⟩ : ∃ m, k = m + 1 := ⟨k - 1, by omega⟩
    obtain rfl : u = nextV l t := by omega
    simp only [packhorseref03_Next.l0]
    by_cases hm : nextV l t ≤ 1099511627776
    · rw [if_pos hm, if_pos hm, Closes_eval l (by omega) _ (by omega) k (by omega), decide_eq_true n1]
      rfl
    · rw [if_neg hm, if_neg hm]
  | succ d ih =>
    intro k u h1 h2 hd hk
    obtain ⟨k, rfl⟩ : ∃ m, k = m + 1 := ⟨k - 1, by omega⟩
    simp only [packhorseref03_Next.l0]
    by_cases hm : u ≤ 1099511627776
    · rw [if_pos hm, Closes_eval l (by omega) _ (by omega) k (by omega), decide_eq_false (n4 u h1 (by omega))]
      simp only [Option.bind_some, Bool.false_eq_true, if_false]
      rw [wrap_id (by omega)]
      exact ih k (u + 1) (by omega) (by omega) (by omega) (by omega)
    · rw [if_neg hm, if_neg (by omega)]

theorem refNext_eval (l : List Int) (hl : l.length ≤ 17592186044416) (t : Int) (k : Nat) (hk : l.length + 100 < k) : packhorseref03_Next.f k l t = some (nextA l t) := by
  unfold packhorseref03_Next.f nextA
  rw [Fits_eval l (by omega) k (by omega)]
  obtain ⟨k, rfl⟩ : ∃ m, k = m + 1 := ⟨k - 1, by omega⟩
  simp only [Option.bind_some, decide_eq_true_eq, refRight_eval]
  by_cases h : DoorsOk l
  · rw [if_pos h]
    by_cases ht : 0 ≤ t ∧ t ≤ 1099511627776
    · rw [decide_eq_true ht]
      simp only [packhorseref03_Next.j0, Bool.not_true, Bool.false_eq_true, if_false]
      obtain ⟨n1, n2, n3, n4⟩ := next_spec h ht.1
      rw [wrap_id (by omega), ref_loop h t ht (nextV l t - (t + 1)).toNat k (t + 1) (by omega) (by omega) rfl (by omega)]
      by_cases hm : nextV l t ≤ 1099511627776
      · rw [if_pos hm, if_pos ⟨h, ht, hm⟩]
      · rw [if_neg hm, if_neg (fun q => hm q.2.2)]
    · rw [decide_eq_false ht, if_neg (fun q => ht q.2.1)]
      simp only [packhorseref03_Next.j0, Bool.not_false, if_true]
  · rw [if_neg h, if_neg (fun q => h q.1)]
    simp only [packhorseref03_Next.j0, if_true]

theorem DayNext : packhorselaw03_DayNext.Pure := by
  intro l t hl hl8 _ _
  refine ⟨l.length + 200, ?_⟩
  unfold packhorselaw03_DayNext.f
  rw [alive_eval _ (by omega)]
  simp only [Option.bind_some, if_true]
  split
  · rfl
  rename_i h200
  rw [Next_eval l (by omega) t _ (by omega), refNext_eval l (by omega) t _ (by omega), End_eval]
  simp only [Option.bind_some, if_true, Right_eval, refRight_eval, bne_self_eq_false]
  by_cases ht : 0 ≤ t ∧ t ≤ 1099511627776
  · rw [Of_yes ht]
    simp only [Option.bind_some, packhorselaw03_DayNext.j0, Bool.false_eq_true, if_false, refRight_eval]
    rw [decide_eq_true ht, Int.tdiv_eq_ediv_of_nonneg ht.1, Int.tmod_eq_emod_of_nonneg ht.1, wrap_id (x := t / 96) (by omega), wrap_id (x := t / 96 + 1) (by omega), wrap_id (by omega)]
    simp only [if_true]
    by_cases hm : (t / 96 + 1) * 96 ≤ 1099511627776
    · have hE : (if (0 ≤ t ∧ t ≤ 1099511627776) ∧ (t / 96 + 1) * 96 ≤ 1099511627776 then ((t / 96 + 1) * 96, (0 : Int)) else (0, 31)) = ((t / 96 + 1) * 96, 0) := if_pos ⟨ht, hm⟩
      rw [if_neg (by omega), hE]
      simp only [if_true]
      rw [show 96 * (t / 96 + 1) = (t / 96 + 1) * 96 by omega]
      simp
    · have hE : (if (0 ≤ t ∧ t ≤ 1099511627776) ∧ (t / 96 + 1) * 96 ≤ 1099511627776 then ((t / 96 + 1) * 96, (0 : Int)) else (0, 31)) = (0, 31) := if_neg (fun q => hm q.2)
      rw [if_pos (by omega), hE]
      rfl
  · rw [Of_no ht]
    have hE : (if (0 ≤ t ∧ t ≤ 1099511627776) ∧ (t / 96 + 1) * 96 ≤ 1099511627776 then ((t / 96 + 1) * 96, (0 : Int)) else (0, 31)) = (0, 31) := if_neg (fun q => ht q.1)
    rw [hE]
    simp only [Option.bind_some, packhorselaw03_DayNext.j0, Bool.false_eq_true, if_false, refRight_eval]
    rw [decide_eq_false ht]
    rfl

end Go.Proofs.Ytecomenbmdembaa.Pure
