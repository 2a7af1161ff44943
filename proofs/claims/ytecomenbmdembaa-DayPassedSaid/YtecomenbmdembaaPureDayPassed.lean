/- The plain statement of DayPassed: how often doors close between two ticks, held against a count tick by tick. -/
import Derived.Test.YtecomenbmdembaaPdx4
import Derived.Test.YtecomenbmdembaaDayE
namespace Go.Proofs.Ytecomenbmdembaa.Pure
open Go.RowKit Go.Proofs.Ytecomenbmdembaa.Pd Go.Proofs.YtecomenbmdembaaW.PrintWords Go.Proofs.YtecomenbmdembaaW.PrintLast Go.Proofs.Ytecomenbmdembaa.DayM Go.Proofs.Ytecomenbmdembaa.DayE

theorem passed_loop {l : List Int} (h : DoorsOk l) (a b : Int) (ha : 0 ≤ a) (hb : b ≤ 1099511627776) (d : Nat) : ∀ (k : Nat) (u : Int), a < u → u ≤ b + 1 → (b + 1 - u).toNat = d → d + l.length < k →
    packhorselaw03_DayPassed.l0 k l b (bef l b - bef l a) 0 (bef l (u - 1) - bef l a) u = some true := by
  have hlen := ok_len h
  induction d with
  | zero =>
    intro k u h1 h2 hd hk
    obtain ⟨k, rfl⟩ : ∃ m, k = m + 1 := ⟨k - 1, by omega⟩
    simp only [packhorselaw03_DayPassed.l0]
    rw [if_neg (by omega)]
    obtain rfl : u = b + 1 := by omega
    rw [show b + 1 - 1 = b by omega]
    simp
  | succ d ih =>
    intro k u h1 h2 hd hk
    obtain ⟨k, rfl⟩ : ∃ m, k = m + 1 := ⟨k - 1, by omega⟩
    simp only [packhorselaw03_DayPassed.l0]
    rw [if_pos (by omega), Closes_eval l (by omega) u (by omega) k (by omega)]
    simp only [Option.bind_some, decide_eq_true_eq]
    have hs := bef_step h (t := u - 1)
    rw [show u - 1 + 1 = u by omega] at hs
    have r1 := bef_range h (t := a) (by omega)
    have r2 := bef_range h (t := u - 1) (by omega)
    have hi := ih k (u + 1) (by omega) (by omega) (by omega) (by omega)
    rw [show u + 1 - 1 = u by omega, hs] at hi
    rw [wrap_id (x := u + 1) (by omega)]
    by_cases hc : Closes l u
    · rw [if_pos hc] at hi ⊢
      rw [wrap_id (by omega)]
      rw [show bef l (u - 1) - bef l a + 1 = bef l (u - 1) + 1 - bef l a by omega]
      exact hi
    · rw [if_neg hc] at hi ⊢
      rw [Int.add_zero] at hi
      exact hi

theorem DayPassed : packhorselaw03_DayPassed.Pure := by
  intro l a b hl hl8 _ _ _
  refine ⟨l.length + 4000, ?_⟩
  unfold packhorselaw03_DayPassed.f
  rw [alive_eval _ (by omega)]
  simp only [Option.bind_some, if_true]
  split
  · rfl
  rename_i h200
  rw [Passed_eval l (by omega) a b _ (by omega)]
  simp only [Option.bind_some]
  rw [Fits_eval l (by omega) _ (by omega)]
  simp only [Option.bind_some, decide_eq_true_eq, refRight_eval]
  have j1 : ¬ (DoorsOk l ∧ (0 ≤ a ∧ a ≤ 1099511627776) ∧ (0 ≤ b ∧ b ≤ 1099511627776) ∧ a ≤ b) → packhorselaw03_DayPassed.j0 (l.length + 4000) l a b (passedA l a b).1 (passedA l a b).2 true = some true := fun hn => by
    unfold passedA
    rw [if_neg hn]
    simp only [packhorselaw03_DayPassed.j0, if_true]
    rfl
  by_cases h : DoorsOk l
  · rw [if_pos h]
    by_cases ha : 0 ≤ a ∧ a ≤ 1099511627776
    · rw [if_pos ha]
      by_cases hb : 0 ≤ b ∧ b ≤ 1099511627776
      · rw [if_pos hb]
        by_cases hab : a > b
        · rw [decide_eq_true hab]
          exact j1 (fun q => by omega)
        · rw [decide_eq_false hab]
          have e : passedA l a b = (bef l b - bef l a, 0) := by unfold passedA; rw [if_pos ⟨h, ha, hb, by omega⟩]
          have hlen := ok_len h
          rw [e]
          simp only [packhorselaw03_DayPassed.j0, Bool.false_eq_true, if_false, if_true]
          rw [wrap_id (x := b - a) (by omega)]
          by_cases h3 : b - a > 3000
          · rw [if_pos h3, Int.tdiv_eq_ediv_of_nonneg (by omega), wrap_id (x := (b - a) / 96) (by omega)]
            have q1 : 0 ≤ (b - a) / 96 * (l.length : Int) := Int.mul_nonneg (by omega) (by omega)
            have q2 : (b - a) / 96 * (l.length : Int) ≤ (b - a) / 96 * 96 := Int.mul_le_mul_of_nonneg_left (by omega) (by omega)
            rw [wrap_id (by omega)]
            have m1 := bef_mul (l := l) (t := a) ((b - a) / 96).toNat
            have m2 : (((b - a) / 96).toNat : Int) = (b - a) / 96 := by omega
            rw [m2] at m1
            have m3 := bef_le h (a := a + 96 * ((b - a) / 96)) (b := b) (by omega)
            rw [decide_eq_true (by omega)]
          · rw [if_neg h3, wrap_id (x := a + 1) (by omega)]
            have := passed_loop h a b ha.1 hb.2 (b - a).toNat (l.length + 3999) (a + 1) (by omega) (by omega) (by omega) (by omega)
            rw [show a + 1 - 1 = a by omega, Int.sub_self] at this
            exact this
      · rw [if_neg hb]; exact j1 (fun q => hb q.2.2.1)
    · rw [if_neg ha]; exact j1 (fun q => ha q.2.1)
  · rw [if_neg h]; exact j1 (fun q => h q.1)

end Go.Proofs.Ytecomenbmdembaa.Pure
