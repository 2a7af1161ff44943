/- What these functions answer, and that the machine's calls answer so (a text printed by programs, with parts by hand). -/
import Derived.Test.YtecomenbmdembaaPdx0
import Derived.Test.YtecomenbmdembaaPdx1
import Derived.Test.YtecomenbmdembaaPdx2
namespace Go.Proofs.Ytecomenbmdembaa.Pd
open Go.RowKit Go.Proofs.YtecomenbmdembaaW.PrintWords Go.Proofs.YtecomenbmdembaaW.PrintLast Go.Proofs.YtecomenbmdembaaW.PrintMore
attribute [local go_sem] max2_int min2_int max_two min_two max_three min_three max_four min_four   -- for this text's walks alone
set_option linter.unusedVariables false
set_option linter.unusedSimpArgs false

/-! ### packhorseref03_Next: function 14 -/
mutual
def packhorseref03_Next.j0 : Nat → List Int → Int → Bool → Option (Int × Int)
  | 0, _, _, _ => none
  | k + 1, x0, x1, x14 => if x14 = true then (some (0, 31)) else (packhorseref03_Next.l0 k x0 (wrap64 (x1 + 1)))
def packhorseref03_Next.l0 : Nat → List Int → Int → Option (Int × Int)
  | 0, _, _ => none
  | k + 1, x0, x6 => if x6 ≤ 1099511627776 then ((packhorseref03_Closes.f k x0 x6).bind fun t174 => (if t174 = true then (some (x6, 0)) else (packhorseref03_Next.l0 k x0 (wrap64 (x6 + 1))))) else (some (0, 31))
end
def packhorseref03_Next.f (k : Nat) (l0 : List Int) (a1 : Int) : Option (Int × Int) := (packhorseref03_Fits.f k l0).bind fun t172 => (if t172 = true then ((packhorseref03_Right.f a1).bind fun t173 => (packhorseref03_Next.j0 k l0 a1 (!t173))) else (packhorseref03_Next.j0 k l0 a1 true))
theorem packhorseref03_Next.mono_l : ∀ k, (∀ y0 y1 y2, LeO (packhorseref03_Next.j0 k y0 y1 y2) (packhorseref03_Next.j0 (k + 1) y0 y1 y2)) ∧ (∀ y0 y1, LeO (packhorseref03_Next.l0 k y0 y1) (packhorseref03_Next.l0 (k + 1) y0 y1))
  | 0 => ⟨fun _ _ _ r h => by simp [packhorseref03_Next.j0] at h, fun _ _ r h => by simp [packhorseref03_Next.l0] at h⟩
  | k + 1 => by
    obtain ⟨ih0, ih1⟩ := packhorseref03_Next.mono_l k
    refine ⟨?_, ?_⟩
    · intro y0 y1 y2
      unfold packhorseref03_Next.j0
      repeat' first
      | (with_reducible exact ih0 _ _ _)
      | (with_reducible exact ih1 _ _)
      | (with_reducible exact packhorseref03_Closes.mono _ _ _)
      | (with_reducible exact packhorseref03_Fits.mono _ _)
      | (with_reducible exact LeO.refl _)
      | (with_reducible exact LeO.none _)
      | (with_reducible refine LeO.ite ?_ ?_)
      | (with_reducible refine LeO.bind ?_ (fun _ => ?_))
      | exact ih0 _ _ _
      | exact ih1 _ _
      | exact packhorseref03_Closes.mono _ _ _
      | exact packhorseref03_Fits.mono _ _
      | exact LeO.none _
      | refine LeO.ite ?_ ?_
      | refine LeO.bind ?_ (fun _ => ?_)
    · intro y0 y1
      unfold packhorseref03_Next.l0
      repeat' first
      | (with_reducible exact ih0 _ _ _)
      | (with_reducible exact ih1 _ _)
      | (with_reducible exact packhorseref03_Closes.mono _ _ _)
      | (with_reducible exact packhorseref03_Fits.mono _ _)
      | (with_reducible exact LeO.refl _)
      | (with_reducible exact LeO.none _)
      | (with_reducible refine LeO.ite ?_ ?_)
      | (with_reducible refine LeO.bind ?_ (fun _ => ?_))
      | exact ih0 _ _ _
      | exact ih1 _ _
      | exact packhorseref03_Closes.mono _ _ _
      | exact packhorseref03_Fits.mono _ _
      | exact LeO.none _
      | refine LeO.ite ?_ ?_
      | refine LeO.bind ?_ (fun _ => ?_)
theorem packhorseref03_Next.mono : ∀ a0 a1 k, LeO (packhorseref03_Next.f k a0 a1) (packhorseref03_Next.f (k + 1) a0 a1) := by
  intro a0 a1 k
  obtain ⟨ih0, ih1⟩ := packhorseref03_Next.mono_l k
  unfold packhorseref03_Next.f
  repeat' first
      | (with_reducible exact ih0 _ _ _)
      | (with_reducible exact ih1 _ _)
      | (with_reducible exact packhorseref03_Closes.mono _ _ _)
      | (with_reducible exact packhorseref03_Fits.mono _ _)
      | (with_reducible exact LeO.refl _)
      | (with_reducible exact LeO.none _)
      | (with_reducible refine LeO.ite ?_ ?_)
      | (with_reducible refine LeO.bind ?_ (fun _ => ?_))
      | exact ih0 _ _ _
      | exact ih1 _ _
      | exact packhorseref03_Closes.mono _ _ _
      | exact packhorseref03_Fits.mono _ _
      | exact LeO.none _
      | refine LeO.ite ?_ ?_
      | refine LeO.bind ?_ (fun _ => ?_)
set_option maxHeartbeats 8000000 in
set_option maxRecDepth 100000 in
theorem packhorseref03_Next.calls (k : Nat) (A0 : Option Addr) (c0 : Nat) (l0 : List Int) (a1 : Int) (r1 : Int) (r2 : Int) (w : World) (hr0 : Kd.C (Kd.int .i64) w A0 l0.length l0) (hc0 : l0.length ≤ c0) (h : packhorseref03_Next.f k l0 a1 = some (r1, r2)) :
    Calls Try.prog 14 #[.slice A0 l0.length c0, .int .i64 a1] w fun e w' => e = .returned (.tuple #[.int .i64 r1, .int .i64 r2]) ∧ Drawn0 w w' := by
  have HR0 := Aside0.mk hr0
  have HC0 := Aside0.mk hc0
  clear hr0 hc0
  have H : ((packhorseref03_Fits.f k l0).bind fun t172 => (if t172 = true then ((packhorseref03_Right.f a1).bind fun t173 => (packhorseref03_Next.j0 k l0 a1 (!t173))) else (packhorseref03_Next.j0 k l0 a1 true))) = some (r1, r2) := h
  clear h
  have HC3 := Aside0.mk H
  clear H
  go_enter Try.func14, Try.ntmps14
  go_upto_region 1 with (fail)
  go_cut [14] (fun v14 wc => ∃ (kq : Nat) (x14_2 : Bool), v14 = .bool x14_2 ∧ Aside0 (packhorseref03_Next.j0 kq l0 a1 x14_2 = some (r1, r2)) ∧ Aside0 (kq ≤ k) ∧ Drawn0 w wc)
  case first =>
    have H := HC3.out
    clear HC3
    replace H := Option.bind_eq_some_iff.mp H
    obtain ⟨t172, A40, H⟩ := H
    replace H : (if t172 = true then ((packhorseref03_Right.f a1).bind fun t173 => (packhorseref03_Next.j0 k l0 a1 (!t173))) else (packhorseref03_Next.j0 k l0 a1 true)) = some (r1, r2) := H
    have A4 := Aside0.mk A40
    clear A40
    by_cases c5 : t172 = true
    · subst c5
      have H1 : ((packhorseref03_Right.f a1).bind fun t173 => (packhorseref03_Next.j0 k l0 a1 (!t173))) = some (r1, r2) := by rw [if_pos rfl] at H; exact H
      clear H
      have H := H1
      clear H1
      replace H := Option.bind_eq_some_iff.mp H
      obtain ⟨t173, A60, H⟩ := H
      replace H : (packhorseref03_Next.j0 k l0 a1 (!t173)) = some (r1, r2) := H
      have A6 := Aside0.mk A60
      clear A60
      have H' := Aside0.mk H
      clear H
      go_wp2_with (first | ((with_reducible refine gate_callee (f := 20) rfl ?_); refine goesL_ (some 8) rfl rfl Try.func20 (by kernel_rfl) rfl #[.slice A0 l0.length c0] rfl (by (try simp only [List.map_toArray, List.map_cons, List.map_nil]); first | done | rfl | (simp only [List.length_drop, List.length_take]; rfl)) ?_; (with_reducible refine (packhorseref03_Fits.calls k _ _ l0 true _ ?side1 ?side2 A4.out).mono ?_); (case side1 => repeat (first | exact HR0.out | (with_reducible refine Kd.C_alloc ?_ _) | (with_reducible refine Kd.C_drewN ?_ _) | (with_reducible refine Kd.C_drew ?_))); (case side2 => exact HC0.out); rintro e w' ⟨rfl, ⟨nd, rfl⟩⟩; refine ⟨_, rfl, ?_⟩) | (go_at_call 18; (with_reducible refine (packhorseref03_Right.calls a1 t173 _ A6.out).mono ?_); rintro e w' ⟨rfl, ⟨nd, rfl⟩⟩))
      go_meet
      case rel => exact ⟨_, (!t173), (by first | rfl | (simp; done) | (simp [*]; done)), H', ⟨by first | omega | exact Nat.le_refl _⟩, by repeat (first | exact Drawn0.refl _ | apply Drawn0.step)⟩
    · replace c5 := Bool.eq_false_iff.mpr c5
      subst c5
      have H1 : (packhorseref03_Next.j0 k l0 a1 true) = some (r1, r2) := by rw [if_neg (show ¬ (false = true) by decide)] at H; exact H
      clear H
      have H := H1
      clear H1
      have H' := Aside0.mk H
      clear H
      go_wp2_with (first | ((with_reducible refine gate_callee (f := 20) rfl ?_); refine goesL_ (some 8) rfl rfl Try.func20 (by kernel_rfl) rfl #[.slice A0 l0.length c0] rfl (by (try simp only [List.map_toArray, List.map_cons, List.map_nil]); first | done | rfl | (simp only [List.length_drop, List.length_take]; rfl)) ?_; (with_reducible refine (packhorseref03_Fits.calls k _ _ l0 false _ ?side1 ?side2 A4.out).mono ?_); (case side1 => repeat (first | exact HR0.out | (with_reducible refine Kd.C_alloc ?_ _) | (with_reducible refine Kd.C_drewN ?_ _) | (with_reducible refine Kd.C_drew ?_))); (case side2 => exact HC0.out); rintro e w' ⟨rfl, ⟨nd, rfl⟩⟩; refine ⟨_, rfl, ?_⟩))
      go_meet
      case rel => exact ⟨_, (true), (by first | rfl | (simp; done) | (simp [*]; done)), H', ⟨by first | omega | exact Nat.le_refl _⟩, by repeat (first | exact Drawn0.refl _ | apply Drawn0.step)⟩
  case rest =>
    clear HC3
    try clear c1
    try clear c2
    try clear p2
    try clear c5
    obtain ⟨kq, x14_2, rfl, HA, HJ2, ⟨mc2, rfl⟩⟩ := hcut
    cases kq with
    | zero => exact absurd HA.out (by simp [packhorseref03_Next.j0])
    | succ kj2 =>
      have H := HA.out
      clear HA
      simp only [packhorseref03_Next.j0] at H
      by_cases c7 : x14_2 = true
      · subst c7
        have H1 : (some (0, 31)) = some (r1, r2) := by rw [if_pos rfl] at H; exact H
        clear H
        have H := H1
        clear H1
        simp only [Option.some.injEq, Prod.mk.injEq] at H
        obtain ⟨rfl, rfl⟩ := H
        go_wp2
        go_ret2
        exact ⟨by first | rfl | (simp; done) | (simp [*]; done), by repeat (first | exact Drawn0.refl _ | apply Drawn0.step)⟩
      · replace c7 := Bool.eq_false_iff.mpr c7
        subst c7
        have H1 : (packhorseref03_Next.l0 kj2 l0 (wrap64 (a1 + 1))) = some (r1, r2) := by rw [if_neg (show ¬ (false = true) by decide)] at H; exact H
        clear H
        have H := H1
        clear H1
        have H' := Aside0.mk H
        clear H
        go_wp2
        go_loopg [6] kj2 (fun kq v6 w' => ∃ (x6_2 : Int), v6 = .int .i64 x6_2 ∧ Aside0 (packhorseref03_Next.l0 kq l0 x6_2 = some (r1, r2)) ∧ Aside0 (kq ≤ kj2) ∧ Drawn0 w w')
        case atStart => exact ⟨(wrap64 (a1 + 1)), (by first | rfl | (simp; done) | (simp [*]; done)), H', ⟨Nat.le_refl _⟩, by repeat (first | exact Drawn0.refl _ | apply Drawn0.step)⟩
        case round =>
          clear H'
          try clear c1
          try clear c2
          try clear p2
          try clear c5
          try clear p6
          try clear c7
          try clear p2
          obtain ⟨x6_2, rfl, HA, HK2, ⟨m2, rfl⟩⟩ := hrel
          cases gk with
          | zero => exact absurd HA.out (by simp [packhorseref03_Next.l0])
          | succ k2 =>
            have H := HA.out
            clear HA
            simp only [packhorseref03_Next.l0] at H
            by_cases c8 : x6_2 ≤ 1099511627776
            · rw [if_pos c8] at H
              have c8b0 : decide (x6_2 ≤ 1099511627776) = true := decide_eq_true c8
              clear c8
              replace H := Option.bind_eq_some_iff.mp H
              obtain ⟨t174, A90, H⟩ := H
              replace H : (if t174 = true then (some (x6_2, 0)) else (packhorseref03_Next.l0 k2 l0 (wrap64 (x6_2 + 1)))) = some (r1, r2) := H
              have A9 := Aside0.mk A90
              clear A90
              by_cases c10 : t174 = true
              · subst c10
                have H1 : (some (x6_2, 0)) = some (r1, r2) := by rw [if_pos rfl] at H; exact H
                clear H
                have H := H1
                clear H1
                simp only [Option.some.injEq, Prod.mk.injEq] at H
                obtain ⟨rfl, rfl⟩ := H
                go_wp2_with (first | ((with_reducible refine gate_callee (f := 21) rfl ?_); refine goesL_ (some 23) rfl rfl Try.func21 (by kernel_rfl) rfl #[.slice A0 l0.length c0, .int .i64 x6_2] rfl (by (try simp only [List.map_toArray, List.map_cons, List.map_nil]); first | done | rfl | (simp only [List.length_drop, List.length_take]; rfl)) ?_; (with_reducible refine (packhorseref03_Closes.calls k2 _ _ l0 x6_2 true _ ?side1 ?side2 A9.out).mono ?_); (case side1 => repeat (first | exact HR0.out | (with_reducible refine Kd.C_alloc ?_ _) | (with_reducible refine Kd.C_drewN ?_ _) | (with_reducible refine Kd.C_drew ?_))); (case side2 => exact HC0.out); rintro e w' ⟨rfl, ⟨nd, rfl⟩⟩; refine ⟨_, rfl, ?_⟩))
                go_ret2
                exact ⟨by first | rfl | (simp; done) | (simp [*]; done), by repeat (first | exact Drawn0.refl _ | apply Drawn0.step)⟩
              · replace c10 := Bool.eq_false_iff.mpr c10
                subst c10
                have H1 : (packhorseref03_Next.l0 k2 l0 (wrap64 (x6_2 + 1))) = some (r1, r2) := by rw [if_neg (show ¬ (false = true) by decide)] at H; exact H
                clear H
                have H := H1
                clear H1
                have H' := Aside0.mk H
                clear H
                go_wp2_with (first | ((with_reducible refine gate_callee (f := 21) rfl ?_); refine goesL_ (some 23) rfl rfl Try.func21 (by kernel_rfl) rfl #[.slice A0 l0.length c0, .int .i64 x6_2] rfl (by (try simp only [List.map_toArray, List.map_cons, List.map_nil]); first | done | rfl | (simp only [List.length_drop, List.length_take]; rfl)) ?_; (with_reducible refine (packhorseref03_Closes.calls k2 _ _ l0 x6_2 false _ ?side1 ?side2 A9.out).mono ?_); (case side1 => repeat (first | exact HR0.out | (with_reducible refine Kd.C_alloc ?_ _) | (with_reducible refine Kd.C_drewN ?_ _) | (with_reducible refine Kd.C_drew ?_))); (case side2 => exact HC0.out); rintro e w' ⟨rfl, ⟨nd, rfl⟩⟩; refine ⟨_, rfl, ?_⟩))
                go_roundg k2
                case measure => have := HJ2.out; have := HK2.out; omega
                case rel => exact ⟨(wrap64 (x6_2 + 1)), (by first | rfl | (simp; done) | (simp [*]; done)), H', ⟨by have := HJ2.out; have := HK2.out; omega⟩, by repeat (first | exact Drawn0.refl _ | apply Drawn0.step)⟩
            · rw [if_neg c8] at H
              have c8b0 : decide (x6_2 ≤ 1099511627776) = false := decide_eq_false c8
              clear c8
              simp only [Option.some.injEq, Prod.mk.injEq] at H
              obtain ⟨rfl, rfl⟩ := H
              go_wp2
              go_ret2
              exact ⟨by first | rfl | (simp; done) | (simp [*]; done), by repeat (first | exact Drawn0.refl _ | apply Drawn0.step)⟩

/-! ### day_End: function 16 -/
def day_End.f (a0 : Int) : Option (Int × Int) := (day_Right.f a0).bind fun t175 => (if t175 = true then ((day_told.f (wrap64 ((wrap64 (a0 - (Int.tmod a0 96))) + 96))).bind fun bt176 => (some (bt176.1, bt176.2))) else (some (0, 31)))
set_option maxHeartbeats 8000000 in
set_option maxRecDepth 100000 in
theorem day_End.calls (a0 : Int) (r1 : Int) (r2 : Int) (w : World) (h : day_End.f a0 = some (r1, r2)) :
    Calls Try.prog 16 #[.int .i64 a0] w fun e w' => e = .returned (.tuple #[.int .i64 r1, .int .i64 r2]) ∧ Drawn0 w w' := by
  have H : ((day_Right.f a0).bind fun t175 => (if t175 = true then ((day_told.f (wrap64 ((wrap64 (a0 - (Int.tmod a0 96))) + 96))).bind fun bt176 => (some (bt176.1, bt176.2))) else (some (0, 31)))) = some (r1, r2) := h
  clear h
  replace H := Option.bind_eq_some_iff.mp H
  obtain ⟨t175, A20, H⟩ := H
  replace H : (if t175 = true then ((day_told.f (wrap64 ((wrap64 (a0 - (Int.tmod a0 96))) + 96))).bind fun bt176 => (some (bt176.1, bt176.2))) else (some (0, 31))) = some (r1, r2) := H
  have A2 := Aside0.mk A20
  clear A20
  by_cases c3 : t175 = true
  · subst c3
    have H1 : ((day_told.f (wrap64 ((wrap64 (a0 - (Int.tmod a0 96))) + 96))).bind fun bt176 => (some (bt176.1, bt176.2))) = some (r1, r2) := by rw [if_pos rfl] at H; exact H
    clear H
    have H := H1
    clear H1
    replace H := Option.bind_eq_some_iff.mp H
    obtain ⟨⟨t176, t177⟩, A40, H⟩ := H
    replace H : (some (t176, t177)) = some (r1, r2) := H
    have A4 := Aside0.mk A40
    clear A40
    simp only [Option.some.injEq, Prod.mk.injEq] at H
    obtain ⟨rfl, rfl⟩ := H
    go_enter Try.func16, Try.ntmps16
    go_wp2_with (first | ((with_reducible refine gate_callee (f := 17) rfl ?_); refine goesL_ (some 5) rfl rfl Try.func17 (by kernel_rfl) rfl #[.int .i64 a0] rfl (by (try simp only [List.map_toArray, List.map_cons, List.map_nil]); first | done | rfl | (simp only [List.length_drop, List.length_take]; rfl)) ?_; (with_reducible refine (day_Right.calls a0 true _ A2.out).mono ?_); rintro e w' ⟨rfl, ⟨nd, rfl⟩⟩; refine ⟨_, rfl, ?_⟩) | ((with_reducible refine gate_callee (f := 27) rfl ?_); refine goesL_ (some 12) rfl rfl Try.func27 (by kernel_rfl) rfl #[.int .i64 (wrap64 ((wrap64 (a0 - (Int.tmod a0 96))) + 96))] rfl (by (try simp only [List.map_toArray, List.map_cons, List.map_nil]); first | done | rfl | (simp only [List.length_drop, List.length_take]; rfl)) ?_; (with_reducible refine (day_told.calls (wrap64 ((wrap64 (a0 - (Int.tmod a0 96))) + 96)) t176 t177 _ A4.out).mono ?_); rintro e w' ⟨rfl, ⟨nd, rfl⟩⟩; refine ⟨_, rfl, ?_⟩))
    go_ret2
    exact ⟨by first | rfl | (simp; done) | (simp [*]; done), by repeat (first | exact Drawn0.refl _ | apply Drawn0.step)⟩
  · replace c3 := Bool.eq_false_iff.mpr c3
    subst c3
    have H1 : (some (0, 31)) = some (r1, r2) := by rw [if_neg (show ¬ (false = true) by decide)] at H; exact H
    clear H
    have H := H1
    clear H1
    simp only [Option.some.injEq, Prod.mk.injEq] at H
    obtain ⟨rfl, rfl⟩ := H
    go_enter Try.func16, Try.ntmps16
    go_wp2_with (first | ((with_reducible refine gate_callee (f := 17) rfl ?_); refine goesL_ (some 5) rfl rfl Try.func17 (by kernel_rfl) rfl #[.int .i64 a0] rfl (by (try simp only [List.map_toArray, List.map_cons, List.map_nil]); first | done | rfl | (simp only [List.length_drop, List.length_take]; rfl)) ?_; (with_reducible refine (day_Right.calls a0 false _ A2.out).mono ?_); rintro e w' ⟨rfl, ⟨nd, rfl⟩⟩; refine ⟨_, rfl, ?_⟩))
    go_ret2
    exact ⟨by first | rfl | (simp; done) | (simp [*]; done), by repeat (first | exact Drawn0.refl _ | apply Drawn0.step)⟩

/-! ### packhorselaw03_DayNext: function 4 -/
def packhorselaw03_DayNext.j0 : Nat → Int → Int → Int → Int → Int → Bool → Option (Bool)
  | 0, _, _, _, _, _, _ => none
  | k + 1, x1, x9, x10, x11, x12, x55 => if x55 = true then (some false) else ((packhorseref03_Right.f x1).bind fun t189 => (if t189 = true then (if (wrap64 (96 * (wrap64 ((wrap64 (Int.tdiv x1 96)) + 1)))) > 1099511627776 then (if x11 = 0 then (some (x12 == 31)) else (some false)) else (if x9 = (wrap64 (Int.tdiv x1 96)) then (if x10 = (Int.tmod x1 96) then (if x12 = 0 then (some (x11 == (wrap64 (96 * (wrap64 ((wrap64 (Int.tdiv x1 96)) + 1)))))) else (some false)) else (some false)) else (some false))) else (if x9 = 0 then (if x10 = 0 then (if x11 = 0 then (some (x12 == 31)) else (some false)) else (some false)) else (some false))))
def packhorselaw03_DayNext.f (k : Nat) (l0 : List Int) (a1 : Int) : Option (Bool) := (packhorselaw03_dayAlive.f k).bind fun t178 => (if t178 = true then (if (l0.length : Int) > 200 then (some true) else ((day_Next.f k l0 a1).bind fun bt179 => ((packhorseref03_Next.f k l0 a1).bind fun bt181 => ((day_Of.f a1).bind fun bt183 => ((day_End.f a1).bind fun bt185 => (if bt179.1 = bt181.1 then (if bt179.2 = bt181.2 then ((day_Right.f a1).bind fun t187 => ((packhorseref03_Right.f a1).bind fun t188 => (packhorselaw03_DayNext.j0 k a1 bt183.1 bt183.2 bt185.1 bt185.2 (t187 != t188)))) else (packhorselaw03_DayNext.j0 k a1 bt183.1 bt183.2 bt185.1 bt185.2 true)) else (packhorselaw03_DayNext.j0 k a1 bt183.1 bt183.2 bt185.1 bt185.2 true))))))) else (some false))
theorem packhorselaw03_DayNext.mono_l : ∀ k, (∀ y0 y1 y2 y3 y4 y5, LeO (packhorselaw03_DayNext.j0 k y0 y1 y2 y3 y4 y5) (packhorselaw03_DayNext.j0 (k + 1) y0 y1 y2 y3 y4 y5))
  | 0 => fun _ _ _ _ _ _ r h => by simp [packhorselaw03_DayNext.j0] at h
  | k + 1 => by
    have ih0 := packhorselaw03_DayNext.mono_l k
    · intro y0 y1 y2 y3 y4 y5
      unfold packhorselaw03_DayNext.j0
      repeat' first
      | (with_reducible exact ih0 _ _ _ _ _ _)
      | (with_reducible exact day_Next.mono _ _ _)
      | (with_reducible exact packhorselaw03_dayAlive.mono _)
      | (with_reducible exact packhorseref03_Next.mono _ _ _)
      | (with_reducible exact LeO.refl _)
      | (with_reducible exact LeO.none _)
      | (with_reducible refine LeO.ite ?_ ?_)
      | (with_reducible refine LeO.bind ?_ (fun _ => ?_))
      | exact ih0 _ _ _ _ _ _
      | exact day_Next.mono _ _ _
      | exact packhorselaw03_dayAlive.mono _
      | exact packhorseref03_Next.mono _ _ _
      | exact LeO.none _
      | refine LeO.ite ?_ ?_
      | refine LeO.bind ?_ (fun _ => ?_)
theorem packhorselaw03_DayNext.mono : ∀ a0 a1 k, LeO (packhorselaw03_DayNext.f k a0 a1) (packhorselaw03_DayNext.f (k + 1) a0 a1) := by
  intro a0 a1 k
  have ih0 := packhorselaw03_DayNext.mono_l k
  unfold packhorselaw03_DayNext.f
  repeat' first
      | (with_reducible exact ih0 _ _ _ _ _ _)
      | (with_reducible exact day_Next.mono _ _ _)
      | (with_reducible exact packhorselaw03_dayAlive.mono _)
      | (with_reducible exact packhorseref03_Next.mono _ _ _)
      | (with_reducible exact LeO.refl _)
      | (with_reducible exact LeO.none _)
      | (with_reducible refine LeO.ite ?_ ?_)
      | (with_reducible refine LeO.bind ?_ (fun _ => ?_))
      | exact ih0 _ _ _ _ _ _
      | exact day_Next.mono _ _ _
      | exact packhorselaw03_dayAlive.mono _
      | exact packhorseref03_Next.mono _ _ _
      | exact LeO.none _
      | refine LeO.ite ?_ ?_
      | refine LeO.bind ?_ (fun _ => ?_)
set_option maxHeartbeats 8000000 in
set_option maxRecDepth 100000 in
theorem packhorselaw03_DayNext.calls (k : Nat) (A0 : Option Addr) (c0 : Nat) (l0 : List Int) (a1 : Int) (r : Bool) (w : World) (hr0 : Kd.C (Kd.int .i64) w A0 l0.length l0) (hc0 : l0.length ≤ c0) (h : packhorselaw03_DayNext.f k l0 a1 = some r) :
    Calls Try.prog 4 #[.slice A0 l0.length c0, .int .i64 a1] w fun e w' => e = .returned (.bool r) ∧ Below w.heap.size w w' := by
  have HR0 := Aside0.mk hr0
  have HC0 := Aside0.mk hc0
  clear hr0 hc0
  have HB := Aside0.mk (Below.refl w.heap.size w)
  have H : ((packhorselaw03_dayAlive.f k).bind fun t178 => (if t178 = true then (if (l0.length : Int) > 200 then (some true) else ((day_Next.f k l0 a1).bind fun bt179 => ((packhorseref03_Next.f k l0 a1).bind fun bt181 => ((day_Of.f a1).bind fun bt183 => ((day_End.f a1).bind fun bt185 => (if bt179.1 = bt181.1 then (if bt179.2 = bt181.2 then ((day_Right.f a1).bind fun t187 => ((packhorseref03_Right.f a1).bind fun t188 => (packhorselaw03_DayNext.j0 k a1 bt183.1 bt183.2 bt185.1 bt185.2 (t187 != t188)))) else (packhorselaw03_DayNext.j0 k a1 bt183.1 bt183.2 bt185.1 bt185.2 true)) else (packhorselaw03_DayNext.j0 k a1 bt183.1 bt183.2 bt185.1 bt185.2 true))))))) else (some false))) = some r := h
  clear h
  replace H := Option.bind_eq_some_iff.mp H
  obtain ⟨t178, A30, H⟩ := H
  replace H : (if t178 = true then (if (l0.length : Int) > 200 then (some true) else ((day_Next.f k l0 a1).bind fun bt179 => ((packhorseref03_Next.f k l0 a1).bind fun bt181 => ((day_Of.f a1).bind fun bt183 => ((day_End.f a1).bind fun bt185 => (if bt179.1 = bt181.1 then (if bt179.2 = bt181.2 then ((day_Right.f a1).bind fun t187 => ((packhorseref03_Right.f a1).bind fun t188 => (packhorselaw03_DayNext.j0 k a1 bt183.1 bt183.2 bt185.1 bt185.2 (t187 != t188)))) else (packhorselaw03_DayNext.j0 k a1 bt183.1 bt183.2 bt185.1 bt185.2 true)) else (packhorselaw03_DayNext.j0 k a1 bt183.1 bt183.2 bt185.1 bt185.2 true))))))) else (some false)) = some r := H
  have A3 := Aside0.mk A30
  clear A30
  by_cases c4 : t178 = true
  · subst c4
    have H1 : (if (l0.length : Int) > 200 then (some true) else ((day_Next.f k l0 a1).bind fun bt179 => ((packhorseref03_Next.f k l0 a1).bind fun bt181 => ((day_Of.f a1).bind fun bt183 => ((day_End.f a1).bind fun bt185 => (if bt179.1 = bt181.1 then (if bt179.2 = bt181.2 then ((day_Right.f a1).bind fun t187 => ((packhorseref03_Right.f a1).bind fun t188 => (packhorselaw03_DayNext.j0 k a1 bt183.1 bt183.2 bt185.1 bt185.2 (t187 != t188)))) else (packhorselaw03_DayNext.j0 k a1 bt183.1 bt183.2 bt185.1 bt185.2 true)) else (packhorselaw03_DayNext.j0 k a1 bt183.1 bt183.2 bt185.1 bt185.2 true))))))) = some r := by rw [if_pos rfl] at H; exact H
    clear H
    have H := H1
    clear H1
    by_cases c5 : (l0.length : Int) > 200
    · rw [if_pos c5] at H
      have c5b0 : decide (200 < (l0.length : Int)) = true := decide_eq_true c5
      have c5b1 : decide (200 < l0.length) = true := decide_eq_true (by omega)
      clear c5
      obtain rfl := Option.some.inj H
      go_enter Try.func4, Try.ntmps4
      go_wp2_with (first | ((with_reducible refine gate_callee (f := 9) rfl ?_); refine goesL_ (some 14) rfl rfl Try.func9 (by kernel_rfl) rfl #[] rfl (by (try simp only [List.map_toArray, List.map_cons, List.map_nil]); first | done | rfl | (simp only [List.length_drop, List.length_take]; rfl)) ?_; (with_reducible refine (packhorselaw03_dayAlive.calls k  true _ A3.out).mono ?_); rintro e w6 ⟨rfl, hb⟩; refine ⟨_, rfl, ?_⟩; have n0_ := Aside0.mk (below_step (by repeat (first | (with_reducible first | exact HB.out | apply below_alloc | apply pw_below_drewN | apply below_drew1) | exact HB.out)) hb); clear HB; have HB := n0_; clear n0_; (try clear hb); (try clear hb2); (try clear hk); (try clear hi)))
      go_ret
      exact ⟨by first | rfl | (simp [errW_none, errW_some] <;> rfl) | (simp [*, errW_none, errW_some] <;> rfl), by repeat (first | (with_reducible first | exact HB.out | apply below_alloc | apply pw_below_drewN | apply below_drew1) | exact HB.out)⟩
    · rw [if_neg c5] at H
      have c5b0 : decide (200 < (l0.length : Int)) = false := decide_eq_false c5
      have c5b1 : decide (200 < l0.length) = false := decide_eq_false (by omega)
      clear c5
      replace H := Option.bind_eq_some_iff.mp H
      obtain ⟨⟨t179, t180⟩, A70, H⟩ := H
      replace H : ((packhorseref03_Next.f k l0 a1).bind fun bt181 => ((day_Of.f a1).bind fun bt183 => ((day_End.f a1).bind fun bt185 => (if t179 = bt181.1 then (if t180 = bt181.2 then ((day_Right.f a1).bind fun t187 => ((packhorseref03_Right.f a1).bind fun t188 => (packhorselaw03_DayNext.j0 k a1 bt183.1 bt183.2 bt185.1 bt185.2 (t187 != t188)))) else (packhorselaw03_DayNext.j0 k a1 bt183.1 bt183.2 bt185.1 bt185.2 true)) else (packhorselaw03_DayNext.j0 k a1 bt183.1 bt183.2 bt185.1 bt185.2 true))))) = some r := H
      have A7 := Aside0.mk A70
      clear A70
      replace H := Option.bind_eq_some_iff.mp H
      obtain ⟨⟨t181, t182⟩, A80, H⟩ := H
      replace H : ((day_Of.f a1).bind fun bt183 => ((day_End.f a1).bind fun bt185 => (if t179 = t181 then (if t180 = t182 then ((day_Right.f a1).bind fun t187 => ((packhorseref03_Right.f a1).bind fun t188 => (packhorselaw03_DayNext.j0 k a1 bt183.1 bt183.2 bt185.1 bt185.2 (t187 != t188)))) else (packhorselaw03_DayNext.j0 k a1 bt183.1 bt183.2 bt185.1 bt185.2 true)) else (packhorselaw03_DayNext.j0 k a1 bt183.1 bt183.2 bt185.1 bt185.2 true)))) = some r := H
      have A8 := Aside0.mk A80
      clear A80
      replace H := Option.bind_eq_some_iff.mp H
      obtain ⟨⟨t183, t184⟩, A90, H⟩ := H
      replace H : ((day_End.f a1).bind fun bt185 => (if t179 = t181 then (if t180 = t182 then ((day_Right.f a1).bind fun t187 => ((packhorseref03_Right.f a1).bind fun t188 => (packhorselaw03_DayNext.j0 k a1 t183 t184 bt185.1 bt185.2 (t187 != t188)))) else (packhorselaw03_DayNext.j0 k a1 t183 t184 bt185.1 bt185.2 true)) else (packhorselaw03_DayNext.j0 k a1 t183 t184 bt185.1 bt185.2 true))) = some r := H
      have A9 := Aside0.mk A90
      clear A90
      replace H := Option.bind_eq_some_iff.mp H
      obtain ⟨⟨t185, t186⟩, A100, H⟩ := H
      replace H : (if t179 = t181 then (if t180 = t182 then ((day_Right.f a1).bind fun t187 => ((packhorseref03_Right.f a1).bind fun t188 => (packhorselaw03_DayNext.j0 k a1 t183 t184 t185 t186 (t187 != t188)))) else (packhorselaw03_DayNext.j0 k a1 t183 t184 t185 t186 true)) else (packhorselaw03_DayNext.j0 k a1 t183 t184 t185 t186 true)) = some r := H
      have A10 := Aside0.mk A100
      clear A100
      have HC11 := Aside0.mk H
      clear H
      go_enter Try.func4, Try.ntmps4
      go_upto_region 9 with (first | ((with_reducible refine gate_callee (f := 9) rfl ?_); refine goesL_ (some 14) rfl rfl Try.func9 (by kernel_rfl) rfl #[] rfl (by (try simp only [List.map_toArray, List.map_cons, List.map_nil]); first | done | rfl | (simp only [List.length_drop, List.length_take]; rfl)) ?_; (with_reducible refine (packhorselaw03_dayAlive.calls k  true _ A3.out).mono ?_); rintro e w12 ⟨rfl, hb⟩; refine ⟨_, rfl, ?_⟩; have n0_ := Aside0.mk (below_step (by repeat (first | (with_reducible first | exact HB.out | apply below_alloc | apply pw_below_drewN | apply below_drew1) | exact HB.out)) hb); clear HB; have HB := n0_; clear n0_; (try clear hb); (try clear hb2); (try clear hk); (try clear hi)) | ((with_reducible refine gate_callee (f := 13) rfl ?_); refine goesL_ (some 22) rfl rfl Try.func13 (by kernel_rfl) rfl #[.slice A0 l0.length c0, .int .i64 a1] rfl (by (try simp only [List.map_toArray, List.map_cons, List.map_nil]); first | done | rfl | (simp only [List.length_drop, List.length_take]; rfl)) ?_; (with_reducible refine (day_Next.calls k _ _ l0 a1 t179 t180 _ ?side1 ?side2 A7.out).mono ?_); (case side1 => repeat (first | exact (Kd.C_below HR0.out HB.out) | (with_reducible refine Kd.C_alloc ?_ _) | (with_reducible refine Kd.C_drewN ?_ _) | (with_reducible refine Kd.C_drew ?_))); (case side2 => exact HC0.out); rintro e w13 ⟨rfl, hb⟩; refine ⟨_, rfl, ?_⟩; have n0_ := Aside0.mk (below_step (by repeat (first | (with_reducible first | exact HB.out | apply below_alloc | apply pw_below_drewN | apply below_drew1) | exact HB.out)) hb); clear HB; have HB := n0_; clear n0_; (try clear hb); (try clear hb2); (try clear hk); (try clear hi)) | ((with_reducible refine gate_callee (f := 14) rfl ?_); refine goesL_ (some 28) rfl rfl Try.func14 (by kernel_rfl) rfl #[.slice A0 l0.length c0, .int .i64 a1] rfl (by (try simp only [List.map_toArray, List.map_cons, List.map_nil]); first | done | rfl | (simp only [List.length_drop, List.length_take]; rfl)) ?_; (with_reducible refine (packhorseref03_Next.calls k _ _ l0 a1 t181 t182 _ ?side1 ?side2 A8.out).mono ?_); (case side1 => repeat (first | exact (Kd.C_below HR0.out HB.out) | (with_reducible refine Kd.C_alloc ?_ _) | (with_reducible refine Kd.C_drewN ?_ _) | (with_reducible refine Kd.C_drew ?_))); (case side2 => exact HC0.out); rintro e w' ⟨rfl, ⟨nd, rfl⟩⟩; refine ⟨_, rfl, ?_⟩) | ((with_reducible refine gate_callee (f := 15) rfl ?_); refine goesL_ (some 33) rfl rfl Try.func15 (by kernel_rfl) rfl #[.int .i64 a1] rfl (by (try simp only [List.map_toArray, List.map_cons, List.map_nil]); first | done | rfl | (simp only [List.length_drop, List.length_take]; rfl)) ?_; (with_reducible refine (day_Of.calls a1 t183 t184 _ A9.out).mono ?_); rintro e w' ⟨rfl, ⟨nd, rfl⟩⟩; refine ⟨_, rfl, ?_⟩) | ((with_reducible refine gate_callee (f := 16) rfl ?_); refine goesL_ (some 38) rfl rfl Try.func16 (by kernel_rfl) rfl #[.int .i64 a1] rfl (by (try simp only [List.map_toArray, List.map_cons, List.map_nil]); first | done | rfl | (simp only [List.length_drop, List.length_take]; rfl)) ?_; (with_reducible refine (day_End.calls a1 t185 t186 _ A10.out).mono ?_); rintro e w' ⟨rfl, ⟨nd, rfl⟩⟩; refine ⟨_, rfl, ?_⟩))
      (try simp only [Act.put, List.setIfInBounds_toArray, List.set_cons_zero, List.set_cons_succ])
      go_cut [55] (fun v55 wc => ∃ (kq : Nat) (x55_10 : Bool), v55 = .bool x55_10 ∧ Aside0 (packhorselaw03_DayNext.j0 kq a1 t183 t184 t185 t186 x55_10 = some r) ∧ Aside0 (kq ≤ k) ∧ Aside0 (Below w.heap.size w wc))
      case first =>
        have H := HC11.out
        clear HC11
        by_cases c14 : t179 = t181
        · rw [if_pos c14] at H
          have c14b0 : (t179 == t181) = true := beq_iff_eq.mpr c14
          have c14b1 : (t179 != t181) = false := bne_eq_false_iff_eq.mpr c14
          clear c14
          (first | rw [c14b0] | (simp only [i64_w, i32_w]; rw [c14b0]) | skip)
          by_cases c15 : t180 = t182
          · rw [if_pos c15] at H
            have c15b0 : (t180 == t182) = true := beq_iff_eq.mpr c15
            have c15b1 : (t180 != t182) = false := bne_eq_false_iff_eq.mpr c15
            clear c15
            replace H := Option.bind_eq_some_iff.mp H
            obtain ⟨t187, A160, H⟩ := H
            replace H : ((packhorseref03_Right.f a1).bind fun t188 => (packhorselaw03_DayNext.j0 k a1 t183 t184 t185 t186 (t187 != t188))) = some r := H
            have A16 := Aside0.mk A160
            clear A160
            replace H := Option.bind_eq_some_iff.mp H
            obtain ⟨t188, A170, H⟩ := H
            replace H : (packhorselaw03_DayNext.j0 k a1 t183 t184 t185 t186 (t187 != t188)) = some r := H
            have A17 := Aside0.mk A170
            clear A170
            have H' := Aside0.mk H
            clear H
            go_wp2_with (first | (go_at_call 17; (with_reducible refine (day_Right.calls a1 t187 _ A16.out).mono ?_); rintro e w' ⟨rfl, ⟨nd, rfl⟩⟩) | (go_at_call 18; (with_reducible refine (packhorseref03_Right.calls a1 t188 _ A17.out).mono ?_); rintro e w' ⟨rfl, ⟨nd, rfl⟩⟩))
            go_meet
            case rel => exact ⟨_, ((t187 != t188)), (by first | rfl | (simp; done) | (simp [*]; done)), H', ⟨by first | omega | exact Nat.le_refl _⟩, ⟨by repeat (first | (with_reducible first | exact HB.out | apply below_alloc | apply pw_below_drewN | apply below_drew1) | exact HB.out)⟩⟩
          · rw [if_neg c15] at H
            have c15b0 : (t180 == t182) = false := beq_eq_false_iff_ne.mpr c15
            have c15b1 : (t180 != t182) = true := bne_iff_ne.mpr c15
            have H' := Aside0.mk H
            clear H
            go_wp2
            go_meet
            case rel => exact ⟨_, (true), (by first | rfl | (simp; done) | (simp [*]; done)), H', ⟨by first | omega | exact Nat.le_refl _⟩, ⟨by repeat (first | (with_reducible first | exact HB.out | apply below_alloc | apply pw_below_drewN | apply below_drew1) | exact HB.out)⟩⟩
        · rw [if_neg c14] at H
          have c14b0 : (t179 == t181) = false := beq_eq_false_iff_ne.mpr c14
          have c14b1 : (t179 != t181) = true := bne_iff_ne.mpr c14
          (first | rw [c14b0] | (simp only [i64_w, i32_w]; rw [c14b0]) | skip)
          have H' := Aside0.mk H
          clear H
          go_wp2
          go_meet
          case rel => exact ⟨_, (true), (by first | rfl | (simp; done) | (simp [*]; done)), H', ⟨by first | omega | exact Nat.le_refl _⟩, ⟨by repeat (first | (with_reducible first | exact HB.out | apply below_alloc | apply pw_below_drewN | apply below_drew1) | exact HB.out)⟩⟩
      case rest =>
        clear HC11
        try clear c1
        try clear p2
        try clear c4
        try clear c5
        try clear c5b0
        try clear c5b1
        try clear c9
        try clear c13
        try clear c14
        try clear c14b0
        try clear c14b1
        try clear c15
        try clear c15b0
        try clear c15b1
        try clear c16
        obtain ⟨kq, x55_10, rfl, HA, HJ10, HB⟩ := hcut
        cases kq with
        | zero => exact absurd HA.out (by simp [packhorselaw03_DayNext.j0])
        | succ kj10 =>
          have H := HA.out
          clear HA
          simp only [packhorselaw03_DayNext.j0] at H
          by_cases c18 : x55_10 = true
          · subst c18
            have H1 : (some false) = some r := by rw [if_pos rfl] at H; exact H
            clear H
            have H := H1
            clear H1
            obtain rfl := Option.some.inj H
            go_wp2
            go_ret
            exact ⟨by first | rfl | (simp [errW_none, errW_some] <;> rfl) | (simp [*, errW_none, errW_some] <;> rfl), by repeat (first | (with_reducible first | exact HB.out | apply below_alloc | apply pw_below_drewN | apply below_drew1) | exact HB.out)⟩
          · replace c18 := Bool.eq_false_iff.mpr c18
            subst c18
            have H1 : ((packhorseref03_Right.f a1).bind fun t189 => (if t189 = true then (if (wrap64 (96 * (wrap64 ((wrap64 (Int.tdiv a1 96)) + 1)))) > 1099511627776 then (if t185 = 0 then (some (t186 == 31)) else (some false)) else (if t183 = (wrap64 (Int.tdiv a1 96)) then (if t184 = (Int.tmod a1 96) then (if t186 = 0 then (some (t185 == (wrap64 (96 * (wrap64 ((wrap64 (Int.tdiv a1 96)) + 1)))))) else (some false)) else (some false)) else (some false))) else (if t183 = 0 then (if t184 = 0 then (if t185 = 0 then (some (t186 == 31)) else (some false)) else (some false)) else (some false)))) = some r := by rw [if_neg (show ¬ (false = true) by decide)] at H; exact H
            clear H
            have H := H1
            clear H1
            replace H := Option.bind_eq_some_iff.mp H
            obtain ⟨t189, A190, H⟩ := H
            replace H : (if t189 = true then (if (wrap64 (96 * (wrap64 ((wrap64 (Int.tdiv a1 96)) + 1)))) > 1099511627776 then (if t185 = 0 then (some (t186 == 31)) else (some false)) else (if t183 = (wrap64 (Int.tdiv a1 96)) then (if t184 = (Int.tmod a1 96) then (if t186 = 0 then (some (t185 == (wrap64 (96 * (wrap64 ((wrap64 (Int.tdiv a1 96)) + 1)))))) else (some false)) else (some false)) else (some false))) else (if t183 = 0 then (if t184 = 0 then (if t185 = 0 then (some (t186 == 31)) else (some false)) else (some false)) else (some false))) = some r := H
            have A19 := Aside0.mk A190
            clear A190
            by_cases c20 : t189 = true
            · subst c20
              have H1 : (if (wrap64 (96 * (wrap64 ((wrap64 (Int.tdiv a1 96)) + 1)))) > 1099511627776 then (if t185 = 0 then (some (t186 == 31)) else (some false)) else (if t183 = (wrap64 (Int.tdiv a1 96)) then (if t184 = (Int.tmod a1 96) then (if t186 = 0 then (some (t185 == (wrap64 (96 * (wrap64 ((wrap64 (Int.tdiv a1 96)) + 1)))))) else (some false)) else (some false)) else (some false))) = some r := by rw [if_pos rfl] at H; exact H
              clear H
              have H := H1
              clear H1
              by_cases c21 : (wrap64 (96 * (wrap64 ((wrap64 (Int.tdiv a1 96)) + 1)))) > 1099511627776
              · rw [if_pos c21] at H
                have c21b0 : decide (1099511627776 < (wrap64 (96 * (wrap64 ((wrap64 (Int.tdiv a1 96)) + 1))))) = true := decide_eq_true c21
                clear c21
                by_cases c22 : t185 = 0
                · rw [if_pos c22] at H
                  have c22b0 : (t185 == 0) = true := beq_iff_eq.mpr c22
                  have c22b1 : (t185 != 0) = false := bne_eq_false_iff_eq.mpr c22
                  clear c22
                  obtain rfl := Option.some.inj H
                  go_wp2_with (first | ((with_reducible refine gate_callee (f := 18) rfl ?_); refine goesL_ (some 57) rfl rfl Try.func18 (by kernel_rfl) rfl #[.int .i64 a1] rfl (by (try simp only [List.map_toArray, List.map_cons, List.map_nil]); first | done | rfl | (simp only [List.length_drop, List.length_take]; rfl)) ?_; (with_reducible refine (packhorseref03_Right.calls a1 true _ A19.out).mono ?_); rintro e w' ⟨rfl, ⟨nd, rfl⟩⟩; refine ⟨_, rfl, ?_⟩))
                  go_ret
                  exact ⟨by first | rfl | (simp [errW_none, errW_some] <;> rfl) | (simp [*, errW_none, errW_some] <;> rfl), by repeat (first | (with_reducible first | exact HB.out | apply below_alloc | apply pw_below_drewN | apply below_drew1) | exact HB.out)⟩
                · rw [if_neg c22] at H
                  have c22b0 : (t185 == 0) = false := beq_eq_false_iff_ne.mpr c22
                  have c22b1 : (t185 != 0) = true := bne_iff_ne.mpr c22
                  obtain rfl := Option.some.inj H
                  go_wp2_with (first | ((with_reducible refine gate_callee (f := 18) rfl ?_); refine goesL_ (some 57) rfl rfl Try.func18 (by kernel_rfl) rfl #[.int .i64 a1] rfl (by (try simp only [List.map_toArray, List.map_cons, List.map_nil]); first | done | rfl | (simp only [List.length_drop, List.length_take]; rfl)) ?_; (with_reducible refine (packhorseref03_Right.calls a1 true _ A19.out).mono ?_); rintro e w' ⟨rfl, ⟨nd, rfl⟩⟩; refine ⟨_, rfl, ?_⟩))
                  go_ret
                  exact ⟨by first | rfl | (simp [errW_none, errW_some] <;> rfl) | (simp [*, errW_none, errW_some] <;> rfl), by repeat (first | (with_reducible first | exact HB.out | apply below_alloc | apply pw_below_drewN | apply below_drew1) | exact HB.out)⟩
              · rw [if_neg c21] at H
                have c21b0 : decide (1099511627776 < (wrap64 (96 * (wrap64 ((wrap64 (Int.tdiv a1 96)) + 1))))) = false := decide_eq_false c21
                clear c21
                by_cases c23 : t183 = (wrap64 (Int.tdiv a1 96))
                · rw [if_pos c23] at H
                  have c23b0 : (t183 == (wrap64 (Int.tdiv a1 96))) = true := beq_iff_eq.mpr c23
                  have c23b1 : (t183 != (wrap64 (Int.tdiv a1 96))) = false := bne_eq_false_iff_eq.mpr c23
                  clear c23
                  by_cases c24 : t184 = (Int.tmod a1 96)
                  · rw [if_pos c24] at H
                    have c24b0 : (t184 == (Int.tmod a1 96)) = true := beq_iff_eq.mpr c24
                    have c24b1 : (t184 != (Int.tmod a1 96)) = false := bne_eq_false_iff_eq.mpr c24
                    clear c24
                    by_cases c25 : t186 = 0
                    · rw [if_pos c25] at H
                      have c25b0 : (t186 == 0) = true := beq_iff_eq.mpr c25
                      have c25b1 : (t186 != 0) = false := bne_eq_false_iff_eq.mpr c25
                      clear c25
                      obtain rfl := Option.some.inj H
                      go_wp2_with (first | ((with_reducible refine gate_callee (f := 18) rfl ?_); refine goesL_ (some 57) rfl rfl Try.func18 (by kernel_rfl) rfl #[.int .i64 a1] rfl (by (try simp only [List.map_toArray, List.map_cons, List.map_nil]); first | done | rfl | (simp only [List.length_drop, List.length_take]; rfl)) ?_; (with_reducible refine (packhorseref03_Right.calls a1 true _ A19.out).mono ?_); rintro e w' ⟨rfl, ⟨nd, rfl⟩⟩; refine ⟨_, rfl, ?_⟩))
                      go_ret
                      exact ⟨by first | rfl | (simp [errW_none, errW_some] <;> rfl) | (simp [*, errW_none, errW_some] <;> rfl), by repeat (first | (with_reducible first | exact HB.out | apply below_alloc | apply pw_below_drewN | apply below_drew1) | exact HB.out)⟩
                    · rw [if_neg c25] at H
                      have c25b0 : (t186 == 0) = false := beq_eq_false_iff_ne.mpr c25
                      have c25b1 : (t186 != 0) = true := bne_iff_ne.mpr c25
                      obtain rfl := Option.some.inj H
                      go_wp2_with (first | ((with_reducible refine gate_callee (f := 18) rfl ?_); refine goesL_ (some 57) rfl rfl Try.func18 (by kernel_rfl) rfl #[.int .i64 a1] rfl (by (try simp only [List.map_toArray, List.map_cons, List.map_nil]); first | done | rfl | (simp only [List.length_drop, List.length_take]; rfl)) ?_; (with_reducible refine (packhorseref03_Right.calls a1 true _ A19.out).mono ?_); rintro e w' ⟨rfl, ⟨nd, rfl⟩⟩; refine ⟨_, rfl, ?_⟩))
                      go_ret
                      exact ⟨by first | rfl | (simp [errW_none, errW_some] <;> rfl) | (simp [*, errW_none, errW_some] <;> rfl), by repeat (first | (with_reducible first | exact HB.out | apply below_alloc | apply pw_below_drewN | apply below_drew1) | exact HB.out)⟩
                  · rw [if_neg c24] at H
                    have c24b0 : (t184 == (Int.tmod a1 96)) = false := beq_eq_false_iff_ne.mpr c24
                    have c24b1 : (t184 != (Int.tmod a1 96)) = true := bne_iff_ne.mpr c24
                    obtain rfl := Option.some.inj H
                    go_wp2_with (first | ((with_reducible refine gate_callee (f := 18) rfl ?_); refine goesL_ (some 57) rfl rfl Try.func18 (by kernel_rfl) rfl #[.int .i64 a1] rfl (by (try simp only [List.map_toArray, List.map_cons, List.map_nil]); first | done | rfl | (simp only [List.length_drop, List.length_take]; rfl)) ?_; (with_reducible refine (packhorseref03_Right.calls a1 true _ A19.out).mono ?_); rintro e w' ⟨rfl, ⟨nd, rfl⟩⟩; refine ⟨_, rfl, ?_⟩))
                    go_ret
                    exact ⟨by first | rfl | (simp [errW_none, errW_some] <;> rfl) | (simp [*, errW_none, errW_some] <;> rfl), by repeat (first | (with_reducible first | exact HB.out | apply below_alloc | apply pw_below_drewN | apply below_drew1) | exact HB.out)⟩
                · rw [if_neg c23] at H
                  have c23b0 : (t183 == (wrap64 (Int.tdiv a1 96))) = false := beq_eq_false_iff_ne.mpr c23
                  have c23b1 : (t183 != (wrap64 (Int.tdiv a1 96))) = true := bne_iff_ne.mpr c23
                  obtain rfl := Option.some.inj H
                  go_wp2_with (first | ((with_reducible refine gate_callee (f := 18) rfl ?_); refine goesL_ (some 57) rfl rfl Try.func18 (by kernel_rfl) rfl #[.int .i64 a1] rfl (by (try simp only [List.map_toArray, List.map_cons, List.map_nil]); first | done | rfl | (simp only [List.length_drop, List.length_take]; rfl)) ?_; (with_reducible refine (packhorseref03_Right.calls a1 true _ A19.out).mono ?_); rintro e w' ⟨rfl, ⟨nd, rfl⟩⟩; refine ⟨_, rfl, ?_⟩))
                  go_ret
                  exact ⟨by first | rfl | (simp [errW_none, errW_some] <;> rfl) | (simp [*, errW_none, errW_some] <;> rfl), by repeat (first | (with_reducible first | exact HB.out | apply below_alloc | apply pw_below_drewN | apply below_drew1) | exact HB.out)⟩
            · replace c20 := Bool.eq_false_iff.mpr c20
              subst c20
              have H1 : (if t183 = 0 then (if t184 = 0 then (if t185 = 0 then (some (t186 == 31)) else (some false)) else (some false)) else (some false)) = some r := by rw [if_neg (show ¬ (false = true) by decide)] at H; exact H
              clear H
              have H := H1
              clear H1
              by_cases c26 : t183 = 0
              · rw [if_pos c26] at H
                have c26b0 : (t183 == 0) = true := beq_iff_eq.mpr c26
                have c26b1 : (t183 != 0) = false := bne_eq_false_iff_eq.mpr c26
                clear c26
                by_cases c27 : t184 = 0
                · rw [if_pos c27] at H
                  have c27b0 : (t184 == 0) = true := beq_iff_eq.mpr c27
                  have c27b1 : (t184 != 0) = false := bne_eq_false_iff_eq.mpr c27
                  clear c27
                  by_cases c28 : t185 = 0
                  · rw [if_pos c28] at H
                    have c28b0 : (t185 == 0) = true := beq_iff_eq.mpr c28
                    have c28b1 : (t185 != 0) = false := bne_eq_false_iff_eq.mpr c28
                    clear c28
                    obtain rfl := Option.some.inj H
                    go_wp2_with (first | ((with_reducible refine gate_callee (f := 18) rfl ?_); refine goesL_ (some 57) rfl rfl Try.func18 (by kernel_rfl) rfl #[.int .i64 a1] rfl (by (try simp only [List.map_toArray, List.map_cons, List.map_nil]); first | done | rfl | (simp only [List.length_drop, List.length_take]; rfl)) ?_; (with_reducible refine (packhorseref03_Right.calls a1 false _ A19.out).mono ?_); rintro e w' ⟨rfl, ⟨nd, rfl⟩⟩; refine ⟨_, rfl, ?_⟩))
                    go_ret
                    exact ⟨by first | rfl | (simp [errW_none, errW_some] <;> rfl) | (simp [*, errW_none, errW_some] <;> rfl), by repeat (first | (with_reducible first | exact HB.out | apply below_alloc | apply pw_below_drewN | apply below_drew1) | exact HB.out)⟩
                  · rw [if_neg c28] at H
                    have c28b0 : (t185 == 0) = false := beq_eq_false_iff_ne.mpr c28
                    have c28b1 : (t185 != 0) = true := bne_iff_ne.mpr c28
                    obtain rfl := Option.some.inj H
                    go_wp2_with (first | ((with_reducible refine gate_callee (f := 18) rfl ?_); refine goesL_ (some 57) rfl rfl Try.func18 (by kernel_rfl) rfl #[.int .i64 a1] rfl (by (try simp only [List.map_toArray, List.map_cons, List.map_nil]); first | done | rfl | (simp only [List.length_drop, List.length_take]; rfl)) ?_; (with_reducible refine (packhorseref03_Right.calls a1 false _ A19.out).mono ?_); rintro e w' ⟨rfl, ⟨nd, rfl⟩⟩; refine ⟨_, rfl, ?_⟩))
                    go_ret
                    exact ⟨by first | rfl | (simp [errW_none, errW_some] <;> rfl) | (simp [*, errW_none, errW_some] <;> rfl), by repeat (first | (with_reducible first | exact HB.out | apply below_alloc | apply pw_below_drewN | apply below_drew1) | exact HB.out)⟩
                · rw [if_neg c27] at H
                  have c27b0 : (t184 == 0) = false := beq_eq_false_iff_ne.mpr c27
                  have c27b1 : (t184 != 0) = true := bne_iff_ne.mpr c27
                  obtain rfl := Option.some.inj H
                  go_wp2_with (first | ((with_reducible refine gate_callee (f := 18) rfl ?_); refine goesL_ (some 57) rfl rfl Try.func18 (by kernel_rfl) rfl #[.int .i64 a1] rfl (by (try simp only [List.map_toArray, List.map_cons, List.map_nil]); first | done | rfl | (simp only [List.length_drop, List.length_take]; rfl)) ?_; (with_reducible refine (packhorseref03_Right.calls a1 false _ A19.out).mono ?_); rintro e w' ⟨rfl, ⟨nd, rfl⟩⟩; refine ⟨_, rfl, ?_⟩))
                  go_ret
                  exact ⟨by first | rfl | (simp [errW_none, errW_some] <;> rfl) | (simp [*, errW_none, errW_some] <;> rfl), by repeat (first | (with_reducible first | exact HB.out | apply below_alloc | apply pw_below_drewN | apply below_drew1) | exact HB.out)⟩
              · rw [if_neg c26] at H
                have c26b0 : (t183 == 0) = false := beq_eq_false_iff_ne.mpr c26
                have c26b1 : (t183 != 0) = true := bne_iff_ne.mpr c26
                obtain rfl := Option.some.inj H
                go_wp2_with (first | ((with_reducible refine gate_callee (f := 18) rfl ?_); refine goesL_ (some 57) rfl rfl Try.func18 (by kernel_rfl) rfl #[.int .i64 a1] rfl (by (try simp only [List.map_toArray, List.map_cons, List.map_nil]); first | done | rfl | (simp only [List.length_drop, List.length_take]; rfl)) ?_; (with_reducible refine (packhorseref03_Right.calls a1 false _ A19.out).mono ?_); rintro e w' ⟨rfl, ⟨nd, rfl⟩⟩; refine ⟨_, rfl, ?_⟩))
                go_ret
                exact ⟨by first | rfl | (simp [errW_none, errW_some] <;> rfl) | (simp [*, errW_none, errW_some] <;> rfl), by repeat (first | (with_reducible first | exact HB.out | apply below_alloc | apply pw_below_drewN | apply below_drew1) | exact HB.out)⟩
  · replace c4 := Bool.eq_false_iff.mpr c4
    subst c4
    have H1 : (some false) = some r := by rw [if_neg (show ¬ (false = true) by decide)] at H; exact H
    clear H
    have H := H1
    clear H1
    obtain rfl := Option.some.inj H
    go_enter Try.func4, Try.ntmps4
    go_wp2_with (first | ((with_reducible refine gate_callee (f := 9) rfl ?_); refine goesL_ (some 14) rfl rfl Try.func9 (by kernel_rfl) rfl #[] rfl (by (try simp only [List.map_toArray, List.map_cons, List.map_nil]); first | done | rfl | (simp only [List.length_drop, List.length_take]; rfl)) ?_; (with_reducible refine (packhorselaw03_dayAlive.calls k  false _ A3.out).mono ?_); rintro e w29 ⟨rfl, hb⟩; refine ⟨_, rfl, ?_⟩; have n0_ := Aside0.mk (below_step (by repeat (first | (with_reducible first | exact HB.out | apply below_alloc | apply pw_below_drewN | apply below_drew1) | exact HB.out)) hb); clear HB; have HB := n0_; clear n0_; (try clear hb); (try clear hb2); (try clear hk); (try clear hi)))
    go_ret
    exact ⟨by first | rfl | (simp [errW_none, errW_some] <;> rfl) | (simp [*, errW_none, errW_some] <;> rfl), by repeat (first | (with_reducible first | exact HB.out | apply below_alloc | apply pw_below_drewN | apply below_drew1) | exact HB.out)⟩

/-- THE ONE PURE STATEMENT of packhorselaw03_DayNext: yours. -/
def packhorselaw03_DayNext.Pure : Prop := ∀ (l0 : List Int) (a1 : Int), l0.length ≤ maxLen → l0.length * 8 ≤ 140737488351232 → (∀ x ∈ l0, (Lit.int .i64 x).wf = true) → (Lit.int .i64 a1).wf = true → ∃ k, packhorselaw03_DayNext.f k l0 a1 = some true
theorem packhorselaw03_DayNext.walk (P : packhorselaw03_DayNext.Pure) (a0 : Option Addr) (len0 cap0 : Nat) (z0 : List Int) (a1 : Int) (w : World) (w0 : (a0 = none ∧ len0 = 0 ∧ cap0 = 0 ∧ z0 = []) ∨ ∃ x, a0 = some x ∧ len0 ≤ cap0 ∧ cap0 ≤ maxLen ∧ z0.length = cap0 ∧ (∀ i, i < z0.length → w.cell? (x.add i) = some (.int .i64 (z0.getD i 0))) ∧ ∀ n ∈ z0, (Lit.int .i64 n).wf = true) (y0 : len0 * 8 ≤ 140737488351232) (w1 : (Lit.int .i64 a1).wf = true) :
    Calls Try.prog 4 #[.slice a0 len0 cap0, .int .i64 a1] w fun e w' => e = .returned (.bool true) ∧ Below w.heap.size w w' := by
  obtain ⟨l0, rfl, hr0, hm0, hw0, hc0⟩ := ReadsInt.ofRowC w0
  obtain ⟨k, h⟩ := P l0 a1 hm0 y0 hw0 w1
  refine (packhorselaw03_DayNext.calls k _ _ l0 a1 true w (Kd.C_of_reads (d := (0 : Int)) (h1 := fun _ => rfl) hr0) hc0 h).mono ?_
  rintro e w' ⟨rfl, hd⟩
  exact ⟨rfl, hd⟩

end Go.Proofs.Ytecomenbmdembaa.Pd
