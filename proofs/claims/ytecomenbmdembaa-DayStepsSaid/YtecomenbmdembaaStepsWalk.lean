/- DaySteps: for any doors and any three ticks the law answers true: the walk of its text, and the plain law beneath it. -/
import Derived.Test.YtecomenbmdembaaPdx4
import Derived.Test.YtecomenbmdembaaDayE
namespace Go.Proofs.Ytecomenbmdembaa.Steps
open Go.RowKit Go.Proofs.Ytecomenbmdembaa.Pd Go.Proofs.YtecomenbmdembaaW.PrintWords Go.Proofs.YtecomenbmdembaaW.PrintLast Go.Proofs.YtecomenbmdembaaW.PrintMore Go.Proofs.Ytecomenbmdembaa.DayM Go.Proofs.Ytecomenbmdembaa.DayE
attribute [local go_sem] max2_int min2_int max_two min_two max_three min_three max_four min_four   -- for this text's walks alone
set_option linter.unusedVariables false
set_option linter.unusedSimpArgs false

/-- The three ticks in their block. -/
structure Three (w : World) (g : Nat) (a b c : Int) : Prop where
  lt : g < w.heap.size
  c0 : w.cell? ⟨g, 0, none⟩ = some (.int .i64 a)
  c1 : w.cell? ⟨g, 1, none⟩ = some (.int .i64 b)
  c2 : w.cell? ⟨g, 2, none⟩ = some (.int .i64 c)
theorem Three.below {w w' : World} {g : Nat} {a b c : Int} (h : Three w g a b c) (hb : Below w.heap.size w w') : Three w' g a b c :=
  ⟨Nat.lt_of_lt_of_le h.lt hb.size, (hb.cell (p := ⟨g, 0, none⟩) h.lt).trans h.c0, (hb.cell (p := ⟨g, 1, none⟩) h.lt).trans h.c1, (hb.cell (p := ⟨g, 2, none⟩) h.lt).trans h.c2⟩
theorem Three.new (w : World) (a b c : Int) (t : TypeId) : Three (w.alloc (.cells #[.int .i64 a, .int .i64 b, .int .i64 c] t)) w.heap.size a b c :=
  ⟨by simp, by simp, by simp, by simp⟩

set_option maxHeartbeats 8000000 in
set_option maxRecDepth 100000 in
/-- No doors, or ticks out of order: true at once. -/
theorem early_no (A0 : Option Addr) (c0 : Nat) (l : List Int) (a b c : Int) (w : World) (hr0 : Kd.C (Kd.int .i64) w A0 l.length l) (hc0 : l.length ≤ c0) (hl : l.length < 17592186044416) (h : ¬ DoorsOk (once l)) :
    Calls Try.prog 7 #[.slice A0 l.length c0, .agg #[.int .i64 a, .int .i64 b, .int .i64 c]] w fun e w' => e = .returned (.bool true) ∧ Below w.heap.size w w' := by
  have HA := Aside0.mk (alive_eval (l.length + 10) (by omega))
  have HD := Aside0.mk (show day_Doors.f (l.length + 10) l = some ([], 31) by rw [Doors_eval l hl _ (by omega)]; unfold doorsV; rw [if_neg h])
  have HR := Aside0.mk hr0
  have HC := Aside0.mk hc0
  clear hr0 hc0 hl h
  go_enter Try.func7, Try.ntmps7
  go_wp2_with (first
    | (go_at_call 9; refine (packhorselaw03_dayAlive.calls _ true _ HA.out).mono ?_; rintro e w1 ⟨rfl, hb1⟩; have HB1 := Aside0.mk (((Below.refl _ w).alloc (Nat.le_refl _) (.cells #[.int .i64 a, .int .i64 b, .int .i64 c] 41)).trans (hb1.mono (by simp))); clear hb1)
    | (go_at_call 10; refine (day_Doors.calls _ A0 c0 l [] 31 _ (Kd.C_below HR.out HB1.out) HC.out HD.out).mono ?_; rintro e w2 ⟨v0, rfl, _, hb2⟩; have HB2 := Aside0.mk (below_step HB1.out hb2); clear hb2))
  go_ret
  exact ⟨rfl, HB2.out⟩


set_option maxHeartbeats 8000000 in
set_option maxRecDepth 100000 in
theorem early_0 (A0 : Option Addr) (c0 : Nat) (l D : List Int) (a b c : Int) (w : World) (hr0 : Kd.C (Kd.int .i64) w A0 l.length l) (hc0 : l.length ≤ c0) (k : Nat) (ha : packhorselaw03_dayAlive.f k = some true) (hd : day_Doors.f k l = some (D, 0)) (g0 : 200 < l.length) :
    Calls Try.prog 7 #[.slice A0 l.length c0, .agg #[.int .i64 a, .int .i64 b, .int .i64 c]] w fun e w' => e = .returned (.bool true) ∧ Below w.heap.size w w' := by
  have HA := Aside0.mk ha
  have HD := Aside0.mk hd
  have HR := Aside0.mk hr0
  have HC := Aside0.mk hc0
  have f0 : decide (200 < (l.length : Int)) = true := decide_eq_true (by omega)
  have f0b : decide (200 < l.length) = true := decide_eq_true (by omega)
  clear hr0 hc0 ha hd g0
  go_enter Try.func7, Try.ntmps7
  go_wp2_with (first
    | (go_at_call 9; refine (packhorselaw03_dayAlive.calls _ true _ HA.out).mono ?_; rintro e w1 ⟨rfl, hb1⟩; have HB1 := Aside0.mk (((Below.refl _ w).alloc (Nat.le_refl _) (.cells #[.int .i64 a, .int .i64 b, .int .i64 c] 41)).trans (hb1.mono (by simp))); have H3 := (Three.new w a b c 41).below hb1; have HT1 := Aside0.mk H3; clear H3 hb1)
    | (go_at_call 10; refine (day_Doors.calls _ A0 c0 l D 0 _ (Kd.C_below HR.out HB1.out) HC.out HD.out).mono ?_; rintro e w2 ⟨v0, rfl, hR2, hb2⟩; obtain ⟨A2, c2, rfl, hl2, hC2⟩ := Kd.R_reads hR2; have HC2 := Aside0.mk hC2; have HL2 := Aside0.mk hl2; have HB2 := Aside0.mk (below_step HB1.out hb2); have HT2 := Aside0.mk (HT1.out.below hb2); have k0 := HT2.out.c0; have k1 := HT2.out.c1; have k2 := HT2.out.c2; clear hb2 hR2 hC2 hl2))
  go_ret
  exact ⟨rfl, HB2.out⟩

set_option maxHeartbeats 8000000 in
set_option maxRecDepth 100000 in
theorem early_1 (A0 : Option Addr) (c0 : Nat) (l D : List Int) (a b c : Int) (w : World) (hr0 : Kd.C (Kd.int .i64) w A0 l.length l) (hc0 : l.length ≤ c0) (k : Nat) (ha : packhorselaw03_dayAlive.f k = some true) (hd : day_Doors.f k l = some (D, 0)) (g0 : ¬ (200 < l.length)) (g1 : b < a) :
    Calls Try.prog 7 #[.slice A0 l.length c0, .agg #[.int .i64 a, .int .i64 b, .int .i64 c]] w fun e w' => e = .returned (.bool true) ∧ Below w.heap.size w w' := by
  have HA := Aside0.mk ha
  have HD := Aside0.mk hd
  have HR := Aside0.mk hr0
  have HC := Aside0.mk hc0
  have f0 : decide (200 < (l.length : Int)) = false := decide_eq_false (by omega)
  have f0b : decide (200 < l.length) = false := decide_eq_false (by omega)
  have f1 : decide (b < a) = true := decide_eq_true (by omega)
  clear hr0 hc0 ha hd g0 g1
  go_enter Try.func7, Try.ntmps7
  go_wp2_with (first
    | (go_at_call 9; refine (packhorselaw03_dayAlive.calls _ true _ HA.out).mono ?_; rintro e w1 ⟨rfl, hb1⟩; have HB1 := Aside0.mk (((Below.refl _ w).alloc (Nat.le_refl _) (.cells #[.int .i64 a, .int .i64 b, .int .i64 c] 41)).trans (hb1.mono (by simp))); have H3 := (Three.new w a b c 41).below hb1; have HT1 := Aside0.mk H3; clear H3 hb1)
    | (go_at_call 10; refine (day_Doors.calls _ A0 c0 l D 0 _ (Kd.C_below HR.out HB1.out) HC.out HD.out).mono ?_; rintro e w2 ⟨v0, rfl, hR2, hb2⟩; obtain ⟨A2, c2, rfl, hl2, hC2⟩ := Kd.R_reads hR2; have HC2 := Aside0.mk hC2; have HL2 := Aside0.mk hl2; have HB2 := Aside0.mk (below_step HB1.out hb2); have HT2 := Aside0.mk (HT1.out.below hb2); have k0 := HT2.out.c0; have k1 := HT2.out.c1; have k2 := HT2.out.c2; clear hb2 hR2 hC2 hl2))
  go_ret
  exact ⟨rfl, HB2.out⟩

set_option maxHeartbeats 8000000 in
set_option maxRecDepth 100000 in
theorem early_2 (A0 : Option Addr) (c0 : Nat) (l D : List Int) (a b c : Int) (w : World) (hr0 : Kd.C (Kd.int .i64) w A0 l.length l) (hc0 : l.length ≤ c0) (k : Nat) (ha : packhorselaw03_dayAlive.f k = some true) (hd : day_Doors.f k l = some (D, 0)) (g0 : ¬ (200 < l.length)) (g1 : ¬ (b < a)) (g2 : c < b) :
    Calls Try.prog 7 #[.slice A0 l.length c0, .agg #[.int .i64 a, .int .i64 b, .int .i64 c]] w fun e w' => e = .returned (.bool true) ∧ Below w.heap.size w w' := by
  have HA := Aside0.mk ha
  have HD := Aside0.mk hd
  have HR := Aside0.mk hr0
  have HC := Aside0.mk hc0
  have f0 : decide (200 < (l.length : Int)) = false := decide_eq_false (by omega)
  have f0b : decide (200 < l.length) = false := decide_eq_false (by omega)
  have f1 : decide (b < a) = false := decide_eq_false (by omega)
  have f2 : decide (c < b) = true := decide_eq_true (by omega)
  clear hr0 hc0 ha hd g0 g1 g2
  go_enter Try.func7, Try.ntmps7
  go_wp2_with (first
    | (go_at_call 9; refine (packhorselaw03_dayAlive.calls _ true _ HA.out).mono ?_; rintro e w1 ⟨rfl, hb1⟩; have HB1 := Aside0.mk (((Below.refl _ w).alloc (Nat.le_refl _) (.cells #[.int .i64 a, .int .i64 b, .int .i64 c] 41)).trans (hb1.mono (by simp))); have H3 := (Three.new w a b c 41).below hb1; have HT1 := Aside0.mk H3; clear H3 hb1)
    | (go_at_call 10; refine (day_Doors.calls _ A0 c0 l D 0 _ (Kd.C_below HR.out HB1.out) HC.out HD.out).mono ?_; rintro e w2 ⟨v0, rfl, hR2, hb2⟩; obtain ⟨A2, c2, rfl, hl2, hC2⟩ := Kd.R_reads hR2; have HC2 := Aside0.mk hC2; have HL2 := Aside0.mk hl2; have HB2 := Aside0.mk (below_step HB1.out hb2); have HT2 := Aside0.mk (HT1.out.below hb2); have k0 := HT2.out.c0; have k1 := HT2.out.c1; have k2 := HT2.out.c2; clear hb2 hR2 hC2 hl2))
  go_ret
  exact ⟨rfl, HB2.out⟩

set_option maxHeartbeats 8000000 in
set_option maxRecDepth 100000 in
theorem early_3 (A0 : Option Addr) (c0 : Nat) (l D : List Int) (a b c : Int) (w : World) (hr0 : Kd.C (Kd.int .i64) w A0 l.length l) (hc0 : l.length ≤ c0) (k : Nat) (ha : packhorselaw03_dayAlive.f k = some true) (hd : day_Doors.f k l = some (D, 0)) (g0 : ¬ (200 < l.length)) (g1 : ¬ (b < a)) (g2 : ¬ (c < b)) (g3 : a < 0) :
    Calls Try.prog 7 #[.slice A0 l.length c0, .agg #[.int .i64 a, .int .i64 b, .int .i64 c]] w fun e w' => e = .returned (.bool true) ∧ Below w.heap.size w w' := by
  have HA := Aside0.mk ha
  have HD := Aside0.mk hd
  have HR := Aside0.mk hr0
  have HC := Aside0.mk hc0
  have f0 : decide (200 < (l.length : Int)) = false := decide_eq_false (by omega)
  have f0b : decide (200 < l.length) = false := decide_eq_false (by omega)
  have f1 : decide (b < a) = false := decide_eq_false (by omega)
  have f2 : decide (c < b) = false := decide_eq_false (by omega)
  have f3 : decide (a < 0) = true := decide_eq_true (by omega)
  clear hr0 hc0 ha hd g0 g1 g2 g3
  go_enter Try.func7, Try.ntmps7
  go_wp2_with (first
    | (go_at_call 9; refine (packhorselaw03_dayAlive.calls _ true _ HA.out).mono ?_; rintro e w1 ⟨rfl, hb1⟩; have HB1 := Aside0.mk (((Below.refl _ w).alloc (Nat.le_refl _) (.cells #[.int .i64 a, .int .i64 b, .int .i64 c] 41)).trans (hb1.mono (by simp))); have H3 := (Three.new w a b c 41).below hb1; have HT1 := Aside0.mk H3; clear H3 hb1)
    | (go_at_call 10; refine (day_Doors.calls _ A0 c0 l D 0 _ (Kd.C_below HR.out HB1.out) HC.out HD.out).mono ?_; rintro e w2 ⟨v0, rfl, hR2, hb2⟩; obtain ⟨A2, c2, rfl, hl2, hC2⟩ := Kd.R_reads hR2; have HC2 := Aside0.mk hC2; have HL2 := Aside0.mk hl2; have HB2 := Aside0.mk (below_step HB1.out hb2); have HT2 := Aside0.mk (HT1.out.below hb2); have k0 := HT2.out.c0; have k1 := HT2.out.c1; have k2 := HT2.out.c2; clear hb2 hR2 hC2 hl2))
  go_ret
  exact ⟨rfl, HB2.out⟩

set_option maxHeartbeats 8000000 in
set_option maxRecDepth 100000 in
theorem early_4 (A0 : Option Addr) (c0 : Nat) (l D : List Int) (a b c : Int) (w : World) (hr0 : Kd.C (Kd.int .i64) w A0 l.length l) (hc0 : l.length ≤ c0) (k : Nat) (ha : packhorselaw03_dayAlive.f k = some true) (hd : day_Doors.f k l = some (D, 0)) (g0 : ¬ (200 < l.length)) (g1 : ¬ (b < a)) (g2 : ¬ (c < b)) (g3 : ¬ (a < 0)) (g4 : 549755813888 < c) :
    Calls Try.prog 7 #[.slice A0 l.length c0, .agg #[.int .i64 a, .int .i64 b, .int .i64 c]] w fun e w' => e = .returned (.bool true) ∧ Below w.heap.size w w' := by
  have HA := Aside0.mk ha
  have HD := Aside0.mk hd
  have HR := Aside0.mk hr0
  have HC := Aside0.mk hc0
  have f0 : decide (200 < (l.length : Int)) = false := decide_eq_false (by omega)
  have f0b : decide (200 < l.length) = false := decide_eq_false (by omega)
  have f1 : decide (b < a) = false := decide_eq_false (by omega)
  have f2 : decide (c < b) = false := decide_eq_false (by omega)
  have f3 : decide (a < 0) = false := decide_eq_false (by omega)
  have f4 : decide (549755813888 < c) = true := decide_eq_true (by omega)
  clear hr0 hc0 ha hd g0 g1 g2 g3 g4
  go_enter Try.func7, Try.ntmps7
  go_wp2_with (first
    | (go_at_call 9; refine (packhorselaw03_dayAlive.calls _ true _ HA.out).mono ?_; rintro e w1 ⟨rfl, hb1⟩; have HB1 := Aside0.mk (((Below.refl _ w).alloc (Nat.le_refl _) (.cells #[.int .i64 a, .int .i64 b, .int .i64 c] 41)).trans (hb1.mono (by simp))); have H3 := (Three.new w a b c 41).below hb1; have HT1 := Aside0.mk H3; clear H3 hb1)
    | (go_at_call 10; refine (day_Doors.calls _ A0 c0 l D 0 _ (Kd.C_below HR.out HB1.out) HC.out HD.out).mono ?_; rintro e w2 ⟨v0, rfl, hR2, hb2⟩; obtain ⟨A2, c2, rfl, hl2, hC2⟩ := Kd.R_reads hR2; have HC2 := Aside0.mk hC2; have HL2 := Aside0.mk hl2; have HB2 := Aside0.mk (below_step HB1.out hb2); have HT2 := Aside0.mk (HT1.out.below hb2); have k0 := HT2.out.c0; have k1 := HT2.out.c1; have k2 := HT2.out.c2; clear hb2 hR2 hC2 hl2))
  go_ret
  exact ⟨rfl, HB2.out⟩

/-- What stays behind each call. -/
structure Stands (w W : World) (g : Nat) (A2 : Option Addr) (c2 : Nat) (D : List Int) (a b c : Int) : Prop where
  below : Below w.heap.size w W
  three : Three W g a b c
  rd : Kd.C (Kd.int .i64) W A2 D.length D
  hl : D.length ≤ c2
theorem Stands.step {w W W' : World} {g : Nat} {A2 : Option Addr} {c2 : Nat} {D : List Int} {a b c : Int} (h : Stands w W g A2 c2 D a b c) (hb : Below W.heap.size W W') : Stands w W' g A2 c2 D a b c :=
  ⟨below_step h.below hb, h.three.below hb, Kd.C_below h.rd hb, h.hl⟩

set_option maxHeartbeats 8000000 in
set_option maxRecDepth 100000 in
theorem late (A0 : Option Addr) (c0 : Nat) (l D : List Int) (a b c n p1 p2 p3 : Int) (w : World) (hr0 : Kd.C (Kd.int .i64) w A0 l.length l) (hc0 : l.length ≤ c0) (k : Nat) (ha : packhorselaw03_dayAlive.f k = some true) (hd : day_Doors.f k l = some (D, 0))
    (g0 : l.length ≤ 200) (g1 : a ≤ b) (g2 : b ≤ c) (g3 : 0 ≤ a) (g4 : c ≤ 549755813888)
    (hp1 : day_Passed.f k D a b = some (p1, 0)) (hp2 : day_Passed.f k D b c = some (p2, 0)) (hp3 : day_Passed.f k D a c = some (p3, 0)) (hn : day_Next.f k D a = some (n, 0)) (hp4 : day_Passed.f k D a n = some (1, 0)) (hp5 : day_Passed.f k D a (a + 96) = some ((D.length : Int), 0))
    (hsum : p1 + p2 = p3) (hr1 : 0 ≤ p1) (hr2 : 0 ≤ p2) (hr3 : p1 + p2 ≤ 2199023255552) (hn1 : a < n) (hn2 : n ≤ a + 96) (hD : D.length ≤ 96) :
    Calls Try.prog 7 #[.slice A0 l.length c0, .agg #[.int .i64 a, .int .i64 b, .int .i64 c]] w fun e w' => e = .returned (.bool true) ∧ Below w.heap.size w w' := by
  have HA := Aside0.mk ha
  have HD := Aside0.mk hd
  have HR := Aside0.mk hr0
  have HC := Aside0.mk hc0
  have HP1 := Aside0.mk hp1
  have HP2 := Aside0.mk hp2
  have HP3 := Aside0.mk hp3
  have HP4 := Aside0.mk hp4
  have HP5 := Aside0.mk hp5
  have HN := Aside0.mk hn
  have f0 : decide (200 < (l.length : Int)) = false := decide_eq_false (by omega)
  have f0b : decide (200 < l.length) = false := decide_eq_false (by omega)
  have f1 : decide (b < a) = false := decide_eq_false (by omega)
  have f2 : decide (c < b) = false := decide_eq_false (by omega)
  have f3 : decide (a < 0) = false := decide_eq_false (by omega)
  have f4 : decide (549755813888 < c) = false := decide_eq_false (by omega)
  have f5 : (p1 + p2 == p3) = true := beq_iff_eq.mpr hsum
  have f6 : decide (a < n) = true := decide_eq_true hn1
  have f7 : decide (n ≤ a + 96) = true := decide_eq_true hn2
  have hb1 : a ≤ 549755813888 := by omega
  clear hr0 hc0 ha hd hp1 hp2 hp3 hp4 hp5 hn hsum
  go_enter Try.func7, Try.ntmps7
  go_wp2_with (first
    | (go_at_call 9; refine (packhorselaw03_dayAlive.calls _ true _ HA.out).mono ?_; rintro e w1 ⟨rfl, hb1⟩; have HB1 := Aside0.mk (((Below.refl _ w).alloc (Nat.le_refl _) (.cells #[.int .i64 a, .int .i64 b, .int .i64 c] 41)).trans (hb1.mono (by simp))); have H3 := (Three.new w a b c 41).below hb1; have HT1 := Aside0.mk H3; clear H3 hb1)
    | (go_at_call 10; refine (day_Doors.calls _ A0 c0 l D 0 _ (Kd.C_below HR.out HB1.out) HC.out HD.out).mono ?_; rintro e W2 ⟨v0, rfl, hR2, hb2⟩; obtain ⟨A2, c2, rfl, hl2, hC2⟩ := Kd.R_reads hR2; have HI := Aside0.mk (Stands.mk (below_step HB1.out hb2) (HT1.out.below hb2) hC2 hl2); have k0 := HI.out.three.c0; have k1 := HI.out.three.c1; have k2 := HI.out.three.c2; clear hb2 hR2 hC2 hl2 HT1 HB1)
    | (go_at_call 19; ((with_reducible refine (day_Passed.calls k A2 c2 D a b p1 0 _ HI.out.rd HI.out.hl HP1.out).mono ?_)); rintro e W2 ⟨rfl, hb⟩; have HJ := Aside0.mk (HI.out.step hb); clear HI k0 k1 k2 hb; have HI := HJ; clear HJ; have k0 := HI.out.three.c0; have k1 := HI.out.three.c1; have k2 := HI.out.three.c2)
    | (go_at_call 19; ((with_reducible refine (day_Passed.calls k A2 c2 D b c p2 0 _ HI.out.rd HI.out.hl HP2.out).mono ?_)); rintro e W2 ⟨rfl, hb⟩; have HJ := Aside0.mk (HI.out.step hb); clear HI k0 k1 k2 hb; have HI := HJ; clear HJ; have k0 := HI.out.three.c0; have k1 := HI.out.three.c1; have k2 := HI.out.three.c2)
    | (go_at_call 19; ((with_reducible refine (day_Passed.calls k A2 c2 D a c p3 0 _ HI.out.rd HI.out.hl HP3.out).mono ?_)); rintro e W2 ⟨rfl, hb⟩; have HJ := Aside0.mk (HI.out.step hb); clear HI k0 k1 k2 hb; have HI := HJ; clear HJ; have k0 := HI.out.three.c0; have k1 := HI.out.three.c1; have k2 := HI.out.three.c2)
    | (go_at_call 19; ((with_reducible refine (day_Passed.calls k A2 c2 D a n 1 0 _ HI.out.rd HI.out.hl HP4.out).mono ?_)); rintro e W2 ⟨rfl, hb⟩; have HJ := Aside0.mk (HI.out.step hb); clear HI k0 k1 k2 hb; have HI := HJ; clear HJ; have k0 := HI.out.three.c0; have k1 := HI.out.three.c1; have k2 := HI.out.three.c2)
    | (go_at_call 19; ((with_reducible refine (day_Passed.calls k A2 c2 D a (a + 96) (D.length : Int) 0 _ HI.out.rd HI.out.hl HP5.out).mono ?_)); rintro e W2 ⟨rfl, hb⟩; have HJ := Aside0.mk (HI.out.step hb); clear HI k0 k1 k2 hb; have HI := HJ; clear HJ; have k0 := HI.out.three.c0; have k1 := HI.out.three.c1; have k2 := HI.out.three.c2)
    | (go_at_call 13; refine (day_Next.calls k A2 c2 D a n 0 _ HI.out.rd HI.out.hl HN.out).mono ?_; rintro e W2 ⟨rfl, hb⟩; have HJ := Aside0.mk (HI.out.step hb); clear HI k0 k1 k2 hb; have HI := HJ; clear HJ; have k0 := HI.out.three.c0; have k1 := HI.out.three.c1; have k2 := HI.out.three.c2))
  go_ret
  exact ⟨rfl, HI.out.below⟩

end Go.Proofs.Ytecomenbmdembaa.Steps
