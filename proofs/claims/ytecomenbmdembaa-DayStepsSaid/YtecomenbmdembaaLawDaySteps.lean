/- For every input the law DaySteps returns true, and what it was given reads as before. -/
import Derived.Test.YtecomenbmdembaaRows
import Derived.Test.YtecomenbmdembaaStepsWalk
import Derived.WalkKit
import Derived.ProofKit
import Derived.OpenShut
import Derived.ShutString
import Derived.ChangeOld
import Derived.Below
import Derived.SizedLaws
import Derived.Laws.IdiomArrays
import Derived.Lib.SmallJoins
import Derived.Test.YtecomenbmdembaaWSized
namespace Go.Proofs.Ytecomenbmdembaa.daySteps
open Go.ChangeShapes Go.WideShapes Go.ChangeAt Go.RowKit Go.Joins
open Go.ChangeMaps (open_string shut_string)
open Go.Proofs.YtecomenbmdembaaW.PrintWords Go.Proofs.Ytecomenbmdembaa.DayM Go.Proofs.Ytecomenbmdembaa.DayE
set_option linter.unusedVariables false
theorem own : ownKnob Try.prog.godebug = none := by kernel_rfl
theorem laidOut : laidOutB Try.prog = true := by kernel_rfl
def IsRow (k : IntKind) (w : World) (a : Option Addr) (len cap : Nat) (zs : List Int) : Prop :=
  (a = none ∧ len = 0 ∧ cap = 0 ∧ zs = []) ∨
  ∃ x, a = some x ∧ len ≤ cap ∧ cap ≤ maxLen ∧ zs.length = cap ∧ (∀ i, i < zs.length → w.cell? (x.add i) = some (.int k (zs.getD i 0))) ∧ ∀ n ∈ zs, (Lit.int k n).wf = true

/-- The walk, at whatever doors and ticks. -/
theorem walk (A0 : Option Addr) (c0 : Nat) (l : List Int) (a b c : Int) (w : World) (hr0 : Kd.C (Kd.int .i64) w A0 l.length l) (hc0 : l.length ≤ c0) (hl : l.length < 17592186044416) :
    Calls Try.prog 7 #[.slice A0 l.length c0, .agg #[.int .i64 a, .int .i64 b, .int .i64 c]] w fun e w' => e = .returned (.bool true) ∧ Below w.heap.size w w' := by
  by_cases h : DoorsOk (once l)
  · have ha := alive_eval (l.length + 300) (by omega)
    have hd : Pd.day_Doors.f (l.length + 300) l = some (once l, 0) := by rw [Doors_eval l hl _ (by omega)]; unfold doorsV; rw [if_pos h]
    have hlen := ok_len h
    by_cases g0 : 200 < l.length
    · exact Steps.early_0 A0 c0 l _ a b c w hr0 hc0 _ ha hd g0
    by_cases g1 : b < a
    · exact Steps.early_1 A0 c0 l _ a b c w hr0 hc0 _ ha hd g0 g1
    by_cases g2 : c < b
    · exact Steps.early_2 A0 c0 l _ a b c w hr0 hc0 _ ha hd g0 g1 g2
    by_cases g3 : a < 0
    · exact Steps.early_3 A0 c0 l _ a b c w hr0 hc0 _ ha hd g0 g1 g2 g3
    by_cases g4 : 549755813888 < c
    · exact Steps.early_4 A0 c0 l _ a b c w hr0 hc0 _ ha hd g0 g1 g2 g3 g4
    have ra : 0 ≤ a ∧ a ≤ 1099511627776 := by omega
    have rb : 0 ≤ b ∧ b ≤ 1099511627776 := by omega
    have rc : 0 ≤ c ∧ c ≤ 1099511627776 := by omega
    obtain ⟨n1, n2, n3, _⟩ := next_spec h ra.1
    have ba := bef_range h ra
    have bb := bef_range h rb
    have bc := bef_range h rc
    have mab := bef_le h (a := a) (b := b) (by omega)
    have mbc := bef_le h (a := b) (b := c) (by omega)
    have bn := bef_next h ra.1
    have b96 := bef_96 (l := once l) (t := a)
    refine Steps.late A0 c0 l (once l) a b c (nextV (once l) a) (bef (once l) b - bef (once l) a) (bef (once l) c - bef (once l) b) (bef (once l) c - bef (once l) a) w hr0 hc0 (l.length + 300) ha hd (by omega) (by omega) (by omega) (by omega) (by omega)
      ?_ ?_ ?_ ?_ ?_ ?_ (by omega) (by omega) (by omega) (by omega) n2 n3 hlen
    · rw [Passed_eval _ (by omega) _ _ _ (by omega)]; unfold passedA; rw [if_pos ⟨h, ra, rb, by omega⟩]
    · rw [Passed_eval _ (by omega) _ _ _ (by omega)]; unfold passedA; rw [if_pos ⟨h, rb, rc, by omega⟩]
    · rw [Passed_eval _ (by omega) _ _ _ (by omega)]; unfold passedA; rw [if_pos ⟨h, ra, rc, by omega⟩]
    · rw [Next_eval _ (by omega) _ _ (by omega)]; unfold nextA; rw [if_pos ⟨h, ra, by omega⟩]
    · rw [Passed_eval _ (by omega) _ _ _ (by omega)]; unfold passedA; rw [if_pos ⟨h, ra, by omega, by omega⟩, bn, show bef (once l) a + 1 - bef (once l) a = 1 by omega]
    · rw [Passed_eval _ (by omega) _ _ _ (by omega)]; unfold passedA; rw [if_pos ⟨h, ra, by omega, by omega⟩, b96, show bef (once l) a + ((once l).length : Int) - bef (once l) a = ((once l).length : Int) by omega]
  · exact Steps.early_no A0 c0 l a b c w hr0 hc0 hl h

set_option maxRecDepth 100000 in
theorem lifted (os : Os) (started : os.Started) (H : Type) (enc : TypeId × Value → H) :
    ReturnsInHanded {} Try.checked os 7 .any (Rows.dayStepsSpec.pre6 enc Try.prog Try.f7 Rows.dayStepsRow.domain false) (Rows.dayStepsSpec.post enc Try.prog Try.f7 false true false false) := by
  refine returnsInHanded_of_change_sized (C := Try.checked) own started (by kernel_rfl) Try.func7
    (ChangeSpec.witness6 (enc := enc) (C := Try.checked) false ⟨#[], #[.slice none 0 0, .agg #[.int .i64 0, .int .i64 0, .int .i64 0]], []⟩ 8 (by kernel_rfl) (by kernel_rfl) (by kernel_rfl) (by kernel_rfl)) ?_
  intro W base args ds gs before hval0 hW hcnd hsz0 _
  have hsz : (DataW.weightsEach Try.prog (Try.f7.params.toList ++ Rows.dayStepsSpec.plain.varTypes Try.prog) (ds ++ gs)).all (· ≤ reachBytes) = true := hsz0
  have hval : ∀ (j : Nat) t v, Try.f7.params[j]? = some t → args[j]? = some v → Value.okWide Try.prog W .any base t v := hval0
  have hW' := hW
  obtain ⟨p, q, hA0, hV, rfl, hfz, hnd⟩ := hW
  have hA : DataW.TrodAll enc Try.prog W 0 (fun _ => true) true Try.f7.params.toList args.toList ds p := hA0
  rw [Try.params7] at hA hval hsz
  obtain ⟨v0, vs0, d0, ds0, p0, q0, hargs, rfl, rfl, h0, r0⟩ := trodAll_cons hA
  obtain ⟨v1, vs1, d1, ds1, p1, q1, rfl, rfl, rfl, h1, r1⟩ := trodAll_cons r0
  obtain ⟨rfl, rfl, rfl⟩ := trodAll_nil r1
  obtain rfl : args = #[v0, v1] := by cases args; simp_all
  obtain ⟨rfl, rfl⟩ := trodVars_none hV
  obtain ⟨a0, len0, cap0, rfl⟩ := okWide_slice Try.underlying22 (hval 0 22 v0 rfl rfl)
  have k0 := h0
  have lt0 : ∀ x ∈ p0, x.block < W.heap.size := by obtain ⟨m, hm⟩ := k0; exact DataW.trod_lt m _ _ _ hm
  obtain ⟨z0, w0⟩ : ∃ zs, IsRow .i64 W a0 len0 cap0 zs := by
    obtain ⟨fuel, hf⟩ := h0
    rcases open_ints Try.underlying22 Try.underlying3 (by kernel_rfl) hf with ⟨hcs, _⟩ | ⟨x, l, c, zs, hcs, _, hl, hm, hz, _, hcell, hwz⟩
    · simp [Value.cells] at hcs
      obtain ⟨rfl, rfl, rfl⟩ := hcs
      exact ⟨[], .inl ⟨rfl, rfl, rfl, rfl⟩⟩
    · simp [Value.cells] at hcs
      obtain ⟨rfl, rfl, rfl⟩ := hcs
      exact ⟨zs, .inr ⟨_, rfl, hl, hm, by simpa using hz, hcell, hwz⟩⟩
  have y0 : len0 * 8 ≤ 140737488351232 := Go.Proofs.YtecomenbmdembaaW.PrintWords.sized_ints hsz (j := 0) (t := 22) rfl rfl Try.underlying22 Try.underlying3 (by kernel_rfl) (by kernel_rfl) h0
  have k1 := h1
  have lt1 : ∀ x ∈ p1, x.block < W.heap.size := by obtain ⟨m, hm⟩ := k1; exact DataW.trod_lt m _ _ _ hm
  obtain ⟨cs, rfl, hcsz⟩ : ∃ cs, v1 = .agg cs ∧ cs.size = Try.prog.cellsOf 41 := by
    have h := hval 1 41 v1 rfl rfl
    simp only [Value.okWide, Try.underlying41] at h
    obtain ⟨cs, e1, e2, _⟩ := h
    exact ⟨cs, e1, e2⟩
  obtain ⟨c0, c1, c2, rfl⟩ := array3 (hcsz.trans (show Try.prog.cellsOf 41 = 3 by kernel_rfl))
  obtain ⟨a, b, c, rfl, rfl, rfl⟩ : ∃ a b c, c0 = .int .i64 a ∧ c1 = .int .i64 b ∧ c2 = .int .i64 c := by
    obtain ⟨fuel, hf⟩ := h1
    obtain ⟨y0, y1, y2, n, _, t0, t1, t2⟩ := trod_array3 Try.underlying41 (show Try.prog.cellsOf 2 = 1 by kernel_rfl) hf
    obtain ⟨a, e0, _, _⟩ := DataW.trod_int Try.underlying2 t0
    obtain ⟨b, e1, _, _⟩ := DataW.trod_int Try.underlying2 t1
    obtain ⟨c, e2, _, _⟩ := DataW.trod_int Try.underlying2 t2
    simp at e0 e1 e2
    exact ⟨a, b, c, e0, e1, e2⟩
  clear hA0 hval0 hsz0 hsz
  obtain ⟨l0, rfl, hr0, hm0, hw0, hc0⟩ := ReadsInt.ofRowC w0
  refine (walk _ _ l0 a b c W (Kd.C_of_reads (d := (0 : Int)) (h1 := fun _ => rfl) hr0) hc0 (by omega)).mono fun e W' ⟨he, bel⟩ => ?_
  subst he
  exact ⟨_, rfl, _, _, _, [], _, [], hW', trodAll_mk1 (shut_bool Try.underlying4 _), (trodAll_cons_mk (Below.trod laidOut (by kernel_rfl) (of_decide_eq_true (by kernel_rfl)) k0 bel lt0) (trodAll_cons_mk (Below.trod laidOut (by kernel_rfl) (of_decide_eq_true (by kernel_rfl)) k1 bel lt1) trodAll_mk0)), rfl, bel.frame _, fun h => by cases h⟩
theorem over : Rows.dayStepsRow.holds Try.pinned (OpenSpec.ofChange Rows.dayStepsSpec) :=
  OpenClaim.holds_of_wide 7 Try.f7 rfl rfl rfl rfl rfl rfl rfl ⟨rfl, rfl, rfl, rfl, rfl⟩ rfl rfl rfl rfl rfl (by kernel_rfl) Try.func7 (by kernel_rfl)
    (of_decide_eq_true (by kernel_rfl)) (by unfold Func.isWrapper; first | (rw [if_pos (by decide +kernel)]; kernel_rfl) | (rw [if_neg (by decide +kernel)]; exact ⟨rfl, rfl⟩))
    (fun os started H enc _ => lifted os started H enc)
theorem proved : Rows.DayStepsSaid := over
end Go.Proofs.Ytecomenbmdembaa.daySteps
namespace Go.Proofs.Ytecomenbmdembaa
/-- The row, under a short name, for the claim. -/
theorem daySteps_holds : Rows.DayStepsSaid := daySteps.proved
end Go.Proofs.Ytecomenbmdembaa
