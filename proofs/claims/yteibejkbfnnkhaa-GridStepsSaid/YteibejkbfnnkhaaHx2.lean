/- What the Go functions of this seat compute, as Lean functions, each with the proof that the call answers so; made by a program of this session. -/
import Derived.Test.YteibejkbfnnkhaaHx0
import Derived.WalkKit
import Derived.Laws.Externs
import Derived.Lib.Hide
namespace Go.Proofs.Yteibejkbfnnkhaa.H
open Go.RowKit Go.Proofs.YteibejkbfnnkhaaW.PrintWords Go.Proofs.YteibejkbfnnkhaaW.PrintLast Go.Proofs.YteibejkbfnnkhaaW.PrintMore
attribute [local go_sem] max2_int min2_int max_two min_two max_three min_three max_four min_four   -- for this text's walks alone
set_option linter.unusedVariables false
set_option linter.unusedSimpArgs false

/-! ### ratio_wide_plus: function 18 -/
def two64 : Int := 18446744073709551616
def ratio_wide_plus.f (a0_0 : Int) (a0_1 : Int) (a1_0 : Int) (a1_1 : Int) : Option (Int × Int) :=
  if (0 ≤ a0_0 ∧ 0 ≤ a0_1 ∧ 0 ≤ a1_0 ∧ 0 ≤ a1_1) ∧ a0_1 < two64 ∧ a1_1 < two64 then some ((a0_0 + a1_0 + (a0_1 + a1_1) / two64) % two64, (a0_1 + a1_1) % two64) else none
theorem run_add64_at (x y c : Int) (hx : 0 ≤ x) (hy : 0 ≤ y) (hc0 : 0 ≤ c) (hc : c ≤ 1) (w : World) :
    (callFunc 28 #[.int .u64 x, .int .u64 y, .int .u64 c]).run Try.prog w = .ok (.value (.tuple #[.int .u64 ((x + y + c) % two64), .int .u64 ((x + y + c) / two64)])) w := by
  rw [run_callFunc_extern Try.func28 (by kernel_rfl) (by kernel_rfl) (by kernel_rfl) (e := add64Entry) (by kernel_rfl), run_add64 x y c hx hy hc0 hc]
  rfl
set_option maxRecDepth 100000 in
set_option maxHeartbeats 2000000 in
theorem ratio_wide_plus.calls (a0_0 : Int) (a0_1 : Int) (a1_0 : Int) (a1_1 : Int) (r1 : Int) (r2 : Int) (w : World) (h : ratio_wide_plus.f a0_0 a0_1 a1_0 a1_1 = some (r1, r2)) :
    Calls Try.prog 18 #[.agg #[.int .u64 a0_0, .int .u64 a0_1], .agg #[.int .u64 a1_0, .int .u64 a1_1]] w fun e w' => e = .returned (.agg #[.int .u64 r1, .int .u64 r2]) ∧ Below w.heap.size w w' := by
  unfold ratio_wide_plus.f at h
  split at h
  · rename_i hh
    obtain ⟨⟨h1, h2, h3, h4⟩, h5, h6⟩ := hh
    injection h with h
    injection h with e1 e2
    have hc : (a0_1 + a1_1) / two64 = 0 ∨ (a0_1 + a1_1) / two64 = 1 := by unfold two64 at *; omega
    have k1 := fun w => run_add64_at a0_1 a1_1 0 h2 h4 (by omega) (by omega) w
    have k2 := fun w => run_add64_at a0_0 a1_0 ((a0_1 + a1_1) / two64) h1 h3 (by omega) (by omega) w
    rw [Int.add_zero] at k1
    rw [e1] at k2
    rw [e2] at k1
    generalize (a0_1 + a1_1) / two64 = c at *
    generalize (a0_0 + a1_0 + c) / two64 = c2 at *
    clear e1 e2 h5 h6 h1 h2 h3 h4 hc
    go_enter Try.func18, Try.ntmps18
    go_wp2
    exact bodyPost_ret (v := .agg #[.int .u64 r1, .int .u64 r2]) (by simp [results, Try.f18, go_sem]) rfl ⟨rfl, by repeat (first | exact Below.refl _ _ | apply below_alloc | apply pw_below_drewN | apply below_drew1)⟩
  · cases h

end Go.Proofs.Yteibejkbfnnkhaa.H
