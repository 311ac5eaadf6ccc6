/- What the Go functions of this seat compute, as Lean functions, each with the proof that the call answers so; made by a program of this session. -/
import Derived.Test.YteibejkbfnnkhaaHx0
import Derived.WalkKit
import Derived.Laws.Externs
import Derived.Lib.Hide
namespace Go.Proofs.Yteibejkbfnnkhaa.H
open Go.RowKit Go.Proofs.YteibejkbfnnkhaaW.PrintWords Go.Proofs.YteibejkbfnnkhaaW.PrintLast Go.Proofs.YteibejkbfnnkhaaW.PrintMore
attribute [local go_sem] max2_int min2_int max_two min_two max_three min_three max_four min_four   -- for this text's walks alone
set_option linter.unusedVariables false
set_option linter.unusedSimpArgs false

/-! ### ratio_wide_less: function 30 -/
def two64s : Int := 18446744073709551616
def ratio_wide_less.f (a0_0 : Int) (a0_1 : Int) (a1_0 : Int) (a1_1 : Int) : Option (Int × Int) :=
  if (0 ≤ a0_0 ∧ 0 ≤ a0_1 ∧ 0 ≤ a1_0 ∧ 0 ≤ a1_1) ∧ a1_0 < two64s ∧ a1_1 < two64s then some ((a0_0 - a1_0 - (if a0_1 < a1_1 then 1 else 0)) % two64s, (a0_1 - a1_1) % two64s) else none
def sub64E : Array Value → Sem Value := fun args => do
  let (x, y, b) ← Extern.MathBitsCarry.three "Sub64" args
  pure (Extern.MathBitsCarry.pair ((x + Extern.MathBitsCarry.m64 - y - b) % Extern.MathBitsCarry.m64) (if x < y + b then 1 else 0))
theorem run_sub64_at (x y b : Int) (hx : 0 ≤ x) (hy : 0 ≤ y) (hb0 : 0 ≤ b) (hb : b ≤ 1) (hy2 : y < two64s) (w : World) :
    (callFunc 36 #[.int .u64 x, .int .u64 y, .int .u64 b]).run Try.prog w = .ok (.value (.tuple #[.int .u64 ((x - y - b) % two64s), .int .u64 (if x < y + b then 1 else 0)])) w := by
  have key : ∀ k : Nat, k ≤ 1 → (sub64E #[.int .u64 x, .int .u64 y, .int .u64 (k : Int)]).run Try.prog w =
      .ok (.tuple #[.int .u64 (((x.toNat + 18446744073709551616 - y.toNat - k) % 18446744073709551616 : Nat) : Int), .int .u64 ((if x.toNat < y.toNat + k then 1 else 0 : Nat) : Int)]) w := by
    intro k hk
    have : k = 0 ∨ k = 1 := by omega
    rcases this with rfl | rfl <;> rfl
  rw [run_callFunc_extern Try.func36 (by kernel_rfl) (by kernel_rfl) (by kernel_rfl) (e := sub64E) (by kernel_rfl)]
  obtain ⟨k, rfl⟩ := Int.eq_ofNat_of_zero_le hb0
  rw [key k (by omega)]
  unfold two64s at *
  have e1 : (((x.toNat + 18446744073709551616 - y.toNat - k) % 18446744073709551616 : Nat) : Int) = (x - y - (k : Int)) % 18446744073709551616 := by omega
  have e2 : ((if x.toNat < y.toNat + k then 1 else 0 : Nat) : Int) = if x < y + (k : Int) then 1 else 0 := by
    by_cases h : x < y + (k : Int)
    · rw [if_pos h, if_pos (by omega)]; rfl
    · rw [if_neg h, if_neg (by omega)]; rfl
  rw [e1, e2]
  rfl
set_option maxRecDepth 100000 in
set_option maxHeartbeats 2000000 in
theorem ratio_wide_less.calls (a0_0 : Int) (a0_1 : Int) (a1_0 : Int) (a1_1 : Int) (r1 : Int) (r2 : Int) (w : World) (h : ratio_wide_less.f a0_0 a0_1 a1_0 a1_1 = some (r1, r2)) :
    Calls Try.prog 30 #[.agg #[.int .u64 a0_0, .int .u64 a0_1], .agg #[.int .u64 a1_0, .int .u64 a1_1]] w fun e w' => e = .returned (.agg #[.int .u64 r1, .int .u64 r2]) ∧ Below w.heap.size w w' := by
  unfold ratio_wide_less.f at h
  split at h
  · rename_i hh
    obtain ⟨⟨h1, h2, h3, h4⟩, h5, h6⟩ := hh
    injection h with h
    injection h with e1 e2
    have hc : (if a0_1 < a1_1 then (1 : Int) else 0) = 0 ∨ (if a0_1 < a1_1 then (1 : Int) else 0) = 1 := by split <;> simp
    have k1 := fun w => run_sub64_at a0_1 a1_1 0 h2 h4 (by omega) (by omega) h6 w
    have k2 := fun w => run_sub64_at a0_0 a1_0 (if a0_1 < a1_1 then 1 else 0) h1 h3 (by omega) (by omega) h5 w
    rw [Int.add_zero, Int.sub_zero] at k1
    rw [e1] at k2
    rw [e2] at k1
    generalize (if a0_1 < a1_1 then (1 : Int) else 0) = c at *
    generalize (if a0_0 < a1_0 + c then (1 : Int) else 0) = c2 at *
    clear e1 e2 h5 h6 h1 h2 h3 h4 hc
    go_enter Try.func30, Try.ntmps30
    go_wp2
    exact bodyPost_ret (v := .agg #[.int .u64 r1, .int .u64 r2]) (by simp [results, Try.f30, go_sem]) rfl ⟨rfl, by repeat (first | exact Below.refl _ _ | apply below_alloc | apply pw_below_drewN | apply below_drew1)⟩
  · cases h

end Go.Proofs.Yteibejkbfnnkhaa.H
