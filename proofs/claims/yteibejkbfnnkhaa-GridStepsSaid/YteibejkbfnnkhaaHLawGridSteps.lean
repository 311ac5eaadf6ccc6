/- The row of the statement GridSteps, out of its Pure and the contract of the law; made by a program of this session. -/
import Derived.Test.YteibejkbfnnkhaaRows
import Derived.Test.YteibejkbfnnkhaaHx9
import Derived.Test.YteibejkbfnnkhaaHPureGridSteps
import Derived.Test.YteibejkbfnnkhaaOpens
import Derived.WalkKit
import Derived.ProofKit
import Derived.OpenShut
import Derived.ShutString
import Derived.ChangeOld
import Derived.Below
import Derived.SizedLaws
namespace Go.Proofs.Yteibejkbfnnkhaa.gridSteps
open Go.ChangeShapes Go.WideShapes Go.ChangeAt Go.RowKit Go.Proofs.YteibejkbfnnkhaaOpen Go.Proofs.YteibejkbfnnkhaaW.PrintWords Go.Proofs.Yteibejkbfnnkhaa.H
open Go.ChangeMaps (open_string shut_string)
set_option linter.unusedVariables false
theorem own : ownKnob Try.prog.godebug = none := by kernel_rfl
theorem laidOut : laidOutB Try.prog = true := by kernel_rfl
theorem opens_27 : Opens Try.prog 27 k27 (fun y_ => (InK .i16 y_.f0 ∧ InK .i16 y_.f1)) := by
  intro H enc w base spare held fuel cs x h
  obtain ⟨xs, n, _, rfl, hl, hlen, hf⟩ := DataW.trod_array Try.underlying27 h
  have hz : Try.prog.cellsOf 27 = 2 := by kernel_rfl
  rw [hz] at hl
  have g0 := hf 0 (by decide)
  have g1 := hf 1 (by decide)
  match xs, hlen with
  | [x0, x1], _ =>
    have g0 : DataW.trod enc Try.prog w base spare held n 26 ((cs.drop 0).take 1) = some x0 := g0
    obtain ⟨y0, k0_, q0⟩ := (opens_int Try.underlying26) enc w base spare held n _ _ g0
    have g1 : DataW.trod enc Try.prog w base spare held n 26 ((cs.drop 1).take 1) = some x1 := g1
    obtain ⟨y1, k1_, q1⟩ := (opens_int Try.underlying26) enc w base spare held n _ _ g1
    exact ⟨⟨y0, y1⟩, ⟨_, _, cutQ cs 0 1, k0_, (by show ((Kd.int .i16)).K w y1 (cs.drop 1); rw [cutQ_last cs 1 1 (by omega)]; exact k1_)⟩, q0, q1⟩

set_option maxRecDepth 100000 in
theorem lifted (os : Os) (started : os.Started) (H : Type) (enc : TypeId × Value → H) :
    ReturnsInHanded {} Try.checked os 4 .any (Rows.gridStepsSpec.pre6 enc Try.prog Try.f4 Rows.gridStepsRow.domain false) (Rows.gridStepsSpec.post enc Try.prog Try.f4 false true false false) := by
  refine returnsInHanded_of_change_sized (C := Try.checked) own started (by kernel_rfl) Try.func4
    (ChangeSpec.witness6 (enc := enc) (C := Try.checked) false ⟨#[], #[.int .u16 0, .int .u16 0, .agg #[.int .i16 0, .int .i16 0]], []⟩ 8 (by kernel_rfl) (by kernel_rfl) (by kernel_rfl) (by kernel_rfl)) ?_
  intro W base args ds gs before hval0 hW hcnd hsz0 _
  have hval : ∀ (j : Nat) t v, Try.f4.params[j]? = some t → args[j]? = some v → Value.okWide Try.prog W .any base t v := hval0
  have hW' := hW
  obtain ⟨p, q, hA0, hV, rfl, hfz, hnd⟩ := hW
  have hA : DataW.TrodAll enc Try.prog W 0 (fun _ => true) true Try.f4.params.toList args.toList ds p := hA0
  rw [Try.params4] at hA hval
  obtain ⟨v0, vs0, d0, ds0, p0, q0, hargs, rfl, rfl, h0, r0⟩ := trodAll_cons hA
  obtain ⟨v1, vs1, d1, ds1, p1, q1, rfl, rfl, rfl, h1, r1⟩ := trodAll_cons r0
  obtain ⟨v2, vs2, d2, ds2, p2, q2, rfl, rfl, rfl, h2, r2⟩ := trodAll_cons r1
  obtain ⟨rfl, rfl, rfl⟩ := trodAll_nil r2
  obtain rfl : args = #[v0, v1, v2] := by cases args; simp_all
  obtain ⟨rfl, rfl⟩ := trodVars_none hV
  have k0 := h0
  have lt0 : ∀ x ∈ p0, x.block < W.heap.size := by obtain ⟨m, hm⟩ := k0; exact DataW.trod_lt m _ _ _ hm
  obtain ⟨fuel0, hf0⟩ := h0
  obtain ⟨y0, ky0, gy0⟩ := (opens_int Try.underlying25) enc W 0 (fun _ => true) true fuel0 _ _ hf0
  obtain ⟨a0_, rfl, _, _, w0⟩ := open_int Try.underlying25 (hval 0 25 v0 rfl rfl) k0
  obtain rfl : a0_ = y0 := by have e_ : [_] = [_] := ky0; simpa using e_
  have k1 := h1
  have lt1 : ∀ x ∈ p1, x.block < W.heap.size := by obtain ⟨m, hm⟩ := k1; exact DataW.trod_lt m _ _ _ hm
  obtain ⟨fuel1, hf1⟩ := h1
  obtain ⟨y1, ky1, gy1⟩ := (opens_int Try.underlying25) enc W 0 (fun _ => true) true fuel1 _ _ hf1
  obtain ⟨a1_, rfl, _, _, w1⟩ := open_int Try.underlying25 (hval 1 25 v1 rfl rfl) k1
  obtain rfl : a1_ = y1 := by have e_ : [_] = [_] := ky1; simpa using e_
  have k2 := h2
  have lt2 : ∀ x ∈ p2, x.block < W.heap.size := by obtain ⟨m, hm⟩ := k2; exact DataW.trod_lt m _ _ _ hm
  obtain ⟨fuel2, hf2⟩ := h2
  obtain ⟨y2, ky2, gy2⟩ := opens_27 enc W 0 (fun _ => true) true fuel2 _ _ hf2
  obtain ⟨cs2, rfl⟩ := wide_agg (hval 2 27 v2 rfl rfl) (by rw [Try.underlying27])
  obtain hc2 := k27_open ky2
  obtain rfl := agg_list hc2
  clear hA0 hval0 hsz0
  obtain ⟨k, hk⟩ := Pure.GridSteps a0_ a1_ y2.f0 y2.f1 gy0 gy1 gy2
  refine (fleuronlaw21_GridSteps.calls k a0_ a1_ y2.f0 y2.f1 true W  hk).mono fun e W' ⟨he, bel⟩ => ?_
  subst he
  exact ⟨_, rfl, _, _, _, [], _, [], hW', trodAll_mk1 (shut_bool Try.underlying4 _), (trodAll_cons_mk (Below.trod laidOut (by kernel_rfl) (of_decide_eq_true (by kernel_rfl)) k0 bel lt0) (trodAll_cons_mk (Below.trod laidOut (by kernel_rfl) (of_decide_eq_true (by kernel_rfl)) k1 bel lt1) (trodAll_cons_mk (Below.trod laidOut (by kernel_rfl) (of_decide_eq_true (by kernel_rfl)) k2 bel lt2) trodAll_mk0))), rfl, bel.frame _, fun h => by cases h⟩
theorem over : Rows.gridStepsRow.holds Try.pinned (OpenSpec.ofChange Rows.gridStepsSpec) :=
  OpenClaim.holds_of_wide 4 Try.f4 rfl rfl rfl rfl rfl rfl rfl ⟨rfl, rfl, rfl, rfl, rfl⟩ rfl rfl rfl rfl rfl (by kernel_rfl) Try.func4 (by kernel_rfl)
    (of_decide_eq_true (by kernel_rfl)) (by unfold Func.isWrapper; first | (rw [if_pos (by decide +kernel)]; kernel_rfl) | (rw [if_neg (by decide +kernel)]; exact ⟨rfl, rfl⟩))
    (fun os started H enc _ => lifted os started H enc)
theorem proved : Rows.GridStepsSaid := over
end Go.Proofs.Yteibejkbfnnkhaa.gridSteps
namespace Go.Proofs.Yteibejkbfnnkhaa
/-- The row, under a short name, for the claim. -/
theorem gridSteps_holds : Rows.GridStepsSaid := gridSteps.proved
#print axioms gridSteps_holds
end Go.Proofs.Yteibejkbfnnkhaa
