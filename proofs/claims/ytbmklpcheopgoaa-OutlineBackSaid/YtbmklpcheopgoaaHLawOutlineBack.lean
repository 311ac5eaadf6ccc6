/- The row of the statement OutlineBack, out of its Pure and the contract of the law; made by a program of this session. -/
import Derived.Test.YtbmklpcheopgoaaRows
import Derived.Test.YtbmklpcheopgoaaHx28
import Derived.Test.YtbmklpcheopgoaaHPureOutlineBack
import Derived.Test.YtbmklpcheopgoaaOpens
import Derived.WalkKit
import Derived.ProofKit
import Derived.OpenShut
import Derived.ShutString
import Derived.ChangeOld
import Derived.Below
import Derived.SizedLaws
namespace Go.Proofs.Ytbmklpcheopgoaa.outlineBack
open Go.ChangeShapes Go.WideShapes Go.ChangeAt Go.RowKit Go.Proofs.YtbmklpcheopgoaaOpen Go.Proofs.YtbmklpcheopgoaaW.PrintWords Go.Proofs.Ytbmklpcheopgoaa.H
open Go.ChangeMaps (open_string shut_string)
set_option linter.unusedVariables false
theorem own : ownKnob Try.prog.godebug = none := by kernel_rfl
theorem laidOut : laidOutB Try.prog = true := by kernel_rfl
set_option maxRecDepth 100000 in
theorem opens_33 : Opens Try.prog 33 k33 (fun y_ => (InK .i64 y_.f0 ∧ InK .i64 y_.f1 ∧ True)) := by
  intro H enc w base spare held fuel cs x h
  obtain ⟨xs, n, _, rfl, hl, hlen, hf⟩ := DataW.trod_struct Try.underlying33 h
  have hz : Try.prog.cellsOf 33 = 3 := by kernel_rfl
  rw [hz] at hl
  have g0 := hf 0 _ rfl
  have g1 := hf 1 _ rfl
  have g2 := hf 2 _ rfl
  match xs, hlen with
  | [x0, x1, x2], _ =>
    have g0 : DataW.trod enc Try.prog w base spare held n 3 ((cs.drop 0).take 1) = some x0 := g0
    obtain ⟨y0, k0_, q0⟩ := (opens_int Try.underlying3) enc w base spare held n _ _ g0
    have g1 : DataW.trod enc Try.prog w base spare held n 3 ((cs.drop 1).take 1) = some x1 := g1
    obtain ⟨y1, k1_, q1⟩ := (opens_int Try.underlying3) enc w base spare held n _ _ g1
    have g2 : DataW.trod enc Try.prog w base spare held n 4 ((cs.drop 2).take 1) = some x2 := g2
    obtain ⟨y2, k2_, q2⟩ := (opens_bool Try.underlying4) enc w base spare held n _ _ g2
    exact ⟨⟨y0, y1, y2⟩, ⟨_, _, cutQ cs 0 1, k0_, ⟨_, _, cutQ cs 1 1, k1_, (by show (Kd.bool).K w y2 (cs.drop 2); rw [cutQ_last cs 2 1 (by omega)]; exact k2_)⟩⟩, q0, q1, q2⟩

set_option maxRecDepth 100000 in
theorem opens_25 : Opens Try.prog 25 k25 (fun y_ => ((y_.f0.length ≤ 9223372036854775807 ∧ ∀ x_ ∈ y_.f0, (InK .i64 x_.f0 ∧ InK .i64 x_.f1 ∧ True)) ∧ (y_.f1.length ≤ 9223372036854775807 ∧ ∀ x_ ∈ y_.f1, InK .i64 x_))) := by
  intro H enc w base spare held fuel cs x h
  obtain ⟨xs, n, _, rfl, hl, hlen, hf⟩ := DataW.trod_struct Try.underlying25 h
  have hz : Try.prog.cellsOf 25 = 2 := by kernel_rfl
  rw [hz] at hl
  have g0 := hf 0 _ rfl
  have g1 := hf 1 _ rfl
  match xs, hlen with
  | [x0, x1], _ =>
    have g0 : DataW.trod enc Try.prog w base spare held n 22 ((cs.drop 0).take 1) = some x0 := g0
    obtain ⟨y0, k0_, q0⟩ := (opens_slice Try.underlying22 (by kernel_rfl) opens_33) enc w base spare held n _ _ g0
    have g1 : DataW.trod enc Try.prog w base spare held n 23 ((cs.drop 1).take 1) = some x1 := g1
    obtain ⟨y1, k1_, q1⟩ := (opens_slice Try.underlying23 (by kernel_rfl) (opens_int Try.underlying3)) enc w base spare held n _ _ g1
    exact ⟨⟨y0, y1⟩, ⟨_, _, cutQ cs 0 1, k0_, (by show ((Kd.slice 3 (Kd.int .i64))).K w y1 (cs.drop 1); rw [cutQ_last cs 1 1 (by omega)]; exact k1_)⟩, q0, q1⟩

set_option maxRecDepth 100000 in
theorem lifted (os : Os) (started : os.Started) (H : Type) (enc : TypeId × Value → H) :
    ReturnsInHanded {} Try.checked os 10 .any (Rows.outlineBackSpec.pre6 enc Try.prog Try.f10 Rows.outlineBackRow.domain false) (Rows.outlineBackSpec.post enc Try.prog Try.f10 false true false false) := by
  refine returnsInHanded_of_change_sized (C := Try.checked) own started (by kernel_rfl) Try.func10
    (ChangeSpec.witness6 (enc := enc) (C := Try.checked) false ⟨#[], #[.agg #[.slice none 0 0, .slice none 0 0]], []⟩ 8 (by kernel_rfl) (by kernel_rfl) (by kernel_rfl) (by kernel_rfl)) ?_
  intro W base args ds gs before hval0 hW hcnd hsz0 _
  have hval : ∀ (j : Nat) t v, Try.f10.params[j]? = some t → args[j]? = some v → Value.okWide Try.prog W .any base t v := hval0
  have hW' := hW
  obtain ⟨p, q, hA0, hV, rfl, hfz, hnd⟩ := hW
  have hA : DataW.TrodAll enc Try.prog W 0 (fun _ => true) true Try.f10.params.toList args.toList ds p := hA0
  rw [Try.params10] at hA hval
  obtain ⟨v0, vs0, d0, ds0, p0, q0, hargs, rfl, rfl, h0, r0⟩ := trodAll_cons hA
  obtain ⟨rfl, rfl, rfl⟩ := trodAll_nil r0
  obtain rfl : args = #[v0] := by cases args; simp_all
  obtain ⟨rfl, rfl⟩ := trodVars_none hV
  have k0 := h0
  have lt0 : ∀ x ∈ p0, x.block < W.heap.size := by obtain ⟨m, hm⟩ := k0; exact DataW.trod_lt m _ _ _ hm
  obtain ⟨fuel0, hf0⟩ := h0
  obtain ⟨y0, ky0, gy0⟩ := opens_25 enc W 0 (fun _ => true) true fuel0 _ _ hf0
  obtain ⟨cs0, rfl⟩ := wide_agg (hval 0 25 v0 rfl rfl) (by rw [Try.underlying25])
  obtain ⟨A0_0, c0_0, A0_1, c0_1, hc0, l0_0, g0_0, l0_1, g0_1⟩ := k25_open ky0
  obtain rfl := agg_list hc0
  clear hA0 hval0 hsz0
  obtain ⟨k, hk⟩ := Pure.OutlineBack y0.f0 y0.f1 gy0
  refine (fleuronlaw03_OutlineBack.calls k A0_0 c0_0 y0.f0 A0_1 c0_1 y0.f1 true W g0_0 l0_0 g0_1 l0_1 hk).mono fun e W' ⟨he, bel⟩ => ?_
  subst he
  exact ⟨_, rfl, _, _, _, [], _, [], hW', trodAll_mk1 (shut_bool Try.underlying4 _), (trodAll_cons_mk (Below.trod laidOut (by kernel_rfl) (of_decide_eq_true (by kernel_rfl)) k0 bel lt0) trodAll_mk0), rfl, bel.frame _, fun h => by cases h⟩
theorem over : Rows.outlineBackRow.holds Try.pinned (OpenSpec.ofChange Rows.outlineBackSpec) :=
  OpenClaim.holds_of_wide 10 Try.f10 rfl rfl rfl rfl rfl rfl rfl ⟨rfl, rfl, rfl, rfl, rfl⟩ rfl rfl rfl rfl rfl (by kernel_rfl) Try.func10 (by kernel_rfl)
    (of_decide_eq_true (by kernel_rfl)) (by unfold Func.isWrapper; first | (rw [if_pos (by decide +kernel)]; kernel_rfl) | (rw [if_neg (by decide +kernel)]; exact ⟨rfl, rfl⟩))
    (fun os started H enc _ => lifted os started H enc)
theorem proved : Rows.OutlineBackSaid := over
end Go.Proofs.Ytbmklpcheopgoaa.outlineBack
namespace Go.Proofs.Ytbmklpcheopgoaa
/-- The row, under a short name, for the claim. -/
theorem outlineBack_holds : Rows.OutlineBackSaid := outlineBack.proved
#print axioms outlineBack_holds
end Go.Proofs.Ytbmklpcheopgoaa
