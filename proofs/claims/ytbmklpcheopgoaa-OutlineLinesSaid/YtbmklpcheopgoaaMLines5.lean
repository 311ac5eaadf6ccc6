/- Texts of this session, one behind the other, for the statement OutlineLines: what its functions compute, plain facts, and (last) its row. No condition besides those stated. -/
import Derived.Test.YtbmklpcheopgoaaMLines1
import Derived.Test.YtbmklpcheopgoaaMLines4
import Derived.Test.YtbmklpcheopgoaaMLines2
import Derived.Test.YtbmklpcheopgoaaMLines3
import Derived.Test.YtbmklpcheopgoaaWWords
import Derived.ChangeArms
import Derived.Deep.Slices
import Derived.OpenShut
import Derived.DataReads
import Derived.Test.YtbmklpcheopgoaaRows
import Derived.WalkKit
import Derived.ProofKit
import Derived.ShutString
import Derived.ChangeOld
import Derived.Below
import Derived.SizedLaws
set_option linter.unusedVariables false
set_option linter.unusedSimpArgs false
namespace Go.Proofs.Ytbmklpcheopgoaa.H
open Go.RowKit Go.Proofs.YtbmklpcheopgoaaW.PrintWords Go.Proofs.YtbmklpcheopgoaaW.PrintLast Go.Proofs.YtbmklpcheopgoaaW.PrintMore
attribute [local go_sem] max2_int min2_int max_two min_two max_three min_three max_four min_four   -- for this text's walks alone
set_option linter.unusedVariables false
set_option linter.unusedSimpArgs false

/-! ### fleuronref03_down: function 67 -/
def fleuronref03_down.f (a0 : Int) : Option (Int) := if (Int.tmod a0 64) = 0 then (some (wrap64 (Int.tdiv a0 64))) else (if a0 < 0 then (some (wrap64 ((wrap64 (Int.tdiv a0 64)) - 1))) else (some (wrap64 (Int.tdiv a0 64))))
set_option maxHeartbeats 8000000 in
set_option maxRecDepth 100000 in
theorem fleuronref03_down.calls (a0 : Int) (r : Int) (w : World) (h : fleuronref03_down.f a0 = some r) :
  Calls Try.prog 67 #[.int .i64 a0] w fun e w' => e = .returned (.int .i64 r) ∧ Drawn0 w w' := by
 have H : (if (Int.tmod a0 64) = 0 then (some (wrap64 (Int.tdiv a0 64))) else (if a0 < 0 then (some (wrap64 ((wrap64 (Int.tdiv a0 64)) - 1))) else (some (wrap64 (Int.tdiv a0 64))))) = some r := h
 clear h
 by_cases c2 : (Int.tmod a0 64) = 0
 ·
  rw [if_pos c2] at H
  have c2b0 : ((Int.tmod a0 64) == 0) = true := beq_iff_eq.mpr c2
  have c2b1 : ((Int.tmod a0 64) != 0) = false := bne_eq_false_iff_eq.mpr c2
  clear c2
  obtain rfl := Option.some.inj H
  go_enter Try.func67, Try.ntmps67
  go_wp2
  go_ret
  exact ⟨by first | rfl | (simp; done) | (simp [*]; done), by repeat (first | exact Drawn0.refl _ | apply Drawn0.step)⟩
 ·
  rw [if_neg c2] at H
  have c2b0 : ((Int.tmod a0 64) == 0) = false := beq_eq_false_iff_ne.mpr c2
  have c2b1 : ((Int.tmod a0 64) != 0) = true := bne_iff_ne.mpr c2
  by_cases c3 : a0 < 0
  ·
   rw [if_pos c3] at H
   have c3b0 : decide (a0 < 0) = true := decide_eq_true c3
   clear c3
   obtain rfl := Option.some.inj H
   go_enter Try.func67, Try.ntmps67
   go_wp2
   go_ret
   exact ⟨by first | rfl | (simp; done) | (simp [*]; done), by repeat (first | exact Drawn0.refl _ | apply Drawn0.step)⟩
  ·
   rw [if_neg c3] at H
   have c3b0 : decide (a0 < 0) = false := decide_eq_false c3
   clear c3
   obtain rfl := Option.some.inj H
   go_enter Try.func67, Try.ntmps67
   go_wp2
   go_ret
   exact ⟨by first | rfl | (simp; done) | (simp [*]; done), by repeat (first | exact Drawn0.refl _ | apply Drawn0.step)⟩

/-! ### fleuronref03_mix: function 58 -/
def fleuronref03_mix.f (a0 : Int) (a1 : Int) (a2 : Int) (a3 : Int) : Option (Int) := (fleuronref03_down.f (wrap64 ((wrap64 ((wrap64 ((wrap64 ((wrap64 ((wrap64 (8 - a0)) * (wrap64 (8 - a0)))) * a1)) + (wrap64 ((wrap64 ((wrap64 (2 * a0)) * (wrap64 (8 - a0)))) * a2)))) + (wrap64 ((wrap64 (a0 * a0)) * a3)))) + 32))).bind fun t340 => (some t340)
set_option maxHeartbeats 8000000 in
set_option maxRecDepth 100000 in
theorem fleuronref03_mix.calls (a0 : Int) (a1 : Int) (a2 : Int) (a3 : Int) (r : Int) (w : World) (h : fleuronref03_mix.f a0 a1 a2 a3 = some r) :
  Calls Try.prog 58 #[.int .i64 a0, .int .i64 a1, .int .i64 a2, .int .i64 a3] w fun e w' => e = .returned (.int .i64 r) ∧ Drawn0 w w' := by
 have H : ((fleuronref03_down.f (wrap64 ((wrap64 ((wrap64 ((wrap64 ((wrap64 ((wrap64 (8 - a0)) * (wrap64 (8 - a0)))) * a1)) + (wrap64 ((wrap64 ((wrap64 (2 * a0)) * (wrap64 (8 - a0)))) * a2)))) + (wrap64 ((wrap64 (a0 * a0)) * a3)))) + 32))).bind fun t340 => (some t340)) = some r := h
 clear h
 replace H := Option.bind_eq_some_iff.mp H
 obtain ⟨t340, A50, H⟩ := H
 replace H : (some t340) = some r := H
 have A5 := aM A50
 clear A50
 obtain rfl := Option.some.inj H
 go_enter Try.func58, Try.ntmps58
 go_wp2_with (first | ((with_reducible refine gate_callee (f := 67) rfl ?_); refine goesL_ (some 31) rfl rfl Try.func67 (by kernel_rfl) rfl #[.int .i64 (wrap64 ((wrap64 ((wrap64 ((wrap64 ((wrap64 ((wrap64 (8 - a0)) * (wrap64 (8 - a0)))) * a1)) + (wrap64 ((wrap64 ((wrap64 (2 * a0)) * (wrap64 (8 - a0)))) * a2)))) + (wrap64 ((wrap64 (a0 * a0)) * a3)))) + 32))] rfl (by (try simp only [List.map_toArray, List.map_cons, List.map_nil]); first | done | rfl | (simp only [List.length_drop, List.length_take]; rfl)) ?_; (with_reducible refine (fleuronref03_down.calls (wrap64 ((wrap64 ((wrap64 ((wrap64 ((wrap64 ((wrap64 (8 - a0)) * (wrap64 (8 - a0)))) * a1)) + (wrap64 ((wrap64 ((wrap64 (2 * a0)) * (wrap64 (8 - a0)))) * a2)))) + (wrap64 ((wrap64 (a0 * a0)) * a3)))) + 32)) t340 _ A5.out).mono ?_); rintro e w' ⟨rfl, ⟨nd, rfl⟩⟩; refine ⟨_, rfl, ?_⟩))
 go_ret
 exact ⟨by first | rfl | (simp; done) | (simp [*]; done), by repeat (first | exact Drawn0.refl _ | apply Drawn0.step)⟩

/-! ### fleuronref03_row: function 50 -/
mutual
def fleuronref03_row.l0 : Nat → List (S106) → List (S52) → Int → Option ((List (S52)))
 | 0, _, _, _ => none
 | k + 1, x5, x6, x7 => if x7 < (x5.length : Int) then (if 0 ≤ x7 then (if (x5.length : Int) = 0 then (none) else (if 0 ≤ (Int.tmod (wrap64 (x7 + 1)) (x5.length : Int)) then (if (Int.tmod (wrap64 (x7 + 1)) (x5.length : Int)) < (x5.length : Int) then (if (rd_T106 x5 (Int.tmod (wrap64 (x7 + 1)) (x5.length : Int))).f1 = true then (if x6.length < 8796093022208 then (fleuronref03_row.l0 k x5 (x6 ++ [(⟨(rd_T106 x5 (Int.tmod (wrap64 (x7 + 1)) (x5.length : Int))).f0.f0, (rd_T106 x5 (Int.tmod (wrap64 (x7 + 1)) (x5.length : Int))).f0.f1⟩ : S52)]) (wrap64 (x7 + 1))) else (none)) else (if 0 ≤ (Int.tmod (wrap64 (x7 + 2)) (x5.length : Int)) then (if (Int.tmod (wrap64 (x7 + 2)) (x5.length : Int)) < (x5.length : Int) then (fleuronref03_row.l1 k x5 x6 x7 1 ((rd_T106 x5 x7).f0.f0) ((rd_T106 x5 x7).f0.f1) ((rd_T106 x5 (Int.tmod (wrap64 (x7 + 1)) (x5.length : Int))).f0.f0) ((rd_T106 x5 (Int.tmod (wrap64 (x7 + 1)) (x5.length : Int))).f0.f1) ((rd_T106 x5 (Int.tmod (wrap64 (x7 + 1)) (x5.length : Int))).f1) ((rd_T106 x5 (Int.tmod (wrap64 (x7 + 2)) (x5.length : Int))).f0.f0) ((rd_T106 x5 (Int.tmod (wrap64 (x7 + 2)) (x5.length : Int))).f0.f1)) else (none)) else (none))) else (none)) else (none))) else (none)) else (if 0 ≤ (wrap64 ((x6.length : Int) - 1)) then (if (wrap64 ((x6.length : Int) - 1)) ≤ (x6.length : Int) then (some (x6.take ((wrap64 ((x6.length : Int) - 1)) : Int).toNat)) else (none)) else (none))
def fleuronref03_row.l1 : Nat → List (S106) → List (S52) → Int → Int → Int → Int → Int → Int → Bool → Int → Int → Option ((List (S52)))
 | 0, _, _, _, _, _, _, _, _, _, _, _ => none
 | k + 1, x5, x6, x7, x11, x353000, x353001, x355000, x355001, x355002, x360000, x360001 => if x11 ≤ 8 then ((fleuronref03_mix.f x11 x353000 x355000 x360000).bind fun t360 => ((fleuronref03_mix.f x11 x353001 x355001 x360001).bind fun t361 => (if x6.length < 8796093022208 then (fleuronref03_row.l1 k x5 (x6 ++ [(⟨t360, t361⟩ : S52)]) x7 (wrap64 (x11 + 1)) x353000 x353001 x355000 x355001 x355002 x360000 x360001) else (none)))) else (fleuronref03_row.l0 k x5 x6 (wrap64 (x7 + 2)))
end
def fleuronref03_row.f (k : Nat) (l0 : List (S52)) (l1 : List Bool) : Option ((List (S52))) := (fleuronref03_ring.f k l0 l1).bind fun t341 => (if 0 < (t341.length : Int) then (fleuronref03_row.l0 k t341 (([(⟨(rd_T106 t341 0).f0.f0, (rd_T106 t341 0).f0.f1⟩ : S52)] : List (S52))) 0) else (none))
theorem fleuronref03_row.mono_l : ∀ k, (∀ y0 y1 y2, LeO (fleuronref03_row.l0 k y0 y1 y2) (fleuronref03_row.l0 (k + 1) y0 y1 y2)) ∧ (∀ y0 y1 y2 y3 y4 y5 y6 y7 y8 y9 y10, LeO (fleuronref03_row.l1 k y0 y1 y2 y3 y4 y5 y6 y7 y8 y9 y10) (fleuronref03_row.l1 (k + 1) y0 y1 y2 y3 y4 y5 y6 y7 y8 y9 y10))
 | 0 => ⟨fun _ _ _ r h => by simp [fleuronref03_row.l0] at h, fun _ _ _ _ _ _ _ _ _ _ _ r h => by simp [fleuronref03_row.l1] at h⟩
 | k + 1 => by
  obtain ⟨ih0, ih1⟩ := fleuronref03_row.mono_l k
  refine ⟨?_, ?_⟩
  ·
   intro y0 y1 y2
   unfold fleuronref03_row.l0
   repeat' first
   | (with_reducible exact ih0 _ _ _)
   | (with_reducible exact ih1 _ _ _ _ _ _ _ _ _ _ _)
   | (with_reducible exact fleuronref03_ring.mono _ _ _)
   | (with_reducible exact LeO.refl _)
   | (with_reducible exact LeO.none _)
   | (with_reducible refine LeO.ite ?_ ?_)
   | (with_reducible refine LeO.bind ?_ (fun _ => ?_))
   | exact ih0 _ _ _
   | exact ih1 _ _ _ _ _ _ _ _ _ _ _
   | exact fleuronref03_ring.mono _ _ _
   | exact LeO.none _
   | refine LeO.ite ?_ ?_
   | refine LeO.bind ?_ (fun _ => ?_)
  ·
   intro y0 y1 y2 y3 y4 y5 y6 y7 y8 y9 y10
   unfold fleuronref03_row.l1
   repeat' first
   | (with_reducible exact ih0 _ _ _)
   | (with_reducible exact ih1 _ _ _ _ _ _ _ _ _ _ _)
   | (with_reducible exact fleuronref03_ring.mono _ _ _)
   | (with_reducible exact LeO.refl _)
   | (with_reducible exact LeO.none _)
   | (with_reducible refine LeO.ite ?_ ?_)
   | (with_reducible refine LeO.bind ?_ (fun _ => ?_))
   | exact ih0 _ _ _
   | exact ih1 _ _ _ _ _ _ _ _ _ _ _
   | exact fleuronref03_ring.mono _ _ _
   | exact LeO.none _
   | refine LeO.ite ?_ ?_
   | refine LeO.bind ?_ (fun _ => ?_)
theorem fleuronref03_row.mono : ∀ a0 a1 k, LeO (fleuronref03_row.f k a0 a1) (fleuronref03_row.f (k + 1) a0 a1) := by
 intro a0 a1 k
 obtain ⟨ih0, ih1⟩ := fleuronref03_row.mono_l k
 unfold fleuronref03_row.f
 repeat' first
   | (with_reducible exact ih0 _ _ _)
   | (with_reducible exact ih1 _ _ _ _ _ _ _ _ _ _ _)
   | (with_reducible exact fleuronref03_ring.mono _ _ _)
   | (with_reducible exact LeO.refl _)
   | (with_reducible exact LeO.none _)
   | (with_reducible refine LeO.ite ?_ ?_)
   | (with_reducible refine LeO.bind ?_ (fun _ => ?_))
   | exact ih0 _ _ _
   | exact ih1 _ _ _ _ _ _ _ _ _ _ _
   | exact fleuronref03_ring.mono _ _ _
   | exact LeO.none _
   | refine LeO.ite ?_ ?_
   | refine LeO.bind ?_ (fun _ => ?_)
def fleuronref03_row.T14 : Bool × List (List Nat × List Nat) := (true, [([], []), ([], []), ([], []), ([2], [2]), ([], []), ([4], [4]), ([5], [5]), ([], []), ([7], [7]), ([1, 3, 6, 8], [1, 3, 6, 8]), ([], []), ([], []), ([11], [11]), ([], []), ([13], [13]), ([14], [14]), ([], []), ([16], [16]), ([10, 12, 15, 17, 9], [10, 12, 15, 17]), ([9, 18], [9, 18]), ([19], [19]), ([0, 20, 18], [0, 20]), ([21, 21, 0, 1, 2, 3, 4, 5, 6, 7, 8, 9, 10, 11, 12, 13, 14, 15, 16, 17, 18, 19, 20, 21], [0, 21])])
def fleuronref03_row.B14 : List Nat := [0, 0, 0, 4, 0, 16, 48, 0, 128, 510, 0, 0, 2048, 0, 8192, 24576, 0, 65536, 262142, 524286, 1048574, 2097151, 4194303]
theorem fleuronref03_row.tab14 : rtab .any (opsOf Try.f50 14) = fleuronref03_row.T14 := by kernel_rfl
theorem fleuronref03_row.bits14 : waitsOk fleuronref03_row.T14.2 fleuronref03_row.B14 = true := by kernel_rfl
set_option maxHeartbeats 8000000 in
set_option maxRecDepth 100000 in
theorem fleuronref03_row.calls (k : Nat) (A0 : Option Addr) (c0 : Nat) (l0 : List (S52)) (A1 : Option Addr) (c1 : Nat) (l1 : List Bool) (r : List (S52)) (w : World) (hr0 : Kd.C k52 w A0 l0.length l0) (hc0 : l0.length ≤ c0) (hr1 : Kd.C Kd.bool w A1 l1.length l1) (hc1 : l1.length ≤ c1) (h : fleuronref03_row.f k l0 l1 = some r) :
  Calls Try.prog 50 #[.slice A0 l0.length c0, .slice A1 l1.length c1] w fun e w' => ∃ v0_ : Value, e = .returned (v0_) ∧ Kd.R k52 52 w' w.heap.size (fun _ => True) v0_ r ∧ Below w.heap.size w w' := by
 have hu52 := Try.underlying52
 have hu106 := Try.underlying106
 have HR0 := aM hr0
 have HC0 := aM hc0
 clear hr0 hc0
 have HR1 := aM hr1
 have HC1 := aM hc1
 clear hr1 hc1
 have HB := aM (Below.refl w.heap.size w)
 have H : ((fleuronref03_ring.f k l0 l1).bind fun t341 => (if 0 < (t341.length : Int) then (fleuronref03_row.l0 k t341 (([(⟨(rd_T106 t341 0).f0.f0, (rd_T106 t341 0).f0.f1⟩ : S52)] : List (S52))) 0) else (none))) = some r := h
 clear h
 replace H := Option.bind_eq_some_iff.mp H
 obtain ⟨t341, A30, H⟩ := H
 replace H : (if 0 < (t341.length : Int) then (fleuronref03_row.l0 k t341 (([(⟨(rd_T106 t341 0).f0.f0, (rd_T106 t341 0).f0.f1⟩ : S52)] : List (S52))) 0) else (none)) = some r := H
 have A3 := aM A30
 clear A30
 by_cases c4 : 0 < (t341.length : Int)
 ·
  rw [if_pos c4] at H
  have c4b0 : decide (0 < (t341.length : Int)) = true := decide_eq_true c4
  have c4b1 : decide (0 < t341.length) = true := decide_eq_true (by omega)
  clear c4
  obtain ⟨y345, hy345⟩ : ∃ y_ : List (S52), y_ = (([(⟨(rd_T106 t341 0).f0.f0, (rd_T106 t341 0).f0.f1⟩ : S52)] : List (S52))) := ⟨_, rfl⟩
  replace H : (fleuronref03_row.l0 k t341 y345 0) = some r := by first | (rw [hy345]; with_reducible exact H) | (have H2_ := (Option.bind_some _ _).symm.trans H; rw [hy345]; with_reducible exact H2_) | (have H2_ := (Option.bind_some _ _).symm.trans H; with_reducible exact H2_) | with_reducible exact H | (rw [hy345]; exact H) | exact H
  have Ny345 := aM hy345
  clear hy345
  have H' := aM H
  clear H
  go_enter Try.func50, Try.ntmps50
  go_wp2_with (first | ((with_reducible refine gate_callee (f := 57) rfl ?_); refine goesL_ (some 14) rfl rfl Try.func57 (by kernel_rfl) rfl #[.slice A0 l0.length c0, .slice A1 l1.length c1] rfl (by (try simp only [List.map_toArray, List.map_cons, List.map_nil]); first | done | rfl | (simp only [List.length_drop, List.length_take]; rfl)) ?_; (with_reducible refine (fleuronref03_ring.calls k _ _ l0 _ _ l1 t341 _ ?side1 ?side2 ?side3 ?side4 A3.out).mono ?_); (case side1 => repeat (first | exact HR0.out | (with_reducible refine Kd.C_alloc ?_ _) | (with_reducible refine Kd.C_drewN ?_ _) | (with_reducible refine Kd.C_drew ?_))); (case side2 => exact HC0.out); (case side3 => repeat (first | exact HR1.out | (with_reducible refine Kd.C_alloc ?_ _) | (with_reducible refine Kd.C_drewN ?_ _) | (with_reducible refine Kd.C_drew ?_))); (case side4 => exact HC1.out); rintro e w5 ⟨v342, rfl, ho0, hb⟩; refine ⟨_, rfl, ?_⟩; have n0_ := aM (Kd.R_lower ho0 (below_size (by repeat (first | (with_reducible first | exact HB.out | apply bA | apply bN | apply bD) | exact HB.out)))); have n1_ := aM (below_step (by repeat (first | (with_reducible first | exact HB.out | apply bA | apply bN | apply bD) | exact HB.out)) hb); clear HB; have HO343 := n0_; have HB := n1_; clear n0_ n1_; (try clear hb); (try clear hb2); (try clear hk); (try clear hi); (try clear ho0); obtain ⟨Ao6, co6, eo6⟩ := Kd.R_slice HO343.out; subst eo6; have p344 : 0 ≤ (0 : Int) := (by omega); have q344 : 0 < (t341.length : Int) := of_decide_eq_true (by assumption); obtain ⟨ad344, e344, hx344_0, hx344_1, hx344_2⟩ := at_T106 (Kd.R_reads' HO343.out).2.2 0 p344 q344; cases e344; have qi344 : (0 < t341.length) = True := eq_true (by omega); (try rw [show ((0 : Int)).toNat = 0 from rfl] at hx344_0); (try rw [show 0 * 3 = 0 from rfl] at hx344_0); (try rw [Addr.add_zero'] at hx344_0); (try rw [show ((0 : Int)).toNat = 0 from rfl] at hx344_1); (try rw [show 0 * 3 = 0 from rfl] at hx344_1); (try rw [Addr.add_zero'] at hx344_1); (try rw [show ((0 : Int)).toNat = 0 from rfl] at hx344_2); (try rw [show 0 * 3 = 0 from rfl] at hx344_2); (try rw [Addr.add_zero'] at hx344_2); replace p344 := eq_true p344; replace q344 := eq_true q344) | ((with_reducible refine gate_dst (N := 19) rfl ?_); refine Kd.R_lit k52 _ 52 ?hg (N := 19) ?hd (xs := ([(⟨(rd_T106 t341 0).f0.f0, (rd_T106 t341 0).f0.f1⟩ : S52)] : List (S52))) (inner := [.int .i64 ((rd_T106 t341 0).f0.f0), .int .i64 ((rd_T106 t341 0).f0.f1)]) (ok := fun _ => True) (okp := fun _ => True) ?hr ?hp (fun _ hk => hk) trivial (Below.refl _ _) (Nat.le_refl _) (by simp) ?_; (case hd => rfl); (case hg => rfl); (case hr => first | (go_simp; done) | (go_simp; rfl)); (case hp => exact (Reps.c2 (show Kd.M k52 _ _ _ (⟨(rd_T106 t341 0).f0.f0, (rd_T106 t341 0).f0.f1⟩ : S52) [.int .i64 ((rd_T106 t341 0).f0.f0), .int .i64 ((rd_T106 t341 0).f0.f1)] from (k52_mkM _ _ _ (⟨(rd_T106 t341 0).f0.f0, (rd_T106 t341 0).f0.f1⟩ : S52) )) (Reps.none _ _))); intro v346 w7 ho8 hb hg_ hnew_; clear hg_ hnew_; (first | rw [← Ny345.out] at ho8 | (simp only [Int.reduceToNat] at ho8; rw [← Ny345.out] at ho8)); have n0_ := aM (Kd.R_below (by (with_reducible repeat (first | apply Kd.R_alloc | apply Kd.R_drewN | apply Kd.R_drew)); exact HO343.out) hb); have n1_ := aM (Kd.R_lower ho8 (below_size (by repeat (first | (with_reducible first | exact HB.out | apply bA | apply bN | apply bD) | exact HB.out)))); have n2_ := aM (below_step (by repeat (first | (with_reducible first | exact HB.out | apply bA | apply bN | apply bD) | exact HB.out)) hb); clear HO343; clear HB; have HO343 := n0_; have HO347 := n1_; have HB := n2_; clear n0_ n1_ n2_; clear hb ho8))
  go_loopg [6, 7] k (fun kq v6 v7 w' => ∃ (x6_1 : List (S52)) (x7_1 : Int), v7 = .int .i64 x7_1 ∧ Aside0 (fleuronref03_row.l0 kq t341 x6_1 x7_1 = some r) ∧ Aside0 (kq ≤ k) ∧ Aside0 (Kd.R k106 106 w' w.heap.size (fun _ => True) (.slice (some ad344) t341.length co6) t341) ∧ Aside0 (Kd.R k52 52 w' w.heap.size (fun _ => True) v6 x6_1) ∧ Aside0 (Below w.heap.size w w'))
  case atStart => exact ⟨(y345), (0), (by first | rfl | (simp; done) | (simp [*]; done)), H', ⟨Nat.le_refl _⟩, ⟨by (with_reducible repeat (first | apply Kd.R_alloc | apply Kd.R_drewN | apply Kd.R_drew)); exact HO343.out⟩, ⟨by (with_reducible repeat (first | apply Kd.R_alloc | apply Kd.R_drewN | apply Kd.R_drew)); exact HO347.out⟩, ⟨by repeat (first | (with_reducible first | exact HB.out | apply bA | apply bN | apply bD) | exact HB.out)⟩⟩
  case round =>
   clear H'
   try clear c1
   try clear c2
   try clear p2
   try clear p3
   try clear q3
   try clear hx3
   try clear qi3
   try clear c4
   try clear c4b0
   try clear c4b1
   try clear c5
   try clear hx344_0
   try clear hx344_1
   try clear hx344_2
   try clear p344
   try clear q344
   obtain ⟨x6_1, x7_1, rfl, HA, HK1, HO_5, HO_6, HB⟩ := hrel
   cases gk with
   | zero => exact absurd HA.out (by simp [fleuronref03_row.l0])
   | succ k1 =>
    have H := HA.out
    clear HA
    simp only [fleuronref03_row.l0] at H
    by_cases c9 : x7_1 < (t341.length : Int)
    ·
     rw [if_pos c9] at H
     have c9b0 : decide (x7_1 < (t341.length : Int)) = true := decide_eq_true c9
     clear c9
     by_cases c10 : 0 ≤ x7_1
     ·
      rw [if_pos c10] at H
      have c10b0 : decide (0 ≤ x7_1) = true := decide_eq_true c10
      clear c10
      by_cases c11 : (t341.length : Int) = 0
      ·
       rw [if_pos c11] at H
       exact absurd H (by simp)
      ·
       rw [if_neg c11] at H
       have c11b0 : ((t341.length : Int) == 0) = false := beq_eq_false_iff_ne.mpr c11
       have c11b1 : ((t341.length : Int) != 0) = true := bne_iff_ne.mpr c11
       have c11b2 : ¬ (t341 = []) := fun h_ => c11 (by rw [h_]; rfl)
       obtain ⟨ji12, hji12⟩ : ∃ j_ : Int, (Int.tmod (wrap64 (x7_1 + 1)) (t341.length : Int)) = j_ := ⟨_, rfl⟩
       replace H : (if 0 ≤ (ji12) then (if (ji12) < (t341.length : Int) then (if (rd_T106 t341 (ji12)).f1 = true then (if x6_1.length < 8796093022208 then (fleuronref03_row.l0 k1 t341 (x6_1 ++ [(⟨(rd_T106 t341 (ji12)).f0.f0, (rd_T106 t341 (ji12)).f0.f1⟩ : S52)]) (wrap64 (x7_1 + 1))) else (none)) else (if 0 ≤ (Int.tmod (wrap64 (x7_1 + 2)) (t341.length : Int)) then (if (Int.tmod (wrap64 (x7_1 + 2)) (t341.length : Int)) < (t341.length : Int) then (fleuronref03_row.l1 k1 t341 x6_1 x7_1 1 ((rd_T106 t341 x7_1).f0.f0) ((rd_T106 t341 x7_1).f0.f1) ((rd_T106 t341 (ji12)).f0.f0) ((rd_T106 t341 (ji12)).f0.f1) ((rd_T106 t341 (ji12)).f1) ((rd_T106 t341 (Int.tmod (wrap64 (x7_1 + 2)) (t341.length : Int))).f0.f0) ((rd_T106 t341 (Int.tmod (wrap64 (x7_1 + 2)) (t341.length : Int))).f0.f1)) else (none)) else (none))) else (none)) else (none)) = some r := by first | (rw [hji12] at H; exact H) | (simp only [hji12] at H ⊢; exact H)
       by_cases c13 : 0 ≤ (ji12)
       ·
        rw [if_pos c13] at H
        have c13b0 : decide (0 ≤ (ji12)) = true := decide_eq_true c13
        clear c13
        by_cases c14 : (ji12) < (t341.length : Int)
        ·
         rw [if_pos c14] at H
         have c14b0 : decide ((ji12) < (t341.length : Int)) = true := decide_eq_true c14
         clear c14
         obtain ⟨bq15, hbq15⟩ : ∃ b_ : Bool, b_ = ((rd_T106 t341 (ji12)).f1) := ⟨_, rfl⟩
         replace H : (if bq15 = true then (if x6_1.length < 8796093022208 then (fleuronref03_row.l0 k1 t341 (x6_1 ++ [(⟨(rd_T106 t341 (ji12)).f0.f0, (rd_T106 t341 (ji12)).f0.f1⟩ : S52)]) (wrap64 (x7_1 + 1))) else (none)) else (if 0 ≤ (Int.tmod (wrap64 (x7_1 + 2)) (t341.length : Int)) then (if (Int.tmod (wrap64 (x7_1 + 2)) (t341.length : Int)) < (t341.length : Int) then (fleuronref03_row.l1 k1 t341 x6_1 x7_1 1 ((rd_T106 t341 x7_1).f0.f0) ((rd_T106 t341 x7_1).f0.f1) ((rd_T106 t341 (ji12)).f0.f0) ((rd_T106 t341 (ji12)).f0.f1) bq15 ((rd_T106 t341 (Int.tmod (wrap64 (x7_1 + 2)) (t341.length : Int))).f0.f0) ((rd_T106 t341 (Int.tmod (wrap64 (x7_1 + 2)) (t341.length : Int))).f0.f1)) else (none)) else (none))) = some r := by rw [← hbq15] at H; exact H
         have Nbq15 := aM hbq15
         clear hbq15
         by_cases c16 : bq15 = true
         ·
          subst c16
          have H1 : (if x6_1.length < 8796093022208 then (fleuronref03_row.l0 k1 t341 (x6_1 ++ [(⟨(rd_T106 t341 (ji12)).f0.f0, (rd_T106 t341 (ji12)).f0.f1⟩ : S52)]) (wrap64 (x7_1 + 1))) else (none)) = some r := by rw [if_pos rfl] at H; exact H
          clear H
          have H := H1
          clear H1
          by_cases c17 : x6_1.length < 8796093022208
          ·
           rw [if_pos c17] at H
           have LMc17 := aM c17
           clear c17
           obtain ⟨y355, hy355⟩ : ∃ y_ : List (S52), y_ = (x6_1 ++ [(⟨(rd_T106 t341 (ji12)).f0.f0, (rd_T106 t341 (ji12)).f0.f1⟩ : S52)]) := ⟨_, rfl⟩
           replace H : (fleuronref03_row.l0 k1 t341 y355 (wrap64 (x7_1 + 1))) = some r := by first | (rw [hy355]; with_reducible exact H) | (have H2_ := (Option.bind_some _ _).symm.trans H; rw [hy355]; with_reducible exact H2_) | (have H2_ := (Option.bind_some _ _).symm.trans H; with_reducible exact H2_) | with_reducible exact H | (rw [hy355]; exact H) | exact H
           have Ny355 := aM hy355
           clear hy355
           have H' := aM H
           clear H
           have p351 : 0 ≤ (x7_1 : Int) := of_decide_eq_true (by assumption)
           have q351 : x7_1 < (t341.length : Int) := of_decide_eq_true (by assumption)
           obtain ⟨ad351, e351, hx351_0, hx351_1, hx351_2⟩ := at_T106 (Kd.R_reads' HO_5.out).2.2 x7_1 p351 q351
           (try rw [← Nbq15.out] at hx351_2)
           obtain rfl : ad344 = ad351 := (by injection e351)
           replace p351 := eq_true p351
           replace q351 := eq_true q351
           go_wp2_with (first | ((with_reducible refine gate_dst (N := 8) rfl ?_); refine box_event ?hg (N := 8) ?hd (cs := #[.int .i64 0, .int .i64 0]) (t := 52) ?hr ?_; (case hd => rfl); (case hg => rfl); (case hr => first | (go_simp; done) | (go_simp; rfl)); intro gb352 hg w18 hbox hb; have n0_ := aM (Kd.R_below (by (with_reducible repeat (first | apply Kd.R_alloc | apply Kd.R_drewN | apply Kd.R_drew)); exact HO_5.out) hb); have n1_ := aM (Kd.R_below (Kd.R_elderB (by (with_reducible repeat (first | apply Kd.R_alloc | apply Kd.R_drewN | apply Kd.R_drew)); exact HO_6.out) gb352 (Nat.le_of_eq hg.symm)) hb); have n2_ := aM (below_step (by repeat (first | (with_reducible first | exact HB.out | apply bA | apply bN | apply bD) | exact HB.out)) hb); have n3_ := aM (hbox); have n4_ := aM ((by rw [hg]; exact (below_size (by repeat (first | (with_reducible first | exact HB.out | apply bA | apply bN | apply bD) | exact HB.out))) : w.heap.size ≤ gb352)); have n5_ := aM ((by rw [hg]; exact (below_size (by repeat (first | (with_reducible first | exact HB.out | apply bA | apply bN | apply bD) | exact HB.out))) : w.heap.size ≤ gb352)); clear HO_5; clear HO_6; clear HB; have HO_5 := n0_; have HO_6 := n1_; have HB := n2_; have BK352 := n3_; have GW352 := n4_; have GE352 := n5_; clear n0_ n1_ n2_ n3_ n4_ n5_; clear hb hbox hg; have hcz19_0 : w18.cell? ⟨gb352, 0, none⟩ = some (.int .i64 0) := (blk_cell BK352.out 0).trans rfl; have hcz19_1 : w18.cell? ⟨gb352, 1, none⟩ = some (.int .i64 0) := (blk_cell BK352.out 1).trans rfl; have hfz19_0 := blk_frozen BK352.out 0; have hfz19_1 := blk_frozen BK352.out 1; have p353 : 0 ≤ ((ji12) : Int) := of_decide_eq_true (by assumption); have q353 : (ji12) < (t341.length : Int) := of_decide_eq_true (by assumption); obtain ⟨ad353, e353, hx353_0, hx353_1, hx353_2⟩ := at_T106 (Kd.R_reads' HO_5.out).2.2 (ji12) p353 q353; (try rw [← Nbq15.out] at hx353_2); obtain rfl : ad344 = ad353 := (by injection e353); have hn353_0 : ad344.block ≠ gb352 := Kd.own_blk (by first | exact Kd.R_ne HO_5.out BK352.out (by decide) | exact (fun e_ => (HO_5.out.1 _ e_.symm).2 rfl) | exact (fun e_ => (HO_5.out.1 _ e_.symm) rfl)); have hn353_1 : ad344.block ≠ gb352 := Kd.own_blk (by first | exact Kd.R_ne HO_5.out BK352.out (by decide) | exact (fun e_ => (HO_5.out.1 _ e_.symm).2 rfl) | exact (fun e_ => (HO_5.out.1 _ e_.symm) rfl)); replace hx353_0 := (cell_far (p := ⟨gb352, 0, none⟩) (by first | (rw [add_block]; exact hn353_0) | (show (Addr.add _ _).block ≠ _; rw [add_block]; exact hn353_0) | exact hn353_0) (.int .i64 ((rd_T106 t341 x7_1).f0.f0))).trans hx353_0; replace hx353_1 := (cell_far (p := ⟨gb352, 0, none⟩) (by first | (rw [add_block]; exact hn353_0) | (show (Addr.add _ _).block ≠ _; rw [add_block]; exact hn353_0) | exact hn353_0) (.int .i64 ((rd_T106 t341 x7_1).f0.f0))).trans hx353_1; replace hx353_2 := (cell_far (p := ⟨gb352, 0, none⟩) (by first | (rw [add_block]; exact hn353_0) | (show (Addr.add _ _).block ≠ _; rw [add_block]; exact hn353_0) | exact hn353_0) (.int .i64 ((rd_T106 t341 x7_1).f0.f0))).trans hx353_2; replace hx353_0 := (cell_far (p := ⟨gb352, 1, none⟩) (by first | (rw [add_block]; exact hn353_1) | (show (Addr.add _ _).block ≠ _; rw [add_block]; exact hn353_1) | exact hn353_1) (.int .i64 ((rd_T106 t341 x7_1).f0.f1))).trans hx353_0; replace hx353_1 := (cell_far (p := ⟨gb352, 1, none⟩) (by first | (rw [add_block]; exact hn353_1) | (show (Addr.add _ _).block ≠ _; rw [add_block]; exact hn353_1) | exact hn353_1) (.int .i64 ((rd_T106 t341 x7_1).f0.f1))).trans hx353_1; replace hx353_2 := (cell_far (p := ⟨gb352, 1, none⟩) (by first | (rw [add_block]; exact hn353_1) | (show (Addr.add _ _).block ≠ _; rw [add_block]; exact hn353_1) | exact hn353_1) (.int .i64 ((rd_T106 t341 x7_1).f0.f1))).trans hx353_2; clear hn353_0; clear hn353_1; replace p353 := eq_true p353; replace q353 := eq_true q353) | ((with_reducible refine gate_dst (N := 9) rfl ?_); refine box_event ?hg (N := 9) ?hd (cs := #[.int .i64 0, .int .i64 0, .bool false]) (t := 106) ?hr ?_; (case hd => rfl); (case hg => rfl); (case hr => first | (go_simp; done) | (go_simp; rfl)); intro gb354 hg w20 hbox hb; have n0_ := aM (Kd.R_below (Kd.R_elderB (by (with_reducible repeat (first | apply Kd.R_alloc | apply Kd.R_drewN | apply Kd.R_drew)); exact (Kd.R_mono (Kd.R_far (p := ⟨gb352, 1, none⟩) (Kd.R_far (p := ⟨gb352, 0, none⟩) (Kd.R_types HO_5.out BK352.out (by decide)) (fun _ hk => hk.2) (.int .i64 ((rd_T106 t341 x7_1).f0.f0))) (fun _ hk => hk.2) (.int .i64 ((rd_T106 t341 x7_1).f0.f1))) (fun _ h_ => h_.1))) gb354 (Nat.le_of_eq hg.symm)) hb); have n1_ := aM (Kd.R_below (by (with_reducible repeat (first | apply Kd.R_alloc | apply Kd.R_drewN | apply Kd.R_drew)); exact (Kd.R_mono (Kd.R_far (p := ⟨gb352, 1, none⟩) (Kd.R_far (p := ⟨gb352, 0, none⟩) (Kd.R_mono HO_6.out (fun k_ hk => (⟨hk, hk.2⟩ : _ ∧ k_ ≠ gb352))) (fun _ hk => hk.2) (.int .i64 ((rd_T106 t341 x7_1).f0.f0))) (fun _ hk => hk.2) (.int .i64 ((rd_T106 t341 x7_1).f0.f1))) (fun _ h_ => h_.1))) hb); have n2_ := aM (blk_below (g := gb352) (o := .cells #[.int .i64 ((rd_T106 t341 x7_1).f0.f0), .int .i64 ((rd_T106 t341 x7_1).f0.f1)] 52 (0, 0)) (by (with_reducible repeat (first | refine kN ?_ _ | refine kD ?_ | refine kA ?_ _)); refine blk_put (cs := #[.int .i64 ((rd_T106 t341 x7_1).f0.f0), .int .i64 0]) ?_ 1 _ rfl; (with_reducible repeat (first | refine kN ?_ _ | refine kD ?_ | refine kA ?_ _)); refine blk_put (cs := #[.int .i64 0, .int .i64 0]) ?_ 0 _ rfl; (with_reducible repeat (first | refine kN ?_ _ | refine kD ?_ | refine kA ?_ _)); exact BK352.out) hb); have n3_ := aM (below_step (by repeat (first | (with_reducible first | exact HB.out | apply bA | apply bN | apply bD | refine bS ?_ GE352.out) | exact HB.out)) hb); have n4_ := aM (hbox); have n5_ := aM ((by rw [hg]; exact (below_size (by repeat (first | (with_reducible first | exact HB.out | apply bA | apply bN | apply bD | refine bS ?_ GE352.out) | exact HB.out))) : w.heap.size ≤ gb354)); have n6_ := aM ((by rw [hg]; exact (below_size (by repeat (first | (with_reducible first | exact HB.out | apply bA | apply bN | apply bD | refine bS ?_ GE352.out) | exact HB.out))) : w.heap.size ≤ gb354)); have n7_ := aM ((by rw [hg]; exact Nat.ne_of_lt (blk_lt (g := gb352) (o := .cells #[.int .i64 ((rd_T106 t341 x7_1).f0.f0), .int .i64 ((rd_T106 t341 x7_1).f0.f1)] 52 (0, 0)) (by (with_reducible repeat (first | refine kN ?_ _ | refine kD ?_ | refine kA ?_ _)); refine blk_put (cs := #[.int .i64 ((rd_T106 t341 x7_1).f0.f0), .int .i64 0]) ?_ 1 _ rfl; (with_reducible repeat (first | refine kN ?_ _ | refine kD ?_ | refine kA ?_ _)); refine blk_put (cs := #[.int .i64 0, .int .i64 0]) ?_ 0 _ rfl; (with_reducible repeat (first | refine kN ?_ _ | refine kD ?_ | refine kA ?_ _)); exact BK352.out)) : gb352 ≠ gb354)); have n8_ := aM ((by rw [hg]; exact Nat.ne_of_gt (blk_lt (g := gb352) (o := .cells #[.int .i64 ((rd_T106 t341 x7_1).f0.f0), .int .i64 ((rd_T106 t341 x7_1).f0.f1)] 52 (0, 0)) (by (with_reducible repeat (first | refine kN ?_ _ | refine kD ?_ | refine kA ?_ _)); refine blk_put (cs := #[.int .i64 ((rd_T106 t341 x7_1).f0.f0), .int .i64 0]) ?_ 1 _ rfl; (with_reducible repeat (first | refine kN ?_ _ | refine kD ?_ | refine kA ?_ _)); refine blk_put (cs := #[.int .i64 0, .int .i64 0]) ?_ 0 _ rfl; (with_reducible repeat (first | refine kN ?_ _ | refine kD ?_ | refine kA ?_ _)); exact BK352.out)) : gb354 ≠ gb352)); clear HO_5; clear HO_6; clear BK352; clear HB; have HO_5 := n0_; have HO_6 := n1_; have BK352 := n2_; have HB := n3_; have BK354 := n4_; have GW354 := n5_; have GE354 := n6_; have NB352_354 := n7_; have NB354_352 := n8_; clear n0_ n1_ n2_ n3_ n4_ n5_ n6_ n7_ n8_; clear hb hbox hg; have hnb21 := NB354_352.out; have hnc21 := NB352_354.out; have hcz22_0 : w20.cell? ⟨gb354, 0, none⟩ = some (.int .i64 0) := (blk_cell BK354.out 0).trans rfl; have hcz22_1 : w20.cell? ⟨gb354, 1, none⟩ = some (.int .i64 0) := (blk_cell BK354.out 1).trans rfl; have hcz22_2 : w20.cell? ⟨gb354, 2, none⟩ = some (.bool false) := (blk_cell BK354.out 2).trans rfl; have hfz22_0 := blk_frozen BK354.out 0; have hfz22_1 := blk_frozen BK354.out 1; have hfz22_2 := blk_frozen BK354.out 2) | ((with_reducible refine gate_builtin (b := .append) (xs := #[.tmp 39, .tmp 42]) rfl ?_); at_builtin; refine Kd.R_append k52 (w0 := w) w.heap.size rfl (.tmp 39) (.tmp 42) 42 52 (.agg #[(.int .i64 0), (.int .i64 0)]) 16 rfl Try.underlying42 info52 rfl (by decide) (by omega) u6 x6_1 (⟨(rd_T106 t341 (ji12)).f0.f0, (rd_T106 t341 (ji12)).f0.f1⟩ : S52) [.int .i64 ((rd_T106 t341 (ji12)).f0.f0), .int .i64 ((rd_T106 t341 (ji12)).f0.f1)] (fun k_ => k_ ≠ gb352) (fun _ => False) rfl (by first | (go_simp; done) | (go_simp; rfl)) ?aP (fun _ hk => hk.elim) ?aF ?aO ?aB ?aS ?aL ?_; (case aP => exact k52_mkM _ _ _ (⟨(rd_T106 t341 (ji12)).f0.f0, (rd_T106 t341 (ji12)).f0.f1⟩ : S52)); (case aB => exact (by repeat (first | (with_reducible first | exact HB.out | apply bA | apply bN | apply bD | refine bS ?_ GE352.out | refine bS ?_ GE354.out) | exact HB.out))); (case aF => exact (fun k_ hk => Kd.freshB (g := gb352) (o := .cells #[.int .i64 ((rd_T106 t341 x7_1).f0.f0), .int .i64 ((rd_T106 t341 x7_1).f0.f1)] 52 (0, 0)) (by (with_reducible repeat (first | refine kN ?_ _ | refine kD ?_ | refine kA ?_ _)); refine blk_far ?_ NB352_354.out _; (with_reducible repeat (first | refine kN ?_ _ | refine kD ?_ | refine kA ?_ _)); refine blk_far ?_ NB352_354.out _; (with_reducible repeat (first | refine kN ?_ _ | refine kD ?_ | refine kA ?_ _)); refine blk_far ?_ NB352_354.out _; (with_reducible repeat (first | refine kN ?_ _ | refine kD ?_ | refine kA ?_ _)); exact BK352.out) k_ hk)); (case aO => exact (by (with_reducible repeat (first | apply Kd.R_alloc | apply Kd.R_drewN | apply Kd.R_drew)); exact Kd.R_mono (Kd.R_far (p := ⟨gb354, 2, none⟩) (Kd.R_far (p := ⟨gb354, 1, none⟩) (Kd.R_far (p := ⟨gb354, 0, none⟩) (Kd.R_types HO_6.out BK354.out (by decide)) (fun _ hk => hk.2) (.int .i64 ((rd_T106 t341 (ji12)).f0.f0))) (fun _ hk => hk.2) (.int .i64 ((rd_T106 t341 (ji12)).f0.f1))) (fun _ hk => hk.2) (.bool true)) (fun _ hk => hk.1.2))); (case aS => exact (below_size (by repeat (first | (with_reducible first | exact HB.out | apply bA | apply bN | apply bD | refine bS ?_ GE352.out | refine bS ?_ GE354.out) | exact HB.out)))); (case aL => have := LMc17.out; omega); intro v356 w23 ho hb hg hat; rw [← Ny355.out] at ho; have n0_ := aM (Kd.R_over' (by (with_reducible repeat (first | apply Kd.R_alloc | apply Kd.R_drewN | apply Kd.R_drew)); exact (Kd.R_mono (Kd.R_far (p := ⟨gb354, 2, none⟩) (Kd.R_far (p := ⟨gb354, 1, none⟩) (Kd.R_far (p := ⟨gb354, 0, none⟩) (Kd.R_mono HO_5.out (fun k_ hk => (⟨hk, hk.2⟩ : _ ∧ k_ ≠ gb354))) (fun _ hk => hk.2) (.int .i64 ((rd_T106 t341 (ji12)).f0.f0))) (fun _ hk => hk.2) (.int .i64 ((rd_T106 t341 (ji12)).f0.f1))) (fun _ hk => hk.2) (.bool true)) (fun _ h_ => h_.1))) (Kd.R_typed (by (with_reducible repeat (first | apply Kd.R_alloc | apply Kd.R_drewN | apply Kd.R_drew)); exact (Kd.R_mono (Kd.R_far (p := ⟨gb354, 2, none⟩) (Kd.R_far (p := ⟨gb354, 1, none⟩) (Kd.R_far (p := ⟨gb354, 0, none⟩) (Kd.R_types HO_6.out BK354.out (by decide)) (fun _ hk => hk.2) (.int .i64 ((rd_T106 t341 (ji12)).f0.f0))) (fun _ hk => hk.2) (.int .i64 ((rd_T106 t341 (ji12)).f0.f1))) (fun _ hk => hk.2) (.bool true)) (fun _ h_ => h_.1)))) (by decide) hg); have n1_ := aM (blk_grown (g := gb352) (o := .cells #[.int .i64 ((rd_T106 t341 x7_1).f0.f0), .int .i64 ((rd_T106 t341 x7_1).f0.f1)] 52 (0, 0)) (by (with_reducible repeat (first | refine kN ?_ _ | refine kD ?_ | refine kA ?_ _)); refine blk_far ?_ NB352_354.out _; (with_reducible repeat (first | refine kN ?_ _ | refine kD ?_ | refine kA ?_ _)); refine blk_far ?_ NB352_354.out _; (with_reducible repeat (first | refine kN ?_ _ | refine kD ?_ | refine kA ?_ _)); refine blk_far ?_ NB352_354.out _; (with_reducible repeat (first | refine kN ?_ _ | refine kD ?_ | refine kA ?_ _)); exact BK352.out) hg (Kd.R_away HO_6.out (fun _ hk => hk.2))); have n2_ := aM (blk_grown (g := gb354) (o := .cells #[.int .i64 ((rd_T106 t341 (ji12)).f0.f0), .int .i64 ((rd_T106 t341 (ji12)).f0.f1), .bool true] 106 (0, 0)) (by (with_reducible repeat (first | refine kN ?_ _ | refine kD ?_ | refine kA ?_ _)); refine blk_put (cs := #[.int .i64 ((rd_T106 t341 (ji12)).f0.f0), .int .i64 ((rd_T106 t341 (ji12)).f0.f1), .bool false]) ?_ 2 _ rfl; (with_reducible repeat (first | refine kN ?_ _ | refine kD ?_ | refine kA ?_ _)); refine blk_put (cs := #[.int .i64 ((rd_T106 t341 (ji12)).f0.f0), .int .i64 0, .bool false]) ?_ 1 _ rfl; (with_reducible repeat (first | refine kN ?_ _ | refine kD ?_ | refine kA ?_ _)); refine blk_put (cs := #[.int .i64 0, .int .i64 0, .bool false]) ?_ 0 _ rfl; (with_reducible repeat (first | refine kN ?_ _ | refine kD ?_ | refine kA ?_ _)); exact BK354.out) hg (Kd.R_ne HO_6.out BK354.out (by decide))); have n3_ := aM (hb); have n4_ := aM (ho); clear HO_5; clear BK352; clear BK354; clear HB; clear HO_6; have HO_5 := n0_; have BK352 := n1_; have BK354 := n2_; have HB := n3_; have HO357 := n4_; clear n0_ n1_ n2_ n3_ n4_; clear ho hb hg hat))
           go_roundg k1
           case measure => have := HK1.out; omega
           case rel => exact ⟨(y355), (wrap64 (x7_1 + 1)), (by first | rfl | (simp; done) | (simp [*]; done)), H', ⟨by have := HK1.out; omega⟩, ⟨by (with_reducible repeat (first | apply Kd.R_alloc | apply Kd.R_drewN | apply Kd.R_drew)); exact Kd.R_mono HO_5.out (fun _ hk => trivial)⟩, ⟨by (with_reducible repeat (first | apply Kd.R_alloc | apply Kd.R_drewN | apply Kd.R_drew)); exact Kd.R_mono HO357.out (fun _ hk => trivial)⟩, ⟨by repeat (first | (with_reducible first | exact HB.out | apply bA | apply bN | apply bD | refine bS ?_ GE352.out | refine bS ?_ GE354.out) | exact HB.out)⟩⟩
          ·
           rw [if_neg c17] at H
           exact absurd H (by simp)
         ·
          replace c16 := Bool.eq_false_iff.mpr c16
          subst c16
          have H1 : (if 0 ≤ (Int.tmod (wrap64 (x7_1 + 2)) (t341.length : Int)) then (if (Int.tmod (wrap64 (x7_1 + 2)) (t341.length : Int)) < (t341.length : Int) then (fleuronref03_row.l1 k1 t341 x6_1 x7_1 1 ((rd_T106 t341 x7_1).f0.f0) ((rd_T106 t341 x7_1).f0.f1) ((rd_T106 t341 (ji12)).f0.f0) ((rd_T106 t341 (ji12)).f0.f1) false ((rd_T106 t341 (Int.tmod (wrap64 (x7_1 + 2)) (t341.length : Int))).f0.f0) ((rd_T106 t341 (Int.tmod (wrap64 (x7_1 + 2)) (t341.length : Int))).f0.f1)) else (none)) else (none)) = some r := by rw [if_neg (show ¬ (false = true) by decide)] at H; exact H
          clear H
          have H := H1
          clear H1
          obtain ⟨ji24, hji24⟩ : ∃ j_ : Int, (Int.tmod (wrap64 (x7_1 + 2)) (t341.length : Int)) = j_ := ⟨_, rfl⟩
          replace H : (if 0 ≤ (ji24) then (if (ji24) < (t341.length : Int) then (fleuronref03_row.l1 k1 t341 x6_1 x7_1 1 ((rd_T106 t341 x7_1).f0.f0) ((rd_T106 t341 x7_1).f0.f1) ((rd_T106 t341 (ji12)).f0.f0) ((rd_T106 t341 (ji12)).f0.f1) false ((rd_T106 t341 (ji24)).f0.f0) ((rd_T106 t341 (ji24)).f0.f1)) else (none)) else (none)) = some r := by first | (rw [hji24] at H; exact H) | (simp only [hji24] at H ⊢; exact H)
          by_cases c25 : 0 ≤ (ji24)
          ·
           rw [if_pos c25] at H
           have c25b0 : decide (0 ≤ (ji24)) = true := decide_eq_true c25
           clear c25
           by_cases c26 : (ji24) < (t341.length : Int)
           ·
            rw [if_pos c26] at H
            have c26b0 : decide ((ji24) < (t341.length : Int)) = true := decide_eq_true c26
            clear c26
            have H' := aM H
            clear H
            have p351 : 0 ≤ (x7_1 : Int) := of_decide_eq_true (by assumption)
            have q351 : x7_1 < (t341.length : Int) := of_decide_eq_true (by assumption)
            obtain ⟨ad351, e351, hx351_0, hx351_1, hx351_2⟩ := at_T106 (Kd.R_reads' HO_5.out).2.2 x7_1 p351 q351
            (try rw [← Nbq15.out] at hx351_2)
            obtain rfl : ad344 = ad351 := (by injection e351)
            replace p351 := eq_true p351
            replace q351 := eq_true q351
            go_wp2_with (first | ((with_reducible refine gate_dst (N := 8) rfl ?_); refine box_event ?hg (N := 8) ?hd (cs := #[.int .i64 0, .int .i64 0]) (t := 52) ?hr ?_; (case hd => rfl); (case hg => rfl); (case hr => first | (go_simp; done) | (go_simp; rfl)); intro gb352 hg w27 hbox hb; have n0_ := aM (Kd.R_below (by (with_reducible repeat (first | apply Kd.R_alloc | apply Kd.R_drewN | apply Kd.R_drew)); exact HO_5.out) hb); have n1_ := aM (Kd.R_below (Kd.R_elderB (by (with_reducible repeat (first | apply Kd.R_alloc | apply Kd.R_drewN | apply Kd.R_drew)); exact HO_6.out) gb352 (Nat.le_of_eq hg.symm)) hb); have n2_ := aM (below_step (by repeat (first | (with_reducible first | exact HB.out | apply bA | apply bN | apply bD) | exact HB.out)) hb); have n3_ := aM (hbox); have n4_ := aM ((by rw [hg]; exact (below_size (by repeat (first | (with_reducible first | exact HB.out | apply bA | apply bN | apply bD) | exact HB.out))) : w.heap.size ≤ gb352)); have n5_ := aM ((by rw [hg]; exact (below_size (by repeat (first | (with_reducible first | exact HB.out | apply bA | apply bN | apply bD) | exact HB.out))) : w.heap.size ≤ gb352)); clear HO_5; clear HO_6; clear HB; have HO_5 := n0_; have HO_6 := n1_; have HB := n2_; have BK352 := n3_; have GW352 := n4_; have GE352 := n5_; clear n0_ n1_ n2_ n3_ n4_ n5_; clear hb hbox hg; have hcz28_0 : w27.cell? ⟨gb352, 0, none⟩ = some (.int .i64 0) := (blk_cell BK352.out 0).trans rfl; have hcz28_1 : w27.cell? ⟨gb352, 1, none⟩ = some (.int .i64 0) := (blk_cell BK352.out 1).trans rfl; have hfz28_0 := blk_frozen BK352.out 0; have hfz28_1 := blk_frozen BK352.out 1; have p353 : 0 ≤ ((ji12) : Int) := of_decide_eq_true (by assumption); have q353 : (ji12) < (t341.length : Int) := of_decide_eq_true (by assumption); obtain ⟨ad353, e353, hx353_0, hx353_1, hx353_2⟩ := at_T106 (Kd.R_reads' HO_5.out).2.2 (ji12) p353 q353; (try rw [← Nbq15.out] at hx353_2); obtain rfl : ad344 = ad353 := (by injection e353); have hn353_0 : ad344.block ≠ gb352 := Kd.own_blk (by first | exact Kd.R_ne HO_5.out BK352.out (by decide) | exact (fun e_ => (HO_5.out.1 _ e_.symm).2 rfl) | exact (fun e_ => (HO_5.out.1 _ e_.symm) rfl)); have hn353_1 : ad344.block ≠ gb352 := Kd.own_blk (by first | exact Kd.R_ne HO_5.out BK352.out (by decide) | exact (fun e_ => (HO_5.out.1 _ e_.symm).2 rfl) | exact (fun e_ => (HO_5.out.1 _ e_.symm) rfl)); replace hx353_0 := (cell_far (p := ⟨gb352, 0, none⟩) (by first | (rw [add_block]; exact hn353_0) | (show (Addr.add _ _).block ≠ _; rw [add_block]; exact hn353_0) | exact hn353_0) (.int .i64 ((rd_T106 t341 x7_1).f0.f0))).trans hx353_0; replace hx353_1 := (cell_far (p := ⟨gb352, 0, none⟩) (by first | (rw [add_block]; exact hn353_0) | (show (Addr.add _ _).block ≠ _; rw [add_block]; exact hn353_0) | exact hn353_0) (.int .i64 ((rd_T106 t341 x7_1).f0.f0))).trans hx353_1; replace hx353_2 := (cell_far (p := ⟨gb352, 0, none⟩) (by first | (rw [add_block]; exact hn353_0) | (show (Addr.add _ _).block ≠ _; rw [add_block]; exact hn353_0) | exact hn353_0) (.int .i64 ((rd_T106 t341 x7_1).f0.f0))).trans hx353_2; replace hx353_0 := (cell_far (p := ⟨gb352, 1, none⟩) (by first | (rw [add_block]; exact hn353_1) | (show (Addr.add _ _).block ≠ _; rw [add_block]; exact hn353_1) | exact hn353_1) (.int .i64 ((rd_T106 t341 x7_1).f0.f1))).trans hx353_0; replace hx353_1 := (cell_far (p := ⟨gb352, 1, none⟩) (by first | (rw [add_block]; exact hn353_1) | (show (Addr.add _ _).block ≠ _; rw [add_block]; exact hn353_1) | exact hn353_1) (.int .i64 ((rd_T106 t341 x7_1).f0.f1))).trans hx353_1; replace hx353_2 := (cell_far (p := ⟨gb352, 1, none⟩) (by first | (rw [add_block]; exact hn353_1) | (show (Addr.add _ _).block ≠ _; rw [add_block]; exact hn353_1) | exact hn353_1) (.int .i64 ((rd_T106 t341 x7_1).f0.f1))).trans hx353_2; clear hn353_0; clear hn353_1; replace p353 := eq_true p353; replace q353 := eq_true q353) | ((with_reducible refine gate_dst (N := 9) rfl ?_); refine box_event ?hg (N := 9) ?hd (cs := #[.int .i64 0, .int .i64 0, .bool false]) (t := 106) ?hr ?_; (case hd => rfl); (case hg => rfl); (case hr => first | (go_simp; done) | (go_simp; rfl)); intro gb354 hg w29 hbox hb; have n0_ := aM (Kd.R_below (Kd.R_elderB (by (with_reducible repeat (first | apply Kd.R_alloc | apply Kd.R_drewN | apply Kd.R_drew)); exact (Kd.R_mono (Kd.R_far (p := ⟨gb352, 1, none⟩) (Kd.R_far (p := ⟨gb352, 0, none⟩) (Kd.R_types HO_5.out BK352.out (by decide)) (fun _ hk => hk.2) (.int .i64 ((rd_T106 t341 x7_1).f0.f0))) (fun _ hk => hk.2) (.int .i64 ((rd_T106 t341 x7_1).f0.f1))) (fun _ h_ => h_.1))) gb354 (Nat.le_of_eq hg.symm)) hb); have n1_ := aM (Kd.R_below (by (with_reducible repeat (first | apply Kd.R_alloc | apply Kd.R_drewN | apply Kd.R_drew)); exact (Kd.R_mono (Kd.R_far (p := ⟨gb352, 1, none⟩) (Kd.R_far (p := ⟨gb352, 0, none⟩) (Kd.R_mono HO_6.out (fun k_ hk => (⟨hk, hk.2⟩ : _ ∧ k_ ≠ gb352))) (fun _ hk => hk.2) (.int .i64 ((rd_T106 t341 x7_1).f0.f0))) (fun _ hk => hk.2) (.int .i64 ((rd_T106 t341 x7_1).f0.f1))) (fun _ h_ => h_.1))) hb); have n2_ := aM (blk_below (g := gb352) (o := .cells #[.int .i64 ((rd_T106 t341 x7_1).f0.f0), .int .i64 ((rd_T106 t341 x7_1).f0.f1)] 52 (0, 0)) (by (with_reducible repeat (first | refine kN ?_ _ | refine kD ?_ | refine kA ?_ _)); refine blk_put (cs := #[.int .i64 ((rd_T106 t341 x7_1).f0.f0), .int .i64 0]) ?_ 1 _ rfl; (with_reducible repeat (first | refine kN ?_ _ | refine kD ?_ | refine kA ?_ _)); refine blk_put (cs := #[.int .i64 0, .int .i64 0]) ?_ 0 _ rfl; (with_reducible repeat (first | refine kN ?_ _ | refine kD ?_ | refine kA ?_ _)); exact BK352.out) hb); have n3_ := aM (below_step (by repeat (first | (with_reducible first | exact HB.out | apply bA | apply bN | apply bD | refine bS ?_ GE352.out) | exact HB.out)) hb); have n4_ := aM (hbox); have n5_ := aM ((by rw [hg]; exact (below_size (by repeat (first | (with_reducible first | exact HB.out | apply bA | apply bN | apply bD | refine bS ?_ GE352.out) | exact HB.out))) : w.heap.size ≤ gb354)); have n6_ := aM ((by rw [hg]; exact (below_size (by repeat (first | (with_reducible first | exact HB.out | apply bA | apply bN | apply bD | refine bS ?_ GE352.out) | exact HB.out))) : w.heap.size ≤ gb354)); have n7_ := aM ((by rw [hg]; exact Nat.ne_of_lt (blk_lt (g := gb352) (o := .cells #[.int .i64 ((rd_T106 t341 x7_1).f0.f0), .int .i64 ((rd_T106 t341 x7_1).f0.f1)] 52 (0, 0)) (by (with_reducible repeat (first | refine kN ?_ _ | refine kD ?_ | refine kA ?_ _)); refine blk_put (cs := #[.int .i64 ((rd_T106 t341 x7_1).f0.f0), .int .i64 0]) ?_ 1 _ rfl; (with_reducible repeat (first | refine kN ?_ _ | refine kD ?_ | refine kA ?_ _)); refine blk_put (cs := #[.int .i64 0, .int .i64 0]) ?_ 0 _ rfl; (with_reducible repeat (first | refine kN ?_ _ | refine kD ?_ | refine kA ?_ _)); exact BK352.out)) : gb352 ≠ gb354)); have n8_ := aM ((by rw [hg]; exact Nat.ne_of_gt (blk_lt (g := gb352) (o := .cells #[.int .i64 ((rd_T106 t341 x7_1).f0.f0), .int .i64 ((rd_T106 t341 x7_1).f0.f1)] 52 (0, 0)) (by (with_reducible repeat (first | refine kN ?_ _ | refine kD ?_ | refine kA ?_ _)); refine blk_put (cs := #[.int .i64 ((rd_T106 t341 x7_1).f0.f0), .int .i64 0]) ?_ 1 _ rfl; (with_reducible repeat (first | refine kN ?_ _ | refine kD ?_ | refine kA ?_ _)); refine blk_put (cs := #[.int .i64 0, .int .i64 0]) ?_ 0 _ rfl; (with_reducible repeat (first | refine kN ?_ _ | refine kD ?_ | refine kA ?_ _)); exact BK352.out)) : gb354 ≠ gb352)); clear HO_5; clear HO_6; clear BK352; clear HB; have HO_5 := n0_; have HO_6 := n1_; have BK352 := n2_; have HB := n3_; have BK354 := n4_; have GW354 := n5_; have GE354 := n6_; have NB352_354 := n7_; have NB354_352 := n8_; clear n0_ n1_ n2_ n3_ n4_ n5_ n6_ n7_ n8_; clear hb hbox hg; have hnb30 := NB354_352.out; have hnc30 := NB352_354.out; have hcz31_0 : w29.cell? ⟨gb354, 0, none⟩ = some (.int .i64 0) := (blk_cell BK354.out 0).trans rfl; have hcz31_1 : w29.cell? ⟨gb354, 1, none⟩ = some (.int .i64 0) := (blk_cell BK354.out 1).trans rfl; have hcz31_2 : w29.cell? ⟨gb354, 2, none⟩ = some (.bool false) := (blk_cell BK354.out 2).trans rfl; have hfz31_0 := blk_frozen BK354.out 0; have hfz31_1 := blk_frozen BK354.out 1; have hfz31_2 := blk_frozen BK354.out 2; have p358 : 0 ≤ ((ji24) : Int) := of_decide_eq_true (by assumption); have q358 : (ji24) < (t341.length : Int) := of_decide_eq_true (by assumption); obtain ⟨ad358, e358, hx358_0, hx358_1, hx358_2⟩ := at_T106 (Kd.R_reads' HO_5.out).2.2 (ji24) p358 q358; (try rw [← Nbq15.out] at hx358_2); obtain rfl : ad344 = ad358 := (by injection e358); have hn358_0 : ad344.block ≠ gb354 := Kd.own_blk (by first | exact Kd.R_ne HO_5.out BK354.out (by decide) | exact (fun e_ => (HO_5.out.1 _ e_.symm).2 rfl) | exact (fun e_ => (HO_5.out.1 _ e_.symm) rfl)); have hn358_1 : ad344.block ≠ gb354 := Kd.own_blk (by first | exact Kd.R_ne HO_5.out BK354.out (by decide) | exact (fun e_ => (HO_5.out.1 _ e_.symm).2 rfl) | exact (fun e_ => (HO_5.out.1 _ e_.symm) rfl)); have hn358_2 : ad344.block ≠ gb354 := Kd.own_blk (by first | exact Kd.R_ne HO_5.out BK354.out (by decide) | exact (fun e_ => (HO_5.out.1 _ e_.symm).2 rfl) | exact (fun e_ => (HO_5.out.1 _ e_.symm) rfl)); replace hx358_0 := (cell_far (p := ⟨gb354, 0, none⟩) (by first | (rw [add_block]; exact hn358_0) | (show (Addr.add _ _).block ≠ _; rw [add_block]; exact hn358_0) | exact hn358_0) (.int .i64 ((rd_T106 t341 (ji12)).f0.f0))).trans hx358_0; replace hx358_1 := (cell_far (p := ⟨gb354, 0, none⟩) (by first | (rw [add_block]; exact hn358_0) | (show (Addr.add _ _).block ≠ _; rw [add_block]; exact hn358_0) | exact hn358_0) (.int .i64 ((rd_T106 t341 (ji12)).f0.f0))).trans hx358_1; replace hx358_2 := (cell_far (p := ⟨gb354, 0, none⟩) (by first | (rw [add_block]; exact hn358_0) | (show (Addr.add _ _).block ≠ _; rw [add_block]; exact hn358_0) | exact hn358_0) (.int .i64 ((rd_T106 t341 (ji12)).f0.f0))).trans hx358_2; replace hx358_0 := (cell_far (p := ⟨gb354, 1, none⟩) (by first | (rw [add_block]; exact hn358_1) | (show (Addr.add _ _).block ≠ _; rw [add_block]; exact hn358_1) | exact hn358_1) (.int .i64 ((rd_T106 t341 (ji12)).f0.f1))).trans hx358_0; replace hx358_1 := (cell_far (p := ⟨gb354, 1, none⟩) (by first | (rw [add_block]; exact hn358_1) | (show (Addr.add _ _).block ≠ _; rw [add_block]; exact hn358_1) | exact hn358_1) (.int .i64 ((rd_T106 t341 (ji12)).f0.f1))).trans hx358_1; replace hx358_2 := (cell_far (p := ⟨gb354, 1, none⟩) (by first | (rw [add_block]; exact hn358_1) | (show (Addr.add _ _).block ≠ _; rw [add_block]; exact hn358_1) | exact hn358_1) (.int .i64 ((rd_T106 t341 (ji12)).f0.f1))).trans hx358_2; replace hx358_0 := (cell_far (p := ⟨gb354, 2, none⟩) (by first | (rw [add_block]; exact hn358_2) | (show (Addr.add _ _).block ≠ _; rw [add_block]; exact hn358_2) | exact hn358_2) (.bool false)).trans hx358_0; replace hx358_1 := (cell_far (p := ⟨gb354, 2, none⟩) (by first | (rw [add_block]; exact hn358_2) | (show (Addr.add _ _).block ≠ _; rw [add_block]; exact hn358_2) | exact hn358_2) (.bool false)).trans hx358_1; replace hx358_2 := (cell_far (p := ⟨gb354, 2, none⟩) (by first | (rw [add_block]; exact hn358_2) | (show (Addr.add _ _).block ≠ _; rw [add_block]; exact hn358_2) | exact hn358_2) (.bool false)).trans hx358_2; clear hn358_0; clear hn358_1; clear hn358_2; replace p358 := eq_true p358; replace q358 := eq_true q358) | ((with_reducible refine gate_dst (N := 10) rfl ?_); refine box_event ?hg (N := 10) ?hd (cs := #[.int .i64 0, .int .i64 0]) (t := 52) ?hr ?_; (case hd => rfl); (case hg => rfl); (case hr => first | (go_simp; done) | (go_simp; rfl)); intro gb359 hg w32 hbox hb; have n0_ := aM (Kd.R_below (by (with_reducible repeat (first | apply Kd.R_alloc | apply Kd.R_drewN | apply Kd.R_drew)); exact (Kd.R_mono (Kd.R_far (p := ⟨gb354, 2, none⟩) (Kd.R_far (p := ⟨gb354, 1, none⟩) (Kd.R_far (p := ⟨gb354, 0, none⟩) (Kd.R_mono HO_5.out (fun k_ hk => (⟨hk, hk.2⟩ : _ ∧ k_ ≠ gb354))) (fun _ hk => hk.2) (.int .i64 ((rd_T106 t341 (ji12)).f0.f0))) (fun _ hk => hk.2) (.int .i64 ((rd_T106 t341 (ji12)).f0.f1))) (fun _ hk => hk.2) (.bool false)) (fun _ h_ => h_.1))) hb); have n1_ := aM (Kd.R_below (Kd.R_elderB (by (with_reducible repeat (first | apply Kd.R_alloc | apply Kd.R_drewN | apply Kd.R_drew)); exact (Kd.R_mono (Kd.R_far (p := ⟨gb354, 2, none⟩) (Kd.R_far (p := ⟨gb354, 1, none⟩) (Kd.R_far (p := ⟨gb354, 0, none⟩) (Kd.R_types HO_6.out BK354.out (by decide)) (fun _ hk => hk.2) (.int .i64 ((rd_T106 t341 (ji12)).f0.f0))) (fun _ hk => hk.2) (.int .i64 ((rd_T106 t341 (ji12)).f0.f1))) (fun _ hk => hk.2) (.bool false)) (fun _ h_ => h_.1))) gb359 (Nat.le_of_eq hg.symm)) hb); have n2_ := aM (blk_below (g := gb352) (o := .cells #[.int .i64 ((rd_T106 t341 x7_1).f0.f0), .int .i64 ((rd_T106 t341 x7_1).f0.f1)] 52 (0, 0)) (by (with_reducible repeat (first | refine kN ?_ _ | refine kD ?_ | refine kA ?_ _)); refine blk_far ?_ NB352_354.out _; (with_reducible repeat (first | refine kN ?_ _ | refine kD ?_ | refine kA ?_ _)); refine blk_far ?_ NB352_354.out _; (with_reducible repeat (first | refine kN ?_ _ | refine kD ?_ | refine kA ?_ _)); refine blk_far ?_ NB352_354.out _; (with_reducible repeat (first | refine kN ?_ _ | refine kD ?_ | refine kA ?_ _)); exact BK352.out) hb); have n3_ := aM (blk_below (g := gb354) (o := .cells #[.int .i64 ((rd_T106 t341 (ji12)).f0.f0), .int .i64 ((rd_T106 t341 (ji12)).f0.f1), .bool false] 106 (0, 0)) (by (with_reducible repeat (first | refine kN ?_ _ | refine kD ?_ | refine kA ?_ _)); refine blk_put (cs := #[.int .i64 ((rd_T106 t341 (ji12)).f0.f0), .int .i64 ((rd_T106 t341 (ji12)).f0.f1), .bool false]) ?_ 2 _ rfl; (with_reducible repeat (first | refine kN ?_ _ | refine kD ?_ | refine kA ?_ _)); refine blk_put (cs := #[.int .i64 ((rd_T106 t341 (ji12)).f0.f0), .int .i64 0, .bool false]) ?_ 1 _ rfl; (with_reducible repeat (first | refine kN ?_ _ | refine kD ?_ | refine kA ?_ _)); refine blk_put (cs := #[.int .i64 0, .int .i64 0, .bool false]) ?_ 0 _ rfl; (with_reducible repeat (first | refine kN ?_ _ | refine kD ?_ | refine kA ?_ _)); exact BK354.out) hb); have n4_ := aM (below_step (by repeat (first | (with_reducible first | exact HB.out | apply bA | apply bN | apply bD | refine bS ?_ GE352.out | refine bS ?_ GE354.out) | exact HB.out)) hb); have n5_ := aM (hbox); have n6_ := aM ((by rw [hg]; exact (below_size (by repeat (first | (with_reducible first | exact HB.out | apply bA | apply bN | apply bD | refine bS ?_ GE352.out | refine bS ?_ GE354.out) | exact HB.out))) : w.heap.size ≤ gb359)); have n7_ := aM ((by rw [hg]; exact (below_size (by repeat (first | (with_reducible first | exact HB.out | apply bA | apply bN | apply bD | refine bS ?_ GE352.out | refine bS ?_ GE354.out) | exact HB.out))) : w.heap.size ≤ gb359)); have n8_ := aM ((by rw [hg]; exact Nat.ne_of_lt (blk_lt (g := gb352) (o := .cells #[.int .i64 ((rd_T106 t341 x7_1).f0.f0), .int .i64 ((rd_T106 t341 x7_1).f0.f1)] 52 (0, 0)) (by (with_reducible repeat (first | refine kN ?_ _ | refine kD ?_ | refine kA ?_ _)); refine blk_far ?_ NB352_354.out _; (with_reducible repeat (first | refine kN ?_ _ | refine kD ?_ | refine kA ?_ _)); refine blk_far ?_ NB352_354.out _; (with_reducible repeat (first | refine kN ?_ _ | refine kD ?_ | refine kA ?_ _)); refine blk_far ?_ NB352_354.out _; (with_reducible repeat (first | refine kN ?_ _ | refine kD ?_ | refine kA ?_ _)); exact BK352.out)) : gb352 ≠ gb359)); have n9_ := aM ((by rw [hg]; exact Nat.ne_of_gt (blk_lt (g := gb352) (o := .cells #[.int .i64 ((rd_T106 t341 x7_1).f0.f0), .int .i64 ((rd_T106 t341 x7_1).f0.f1)] 52 (0, 0)) (by (with_reducible repeat (first | refine kN ?_ _ | refine kD ?_ | refine kA ?_ _)); refine blk_far ?_ NB352_354.out _; (with_reducible repeat (first | refine kN ?_ _ | refine kD ?_ | refine kA ?_ _)); refine blk_far ?_ NB352_354.out _; (with_reducible repeat (first | refine kN ?_ _ | refine kD ?_ | refine kA ?_ _)); refine blk_far ?_ NB352_354.out _; (with_reducible repeat (first | refine kN ?_ _ | refine kD ?_ | refine kA ?_ _)); exact BK352.out)) : gb359 ≠ gb352)); have n10_ := aM ((by rw [hg]; exact Nat.ne_of_lt (blk_lt (g := gb354) (o := .cells #[.int .i64 ((rd_T106 t341 (ji12)).f0.f0), .int .i64 ((rd_T106 t341 (ji12)).f0.f1), .bool false] 106 (0, 0)) (by (with_reducible repeat (first | refine kN ?_ _ | refine kD ?_ | refine kA ?_ _)); refine blk_put (cs := #[.int .i64 ((rd_T106 t341 (ji12)).f0.f0), .int .i64 ((rd_T106 t341 (ji12)).f0.f1), .bool false]) ?_ 2 _ rfl; (with_reducible repeat (first | refine kN ?_ _ | refine kD ?_ | refine kA ?_ _)); refine blk_put (cs := #[.int .i64 ((rd_T106 t341 (ji12)).f0.f0), .int .i64 0, .bool false]) ?_ 1 _ rfl; (with_reducible repeat (first | refine kN ?_ _ | refine kD ?_ | refine kA ?_ _)); refine blk_put (cs := #[.int .i64 0, .int .i64 0, .bool false]) ?_ 0 _ rfl; (with_reducible repeat (first | refine kN ?_ _ | refine kD ?_ | refine kA ?_ _)); exact BK354.out)) : gb354 ≠ gb359)); have n11_ := aM ((by rw [hg]; exact Nat.ne_of_gt (blk_lt (g := gb354) (o := .cells #[.int .i64 ((rd_T106 t341 (ji12)).f0.f0), .int .i64 ((rd_T106 t341 (ji12)).f0.f1), .bool false] 106 (0, 0)) (by (with_reducible repeat (first | refine kN ?_ _ | refine kD ?_ | refine kA ?_ _)); refine blk_put (cs := #[.int .i64 ((rd_T106 t341 (ji12)).f0.f0), .int .i64 ((rd_T106 t341 (ji12)).f0.f1), .bool false]) ?_ 2 _ rfl; (with_reducible repeat (first | refine kN ?_ _ | refine kD ?_ | refine kA ?_ _)); refine blk_put (cs := #[.int .i64 ((rd_T106 t341 (ji12)).f0.f0), .int .i64 0, .bool false]) ?_ 1 _ rfl; (with_reducible repeat (first | refine kN ?_ _ | refine kD ?_ | refine kA ?_ _)); refine blk_put (cs := #[.int .i64 0, .int .i64 0, .bool false]) ?_ 0 _ rfl; (with_reducible repeat (first | refine kN ?_ _ | refine kD ?_ | refine kA ?_ _)); exact BK354.out)) : gb359 ≠ gb354)); clear HO_5; clear HO_6; clear BK352; clear BK354; clear HB; have HO_5 := n0_; have HO_6 := n1_; have BK352 := n2_; have BK354 := n3_; have HB := n4_; have BK359 := n5_; have GW359 := n6_; have GE359 := n7_; have NB352_359 := n8_; have NB359_352 := n9_; have NB354_359 := n10_; have NB359_354 := n11_; clear n0_ n1_ n2_ n3_ n4_ n5_ n6_ n7_ n8_ n9_ n10_ n11_; clear hb hbox hg; have hnb33 := NB359_352.out; have hnc33 := NB352_359.out; have hnb34 := NB359_354.out; have hnc34 := NB354_359.out; have hcz35_0 : w32.cell? ⟨gb359, 0, none⟩ = some (.int .i64 0) := (blk_cell BK359.out 0).trans rfl; have hcz35_1 : w32.cell? ⟨gb359, 1, none⟩ = some (.int .i64 0) := (blk_cell BK359.out 1).trans rfl; have hfz35_0 := blk_frozen BK359.out 0; have hfz35_1 := blk_frozen BK359.out 1))
            go_loopg [6, 11] k1 (fun kq v6 v11 w' => ∃ (x6_2 : List (S52)) (x11_2 : Int), v11 = .int .i64 x11_2 ∧ Aside0 (fleuronref03_row.l1 kq t341 x6_2 x7_1 x11_2 ((rd_T106 t341 x7_1).f0.f0) ((rd_T106 t341 x7_1).f0.f1) ((rd_T106 t341 (ji12)).f0.f0) ((rd_T106 t341 (ji12)).f0.f1) false ((rd_T106 t341 (ji24)).f0.f0) ((rd_T106 t341 (ji24)).f0.f1) = some r) ∧ Aside0 (kq ≤ k1) ∧ Aside0 (Kd.R k106 106 w' w.heap.size (fun k_ => k_ ≠ gb354) (.slice (some ad344) t341.length co6) t341) ∧ Aside0 (Kd.R k52 52 w' w.heap.size (fun k_ => k_ ≠ gb352 ∧ k_ ≠ gb359) v6 x6_2) ∧ Aside0 (w'.heap[gb352]? = some (.cells #[.int .i64 ((rd_T106 t341 x7_1).f0.f0), .int .i64 ((rd_T106 t341 x7_1).f0.f1)] 52 (0, 0))) ∧ Aside0 (w'.heap[gb354]? = some (.cells #[.int .i64 ((rd_T106 t341 (ji12)).f0.f0), .int .i64 ((rd_T106 t341 (ji12)).f0.f1), .bool false] 106 (0, 0))) ∧ Aside0 (w'.heap[gb359]? = some (.cells #[.int .i64 ((rd_T106 t341 (ji24)).f0.f0), .int .i64 ((rd_T106 t341 (ji24)).f0.f1)] 52 (0, 0))) ∧ Aside0 (Below w.heap.size w w'))
            case atStart => exact ⟨(x6_1), (1), (by first | rfl | (simp; done) | (simp [*]; done)), H', ⟨Nat.le_refl _⟩, ⟨by (with_reducible repeat (first | apply Kd.R_alloc | apply Kd.R_drewN | apply Kd.R_drew)); exact Kd.R_mono (Kd.R_far (p := ⟨gb359, 1, none⟩) (Kd.R_far (p := ⟨gb359, 0, none⟩) (Kd.R_types HO_5.out BK359.out (by decide)) (fun _ hk => hk.2) (.int .i64 ((rd_T106 t341 (ji24)).f0.f0))) (fun _ hk => hk.2) (.int .i64 ((rd_T106 t341 (ji24)).f0.f1))) (fun _ hk => hk.1.2)⟩, ⟨by (with_reducible repeat (first | apply Kd.R_alloc | apply Kd.R_drewN | apply Kd.R_drew)); exact Kd.R_mono (Kd.R_far (p := ⟨gb359, 1, none⟩) (Kd.R_far (p := ⟨gb359, 0, none⟩) (Kd.R_mono HO_6.out (fun k_ hk => (⟨hk, hk.2⟩ : _ ∧ k_ ≠ gb359))) (fun _ hk => hk.2) (.int .i64 ((rd_T106 t341 (ji24)).f0.f0))) (fun _ hk => hk.2) (.int .i64 ((rd_T106 t341 (ji24)).f0.f1))) (fun _ hk => ⟨hk.1.1.2, hk.1.2⟩)⟩, ⟨by (with_reducible repeat (first | refine kN ?_ _ | refine kD ?_ | refine kA ?_ _)); refine blk_far ?_ NB352_359.out _; (with_reducible repeat (first | refine kN ?_ _ | refine kD ?_ | refine kA ?_ _)); refine blk_far ?_ NB352_359.out _; (with_reducible repeat (first | refine kN ?_ _ | refine kD ?_ | refine kA ?_ _)); exact BK352.out⟩, ⟨by (with_reducible repeat (first | refine kN ?_ _ | refine kD ?_ | refine kA ?_ _)); refine blk_far ?_ NB354_359.out _; (with_reducible repeat (first | refine kN ?_ _ | refine kD ?_ | refine kA ?_ _)); refine blk_far ?_ NB354_359.out _; (with_reducible repeat (first | refine kN ?_ _ | refine kD ?_ | refine kA ?_ _)); exact BK354.out⟩, ⟨by (with_reducible repeat (first | refine kN ?_ _ | refine kD ?_ | refine kA ?_ _)); refine blk_put (cs := #[.int .i64 ((rd_T106 t341 (ji24)).f0.f0), .int .i64 0]) ?_ 1 _ rfl; (with_reducible repeat (first | refine kN ?_ _ | refine kD ?_ | refine kA ?_ _)); refine blk_put (cs := #[.int .i64 0, .int .i64 0]) ?_ 0 _ rfl; (with_reducible repeat (first | refine kN ?_ _ | refine kD ?_ | refine kA ?_ _)); exact BK359.out⟩, ⟨by repeat (first | (with_reducible first | exact HB.out | apply bA | apply bN | apply bD | refine bS ?_ GE352.out | refine bS ?_ GE354.out | refine bS ?_ GE359.out) | exact HB.out)⟩⟩
            case round =>
             clear H'
             try clear c1
             try clear q1
             try clear c2
             try clear p2
             try clear c3
             try clear p3
             try clear q3
             try clear hx3
             try clear qi3
             try clear c4
             try clear c4b0
             try clear c4b1
             try clear c5
             try clear p6
             try clear c9
             try clear c9b0
             try clear c10
             try clear c10b0
             try clear c11
             try clear c11b0
             try clear c11b1
             try clear c11b2
             try clear c13
             try clear c13b0
             try clear c14
             try clear c14b0
             try clear q15
             try clear c16
             try clear c17
             try clear c21
             try clear c25
             try clear c25b0
             try clear c26
             try clear c26b0
             try clear c30
             try clear c33
             try clear c34
             try clear p34
             try clear q34
             try clear hx34
             try clear qi34
             try clear p35
             try clear q35
             try clear hx35
             try clear hcz19_0
             try clear hcz19_1
             try clear hcz22_0
             try clear hcz22_1
             try clear hcz22_2
             try clear hcz28_0
             try clear hcz28_1
             try clear hcz31_0
             try clear hcz31_1
             try clear hcz31_2
             try clear hcz35_0
             try clear hcz35_1
             try clear hfz19_0
             try clear hfz19_1
             try clear hfz22_0
             try clear hfz22_1
             try clear hfz22_2
             try clear hfz28_0
             try clear hfz28_1
             try clear hfz31_0
             try clear hfz31_1
             try clear hfz31_2
             try clear hfz35_0
             try clear hfz35_1
             try clear hx344_0
             try clear hx344_1
             try clear hx344_2
             try clear hx351_0
             try clear hx351_1
             try clear hx351_2
             try clear hx353_0
             try clear hx353_1
             try clear hx353_2
             try clear hx358_0
             try clear hx358_1
             try clear hx358_2
             try clear p2
             try clear p3
             try clear p344
             try clear p351
             try clear p353
             try clear p358
             try clear q3
             try clear q344
             try clear q351
             try clear q353
             try clear q358
             obtain ⟨x6_2, x11_2, rfl, HA, HK2, HO_5, HO_6, BK352, BK354, BK359, HB⟩ := hrel
             cases gk with
             | zero => exact absurd HA.out (by simp [fleuronref03_row.l1])
             | succ k2 =>
              have H := HA.out
              clear HA
              simp only [fleuronref03_row.l1] at H
              by_cases c36 : x11_2 ≤ 8
              ·
               rw [if_pos c36] at H
               have c36b0 : decide (x11_2 ≤ 8) = true := decide_eq_true c36
               clear c36
               replace H := Option.bind_eq_some_iff.mp H
               obtain ⟨t360, A370, H⟩ := H
               replace H : ((fleuronref03_mix.f x11_2 ((rd_T106 t341 x7_1).f0.f1) ((rd_T106 t341 (ji12)).f0.f1) ((rd_T106 t341 (ji24)).f0.f1)).bind fun t361 => (if x6_2.length < 8796093022208 then (fleuronref03_row.l1 k2 t341 (x6_2 ++ [(⟨t360, t361⟩ : S52)]) x7_1 (wrap64 (x11_2 + 1)) ((rd_T106 t341 x7_1).f0.f0) ((rd_T106 t341 x7_1).f0.f1) ((rd_T106 t341 (ji12)).f0.f0) ((rd_T106 t341 (ji12)).f0.f1) false ((rd_T106 t341 (ji24)).f0.f0) ((rd_T106 t341 (ji24)).f0.f1)) else (none))) = some r := H
               have A37 := aM A370
               clear A370
               replace H := Option.bind_eq_some_iff.mp H
               obtain ⟨t361, A380, H⟩ := H
               replace H : (if x6_2.length < 8796093022208 then (fleuronref03_row.l1 k2 t341 (x6_2 ++ [(⟨t360, t361⟩ : S52)]) x7_1 (wrap64 (x11_2 + 1)) ((rd_T106 t341 x7_1).f0.f0) ((rd_T106 t341 x7_1).f0.f1) ((rd_T106 t341 (ji12)).f0.f0) ((rd_T106 t341 (ji12)).f0.f1) false ((rd_T106 t341 (ji24)).f0.f0) ((rd_T106 t341 (ji24)).f0.f1)) else (none)) = some r := H
               have A38 := aM A380
               clear A380
               by_cases c39 : x6_2.length < 8796093022208
               ·
                rw [if_pos c39] at H
                have LMc39 := aM c39
                clear c39
                obtain ⟨y362, hy362⟩ : ∃ y_ : List (S52), y_ = (x6_2 ++ [(⟨t360, t361⟩ : S52)]) := ⟨_, rfl⟩
                replace H : (fleuronref03_row.l1 k2 t341 y362 x7_1 (wrap64 (x11_2 + 1)) ((rd_T106 t341 x7_1).f0.f0) ((rd_T106 t341 x7_1).f0.f1) ((rd_T106 t341 (ji12)).f0.f0) ((rd_T106 t341 (ji12)).f0.f1) false ((rd_T106 t341 (ji24)).f0.f0) ((rd_T106 t341 (ji24)).f0.f1)) = some r := by first | (rw [hy362]; with_reducible exact H) | (have H2_ := (Option.bind_some _ _).symm.trans H; rw [hy362]; with_reducible exact H2_) | (have H2_ := (Option.bind_some _ _).symm.trans H; with_reducible exact H2_) | with_reducible exact H | (rw [hy362]; exact H) | exact H
                have Ny362 := aM hy362
                clear hy362
                have H' := aM H
                clear H
                try go_wp2
                have n0_ := aM (Kd.R_drew HO_5.out)
                have n1_ := aM (Kd.R_drew HO_6.out)
                have n2_ := aM (kD BK352.out)
                have n3_ := aM (kD BK354.out)
                have n4_ := aM (kD BK359.out)
                have n5_ := aM (bD HB.out)
                clear HO_5
                clear HO_6
                clear BK352
                clear BK354
                clear BK359
                clear HB
                have HO_5 := n0_
                have HO_6 := n1_
                have BK352 := n2_
                have BK354 := n3_
                have BK359 := n4_
                have HB := n5_
                clear n0_ n1_ n2_ n3_ n4_ n5_
                refine start_ (n := 23) (S := fun w' => w'.cell? ⟨gb352, 0, none⟩ = some (.int .i64 ((rd_T106 t341 x7_1).f0.f0)) ∧ w'.cell? ⟨gb352, 1, none⟩ = some (.int .i64 ((rd_T106 t341 x7_1).f0.f1)) ∧ w'.cell? ⟨gb354, 0, none⟩ = some (.int .i64 ((rd_T106 t341 (ji12)).f0.f0)) ∧ w'.cell? ⟨gb354, 1, none⟩ = some (.int .i64 ((rd_T106 t341 (ji12)).f0.f1)) ∧ w'.cell? ⟨gb354, 2, none⟩ = some (.bool false) ∧ w'.cell? ⟨gb359, 0, none⟩ = some (.int .i64 ((rd_T106 t341 (ji24)).f0.f0)) ∧ w'.cell? ⟨gb359, 1, none⟩ = some (.int .i64 ((rd_T106 t341 (ji24)).f0.f1))) (ds := []) #[false, false, false, false, false, false, false, false, false, false, false, false, false, false, false, false, false, false, false, false, false, false, false] (by kernel_rfl) rfl rfl ⟨(blk_cell BK352.out 0).trans rfl, (blk_cell BK352.out 1).trans rfl, (blk_cell BK354.out 0).trans rfl, (blk_cell BK354.out 1).trans rfl, (blk_cell BK354.out 2).trans rfl, (blk_cell BK359.out 0).trans rfl, (blk_cell BK359.out 1).trans rfl⟩ (fun hHeld => ?_); refine with_tabW fleuronref03_row.tab14 fleuronref03_row.bits14 (fun HT_ HW_ => ?_)
                generalize wr.drew = w40 at HO_5 HO_6 BK352 BK354 BK359 HB hHeld ⊢
                refine pure_ (i := 0) (N := some 59) (v := ?_) (a' := ?_) #[true, false, false, false, false, false, false, false, false, false, false, false, false, false, false, false, false, false, false, false, false, false, false] rfl rfl (any_of HT_.out (by kernel_rfl)) (fun _ _ _ h => h) (Or.inl ⟨by rfl, ?_⟩) ?_ ?_
                rotate_left
                ·
                 intro w'
                 go_simp
                 with_reducible rfl
                rotate_left
                ·
                 simp only [Act.put, List.setIfInBounds_toArray, List.set_cons_zero, List.set_cons_succ, i64_w, i32_w]
                 rfl
                refine pure_ (i := 1) (N := some 60) (v := ?_) (a' := ?_) #[true, true, false, false, false, false, false, false, false, false, false, false, false, false, false, false, false, false, false, false, false, false, false] rfl rfl (any_of HT_.out (by kernel_rfl)) (fun _ _ _ h => h) (Or.inl ⟨by rfl, ?_⟩) ?_ ?_
                rotate_left
                ·
                 intro w'
                 go_simp
                 with_reducible rfl
                rotate_left
                ·
                 simp only [Act.put, List.setIfInBounds_toArray, List.set_cons_zero, List.set_cons_succ, i64_w, i32_w]
                 rfl
                refine pure_ (i := 2) (N := some 61) (v := ?_) (a' := ?_) #[true, true, true, false, false, false, false, false, false, false, false, false, false, false, false, false, false, false, false, false, false, false, false] rfl rfl (any_of HT_.out (by kernel_rfl)) (fun _ _ _ h => h) (Or.inl ⟨by rfl, ?_⟩) ?_ ?_
                rotate_left
                ·
                 intro w'
                 go_simp
                 with_reducible rfl
                rotate_left
                ·
                 simp only [Act.put, List.setIfInBounds_toArray, List.set_cons_zero, List.set_cons_succ, i64_w, i32_w]
                 rfl
                refine pure_ (i := 4) (N := some 63) (v := ?_) (a' := ?_) #[true, true, true, false, true, false, false, false, false, false, false, false, false, false, false, false, false, false, false, false, false, false, false] rfl rfl (any_of HT_.out (by kernel_rfl)) (fun _ _ _ h => h) (Or.inl ⟨by rfl, ?_⟩) ?_ ?_
                rotate_left
                ·
                 intro w'
                 go_simp
                 with_reducible rfl
                rotate_left
                ·
                 simp only [Act.put, List.setIfInBounds_toArray, List.set_cons_zero, List.set_cons_succ, i64_w, i32_w]
                 rfl
                refine pure_ (i := 5) (N := some 64) (v := ?_) (a' := ?_) #[true, true, true, false, true, true, false, false, false, false, false, false, false, false, false, false, false, false, false, false, false, false, false] rfl rfl (any_of HT_.out (by kernel_rfl)) (fun _ _ _ h => h) (Or.inl ⟨by rfl, ?_⟩) ?_ ?_
                rotate_left
                ·
                 intro w'
                 go_simp
                 with_reducible rfl
                rotate_left
                ·
                 simp only [Act.put, List.setIfInBounds_toArray, List.set_cons_zero, List.set_cons_succ, i64_w, i32_w]
                 rfl
                refine pure_ (i := 7) (N := some 66) (v := ?_) (a' := ?_) #[true, true, true, false, true, true, false, true, false, false, false, false, false, false, false, false, false, false, false, false, false, false, false] rfl rfl (any_of HT_.out (by kernel_rfl)) (fun _ _ _ h => h) (Or.inl ⟨by rfl, ?_⟩) ?_ ?_
                rotate_left
                ·
                 intro w'
                 go_simp
                 with_reducible rfl
                rotate_left
                ·
                 simp only [Act.put, List.setIfInBounds_toArray, List.set_cons_zero, List.set_cons_succ, i64_w, i32_w]
                 rfl
                refine pure_ (i := 10) (N := some 69) (v := ?_) (a' := ?_) #[true, true, true, false, true, true, false, true, false, false, true, false, false, false, false, false, false, false, false, false, false, false, false] rfl rfl (any_of HT_.out (by kernel_rfl)) (fun _ _ _ h => h) (Or.inl ⟨by rfl, ?_⟩) ?_ ?_
                rotate_left
                ·
                 intro w'
                 go_simp
                 with_reducible rfl
                rotate_left
                ·
                 simp only [Act.put, List.setIfInBounds_toArray, List.set_cons_zero, List.set_cons_succ, i64_w, i32_w]
                 rfl
                refine pure_ (i := 11) (N := some 70) (v := ?_) (a' := ?_) #[true, true, true, false, true, true, false, true, false, false, true, true, false, false, false, false, false, false, false, false, false, false, false] rfl rfl (any_of HT_.out (by kernel_rfl)) (fun _ _ _ h => h) (Or.inl ⟨by rfl, ?_⟩) ?_ ?_
                rotate_left
                ·
                 intro w'
                 go_simp
                 with_reducible rfl
                rotate_left
                ·
                 simp only [Act.put, List.setIfInBounds_toArray, List.set_cons_zero, List.set_cons_succ, i64_w, i32_w]
                 rfl
                refine pure_ (i := 13) (N := some 72) (v := ?_) (a' := ?_) #[true, true, true, false, true, true, false, true, false, false, true, true, false, true, false, false, false, false, false, false, false, false, false] rfl rfl (any_of HT_.out (by kernel_rfl)) (fun _ _ _ h => h) (Or.inl ⟨by rfl, ?_⟩) ?_ ?_
                rotate_left
                ·
                 intro w'
                 go_simp
                 with_reducible rfl
                rotate_left
                ·
                 simp only [Act.put, List.setIfInBounds_toArray, List.set_cons_zero, List.set_cons_succ, i64_w, i32_w]
                 rfl
                refine pure_ (i := 14) (N := some 73) (v := ?_) (a' := ?_) #[true, true, true, false, true, true, false, true, false, false, true, true, false, true, true, false, false, false, false, false, false, false, false] rfl rfl (any_of HT_.out (by kernel_rfl)) (fun _ _ _ h => h) (Or.inl ⟨by rfl, ?_⟩) ?_ ?_
                rotate_left
                ·
                 intro w'
                 go_simp
                 with_reducible rfl
                rotate_left
                ·
                 simp only [Act.put, List.setIfInBounds_toArray, List.set_cons_zero, List.set_cons_succ, i64_w, i32_w]
                 rfl
                refine pure_ (i := 16) (N := some 75) (v := ?_) (a' := ?_) #[true, true, true, false, true, true, false, true, false, false, true, true, false, true, true, false, true, false, false, false, false, false, false] rfl rfl (any_of HT_.out (by kernel_rfl)) (fun _ _ _ h => h) (Or.inl ⟨by rfl, ?_⟩) ?_ ?_
                rotate_left
                ·
                 intro w'
                 go_simp
                 with_reducible rfl
                rotate_left
                ·
                 simp only [Act.put, List.setIfInBounds_toArray, List.set_cons_zero, List.set_cons_succ, i64_w, i32_w]
                 rfl
                refine take_ (i := 3) (N := some 62) (v := ?_) (a' := ?_) #[true, true, true, true, true, true, false, true, false, false, true, true, false, true, true, false, true, false, false, false, false, false, false] rfl rfl (take_ofW HT_.out HW_.out (by kernel_rfl)) (fun _ _ _ h => h) (Or.inl ⟨by rfl, ?_⟩) hHeld ?_ ?_
                rotate_left
                ·
                 rintro w' ⟨s0, s1, s2, s3, s4, s5, s6⟩
                 go_simp
                 with_reducible rfl
                rotate_left
                ·
                 simp only [Act.put, List.setIfInBounds_toArray, List.set_cons_zero, List.set_cons_succ, i64_w, i32_w]
                 rfl
                refine take_ (i := 6) (N := some 65) (v := ?_) (a' := ?_) #[true, true, true, true, true, true, true, true, false, false, true, true, false, true, true, false, true, false, false, false, false, false, false] rfl rfl (take_ofW HT_.out HW_.out (by kernel_rfl)) (fun _ _ _ h => h) (Or.inl ⟨by rfl, ?_⟩) hHeld ?_ ?_
                rotate_left
                ·
                 rintro w' ⟨s0, s1, s2, s3, s4, s5, s6⟩
                 go_simp
                 with_reducible rfl
                rotate_left
                ·
                 simp only [Act.put, List.setIfInBounds_toArray, List.set_cons_zero, List.set_cons_succ, i64_w, i32_w]
                 rfl
                refine take_ (i := 8) (N := some 67) (v := ?_) (a' := ?_) #[true, true, true, true, true, true, true, true, true, false, true, true, false, true, true, false, true, false, false, false, false, false, false] rfl rfl (take_ofW HT_.out HW_.out (by kernel_rfl)) (fun _ _ _ h => h) (Or.inl ⟨by rfl, ?_⟩) hHeld ?_ ?_
                rotate_left
                ·
                 rintro w' ⟨s0, s1, s2, s3, s4, s5, s6⟩
                 go_simp
                 with_reducible rfl
                rotate_left
                ·
                 simp only [Act.put, List.setIfInBounds_toArray, List.set_cons_zero, List.set_cons_succ, i64_w, i32_w]
                 rfl
                refine take_ (i := 12) (N := some 71) (v := ?_) (a' := ?_) #[true, true, true, true, true, true, true, true, true, false, true, true, true, true, true, false, true, false, false, false, false, false, false] rfl rfl (take_ofW HT_.out HW_.out (by kernel_rfl)) (fun _ _ _ h => h) (Or.inl ⟨by rfl, ?_⟩) hHeld ?_ ?_
                rotate_left
                ·
                 rintro w' ⟨s0, s1, s2, s3, s4, s5, s6⟩
                 go_simp
                 with_reducible rfl
                rotate_left
                ·
                 simp only [Act.put, List.setIfInBounds_toArray, List.set_cons_zero, List.set_cons_succ, i64_w, i32_w]
                 rfl
                refine take_ (i := 15) (N := some 74) (v := ?_) (a' := ?_) #[true, true, true, true, true, true, true, true, true, false, true, true, true, true, true, true, true, false, false, false, false, false, false] rfl rfl (take_ofW HT_.out HW_.out (by kernel_rfl)) (fun _ _ _ h => h) (Or.inl ⟨by rfl, ?_⟩) hHeld ?_ ?_
                rotate_left
                ·
                 rintro w' ⟨s0, s1, s2, s3, s4, s5, s6⟩
                 go_simp
                 with_reducible rfl
                rotate_left
                ·
                 simp only [Act.put, List.setIfInBounds_toArray, List.set_cons_zero, List.set_cons_succ, i64_w, i32_w]
                 rfl
                refine take_ (i := 17) (N := some 76) (v := ?_) (a' := ?_) #[true, true, true, true, true, true, true, true, true, false, true, true, true, true, true, true, true, true, false, false, false, false, false] rfl rfl (take_ofW HT_.out HW_.out (by kernel_rfl)) (fun _ _ _ h => h) (Or.inl ⟨by rfl, ?_⟩) hHeld ?_ ?_
                rotate_left
                ·
                 rintro w' ⟨s0, s1, s2, s3, s4, s5, s6⟩
                 go_simp
                 with_reducible rfl
                rotate_left
                ·
                 simp only [Act.put, List.setIfInBounds_toArray, List.set_cons_zero, List.set_cons_succ, i64_w, i32_w]
                 rfl
                refine one_ (i := 9) (N := some 68) #[true, true, true, true, true, true, true, true, true, true, true, true, true, true, true, true, true, true, false, false, false, false, false] rfl rfl (one_of HT_.out (by kernel_rfl)) (by decide) (fun K hK => ?_)
                refine goes_ Try.func58 (by kernel_rfl) rfl #[.int .i64 x11_2, .int .i64 ((rd_T106 t341 x7_1).f0.f0), .int .i64 ((rd_T106 t341 (ji12)).f0.f0), .int .i64 ((rd_T106 t341 (ji24)).f0.f0)] (by rfl) rfl rfl (by (try simp only [List.map_toArray, List.map_cons, List.map_nil]); first | done | (simp only [hji12, hji24]; rfl) | rfl | (simp only [List.length_drop, List.length_take]; rfl)) ?_
                with_reducible refine (fleuronref03_mix.calls x11_2 ((rd_T106 t341 x7_1).f0.f0) ((rd_T106 t341 (ji12)).f0.f0) ((rd_T106 t341 (ji24)).f0.f0) t360 _ A37.out).mono ?_
                rintro e w' ⟨rfl, ⟨nd, rfl⟩⟩
                refine ⟨_, rfl, ?_⟩
                refine hK.out _ _ ⟨(blk_cell BK352.out 0).trans rfl, (blk_cell BK352.out 1).trans rfl, (blk_cell BK354.out 0).trans rfl, (blk_cell BK354.out 1).trans rfl, (blk_cell BK354.out 2).trans rfl, (blk_cell BK359.out 0).trans rfl, (blk_cell BK359.out 1).trans rfl⟩ (fun hHeld => ?_)
                clear hK K
                refine norm_ (a' := ?_) ?_ ?_
                rotate_left
                ·
                 show Act.put _ (some 68) _ = _
                 simp only [Act.put, List.setIfInBounds_toArray, List.set_cons_zero, List.set_cons_succ, i64_w, i32_w]
                 rfl
                refine one_ (i := 18) (N := some 77) #[true, true, true, true, true, true, true, true, true, true, true, true, true, true, true, true, true, true, true, false, false, false, false] rfl rfl (one_of HT_.out (by kernel_rfl)) (by decide) (fun K hK => ?_)
                refine goes_ Try.func58 (by kernel_rfl) rfl #[.int .i64 x11_2, .int .i64 ((rd_T106 t341 x7_1).f0.f1), .int .i64 ((rd_T106 t341 (ji12)).f0.f1), .int .i64 ((rd_T106 t341 (ji24)).f0.f1)] (by rfl) rfl rfl (by (try simp only [List.map_toArray, List.map_cons, List.map_nil]); first | done | (simp only [hji12, hji24]; rfl) | rfl | (simp only [List.length_drop, List.length_take]; rfl)) ?_
                with_reducible refine (fleuronref03_mix.calls x11_2 ((rd_T106 t341 x7_1).f0.f1) ((rd_T106 t341 (ji12)).f0.f1) ((rd_T106 t341 (ji24)).f0.f1) t361 _ A38.out).mono ?_
                rintro e w' ⟨rfl, ⟨nd, rfl⟩⟩
                refine ⟨_, rfl, ?_⟩
                refine hK.out _ _ ⟨(blk_cell BK352.out 0).trans rfl, (blk_cell BK352.out 1).trans rfl, (blk_cell BK354.out 0).trans rfl, (blk_cell BK354.out 1).trans rfl, (blk_cell BK354.out 2).trans rfl, (blk_cell BK359.out 0).trans rfl, (blk_cell BK359.out 1).trans rfl⟩ (fun hHeld => ?_)
                clear hK K
                refine norm_ (a' := ?_) ?_ ?_
                rotate_left
                ·
                 show Act.put _ (some 77) _ = _
                 simp only [Act.put, List.setIfInBounds_toArray, List.set_cons_zero, List.set_cons_succ, i64_w, i32_w]
                 rfl
                refine pure_ (i := 19) (N := some 78) (v := ?_) (a' := ?_) #[true, true, true, true, true, true, true, true, true, true, true, true, true, true, true, true, true, true, true, true, false, false, false] rfl rfl (any_of HT_.out (by kernel_rfl)) (fun _ _ _ h => h) (Or.inl ⟨by rfl, ?_⟩) ?_ ?_
                rotate_left
                ·
                 intro w'
                 go_simp
                 with_reducible rfl
                rotate_left
                ·
                 simp only [Act.put, List.setIfInBounds_toArray, List.set_cons_zero, List.set_cons_succ, i64_w, i32_w]
                 rfl
                refine one_ (i := 20) (N := some 79) #[true, true, true, true, true, true, true, true, true, true, true, true, true, true, true, true, true, true, true, true, true, false, false] rfl rfl (one_of HT_.out (by kernel_rfl)) (by decide) (fun K hK => ?_)
                refine value_ (w1 := ?_) (v := ?_) (by rfl) rfl ?_ ?_
                rotate_left 2
                ·
                 go_simp
                 constructor
                 ·
                  rfl
                 ·
                  rfl
                refine hK.out _ _ ⟨(blk_cell (kA BK352.out _) 0).trans rfl, (blk_cell (kA BK352.out _) 1).trans rfl, (blk_cell (kA BK354.out _) 0).trans rfl, (blk_cell (kA BK354.out _) 1).trans rfl, (blk_cell (kA BK354.out _) 2).trans rfl, (blk_cell (kA BK359.out _) 0).trans rfl, (blk_cell (kA BK359.out _) 1).trans rfl⟩ (fun hHeld => ?_)
                clear hK K
                refine norm_ (a' := ?_) ?_ ?_
                rotate_left
                ·
                 show Act.put _ (some 79) _ = _
                 simp only [Act.put, List.setIfInBounds_toArray, List.set_cons_zero, List.set_cons_succ, i64_w, i32_w]
                 rfl
                refine one_ (i := 21) (N := some 80) #[true, true, true, true, true, true, true, true, true, true, true, true, true, true, true, true, true, true, true, true, true, true, false] rfl rfl (one_of HT_.out (by kernel_rfl)) (by decide) (fun K hK => ?_)
                refine Kd.R_append_step k52 (w0 := w) w.heap.size (by rfl) (.tmp 59) (.tmp 79) 42 52 (.agg #[(.int .i64 0), (.int .i64 0)]) 16 rfl Try.underlying42 info52 rfl (by decide) (by omega) u6 x6_2 (⟨t360, t361⟩ : S52) [.int .i64 t360, .int .i64 t361] (fun k_ => k_ ≠ gb352 ∧ k_ ≠ gb359) (fun _ => False) rfl rfl ?aP (fun _ hk => hk.elim) ?aF ?aO ?aB ?aS ?aL ?_
                (case aP => exact k52_mkM _ _ _ (⟨t360, t361⟩ : S52))
                (case aB => exact (by repeat (first | (with_reducible first | exact HB.out | apply bA | apply bN | apply bD | refine bS ?_ GE352.out | refine bS ?_ GE354.out | refine bS ?_ GE359.out) | exact HB.out)))
                (case aF => exact (fun k_ hk => ⟨Kd.freshB (g := gb352) (o := .cells #[.int .i64 ((rd_T106 t341 x7_1).f0.f0), .int .i64 ((rd_T106 t341 x7_1).f0.f1)] 52 (0, 0)) (by (with_reducible repeat (first | refine kN ?_ _ | refine kD ?_ | refine kA ?_ _)); exact BK352.out) k_ hk, Kd.freshB (g := gb359) (o := .cells #[.int .i64 ((rd_T106 t341 (ji24)).f0.f0), .int .i64 ((rd_T106 t341 (ji24)).f0.f1)] 52 (0, 0)) (by (with_reducible repeat (first | refine kN ?_ _ | refine kD ?_ | refine kA ?_ _)); exact BK359.out) k_ hk⟩))
                (case aO => exact (by (with_reducible repeat (first | apply Kd.R_alloc | apply Kd.R_drewN | apply Kd.R_drew)); exact HO_6.out))
                (case aS => exact (below_size (by repeat (first | (with_reducible first | exact HB.out | apply bA | apply bN | apply bD | refine bS ?_ GE352.out | refine bS ?_ GE354.out | refine bS ?_ GE359.out) | exact HB.out))))
                (case aL => have := LMc39.out; omega)
                intro v363 w41 ho hb hg hat
                rw [← Ny362.out] at ho
                have n0_ := aM (Kd.R_over' (by (with_reducible repeat (first | apply Kd.R_alloc | apply Kd.R_drewN | apply Kd.R_drew)); exact HO_5.out) (Kd.R_typed (by (with_reducible repeat (first | apply Kd.R_alloc | apply Kd.R_drewN | apply Kd.R_drew)); exact HO_6.out)) (by decide) hg)
                have n1_ := aM (blk_grown (g := gb352) (o := .cells #[.int .i64 ((rd_T106 t341 x7_1).f0.f0), .int .i64 ((rd_T106 t341 x7_1).f0.f1)] 52 (0, 0)) (by (with_reducible repeat (first | refine kN ?_ _ | refine kD ?_ | refine kA ?_ _)); exact BK352.out) hg (Kd.R_away HO_6.out (fun _ hk => hk.1)))
                have n2_ := aM (blk_grown (g := gb354) (o := .cells #[.int .i64 ((rd_T106 t341 (ji12)).f0.f0), .int .i64 ((rd_T106 t341 (ji12)).f0.f1), .bool false] 106 (0, 0)) (by (with_reducible repeat (first | refine kN ?_ _ | refine kD ?_ | refine kA ?_ _)); exact BK354.out) hg (Kd.R_ne HO_6.out BK354.out (by decide)))
                have n3_ := aM (blk_grown (g := gb359) (o := .cells #[.int .i64 ((rd_T106 t341 (ji24)).f0.f0), .int .i64 ((rd_T106 t341 (ji24)).f0.f1)] 52 (0, 0)) (by (with_reducible repeat (first | refine kN ?_ _ | refine kD ?_ | refine kA ?_ _)); exact BK359.out) hg (Kd.R_away HO_6.out (fun _ hk => hk.2)))
                have n4_ := aM (hb)
                have n5_ := aM (ho)
                clear HO_5
                clear BK352
                clear BK354
                clear BK359
                clear HB
                clear HO_6
                have HO_5 := n0_
                have BK352 := n1_
                have BK354 := n2_
                have BK359 := n3_
                have HB := n4_
                have HO364 := n5_
                clear n0_ n1_ n2_ n3_ n4_ n5_
                clear ho hb hg hat
                refine hK.out _ _ ⟨(blk_cell BK352.out 0).trans rfl, (blk_cell BK352.out 1).trans rfl, (blk_cell BK354.out 0).trans rfl, (blk_cell BK354.out 1).trans rfl, (blk_cell BK354.out 2).trans rfl, (blk_cell BK359.out 0).trans rfl, (blk_cell BK359.out 1).trans rfl⟩ (fun hHeld => ?_)
                clear hK K
                refine norm_ (a' := ?_) ?_ ?_
                rotate_left
                ·
                 show Act.put _ (some 80) _ = _
                 simp only [Act.put, List.setIfInBounds_toArray, List.set_cons_zero, List.set_cons_succ, i64_w, i32_w]
                 rfl
                refine pure_ (i := 22) (N := some 6) (v := ?_) (a' := ?_) #[true, true, true, true, true, true, true, true, true, true, true, true, true, true, true, true, true, true, true, true, true, true, true] rfl rfl (any_of HT_.out (by kernel_rfl)) (fun _ _ _ h => h) (Or.inl ⟨by rfl, ?_⟩) ?_ ?_
                rotate_left
                ·
                 intro w'
                 go_simp
                 with_reducible rfl
                rotate_left
                ·
                 simp only [Act.put, List.setIfInBounds_toArray, List.set_cons_zero, List.set_cons_succ, i64_w, i32_w]
                 rfl
                refine done_ (done_of HT_.out (by kernel_rfl)) ?_
                try go_wp2
                go_roundg k2
                case measure => have := HK1.out; have := HK2.out; omega
                case rel => exact ⟨(y362), (wrap64 (x11_2 + 1)), (by first | rfl | (simp; done) | (simp [*]; done)), H', ⟨by have := HK1.out; have := HK2.out; omega⟩, ⟨by (with_reducible repeat (first | apply Kd.R_alloc | apply Kd.R_drewN | apply Kd.R_drew)); exact HO_5.out⟩, ⟨by (with_reducible repeat (first | apply Kd.R_alloc | apply Kd.R_drewN | apply Kd.R_drew)); exact HO364.out⟩, ⟨by (with_reducible repeat (first | refine kN ?_ _ | refine kD ?_ | refine kA ?_ _)); exact BK352.out⟩, ⟨by (with_reducible repeat (first | refine kN ?_ _ | refine kD ?_ | refine kA ?_ _)); exact BK354.out⟩, ⟨by (with_reducible repeat (first | refine kN ?_ _ | refine kD ?_ | refine kA ?_ _)); exact BK359.out⟩, ⟨by repeat (first | (with_reducible first | exact HB.out | apply bA | apply bN | apply bD | refine bS ?_ GE352.out | refine bS ?_ GE354.out | refine bS ?_ GE359.out) | exact HB.out)⟩⟩
               ·
                rw [if_neg c39] at H
                exact absurd H (by simp)
              ·
               rw [if_neg c36] at H
               have c36b0 : decide (x11_2 ≤ 8) = false := decide_eq_false c36
               clear c36
               have H' := aM H
               clear H
               go_wp2
               go_roundg k2
               case measure => have := HK1.out; have := HK2.out; omega
               case rel => exact ⟨(x6_2), (wrap64 (x7_1 + 2)), (by first | rfl | (simp; done) | (simp [*]; done)), H', ⟨by have := HK1.out; have := HK2.out; omega⟩, ⟨by (with_reducible repeat (first | apply Kd.R_alloc | apply Kd.R_drewN | apply Kd.R_drew)); exact Kd.R_mono HO_5.out (fun _ hk => trivial)⟩, ⟨by (with_reducible repeat (first | apply Kd.R_alloc | apply Kd.R_drewN | apply Kd.R_drew)); exact Kd.R_mono HO_6.out (fun _ hk => trivial)⟩, ⟨by repeat (first | (with_reducible first | exact HB.out | apply bA | apply bN | apply bD | refine bS ?_ GE352.out | refine bS ?_ GE354.out | refine bS ?_ GE359.out) | exact HB.out)⟩⟩
           ·
            rw [if_neg c26] at H
            exact absurd H (by simp)
          ·
           rw [if_neg c25] at H
           exact absurd H (by simp)
        ·
         rw [if_neg c14] at H
         exact absurd H (by simp)
       ·
        rw [if_neg c13] at H
        exact absurd H (by simp)
     ·
      rw [if_neg c10] at H
      exact absurd H (by simp)
    ·
     rw [if_neg c9] at H
     have c9b0 : decide (x7_1 < (t341.length : Int)) = false := decide_eq_false c9
     clear c9
     obtain ⟨ji42, hji42⟩ : ∃ j_ : Int, (wrap64 ((x6_1.length : Int) - 1)) = j_ := ⟨_, rfl⟩
     replace H : (if 0 ≤ (ji42) then (if (ji42) ≤ (x6_1.length : Int) then (some (x6_1.take ((ji42) : Int).toNat)) else (none)) else (none)) = some r := by first | (rw [hji42] at H; exact H) | (simp only [hji42] at H ⊢; exact H)
     have hji42w : (IntKind.i64.wrap ((x6_1.length : Int) - 1)) = ji42 := (i64_w _).trans hji42
     by_cases c43 : 0 ≤ (ji42)
     ·
      rw [if_pos c43] at H
      have c43b0 := eq_true c43
      have c43b1 : decide (0 ≤ (ji42)) = true := decide_eq_true c43
      clear c43
      by_cases c44 : (ji42) ≤ (x6_1.length : Int)
      ·
       rw [if_pos c44] at H
       have c44b0 := eq_true c44
       have c44b1 : decide ((ji42) ≤ (x6_1.length : Int)) = true := decide_eq_true c44
       clear c44
       obtain ⟨y348, hy348⟩ : ∃ y_ : List (S52), y_ = (x6_1.take ((ji42) : Int).toNat) := ⟨_, rfl⟩
       replace H : (some y348) = some r := by first | (rw [hy348]; with_reducible exact H) | (have H2_ := (Option.bind_some _ _).symm.trans H; rw [hy348]; with_reducible exact H2_) | (have H2_ := (Option.bind_some _ _).symm.trans H; with_reducible exact H2_) | with_reducible exact H | (rw [hy348]; exact H) | exact H
       have Ny348 := aM hy348
       clear hy348
       obtain rfl := Option.some.inj H
       obtain ⟨Ao45, co45, eo45⟩ := Kd.R_slice HO_6.out
       subst eo45
       have q46 : ((ji42) : Int) ≤ ((x6_1.length : Int) : Int) := of_decide_eq_true (by assumption)
       obtain ⟨i046, hi046, _, hsz46, _⟩ := info_parts info52
       have hcut46 := cut_to (P := Try.prog) 42 52 .i64 Try.underlying42 hi046 Ao45 x6_1.length co45 (ji42) (of_decide_eq_true (by assumption)) q46 (Kd.R_reads' HO_6.out).2.1
       have hr46 := Kd.R_take (m := ((ji42) : Int).toNat) HO_6.out (by omega)
       have hy46 : y348.length = ((ji42) : Int).toNat := (by rw [Ny348.out, List.length_take]; omega)
       rw [← Ny348.out] at hr46
       rw [← hy46] at hr46 hcut46
       clear hy46 hi046 hsz46 HO_6
       have HO350 := aM hr46
       clear hr46
       replace q46 := eq_true q46
       go_wp2
       go_ret
       exact ⟨_, by first | rfl | (simp [errW_none, errW_some] <;> rfl) | (simp only [← hji42]; first | rfl | (simp [errW_none, errW_some] <;> rfl)) | (simp [*, errW_none, errW_some] <;> rfl), by (with_reducible repeat (first | apply Kd.R_alloc | apply Kd.R_drewN | apply Kd.R_drew)); exact HO350.out, by repeat (first | (with_reducible first | exact HB.out | apply bA | apply bN | apply bD) | exact HB.out)⟩
      ·
       rw [if_neg c44] at H
       exact absurd H (by simp)
     ·
      rw [if_neg c43] at H
      exact absurd H (by simp)
 ·
  rw [if_neg c4] at H
  exact absurd H (by simp)

end Go.Proofs.Ytbmklpcheopgoaa.H

namespace Go.Proofs.Ytbmklpcheopgoaa.H
open Go.RowKit Go.Proofs.YtbmklpcheopgoaaW.PrintWords Go.Proofs.YtbmklpcheopgoaaW.PrintLast Go.Proofs.YtbmklpcheopgoaaW.PrintMore
attribute [local go_sem] max2_int min2_int max_two min_two max_three min_three max_four min_four   -- for this text's walks alone
set_option linter.unusedVariables false
set_option linter.unusedSimpArgs false

/-! ### fleuronref03_Lines: function 33 -/
def fleuronref03_Lines.l0 : Nat → List (S52) → List Bool → List (List (S52)) → List (S64) → Int → Option ((List (List (S52))))
 | 0, _, _, _, _, _ => none
 | k + 1, x0, x1, x7, x8, x9 => if x9 < (x8.length : Int) then (if 0 ≤ x9 then (if 0 ≤ ((rd_T64 x8 x9).f0) then (if ((rd_T64 x8 x9).f0) ≤ (wrap64 (((rd_T64 x8 x9).f1) + 1)) then (if (wrap64 (((rd_T64 x8 x9).f1) + 1)) ≤ (x0.length : Int) then (if (wrap64 (((rd_T64 x8 x9).f1) + 1)) ≤ (x1.length : Int) then ((fleuronref03_row.f k ((x0.take ((wrap64 (((rd_T64 x8 x9).f1) + 1)) : Int).toNat).drop (((rd_T64 x8 x9).f0) : Int).toNat) ((x1.take ((wrap64 (((rd_T64 x8 x9).f1) + 1)) : Int).toNat).drop (((rd_T64 x8 x9).f0) : Int).toNat)).bind fun t378 => (if x7.length < 5864062014805 then (fleuronref03_Lines.l0 k x0 x1 (x7 ++ [t378]) x8 (wrap64 (x9 + 1))) else (none))) else (none)) else (none)) else (none)) else (none)) else (none)) else (some x7)
def fleuronref03_Lines.f (k : Nat) (l0 : List (S52)) (l1 : List Bool) (l2 : List Int) : Option ((List (List (S52)))) := (some (([] : List (List (S52))) : List (List (S52)))).bind fun y365 => (if (l1.length : Int) = (l0.length : Int) then ((fleuronref03_Cuts.f k l2 (l0.length : Int)).bind fun t368 => (fleuronref03_Lines.l0 k l0 l1 y365 t368 0)) else (some y365))
theorem fleuronref03_Lines.mono_l : ∀ k, (∀ y0 y1 y2 y3 y4, LeO (fleuronref03_Lines.l0 k y0 y1 y2 y3 y4) (fleuronref03_Lines.l0 (k + 1) y0 y1 y2 y3 y4))
 | 0 => fun _ _ _ _ _ r h => by simp [fleuronref03_Lines.l0] at h
 | k + 1 => by
  have ih0 := fleuronref03_Lines.mono_l k
  ·
   intro y0 y1 y2 y3 y4
   unfold fleuronref03_Lines.l0
   repeat' first
   | (with_reducible exact ih0 _ _ _ _ _)
   | (with_reducible exact fleuronref03_Cuts.mono _ _ _)
   | (with_reducible exact fleuronref03_row.mono _ _ _)
   | (with_reducible exact LeO.refl _)
   | (with_reducible exact LeO.none _)
   | (with_reducible refine LeO.ite ?_ ?_)
   | (with_reducible refine LeO.bind ?_ (fun _ => ?_))
   | exact ih0 _ _ _ _ _
   | exact fleuronref03_Cuts.mono _ _ _
   | exact fleuronref03_row.mono _ _ _
   | exact LeO.none _
   | refine LeO.ite ?_ ?_
   | refine LeO.bind ?_ (fun _ => ?_)
theorem fleuronref03_Lines.mono : ∀ a0 a1 a2 k, LeO (fleuronref03_Lines.f k a0 a1 a2) (fleuronref03_Lines.f (k + 1) a0 a1 a2) := by
 intro a0 a1 a2 k
 have ih0 := fleuronref03_Lines.mono_l k
 unfold fleuronref03_Lines.f
 repeat' first
   | (with_reducible exact ih0 _ _ _ _ _)
   | (with_reducible exact fleuronref03_Cuts.mono _ _ _)
   | (with_reducible exact fleuronref03_row.mono _ _ _)
   | (with_reducible exact LeO.refl _)
   | (with_reducible exact LeO.none _)
   | (with_reducible refine LeO.ite ?_ ?_)
   | (with_reducible refine LeO.bind ?_ (fun _ => ?_))
   | exact ih0 _ _ _ _ _
   | exact fleuronref03_Cuts.mono _ _ _
   | exact fleuronref03_row.mono _ _ _
   | exact LeO.none _
   | refine LeO.ite ?_ ?_
   | refine LeO.bind ?_ (fun _ => ?_)
def fleuronref03_Lines.T10 : Bool × List (List Nat × List Nat) := (true, [([], []), ([], []), ([], []), ([], []), ([1, 2, 3], [1, 2, 3]), ([], []), ([], []), ([], []), ([5, 6, 7], [5, 6, 7]), ([4, 8], [4, 8]), ([9], [9]), ([0, 10, 9], [0, 10]), ([11, 11, 0, 1, 2, 3, 4, 5, 6, 7, 8, 9, 10, 11], [0, 11])])
def fleuronref03_Lines.B10 : List Nat := [0, 0, 0, 0, 14, 0, 0, 0, 224, 510, 1022, 2047, 4095]
theorem fleuronref03_Lines.tab10 : rtab .any (opsOf Try.f33 10) = fleuronref03_Lines.T10 := by kernel_rfl
theorem fleuronref03_Lines.bits10 : waitsOk fleuronref03_Lines.T10.2 fleuronref03_Lines.B10 = true := by kernel_rfl
set_option maxHeartbeats 8000000 in
set_option maxRecDepth 100000 in
theorem fleuronref03_Lines.calls (k : Nat) (A0 : Option Addr) (c0 : Nat) (l0 : List (S52)) (A1 : Option Addr) (c1 : Nat) (l1 : List Bool) (A2 : Option Addr) (c2 : Nat) (l2 : List Int) (r : List (List (S52))) (w : World) (hr0 : Kd.C k52 w A0 l0.length l0) (hc0 : l0.length ≤ c0) (hr1 : Kd.C Kd.bool w A1 l1.length l1) (hc1 : l1.length ≤ c1) (hr2 : Kd.C (Kd.int .i64) w A2 l2.length l2) (hc2 : l2.length ≤ c2) (h : fleuronref03_Lines.f k l0 l1 l2 = some r) :
  Calls Try.prog 33 #[.slice A0 l0.length c0, .slice A1 l1.length c1, .slice A2 l2.length c2] w fun e w' => ∃ v0_ : Value, e = .returned (v0_) ∧ Kd.S (Kd.slice 52 k52) 42 w' w.heap.size (fun _ => True) v0_ r ∧ Below w.heap.size w w' := by
 have HR0 := aM hr0
 have HC0 := aM hc0
 clear hr0 hc0
 have HR1 := aM hr1
 have HC1 := aM hc1
 clear hr1 hc1
 have HR2 := aM hr2
 have HC2 := aM hc2
 clear hr2 hc2
 have HB := aM (Below.refl w.heap.size w)
 have H : ((some (([] : List (List (S52))) : List (List (S52)))).bind fun y365 => (if (l1.length : Int) = (l0.length : Int) then ((fleuronref03_Cuts.f k l2 (l0.length : Int)).bind fun t368 => (fleuronref03_Lines.l0 k l0 l1 y365 t368 0)) else (some y365))) = some r := h
 clear h
 obtain ⟨y365, hy365⟩ : ∃ y_ : List (List (S52)), y_ = (([] : List (List (S52)))) := ⟨_, rfl⟩
 replace H : (if (l1.length : Int) = (l0.length : Int) then ((fleuronref03_Cuts.f k l2 (l0.length : Int)).bind fun t368 => (fleuronref03_Lines.l0 k l0 l1 y365 t368 0)) else (some y365)) = some r := by first | (rw [hy365]; with_reducible exact H) | (have H2_ := (Option.bind_some _ _).symm.trans H; rw [hy365]; with_reducible exact H2_) | (have H2_ := (Option.bind_some _ _).symm.trans H; with_reducible exact H2_) | with_reducible exact H | (rw [hy365]; exact H) | exact H
 have Ny365 := aM hy365
 clear hy365
 by_cases c4 : (l1.length : Int) = (l0.length : Int)
 ·
  rw [if_pos c4] at H
  have c4b0 : ((l1.length : Int) == (l0.length : Int)) = true := beq_iff_eq.mpr c4
  have c4b1 : ((l1.length : Int) != (l0.length : Int)) = false := bne_eq_false_iff_eq.mpr c4
  have c4b2 : (l1.length == l0.length) = true := by first | simpa using c4 | (simp at c4 ⊢; omega)
  clear c4
  replace H := Option.bind_eq_some_iff.mp H
  obtain ⟨t368, A50, H⟩ := H
  replace H : (fleuronref03_Lines.l0 k l0 l1 y365 t368 0) = some r := H
  have A5 := aM A50
  clear A50
  have H' := aM H
  clear H
  go_enter Try.func33, Try.ntmps33
  go_wp2_with (first | ((with_reducible refine gate_dst (N := 12) rfl ?_); refine Kd.S_lit (Kd.slice 52 k52) _ 42 ?hg (N := 12) ?hd (xs := ([] : List (List (S52)))) (inner := []) (ok := fun _ => True) (okp := fun _ => True) ?hr ?hp (fun _ hk => hk) trivial (Below.refl _ _) (Nat.le_refl _) (by simp) ?_; (case hd => rfl); (case hg => rfl); (case hr => first | (go_simp; done) | (go_simp; rfl)); (case hp => exact (Reps.none _ _)); intro v366 w6 ho7 hb hg_ hnew_; clear hg_ hnew_; (first | rw [← Ny365.out] at ho7 | (simp only [Int.reduceToNat] at ho7; rw [← Ny365.out] at ho7)); have n0_ := aM (Kd.S_lower ho7 (below_size (by repeat (first | (with_reducible first | exact HB.out | apply bA | apply bN | apply bD) | exact HB.out)))); have n1_ := aM (below_step (by repeat (first | (with_reducible first | exact HB.out | apply bA | apply bN | apply bD) | exact HB.out)) hb); clear HB; have HO367 := n0_; have HB := n1_; clear n0_ n1_; clear hb ho7) | ((with_reducible refine gate_callee (f := 42) rfl ?_); refine goesL_ (some 22) rfl rfl Try.func42 (by kernel_rfl) rfl #[.slice A2 l2.length c2, .int .i64 (l0.length : Int)] rfl (by (try simp only [List.map_toArray, List.map_cons, List.map_nil]); first | done | rfl | (simp only [List.length_drop, List.length_take]; rfl)) ?_; (with_reducible refine (fleuronref03_Cuts.calls k _ _ l2 (l0.length : Int) t368 _ ?side1 ?side2 A5.out).mono ?_); (case side1 => repeat (first | exact (Kd.C_below HR2.out HB.out) | (with_reducible refine Kd.C_alloc ?_ _) | (with_reducible refine Kd.C_drewN ?_ _) | (with_reducible refine Kd.C_drew ?_))); (case side2 => exact HC2.out); rintro e w8 ⟨v369, rfl, ho0, hb⟩; refine ⟨_, rfl, ?_⟩; have n0_ := aM (Kd.S_below (by (with_reducible repeat (first | apply Kd.S_alloc | apply Kd.S_drewN | apply Kd.S_drew)); exact HO367.out) hb); have n1_ := aM (Kd.R_lower ho0 (below_size (by repeat (first | (with_reducible first | exact HB.out | apply bA | apply bN | apply bD) | exact HB.out)))); have n2_ := aM (below_step (by repeat (first | (with_reducible first | exact HB.out | apply bA | apply bN | apply bD) | exact HB.out)) hb); clear HO367; clear HB; have HO367 := n0_; have HO370 := n1_; have HB := n2_; clear n0_ n1_ n2_; (try clear hb); (try clear hb2); (try clear hk); (try clear hi); (try clear ho0)))
  go_loopg [7, 9] k (fun kq v7 v9 w' => ∃ (x7_1 : List (List (S52))) (x9_1 : Int), v9 = .int .i64 x9_1 ∧ Aside0 (fleuronref03_Lines.l0 kq l0 l1 x7_1 t368 x9_1 = some r) ∧ Aside0 (kq ≤ k) ∧ Aside0 (Kd.S (Kd.slice 52 k52) 42 w' w.heap.size (fun _ => True) v7 x7_1) ∧ Aside0 (Kd.R k64 64 w' w.heap.size (fun _ => True) v369 t368) ∧ Aside0 (Below w.heap.size w w'))
  case atStart => exact ⟨(y365), (0), (by first | rfl | (simp; done) | (simp [*]; done)), H', ⟨Nat.le_refl _⟩, ⟨by (with_reducible repeat (first | apply Kd.S_alloc | apply Kd.S_drewN | apply Kd.S_drew)); exact HO367.out⟩, ⟨by (with_reducible repeat (first | apply Kd.R_alloc | apply Kd.R_drewN | apply Kd.R_drew)); exact HO370.out⟩, ⟨by repeat (first | (with_reducible first | exact HB.out | apply bA | apply bN | apply bD) | exact HB.out)⟩⟩
  case round =>
   clear H'
   try clear c1
   try clear c2
   try clear p2
   try clear c3
   try clear c4
   try clear c4b0
   try clear c4b1
   try clear c4b2
   obtain ⟨x7_1, x9_1, rfl, HA, HK1, HO_7, HO_8, HB⟩ := hrel
   cases gk with
   | zero => exact absurd HA.out (by simp [fleuronref03_Lines.l0])
   | succ k1 =>
    have H := HA.out
    clear HA
    simp only [fleuronref03_Lines.l0] at H
    by_cases c9 : x9_1 < (t368.length : Int)
    ·
     rw [if_pos c9] at H
     have c9b0 : decide (x9_1 < (t368.length : Int)) = true := decide_eq_true c9
     clear c9
     by_cases c10 : 0 ≤ x9_1
     ·
      rw [if_pos c10] at H
      have c10b0 : decide (0 ≤ x9_1) = true := decide_eq_true c10
      clear c10
      by_cases c11 : 0 ≤ ((rd_T64 t368 x9_1).f0)
      ·
       rw [if_pos c11] at H
       have c11b0 := eq_true c11
       have c11b1 : decide (0 ≤ ((rd_T64 t368 x9_1).f0)) = true := decide_eq_true c11
       clear c11
       by_cases c12 : ((rd_T64 t368 x9_1).f0) ≤ (wrap64 (((rd_T64 t368 x9_1).f1) + 1))
       ·
        rw [if_pos c12] at H
        have c12b0 := eq_true c12
        have c12b1 : decide (((rd_T64 t368 x9_1).f0) ≤ (wrap64 (((rd_T64 t368 x9_1).f1) + 1))) = true := decide_eq_true c12
        by_cases c13 : (wrap64 (((rd_T64 t368 x9_1).f1) + 1)) ≤ (l0.length : Int)
        ·
         rw [if_pos c13] at H
         have c13b0 := eq_true c13
         have c13b1 : decide ((wrap64 (((rd_T64 t368 x9_1).f1) + 1)) ≤ (l0.length : Int)) = true := decide_eq_true c13
         obtain ⟨y373, hy373⟩ : ∃ y_ : List (S52), y_ = ((l0.take ((wrap64 (((rd_T64 t368 x9_1).f1) + 1)) : Int).toNat).drop (((rd_T64 t368 x9_1).f0) : Int).toNat) := ⟨_, rfl⟩
         replace H : (if (wrap64 (((rd_T64 t368 x9_1).f1) + 1)) ≤ (l1.length : Int) then ((fleuronref03_row.f k1 y373 ((l1.take ((wrap64 (((rd_T64 t368 x9_1).f1) + 1)) : Int).toNat).drop (((rd_T64 t368 x9_1).f0) : Int).toNat)).bind fun t378 => (if x7_1.length < 5864062014805 then (fleuronref03_Lines.l0 k1 l0 l1 (x7_1 ++ [t378]) t368 (wrap64 (x9_1 + 1))) else (none))) else (none)) = some r := by first | (rw [hy373]; with_reducible exact H) | (have H2_ := (Option.bind_some _ _).symm.trans H; rw [hy373]; with_reducible exact H2_) | (have H2_ := (Option.bind_some _ _).symm.trans H; with_reducible exact H2_) | with_reducible exact H | (rw [hy373]; exact H) | exact H
         have Ny373 := aM hy373
         clear hy373
         have c14b0 := eq_true (of_decide_eq_true (by assumption) : 0 ≤ ((rd_T64 t368 x9_1).f0))
         have c15b0 := eq_true (of_decide_eq_true (by assumption) : ((rd_T64 t368 x9_1).f0) ≤ (wrap64 (((rd_T64 t368 x9_1).f1) + 1)))
         by_cases c16 : (wrap64 (((rd_T64 t368 x9_1).f1) + 1)) ≤ (l1.length : Int)
         ·
          rw [if_pos c16] at H
          have c16b0 := eq_true c16
          have c16b1 : decide ((wrap64 (((rd_T64 t368 x9_1).f1) + 1)) ≤ (l1.length : Int)) = true := decide_eq_true c16
          replace H := Option.bind_eq_some_iff.mp H
          obtain ⟨t378, A170, H⟩ := H
          replace H : (if x7_1.length < 5864062014805 then (fleuronref03_Lines.l0 k1 l0 l1 (x7_1 ++ [t378]) t368 (wrap64 (x9_1 + 1))) else (none)) = some r := H
          have A17 := aM A170
          clear A170
          by_cases c18 : x7_1.length < 5864062014805
          ·
           rw [if_pos c18] at H
           have LMc18 := aM c18
           clear c18
           obtain ⟨y381, hy381⟩ : ∃ y_ : List (List (S52)), y_ = (x7_1 ++ [t378]) := ⟨_, rfl⟩
           replace H : (fleuronref03_Lines.l0 k1 l0 l1 y381 t368 (wrap64 (x9_1 + 1))) = some r := by first | (rw [hy381]; with_reducible exact H) | (have H2_ := (Option.bind_some _ _).symm.trans H; rw [hy381]; with_reducible exact H2_) | (have H2_ := (Option.bind_some _ _).symm.trans H; with_reducible exact H2_) | with_reducible exact H | (rw [hy381]; exact H) | exact H
           have Ny381 := aM hy381
           clear hy381
           have H' := aM H
           clear H
           obtain ⟨Ao19, co19, eo19⟩ := Kd.R_slice HO_8.out
           subst eo19
           have p371 : 0 ≤ (x9_1 : Int) := of_decide_eq_true (by assumption)
           have q371 : x9_1 < (t368.length : Int) := of_decide_eq_true (by assumption)
           obtain ⟨ad371, e371, hx371_0, hx371_1⟩ := at_T64 (Kd.R_reads' HO_8.out).2.2 x9_1 p371 q371
           cases e371
           replace p371 := eq_true p371
           replace q371 := eq_true q371
           have p372 : 0 ≤ (x9_1 : Int) := of_decide_eq_true (by assumption)
           have q372 : x9_1 < (t368.length : Int) := of_decide_eq_true (by assumption)
           obtain ⟨ad372, e372, hx372_0, hx372_1⟩ := at_T64 (Kd.R_reads' HO_8.out).2.2 x9_1 p372 q372
           obtain rfl : ad371 = ad372 := (by injection e372)
           replace p372 := eq_true p372
           replace q372 := eq_true q372
           try go_wp2
           have n0_ := aM (Kd.S_drew HO_7.out)
           have n1_ := aM (Kd.R_drew HO_8.out)
           have n2_ := aM (bD HB.out)
           clear HO_7
           clear HO_8
           clear HB
           have HO_7 := n0_
           have HO_8 := n1_
           have HB := n2_
           clear n0_ n1_ n2_
           have q21 : ((wrap64 (((rd_T64 t368 x9_1).f1) + 1)) : Int) ≤ ((l0.length : Int) : Int) := of_decide_eq_true (by assumption)
           obtain ⟨i021, hi021, _, hsz21, _⟩ := info_parts info52
           have hroom21 : l0.length ≤ c0 := HC0.out
           have hC21 : Kd.C k52 _ A0 l0.length l0 := HR0.out
           have ql21 : (((rd_T64 t368 x9_1).f0) : Int) ≤ ((wrap64 (((rd_T64 t368 x9_1).f1) + 1)) : Int) := of_decide_eq_true (by assumption)
           have q021 : (0 : Int) ≤ (((rd_T64 t368 x9_1).f0) : Int) := of_decide_eq_true (by assumption)
           have hcut21 := cut_mid (P := Try.prog) 42 52 .i64 .i64 Try.underlying42 hi021 2 hsz21 A0 l0.length c0 ((rd_T64 t368 x9_1).f0) (wrap64 (((rd_T64 t368 x9_1).f1) + 1)) q021 ql21 q21 hroom21
           have hr21 := Kd.C_mid (lo := (((rd_T64 t368 x9_1).f0) : Int).toNat) (hi := ((wrap64 (((rd_T64 t368 x9_1).f1) + 1)) : Int).toNat) (c := c0) hC21 (by omega) (by omega) hroom21
           obtain ⟨A21, hA21⟩ : ∃ A1, A1 = (if c0 = (((rd_T64 t368 x9_1).f0) : Int).toNat then A0 else (A0 : Option Addr).map (·.add ((((rd_T64 t368 x9_1).f0) : Int).toNat * 2))) := ⟨_, rfl⟩
           obtain ⟨c21, hc21⟩ : ∃ c1, c1 = c0 - (((rd_T64 t368 x9_1).f0) : Int).toNat := ⟨_, rfl⟩
           have hy21 : y373.length = ((wrap64 (((rd_T64 t368 x9_1).f1) + 1)) : Int).toNat - (((rd_T64 t368 x9_1).f0) : Int).toNat := (by rw [Ny373.out, List.length_drop, List.length_take] <;> omega)
           rw [show ((l0).take ((wrap64 (((rd_T64 t368 x9_1).f1) + 1)) : Int).toNat).drop (((rd_T64 t368 x9_1).f0) : Int).toNat = y373 from Ny373.out.symm] at hr21
           replace hr21 : Kd.C k52 _ A21 y373.length y373 := (by rw [hA21]; exact hr21)
           rw [← hy21, ← hA21, ← hc21] at hcut21
           have HR376 := aM hr21
           have HC376 := aM (show y373.length ≤ c21 from by rw [hy21, hc21]; exact Nat.sub_le_sub_right (Nat.le_trans (by omega) hroom21) _)
           clear hr21 hC21 hroom21 hi021 hsz21 hc21
           have KY21 := aM hy21
           have KA21 := aM hA21
           clear hy21 hA21
           replace q21 := eq_true q21
           obtain ⟨i022, hi022, _, hsz22, _⟩ := info_parts info4
           obtain ⟨A22, hcut22, hA22, hC22⟩ := print_mid_of (P := Try.prog) Value.bool false 43 4 .i64 .i64 Try.underlying43 hi022 hsz22 A1 c1 l1 ((rd_T64 t368 x9_1).f0) (wrap64 (((rd_T64 t368 x9_1).f1) + 1)) (of_decide_eq_true (by assumption)) (by first | omega | exact of_decide_eq_true (by assumption)) (of_decide_eq_true (by assumption)) HC1.out
           have HR377 := aM (Kd.C_of_reads (h1 := fun _ => rfl) (hA22 _ (Kd.reads_of_C HR1.out)))
           have HC377 := aM hC22
           clear hA22 hC22 hi022 hsz22
           refine start_ (n := 13) (S := fun w' => True) (ds := []) #[false, false, false, false, false, false, false, false, false, false, false, false, false] (by kernel_rfl) rfl rfl trivial (fun hHeld => ?_); refine with_tabW fleuronref03_Lines.tab10 fleuronref03_Lines.bits10 (fun HT_ HW_ => ?_)
           generalize wr.drew = w20 at HO_7 HO_8 HB HR376 HR377 hHeld ⊢
           refine pure_ (i := 0) (N := some 40) (v := ?_) (a' := ?_) #[true, false, false, false, false, false, false, false, false, false, false, false, false] rfl rfl (any_of HT_.out (by kernel_rfl)) (fun _ _ _ h => h) (Or.inl ⟨by rfl, ?_⟩) ?_ ?_
           rotate_left
           ·
            intro w'
            go_simp
            with_reducible rfl
           rotate_left
           ·
            simp only [Act.put, List.setIfInBounds_toArray, List.set_cons_zero, List.set_cons_succ, i64_w, i32_w]
            rfl
           refine pure_ (i := 1) (N := some 41) (v := ?_) (a' := ?_) #[true, true, false, false, false, false, false, false, false, false, false, false, false] rfl rfl (any_of HT_.out (by kernel_rfl)) (fun _ _ _ h => h) (Or.inl ⟨by rfl, ?_⟩) ?_ ?_
           rotate_left
           ·
            intro w'
            go_simp
            with_reducible rfl
           rotate_left
           ·
            simp only [Act.put, List.setIfInBounds_toArray, List.set_cons_zero, List.set_cons_succ, i64_w, i32_w]
            rfl
           refine pure_ (i := 2) (N := some 42) (v := ?_) (a' := ?_) #[true, true, true, false, false, false, false, false, false, false, false, false, false] rfl rfl (any_of HT_.out (by kernel_rfl)) (fun _ _ _ h => h) (Or.inl ⟨by rfl, ?_⟩) ?_ ?_
           rotate_left
           ·
            intro w'
            go_simp
            with_reducible rfl
           rotate_left
           ·
            simp only [Act.put, List.setIfInBounds_toArray, List.set_cons_zero, List.set_cons_succ, i64_w, i32_w]
            rfl
           refine pure_ (i := 3) (N := some 43) (v := ?_) (a' := ?_) #[true, true, true, true, false, false, false, false, false, false, false, false, false] rfl rfl (any_of HT_.out (by kernel_rfl)) (fun _ _ _ h => h) (Or.inl ⟨by rfl, ?_⟩) ?_ ?_
           rotate_left
           ·
            intro w'
            go_simp
            with_reducible rfl
           rotate_left
           ·
            simp only [Act.put, List.setIfInBounds_toArray, List.set_cons_zero, List.set_cons_succ, i64_w, i32_w]
            rfl
           refine pure_ (i := 4) (N := some 44) (v := ?_) (a' := ?_) #[true, true, true, true, true, false, false, false, false, false, false, false, false] rfl rfl (any_of HT_.out (by kernel_rfl)) (fun _ _ _ h => h) (Or.inl ⟨by rfl, ?_⟩) ?_ ?_
           rotate_left
           ·
            intro w'
            go_simp
            with_reducible rfl
           rotate_left
           ·
            simp only [Act.put, List.setIfInBounds_toArray, List.set_cons_zero, List.set_cons_succ, i64_w, i32_w]
            rfl
           refine pure_ (i := 5) (N := some 45) (v := ?_) (a' := ?_) #[true, true, true, true, true, true, false, false, false, false, false, false, false] rfl rfl (any_of HT_.out (by kernel_rfl)) (fun _ _ _ h => h) (Or.inl ⟨by rfl, ?_⟩) ?_ ?_
           rotate_left
           ·
            intro w'
            go_simp
            with_reducible rfl
           rotate_left
           ·
            simp only [Act.put, List.setIfInBounds_toArray, List.set_cons_zero, List.set_cons_succ, i64_w, i32_w]
            rfl
           refine pure_ (i := 6) (N := some 46) (v := ?_) (a' := ?_) #[true, true, true, true, true, true, true, false, false, false, false, false, false] rfl rfl (any_of HT_.out (by kernel_rfl)) (fun _ _ _ h => h) (Or.inl ⟨by rfl, ?_⟩) ?_ ?_
           rotate_left
           ·
            intro w'
            go_simp
            with_reducible rfl
           rotate_left
           ·
            simp only [Act.put, List.setIfInBounds_toArray, List.set_cons_zero, List.set_cons_succ, i64_w, i32_w]
            rfl
           refine pure_ (i := 7) (N := some 47) (v := ?_) (a' := ?_) #[true, true, true, true, true, true, true, true, false, false, false, false, false] rfl rfl (any_of HT_.out (by kernel_rfl)) (fun _ _ _ h => h) (Or.inl ⟨by rfl, ?_⟩) ?_ ?_
           rotate_left
           ·
            intro w'
            go_simp
            with_reducible rfl
           rotate_left
           ·
            simp only [Act.put, List.setIfInBounds_toArray, List.set_cons_zero, List.set_cons_succ, i64_w, i32_w]
            rfl
           refine pure_ (i := 8) (N := some 48) (v := ?_) (a' := ?_) #[true, true, true, true, true, true, true, true, true, false, false, false, false] rfl rfl (any_of HT_.out (by kernel_rfl)) (fun _ _ _ h => h) (Or.inl ⟨by rfl, ?_⟩) ?_ ?_
           rotate_left
           ·
            intro w'
            go_simp
            with_reducible rfl
           rotate_left
           ·
            simp only [Act.put, List.setIfInBounds_toArray, List.set_cons_zero, List.set_cons_succ, i64_w, i32_w]
            rfl
           refine one_ (i := 9) (N := some 49) #[true, true, true, true, true, true, true, true, true, true, false, false, false] rfl rfl (one_of HT_.out (by kernel_rfl)) (by decide) (fun K hK => ?_)
           refine goes_ Try.func50 (by kernel_rfl) rfl #[.slice A21 y373.length c21, .slice A22 ((l1.take ((wrap64 (((rd_T64 t368 x9_1).f1) + 1)) : Int).toNat).drop (((rd_T64 t368 x9_1).f0) : Int).toNat).length (c1 - ((rd_T64 t368 x9_1).f0).toNat)] (by rfl) rfl rfl (by (try simp only [List.map_toArray, List.map_cons, List.map_nil]); first | done | (rw [show ((l1.take ((wrap64 (((rd_T64 t368 x9_1).f1) + 1)) : Int).toNat).drop (((rd_T64 t368 x9_1).f0) : Int).toNat).length = ((wrap64 (((rd_T64 t368 x9_1).f1) + 1)).toNat - ((rd_T64 t368 x9_1).f0).toNat) from (by rw [List.length_drop, List.length_take]; have h_ : ((wrap64 (((rd_T64 t368 x9_1).f1) + 1)) : Int) ≤ (l1.length : Int) := of_decide_eq_true (by assumption); omega)] <;> rfl) | rfl | (simp only [List.length_drop, List.length_take]; rfl)) ?_
           with_reducible refine (fleuronref03_row.calls k1 _ _ y373 _ _ ((l1.take ((wrap64 (((rd_T64 t368 x9_1).f1) + 1)) : Int).toNat).drop (((rd_T64 t368 x9_1).f0) : Int).toNat) t378 _ ?side1 ?side2 ?side3 ?side4 A17.out).mono ?_
           (case side1 => repeat (first | exact (Kd.C_below HR376.out HB.out) | (with_reducible refine Kd.C_alloc ?_ _) | (with_reducible refine Kd.C_drewN ?_ _) | (with_reducible refine Kd.C_drew ?_)))
           (case side2 => exact HC376.out)
           (case side3 => repeat (first | exact (Kd.C_below HR377.out HB.out) | (with_reducible refine Kd.C_alloc ?_ _) | (with_reducible refine Kd.C_drewN ?_ _) | (with_reducible refine Kd.C_drew ?_)))
           (case side4 => exact HC377.out)
           rintro e w23 ⟨v379, rfl, ho0, hb⟩
           refine ⟨_, rfl, ?_⟩
           have n0_ := aM (Kd.S_elder' (by (with_reducible repeat (first | apply Kd.S_alloc | apply Kd.S_drewN | apply Kd.S_drew)); exact HO_7.out) (Kd.R_base ho0) hb)
           have n1_ := aM (Kd.R_below (by (with_reducible repeat (first | apply Kd.R_alloc | apply Kd.R_drewN | apply Kd.R_drew)); exact HO_8.out) hb)
           have n2_ := aM (Kd.R_lower ho0 (below_size (by repeat (first | (with_reducible first | exact HB.out | apply bA | apply bN | apply bD) | exact HB.out))))
           have n3_ := aM (below_step (by repeat (first | (with_reducible first | exact HB.out | apply bA | apply bN | apply bD) | exact HB.out)) hb)
           clear HO_7
           clear HO_8
           clear HB
           have HO_7 := n0_
           have HO_8 := n1_
           have HO380 := n2_
           have HB := n3_
           clear n0_ n1_ n2_ n3_
           (try clear hb)
           (try clear hb2)
           (try clear hk)
           (try clear hi)
           (try clear ho0)
           obtain ⟨Ao25, co25, eo25⟩ := Kd.R_slice HO380.out
           (first | subst eo25 | (injection eo25 with f1_ f2_ f3_; have f4_ := f1_.symm; have f5_ := f3_.symm; clear f1_ f2_ f3_; subst f4_; subst f5_))
           refine hK.out _ _ trivial (fun hHeld => ?_)
           clear hK K
           refine norm_ (a' := ?_) ?_ ?_
           rotate_left
           ·
            show Act.put _ (some 49) _ = _
            simp only [Act.put, List.setIfInBounds_toArray, List.set_cons_zero, List.set_cons_succ, i64_w, i32_w]
            rfl
           refine one_ (i := 10) (N := some 50) #[true, true, true, true, true, true, true, true, true, true, true, false, false] rfl rfl (one_of HT_.out (by kernel_rfl)) (by decide) (fun K hK => ?_)
           refine value_ (w1 := ?_) (v := ?_) (by rfl) rfl ?_ ?_
           rotate_left 2
           ·
            go_simp
            constructor
            ·
             rfl
            ·
             rfl
           refine hK.out _ _ trivial (fun hHeld => ?_)
           clear hK K
           refine norm_ (a' := ?_) ?_ ?_
           rotate_left
           ·
            show Act.put _ (some 50) _ = _
            simp only [Act.put, List.setIfInBounds_toArray, List.set_cons_zero, List.set_cons_succ, i64_w, i32_w]
            rfl
           refine one_ (i := 11) (N := some 51) #[true, true, true, true, true, true, true, true, true, true, true, true, false] rfl rfl (one_of HT_.out (by kernel_rfl)) (by decide) (fun K hK => ?_)
           refine Kd.S_append_step (Kd.slice 52 k52) (w0 := w) w.heap.size (by rfl) (.tmp 40) (.tmp 50) 45 42 (.slice none 0 0) 24 rfl Try.underlying45 info42 rfl (by decide) (by omega) u7 x7_1 t378 [.slice Ao25 t378.length co25] (fun _ => True) (fun k_ => some k_ = (.slice Ao25 t378.length co25 : Value).ownBlock) rfl rfl ?aP (fun k_ hk_ => ((Kd.R_mono (ok' := fun k_ => ((fun _ => True)) k_ ∧ some k_ ≠ (u7 : Value).ownBlock) (Kd.R_apart' (HO380.out) (Kd.S_typed HO_7.out) (by decide)) (fun k_ hk => ⟨trivial, hk.2⟩))).1 k_ hk_.symm) ?aF ?aO ?aB ?aS ?aL ?_
           (case aP => exact Kd.M_row (Kd.R_mono (Kd.R_tight rfl (Kd.R_mono (ok' := fun k_ => ((fun _ => True)) k_ ∧ some k_ ≠ (u7 : Value).ownBlock) (Kd.R_apart' (HO380.out) (Kd.S_typed HO_7.out) (by decide)) (fun k_ hk => ⟨trivial, hk.2⟩))) (fun _ h_ => h_)))
           (case aB => exact (by repeat (first | (with_reducible first | exact HB.out | apply bA | apply bN | apply bD) | exact HB.out)))
           (case aF => exact (fun _ _ => trivial))
           (case aO => exact (by (with_reducible repeat (first | apply Kd.S_alloc | apply Kd.S_drewN | apply Kd.S_drew)); exact Kd.S_mono HO_7.out (fun k_ hk => ⟨trivial, fun e_ => hk.2 e_⟩)))
           (case aS => exact (below_size (by repeat (first | (with_reducible first | exact HB.out | apply bA | apply bN | apply bD) | exact HB.out))))
           (case aL => have := LMc18.out; omega)
           intro v382 w24 ho hb hg hat
           rw [← Ny381.out] at ho
           have n0_ := aM (Kd.R_over' (by (with_reducible repeat (first | apply Kd.R_alloc | apply Kd.R_drewN | apply Kd.R_drew)); exact HO_8.out) (Kd.S_typed (by (with_reducible repeat (first | apply Kd.S_alloc | apply Kd.S_drewN | apply Kd.S_drew)); exact HO_7.out)) (by decide) hg)
           have n1_ := aM (hb)
           have n2_ := aM (ho)
           clear HO_8
           clear HB
           clear HO_7
           clear HO380
           have HO_8 := n0_
           have HB := n1_
           have HO383 := n2_
           clear n0_ n1_ n2_
           clear ho hb hg hat
           refine hK.out _ _ trivial (fun hHeld => ?_)
           clear hK K
           refine norm_ (a' := ?_) ?_ ?_
           rotate_left
           ·
            show Act.put _ (some 51) _ = _
            simp only [Act.put, List.setIfInBounds_toArray, List.set_cons_zero, List.set_cons_succ, i64_w, i32_w]
            rfl
           refine pure_ (i := 12) (N := some 7) (v := ?_) (a' := ?_) #[true, true, true, true, true, true, true, true, true, true, true, true, true] rfl rfl (any_of HT_.out (by kernel_rfl)) (fun _ _ _ h => h) (Or.inl ⟨by rfl, ?_⟩) ?_ ?_
           rotate_left
           ·
            intro w'
            go_simp
            with_reducible rfl
           rotate_left
           ·
            simp only [Act.put, List.setIfInBounds_toArray, List.set_cons_zero, List.set_cons_succ, i64_w, i32_w]
            rfl
           refine done_ (done_of HT_.out (by kernel_rfl)) ?_
           try go_wp2
           go_roundg k1
           case measure => have := HK1.out; omega
           case rel => exact ⟨(y381), (wrap64 (x9_1 + 1)), (by first | rfl | (simp; done) | (simp [*]; done)), H', ⟨by have := HK1.out; omega⟩, ⟨by (with_reducible repeat (first | apply Kd.S_alloc | apply Kd.S_drewN | apply Kd.S_drew)); exact HO383.out⟩, ⟨by (with_reducible repeat (first | apply Kd.R_alloc | apply Kd.R_drewN | apply Kd.R_drew)); exact HO_8.out⟩, ⟨by repeat (first | (with_reducible first | exact HB.out | apply bA | apply bN | apply bD) | exact HB.out)⟩⟩
          ·
           rw [if_neg c18] at H
           exact absurd H (by simp)
         ·
          rw [if_neg c16] at H
          exact absurd H (by simp)
        ·
         rw [if_neg c13] at H
         exact absurd H (by simp)
       ·
        rw [if_neg c12] at H
        exact absurd H (by simp)
      ·
       rw [if_neg c11] at H
       exact absurd H (by simp)
     ·
      rw [if_neg c10] at H
      exact absurd H (by simp)
    ·
     rw [if_neg c9] at H
     have c9b0 : decide (x9_1 < (t368.length : Int)) = false := decide_eq_false c9
     clear c9
     obtain rfl := Option.some.inj H
     obtain ⟨Ao26, co26, eo26⟩ := Kd.R_slice HO_8.out
     subst eo26
     go_wp2
     go_ret
     exact ⟨_, by first | rfl | (simp [errW_none, errW_some] <;> rfl) | (simp [*, errW_none, errW_some] <;> rfl), by (with_reducible repeat (first | apply Kd.S_alloc | apply Kd.S_drewN | apply Kd.S_drew)); exact HO_7.out, by repeat (first | (with_reducible first | exact HB.out | apply bA | apply bN | apply bD) | exact HB.out)⟩
 ·
  rw [if_neg c4] at H
  have c4b0 : ((l1.length : Int) == (l0.length : Int)) = false := beq_eq_false_iff_ne.mpr c4
  have c4b1 : ((l1.length : Int) != (l0.length : Int)) = true := bne_iff_ne.mpr c4
  have c4b2 : (l1.length == l0.length) = false := by first | simpa using c4 | (simp at c4 ⊢; omega)
  obtain rfl := Option.some.inj H
  go_enter Try.func33, Try.ntmps33
  go_wp2_with (first | ((with_reducible refine gate_dst (N := 12) rfl ?_); refine Kd.S_lit (Kd.slice 52 k52) _ 42 ?hg (N := 12) ?hd (xs := ([] : List (List (S52)))) (inner := []) (ok := fun _ => True) (okp := fun _ => True) ?hr ?hp (fun _ hk => hk) trivial (Below.refl _ _) (Nat.le_refl _) (by simp) ?_; (case hd => rfl); (case hg => rfl); (case hr => first | (go_simp; done) | (go_simp; rfl)); (case hp => exact (Reps.none _ _)); intro v366 w27 ho28 hb hg_ hnew_; clear hg_ hnew_; (first | rw [← Ny365.out] at ho28 | (simp only [Int.reduceToNat] at ho28; rw [← Ny365.out] at ho28)); have n0_ := aM (Kd.S_lower ho28 (below_size (by repeat (first | (with_reducible first | exact HB.out | apply bA | apply bN | apply bD) | exact HB.out)))); have n1_ := aM (below_step (by repeat (first | (with_reducible first | exact HB.out | apply bA | apply bN | apply bD) | exact HB.out)) hb); clear HB; have HO367 := n0_; have HB := n1_; clear n0_ n1_; clear hb ho28))
  go_ret
  exact ⟨_, by first | rfl | (simp [errW_none, errW_some] <;> rfl) | (simp [*, errW_none, errW_some] <;> rfl), by (with_reducible repeat (first | apply Kd.S_alloc | apply Kd.S_drewN | apply Kd.S_drew)); exact HO367.out, by repeat (first | (with_reducible first | exact HB.out | apply bA | apply bN | apply bD) | exact HB.out)⟩

end Go.Proofs.Ytbmklpcheopgoaa.H

namespace Go.Proofs.Ytbmklpcheopgoaa.H
open Go.RowKit Go.Proofs.YtbmklpcheopgoaaW.PrintWords Go.Proofs.YtbmklpcheopgoaaW.PrintLast Go.Proofs.YtbmklpcheopgoaaW.PrintMore
attribute [local go_sem] max2_int min2_int max_two min_two max_three min_three max_four min_four   -- for this text's walks alone
set_option linter.unusedVariables false
set_option linter.unusedSimpArgs false

/-! ### fleuronlaw03_OutlineLines: function 5 -/
def fleuronlaw03_OutlineLines.j0 : Nat → List (S52) → List Bool → List Int → Bool → Option (Bool)
 | 0, _, _, _, _ => none
 | k + 1, x0, x1, x2, x14 => if x14 = true then (some true) else ((fleuronlaw03_drawn.f).bind fun t384 => (if t384 = true then ((outline_Lines.f x0 x1 x2).bind fun t385 => ((fleuronref03_Lines.f k x0 x1 x2).bind fun t388 => ((fleuronref03_SameRows.f k t385 t388).bind fun t391 => (some t391)))) else (none)))
def fleuronlaw03_OutlineLines.f (k : Nat) (l0 : List (S52)) (l1 : List Bool) (l2 : List Int) : Option (Bool) := if (l0.length : Int) > 1500 then (fleuronlaw03_OutlineLines.j0 k l0 l1 l2 true) else (fleuronlaw03_OutlineLines.j0 k l0 l1 l2 (decide ((l2.length : Int) > 300)))
theorem fleuronlaw03_OutlineLines.mono_l : ∀ k, (∀ y0 y1 y2 y3, LeO (fleuronlaw03_OutlineLines.j0 k y0 y1 y2 y3) (fleuronlaw03_OutlineLines.j0 (k + 1) y0 y1 y2 y3))
 | 0 => fun _ _ _ _ r h => by simp [fleuronlaw03_OutlineLines.j0] at h
 | k + 1 => by
  have ih0 := fleuronlaw03_OutlineLines.mono_l k
  ·
   intro y0 y1 y2 y3
   unfold fleuronlaw03_OutlineLines.j0
   repeat' first
   | (with_reducible exact ih0 _ _ _ _)
   | (with_reducible exact fleuronref03_Lines.mono _ _ _ _)
   | (with_reducible exact fleuronref03_SameRows.mono _ _ _)
   | (with_reducible exact LeO.refl _)
   | (with_reducible exact LeO.none _)
   | (with_reducible refine LeO.ite ?_ ?_)
   | (with_reducible refine LeO.bind ?_ (fun _ => ?_))
   | exact ih0 _ _ _ _
   | exact fleuronref03_Lines.mono _ _ _ _
   | exact fleuronref03_SameRows.mono _ _ _
   | exact LeO.none _
   | refine LeO.ite ?_ ?_
   | refine LeO.bind ?_ (fun _ => ?_)
theorem fleuronlaw03_OutlineLines.mono : ∀ a0 a1 a2 k, LeO (fleuronlaw03_OutlineLines.f k a0 a1 a2) (fleuronlaw03_OutlineLines.f (k + 1) a0 a1 a2) := by
 intro a0 a1 a2 k
 have ih0 := fleuronlaw03_OutlineLines.mono_l k
 unfold fleuronlaw03_OutlineLines.f
 repeat' first
   | (with_reducible exact ih0 _ _ _ _)
   | (with_reducible exact fleuronref03_Lines.mono _ _ _ _)
   | (with_reducible exact fleuronref03_SameRows.mono _ _ _)
   | (with_reducible exact LeO.refl _)
   | (with_reducible exact LeO.none _)
   | (with_reducible refine LeO.ite ?_ ?_)
   | (with_reducible refine LeO.bind ?_ (fun _ => ?_))
   | exact ih0 _ _ _ _
   | exact fleuronref03_Lines.mono _ _ _ _
   | exact fleuronref03_SameRows.mono _ _ _
   | exact LeO.none _
   | refine LeO.ite ?_ ?_
   | refine LeO.bind ?_ (fun _ => ?_)
set_option maxHeartbeats 8000000 in
set_option maxRecDepth 100000 in
theorem fleuronlaw03_OutlineLines.calls (k : Nat) (A0 : Option Addr) (c0 : Nat) (l0 : List (S52)) (A1 : Option Addr) (c1 : Nat) (l1 : List Bool) (A2 : Option Addr) (c2 : Nat) (l2 : List Int) (r : Bool) (w : World) (hr0 : Kd.C k52 w A0 l0.length l0) (hc0 : l0.length ≤ c0) (hr1 : Kd.C Kd.bool w A1 l1.length l1) (hc1 : l1.length ≤ c1) (hr2 : Kd.C (Kd.int .i64) w A2 l2.length l2) (hc2 : l2.length ≤ c2) (h : fleuronlaw03_OutlineLines.f k l0 l1 l2 = some r) :
  Calls Try.prog 5 #[.slice A0 l0.length c0, .slice A1 l1.length c1, .slice A2 l2.length c2] w fun e w' => e = .returned (.bool r) ∧ Below w.heap.size w w' := by
 have HR0 := aM hr0
 have HC0 := aM hc0
 clear hr0 hc0
 have HR1 := aM hr1
 have HC1 := aM hc1
 clear hr1 hc1
 have HR2 := aM hr2
 have HC2 := aM hc2
 clear hr2 hc2
 have HB := aM (Below.refl w.heap.size w)
 have H : (if (l0.length : Int) > 1500 then (fleuronlaw03_OutlineLines.j0 k l0 l1 l2 true) else (fleuronlaw03_OutlineLines.j0 k l0 l1 l2 (decide ((l2.length : Int) > 300)))) = some r := h
 clear h
 have HC4 := aM H
 clear H
 go_enter Try.func5, Try.ntmps5
 go_upto_region 1 with (fail)
 go_cut [14] (fun v14 wc => ∃ (kq : Nat) (x14_3 : Bool), v14 = .bool x14_3 ∧ Aside0 (fleuronlaw03_OutlineLines.j0 kq l0 l1 l2 x14_3 = some r) ∧ Aside0 (kq ≤ k) ∧ Aside0 (Below w.heap.size w wc))
 case first =>
  have H := HC4.out
  clear HC4
  by_cases c5 : (l0.length : Int) > 1500
  ·
   rw [if_pos c5] at H
   have c5b0 : decide (1500 < (l0.length : Int)) = true := decide_eq_true c5
   have c5b1 : decide (1500 < l0.length) = true := decide_eq_true (by omega)
   clear c5
   (first | rw [c5b0] | (simp only [i64_w, i32_w]; rw [c5b0]) | skip)
   have H' := aM H
   clear H
   go_wp2
   go_meet
   case rel => exact ⟨_, (true), (by first | rfl | (simp; done) | (simp [*]; done)), H', ⟨by first | omega | exact Nat.le_refl _⟩, ⟨by repeat (first | (with_reducible first | exact HB.out | apply bA | apply bN | apply bD) | exact HB.out)⟩⟩
  ·
   rw [if_neg c5] at H
   have c5b0 : decide (1500 < (l0.length : Int)) = false := decide_eq_false c5
   have c5b1 : decide (1500 < l0.length) = false := decide_eq_false (by omega)
   clear c5
   (first | rw [c5b0] | (simp only [i64_w, i32_w]; rw [c5b0]) | skip)
   have H' := aM H
   clear H
   go_wp2
   go_meet
   case rel => exact ⟨_, (decide ((l2.length : Int) > 300)), (by first | rfl | (simp; done) | (simp [*]; done)), H', ⟨by first | omega | exact Nat.le_refl _⟩, ⟨by repeat (first | (with_reducible first | exact HB.out | apply bA | apply bN | apply bD) | exact HB.out)⟩⟩
 case rest =>
  clear HC4
  try clear c1
  try clear c2
  try clear p2
  try clear c5
  try clear c5b0
  try clear c5b1
  obtain ⟨kq, x14_3, rfl, HA, HJ3, HB⟩ := hcut
  cases kq with
  | zero => exact absurd HA.out (by simp [fleuronlaw03_OutlineLines.j0])
  | succ kj3 =>
   have H := HA.out
   clear HA
   simp only [fleuronlaw03_OutlineLines.j0] at H
   by_cases c6 : x14_3 = true
   ·
    subst c6
    have H1 : (some true) = some r := by rw [if_pos rfl] at H; exact H
    clear H
    have H := H1
    clear H1
    obtain rfl := Option.some.inj H
    go_wp2
    go_ret
    exact ⟨by first | rfl | (simp [errW_none, errW_some] <;> rfl) | (simp [*, errW_none, errW_some] <;> rfl), by repeat (first | (with_reducible first | exact HB.out | apply bA | apply bN | apply bD) | exact HB.out)⟩
   ·
    replace c6 := Bool.eq_false_iff.mpr c6
    subst c6
    have H1 : ((fleuronlaw03_drawn.f).bind fun t384 => (if t384 = true then ((outline_Lines.f l0 l1 l2).bind fun t385 => ((fleuronref03_Lines.f kj3 l0 l1 l2).bind fun t388 => ((fleuronref03_SameRows.f kj3 t385 t388).bind fun t391 => (some t391)))) else (none))) = some r := by rw [if_neg (show ¬ (false = true) by decide)] at H; exact H
    clear H
    have H := H1
    clear H1
    replace H := Option.bind_eq_some_iff.mp H
    obtain ⟨t384, A70, H⟩ := H
    replace H : (if t384 = true then ((outline_Lines.f l0 l1 l2).bind fun t385 => ((fleuronref03_Lines.f kj3 l0 l1 l2).bind fun t388 => ((fleuronref03_SameRows.f kj3 t385 t388).bind fun t391 => (some t391)))) else (none)) = some r := H
    have A7 := aM A70
    clear A70
    by_cases c8 : t384 = true
    ·
     subst c8
     have H1 : ((outline_Lines.f l0 l1 l2).bind fun t385 => ((fleuronref03_Lines.f kj3 l0 l1 l2).bind fun t388 => ((fleuronref03_SameRows.f kj3 t385 t388).bind fun t391 => (some t391)))) = some r := by rw [if_pos rfl] at H; exact H
     clear H
     have H := H1
     clear H1
     replace H := Option.bind_eq_some_iff.mp H
     obtain ⟨t385, A90, H⟩ := H
     replace H : ((fleuronref03_Lines.f kj3 l0 l1 l2).bind fun t388 => ((fleuronref03_SameRows.f kj3 t385 t388).bind fun t391 => (some t391))) = some r := H
     have A9 := aM A90
     clear A90
     replace H := Option.bind_eq_some_iff.mp H
     obtain ⟨t388, A100, H⟩ := H
     replace H : ((fleuronref03_SameRows.f kj3 t385 t388).bind fun t391 => (some t391)) = some r := H
     have A10 := aM A100
     clear A100
     replace H := Option.bind_eq_some_iff.mp H
     obtain ⟨t391, A110, H⟩ := H
     replace H : (some t391) = some r := H
     have A11 := aM A110
     clear A110
     obtain rfl := Option.some.inj H
     go_wp2_with (first | ((with_reducible refine gate_callee (f := 21) rfl ?_); refine goesL_ (some 15) rfl rfl Try.func21 (by kernel_rfl) rfl #[] rfl (by (try simp only [List.map_toArray, List.map_cons, List.map_nil]); first | done | rfl | (simp only [List.length_drop, List.length_take]; rfl)) ?_; (with_reducible refine (fleuronlaw03_drawn.calls  true _ A7.out).mono ?_); rintro e w12 ⟨rfl, hb⟩; refine ⟨_, rfl, ?_⟩; have n0_ := aM (below_step (by repeat (first | (with_reducible first | exact HB.out | apply bA | apply bN | apply bD) | exact HB.out)) hb); clear HB; have HB := n0_; clear n0_; (try clear hb); (try clear hb2); (try clear hk); (try clear hi)) | (go_at_call 32; (with_reducible refine (outline_Lines.calls _ _ l0 _ _ l1 _ _ l2 t385 _ ?side1 ?side2 ?side3 ?side4 ?side5 ?side6 A9.out).mono ?_); (case side1 => repeat (first | exact (Kd.C_below HR0.out HB.out) | (with_reducible refine Kd.C_alloc ?_ _) | (with_reducible refine Kd.C_drewN ?_ _) | (with_reducible refine Kd.C_drew ?_))); (case side2 => exact HC0.out); (case side3 => repeat (first | exact (Kd.C_below HR1.out HB.out) | (with_reducible refine Kd.C_alloc ?_ _) | (with_reducible refine Kd.C_drewN ?_ _) | (with_reducible refine Kd.C_drew ?_))); (case side4 => exact HC1.out); (case side5 => repeat (first | exact (Kd.C_below HR2.out HB.out) | (with_reducible refine Kd.C_alloc ?_ _) | (with_reducible refine Kd.C_drewN ?_ _) | (with_reducible refine Kd.C_drew ?_))); (case side6 => exact HC2.out); rintro e w13 ⟨v386, rfl, ho0, hb⟩; have n0_ := aM (Kd.S_lower ho0 (below_size (by repeat (first | (with_reducible first | exact HB.out | apply bA | apply bN | apply bD) | exact HB.out)))); have n1_ := aM (below_step (by repeat (first | (with_reducible first | exact HB.out | apply bA | apply bN | apply bD) | exact HB.out)) hb); clear HB; have HO387 := n0_; have HB := n1_; clear n0_ n1_; (try clear hb); (try clear hb2); (try clear hk); (try clear hi); (try clear ho0)) | (go_at_call 33; (with_reducible refine (fleuronref03_Lines.calls kj3 _ _ l0 _ _ l1 _ _ l2 t388 _ ?side1 ?side2 ?side3 ?side4 ?side5 ?side6 A10.out).mono ?_); (case side1 => repeat (first | exact (Kd.C_below HR0.out HB.out) | (with_reducible refine Kd.C_alloc ?_ _) | (with_reducible refine Kd.C_drewN ?_ _) | (with_reducible refine Kd.C_drew ?_))); (case side2 => exact HC0.out); (case side3 => repeat (first | exact (Kd.C_below HR1.out HB.out) | (with_reducible refine Kd.C_alloc ?_ _) | (with_reducible refine Kd.C_drewN ?_ _) | (with_reducible refine Kd.C_drew ?_))); (case side4 => exact HC1.out); (case side5 => repeat (first | exact (Kd.C_below HR2.out HB.out) | (with_reducible refine Kd.C_alloc ?_ _) | (with_reducible refine Kd.C_drewN ?_ _) | (with_reducible refine Kd.C_drew ?_))); (case side6 => exact HC2.out); rintro e w14 ⟨v389, rfl, ho0, hb⟩; have n0_ := aM (Kd.S_elder' (by (with_reducible repeat (first | apply Kd.S_alloc | apply Kd.S_drewN | apply Kd.S_drew)); exact HO387.out) (Kd.S_base ho0) hb); have n1_ := aM (Kd.S_lower (Kd.S_new' ho0 (Kd.S_lt (by (with_reducible repeat (first | apply Kd.S_alloc | apply Kd.S_drewN | apply Kd.S_drew)); exact HO387.out))) (below_size (by repeat (first | (with_reducible first | exact HB.out | apply bA | apply bN | apply bD) | exact HB.out)))); have n2_ := aM (below_step (by repeat (first | (with_reducible first | exact HB.out | apply bA | apply bN | apply bD) | exact HB.out)) hb); clear HO387; clear HB; have HO387 := n0_; have HO390 := n1_; have HB := n2_; clear n0_ n1_ n2_; (try clear hb); (try clear hb2); (try clear hk); (try clear hi); (try clear ho0); obtain ⟨Ao15, co15, eo15⟩ := Kd.S_slice HO387.out; subst eo15; obtain ⟨Ao16, co16, eo16⟩ := Kd.S_slice HO390.out; subst eo16) | (go_at_call 31; (with_reducible refine (fleuronref03_SameRows.calls kj3 _ _ t385 _ _ t388 t391 _ ?side1 ?side2 ?side3 ?side4 A11.out).mono ?_); (case side1 => repeat (first | exact (Kd.S_reads' HO387.out).2.2 | (with_reducible refine Kd.C_alloc ?_ _) | (with_reducible refine Kd.C_drewN ?_ _) | (with_reducible refine Kd.C_drew ?_))); (case side2 => exact (Kd.S_reads' HO387.out).2.1); (case side3 => repeat (first | exact (Kd.S_reads' HO390.out).2.2 | (with_reducible refine Kd.C_alloc ?_ _) | (with_reducible refine Kd.C_drewN ?_ _) | (with_reducible refine Kd.C_drew ?_))); (case side4 => exact (Kd.S_reads' HO390.out).2.1); rintro e w' ⟨rfl, ⟨nd, rfl⟩⟩))
     go_ret
     exact ⟨by first | rfl | (simp [errW_none, errW_some] <;> rfl) | (simp [*, errW_none, errW_some] <;> rfl), by repeat (first | (with_reducible first | exact HB.out | apply bA | apply bN | apply bD) | exact HB.out)⟩
    ·
     replace c8 := Bool.eq_false_iff.mpr c8
     subst c8
     have H1 : (none) = some r := by rw [if_neg (show ¬ (false = true) by decide)] at H; exact H
     clear H
     have H := H1
     clear H1
     exact absurd H (by simp)

end Go.Proofs.Ytbmklpcheopgoaa.H

namespace Go.Proofs.YtbmklpcheopgoaaOpen
open Go Go.RowKit Go.ChangeShapes Go.WideShapes Go.Proofs.YtbmklpcheopgoaaW.PrintWords

/-- Whatever reads as data of type t is of kind d, and good. -/
def Opens (P : Program) (t : TypeId) {α : Type} (d : Kd α) (good : α → Prop) : Prop :=
  ∀ {H : Type} (enc : TypeId × Value → H) (w : World) (base : Nat) (spare : Nat → Bool) (held : Bool) (fuel : Nat) (cs : List Value) (x : DataW H × List MemPlace),
    DataW.trod enc P w base spare held fuel t cs = some x → ∃ y, d.K w y cs ∧ good y

/-- A number of its kind. -/
def InK (k : IntKind) (n : Int) : Prop := (Lit.int k n).wf = true
theorem InK.i64 {n : Int} (h : InK .i64 n) : -9223372036854775808 ≤ n ∧ n ≤ 9223372036854775807 := by
  exact bounds_i64 h
theorem InK.u8 {n : Int} (h : InK .u8 n) : 0 ≤ n ∧ n ≤ 255 := by
  exact bounds_u8 h
theorem opens_int {P : Program} {t : TypeId} {k : IntKind} (ht : P.underlying t = some (.int k)) : Opens P t (Kd.int k) (InK k) := by
  intro H enc w base spare held fuel cs x h
  obtain ⟨n, rfl, _, hw⟩ := DataW.trod_int ht h
  exact ⟨n, rfl, hw⟩
theorem opens_bool {P : Program} {t : TypeId} (ht : P.underlying t = some .bool) : Opens P t Kd.bool (fun _ => True) := by
  intro H enc w base spare held fuel cs x h
  obtain ⟨n, rfl, _⟩ := DataW.trod_bool ht h
  exact ⟨n, rfl, trivial⟩
theorem opens_string {P : Program} {t : TypeId} (ht : P.underlying t = some .string) : Opens P t Kd.string (fun s => s.size ≤ maxLen) := by
  intro H enc w base spare held fuel cs x h
  obtain ⟨n, rfl, _, hw⟩ := DataW.trod_string ht h
  exact ⟨n, rfl, hw⟩

theorem cells_get {w : World} {base : Nat} {a : Addr} {n : Nat} {cs : List Value} (h : w.cells? base a n = some cs) : cs.length = n ∧ ∀ i u, cs[i]? = some u → w.cell? (a.add i) = some u := by
  obtain ⟨_, hl, hc⟩ := World.cells?_some h
  refine ⟨hl, fun i u hu => ?_⟩
  have hi : i < n := by rw [← hl]; exact (List.getElem?_eq_some_iff.1 hu).1
  rw [hc i hi, hu]

theorem opens_slice {P : Program} {t e : TypeId} {α : Type} {d : Kd α} {good : α → Prop} (ht : P.underlying t = some (.slice e)) (hs : P.cellsOf e = d.sz) (he : Opens P e d good) : Opens P t (Kd.slice e d) (fun xs => xs.length ≤ 9223372036854775807 ∧ ∀ x ∈ xs, good x) := by
  intro H enc w base spare held fuel cs x h
  rcases Deep.open_slice ht h with ⟨rfl, _⟩ | ⟨a, len, cap, m, n, D, Pl, rfl, _, hl, hm, hmm, _, hel⟩
  · exact ⟨[], ⟨none, 0, rfl, Nat.le_refl _, Kd.C_nil _ _⟩, by simp, fun x hx => by simp at hx⟩
  · have key : ∀ i, i < len → ∃ y cs', d.K w y cs' ∧ good y ∧ cs'.length = d.sz ∧ ∀ j u, cs'[j]? = some u → w.cell? (a.add (i * d.sz + j)) = some u := by
      intro i hi
      obtain ⟨cs', hc, ht'⟩ := hel i (by rw [hmm]; split <;> omega)
      obtain ⟨y, hk, hg⟩ := he enc w base spare held n cs' _ ht'
      obtain ⟨hlen, hcell⟩ := cells_get hc
      rw [hs] at hlen
      refine ⟨y, cs', hk, hg, hlen, fun j u hu => ?_⟩
      have := hcell j u hu
      rwa [Deep.add_add, hs] at this
    have : ∀ k, k ≤ len → ∃ ys : List α, ys.length = k ∧ (∀ x ∈ ys, good x) ∧ ∀ i y, ys[i]? = some y → ∃ cs', cs'.length = d.sz ∧ d.K w y cs' ∧ ∀ j u, cs'[j]? = some u → w.cell? (a.add (i * d.sz + j)) = some u := by
      intro k
      induction k with
      | zero => exact fun _ => ⟨[], rfl, fun x hx => by simp at hx, fun i y h => by simp at h⟩
      | succ k ih =>
        intro hk
        obtain ⟨ys, h1, h2, h3⟩ := ih (by omega)
        obtain ⟨y, cs', q1, q2, q3, q4⟩ := key k (by omega)
        refine ⟨ys ++ [y], by simp [h1], fun x hx => ?_, fun i z hz => ?_⟩
        · rcases List.mem_append.1 hx with hx | hx
          · exact h2 x hx
          · rw [List.mem_singleton.1 hx]; exact q2
        · rcases Nat.lt_or_ge i ys.length with hi | hi
          · rw [List.getElem?_append_left hi] at hz
            exact h3 i z hz
          · have hi' : i = ys.length := by
              have := (List.getElem?_eq_some_iff.1 hz).1
              simp at this
              omega
            subst hi'
            have : y = z := by simpa using hz
            subst this
            rw [h1]
            exact ⟨cs', q3, q1, q4⟩
    obtain ⟨ys, h1, h2, h3⟩ := this len (Nat.le_refl _)
    subst h1
    have hle : ys.length ≤ 9223372036854775807 := by
      unfold maxLen at hm
      omega
    exact ⟨ys, ⟨some a, cap, rfl, hl, rfl, hle, fun _ => ⟨a, rfl, h3⟩⟩, hle, h2⟩

/-- The cells from o on are s of them, and those from o + s on. -/
theorem cutQ (cs : List Value) (o s : Nat) : cs.drop o = (cs.drop o).take s ++ cs.drop (o + s) := by
  rw [← List.drop_drop, List.take_append_drop]
theorem cutQ_last (cs : List Value) (o s : Nat) (h : cs.length = o + s) : cs.drop o = (cs.drop o).take s := by
  rw [List.take_of_length_le]; simp; omega

theorem wide_agg {P : Program} {w : World} {r : Reach} {base : Nat} {t : TypeId} {v : Value} (h : Value.okWide P w r base t v) (hu : (match P.underlying t with | some (.struct _) | some (.array _ _) => true | _ => false) = true) : ∃ cs, v = .agg cs := by
  unfold Value.okWide at h
  split at h
  · obtain ⟨cs, e, _⟩ := h; exact ⟨cs, e⟩
  · obtain ⟨cs, e, _⟩ := h; exact ⟨cs, e⟩
  · rename_i h1 h2
    split at hu
    · rename_i h3; exact absurd h3 (h1 _)
    · rename_i h3; exact absurd h3 (h2 _ _)
    · cases hu
theorem agg_list {cs : Array Value} {l : List Value} (h : (Value.agg cs).cells.toList = l) : cs = l.toArray := by
  have h' : cs.toList = l := h
  rw [← h', Array.toArray_toList]
end Go.Proofs.YtbmklpcheopgoaaOpen

namespace Go.Proofs.Ytbmklpcheopgoaa.H
open Go.RowKit Go.Proofs.YtbmklpcheopgoaaW.PrintWords Go.Proofs.YtbmklpcheopgoaaW.PrintLast Go.Proofs.YtbmklpcheopgoaaW.PrintMore
attribute [local go_sem] max2_int min2_int max_two min_two max_three min_three max_four min_four   -- for this text's walks alone
set_option linter.unusedVariables false
set_option linter.unusedSimpArgs false

/-! ### fleuronlaw03_grid: function 34 -/
def fleuronlaw03_grid.l0 : Nat → Int → Int → List (S52) → List Bool → Int → List (S33) → List Int → Option ((List (S52)) × List Bool)
 | 0, _, _, _, _, _, _, _ => none
 | k + 1, x1, x2, x8, x9, x10, x430000, x430001 => if x10 < (x430000.length : Int) then (if 0 ≤ x10 then (if x8.length < 8796093022208 then (if x9.length < 140737488355328 then (fleuronlaw03_grid.l0 k x1 x2 (x8 ++ [(⟨wrap64 (((rd_T33 x430000 x10).f0) + x1), wrap64 (((rd_T33 x430000 x10).f1) + x2)⟩ : S52)]) (x9 ++ [(rd_T33 x430000 x10).f2]) (wrap64 (x10 + 1)) x430000 x430001) else (none)) else (none)) else (none)) else (some (x8, x9))
def fleuronlaw03_grid.f (k : Nat) (l0_0 : List (S33)) (l0_1 : List Int) (a1 : Int) (a2 : Int) : Option ((List (S52)) × List Bool) := fleuronlaw03_grid.l0 k a1 a2 (([] : List (S52))) (([] : List Bool)) 0 l0_0 l0_1
theorem fleuronlaw03_grid.mono_l : ∀ k, (∀ y0 y1 y2 y3 y4 y5 y6, LeO (fleuronlaw03_grid.l0 k y0 y1 y2 y3 y4 y5 y6) (fleuronlaw03_grid.l0 (k + 1) y0 y1 y2 y3 y4 y5 y6))
 | 0 => fun _ _ _ _ _ _ _ r h => by simp [fleuronlaw03_grid.l0] at h
 | k + 1 => by
  have ih0 := fleuronlaw03_grid.mono_l k
  ·
   intro y0 y1 y2 y3 y4 y5 y6
   unfold fleuronlaw03_grid.l0
   repeat' first
   | (with_reducible exact ih0 _ _ _ _ _ _ _)
   | (with_reducible exact LeO.refl _)
   | (with_reducible exact LeO.none _)
   | (with_reducible refine LeO.ite ?_ ?_)
   | (with_reducible refine LeO.bind ?_ (fun _ => ?_))
   | exact ih0 _ _ _ _ _ _ _
   | exact LeO.none _
   | refine LeO.ite ?_ ?_
   | refine LeO.bind ?_ (fun _ => ?_)
theorem fleuronlaw03_grid.mono : ∀ a0 a1 a2 a3 k, LeO (fleuronlaw03_grid.f k a0 a1 a2 a3) (fleuronlaw03_grid.f (k + 1) a0 a1 a2 a3) := by
 intro a0 a1 a2 a3 k
 have ih0 := fleuronlaw03_grid.mono_l k
 unfold fleuronlaw03_grid.f
 repeat' first
   | (with_reducible exact ih0 _ _ _ _ _ _ _)
   | (with_reducible exact LeO.refl _)
   | (with_reducible exact LeO.none _)
   | (with_reducible refine LeO.ite ?_ ?_)
   | (with_reducible refine LeO.bind ?_ (fun _ => ?_))
   | exact ih0 _ _ _ _ _ _ _
   | exact LeO.none _
   | refine LeO.ite ?_ ?_
   | refine LeO.bind ?_ (fun _ => ?_)
def fleuronlaw03_grid.T6 : Bool × List (List Nat × List Nat) := (true, [([], []), ([], []), ([1], [1]), ([], []), ([2, 3], [2, 3]), ([4], [4]), ([5], [5]), ([], []), ([6, 7], [6, 7]), ([], []), ([9], [9]), ([], []), ([10, 11], [10, 11]), ([12], [12]), ([13], [13]), ([], []), ([14, 15], [14, 15]), ([8, 16], [8, 16]), ([17], [17]), ([0, 18], [0, 18]), ([19, 19, 0, 1, 2, 3, 4, 5, 6, 7, 8, 9, 10, 11, 12, 13, 14, 15, 16, 17, 18, 19], [0, 19])])
def fleuronlaw03_grid.B6 : List Nat := [0, 0, 2, 0, 14, 30, 62, 0, 254, 0, 512, 0, 3584, 7680, 15872, 0, 65024, 131070, 262142, 524287, 1048575]
theorem fleuronlaw03_grid.tab6 : rtab .any (opsOf Try.f34 6) = fleuronlaw03_grid.T6 := by kernel_rfl
theorem fleuronlaw03_grid.bits6 : waitsOk fleuronlaw03_grid.T6.2 fleuronlaw03_grid.B6 = true := by kernel_rfl
set_option maxHeartbeats 8000000 in
set_option maxRecDepth 100000 in
theorem fleuronlaw03_grid.calls (k : Nat) (A0_0 : Option Addr) (c0_0 : Nat) (l0_0 : List (S33)) (A0_1 : Option Addr) (c0_1 : Nat) (l0_1 : List Int) (a1 : Int) (a2 : Int) (r1 : List (S52)) (r2 : List Bool) (w : World) (hr0_0 : Kd.C k33 w A0_0 l0_0.length l0_0) (hc0_0 : l0_0.length ≤ c0_0) (hr0_1 : Kd.C (Kd.int .i64) w A0_1 l0_1.length l0_1) (hc0_1 : l0_1.length ≤ c0_1) (h : fleuronlaw03_grid.f k l0_0 l0_1 a1 a2 = some (r1, r2)) :
  Calls Try.prog 34 #[.agg #[.slice A0_0 l0_0.length c0_0, .slice A0_1 l0_1.length c0_1], .int .i64 a1, .int .i64 a2] w fun e w' => ∃ v0_ v1_ : Value, e = .returned (.tuple #[v0_, v1_]) ∧ Kd.R k52 52 w' w.heap.size (fun _ => True) v0_ r1 ∧ Kd.R Kd.bool 4 w' w.heap.size (fun _ => True) v1_ r2 ∧ Below w.heap.size w w' := by
 have hu25 := Try.underlying25
 have hu52 := Try.underlying52
 have HR0_0 := aM hr0_0
 have HC0_0 := aM hc0_0
 clear hr0_0 hc0_0
 have HR0_1 := aM hr0_1
 have HC0_1 := aM hc0_1
 clear hr0_1 hc0_1
 have HB := aM (Below.refl w.heap.size w)
 have H : (fleuronlaw03_grid.l0 k a1 a2 (([] : List (S52))) (([] : List Bool)) 0 l0_0 l0_1) = some (r1, r2) := h
 clear h
 obtain ⟨y430, hy430⟩ : ∃ y_ : List (S52), y_ = (([] : List (S52))) := ⟨_, rfl⟩
 replace H : (fleuronlaw03_grid.l0 k a1 a2 y430 (([] : List Bool)) 0 l0_0 l0_1) = some (r1, r2) := by first | (rw [hy430]; with_reducible exact H) | (have H2_ := (Option.bind_some _ _).symm.trans H; rw [hy430]; with_reducible exact H2_) | (have H2_ := (Option.bind_some _ _).symm.trans H; with_reducible exact H2_) | with_reducible exact H | (rw [hy430]; exact H) | exact H
 have Ny430 := aM hy430
 clear hy430
 obtain ⟨y433, hy433⟩ : ∃ y_ : List Bool, y_ = (([] : List Bool)) := ⟨_, rfl⟩
 replace H : (fleuronlaw03_grid.l0 k a1 a2 y430 y433 0 l0_0 l0_1) = some (r1, r2) := by first | (rw [hy433]; with_reducible exact H) | (have H2_ := (Option.bind_some _ _).symm.trans H; rw [hy433]; with_reducible exact H2_) | (have H2_ := (Option.bind_some _ _).symm.trans H; with_reducible exact H2_) | with_reducible exact H | (rw [hy433]; exact H) | exact H
 have Ny433 := aM hy433
 clear hy433
 have H' := aM H
 clear H
 go_enter Try.func34, Try.ntmps34
 go_wp2_with (first | ((with_reducible refine gate_dst (N := 3) rfl ?_); refine box_event ?hg (N := 3) ?hd (cs := #[.slice A0_0 l0_0.length c0_0, .slice A0_1 l0_1.length c0_1]) (t := 25) ?hr ?_; (case hd => rfl); (case hg => rfl); (case hr => first | (go_simp; done) | (go_simp; rfl)); intro gb429 hg w4 hbox hb; have n0_ := aM (below_step (by repeat (first | (with_reducible first | exact HB.out | apply bA | apply bN | apply bD) | exact HB.out)) hb); have n1_ := aM (hbox); have n2_ := aM ((by rw [hg]; exact (below_size (by repeat (first | (with_reducible first | exact HB.out | apply bA | apply bN | apply bD) | exact HB.out))) : w.heap.size ≤ gb429)); have n3_ := aM ((by rw [hg]; exact (below_size (by repeat (first | (with_reducible first | exact HB.out | apply bA | apply bN | apply bD) | exact HB.out))) : w.heap.size ≤ gb429)); clear HB; have HB := n0_; have BK429 := n1_; have GW429 := n2_; have GE429 := n3_; clear n0_ n1_ n2_ n3_; clear hb hbox hg) | ((with_reducible refine gate_dst (N := 11) rfl ?_); refine Kd.R_lit k52 _ 52 ?hg (N := 11) ?hd (xs := ([] : List (S52))) (inner := []) (ok := fun _ => True) (okp := fun _ => True) ?hr ?hp (fun _ hk => hk) trivial (Below.refl _ _) (Nat.le_refl _) (by simp) ?_; (case hd => rfl); (case hg => rfl); (case hr => first | (go_simp; done) | (go_simp; rfl)); (case hp => exact (Reps.none _ _)); intro v431 w5 ho6 hb hg_ hnew_; clear hg_ hnew_; (first | rw [← Ny430.out] at ho6 | (simp only [Int.reduceToNat] at ho6; rw [← Ny430.out] at ho6)); have n0_ := aM (Kd.R_lower ho6 (below_size (by repeat (first | (with_reducible first | exact HB.out | apply bA | apply bN | apply bD | refine bS ?_ GE429.out) | exact HB.out)))); have n1_ := aM (blk_below (g := gb429) (o := .cells #[.slice A0_0 l0_0.length c0_0, .slice A0_1 l0_1.length c0_1] 25 (0, 0)) (by (with_reducible repeat (first | refine kN ?_ _ | refine kD ?_ | refine kA ?_ _)); exact BK429.out) hb); have n2_ := aM (below_step (by repeat (first | (with_reducible first | exact HB.out | apply bA | apply bN | apply bD | refine bS ?_ GE429.out) | exact HB.out)) hb); clear BK429; clear HB; have HO432 := n0_; have BK429 := n1_; have HB := n2_; clear n0_ n1_ n2_; clear hb ho6) | ((with_reducible refine gate_dst (N := 12) rfl ?_); refine Kd.R_lit Kd.bool _ 4 ?hg (N := 12) ?hd (xs := ([] : List Bool)) (inner := []) (ok := fun _ => True) (okp := fun _ => True) ?hr ?hp (fun _ hk => hk) trivial (Below.refl _ _) (Nat.le_refl _) (by simp) ?_; (case hd => rfl); (case hg => rfl); (case hr => first | (go_simp; done) | (go_simp; rfl)); (case hp => exact (Reps.none _ _)); intro v434 w7 ho8 hb hg_ hnew_; clear hg_ hnew_; (first | rw [← Ny433.out] at ho8 | (simp only [Int.reduceToNat] at ho8; rw [← Ny433.out] at ho8)); have n0_ := aM (Kd.R_below (by (with_reducible repeat (first | apply Kd.R_alloc | apply Kd.R_drewN | apply Kd.R_drew)); exact HO432.out) hb); have n1_ := aM (Kd.R_lower ho8 (below_size (by repeat (first | (with_reducible first | exact HB.out | apply bA | apply bN | apply bD | refine bS ?_ GE429.out) | exact HB.out)))); have n2_ := aM (blk_below (g := gb429) (o := .cells #[.slice A0_0 l0_0.length c0_0, .slice A0_1 l0_1.length c0_1] 25 (0, 0)) (by (with_reducible repeat (first | refine kN ?_ _ | refine kD ?_ | refine kA ?_ _)); exact BK429.out) hb); have n3_ := aM (below_step (by repeat (first | (with_reducible first | exact HB.out | apply bA | apply bN | apply bD | refine bS ?_ GE429.out) | exact HB.out)) hb); clear HO432; clear BK429; clear HB; have HO432 := n0_; have HO435 := n1_; have BK429 := n2_; have HB := n3_; clear n0_ n1_ n2_ n3_; clear hb ho8))
 go_loopg [8, 9, 10] k (fun kq v8 v9 v10 w' => ∃ (x8_1 : List (S52)) (x9_1 : List Bool) (x10_1 : Int), v10 = .int .i64 x10_1 ∧ Aside0 (fleuronlaw03_grid.l0 kq a1 a2 x8_1 x9_1 x10_1 l0_0 l0_1 = some (r1, r2)) ∧ Aside0 (kq ≤ k) ∧ Aside0 (Kd.R k52 52 w' w.heap.size (fun _ => True) v8 x8_1) ∧ Aside0 (Kd.R Kd.bool 4 w' w.heap.size (fun _ => True) v9 x9_1) ∧ Aside0 (w'.heap[gb429]? = some (.cells #[(.slice A0_0 l0_0.length c0_0), (.slice A0_1 l0_1.length c0_1)] 25 (0, 0))) ∧ Aside0 (Below w.heap.size w w'))
 case atStart => exact ⟨(y430), (y433), (0), (by first | rfl | (simp; done) | (simp [*]; done)), H', ⟨Nat.le_refl _⟩, ⟨by (with_reducible repeat (first | apply Kd.R_alloc | apply Kd.R_drewN | apply Kd.R_drew)); exact HO432.out⟩, ⟨by (with_reducible repeat (first | apply Kd.R_alloc | apply Kd.R_drewN | apply Kd.R_drew)); exact HO435.out⟩, ⟨by (with_reducible repeat (first | refine kN ?_ _ | refine kD ?_ | refine kA ?_ _)); exact BK429.out⟩, ⟨by repeat (first | (with_reducible first | exact HB.out | apply bA | apply bN | apply bD | refine bS ?_ GE429.out) | exact HB.out)⟩⟩
 case round =>
  clear H'
  try clear p2
  try clear c3
  obtain ⟨x8_1, x9_1, x10_1, rfl, HA, HK1, HO_8, HO_9, BK429, HB⟩ := hrel
  cases gk with
  | zero => exact absurd HA.out (by simp [fleuronlaw03_grid.l0])
  | succ k1 =>
   have H := HA.out
   clear HA
   simp only [fleuronlaw03_grid.l0] at H
   by_cases c9 : x10_1 < (l0_0.length : Int)
   ·
    rw [if_pos c9] at H
    have c9b0 : decide (x10_1 < (l0_0.length : Int)) = true := decide_eq_true c9
    clear c9
    by_cases c10 : 0 ≤ x10_1
    ·
     rw [if_pos c10] at H
     have c10b0 : decide (0 ≤ x10_1) = true := decide_eq_true c10
     clear c10
     by_cases c11 : x8_1.length < 8796093022208
     ·
      rw [if_pos c11] at H
      have LMc11 := aM c11
      clear c11
      obtain ⟨y438, hy438⟩ : ∃ y_ : List (S52), y_ = (x8_1 ++ [(⟨wrap64 (((rd_T33 l0_0 x10_1).f0) + a1), wrap64 (((rd_T33 l0_0 x10_1).f1) + a2)⟩ : S52)]) := ⟨_, rfl⟩
      replace H : (if x9_1.length < 140737488355328 then (fleuronlaw03_grid.l0 k1 a1 a2 y438 (x9_1 ++ [(rd_T33 l0_0 x10_1).f2]) (wrap64 (x10_1 + 1)) l0_0 l0_1) else (none)) = some (r1, r2) := by first | (rw [hy438]; with_reducible exact H) | (have H2_ := (Option.bind_some _ _).symm.trans H; rw [hy438]; with_reducible exact H2_) | (have H2_ := (Option.bind_some _ _).symm.trans H; with_reducible exact H2_) | with_reducible exact H | (rw [hy438]; exact H) | exact H
      have Ny438 := aM hy438
      clear hy438
      by_cases c12 : x9_1.length < 140737488355328
      ·
       rw [if_pos c12] at H
       have LMc12 := aM c12
       clear c12
       obtain ⟨y442, hy442⟩ : ∃ y_ : List Bool, y_ = (x9_1 ++ [(rd_T33 l0_0 x10_1).f2]) := ⟨_, rfl⟩
       replace H : (fleuronlaw03_grid.l0 k1 a1 a2 y438 y442 (wrap64 (x10_1 + 1)) l0_0 l0_1) = some (r1, r2) := by first | (rw [hy442]; with_reducible exact H) | (have H2_ := (Option.bind_some _ _).symm.trans H; rw [hy442]; with_reducible exact H2_) | (have H2_ := (Option.bind_some _ _).symm.trans H; with_reducible exact H2_) | with_reducible exact H | (rw [hy442]; exact H) | exact H
       have Ny442 := aM hy442
       clear hy442
       have H' := aM H
       clear H
       have hcz13_0 : wr.cell? ⟨gb429, 0, none⟩ = some (.slice A0_0 l0_0.length c0_0) := (blk_cell BK429.out 0).trans rfl
       have hcz13_1 : wr.cell? ⟨gb429, 1, none⟩ = some (.slice A0_1 l0_1.length c0_1) := (blk_cell BK429.out 1).trans rfl
       have hfz13_0 := blk_frozen BK429.out 0
       have hfz13_1 := blk_frozen BK429.out 1
       try go_wp2
       have n0_ := aM (Kd.R_drew HO_8.out)
       have n1_ := aM (Kd.R_drew HO_9.out)
       have n2_ := aM (kD BK429.out)
       have n3_ := aM (bD HB.out)
       clear HO_8
       clear HO_9
       clear BK429
       clear HB
       have HO_8 := n0_
       have HO_9 := n1_
       have BK429 := n2_
       have HB := n3_
       clear n0_ n1_ n2_ n3_
       have p436 : 0 ≤ (x10_1 : Int) := of_decide_eq_true (by assumption)
       have q436 : x10_1 < (l0_0.length : Int) := of_decide_eq_true (by assumption)
       obtain ⟨ad436, e436, hx436_0, hx436_1, hx436_2⟩ := at_T33 HR0_0.out x10_1 p436 q436
       have hw436_2 := hx436_2
       have hw436_1 := hx436_1
       have hw436_0 := hx436_0
       cases e436
       replace hx436_0 := (HB.out.cell (World.block_lt_of_cell? w _ hx436_0)).trans hx436_0
       replace hx436_1 := (HB.out.cell (World.block_lt_of_cell? w _ hx436_1)).trans hx436_1
       replace hx436_2 := (HB.out.cell (World.block_lt_of_cell? w _ hx436_2)).trans hx436_2
       replace p436 := eq_true p436
       replace q436 := eq_true q436
       have p437 : 0 ≤ (x10_1 : Int) := of_decide_eq_true (by assumption)
       have q437 : x10_1 < (l0_0.length : Int) := of_decide_eq_true (by assumption)
       obtain ⟨ad437, e437, hx437_0, hx437_1, hx437_2⟩ := at_T33 HR0_0.out x10_1 p437 q437
       have hw437_2 := hx437_2
       have hw437_1 := hx437_1
       have hw437_0 := hx437_0
       obtain rfl : ad436 = ad437 := (by injection e437)
       replace hx437_0 := (HB.out.cell (World.block_lt_of_cell? w _ hx437_0)).trans hx437_0
       replace hx437_1 := (HB.out.cell (World.block_lt_of_cell? w _ hx437_1)).trans hx437_1
       replace hx437_2 := (HB.out.cell (World.block_lt_of_cell? w _ hx437_2)).trans hx437_2
       replace p437 := eq_true p437
       replace q437 := eq_true q437
       refine start_ (n := 21) (S := fun w' => w'.cell? ⟨gb429, 0, none⟩ = some (.slice (some ad436) l0_0.length c0_0) ∧ w'.cell? ⟨gb429, 1, none⟩ = some (.slice A0_1 l0_1.length c0_1) ∧ w'.cell? (ad436.add ((x10_1).toNat * 3)) = some (.int .i64 ((rd_T33 l0_0 x10_1).f0)) ∧ w'.cell? ⟨(ad436.add ((x10_1).toNat * 3)).block, (ad436.add ((x10_1).toNat * 3)).off + 1, none⟩ = some (.int .i64 ((rd_T33 l0_0 x10_1).f1)) ∧ w'.cell? ⟨(ad436.add ((x10_1).toNat * 3)).block, (ad436.add ((x10_1).toNat * 3)).off + 2, none⟩ = some (.bool ((rd_T33 l0_0 x10_1).f2)) ∧ w'.cell? (ad436.add ((x10_1).toNat * 3)) = some (.int .i64 ((rd_T33 l0_0 x10_1).f0)) ∧ w'.cell? ⟨(ad436.add ((x10_1).toNat * 3)).block, (ad436.add ((x10_1).toNat * 3)).off + 1, none⟩ = some (.int .i64 ((rd_T33 l0_0 x10_1).f1)) ∧ w'.cell? ⟨(ad436.add ((x10_1).toNat * 3)).block, (ad436.add ((x10_1).toNat * 3)).off + 2, none⟩ = some (.bool ((rd_T33 l0_0 x10_1).f2))) (ds := []) #[false, false, false, false, false, false, false, false, false, false, false, false, false, false, false, false, false, false, false, false, false] (by kernel_rfl) rfl rfl ⟨(blk_cell BK429.out 0).trans rfl, (blk_cell BK429.out 1).trans rfl, ((HB.out.cell (World.block_lt_of_cell? w _ hw436_0)).trans hw436_0), ((HB.out.cell (World.block_lt_of_cell? w _ hw436_1)).trans hw436_1), ((HB.out.cell (World.block_lt_of_cell? w _ hw436_2)).trans hw436_2), ((HB.out.cell (World.block_lt_of_cell? w _ hw437_0)).trans hw437_0), ((HB.out.cell (World.block_lt_of_cell? w _ hw437_1)).trans hw437_1), ((HB.out.cell (World.block_lt_of_cell? w _ hw437_2)).trans hw437_2)⟩ (fun hHeld => ?_); refine with_tabW fleuronlaw03_grid.tab6 fleuronlaw03_grid.bits6 (fun HT_ HW_ => ?_)
       generalize wr.drew = w14 at HO_8 HO_9 BK429 HB hx436_0 hx436_1 hx436_2 hx437_0 hx437_1 hx437_2 hHeld ⊢
       refine pure_ (i := 0) (N := some 20) (v := ?_) (a' := ?_) #[true, false, false, false, false, false, false, false, false, false, false, false, false, false, false, false, false, false, false, false, false] rfl rfl (any_of HT_.out (by kernel_rfl)) (fun _ _ _ h => h) (Or.inl ⟨by rfl, ?_⟩) ?_ ?_
       rotate_left
       ·
        intro w'
        go_simp
        with_reducible rfl
       rotate_left
       ·
        simp only [Act.put, List.setIfInBounds_toArray, List.set_cons_zero, List.set_cons_succ, i64_w, i32_w]
        rfl
       refine pure_ (i := 1) (N := some 21) (v := ?_) (a' := ?_) #[true, true, false, false, false, false, false, false, false, false, false, false, false, false, false, false, false, false, false, false, false] rfl rfl (any_of HT_.out (by kernel_rfl)) (fun _ _ _ h => h) (Or.inl ⟨by rfl, ?_⟩) ?_ ?_
       rotate_left
       ·
        intro w'
        go_simp
        with_reducible rfl
       rotate_left
       ·
        simp only [Act.put, List.setIfInBounds_toArray, List.set_cons_zero, List.set_cons_succ, i64_w, i32_w]
        rfl
       refine pure_ (i := 3) (N := some 23) (v := ?_) (a' := ?_) #[true, true, false, true, false, false, false, false, false, false, false, false, false, false, false, false, false, false, false, false, false] rfl rfl (any_of HT_.out (by kernel_rfl)) (fun _ _ _ h => h) (Or.inl ⟨by rfl, ?_⟩) ?_ ?_
       rotate_left
       ·
        intro w'
        go_simp
        with_reducible rfl
       rotate_left
       ·
        simp only [Act.put, List.setIfInBounds_toArray, List.set_cons_zero, List.set_cons_succ, i64_w, i32_w]
        rfl
       refine pure_ (i := 7) (N := some 27) (v := ?_) (a' := ?_) #[true, true, false, true, false, false, false, true, false, false, false, false, false, false, false, false, false, false, false, false, false] rfl rfl (any_of HT_.out (by kernel_rfl)) (fun _ _ _ h => h) (Or.inl ⟨by rfl, ?_⟩) ?_ ?_
       rotate_left
       ·
        intro w'
        go_simp
        with_reducible rfl
       rotate_left
       ·
        simp only [Act.put, List.setIfInBounds_toArray, List.set_cons_zero, List.set_cons_succ, i64_w, i32_w]
        rfl
       refine pure_ (i := 9) (N := some 29) (v := ?_) (a' := ?_) #[true, true, false, true, false, false, false, true, false, true, false, false, false, false, false, false, false, false, false, false, false] rfl rfl (any_of HT_.out (by kernel_rfl)) (fun _ _ _ h => h) (Or.inl ⟨by rfl, ?_⟩) ?_ ?_
       rotate_left
       ·
        intro w'
        go_simp
        with_reducible rfl
       rotate_left
       ·
        simp only [Act.put, List.setIfInBounds_toArray, List.set_cons_zero, List.set_cons_succ, i64_w, i32_w]
        rfl
       refine pure_ (i := 11) (N := some 31) (v := ?_) (a' := ?_) #[true, true, false, true, false, false, false, true, false, true, false, true, false, false, false, false, false, false, false, false, false] rfl rfl (any_of HT_.out (by kernel_rfl)) (fun _ _ _ h => h) (Or.inl ⟨by rfl, ?_⟩) ?_ ?_
       rotate_left
       ·
        intro w'
        go_simp
        with_reducible rfl
       rotate_left
       ·
        simp only [Act.put, List.setIfInBounds_toArray, List.set_cons_zero, List.set_cons_succ, i64_w, i32_w]
        rfl
       refine pure_ (i := 15) (N := some 35) (v := ?_) (a' := ?_) #[true, true, false, true, false, false, false, true, false, true, false, true, false, false, false, true, false, false, false, false, false] rfl rfl (any_of HT_.out (by kernel_rfl)) (fun _ _ _ h => h) (Or.inl ⟨by rfl, ?_⟩) ?_ ?_
       rotate_left
       ·
        intro w'
        go_simp
        with_reducible rfl
       rotate_left
       ·
        simp only [Act.put, List.setIfInBounds_toArray, List.set_cons_zero, List.set_cons_succ, i64_w, i32_w]
        rfl
       refine take_ (i := 2) (N := some 22) (v := ?_) (a' := ?_) #[true, true, true, true, false, false, false, true, false, true, false, true, false, false, false, true, false, false, false, false, false] rfl rfl (take_ofW HT_.out HW_.out (by kernel_rfl)) (fun _ _ _ h => h) (Or.inl ⟨by rfl, ?_⟩) hHeld ?_ ?_
       rotate_left
       ·
        rintro w' ⟨s0, s1, s2, s3, s4, s5, s6, s7⟩
        go_simp
        with_reducible rfl
       rotate_left
       ·
        simp only [Act.put, List.setIfInBounds_toArray, List.set_cons_zero, List.set_cons_succ, i64_w, i32_w]
        rfl
       refine pure_ (i := 4) (N := some 24) (v := ?_) (a' := ?_) #[true, true, true, true, true, false, false, true, false, true, false, true, false, false, false, true, false, false, false, false, false] rfl rfl (any_of HT_.out (by kernel_rfl)) (fun _ _ _ h => h) (Or.inl ⟨by rfl, ?_⟩) ?_ ?_
       rotate_left
       ·
        intro w'
        go_simp
        with_reducible rfl
       rotate_left
       ·
        simp only [Act.put, List.setIfInBounds_toArray, List.set_cons_zero, List.set_cons_succ, i64_w, i32_w]
        rfl
       refine pure_ (i := 5) (N := some 25) (v := ?_) (a' := ?_) #[true, true, true, true, true, true, false, true, false, true, false, true, false, false, false, true, false, false, false, false, false] rfl rfl (any_of HT_.out (by kernel_rfl)) (fun _ _ _ h => h) (Or.inl ⟨by rfl, ?_⟩) ?_ ?_
       rotate_left
       ·
        intro w'
        go_simp
        with_reducible rfl
       rotate_left
       ·
        simp only [Act.put, List.setIfInBounds_toArray, List.set_cons_zero, List.set_cons_succ, i64_w, i32_w]
        rfl
       refine take_ (i := 6) (N := some 26) (v := ?_) (a' := ?_) #[true, true, true, true, true, true, true, true, false, true, false, true, false, false, false, true, false, false, false, false, false] rfl rfl (take_ofW HT_.out HW_.out (by kernel_rfl)) (fun _ _ _ h => h) (Or.inl ⟨by rfl, ?_⟩) hHeld ?_ ?_
       rotate_left
       ·
        rintro w' ⟨s0, s1, s2, s3, s4, s5, s6, s7⟩
        go_simp
        with_reducible rfl
       rotate_left
       ·
        simp only [Act.put, List.setIfInBounds_toArray, List.set_cons_zero, List.set_cons_succ, i64_w, i32_w]
        rfl
       refine pure_ (i := 8) (N := some 28) (v := ?_) (a' := ?_) #[true, true, true, true, true, true, true, true, true, true, false, true, false, false, false, true, false, false, false, false, false] rfl rfl (any_of HT_.out (by kernel_rfl)) (fun _ _ _ h => h) (Or.inl ⟨by rfl, ?_⟩) ?_ ?_
       rotate_left
       ·
        intro w'
        go_simp
        with_reducible rfl
       rotate_left
       ·
        simp only [Act.put, List.setIfInBounds_toArray, List.set_cons_zero, List.set_cons_succ, i64_w, i32_w]
        rfl
       refine take_ (i := 10) (N := some 30) (v := ?_) (a' := ?_) #[true, true, true, true, true, true, true, true, true, true, true, true, false, false, false, true, false, false, false, false, false] rfl rfl (take_ofW HT_.out HW_.out (by kernel_rfl)) (fun _ _ _ h => h) (Or.inl ⟨by rfl, ?_⟩) hHeld ?_ ?_
       rotate_left
       ·
        rintro w' ⟨s0, s1, s2, s3, s4, s5, s6, s7⟩
        go_simp
        with_reducible rfl
       rotate_left
       ·
        simp only [Act.put, List.setIfInBounds_toArray, List.set_cons_zero, List.set_cons_succ, i64_w, i32_w]
        rfl
       refine pure_ (i := 12) (N := some 32) (v := ?_) (a' := ?_) #[true, true, true, true, true, true, true, true, true, true, true, true, true, false, false, true, false, false, false, false, false] rfl rfl (any_of HT_.out (by kernel_rfl)) (fun _ _ _ h => h) (Or.inl ⟨by rfl, ?_⟩) ?_ ?_
       rotate_left
       ·
        intro w'
        go_simp
        with_reducible rfl
       rotate_left
       ·
        simp only [Act.put, List.setIfInBounds_toArray, List.set_cons_zero, List.set_cons_succ, i64_w, i32_w]
        rfl
       refine pure_ (i := 13) (N := some 33) (v := ?_) (a' := ?_) #[true, true, true, true, true, true, true, true, true, true, true, true, true, true, false, true, false, false, false, false, false] rfl rfl (any_of HT_.out (by kernel_rfl)) (fun _ _ _ h => h) (Or.inl ⟨by rfl, ?_⟩) ?_ ?_
       rotate_left
       ·
        intro w'
        go_simp
        with_reducible rfl
       rotate_left
       ·
        simp only [Act.put, List.setIfInBounds_toArray, List.set_cons_zero, List.set_cons_succ, i64_w, i32_w]
        rfl
       refine take_ (i := 14) (N := some 34) (v := ?_) (a' := ?_) #[true, true, true, true, true, true, true, true, true, true, true, true, true, true, true, true, false, false, false, false, false] rfl rfl (take_ofW HT_.out HW_.out (by kernel_rfl)) (fun _ _ _ h => h) (Or.inl ⟨by rfl, ?_⟩) hHeld ?_ ?_
       rotate_left
       ·
        rintro w' ⟨s0, s1, s2, s3, s4, s5, s6, s7⟩
        go_simp
        with_reducible rfl
       rotate_left
       ·
        simp only [Act.put, List.setIfInBounds_toArray, List.set_cons_zero, List.set_cons_succ, i64_w, i32_w]
        rfl
       refine pure_ (i := 16) (N := some 36) (v := ?_) (a' := ?_) #[true, true, true, true, true, true, true, true, true, true, true, true, true, true, true, true, true, false, false, false, false] rfl rfl (any_of HT_.out (by kernel_rfl)) (fun _ _ _ h => h) (Or.inl ⟨by rfl, ?_⟩) ?_ ?_
       rotate_left
       ·
        intro w'
        go_simp
        with_reducible rfl
       rotate_left
       ·
        simp only [Act.put, List.setIfInBounds_toArray, List.set_cons_zero, List.set_cons_succ, i64_w, i32_w]
        rfl
       refine pure_ (i := 17) (N := some 37) (v := ?_) (a' := ?_) #[true, true, true, true, true, true, true, true, true, true, true, true, true, true, true, true, true, true, false, false, false] rfl rfl (any_of HT_.out (by kernel_rfl)) (fun _ _ _ h => h) (Or.inl ⟨by rfl, ?_⟩) ?_ ?_
       rotate_left
       ·
        intro w'
        go_simp
        with_reducible rfl
       rotate_left
       ·
        simp only [Act.put, List.setIfInBounds_toArray, List.set_cons_zero, List.set_cons_succ, i64_w, i32_w]
        rfl
       refine one_ (i := 18) (N := some 38) #[true, true, true, true, true, true, true, true, true, true, true, true, true, true, true, true, true, true, true, false, false] rfl rfl (one_of HT_.out (by kernel_rfl)) (by decide) (fun K hK => ?_)
       refine value_ (w1 := ?_) (v := ?_) (by rfl) rfl ?_ ?_
       rotate_left 2
       ·
        go_simp
        constructor
        ·
         rfl
        ·
         rfl
       refine hK.out _ _ ⟨(blk_cell (kA BK429.out _) 0).trans rfl, (blk_cell (kA BK429.out _) 1).trans rfl, (World.cell?_alloc_lt _ _ _ (World.block_lt_of_cell? _ _ (((HB.out.cell (World.block_lt_of_cell? w _ hw436_0)).trans hw436_0)))).trans (((HB.out.cell (World.block_lt_of_cell? w _ hw436_0)).trans hw436_0)), (World.cell?_alloc_lt _ _ _ (World.block_lt_of_cell? _ _ (((HB.out.cell (World.block_lt_of_cell? w _ hw436_1)).trans hw436_1)))).trans (((HB.out.cell (World.block_lt_of_cell? w _ hw436_1)).trans hw436_1)), (World.cell?_alloc_lt _ _ _ (World.block_lt_of_cell? _ _ (((HB.out.cell (World.block_lt_of_cell? w _ hw436_2)).trans hw436_2)))).trans (((HB.out.cell (World.block_lt_of_cell? w _ hw436_2)).trans hw436_2)), (World.cell?_alloc_lt _ _ _ (World.block_lt_of_cell? _ _ (((HB.out.cell (World.block_lt_of_cell? w _ hw437_0)).trans hw437_0)))).trans (((HB.out.cell (World.block_lt_of_cell? w _ hw437_0)).trans hw437_0)), (World.cell?_alloc_lt _ _ _ (World.block_lt_of_cell? _ _ (((HB.out.cell (World.block_lt_of_cell? w _ hw437_1)).trans hw437_1)))).trans (((HB.out.cell (World.block_lt_of_cell? w _ hw437_1)).trans hw437_1)), (World.cell?_alloc_lt _ _ _ (World.block_lt_of_cell? _ _ (((HB.out.cell (World.block_lt_of_cell? w _ hw437_2)).trans hw437_2)))).trans (((HB.out.cell (World.block_lt_of_cell? w _ hw437_2)).trans hw437_2))⟩ (fun hHeld => ?_)
       clear hK K
       refine norm_ (a' := ?_) ?_ ?_
       rotate_left
       ·
        show Act.put _ (some 38) _ = _
        simp only [Act.put, List.setIfInBounds_toArray, List.set_cons_zero, List.set_cons_succ, i64_w, i32_w]
        rfl
       refine one_ (i := 19) (N := some 39) #[true, true, true, true, true, true, true, true, true, true, true, true, true, true, true, true, true, true, true, true, false] rfl rfl (one_of HT_.out (by kernel_rfl)) (by decide) (fun K hK => ?_)
       refine Kd.R_append_step k52 (w0 := w) w.heap.size (by rfl) (.tmp 20) (.tmp 38) 42 52 (.agg #[(.int .i64 0), (.int .i64 0)]) 16 rfl Try.underlying42 info52 rfl (by decide) (by omega) u8 x8_1 (⟨wrap64 (((rd_T33 l0_0 x10_1).f0) + a1), wrap64 (((rd_T33 l0_0 x10_1).f1) + a2)⟩ : S52) [.int .i64 (wrap64 (((rd_T33 l0_0 x10_1).f0) + a1)), .int .i64 (wrap64 (((rd_T33 l0_0 x10_1).f1) + a2))] (fun _ => True) (fun _ => False) rfl rfl ?aP (fun _ hk => hk.elim) ?aF ?aO ?aB ?aS ?aL ?_
       (case aP => exact k52_mkM _ _ _ (⟨wrap64 (((rd_T33 l0_0 x10_1).f0) + a1), wrap64 (((rd_T33 l0_0 x10_1).f1) + a2)⟩ : S52))
       (case aB => exact (by repeat (first | (with_reducible first | exact HB.out | apply bA | apply bN | apply bD | refine bS ?_ GE429.out) | exact HB.out)))
       (case aF => exact (fun _ _ => trivial))
       (case aO => exact (by (with_reducible repeat (first | apply Kd.R_alloc | apply Kd.R_drewN | apply Kd.R_drew)); exact HO_8.out))
       (case aS => exact (below_size (by repeat (first | (with_reducible first | exact HB.out | apply bA | apply bN | apply bD | refine bS ?_ GE429.out) | exact HB.out))))
       (case aL => have := LMc11.out; omega)
       intro v439 w15 ho hb hg hat
       rw [← Ny438.out] at ho
       have n0_ := aM (Kd.R_over' (by (with_reducible repeat (first | apply Kd.R_alloc | apply Kd.R_drewN | apply Kd.R_drew)); exact HO_9.out) (Kd.R_typed (by (with_reducible repeat (first | apply Kd.R_alloc | apply Kd.R_drewN | apply Kd.R_drew)); exact HO_8.out)) (by decide) hg)
       have n1_ := aM (blk_grown (g := gb429) (o := .cells #[.slice (some ad436) l0_0.length c0_0, .slice A0_1 l0_1.length c0_1] 25 (0, 0)) (by (with_reducible repeat (first | refine kN ?_ _ | refine kD ?_ | refine kA ?_ _)); exact BK429.out) hg (Kd.R_ne HO_8.out BK429.out (by decide)))
       have n2_ := aM (hb)
       have n3_ := aM (ho)
       clear HO_9
       clear BK429
       clear HB
       clear HO_8
       have HO_9 := n0_
       have BK429 := n1_
       have HB := n2_
       have HO440 := n3_
       clear n0_ n1_ n2_ n3_
       clear ho hb hg hat
       refine hK.out _ _ ⟨(blk_cell BK429.out 0).trans rfl, (blk_cell BK429.out 1).trans rfl, ((HB.out.cell (World.block_lt_of_cell? w _ hw436_0)).trans hw436_0), ((HB.out.cell (World.block_lt_of_cell? w _ hw436_1)).trans hw436_1), ((HB.out.cell (World.block_lt_of_cell? w _ hw436_2)).trans hw436_2), ((HB.out.cell (World.block_lt_of_cell? w _ hw437_0)).trans hw437_0), ((HB.out.cell (World.block_lt_of_cell? w _ hw437_1)).trans hw437_1), ((HB.out.cell (World.block_lt_of_cell? w _ hw437_2)).trans hw437_2)⟩ (fun hHeld => ?_)
       clear hK K
       refine norm_ (a' := ?_) ?_ ?_
       rotate_left
       ·
        show Act.put _ (some 39) _ = _
        simp only [Act.put, List.setIfInBounds_toArray, List.set_cons_zero, List.set_cons_succ, i64_w, i32_w]
        rfl
       refine pure_ (i := 20) (N := some 8) (v := ?_) (a' := ?_) #[true, true, true, true, true, true, true, true, true, true, true, true, true, true, true, true, true, true, true, true, true] rfl rfl (any_of HT_.out (by kernel_rfl)) (fun _ _ _ h => h) (Or.inl ⟨by rfl, ?_⟩) ?_ ?_
       rotate_left
       ·
        intro w'
        go_simp
        with_reducible rfl
       rotate_left
       ·
        simp only [Act.put, List.setIfInBounds_toArray, List.set_cons_zero, List.set_cons_succ, i64_w, i32_w]
        rfl
       refine done_ (done_of HT_.out (by kernel_rfl)) ?_
       have hcz16_0 : w15.cell? ⟨gb429, 0, none⟩ = some (.slice (some ad436) l0_0.length c0_0) := (blk_cell BK429.out 0).trans rfl
       have hcz16_1 : w15.cell? ⟨gb429, 1, none⟩ = some (.slice A0_1 l0_1.length c0_1) := (blk_cell BK429.out 1).trans rfl
       have hfz16_0 := blk_frozen BK429.out 0
       have hfz16_1 := blk_frozen BK429.out 1
       have p441 : 0 ≤ (x10_1 : Int) := of_decide_eq_true (by assumption)
       have q441 : x10_1 < (l0_0.length : Int) := of_decide_eq_true (by assumption)
       obtain ⟨ad441, e441, hx441_0, hx441_1, hx441_2⟩ := at_T33 HR0_0.out x10_1 p441 q441
       obtain rfl : ad436 = ad441 := (by injection e441)
       replace hx441_0 := (HB.out.cell (World.block_lt_of_cell? w _ hx441_0)).trans hx441_0
       replace hx441_1 := (HB.out.cell (World.block_lt_of_cell? w _ hx441_1)).trans hx441_1
       replace hx441_2 := (HB.out.cell (World.block_lt_of_cell? w _ hx441_2)).trans hx441_2
       replace p441 := eq_true p441
       replace q441 := eq_true q441
       try go_wp2_with (first | ((with_reducible refine gate_builtin (b := .append) (xs := #[.tmp 40, .tmp 47]) rfl ?_); at_builtin; refine Kd.R_append Kd.bool (w0 := w) w.heap.size rfl (.tmp 40) (.tmp 47) 43 4 (.bool false) 1 rfl Try.underlying43 info4 rfl (by decide) (by omega) u9 x9_1 ((rd_T33 l0_0 x10_1).f2) [.bool ((rd_T33 l0_0 x10_1).f2)] (fun _ => True) (fun _ => False) rfl rfl ?aP (fun _ hk => hk.elim) ?aF ?aO ?aB ?aS ?aL ?_; (case aP => exact rfl); (case aB => exact (by repeat (first | (with_reducible first | exact HB.out | apply bA | apply bN | apply bD | refine bS ?_ GE429.out) | exact HB.out))); (case aF => exact (fun _ _ => trivial)); (case aO => exact (by (with_reducible repeat (first | apply Kd.R_alloc | apply Kd.R_drewN | apply Kd.R_drew)); exact HO_9.out)); (case aS => exact (below_size (by repeat (first | (with_reducible first | exact HB.out | apply bA | apply bN | apply bD | refine bS ?_ GE429.out) | exact HB.out)))); (case aL => have := LMc12.out; omega); intro v443 w17 ho hb hg hat; rw [← Ny442.out] at ho; have n0_ := aM (blk_grown (g := gb429) (o := .cells #[.slice (some ad436) l0_0.length c0_0, .slice A0_1 l0_1.length c0_1] 25 (0, 0)) (by (with_reducible repeat (first | refine kN ?_ _ | refine kD ?_ | refine kA ?_ _)); exact BK429.out) hg (Kd.R_ne HO_9.out BK429.out (by decide))); have n1_ := aM (Kd.R_over' (by (with_reducible repeat (first | apply Kd.R_alloc | apply Kd.R_drewN | apply Kd.R_drew)); exact HO440.out) (Kd.R_typed (by (with_reducible repeat (first | apply Kd.R_alloc | apply Kd.R_drewN | apply Kd.R_drew)); exact HO_9.out)) (by decide) hg); have n2_ := aM (hb); have n3_ := aM (ho); clear BK429; clear HO440; clear HB; clear HO_9; have BK429 := n0_; have HO440 := n1_; have HB := n2_; have HO444 := n3_; clear n0_ n1_ n2_ n3_; clear ho hb hg hat))
       go_roundg k1
       case measure => have := HK1.out; omega
       case rel => exact ⟨(y438), (y442), (wrap64 (x10_1 + 1)), (by first | rfl | (simp; done) | (simp [*]; done)), H', ⟨by have := HK1.out; omega⟩, ⟨by (with_reducible repeat (first | apply Kd.R_alloc | apply Kd.R_drewN | apply Kd.R_drew)); exact HO440.out⟩, ⟨by (with_reducible repeat (first | apply Kd.R_alloc | apply Kd.R_drewN | apply Kd.R_drew)); exact HO444.out⟩, ⟨by (with_reducible repeat (first | refine kN ?_ _ | refine kD ?_ | refine kA ?_ _)); exact BK429.out⟩, ⟨by repeat (first | (with_reducible first | exact HB.out | apply bA | apply bN | apply bD | refine bS ?_ GE429.out) | exact HB.out)⟩⟩
      ·
       rw [if_neg c12] at H
       exact absurd H (by simp)
     ·
      rw [if_neg c11] at H
      exact absurd H (by simp)
    ·
     rw [if_neg c10] at H
     exact absurd H (by simp)
   ·
    rw [if_neg c9] at H
    have c9b0 : decide (x10_1 < (l0_0.length : Int)) = false := decide_eq_false c9
    clear c9
    simp only [Option.some.injEq, Prod.mk.injEq] at H
    obtain ⟨rfl, rfl⟩ := H
    have hcz18_0 : wr.cell? ⟨gb429, 0, none⟩ = some (.slice A0_0 l0_0.length c0_0) := (blk_cell BK429.out 0).trans rfl
    have hcz18_1 : wr.cell? ⟨gb429, 1, none⟩ = some (.slice A0_1 l0_1.length c0_1) := (blk_cell BK429.out 1).trans rfl
    have hfz18_0 := blk_frozen BK429.out 0
    have hfz18_1 := blk_frozen BK429.out 1
    go_wp2
    go_ret2
    exact ⟨_, _, by first | rfl | (simp [errW_none, errW_some] <;> rfl) | (simp [*, errW_none, errW_some] <;> rfl), by (with_reducible repeat (first | apply Kd.R_alloc | apply Kd.R_drewN | apply Kd.R_drew)); exact HO_8.out, by (with_reducible repeat (first | apply Kd.R_alloc | apply Kd.R_drewN | apply Kd.R_drew)); exact HO_9.out, by repeat (first | (with_reducible first | exact HB.out | apply bA | apply bN | apply bD | refine bS ?_ GE429.out) | exact HB.out)⟩

end Go.Proofs.Ytbmklpcheopgoaa.H

namespace Go.Proofs.Ytbmklpcheopgoaa.Out
open Go Go.RowKit Go.Proofs.Ytbmklpcheopgoaa.H Go.Proofs.YtbmklpcheopgoaaOpen Go.Proofs.YtbmklpcheopgoaaW.PrintWords Go.Proofs.YtbmklpcheopgoaaW.PrintLast Go.Proofs.YtbmklpcheopgoaaW.PrintMore

theorem W_W (x : Int) : wrap64 (wrap64 x) = wrap64 x := by unfold wrap64; omega
theorem W_addl (x y : Int) : wrap64 (wrap64 x + y) = wrap64 (x + y) := by unfold wrap64; omega
theorem W_addr (x y : Int) : wrap64 (x + wrap64 y) = wrap64 (x + y) := by unfold wrap64; omega
theorem W_subl (x y : Int) : wrap64 (wrap64 x - y) = wrap64 (x - y) := by unfold wrap64; omega
theorem W_subr (x y : Int) : wrap64 (x - wrap64 y) = wrap64 (x - y) := by unfold wrap64; omega
theorem W_neg (x : Int) : wrap64 (-(wrap64 x)) = wrap64 (-x) := by unfold wrap64; omega
theorem W_in (x : Int) (h0 : -9223372036854775808 ≤ x) (h1 : x ≤ 9223372036854775807) : wrap64 x = x := by unfold wrap64; omega
theorem W_k (x : Int) : ∃ k, wrap64 x = x + 18446744073709551616 * k := ⟨-((x + 9223372036854775808) / 18446744073709551616), by unfold wrap64; omega⟩
theorem W_M (x k : Int) : wrap64 (x + 18446744073709551616 * k) = wrap64 x := by unfold wrap64; omega
theorem W_mul (x y : Int) : wrap64 (wrap64 x * wrap64 y) = wrap64 (x * y) := by
  obtain ⟨k, hk⟩ := W_k x
  obtain ⟨l, hl⟩ := W_k y
  rw [hk, hl, show (x + 18446744073709551616 * k) * (y + 18446744073709551616 * l) = x * y + 18446744073709551616 * (k * y + x * l + 18446744073709551616 * k * l) by grind, W_M]
theorem W_eq_add {a b c d : Int} (h : wrap64 a = wrap64 b) (h' : wrap64 c = wrap64 d) : wrap64 (a + c) = wrap64 (b + d) := by rw [← W_addl, ← W_addr, h, h', W_addl, W_addr]
theorem W_eq_sub {a b c d : Int} (h : wrap64 a = wrap64 b) (h' : wrap64 c = wrap64 d) : wrap64 (a - c) = wrap64 (b - d) := by rw [← W_subl, ← W_subr, h, h', W_subl, W_subr]
theorem W_eq_mul {a b c d : Int} (h : wrap64 a = wrap64 b) (h' : wrap64 c = wrap64 d) : wrap64 (a * c) = wrap64 (b * d) := by rw [← W_mul, h, h', W_mul]

theorem rdS_mid (l1 l2 : List S33) (p : S33) : rd_T33 (l1 ++ p :: l2) (l1.length : Int) = p := by simp [rd_T33]
theorem set_mid {α : Type} (l1 l2 : List α) (p q : α) : (l1 ++ p :: l2).set l1.length q = l1 ++ q :: l2 := by simp
theorem rdS_get (l : List S33) (i : Nat) (h : i < l.length) : rd_T33 l (i : Int) = l[i] := by simp [rd_T33, h]
theorem rd_get (l : List Int) (i : Nat) (h : i < l.length) : rd l (i : Int) = l[i] := by simp [rd, h]

/-! Right -/
def ptOk (p : S33) : Bool := !(decide (mx p.f0 p.f1 > 16384)) && !(decide (mn p.f0 p.f1 < -16384))
def endsOk : Int → List Int → Int → Bool
  | last, [], n => last == n - 1
  | last, e :: es, n => if e < last + 2 then false else if e ≥ n then false else endsOk e es n
def rightB (pts : List S33) (es : List Int) : Bool := decide (pts.length ≤ 200) && decide (es.length ≤ 40) && (pts.all ptOk && endsOk (-1) es pts.length)
theorem right_l1 (pts : List S33) (es : List Int) (hn : pts.length ≤ 1000000) (he : es.length ≤ 1000000) : ∀ (m k i : Nat) (last : Int), es.length = i + m → m < k → -1 ≤ last → last ≤ 1000000 →
    outline_Right.l1 k last es (es.length : Int) (i : Int) pts es = some (endsOk last (es.drop i) pts.length) := by
  intro m
  induction m with
  | zero =>
    intro k i last h1 h2 h3 h4
    obtain ⟨k, rfl⟩ : ∃ j, k = j + 1 := ⟨k - 1, by omega⟩
    rw [outline_Right.l1, if_neg (by omega), List.drop_of_length_le (by omega)]
    rw [W_in ((pts.length : Int) - 1) (by omega) (by omega)]
    rfl
  | succ m ih =>
    intro k i last h1 h2 h3 h4
    obtain ⟨k, rfl⟩ : ∃ j, k = j + 1 := ⟨k - 1, by omega⟩
    have hi : i < es.length := by omega
    rw [outline_Right.l1, if_pos (by omega), if_pos (by omega), if_pos (by omega), rd_get es i hi, List.drop_eq_getElem_cons hi, endsOk, W_in (last + 2) (by omega) (by omega), W_in ((i : Int) + 1) (by omega) (by omega)]
    by_cases c1 : es[i] < last + 2
    · rw [if_pos c1, if_pos c1]
    · rw [if_neg c1, if_neg c1]
      by_cases c2 : es[i] ≥ (pts.length : Int)
      · rw [if_pos c2, if_pos c2]
      · rw [if_neg c2, if_neg c2]
        exact ih k (i + 1) es[i] (by omega) (by omega) (by omega) (by omega)
theorem right_l0 (pts : List S33) (es : List Int) (hn : pts.length ≤ 1000000) (he : es.length ≤ 1000000) : ∀ (m k i : Nat), pts.length = i + m → m + es.length + 1 < k →
    outline_Right.l0 k pts (pts.length : Int) (i : Int) pts es = some ((pts.drop i).all ptOk && endsOk (-1) es pts.length) := by
  intro m
  induction m with
  | zero =>
    intro k i h1 h2
    obtain ⟨k, rfl⟩ : ∃ j, k = j + 1 := ⟨k - 1, by omega⟩
    rw [outline_Right.l0, if_neg (by omega), List.drop_of_length_le (by omega)]
    have := right_l1 pts es hn he es.length k 0 (-1) (by omega) (by omega) (by omega) (by omega)
    simpa using this
  | succ m ih =>
    intro k i h1 h2
    obtain ⟨k, rfl⟩ : ∃ j, k = j + 1 := ⟨k - 1, by omega⟩
    have hi : i < pts.length := by omega
    rw [outline_Right.l0, if_pos (by omega), if_pos (by omega), if_pos (by omega), rdS_get pts i hi, List.drop_eq_getElem_cons hi, List.all_cons, W_in ((i : Int) + 1) (by omega) (by omega)]
    by_cases c1 : mx pts[i].f0 pts[i].f1 > 16384
    · rw [if_pos c1]; simp [ptOk, c1]
    · rw [if_neg c1]
      by_cases c2 : mn pts[i].f0 pts[i].f1 < -16384
      · rw [if_pos c2]; simp [ptOk, c2]
      · rw [if_neg c2]
        have e : ptOk pts[i] = true := by simp only [ptOk, decide_eq_false c1, decide_eq_false c2]; rfl
        rw [e, Bool.true_and]
        exact ih k (i + 1) (by omega) (by omega)
theorem right_f (pts : List S33) (es : List Int) (k : Nat) (hn : pts.length ≤ 1000000) (he : es.length ≤ 1000000) (hk : pts.length + es.length + 3 ≤ k) : outline_Right.f k pts es = some (rightB pts es) := by
  obtain ⟨k, rfl⟩ : ∃ j, k = j + 1 := ⟨k - 1, by omega⟩
  unfold outline_Right.f rightB
  by_cases h1 : (pts.length : Int) > 200
  · rw [if_pos h1, outline_Right.j0, if_pos rfl, decide_eq_false (show ¬ pts.length ≤ 200 by omega)]; rfl
  · rw [if_neg h1, outline_Right.j0, decide_eq_true (show pts.length ≤ 200 by omega)]
    by_cases h2 : (es.length : Int) > 40
    · rw [if_pos (decide_eq_true h2), decide_eq_false (show ¬ es.length ≤ 40 by omega)]; rfl
    · rw [if_neg (by simpa using h2), decide_eq_true (show es.length ≤ 40 by omega)]
      have := right_l0 pts es hn he pts.length k 0 (by omega) (by omega)
      simpa using this

/-! Moved -/
def mvW (x y : Int) (p : S33) : S33 := ⟨wrap64 (p.f0 + x), wrap64 (p.f1 + y), p.f2⟩
theorem moved_l0 (x y : Int) (es : List Int) : ∀ (l2 l1 : List S33) (k : Nat) (n : Int), n = (l1 ++ l2).length → l2.length < k → l1.length + l2.length ≤ 1000000 → outline_Moved.l0 k x y n (l1.length : Int) (l1 ++ l2) es = some (l1 ++ l2.map (mvW x y), es) := by
  intro l2
  induction l2 with
  | nil =>
    intro l1 k n hn h1 h2
    obtain ⟨k, rfl⟩ : ∃ j, k = j + 1 := ⟨k - 1, by omega⟩
    rw [outline_Moved.l0, if_neg (by subst hn; simp)]
    simp
  | cons p l2 ih =>
    intro l1 k n hn h1 h2
    simp only [List.length_cons] at h1 h2
    obtain ⟨k, rfl⟩ : ∃ j, k = j + 1 := ⟨k - 1, by omega⟩
    rw [outline_Moved.l0, if_pos (by subst hn; simp; omega), if_pos (by omega), if_pos (by simp; omega), Option.bind_some]
    simp only [Int.toNat_natCast, rdS_mid, set_mid, W_in ((l1.length : Int) + 1) (by omega) (by omega)]
    have := ih (l1 ++ [mvW x y p]) k n (by subst hn; simp) (by omega) (by simp; omega)
    simpa [mvW] using this
theorem clone_f (pts : List S33) (es : List Int) (hn : pts.length ≤ 1000000) (he : es.length ≤ 1000000) : outline_clone.f pts es = some (pts, es) := by
  unfold outline_clone.f
  rw [if_pos (by simp; omega), if_pos (by simp; omega)]
  simp
theorem moved_f (pts : List S33) (es : List Int) (x y : Int) (k : Nat) (hn : pts.length ≤ 1000000) (he : es.length ≤ 1000000) (hk : pts.length < k) : outline_Moved.f k pts es x y = some (pts.map (mvW x y), es) := by
  unfold outline_Moved.f
  rw [clone_f pts es hn he, Option.bind_some]
  exact moved_l0 x y es pts [] k _ (by simp) hk (by simpa using hn)
theorem mvW_back (x y : Int) (p : S33) (h0 : wrap64 p.f0 = p.f0) (h1 : wrap64 p.f1 = p.f1) : mvW (wrap64 (-x)) (wrap64 (-y)) (mvW x y p) = p := by
  obtain ⟨a, b, c⟩ := p
  have e0 : wrap64 (wrap64 (a + x) + wrap64 (-x)) = a := by rw [W_addl, W_addr, show a + x + -x = a by omega]; exact h0
  have e1 : wrap64 (wrap64 (b + y) + wrap64 (-y)) = b := by rw [W_addl, W_addr, show b + y + -y = b by omega]; exact h1
  simp only [mvW, e0, e1]

end Go.Proofs.Ytbmklpcheopgoaa.Out

namespace Go.Proofs.Ytbmklpcheopgoaa.Out
open Go Go.RowKit Go.Proofs.Ytbmklpcheopgoaa.H Go.Proofs.YtbmklpcheopgoaaIt Go.Proofs.YtbmklpcheopgoaaW.PrintWords

theorem contour_len (pts : List S33) (c : Int × Int) (h : c.2.toNat ≤ pts.length) : (contourOf pts c).length = c.2.toNat - c.1.toNat := by
  unfold contourOf
  rw [List.length_take, List.length_drop]; omega
theorem cut_mem (es : List Int) (n : Nat) (c : Int × Int) (h : c ∈ cutsL es n) : 0 ≤ c.1 ∧ c.1 < c.2 ∧ c.2 ≤ n := by
  obtain ⟨k, hk⟩ := List.mem_iff_getElem?.1 h
  exact cutsF_mem es n 0 k c hk
theorem cutsF_len : ∀ (es : List Int) (n b : Int), (cutsF b es n).length ≤ es.length
  | [], _, _ => by simp [cutsF]
  | e :: es, n, b => by
    unfold cutsF
    split
    · simp
    · have := cutsF_len es n (e + 1)
      simp only [List.length_cons]
      omega
end Go.Proofs.Ytbmklpcheopgoaa.Out

namespace Go.Proofs.Ytbmklpcheopgoaa.Out
open Go Go.RowKit Go.Proofs.Ytbmklpcheopgoaa.H Go.Proofs.YtbmklpcheopgoaaIt Go.Proofs.YtbmklpcheopgoaaOpen Go.Proofs.YtbmklpcheopgoaaW.PrintWords Go.Proofs.YtbmklpcheopgoaaW.PrintLast Go.Proofs.YtbmklpcheopgoaaW.PrintMore

/-! grid -/
def gP (x y : Int) (p : S33) : S52 := ⟨wrap64 (p.f0 + x), wrap64 (p.f1 + y)⟩
theorem grid_l0 (pts : List S33) (es : List Int) (x y : Int) (hn : pts.length ≤ 1000000) : ∀ (m k i : Nat) (a : List S52) (b : List Bool), pts.length = i + m → m < k → a.length = i → b.length = i → fleuronlaw03_grid.l0 k x y a b (i : Int) pts es = some (a ++ (pts.drop i).map (gP x y), b ++ (pts.drop i).map (·.f2)) := by
  intro m
  induction m with
  | zero =>
    intro k i a b h1 h2 h3 h4
    obtain ⟨k, rfl⟩ : ∃ j, k = j + 1 := ⟨k - 1, by omega⟩
    rw [fleuronlaw03_grid.l0, if_neg (by omega), List.drop_of_length_le (by omega)]
    simp
  | succ m ih =>
    intro k i a b h1 h2 h3 h4
    obtain ⟨k, rfl⟩ : ∃ j, k = j + 1 := ⟨k - 1, by omega⟩
    have hi : i < pts.length := by omega
    rw [fleuronlaw03_grid.l0, if_pos (by omega), if_pos (by omega), if_pos (by omega), if_pos (by omega), rdS_get pts i hi, W_in ((i : Int) + 1) (by omega) (by omega)]
    have := ih k (i + 1) (a ++ [gP x y pts[i]]) (b ++ [pts[i].f2]) (by omega) (by omega) (by simp; omega) (by simp; omega)
    rw [List.drop_eq_getElem_cons hi, List.map_cons, List.map_cons]
    rw [List.append_assoc, List.append_assoc] at this
    exact this
theorem grid_f (pts : List S33) (es : List Int) (x y : Int) (k : Nat) (hn : pts.length ≤ 1000000) (hk : pts.length < k) : fleuronlaw03_grid.f k pts es x y = some (pts.map (gP x y), pts.map (·.f2)) := by
  unfold fleuronlaw03_grid.f
  have := grid_l0 pts es x y hn pts.length k 0 [] [] (by omega) hk rfl rfl
  simpa using this

/-! cuts of an outline that may be -/
theorem ends_cuts : ∀ (es : List Int) (last n : Int), endsOk last es n = true → (cutsF (last + 1) es n).length = es.length
  | [], _, _, _ => rfl
  | e :: es, last, n, h => by
    unfold endsOk at h
    by_cases h1 : e < last + 2
    · rw [if_pos h1] at h; cases h
    · rw [if_neg h1] at h
      by_cases h2 : e ≥ n
      · rw [if_pos h2] at h; cases h
      · rw [if_neg h2] at h
        unfold cutsF
        rw [if_neg (by omega), List.length_cons, List.length_cons, ends_cuts es e n h]
theorem rightB_iff (pts : List S33) (es : List Int) (h : rightB pts es = true) : pts.length ≤ 200 ∧ es.length ≤ 40 ∧ (∀ p ∈ pts, ptOk p = true) ∧ endsOk (-1) es pts.length = true := by
  simpa [rightB, Bool.and_eq_true, List.all_eq_true, and_assoc] using h
theorem right_cuts (pts : List S33) (es : List Int) (h : rightB pts es = true) : (cutsL es pts.length).length = es.length := ends_cuts es (-1) pts.length (rightB_iff pts es h).2.2.2
theorem ptOk_le (p : S33) (h : ptOk p = true) : -16384 ≤ p.f0 ∧ p.f0 ≤ 16384 ∧ -16384 ≤ p.f1 ∧ p.f1 ≤ 16384 := by
  simp only [ptOk, Bool.and_eq_true, Bool.not_eq_true', decide_eq_false_iff_not] at h
  obtain ⟨h1, h2⟩ := h
  unfold mx at h1
  unfold mn at h2
  split at h1 <;> split at h2 <;> omega
theorem gP_small (p : S33) (x y : Int) (h : ptOk p = true) (hx : -1000000 ≤ x ∧ x ≤ 1000000) (hy : -1000000 ≤ y ∧ y ≤ 1000000) : gP x y p = ⟨p.f0 + x, p.f1 + y⟩ := by
  have := ptOk_le p h
  unfold gP
  rw [W_in _ (by omega) (by omega), W_in _ (by omega) (by omega)]

/-! lengths -/
theorem rowGo_len (l : List S101) : ∀ (f i : Nat) (out : List S52), (rowGo l f i out).length ≤ out.length + 8 * f
  | 0, i, out => by simp [rowGo]
  | f + 1, i, out => by
    unfold rowGo
    split
    · split
      · have := rowGo_len l f (i + 1) (out ++ [(rd_T101 l ((i + 1) % l.length : Nat)).f0])
        simp at this ⊢
        omega
      · have := rowGo_len l f (i + 2) (out ++ curveK l i 8)
        rw [List.length_append, curveK_len] at this
        omega
    · omega
theorem rowL_len (l : List S101) : (rowL l).length ≤ 8 * l.length + 1 := by
  unfold rowL rowAll
  have := rowGo_len l l.length 0 [(rd_T101 l (0 : Nat)).f0]
  simp at this ⊢
  omega
theorem contourLines_len (pts : List S52) (on : List Bool) (s t : Nat) : (contourLines pts on s t).length ≤ 16 * (t - s) + 1 := by
  unfold contourLines
  have h1 := rowL_len (ringFin (ringSt ((pts.drop s).take (t - s)) ((on.drop s).take (t - s)) (t - s)))
  rw [ringFin_len] at h1
  have h2 := ringSt_len ((pts.drop s).take (t - s)) ((on.drop s).take (t - s)) (t - s)
  omega

/-! Lines, told, SamePts -/
def linesA (pts : List S52) (on : List Bool) (es : List Int) : List (List S52) := (cutsL es pts.length).map fun c => contourLines pts on c.1.toNat c.2.toNat
theorem lines_f (pts : List S52) (on : List Bool) (es : List Int) (hn : pts.length ≤ 1000000) (he : es.length ≤ 1000000) (ho : on.length = pts.length) : outline_Lines.f pts on es = some (linesA pts on es) := by
  unfold outline_Lines.f
  rw [if_pos ho, if_pos ⟨hn, he⟩]
  unfold linesK linesA
  rw [List.take_length]
theorem linesA_len (pts : List S52) (on : List Bool) (es : List Int) : (linesA pts on es).length = (cutsL es pts.length).length := by simp [linesA]
theorem rdP_get (l : List S52) (i : Nat) (h : i < l.length) : rd_T52 l (i : Int) = l[i] := by simp [rd_T52, h]
theorem samePts_l0 (a : List S52) (hn : a.length ≤ 1000000) : ∀ (m k i : Nat), a.length = i + m → m < k → fleuronref03_SamePts.l0 k a a (i : Int) = some true := by
  intro m
  induction m with
  | zero =>
    intro k i h1 h2
    obtain ⟨k, rfl⟩ : ∃ j, k = j + 1 := ⟨k - 1, by omega⟩
    rw [fleuronref03_SamePts.l0, if_neg (by omega)]
  | succ m ih =>
    intro k i h1 h2
    obtain ⟨k, rfl⟩ : ∃ j, k = j + 1 := ⟨k - 1, by omega⟩
    rw [fleuronref03_SamePts.l0, if_pos (by omega), if_pos (by omega), if_pos (by omega), W_in ((i : Int) + 1) (by omega) (by omega)]
    simp only [BEq.rfl, Bool.not_true, Bool.or_self, Bool.false_eq_true, if_false]
    exact ih k (i + 1) (by omega) (by omega)
theorem samePts_f (a : List S52) (k : Nat) (hn : a.length ≤ 1000000) (hk : a.length < k) : fleuronref03_SamePts.f k a a = some true := by
  unfold fleuronref03_SamePts.f
  rw [if_pos rfl]
  exact samePts_l0 a hn a.length k 0 (by omega) hk
end Go.Proofs.Ytbmklpcheopgoaa.Out

namespace Go.Proofs.Ytbmklpcheopgoaa.Out
open Go Go.RowKit Go.Proofs.Ytbmklpcheopgoaa.H Go.Proofs.YtbmklpcheopgoaaIt Go.Proofs.YtbmklpcheopgoaaOpen Go.Proofs.YtbmklpcheopgoaaW.PrintWords Go.Proofs.YtbmklpcheopgoaaW.PrintLast Go.Proofs.YtbmklpcheopgoaaW.PrintMore

def cN (c : Int × Int) : S64 := ⟨c.1, c.2 - 1⟩
theorem refCuts_l0 (es : List Int) (n : Int) (hn : n ≤ 1000000) (he : es.length ≤ 1000000) : ∀ (m k i : Nat) (last : Int) (out : List S64), es.length = i + m → m < k → -1 ≤ last → last ≤ 1000000 → out.length ≤ i →
    fleuronref03_Cuts.l0 k es n out last (i : Int) = some (out ++ (cutsF (last + 1) (es.drop i) n).map cN) := by
  intro m
  induction m with
  | zero =>
    intro k i last out h1 h2 h3 h4 h5
    obtain ⟨k, rfl⟩ : ∃ j, k = j + 1 := ⟨k - 1, by omega⟩
    rw [fleuronref03_Cuts.l0, if_neg (by omega), List.drop_of_length_le (by omega)]
    simp [cutsF]
  | succ m ih =>
    intro k i last out h1 h2 h3 h4 h5
    obtain ⟨k, rfl⟩ : ∃ j, k = j + 1 := ⟨k - 1, by omega⟩
    have hi : i < es.length := by omega
    rw [fleuronref03_Cuts.l0, if_pos (by omega), if_pos (by omega), rd_get es i hi, List.drop_eq_getElem_cons hi, cutsF]
    by_cases c1 : es[i] ≤ last
    · rw [if_pos c1, if_pos (by omega)]; simp
    · rw [if_neg c1]
      by_cases c2 : es[i] ≥ n
      · rw [if_pos c2, if_pos (by omega)]; simp
      · rw [if_neg c2, if_pos (show out.length < 8796093022208 by omega), if_neg (show ¬ (es[i] < last + 1 ∨ n ≤ es[i]) by omega), W_in (last + 1) (by omega) (by omega), W_in ((i : Int) + 1) (by omega) (by omega)]
        have := ih k (i + 1) es[i] (out ++ [⟨last + 1, es[i]⟩]) (by omega) (by omega) (by omega) (by omega) (by simp; omega)
        rw [List.append_assoc] at this
        have e : cN (last + 1, es[i] + 1) = ⟨last + 1, es[i]⟩ := by unfold cN; congr 1; dsimp only; omega
        rw [List.map_cons, e]
        exact this
theorem refCuts_f (es : List Int) (n : Int) (k : Nat) (hn : n ≤ 1000000) (he : es.length ≤ 1000000) (hk : es.length < k) : fleuronref03_Cuts.f k es n = some ((cutsL es n).map cN) := by
  unfold fleuronref03_Cuts.f
  have := refCuts_l0 es n hn he es.length k 0 (-1) [] (by omega) hk (by omega) (by omega) (by simp)
  simpa [cutsL] using this
end Go.Proofs.Ytbmklpcheopgoaa.Out

namespace Go.Proofs.Ytbmklpcheopgoaa.Out
open Go Go.RowKit Go.Proofs.Ytbmklpcheopgoaa.H Go.Proofs.YtbmklpcheopgoaaIt Go.Proofs.YtbmklpcheopgoaaOpen Go.Proofs.YtbmklpcheopgoaaW.PrintWords Go.Proofs.YtbmklpcheopgoaaW.PrintLast Go.Proofs.YtbmklpcheopgoaaW.PrintMore

theorem half_f (x : Int) (h0 : -9223372036854775808 ≤ x) (h1 : x ≤ 9223372036854775807) : fleuronref03_half.f x = some (x / 2) := by
  unfold fleuronref03_half.f
  by_cases hx : 0 ≤ x
  · have e : Int.tdiv x 2 = x / 2 := Int.tdiv_eq_ediv_of_nonneg hx
    rw [e, if_neg (show ¬ x < 0 by omega), ite_self, W_in (x / 2) (by omega) (by omega)]
  · obtain ⟨y, rfl⟩ : ∃ y, x = -y := ⟨-x, by omega⟩
    have e : Int.tdiv (-y) 2 = -(y / 2) := by rw [Int.neg_tdiv, Int.tdiv_eq_ediv_of_nonneg (by omega)]
    have e2 : Int.tmod (-y) 2 = -(y % 2) := by rw [Int.neg_tmod, Int.tmod_eq_emod_of_nonneg (by omega)]
    rw [e, e2]
    by_cases c : -(y % 2) = 0
    · rw [if_pos c, W_in _ (by omega) (by omega)]; congr 1; omega
    · rw [if_neg c, if_pos (by omega), W_in (-y - 1) (by omega) (by omega)]
      have e3 : Int.tdiv (-y - 1) 2 = -((y + 1) / 2) := by rw [show -y - 1 = -(y + 1) by omega, Int.neg_tdiv, Int.tdiv_eq_ediv_of_nonneg (by omega)]
      rw [e3, W_in _ (by omega) (by omega)]; congr 1; omega
theorem down_f (x : Int) (h0 : -9223372036854775808 ≤ x) (h1 : x ≤ 9223372036854775807) : fleuronref03_down.f x = some (x / 64) := by
  unfold fleuronref03_down.f
  by_cases hx : 0 ≤ x
  · have e : Int.tdiv x 64 = x / 64 := Int.tdiv_eq_ediv_of_nonneg hx
    rw [e, if_neg (show ¬ x < 0 by omega), ite_self, W_in (x / 64) (by omega) (by omega)]
  · obtain ⟨y, rfl⟩ : ∃ y, x = -y := ⟨-x, by omega⟩
    have e : Int.tdiv (-y) 64 = -(y / 64) := by rw [Int.neg_tdiv, Int.tdiv_eq_ediv_of_nonneg (by omega)]
    have e2 : Int.tmod (-y) 64 = -(y % 64) := by rw [Int.neg_tmod, Int.tmod_eq_emod_of_nonneg (by omega)]
    rw [e, e2]
    by_cases c : -(y % 64) = 0
    · rw [if_pos c, W_in _ (by omega) (by omega)]; congr 1; omega
    · rw [if_neg c, if_pos (by omega), W_in (-(y / 64)) (by omega) (by omega), W_in _ (by omega) (by omega)]; congr 1; omega
theorem W_lo (x : Int) : -9223372036854775808 ≤ wrap64 x := by unfold wrap64; omega
theorem W_hi (x : Int) : wrap64 x ≤ 9223372036854775807 := by unfold wrap64; omega
theorem mix_f (n a c b : Int) : fleuronref03_mix.f n a c b = some (atV n a c b) := by
  unfold fleuronref03_mix.f
  rw [down_f _ (W_lo _) (W_hi _)]
  rfl

/-! ring -/
def cvt (t : S101) : S106 := ⟨t.f0, t.f1⟩
def midT (a b : S101) : List S101 := if b.f1 = false ∧ a.f1 = false then [⟨⟨wrap64 (b.f0.f0 + a.f0.f0) / 2, wrap64 (b.f0.f1 + a.f0.f1) / 2⟩, true⟩] else []
theorem midT_comm (a b : S101) : midT a b = midT b a := by
  unfold midT
  rw [Int.add_comm b.f0.f0, Int.add_comm b.f0.f1]
  by_cases h : b.f1 = false ∧ a.f1 = false
  · rw [if_pos h, if_pos ⟨h.2, h.1⟩]
  · rw [if_neg h, if_neg (fun q => h ⟨q.2, q.1⟩)]
section
variable (pts : List S52) (on : List Bool)
def tj (j : Nat) : S101 := ⟨rd_T52 pts (j : Int), rdOf false on (j : Int)⟩
def hdT : List S101 := midT (tj pts on (pts.length - 1)) (tj pts on 0)
theorem ringStep_t (st : List S101 × Int) (i : Nat) : ringStep pts on st i = (st.1 ++ midT (tj pts on ((i + (pts.length - 1)) % pts.length)) (tj pts on i) ++ [tj pts on i],
    if rdOf false on (i : Int) = true ∧ st.2 < 0 then ((st.1 ++ midT (tj pts on ((i + (pts.length - 1)) % pts.length)) (tj pts on i)).length : Int) else st.2) := by
  unfold ringStep midT tj
  dsimp only
  by_cases c : rdOf false on (i : Int) = false ∧ rdOf false on (((i + (pts.length - 1)) % pts.length : Nat) : Int) = false
  · rw [if_pos c, if_pos c]
  · rw [if_neg c, if_neg c]; simp
theorem ring_one (h : 0 < pts.length) : (ringSt pts on 1).1 = hdT pts on ++ [tj pts on 0] := by
  rw [ringSt_succ, ringStep_t]
  have e : (0 + (pts.length - 1)) % pts.length = pts.length - 1 := by rw [Nat.zero_add]; exact Nat.mod_eq_of_lt (by omega)
  rw [e]
  simp [ringSt, hdT]
theorem ring_hd (h : 0 < pts.length) : ∀ k, (ringSt pts on (k + 1)).1.take (hdT pts on).length = hdT pts on
  | 0 => by rw [ring_one pts on h]; simp
  | k + 1 => by
    have ih := ring_hd h k
    have hl : (hdT pts on).length ≤ (ringSt pts on (k + 1)).1.length := by
      have := congrArg List.length ih
      rw [List.length_take] at this
      omega
    rw [ringSt_succ, ringStep_t]
    dsimp only
    rw [List.append_assoc, List.take_append_of_le_length hl]
    exact ih
theorem ring_hdl (h : 0 < pts.length) (k : Nat) : (hdT pts on).length ≤ (ringSt pts on (k + 1)).1.length := by
  have := congrArg List.length (ring_hd pts on h k)
  rw [List.length_take] at this
  omega
def rA : Nat → List S101
  | 0 => []
  | k + 1 => (ringSt pts on (k + 1)).1.drop (hdT pts on).length ++ midT (tj pts on k) (tj pts on ((k + 1) % pts.length))
theorem rA_s (k : Nat) : rA pts on (k + 1) = (ringSt pts on (k + 1)).1.drop (hdT pts on).length ++ midT (tj pts on k) (tj pts on ((k + 1) % pts.length)) := rfl
def rF (k : Nat) : Int := if (ringSt pts on k).2 < 0 then -1 else (ringSt pts on k).2 - (hdT pts on).length
theorem rA_pre (h : 0 < pts.length) (i : Nat) (hi : i < pts.length) : (ringSt pts on (i + 1)).1 = hdT pts on ++ (rA pts on i ++ [tj pts on i]) := by
  cases i with
  | zero => rw [ring_one pts on h]; rfl
  | succ i =>
    have e1 : (i + 1 + (pts.length - 1)) % pts.length = i := by rw [show i + 1 + (pts.length - 1) = i + pts.length by omega, Nat.add_mod_right]; exact Nat.mod_eq_of_lt (by omega)
    have e2 : (i + 1) % pts.length = i + 1 := Nat.mod_eq_of_lt hi
    have hh := List.take_append_drop (hdT pts on).length (ringSt pts on (i + 1)).1
    rw [ring_hd pts on h i] at hh
    rw [ringSt_succ, ringStep_t, e1, rA_s, e2]
    dsimp only
    conv => lhs; rw [← hh]
    simp
theorem rA_succ (h : 0 < pts.length) (i : Nat) (hi : i < pts.length) : rA pts on (i + 1) = rA pts on i ++ [tj pts on i] ++ midT (tj pts on i) (tj pts on ((i + 1) % pts.length)) := by
  rw [rA_s, rA_pre pts on h i hi, List.drop_left]
theorem ring_at0 (h : 0 < pts.length) : ∀ k, k ≤ pts.length → (ringSt pts on k).2 = -1 ∨ ((hdT pts on).length : Int) ≤ (ringSt pts on k).2
  | 0, _ => .inl rfl
  | k + 1, hk => by
    have ih := ring_at0 h k (by omega)
    have hp := rA_pre pts on h k (by omega)
    rw [ringSt_succ, ringStep_t] at hp ⊢
    dsimp only at hp ⊢
    by_cases c : rdOf false on (k : Int) = true ∧ (ringSt pts on k).2 < 0
    · rw [if_pos c]
      right
      have := congrArg List.length hp
      simp only [List.length_append, List.length_singleton] at this ⊢
      omega
    · rw [if_neg c]; exact ih
theorem rF_succ (h : 0 < pts.length) (i : Nat) (hi : i < pts.length) : rF pts on (i + 1) = if rdOf false on (i : Int) = true ∧ rF pts on i < 0 then ((rA pts on i).length : Int) else rF pts on i := by
  have hp := rA_pre pts on h i hi
  have ha := ring_at0 pts on h i (by omega)
  have hu0 : 0 ≤ ((hdT pts on).length : Int) := by omega
  rw [ringSt_succ, ringStep_t] at hp
  dsimp only at hp
  have hl := congrArg List.length hp
  simp only [List.length_append, List.length_singleton] at hl
  have hl2 : (((ringSt pts on i).1 ++ midT (tj pts on ((i + (pts.length - 1)) % pts.length)) (tj pts on i)).length : Int) = (hdT pts on).length + (rA pts on i).length := by rw [List.length_append]; omega
  have e : rF pts on (i + 1) = if (if rdOf false on (i : Int) = true ∧ (ringSt pts on i).2 < 0 then (((ringSt pts on i).1 ++ midT (tj pts on ((i + (pts.length - 1)) % pts.length)) (tj pts on i)).length : Int) else (ringSt pts on i).2) < 0 then -1 else (if rdOf false on (i : Int) = true ∧ (ringSt pts on i).2 < 0 then (((ringSt pts on i).1 ++ midT (tj pts on ((i + (pts.length - 1)) % pts.length)) (tj pts on i)).length : Int) else (ringSt pts on i).2) - (hdT pts on).length := by
    unfold rF
    rw [ringSt_succ, ringStep_t]
  have e2 : rF pts on i = if (ringSt pts on i).2 < 0 then -1 else (ringSt pts on i).2 - (hdT pts on).length := rfl
  rw [e, e2, hl2]
  clear e e2 hl2 hp hl
  generalize (ringSt pts on i).2 = s at *
  generalize rdOf false on (i : Int) = b at *
  generalize ((hdT pts on).length : Int) = u at *
  have hu : 0 ≤ ((rA pts on i).length : Int) := by omega
  generalize ((rA pts on i).length : Int) = v at *
  cases b with
  | false => simp only [Bool.false_eq_true, false_and, if_false]
  | true =>
    simp only [true_and]
    by_cases c0 : s < 0
    · simp only [c0, if_true]
      rw [if_pos (show (-1 : Int) < 0 by omega)]
      split <;> omega
    · simp only [c0, if_false]
      rw [if_neg (show ¬ s - u < 0 by omega)]
theorem rF_lo (i : Nat) (h : 0 < pts.length) (hi : i ≤ pts.length) : rF pts on i = -1 ∨ 0 ≤ rF pts on i := by
  have ha := ring_at0 pts on h i hi
  unfold rF
  by_cases c0 : (ringSt pts on i).2 < 0
  · rw [if_pos c0]; exact .inl rfl
  · rw [if_neg c0]; right; omega
theorem rF_hi (h : 0 < pts.length) : ∀ i, i ≤ pts.length → rF pts on i < (rA pts on i).length
  | 0, _ => by
    have : rF pts on 0 = -1 := rfl
    rw [this]; omega
  | i + 1, hi => by
    have ih := rF_hi h i (by omega)
    rw [rF_succ pts on h i (by omega), rA_succ pts on h i (by omega)]
    simp only [List.length_append, List.length_singleton]
    split <;> omega
/-- None on the curve, so far. -/
theorem rF_none (h : 0 < pts.length) : ∀ i, i ≤ pts.length → rF pts on i < 0 → ∀ j : Nat, j < i → rdOf false on (j : Int) = false
  | 0, _, _, j, hj => by omega
  | i + 1, hi, hf, j, hj => by
    rw [rF_succ pts on h i (by omega)] at hf
    by_cases c : rdOf false on (i : Int) = true ∧ rF pts on i < 0
    · rw [if_pos c] at hf; omega
    · rw [if_neg c] at hf
      by_cases e : j = i
      · subst e
        cases hq : rdOf false on (j : Int) with
        | false => rfl
        | true => exact absurd ⟨hq, hf⟩ c
      · exact rF_none h i (by omega) hf j (by omega)
theorem rA_len (h : 0 < pts.length) : ∀ i, i ≤ pts.length → (rA pts on i).length ≤ 2 * i
  | 0, _ => by simp [rA]
  | i + 1, hi => by
    have ih := rA_len h i (by omega)
    rw [rA_succ pts on h i (by omega)]
    have : (midT (tj pts on i) (tj pts on ((i + 1) % pts.length))).length ≤ 1 := by unfold midT; split <;> simp
    simp only [List.length_append, List.length_singleton]
    omega
/-- The reference's list turned is the program's turned. -/
theorem rot_eq (h : 0 < pts.length) : ringFin (ringSt pts on pts.length) = (rA pts on pts.length).drop (if rF pts on pts.length < 0 then (rA pts on pts.length).length - 1 else (rF pts on pts.length).toNat) ++ (rA pts on pts.length).take (if rF pts on pts.length < 0 then (rA pts on pts.length).length - 1 else (rF pts on pts.length).toNat) := by
  obtain ⟨n, hn⟩ : ∃ n, pts.length = n + 1 := ⟨pts.length - 1, by omega⟩
  have hp := rA_pre pts on h n (by omega)
  have hs := rA_succ pts on h n (by omega)
  have hf := rF_hi pts on h pts.length (Nat.le_refl _)
  have ha := ring_at0 pts on h pts.length (Nat.le_refl _)
  have hno := rF_none pts on h pts.length (Nat.le_refl _)
  have e0 : (n + 1) % pts.length = 0 := by rw [hn]; exact Nat.mod_self _
  have e1 : midT (tj pts on n) (tj pts on 0) = hdT pts on := by unfold hdT; rw [hn]; rfl
  rw [e0, e1] at hs
  rw [← hn] at hp hs
  generalize hB : rA pts on n ++ [tj pts on n] = B at *
  have hBp : 0 < B.length := by rw [← hB]; simp
  rw [hs] at hf ⊢
  have hr : rF pts on pts.length = if (ringSt pts on pts.length).2 < 0 then -1 else (ringSt pts on pts.length).2 - (hdT pts on).length := rfl
  by_cases c : (ringSt pts on pts.length).2 < 0
  · rw [if_pos c] at hr
    have hh1 : (hdT pts on).length = 1 := by
      have a1 := hno (by omega) 0 h
      have a2 := hno (by omega) n (by omega)
      unfold hdT midT tj
      rw [show pts.length - 1 = n by omega, if_pos ⟨a1, a2⟩]
      rfl
    rw [hr, if_pos (by omega)]
    have : ringFin (ringSt pts on pts.length) = (ringSt pts on pts.length).1 := ringFin_neg _ _ c
    rw [this, hp, List.length_append, hh1, show B.length + 1 - 1 = B.length by omega, List.drop_left, List.take_left]
  · rw [if_neg c] at hr
    obtain ⟨s, hs2⟩ : ∃ s : Nat, (ringSt pts on pts.length).2 = (((hdT pts on).length + s : Nat) : Int) := ⟨((ringSt pts on pts.length).2 - (hdT pts on).length).toNat, by omega⟩
    have hr2 : rF pts on pts.length = (s : Int) := by omega
    have hsl : s < B.length ∨ B.length ≤ s := by omega
    have hfin : ringFin (ringSt pts on pts.length) = (ringSt pts on pts.length).1.drop ((hdT pts on).length + s) ++ (ringSt pts on pts.length).1.take ((hdT pts on).length + s) := by
      have := ringFin_nat (ringSt pts on pts.length).1 ((hdT pts on).length + s)
      rw [← hs2] at this
      exact this
    have hle := ringSt_at pts on pts.length
    rw [hs2, hp, List.length_append] at hle
    have hsB : s ≤ B.length := by omega
    rw [hfin, hp, hr2, if_neg (by omega), Int.toNat_natCast, List.drop_append, List.take_length_add_append, List.drop_append_of_le_length hsB, List.take_append_of_le_length hsB]
    have : (hdT pts on).drop ((hdT pts on).length + s) = [] := List.drop_of_length_le (by omega)
    rw [this, show (hdT pts on).length + s - (hdT pts on).length = s by omega]
    simp

theorem rdT_get0 (l : List S101) (j : Nat) (hj : j < l.length) : rd_T101 l (j : Int) = l[j] := by simp [rd_T101, hj]
theorem rdT_map0 (l : List S101) (j : Nat) (hj : j < l.length) : rd_T106 (l.map cvt) (j : Int) = cvt (rd_T101 l (j : Int)) := by simp [rd_T106, rd_T101, hj]
theorem refRing_l1 (A : List S101) (f : Nat) (hf : f < A.length) (hA : A.length ≤ 1000000) : ∀ (m k i : Nat) (out : List S106), A.length = i + m → m < k → out.length = i →
    fleuronref03_ring.l1 k (A.map cvt) (f : Int) out (i : Int) = some (out ++ ((A.drop f ++ A.take f).drop i).map cvt) := by
  intro m
  induction m with
  | zero =>
    intro k i out h1 h2 h3
    obtain ⟨k, rfl⟩ : ∃ j, k = j + 1 := ⟨k - 1, by omega⟩
    have : (A.drop f ++ A.take f).drop i = [] := List.drop_of_length_le (by simp; omega)
    rw [fleuronref03_ring.l1, if_neg (by simp; omega), this]
    simp
  | succ m ih =>
    intro k i out h1 h2 h3
    obtain ⟨k, rfl⟩ : ∃ j, k = j + 1 := ⟨k - 1, by omega⟩
    have hl : (A.drop f ++ A.take f).length = A.length := by simp; omega
    have hm : (f + i) % A.length < A.length := Nat.mod_lt _ (by omega)
    have ht : Int.tmod ((f : Int) + (i : Int)) (A.length : Int) = (((f + i) % A.length : Nat) : Int) := rfl
    have hg : (A.drop f ++ A.take f)[i]'(by omega) = A[(f + i) % A.length] := by
      by_cases c : f + i < A.length
      · rw [List.getElem_append_left (by simp; omega)]
        simp only [List.getElem_drop, Nat.mod_eq_of_lt c]
      · rw [List.getElem_append_right (by simp; omega)]
        have e : (f + i) % A.length = i - (A.drop f).length := by
          rw [List.length_drop, Nat.mod_eq_sub_mod (by omega), Nat.mod_eq_of_lt (by omega)]; omega
        simp only [List.getElem_take, e]
    rw [fleuronref03_ring.l1, if_pos (by simp; omega), if_neg (by rw [List.length_map]; omega), W_in _ (by omega) (by omega), List.length_map, ht, if_pos (by omega), if_pos (by omega), if_pos (by omega), rdT_map0 A _ hm, W_in ((i : Int) + 1) (by omega) (by omega)]
    have := ih k (i + 1) (out ++ [cvt (rd_T101 A (((f + i) % A.length : Nat) : Int))]) (by omega) (by omega) (by simp; omega)
    rw [List.append_assoc] at this
    rw [List.drop_eq_getElem_cons (show i < (A.drop f ++ A.take f).length by omega), List.map_cons, hg]
    have hrd := rdT_get0 A _ hm
    rw [hrd] at this ⊢
    exact this
theorem refRing_l0 (hon : on.length = pts.length) (h : 0 < pts.length) (hn : pts.length ≤ 100000) : ∀ (m k i : Nat), pts.length = i + m → 4 * m + 2 * pts.length + 3 < k →
    fleuronref03_ring.l0 k pts on (pts.length : Int) ((rA pts on i).map cvt) (rF pts on i) (i : Int) = some ((ringFin (ringSt pts on pts.length)).map cvt) := by
  intro m
  induction m with
  | zero =>
    intro k i h1 h2
    obtain ⟨k, rfl⟩ : ∃ j, k = j + 2 := ⟨k - 2, by omega⟩
    have hi : i = pts.length := by omega
    subst hi
    have hl := rA_len pts on h pts.length (Nat.le_refl _)
    have hf := rF_hi pts on h pts.length (Nat.le_refl _)
    have hlo := rF_lo pts on pts.length h (Nat.le_refl _)
    have hr := rot_eq pts on h
    have hpos : 0 < (rA pts on pts.length).length := by
      have := rA_succ pts on h (pts.length - 1) (by omega)
      rw [show pts.length - 1 + 1 = pts.length by omega] at this
      rw [this]; simp; omega
    rw [fleuronref03_ring.l0, if_neg (by omega), hr, List.length_map]
    by_cases c : rF pts on pts.length < 0
    · rw [if_pos c, if_pos c, W_in _ (by omega) (by omega), fleuronref03_ring.j4, show ((rA pts on pts.length).length : Int) - 1 = (((rA pts on pts.length).length - 1 : Nat) : Int) by omega]
      have := refRing_l1 (rA pts on pts.length) ((rA pts on pts.length).length - 1) (by omega) (by omega) (rA pts on pts.length).length k 0 [] (by omega) (by omega) rfl
      simpa using this
    · rw [if_neg c, if_neg c, fleuronref03_ring.j4]
      have := refRing_l1 (rA pts on pts.length) (rF pts on pts.length).toNat (by omega) (by omega) (rA pts on pts.length).length k 0 [] (by omega) (by omega) rfl
      rw [Int.toNat_of_nonneg (by omega)] at this
      simpa using this
  | succ m ih =>
    intro k i h1 h2
    obtain ⟨k, rfl⟩ : ∃ j, k = j + 4 := ⟨k - 4, by omega⟩
    have hi : i < pts.length := by omega
    have hl := rA_len pts on h i (by omega)
    have hm : (i + 1) % pts.length < pts.length := Nat.mod_lt _ h
    have ht : Int.tmod ((i : Int) + 1) (pts.length : Int) = (((i + 1) % pts.length : Nat) : Int) := rfl
    have ih := ih k (i + 1) (by omega) (by omega)
    rw [rA_succ pts on h i hi, rF_succ pts on h i hi, show ((i + 1 : Nat) : Int) = wrap64 ((i : Int) + 1) by rw [W_in _ (by omega) (by omega)]; rfl] at ih
    have key : ∀ F : Int, F = (if rdOf false on (i : Int) = true ∧ rF pts on i < 0 then ((rA pts on i).length : Int) else rF pts on i) → fleuronref03_ring.j2 (k + 2) pts on (pts.length : Int) ((rA pts on i).map cvt) F (i : Int) = some ((ringFin (ringSt pts on pts.length)).map cvt) := by
      intro F hF
      rw [← hF] at ih
      rw [fleuronref03_ring.j2, if_pos (by omega), if_pos (by omega), if_pos (by omega), if_pos (by simp; omega), Option.bind_some, if_neg (by omega)]
      have hmid : midT (tj pts on i) (tj pts on ((i + 1) % pts.length)) = if rdOf false on (i : Int) = false ∧ rdOf false on (((i + 1) % pts.length : Nat) : Int) = false then [⟨⟨wrap64 ((rd_T52 pts (i : Int)).f0 + (rd_T52 pts (((i + 1) % pts.length : Nat) : Int)).f0) / 2, wrap64 ((rd_T52 pts (i : Int)).f1 + (rd_T52 pts (((i + 1) % pts.length : Nat) : Int)).f1) / 2⟩, true⟩] else [] := by
        rw [midT_comm]; rfl
      have hlast : ∀ b : Bool, b = (decide (rdOf false on (i : Int) = false ∧ rdOf false on (((i + 1) % pts.length : Nat) : Int) = false)) → fleuronref03_ring.j3 (k + 1) pts on (pts.length : Int) ((rA pts on i).map cvt ++ [⟨⟨(rd_T52 pts (i : Int)).f0, (rd_T52 pts (i : Int)).f1⟩, rdOf false on (i : Int)⟩]) F (i : Int) (((i + 1) % pts.length : Nat) : Int) b = some ((ringFin (ringSt pts on pts.length)).map cvt) := by
        intro b hb
        rw [hmid] at ih
        rw [fleuronref03_ring.j3]
        by_cases c : rdOf false on (i : Int) = false ∧ rdOf false on (((i + 1) % pts.length : Nat) : Int) = false
        · rw [hb, if_pos (decide_eq_true c), if_pos (by omega), if_pos (by omega), if_pos (by omega), if_pos (by omega), half_f _ (W_lo _) (W_hi _), Option.bind_some, half_f _ (W_lo _) (W_hi _), Option.bind_some, if_pos (by simp; omega)]
          rw [if_pos c, List.map_append, List.map_append] at ih
          exact ih
        · rw [hb, if_neg (by simpa using c)]
          rw [if_neg c, List.append_nil, List.map_append] at ih
          exact ih
      cases hq : rdOf false on (i : Int) with
      | true =>
        rw [hq] at hlast
        rw [if_pos rfl, W_in _ (by omega) (by omega), ht]
        exact hlast false (by simp)
      | false =>
        rw [hq] at hlast
        rw [if_neg (by decide), W_in _ (by omega) (by omega), ht, if_pos (by omega), if_pos (by omega)]
        exact hlast _ (by cases rdOf false on (((i + 1) % pts.length : Nat) : Int) <;> simp)
    rw [fleuronref03_ring.l0, if_pos (by omega), if_pos (by omega), if_pos (by omega)]
    cases hq : rdOf false on (i : Int) with
    | true =>
      rw [if_pos rfl, fleuronref03_ring.j1]
      rw [hq] at key
      by_cases c : rF pts on i < 0
      · rw [if_pos (by simpa using c), List.length_map]; exact key _ (by rw [if_pos ⟨rfl, c⟩])
      · rw [if_neg (by simpa using c)]; exact key _ (by rw [if_neg (fun q => c q.2)])
    | false =>
      rw [if_neg (by decide), fleuronref03_ring.j1, if_neg (by decide)]
      rw [hq] at key
      exact key _ (by rw [if_neg (fun q => absurd q.1 (by decide))])
theorem refRing_f (hon : on.length = pts.length) (h : 0 < pts.length) (hn : pts.length ≤ 100000) (k : Nat) (hk : 6 * pts.length + 3 < k) : fleuronref03_ring.f k pts on = some ((ringFin (ringSt pts on pts.length)).map cvt) := by
  unfold fleuronref03_ring.f
  exact refRing_l0 pts on hon h hn pts.length k 0 (by omega) (by omega)
end

/-! row -/
theorem refRow_l1 (l : List S101) (i : Nat) (hi : i < l.length) (hl : l.length ≤ 1000000) : ∀ (m k j : Nat) (out : List S52), 8 = j + m → m < k → out.length ≤ 100000000 + j →
    fleuronref03_row.l1 k (l.map cvt) out (i : Int) ((1 + j : Nat) : Int) (rd_T101 l (i : Int)).f0.f0 (rd_T101 l (i : Int)).f0.f1 (rd_T101 l (((i + 1) % l.length : Nat) : Int)).f0.f0 (rd_T101 l (((i + 1) % l.length : Nat) : Int)).f0.f1 (rd_T101 l (((i + 1) % l.length : Nat) : Int)).f1 (rd_T101 l (((i + 2) % l.length : Nat) : Int)).f0.f0 (rd_T101 l (((i + 2) % l.length : Nat) : Int)).f0.f1
      = fleuronref03_row.l0 (k - m - 1) (l.map cvt) (out ++ (curveK l i 8).drop j) ((i + 2 : Nat) : Int) := by
  intro m
  induction m with
  | zero =>
    intro k j out h1 h2 h3
    obtain ⟨k, rfl⟩ : ∃ j, k = j + 1 := ⟨k - 1, by omega⟩
    have : (curveK l i 8).drop j = [] := List.drop_of_length_le (by rw [curveK_len]; omega)
    rw [fleuronref03_row.l1, if_neg (by omega), this, List.append_nil, W_in ((i : Int) + 2) (by omega) (by omega)]
    rfl
  | succ m ih =>
    intro k j out h1 h2 h3
    obtain ⟨k, rfl⟩ : ∃ j, k = j + 1 := ⟨k - 1, by omega⟩
    have hjl : j < (curveK l i 8).length := by rw [curveK_len]; omega
    have hcj : (curveK l i 8)[j] = curveAt l i (1 + j) := by simp [curveK]
    rw [fleuronref03_row.l1, if_pos (by omega), mix_f, Option.bind_some, mix_f, Option.bind_some, if_pos (by omega), W_in (((1 + j : Nat) : Int) + 1) (by omega) (by omega), show ((1 + j : Nat) : Int) + 1 = ((1 + (j + 1) : Nat) : Int) by omega, ih k (j + 1) _ (by omega) (by omega) (by simp; omega), show k + 1 - (m + 1) - 1 = k - m - 1 by omega, List.drop_eq_getElem_cons hjl, hcj, List.append_assoc]
    rfl
theorem refRow_l0 (l : List S101) (h0 : 0 < l.length) (hl : l.length ≤ 1000000) : ∀ (f k i : Nat) (out : List S52), l.length ≤ i + f → 11 * f < k → i ≤ l.length + 1 → 0 < out.length → out.length ≤ 1 + 8 * i →
    fleuronref03_row.l0 k (l.map cvt) out (i : Int) = some ((rowGo l f i out).take ((rowGo l f i out).length - 1))
  | 0, k, i, out, h1, h2, h3, h4, h5 => by
    obtain ⟨k, rfl⟩ : ∃ j, k = j + 1 := ⟨k - 1, by omega⟩
    rw [fleuronref03_row.l0, if_neg (by simp; omega), W_in _ (by omega) (by omega), if_pos (by omega), if_pos (by omega), show ((out.length : Int) - 1).toNat = out.length - 1 by omega]
    rfl
  | f + 1, k, i, out, h1, h2, h3, h4, h5 => by
    obtain ⟨k, rfl⟩ : ∃ j, k = j + 1 := ⟨k - 1, by omega⟩
    by_cases hi : i < l.length
    · have hm : (i + 1) % l.length < l.length := Nat.mod_lt _ h0
      have hm2 : (i + 2) % l.length < l.length := Nat.mod_lt _ h0
      have ht : Int.tmod ((i : Int) + 1) (l.length : Int) = (((i + 1) % l.length : Nat) : Int) := rfl
      have ht2 : Int.tmod ((i : Int) + 2) (l.length : Int) = (((i + 2) % l.length : Nat) : Int) := rfl
      rw [fleuronref03_row.l0, if_pos (by simp; omega), if_pos (by omega), if_neg (by rw [List.length_map]; omega), W_in ((i : Int) + 1) (by omega) (by omega), W_in ((i : Int) + 2) (by omega) (by omega), List.length_map, ht, ht2, if_pos (by omega), if_pos (by omega), rdT_map0 l _ hm, rdT_map0 l _ hi, rdT_map0 l _ hm2]
      unfold rowGo
      rw [if_pos hi]
      unfold cvt
      dsimp only
      by_cases c : (rd_T101 l (((i + 1) % l.length : Nat) : Int)).f1 = true
      · rw [if_pos c, if_pos c, if_pos (by omega)]
        exact refRow_l0 l h0 hl f k (i + 1) _ (by omega) (by omega) (by omega) (by simp) (by simp; omega)
      · rw [if_neg c, if_neg c, if_pos (by omega), if_pos (by omega)]
        have h9 := refRow_l1 l i hi hl 8 k 0 out rfl (by omega) (by omega)
        rw [List.drop_zero] at h9
        have hk := curveK_len l i 8
        exact h9.trans (refRow_l0 l h0 hl f _ (i + 2) _ (by omega) (by omega) (by omega) (by simp; omega) (by rw [List.length_append, hk]; omega))
    · have e := rowGo_more l f i out (by omega)
      have e2 : rowGo l (f + 1) i out = out := by unfold rowGo; rw [if_neg hi]
      rw [e2, fleuronref03_row.l0, if_neg (by simp; omega), W_in _ (by omega) (by omega), if_pos (by omega), if_pos (by omega), show ((out.length : Int) - 1).toNat = out.length - 1 by omega]
theorem refRow_f (pts : List S52) (on : List Bool) (hon : on.length = pts.length) (h : 0 < pts.length) (hn : pts.length ≤ 100000) (k : Nat) (hk : 22 * pts.length + 4 < k) : fleuronref03_row.f k pts on = some (rowL (ringFin (ringSt pts on pts.length))) := by
  unfold fleuronref03_row.f
  have hge := ringSt_ge pts on pts.length
  have hle := ringSt_len pts on pts.length
  have hfl := ringFin_len pts on pts.length
  rw [refRing_f pts on hon h hn k (by omega), Option.bind_some, if_pos (by simp; omega)]
  have e := rdT_map0 (ringFin (ringSt pts on pts.length)) 0 (by omega)
  rw [show ((0 : Nat) : Int) = 0 from rfl] at e
  rw [e]
  exact refRow_l0 (ringFin (ringSt pts on pts.length)) (by omega) (by omega) (ringFin (ringSt pts on pts.length)).length k 0 [(rd_T101 (ringFin (ringSt pts on pts.length)) (0 : Int)).f0] (by omega) (by omega) (by omega) (by simp) (by simp)

/-! Lines -/
theorem rdC_get' (l : List S64) (i : Nat) (h : i < l.length) : rd_T64 l (i : Int) = l[i] := by simp [rd_T64, h]
theorem refLines_l0 (pts : List S52) (on : List Bool) (hon : on.length = pts.length) (hn : pts.length ≤ 100000) (C : List (Int × Int)) (hC : ∀ c ∈ C, 0 ≤ c.1 ∧ c.1 < c.2 ∧ c.2 ≤ pts.length) (hl : C.length ≤ 1000000) : ∀ (m k i : Nat) (out : List (List S52)), C.length = i + m → m + 22 * pts.length + 5 < k → out.length = i →
    fleuronref03_Lines.l0 k pts on out (C.map cN) (i : Int) = some (out ++ (C.drop i).map fun c => contourLines pts on c.1.toNat c.2.toNat) := by
  intro m
  induction m with
  | zero =>
    intro k i out h1 h2 h3
    obtain ⟨k, rfl⟩ : ∃ j, k = j + 1 := ⟨k - 1, by omega⟩
    rw [fleuronref03_Lines.l0, if_neg (by simp; omega), List.drop_of_length_le (by omega)]
    simp
  | succ m ih =>
    intro k i out h1 h2 h3
    obtain ⟨k, rfl⟩ : ∃ j, k = j + 1 := ⟨k - 1, by omega⟩
    have hi : i < C.length := by omega
    obtain ⟨c1, c2, c3⟩ := hC _ (List.getElem_mem hi)
    have e : rd_T64 (C.map cN) (i : Int) = ⟨C[i].1, C[i].2 - 1⟩ := by rw [rdC_get' _ i (by simpa using hi)]; simp [cN]
    have e2 : wrap64 (C[i].2 - 1 + 1) = C[i].2 := by rw [W_in _ (by omega) (by omega)]; omega
    rw [fleuronref03_Lines.l0, if_pos (by simp; omega), if_pos (by omega), e]
    dsimp only
    rw [if_pos c1, e2, if_pos (by omega), if_pos (by omega), if_pos (by omega), List.drop_take, List.drop_take]
    have hl1 : ((pts.drop C[i].1.toNat).take (C[i].2.toNat - C[i].1.toNat)).length = C[i].2.toNat - C[i].1.toNat := by simp; omega
    have hl2 : ((on.drop C[i].1.toNat).take (C[i].2.toNat - C[i].1.toNat)).length = C[i].2.toNat - C[i].1.toNat := by simp; omega
    have hr := refRow_f ((pts.drop C[i].1.toNat).take (C[i].2.toNat - C[i].1.toNat)) ((on.drop C[i].1.toNat).take (C[i].2.toNat - C[i].1.toNat)) (by omega) (by omega) (by omega) k (by omega)
    rw [hl1] at hr
    rw [hr, Option.bind_some, if_pos (by omega), W_in ((i : Int) + 1) (by omega) (by omega)]
    have := ih k (i + 1) (out ++ [contourLines pts on C[i].1.toNat C[i].2.toNat]) (by omega) (by omega) (by simp; omega)
    rw [List.append_assoc] at this
    rw [List.drop_eq_getElem_cons hi]
    exact this
theorem refLines_f (pts : List S52) (on : List Bool) (es : List Int) (hon : on.length = pts.length) (hn : pts.length ≤ 100000) (he : es.length ≤ 100000) (k : Nat) (hk : es.length + 22 * pts.length + 5 < k) : fleuronref03_Lines.f k pts on es = some (linesA pts on es) := by
  unfold fleuronref03_Lines.f
  have hl := cutsF_len es pts.length 0
  change (cutsL es pts.length).length ≤ es.length at hl
  rw [Option.bind_some, if_pos (by omega), refCuts_f es pts.length k (by omega) (by omega) (by omega), Option.bind_some]
  have := refLines_l0 pts on hon hn (cutsL es pts.length) (fun c hc => cut_mem es pts.length c hc) (by omega) (cutsL es pts.length).length k 0 [] (by omega) (by omega) rfl
  simpa [linesA] using this
theorem sameRows_l0 (L : List (List S52)) (hL : L.length ≤ 100000) (hl : ∀ l ∈ L, l.length ≤ 100000) : ∀ (m k i : Nat), L.length = i + m → m + 100001 < k → fleuronref03_SameRows.l0 k L L (i : Int) = some true := by
  intro m
  induction m with
  | zero =>
    intro k i h1 h2
    obtain ⟨k, rfl⟩ : ∃ j, k = j + 1 := ⟨k - 1, by omega⟩
    rw [fleuronref03_SameRows.l0, if_neg (by omega)]
  | succ m ih =>
    intro k i h1 h2
    obtain ⟨k, rfl⟩ : ∃ j, k = j + 1 := ⟨k - 1, by omega⟩
    have hi : i < L.length := by omega
    have hr : rd_L11 L (i : Int) = L[i] := by simp [rd_L11, hi]
    have hli := hl _ (List.getElem_mem hi)
    rw [fleuronref03_SameRows.l0, if_pos (by omega), if_pos (by omega), if_pos (by omega), hr, samePts_f _ k (by omega) (by omega), Option.bind_some, if_pos rfl, W_in ((i : Int) + 1) (by omega) (by omega)]
    exact ih k (i + 1) (by omega) (by omega)
theorem sameRows_f (L : List (List S52)) (hL : L.length ≤ 100000) (hl : ∀ l ∈ L, l.length ≤ 100000) (k : Nat) (hk : L.length + 100001 < k) : fleuronref03_SameRows.f k L L = some true := by
  unfold fleuronref03_SameRows.f
  rw [if_pos rfl]
  exact sameRows_l0 L hL hl L.length k 0 (by omega) hk
end Go.Proofs.Ytbmklpcheopgoaa.Out

namespace Go.Proofs.Ytbmklpcheopgoaa.Pure
open Go.RowKit Go.Proofs.Ytbmklpcheopgoaa.H Go.Proofs.YtbmklpcheopgoaaOpen Go.Proofs.YtbmklpcheopgoaaW.PrintWords Go.Proofs.YtbmklpcheopgoaaW.PrintLast
open Go.Proofs.Ytbmklpcheopgoaa.Out Go.Proofs.YtbmklpcheopgoaaIt Go.Proofs.YtbmklpcheopgoaaW.PrintMore
theorem OutlineLines : ∀ (l0 : List (S52)) (l1 : List Bool) (l2 : List Int), (l0.length ≤ 9223372036854775807 ∧ ∀ x_ ∈ l0, (InK .i64 x_.f0 ∧ InK .i64 x_.f1)) → (l1.length ≤ 9223372036854775807 ∧ ∀ x_ ∈ l1, True) → (l2.length ≤ 9223372036854775807 ∧ ∀ x_ ∈ l2, InK .i64 x_) → ∃ k, fleuronlaw03_OutlineLines.f k l0 l1 l2 = some true := by
  intro pts on es hp ho he
  refine ⟨400001, ?_⟩
  unfold fleuronlaw03_OutlineLines.f
  by_cases h1 : (pts.length : Int) > 1500
  · rw [if_pos h1]; rfl
  rw [if_neg h1, fleuronlaw03_OutlineLines.j0]
  by_cases h2 : (es.length : Int) > 300
  · rw [if_pos (by simpa using h2)]
  rw [if_neg (by simpa using h2), fleuronlaw03_drawn.f, Option.bind_some, if_pos rfl]
  by_cases c : on.length = pts.length
  · have hl := cutsF_len es pts.length 0
    change (cutsL es pts.length).length ≤ es.length at hl
    rw [lines_f pts on es (by omega) (by omega) c, Option.bind_some, refLines_f pts on es c (by omega) (by omega) 400000 (by omega), Option.bind_some, sameRows_f (linesA pts on es) (by rw [linesA_len]; omega) (fun l h => by
      obtain ⟨d, hd, rfl⟩ := List.mem_map.1 h
      obtain ⟨c1, c2, c3⟩ := cut_mem es pts.length d hd
      have := contourLines_len pts on d.1.toNat d.2.toNat
      omega) 400000 (by rw [linesA_len]; omega)]
    rfl
  · unfold outline_Lines.f fleuronref03_Lines.f
    rw [if_neg c, Option.bind_some, Option.bind_some, if_neg (by omega), Option.bind_some, sameRows_f [] (by simp) (by simp) 400000 (by simp)]
    rfl

end Go.Proofs.Ytbmklpcheopgoaa.Pure

namespace Go.Proofs.Ytbmklpcheopgoaa.outlineLines
open Go.ChangeShapes Go.WideShapes Go.ChangeAt Go.RowKit Go.Proofs.YtbmklpcheopgoaaOpen Go.Proofs.YtbmklpcheopgoaaW.PrintWords Go.Proofs.Ytbmklpcheopgoaa.H
open Go.ChangeMaps (open_string shut_string)
set_option linter.unusedVariables false
theorem own : ownKnob Try.prog.godebug = none := by kernel_rfl
theorem laidOut : laidOutB Try.prog = true := by kernel_rfl
set_option maxRecDepth 100000 in
theorem opens_52 : Opens Try.prog 52 k52 (fun y_ => (InK .i64 y_.f0 ∧ InK .i64 y_.f1)) := by
  intro H enc w base spare held fuel cs x h
  obtain ⟨xs, n, _, rfl, hl, hlen, hf⟩ := DataW.trod_struct Try.underlying52 h
  have hz : Try.prog.cellsOf 52 = 2 := by kernel_rfl
  rw [hz] at hl
  have g0 := hf 0 _ rfl
  have g1 := hf 1 _ rfl
  match xs, hlen with
  | [x0, x1], _ =>
    have g0 : DataW.trod enc Try.prog w base spare held n 3 ((cs.drop 0).take 1) = some x0 := g0
    obtain ⟨y0, k0_, q0⟩ := (opens_int Try.underlying3) enc w base spare held n _ _ g0
    have g1 : DataW.trod enc Try.prog w base spare held n 3 ((cs.drop 1).take 1) = some x1 := g1
    obtain ⟨y1, k1_, q1⟩ := (opens_int Try.underlying3) enc w base spare held n _ _ g1
    exact ⟨⟨y0, y1⟩, ⟨_, _, cutQ cs 0 1, k0_, (by show ((Kd.int .i64)).K w y1 (cs.drop 1); rw [cutQ_last cs 1 1 (by omega)]; exact k1_)⟩, q0, q1⟩

set_option maxRecDepth 100000 in
set_option maxHeartbeats 2000000 in
theorem lifted (os : Os) (started : os.Started) (H : Type) (enc : TypeId × Value → H) :
    ReturnsInHanded {} Try.checked os 5 .any (Rows.outlineLinesSpec.pre6 enc Try.prog Try.f5 Rows.outlineLinesRow.domain false) (Rows.outlineLinesSpec.post enc Try.prog Try.f5 false true false false) := by
  refine returnsInHanded_of_change_sized (C := Try.checked) own started (by kernel_rfl) Try.func5
    (ChangeSpec.witness6 (enc := enc) (C := Try.checked) false ⟨#[], #[.slice none 0 0, .slice none 0 0, .slice none 0 0], []⟩ 8 (by kernel_rfl) (by kernel_rfl) (by kernel_rfl) (by kernel_rfl)) ?_
  intro W base args ds gs before hval0 hW hcnd hsz0 _
  have hval : ∀ (j : Nat) t v, Try.f5.params[j]? = some t → args[j]? = some v → Value.okWide Try.prog W .any base t v := hval0
  have hW' := hW
  obtain ⟨p, q, hA0, hV, rfl, hfz, hnd⟩ := hW
  have hA : DataW.TrodAll enc Try.prog W 0 (fun _ => true) true Try.f5.params.toList args.toList ds p := hA0
  rw [Try.params5] at hA hval
  obtain ⟨v0, vs0, d0, ds0, p0, q0, hargs, rfl, rfl, h0, r0⟩ := trodAll_cons hA
  obtain ⟨v1, vs1, d1, ds1, p1, q1, rfl, rfl, rfl, h1, r1⟩ := trodAll_cons r0
  obtain ⟨v2, vs2, d2, ds2, p2, q2, rfl, rfl, rfl, h2, r2⟩ := trodAll_cons r1
  obtain ⟨rfl, rfl, rfl⟩ := trodAll_nil r2
  obtain rfl : args = #[v0, v1, v2] := by cases args; simp_all
  obtain ⟨rfl, rfl⟩ := trodVars_none hV
  have k0 := h0
  have lt0 : ∀ x ∈ p0, x.block < W.heap.size := by obtain ⟨m, hm⟩ := k0; exact DataW.trod_lt m _ _ _ hm
  obtain ⟨fuel0, hf0⟩ := h0
  obtain ⟨y0, ky0, gy0⟩ := (opens_slice Try.underlying42 (by kernel_rfl) opens_52) enc W 0 (fun _ => true) true fuel0 _ _ hf0
  obtain ⟨A0, c0, hc0, l0, g0⟩ := ky0
  obtain ⟨a0_, len0_, cap0_, rfl⟩ := okWide_slice Try.underlying42 (hval 0 42 v0 rfl rfl)
  obtain ⟨rfl, rfl, rfl⟩ : a0_ = A0 ∧ len0_ = y0.length ∧ cap0_ = c0 := by simpa [Value.cells] using hc0
  have k1 := h1
  have lt1 : ∀ x ∈ p1, x.block < W.heap.size := by obtain ⟨m, hm⟩ := k1; exact DataW.trod_lt m _ _ _ hm
  obtain ⟨fuel1, hf1⟩ := h1
  obtain ⟨y1, ky1, gy1⟩ := (opens_slice Try.underlying43 (by kernel_rfl) (opens_bool Try.underlying4)) enc W 0 (fun _ => true) true fuel1 _ _ hf1
  obtain ⟨A1, c1, hc1, l1, g1⟩ := ky1
  obtain ⟨a1_, len1_, cap1_, rfl⟩ := okWide_slice Try.underlying43 (hval 1 43 v1 rfl rfl)
  obtain ⟨rfl, rfl, rfl⟩ : a1_ = A1 ∧ len1_ = y1.length ∧ cap1_ = c1 := by simpa [Value.cells] using hc1
  have k2 := h2
  have lt2 : ∀ x ∈ p2, x.block < W.heap.size := by obtain ⟨m, hm⟩ := k2; exact DataW.trod_lt m _ _ _ hm
  obtain ⟨fuel2, hf2⟩ := h2
  obtain ⟨y2, ky2, gy2⟩ := (opens_slice Try.underlying23 (by kernel_rfl) (opens_int Try.underlying3)) enc W 0 (fun _ => true) true fuel2 _ _ hf2
  obtain ⟨A2, c2, hc2, l2, g2⟩ := ky2
  obtain ⟨a2_, len2_, cap2_, rfl⟩ := okWide_slice Try.underlying23 (hval 2 23 v2 rfl rfl)
  obtain ⟨rfl, rfl, rfl⟩ : a2_ = A2 ∧ len2_ = y2.length ∧ cap2_ = c2 := by simpa [Value.cells] using hc2
  clear hA0 hval0 hsz0
  obtain ⟨k, hk⟩ := Pure.OutlineLines y0 y1 y2 gy0 gy1 gy2
  refine (fleuronlaw03_OutlineLines.calls k a0_ cap0_ y0 a1_ cap1_ y1 a2_ cap2_ y2 true W g0 l0 g1 l1 g2 l2 hk).mono fun e W' ⟨he, bel⟩ => ?_
  subst he
  exact ⟨_, rfl, _, _, _, [], _, [], hW', trodAll_mk1 (shut_bool Try.underlying4 _), (trodAll_cons_mk (Below.trod laidOut (by kernel_rfl) (of_decide_eq_true (by kernel_rfl)) k0 bel lt0) (trodAll_cons_mk (Below.trod laidOut (by kernel_rfl) (of_decide_eq_true (by kernel_rfl)) k1 bel lt1) (trodAll_cons_mk (Below.trod laidOut (by kernel_rfl) (of_decide_eq_true (by kernel_rfl)) k2 bel lt2) trodAll_mk0))), rfl, bel.frame _, fun h => by cases h⟩
theorem over : Rows.outlineLinesRow.holds Try.pinned (OpenSpec.ofChange Rows.outlineLinesSpec) :=
  OpenClaim.holds_of_wide 5 Try.f5 rfl rfl rfl rfl rfl rfl rfl ⟨rfl, rfl, rfl, rfl, rfl⟩ rfl rfl rfl rfl rfl (by kernel_rfl) Try.func5 (by kernel_rfl)
    (of_decide_eq_true (by kernel_rfl)) (by unfold Func.isWrapper; first | (rw [if_pos (by decide +kernel)]; kernel_rfl) | (rw [if_neg (by decide +kernel)]; exact ⟨rfl, rfl⟩))
    (fun os started H enc _ => lifted os started H enc)
theorem proved : Rows.OutlineLinesSaid := over
end Go.Proofs.Ytbmklpcheopgoaa.outlineLines
namespace Go.Proofs.Ytbmklpcheopgoaa
/-- The row, under a short name, for the claim. -/
theorem outlineLines_holds : Rows.OutlineLinesSaid := outlineLines.proved
#print axioms outlineLines_holds
end Go.Proofs.Ytbmklpcheopgoaa
