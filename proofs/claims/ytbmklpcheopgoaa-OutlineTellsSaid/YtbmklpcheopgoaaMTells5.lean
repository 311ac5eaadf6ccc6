/- Texts of this session, one behind the other, for the statement OutlineTells: what its functions compute, plain facts, and (last) its row. No condition besides those stated. -/
import Derived.Test.YtbmklpcheopgoaaMTells1
import Derived.Test.YtbmklpcheopgoaaMTells2
import Derived.Test.YtbmklpcheopgoaaMTells3
import Derived.Test.YtbmklpcheopgoaaMTells4
import Derived.Test.YtbmklpcheopgoaaWWords
import Derived.ChangeArms
import Derived.Deep.Slices
import Derived.OpenShut
import Derived.DataReads
import Derived.Test.YtbmklpcheopgoaaRows
import Derived.WalkKit
import Derived.ProofKit
import Derived.ShutString
import Derived.ChangeOld
import Derived.Below
import Derived.SizedLaws
set_option linter.unusedVariables false
set_option linter.unusedSimpArgs false
namespace Go.Proofs.Ytbmklpcheopgoaa.H
open Go.RowKit Go.Proofs.YtbmklpcheopgoaaW.PrintWords Go.Proofs.YtbmklpcheopgoaaW.PrintLast Go.Proofs.YtbmklpcheopgoaaW.PrintMore
attribute [local go_sem] max2_int min2_int max_two min_two max_three min_three max_four min_four
set_option linter.unusedVariables false
set_option linter.unusedSimpArgs false
attribute [local go_sem high] eqA33
mutual
def fleuronlaw03_OutlineTells.j0 : Nat → List (List (S33)) → List (List (S33)) → Bool → List (S33) → List Int → Option (Bool)
 | 0, _, _, _, _, _ => none
 | k + 1, x3, x5, x30, x196000, x196001 => if x30 = true then (none) else (fleuronlaw03_OutlineTells.l0 k x3 x5 0 x196000 x196001)
def fleuronlaw03_OutlineTells.l0 : Nat → List (List (S33)) → List (List (S33)) → Int → List (S33) → List Int → Option (Bool)
 | 0, _, _, _, _, _ => none
 | k + 1, x3, x5, x6, x196000, x196001 => if x6 < (x3.length : Int) then (if 0 ≤ x6 then (if x6 < (x5.length : Int) then ((fleuronref03_SamePoints.f k (rd_L3 x3 x6) (rd_L3 x5 x6)).bind fun t206 => (if t206 = true then (fleuronlaw03_OutlineTells.l0 k x3 x5 (wrap64 (x6 + 1)) x196000 x196001) else (none))) else (none)) else (none)) else ((outline_Box.f x196000 x196001).bind fun bt207 => ((fleuronref03_Box.f k x196000 x196001).bind fun bt216 => ((fleuronlaw03_drawn.f).bind fun t225 => (if t225 = true then ((outline_Right.f k x196000 x196001).bind fun t226 => ((fleuronref03_Right.f k x196000 x196001).bind fun t227 => (if (t226 == t227) = true then (if (bt207.1 == bt216.1 && (bt207.2.1 == bt216.2.1 && (bt207.2.2.1 == bt216.2.2.1))) = true then (if (bt207.2.2.2.1 == bt216.2.2.2.1 && (bt207.2.2.2.2.1 == bt216.2.2.2.2.1 && (bt207.2.2.2.2.2.1 == bt216.2.2.2.2.2.1))) = true then (if (bt207.2.2.2.2.2.2 == bt216.2.2.2.2.2.2) = true then ((outline_Area.f x196000 x196001).bind fun t228 => ((fleuronref03_Area.f k x196000 x196001).bind fun t229 => (some (t228 == t229)))) else (none)) else (none)) else (none)) else (none)))) else (none)))))
end
def fleuronlaw03_OutlineTells.f (k : Nat) (l0_0 : List (S33)) (l0_1 : List Int) : Option (Bool) := (fleuronref03_Big.f l0_0 l0_1).bind fun t196 => (if t196 = true then (some true) else ((fleuronlaw03_told.f l0_0 l0_1).bind fun bt197 => ((fleuronref03_Contours.f k l0_0 l0_1).bind fun t201 => (if bt197.2 = true then (fleuronlaw03_OutlineTells.j0 k bt197.1 t201 ((bt197.1.length : Int) != (t201.length : Int)) l0_0 l0_1) else (fleuronlaw03_OutlineTells.j0 k bt197.1 t201 true l0_0 l0_1)))))
theorem fleuronlaw03_OutlineTells.mono_l : ∀ k, (∀ y0 y1 y2 y3 y4, LeO (fleuronlaw03_OutlineTells.j0 k y0 y1 y2 y3 y4) (fleuronlaw03_OutlineTells.j0 (k + 1) y0 y1 y2 y3 y4)) ∧ (∀ y0 y1 y2 y3 y4, LeO (fleuronlaw03_OutlineTells.l0 k y0 y1 y2 y3 y4) (fleuronlaw03_OutlineTells.l0 (k + 1) y0 y1 y2 y3 y4))
 | 0 => ⟨fun _ _ _ _ _ r h => by simp [fleuronlaw03_OutlineTells.j0] at h, fun _ _ _ _ _ r h => by simp [fleuronlaw03_OutlineTells.l0] at h⟩
 | k + 1 => by
  obtain ⟨ih0, ih1⟩ := fleuronlaw03_OutlineTells.mono_l k
  refine ⟨?_, ?_⟩
  ·
   intro y0 y1 y2 y3 y4
   unfold fleuronlaw03_OutlineTells.j0
   repeat' first
   | (with_reducible exact ih0 _ _ _ _ _)
   | (with_reducible exact ih1 _ _ _ _ _)
   | (with_reducible exact fleuronref03_Area.mono _ _ _)
   | (with_reducible exact fleuronref03_Box.mono _ _ _)
   | (with_reducible exact fleuronref03_Contours.mono _ _ _)
   | (with_reducible exact fleuronref03_Right.mono _ _ _)
   | (with_reducible exact fleuronref03_SamePoints.mono _ _ _)
   | (with_reducible exact outline_Right.mono _ _ _)
   | (with_reducible exact LeO.refl _)
   | (with_reducible exact LeO.none _)
   | (with_reducible refine LeO.ite ?_ ?_)
   | (with_reducible refine LeO.bind ?_ (fun _ => ?_))
   | exact ih0 _ _ _ _ _
   | exact ih1 _ _ _ _ _
   | exact fleuronref03_Area.mono _ _ _
   | exact fleuronref03_Box.mono _ _ _
   | exact fleuronref03_Contours.mono _ _ _
   | exact fleuronref03_Right.mono _ _ _
   | exact fleuronref03_SamePoints.mono _ _ _
   | exact outline_Right.mono _ _ _
   | exact LeO.none _
   | refine LeO.ite ?_ ?_
   | refine LeO.bind ?_ (fun _ => ?_)
  ·
   intro y0 y1 y2 y3 y4
   unfold fleuronlaw03_OutlineTells.l0
   repeat' first
   | (with_reducible exact ih0 _ _ _ _ _)
   | (with_reducible exact ih1 _ _ _ _ _)
   | (with_reducible exact fleuronref03_Area.mono _ _ _)
   | (with_reducible exact fleuronref03_Box.mono _ _ _)
   | (with_reducible exact fleuronref03_Contours.mono _ _ _)
   | (with_reducible exact fleuronref03_Right.mono _ _ _)
   | (with_reducible exact fleuronref03_SamePoints.mono _ _ _)
   | (with_reducible exact outline_Right.mono _ _ _)
   | (with_reducible exact LeO.refl _)
   | (with_reducible exact LeO.none _)
   | (with_reducible refine LeO.ite ?_ ?_)
   | (with_reducible refine LeO.bind ?_ (fun _ => ?_))
   | exact ih0 _ _ _ _ _
   | exact ih1 _ _ _ _ _
   | exact fleuronref03_Area.mono _ _ _
   | exact fleuronref03_Box.mono _ _ _
   | exact fleuronref03_Contours.mono _ _ _
   | exact fleuronref03_Right.mono _ _ _
   | exact fleuronref03_SamePoints.mono _ _ _
   | exact outline_Right.mono _ _ _
   | exact LeO.none _
   | refine LeO.ite ?_ ?_
   | refine LeO.bind ?_ (fun _ => ?_)
theorem fleuronlaw03_OutlineTells.mono : ∀ a0 a1 k, LeO (fleuronlaw03_OutlineTells.f k a0 a1) (fleuronlaw03_OutlineTells.f (k + 1) a0 a1) := by
 intro a0 a1 k
 obtain ⟨ih0, ih1⟩ := fleuronlaw03_OutlineTells.mono_l k
 unfold fleuronlaw03_OutlineTells.f
 repeat' first
   | (with_reducible exact ih0 _ _ _ _ _)
   | (with_reducible exact ih1 _ _ _ _ _)
   | (with_reducible exact fleuronref03_Area.mono _ _ _)
   | (with_reducible exact fleuronref03_Box.mono _ _ _)
   | (with_reducible exact fleuronref03_Contours.mono _ _ _)
   | (with_reducible exact fleuronref03_Right.mono _ _ _)
   | (with_reducible exact fleuronref03_SamePoints.mono _ _ _)
   | (with_reducible exact outline_Right.mono _ _ _)
   | (with_reducible exact LeO.refl _)
   | (with_reducible exact LeO.none _)
   | (with_reducible refine LeO.ite ?_ ?_)
   | (with_reducible refine LeO.bind ?_ (fun _ => ?_))
   | exact ih0 _ _ _ _ _
   | exact ih1 _ _ _ _ _
   | exact fleuronref03_Area.mono _ _ _
   | exact fleuronref03_Box.mono _ _ _
   | exact fleuronref03_Contours.mono _ _ _
   | exact fleuronref03_Right.mono _ _ _
   | exact fleuronref03_SamePoints.mono _ _ _
   | exact outline_Right.mono _ _ _
   | exact LeO.none _
   | refine LeO.ite ?_ ?_
   | refine LeO.bind ?_ (fun _ => ?_)
def fleuronlaw03_OutlineTells.T10 : Bool × List (List Nat × List Nat) := (true, [([], []), ([], []), ([0, 1], [0, 1]), ([2], [2]), ([], []), ([], []), ([4, 5], [4, 5]), ([6], [6]), ([3, 7], [3, 7]), ([8], [8])])
def fleuronlaw03_OutlineTells.B10 : List Nat := [0, 0, 3, 7, 0, 0, 48, 112, 255, 511]
theorem fleuronlaw03_OutlineTells.tab10 : rtab .any (opsOf Try.f3 10) = fleuronlaw03_OutlineTells.T10 := by kernel_rfl
theorem fleuronlaw03_OutlineTells.bits10 : waitsOk fleuronlaw03_OutlineTells.T10.2 fleuronlaw03_OutlineTells.B10 = true := by kernel_rfl
def fleuronlaw03_OutlineTells.T14 : Bool × List (List Nat × List Nat) := (true, [([], []), ([0, 0], [0]), ([1], [1]), ([2, 1, 1], [1, 2]), ([1], [1]), ([4, 3, 1], [1, 4]), ([3, 5, 1], [1, 3, 5]), ([1, 6], [1, 6]), ([7, 5], [7]), ([8], [8]), ([8], [8]), ([9, 10, 8], [8, 9, 10]), ([8, 11], [8, 11]), ([12, 8], [12]), ([13], [13]), ([13], [13]), ([14, 15, 13], [13, 14, 15]), ([13, 16], [13, 16]), ([17, 13], [17]), ([18], [18]), ([18], [18]), ([19, 20, 18], [18, 19, 20]), ([18, 21], [18, 21]), ([22, 18], [22]), ([23], [23]), ([24, 23, 23], [23, 24]), ([23], [23]), ([26, 25, 23], [23, 26]), ([25, 27, 23], [23, 25, 27]), ([23, 28], [23, 28]), ([29, 27, 0, 1, 2, 3, 4, 5, 6, 7, 8, 9, 10, 11, 12, 13, 14, 15, 16, 17, 18, 19, 20, 21, 22, 23, 24, 25, 26, 27, 28, 29], [29])])
def fleuronlaw03_OutlineTells.B14 : List Nat := [0, 1, 3, 7, 3, 31, 63, 127, 255, 511, 511, 2047, 4095, 8191, 16383, 16383, 65535, 131071, 262143, 524287, 524287, 2097151, 4194303, 8388607, 16777215, 33554431, 16777215, 134217727, 268435455, 536870911, 1073741823]
theorem fleuronlaw03_OutlineTells.tab14 : rtab .any (opsOf Try.f3 14) = fleuronlaw03_OutlineTells.T14 := by kernel_rfl
theorem fleuronlaw03_OutlineTells.bits14 : waitsOk fleuronlaw03_OutlineTells.T14.2 fleuronlaw03_OutlineTells.B14 = true := by kernel_rfl
set_option maxHeartbeats 8000000 in
set_option maxRecDepth 100000 in
theorem fleuronlaw03_OutlineTells.calls (k : Nat) (A0_0 : Option Addr) (c0_0 : Nat) (l0_0 : List (S33)) (A0_1 : Option Addr) (c0_1 : Nat) (l0_1 : List Int) (r : Bool) (w : World) (hr0_0 : Kd.C k33 w A0_0 l0_0.length l0_0) (hc0_0 : l0_0.length ≤ c0_0) (hr0_1 : Kd.C (Kd.int .i64) w A0_1 l0_1.length l0_1) (hc0_1 : l0_1.length ≤ c0_1) (h : fleuronlaw03_OutlineTells.f k l0_0 l0_1 = some r) :
  Calls Try.prog 3 #[.agg #[.slice A0_0 l0_0.length c0_0, .slice A0_1 l0_1.length c0_1]] w fun e w' => e = .returned (.bool r) ∧ Below w.heap.size w w' := by
 have hu25 := Try.underlying25
 have hu33 := Try.underlying33
 have HR0_0 := aM hr0_0
 have HC0_0 := aM hc0_0
 clear hr0_0 hc0_0
 have HR0_1 := aM hr0_1
 have HC0_1 := aM hc0_1
 clear hr0_1 hc0_1
 have HB := aM (Below.refl w.heap.size w)
 have H : ((fleuronref03_Big.f l0_0 l0_1).bind fun t196 => (if t196 = true then (some true) else ((fleuronlaw03_told.f l0_0 l0_1).bind fun bt197 => ((fleuronref03_Contours.f k l0_0 l0_1).bind fun t201 => (if bt197.2 = true then (fleuronlaw03_OutlineTells.j0 k bt197.1 t201 ((bt197.1.length : Int) != (t201.length : Int)) l0_0 l0_1) else (fleuronlaw03_OutlineTells.j0 k bt197.1 t201 true l0_0 l0_1)))))) = some r := h
 clear h
 replace H := Option.bind_eq_some_iff.mp H
 obtain ⟨t196, A20, H⟩ := H
 replace H : (if t196 = true then (some true) else ((fleuronlaw03_told.f l0_0 l0_1).bind fun bt197 => ((fleuronref03_Contours.f k l0_0 l0_1).bind fun t201 => (if bt197.2 = true then (fleuronlaw03_OutlineTells.j0 k bt197.1 t201 ((bt197.1.length : Int) != (t201.length : Int)) l0_0 l0_1) else (fleuronlaw03_OutlineTells.j0 k bt197.1 t201 true l0_0 l0_1))))) = some r := H
 have A2 := aM A20
 clear A20
 by_cases c3 : t196 = true
 ·
  subst c3
  have H1 : (some true) = some r := by rw [if_pos rfl] at H; exact H
  clear H
  have H := H1
  clear H1
  obtain rfl := Option.some.inj H
  go_enter Try.func3, Try.ntmps3
  go_wp2_with (first | ((with_reducible refine gate_dst (N := 1) rfl ?_); (try (refine gate_guard (by rfl) ?_; dsimp only)); refine box_event ?hg (N := 1) ?hd (cs := #[.slice A0_0 l0_0.length c0_0, .slice A0_1 l0_1.length c0_1]) (t := 25) ?hr ?_; (case hd => rfl); (case hg => rfl); (case hr => first | (go_simp; done) | (go_simp; rfl)); intro gb195 hg w4 hbox hb; have n0_ := aM (below_step (by repeat (first | (with_reducible first | exact HB.out | apply bA | apply bN | apply bD) | exact HB.out)) hb); have n1_ := aM (hbox); have n2_ := aM ((by rw [hg]; exact (below_size (by repeat (first | (with_reducible first | exact HB.out | apply bA | apply bN | apply bD) | exact HB.out))) : w.heap.size ≤ gb195)); have n3_ := aM ((by rw [hg]; exact (below_size (by repeat (first | (with_reducible first | exact HB.out | apply bA | apply bN | apply bD) | exact HB.out))) : w.heap.size ≤ gb195)); clear HB; have HB := n0_; have BK195 := n1_; have GW195 := n2_; have GE195 := n3_; clear n0_ n1_ n2_ n3_; clear hb hbox hg; have hcz5_0 : w4.cell? ⟨gb195, 0, none⟩ = some (.slice A0_0 l0_0.length c0_0) := (blk_cell BK195.out 0).trans rfl; have hcz5_1 : w4.cell? ⟨gb195, 1, none⟩ = some (.slice A0_1 l0_1.length c0_1) := (blk_cell BK195.out 1).trans rfl; have hfz5_0 := blk_frozen BK195.out 0; have hfz5_1 := blk_frozen BK195.out 1) | ((with_reducible refine gate_callee (f := 15) rfl ?_); refine goesL_ (some 14) rfl rfl Try.func15 (by kernel_rfl) rfl #[.agg #[.slice A0_0 l0_0.length c0_0, .slice A0_1 l0_1.length c0_1]] rfl (by (try simp only [List.map_toArray, List.map_cons, List.map_nil]); first | done | rfl | (simp only [List.length_drop, List.length_take]; rfl)) ?_; (with_reducible refine (fleuronref03_Big.calls _ _ l0_0 _ _ l0_1 true _ ?side1 ?side2 ?side3 ?side4 A2.out).mono ?_); (case side1 => repeat (first | exact (Kd.C_below HR0_0.out HB.out) | (with_reducible refine Kd.C_alloc ?_ _) | (with_reducible refine Kd.C_drewN ?_ _) | (with_reducible refine Kd.C_drew ?_))); (case side2 => exact HC0_0.out); (case side3 => repeat (first | exact (Kd.C_below HR0_1.out HB.out) | (with_reducible refine Kd.C_alloc ?_ _) | (with_reducible refine Kd.C_drewN ?_ _) | (with_reducible refine Kd.C_drew ?_))); (case side4 => exact HC0_1.out); rintro e w6 ⟨rfl, hb⟩; refine ⟨_, rfl, ?_⟩; have n0_ := aM (blk_below (g := gb195) (o := .cells #[.slice A0_0 l0_0.length c0_0, .slice A0_1 l0_1.length c0_1] 25 (0, 0)) (by (with_reducible repeat (first | refine kN ?_ _ | refine kD ?_ | refine kA ?_ _)); exact BK195.out) hb); have n1_ := aM (below_step (by repeat (first | (with_reducible first | exact HB.out | apply bA | apply bN | apply bD | refine bS ?_ GE195.out) | exact HB.out)) hb); clear BK195; clear HB; have BK195 := n0_; have HB := n1_; clear n0_ n1_; (try clear hb); (try clear hb2); (try clear hk); (try clear hi)))
  go_ret
  exact ⟨by first | rfl | (simp [errW_none, errW_some] <;> rfl) | (simp [*, errW_none, errW_some] <;> rfl), by repeat (first | (with_reducible first | exact HB.out | apply bA | apply bN | apply bD | refine bS ?_ GE195.out) | exact HB.out)⟩
 ·
  replace c3 := Bool.eq_false_iff.mpr c3
  subst c3
  have H1 : ((fleuronlaw03_told.f l0_0 l0_1).bind fun bt197 => ((fleuronref03_Contours.f k l0_0 l0_1).bind fun t201 => (if bt197.2 = true then (fleuronlaw03_OutlineTells.j0 k bt197.1 t201 ((bt197.1.length : Int) != (t201.length : Int)) l0_0 l0_1) else (fleuronlaw03_OutlineTells.j0 k bt197.1 t201 true l0_0 l0_1)))) = some r := by rw [if_neg (show ¬ (false = true) by decide)] at H; exact H
  clear H
  have H := H1
  clear H1
  replace H := Option.bind_eq_some_iff.mp H
  obtain ⟨⟨t197, t200⟩, A70, H⟩ := H
  replace H : ((fleuronref03_Contours.f k l0_0 l0_1).bind fun t201 => (if t200 = true then (fleuronlaw03_OutlineTells.j0 k t197 t201 ((t197.length : Int) != (t201.length : Int)) l0_0 l0_1) else (fleuronlaw03_OutlineTells.j0 k t197 t201 true l0_0 l0_1))) = some r := H
  have A7 := aM A70
  clear A70
  replace H := Option.bind_eq_some_iff.mp H
  obtain ⟨t201, A80, H⟩ := H
  replace H : (if t200 = true then (fleuronlaw03_OutlineTells.j0 k t197 t201 ((t197.length : Int) != (t201.length : Int)) l0_0 l0_1) else (fleuronlaw03_OutlineTells.j0 k t197 t201 true l0_0 l0_1)) = some r := H
  have A8 := aM A80
  clear A80
  have HC9 := aM H
  clear H
  go_enter Try.func3, Try.ntmps3
  go_upto_region 5 with (first | ((with_reducible refine gate_dst (N := 1) rfl ?_); (try (refine gate_guard (by rfl) ?_; dsimp only)); refine box_event ?hg (N := 1) ?hd (cs := #[.slice A0_0 l0_0.length c0_0, .slice A0_1 l0_1.length c0_1]) (t := 25) ?hr ?_; (case hd => rfl); (case hg => rfl); (case hr => first | (go_simp; done) | (go_simp; rfl)); intro gb195 hg w10 hbox hb; have n0_ := aM (below_step (by repeat (first | (with_reducible first | exact HB.out | apply bA | apply bN | apply bD) | exact HB.out)) hb); have n1_ := aM (hbox); have n2_ := aM ((by rw [hg]; exact (below_size (by repeat (first | (with_reducible first | exact HB.out | apply bA | apply bN | apply bD) | exact HB.out))) : w.heap.size ≤ gb195)); have n3_ := aM ((by rw [hg]; exact (below_size (by repeat (first | (with_reducible first | exact HB.out | apply bA | apply bN | apply bD) | exact HB.out))) : w.heap.size ≤ gb195)); clear HB; have HB := n0_; have BK195 := n1_; have GW195 := n2_; have GE195 := n3_; clear n0_ n1_ n2_ n3_; clear hb hbox hg; have hcz11_0 : w10.cell? ⟨gb195, 0, none⟩ = some (.slice A0_0 l0_0.length c0_0) := (blk_cell BK195.out 0).trans rfl; have hcz11_1 : w10.cell? ⟨gb195, 1, none⟩ = some (.slice A0_1 l0_1.length c0_1) := (blk_cell BK195.out 1).trans rfl; have hfz11_0 := blk_frozen BK195.out 0; have hfz11_1 := blk_frozen BK195.out 1) | ((with_reducible refine gate_callee (f := 15) rfl ?_); refine goesL_ (some 14) rfl rfl Try.func15 (by kernel_rfl) rfl #[.agg #[.slice A0_0 l0_0.length c0_0, .slice A0_1 l0_1.length c0_1]] rfl (by (try simp only [List.map_toArray, List.map_cons, List.map_nil]); first | done | rfl | (simp only [List.length_drop, List.length_take]; rfl)) ?_; (with_reducible refine (fleuronref03_Big.calls _ _ l0_0 _ _ l0_1 false _ ?side1 ?side2 ?side3 ?side4 A2.out).mono ?_); (case side1 => repeat (first | exact (Kd.C_below HR0_0.out HB.out) | (with_reducible refine Kd.C_alloc ?_ _) | (with_reducible refine Kd.C_drewN ?_ _) | (with_reducible refine Kd.C_drew ?_))); (case side2 => exact HC0_0.out); (case side3 => repeat (first | exact (Kd.C_below HR0_1.out HB.out) | (with_reducible refine Kd.C_alloc ?_ _) | (with_reducible refine Kd.C_drewN ?_ _) | (with_reducible refine Kd.C_drew ?_))); (case side4 => exact HC0_1.out); rintro e w12 ⟨rfl, hb⟩; refine ⟨_, rfl, ?_⟩; have n0_ := aM (blk_below (g := gb195) (o := .cells #[.slice A0_0 l0_0.length c0_0, .slice A0_1 l0_1.length c0_1] 25 (0, 0)) (by (with_reducible repeat (first | refine kN ?_ _ | refine kD ?_ | refine kA ?_ _)); exact BK195.out) hb); have n1_ := aM (below_step (by repeat (first | (with_reducible first | exact HB.out | apply bA | apply bN | apply bD | refine bS ?_ GE195.out) | exact HB.out)) hb); clear BK195; clear HB; have BK195 := n0_; have HB := n1_; clear n0_ n1_; (try clear hb); (try clear hb2); (try clear hk); (try clear hi); have hcz13_0 : w12.cell? ⟨gb195, 0, none⟩ = some (.slice A0_0 l0_0.length c0_0) := (blk_cell BK195.out 0).trans rfl; have hcz13_1 : w12.cell? ⟨gb195, 1, none⟩ = some (.slice A0_1 l0_1.length c0_1) := (blk_cell BK195.out 1).trans rfl; have hfz13_0 := blk_frozen BK195.out 0; have hfz13_1 := blk_frozen BK195.out 1) | ((with_reducible refine gate_callee (f := 16) rfl ?_); refine goesL_ (some 17) rfl rfl Try.func16 (by kernel_rfl) rfl #[.agg #[.slice A0_0 l0_0.length c0_0, .slice A0_1 l0_1.length c0_1]] rfl (by (try simp only [List.map_toArray, List.map_cons, List.map_nil]); first | done | rfl | (simp only [List.length_drop, List.length_take]; rfl)) ?_; (with_reducible refine (fleuronlaw03_told.calls _ _ l0_0 _ _ l0_1 t197 t200 _ ?side1 ?side2 ?side3 ?side4 A7.out).mono ?_); (case side1 => repeat (first | exact (Kd.C_below HR0_0.out HB.out) | (with_reducible refine Kd.C_alloc ?_ _) | (with_reducible refine Kd.C_drewN ?_ _) | (with_reducible refine Kd.C_drew ?_))); (case side2 => exact HC0_0.out); (case side3 => repeat (first | exact (Kd.C_below HR0_1.out HB.out) | (with_reducible refine Kd.C_alloc ?_ _) | (with_reducible refine Kd.C_drewN ?_ _) | (with_reducible refine Kd.C_drew ?_))); (case side4 => exact HC0_1.out); rintro e w14 ⟨v198, rfl, ho0, hb⟩; refine ⟨_, rfl, ?_⟩; have n0_ := aM (Kd.S_lower ho0 (below_size (by repeat (first | (with_reducible first | exact HB.out | apply bA | apply bN | apply bD | refine bS ?_ GE195.out) | exact HB.out)))); have n1_ := aM (blk_below (g := gb195) (o := .cells #[.slice A0_0 l0_0.length c0_0, .slice A0_1 l0_1.length c0_1] 25 (0, 0)) (by (with_reducible repeat (first | refine kN ?_ _ | refine kD ?_ | refine kA ?_ _)); exact BK195.out) hb); have n2_ := aM (below_step (by repeat (first | (with_reducible first | exact HB.out | apply bA | apply bN | apply bD | refine bS ?_ GE195.out) | exact HB.out)) hb); clear BK195; clear HB; have HO199 := n0_; have BK195 := n1_; have HB := n2_; clear n0_ n1_ n2_; (try clear hb); (try clear hb2); (try clear hk); (try clear hi); (try clear ho0); have hcz15_0 : w14.cell? ⟨gb195, 0, none⟩ = some (.slice A0_0 l0_0.length c0_0) := (blk_cell BK195.out 0).trans rfl; have hcz15_1 : w14.cell? ⟨gb195, 1, none⟩ = some (.slice A0_1 l0_1.length c0_1) := (blk_cell BK195.out 1).trans rfl; have hfz15_0 := blk_frozen BK195.out 0; have hfz15_1 := blk_frozen BK195.out 1) | ((with_reducible refine gate_callee (f := 17) rfl ?_); refine goesL_ (some 21) rfl rfl Try.func17 (by kernel_rfl) rfl #[.agg #[.slice A0_0 l0_0.length c0_0, .slice A0_1 l0_1.length c0_1]] rfl (by (try simp only [List.map_toArray, List.map_cons, List.map_nil]); first | done | rfl | (simp only [List.length_drop, List.length_take]; rfl)) ?_; (with_reducible refine (fleuronref03_Contours.calls k _ _ l0_0 _ _ l0_1 t201 _ ?side1 ?side2 ?side3 ?side4 A8.out).mono ?_); (case side1 => repeat (first | exact (Kd.C_below HR0_0.out HB.out) | (with_reducible refine Kd.C_alloc ?_ _) | (with_reducible refine Kd.C_drewN ?_ _) | (with_reducible refine Kd.C_drew ?_))); (case side2 => exact HC0_0.out); (case side3 => repeat (first | exact (Kd.C_below HR0_1.out HB.out) | (with_reducible refine Kd.C_alloc ?_ _) | (with_reducible refine Kd.C_drewN ?_ _) | (with_reducible refine Kd.C_drew ?_))); (case side4 => exact HC0_1.out); rintro e w16 ⟨v202, rfl, ho0, hb⟩; refine ⟨_, rfl, ?_⟩; have n0_ := aM (Kd.S_elder' (by (with_reducible repeat (first | apply Kd.S_alloc | apply Kd.S_drewN | apply Kd.S_drew)); exact HO199.out) (Kd.S_base ho0) hb); have n1_ := aM (Kd.S_lower (Kd.S_new' ho0 (Kd.S_lt (by (with_reducible repeat (first | apply Kd.S_alloc | apply Kd.S_drewN | apply Kd.S_drew)); exact HO199.out))) (below_size (by repeat (first | (with_reducible first | exact HB.out | apply bA | apply bN | apply bD | refine bS ?_ GE195.out) | exact HB.out)))); have n2_ := aM (blk_below (g := gb195) (o := .cells #[.slice A0_0 l0_0.length c0_0, .slice A0_1 l0_1.length c0_1] 25 (0, 0)) (by (with_reducible repeat (first | refine kN ?_ _ | refine kD ?_ | refine kA ?_ _)); exact BK195.out) hb); have n3_ := aM (below_step (by repeat (first | (with_reducible first | exact HB.out | apply bA | apply bN | apply bD | refine bS ?_ GE195.out) | exact HB.out)) hb); clear HO199; clear BK195; clear HB; have HO199 := n0_; have HO203 := n1_; have BK195 := n2_; have HB := n3_; clear n0_ n1_ n2_ n3_; (try clear hb); (try clear hb2); (try clear hk); (try clear hi); (try clear ho0)))
  (try simp only [Act.put, List.setIfInBounds_toArray, List.set_cons_zero, List.set_cons_succ])
  go_cut [30] (fun v30 wc => ∃ (kq : Nat) (x30_8 : Bool), v30 = .bool x30_8 ∧ Aside0 (fleuronlaw03_OutlineTells.j0 kq t197 t201 x30_8 l0_0 l0_1 = some r) ∧ Aside0 (kq ≤ k) ∧ Aside0 (Kd.S (Kd.slice 33 k33) 22 wc w.heap.size (fun k_ => some k_ ≠ (v202 : Value).ownBlock) v198 t197) ∧ Aside0 (Kd.S (Kd.slice 33 k33) 22 wc w.heap.size (fun k_ => some k_ ≠ (v198 : Value).ownBlock) v202 t201) ∧ Aside0 (wc.heap[gb195]? = some (.cells #[(.slice A0_0 l0_0.length c0_0), (.slice A0_1 l0_1.length c0_1)] 25 (0, 0))) ∧ Aside0 (Below w.heap.size w wc))
  case first =>
   have H := HC9.out
   clear HC9
   by_cases c17 : t200 = true
   ·
    subst c17
    have H1 : (fleuronlaw03_OutlineTells.j0 k t197 t201 ((t197.length : Int) != (t201.length : Int)) l0_0 l0_1) = some r := by rw [if_pos rfl] at H; exact H
    clear H
    have H := H1
    clear H1
    have H' := aM H
    clear H
    obtain ⟨Ao18, co18, eo18⟩ := Kd.S_slice HO199.out
    subst eo18
    obtain ⟨Ao19, co19, eo19⟩ := Kd.S_slice HO203.out
    subst eo19
    go_wp2
    go_meet
    case rel => exact ⟨_, (((t197.length : Int) != (t201.length : Int))), (by first | rfl | (simp; done) | (simp [*]; done)), H', ⟨by first | omega | exact Nat.le_refl _⟩, ⟨by (with_reducible repeat (first | apply Kd.S_alloc | apply Kd.S_drewN | apply Kd.S_drew)); exact Kd.S_mono HO199.out (fun _ hk => hk.2)⟩, ⟨by (with_reducible repeat (first | apply Kd.S_alloc | apply Kd.S_drewN | apply Kd.S_drew)); exact Kd.S_mono HO203.out (fun _ hk => hk.2)⟩, ⟨by (with_reducible repeat (first | refine kN ?_ _ | refine kD ?_ | refine kA ?_ _)); exact BK195.out⟩, ⟨by repeat (first | (with_reducible first | exact HB.out | apply bA | apply bN | apply bD | refine bS ?_ GE195.out) | exact HB.out)⟩⟩
   ·
    replace c17 := Bool.eq_false_iff.mpr c17
    subst c17
    have H1 : (fleuronlaw03_OutlineTells.j0 k t197 t201 true l0_0 l0_1) = some r := by rw [if_neg (show ¬ (false = true) by decide)] at H; exact H
    clear H
    have H := H1
    clear H1
    have H' := aM H
    clear H
    go_wp2
    go_meet
    case rel => exact ⟨_, (true), (by first | rfl | (simp; done) | (simp [*]; done)), H', ⟨by first | omega | exact Nat.le_refl _⟩, ⟨by (with_reducible repeat (first | apply Kd.S_alloc | apply Kd.S_drewN | apply Kd.S_drew)); exact Kd.S_mono HO199.out (fun _ hk => hk.2)⟩, ⟨by (with_reducible repeat (first | apply Kd.S_alloc | apply Kd.S_drewN | apply Kd.S_drew)); exact Kd.S_mono HO203.out (fun _ hk => hk.2)⟩, ⟨by (with_reducible repeat (first | refine kN ?_ _ | refine kD ?_ | refine kA ?_ _)); exact BK195.out⟩, ⟨by repeat (first | (with_reducible first | exact HB.out | apply bA | apply bN | apply bD | refine bS ?_ GE195.out) | exact HB.out)⟩⟩
  case rest =>
   clear HC9
   try clear c1
   try clear p2
   try clear c3
   try clear c15
   try clear c16
   try clear c17
   try clear hcz11_0
   try clear hcz11_1
   try clear hcz13_0
   try clear hcz13_1
   try clear hcz15_0
   try clear hcz15_1
   try clear hcz5_0
   try clear hcz5_1
   try clear hfz11_0
   try clear hfz11_1
   try clear hfz13_0
   try clear hfz13_1
   try clear hfz15_0
   try clear hfz15_1
   try clear hfz5_0
   try clear hfz5_1
   obtain ⟨kq, x30_8, rfl, HA, HJ8, HO_3, HO_5, BK195, HB⟩ := hcut
   cases kq with
   | zero => exact absurd HA.out (by simp [fleuronlaw03_OutlineTells.j0])
   | succ kj8 =>
    have H := HA.out
    clear HA
    simp only [fleuronlaw03_OutlineTells.j0] at H
    by_cases c20 : x30_8 = true
    ·
     subst c20
     have H1 : (none) = some r := by rw [if_pos rfl] at H; exact H
     clear H
     have H := H1
     clear H1
     exact absurd H (by simp)
    ·
     replace c20 := Bool.eq_false_iff.mpr c20
     subst c20
     have H1 : (fleuronlaw03_OutlineTells.l0 kj8 t197 t201 0 l0_0 l0_1) = some r := by rw [if_neg (show ¬ (false = true) by decide)] at H; exact H
     clear H
     have H := H1
     clear H1
     have H' := aM H
     clear H
     go_wp2
     go_loopg [6] kj8 (fun kq v6 w' => ∃ (x6_2 : Int), v6 = .int .i64 x6_2 ∧ Aside0 (fleuronlaw03_OutlineTells.l0 kq t197 t201 x6_2 l0_0 l0_1 = some r) ∧ Aside0 (kq ≤ kj8) ∧ Aside0 (Kd.S (Kd.slice 33 k33) 22 w' w.heap.size (fun k_ => some k_ ≠ (v202 : Value).ownBlock) v198 t197) ∧ Aside0 (Kd.S (Kd.slice 33 k33) 22 w' w.heap.size (fun k_ => some k_ ≠ (v198 : Value).ownBlock) v202 t201) ∧ Aside0 (w'.heap[gb195]? = some (.cells #[(.slice A0_0 l0_0.length c0_0), (.slice A0_1 l0_1.length c0_1)] 25 (0, 0))) ∧ Aside0 (Below w.heap.size w w'))
     case atStart => exact ⟨(0), (by first | rfl | (simp; done) | (simp [*]; done)), H', ⟨Nat.le_refl _⟩, ⟨by (with_reducible repeat (first | apply Kd.S_alloc | apply Kd.S_drewN | apply Kd.S_drew)); exact HO_3.out⟩, ⟨by (with_reducible repeat (first | apply Kd.S_alloc | apply Kd.S_drewN | apply Kd.S_drew)); exact HO_5.out⟩, ⟨by (with_reducible repeat (first | refine kN ?_ _ | refine kD ?_ | refine kA ?_ _)); exact BK195.out⟩, ⟨by repeat (first | (with_reducible first | exact HB.out | apply bA | apply bN | apply bD | refine bS ?_ GE195.out) | exact HB.out)⟩⟩
     case round =>
      clear H'
      try clear c1
      try clear c2
      try clear p2
      try clear c3
      try clear c15
      try clear c16
      try clear c17
      try clear c20
      try clear hcz11_0
      try clear hcz11_1
      try clear hcz13_0
      try clear hcz13_1
      try clear hcz15_0
      try clear hcz15_1
      try clear hcz5_0
      try clear hcz5_1
      try clear hfz11_0
      try clear hfz11_1
      try clear hfz13_0
      try clear hfz13_1
      try clear hfz15_0
      try clear hfz15_1
      try clear hfz5_0
      try clear hfz5_1
      try clear p2
      obtain ⟨x6_2, rfl, HA, HK2, HO_3, HO_5, BK195, HB⟩ := hrel
      cases gk with
      | zero => exact absurd HA.out (by simp [fleuronlaw03_OutlineTells.l0])
      | succ k2 =>
       have H := HA.out
       clear HA
       simp only [fleuronlaw03_OutlineTells.l0] at H
       by_cases c21 : x6_2 < (t197.length : Int)
       ·
        rw [if_pos c21] at H
        have c21b0 : decide (x6_2 < (t197.length : Int)) = true := decide_eq_true c21
        clear c21
        by_cases c22 : 0 ≤ x6_2
        ·
         rw [if_pos c22] at H
         have c22b0 : decide (0 ≤ x6_2) = true := decide_eq_true c22
         clear c22
         by_cases c23 : x6_2 < (t201.length : Int)
         ·
          rw [if_pos c23] at H
          have c23b0 : decide (x6_2 < (t201.length : Int)) = true := decide_eq_true c23
          clear c23
          replace H := Option.bind_eq_some_iff.mp H
          obtain ⟨t206, A240, H⟩ := H
          replace H : (if t206 = true then (fleuronlaw03_OutlineTells.l0 k2 t197 t201 (wrap64 (x6_2 + 1)) l0_0 l0_1) else (none)) = some r := H
          have A24 := aM A240
          clear A240
          by_cases c25 : t206 = true
          ·
           subst c25
           have H1 : (fleuronlaw03_OutlineTells.l0 k2 t197 t201 (wrap64 (x6_2 + 1)) l0_0 l0_1) = some r := by rw [if_pos rfl] at H; exact H
           clear H
           have H := H1
           clear H1
           have H' := aM H
           clear H
           obtain ⟨Ao26, co26, eo26⟩ := Kd.S_slice HO_3.out
           subst eo26
           try go_wp2
           have n0_ := aM (Kd.S_drew HO_3.out)
           have n1_ := aM (Kd.S_drew HO_5.out)
           have n2_ := aM (kD BK195.out)
           have n3_ := aM (bD HB.out)
           clear HO_3
           clear HO_5
           clear BK195
           clear HB
           have HO_3 := n0_
           have HO_5 := n1_
           have BK195 := n2_
           have HB := n3_
           clear n0_ n1_ n2_ n3_
           have p204 : 0 ≤ (x6_2 : Int) := dT (by assumption)
           have q204 : x6_2 < (t197.length : Int) := dT (by assumption)
           obtain ⟨ad204, A204_0, c204_0, e204, hx204_0, hl204_0, hi204_0⟩ := at_L3 (Kd.S_reads' HO_3.out).2.2 x6_2 p204 q204
           cases e204
           obtain ⟨ce204, hce204, hMe204, hcc204⟩ := Kd.S_get HO_3.out [] x6_2 p204 (by first | exact q204 | exact dT (by assumption) | (have e_ := (Kd.S_reads' HO_3.out).1; omega))
           obtain ⟨ve204_0, rfl, ge204_0⟩ := hMe204
           have hv204_0 := hcc204 0 _ rfl
           rw [Nat.add_zero, show ((Kd.slice 33 k33)).sz = 1 from rfl, Nat.mul_one] at hv204_0
           replace hv204_0 := Option.some.inj (hv204_0.symm.trans hx204_0)
           rw [hv204_0] at ge204_0
           have HL204_0 := aM (show Kd.R k33 33 _ _ _ _ (rd_L3 t197 x6_2) from ge204_0)
           clear hv204_0 ge204_0
           clear hcc204 hce204
           have HR204_0 := aM hi204_0
           have HC204_0 := aM hl204_0
           clear hi204_0 hl204_0
           replace p204 := eq_true p204
           replace q204 := eq_true q204
           obtain ⟨Ao28, co28, eo28⟩ := Kd.S_slice HO_5.out
           (first | subst eo28 | (injection eo28 with f1_ f2_ f3_; have f4_ := f1_.symm; have f5_ := f3_.symm; clear f1_ f2_ f3_; subst f4_; subst f5_))
           have p205 : 0 ≤ (x6_2 : Int) := dT (by assumption)
           have q205 : x6_2 < (t201.length : Int) := dT (by assumption)
           obtain ⟨ad205, A205_0, c205_0, e205, hx205_0, hl205_0, hi205_0⟩ := at_L3 (Kd.S_reads' HO_5.out).2.2 x6_2 p205 q205
           cases e205
           obtain ⟨ce205, hce205, hMe205, hcc205⟩ := Kd.S_get HO_5.out [] x6_2 p205 (by first | exact q205 | exact dT (by assumption) | (have e_ := (Kd.S_reads' HO_5.out).1; omega))
           obtain ⟨ve205_0, rfl, ge205_0⟩ := hMe205
           have hv205_0 := hcc205 0 _ rfl
           rw [Nat.add_zero, show ((Kd.slice 33 k33)).sz = 1 from rfl, Nat.mul_one] at hv205_0
           replace hv205_0 := Option.some.inj (hv205_0.symm.trans hx205_0)
           rw [hv205_0] at ge205_0
           have HL205_0 := aM (show Kd.R k33 33 _ _ _ _ (rd_L3 t201 x6_2) from ge205_0)
           clear hv205_0 ge205_0
           clear hcc205 hce205
           have HR205_0 := aM hi205_0
           have HC205_0 := aM hl205_0
           clear hi205_0 hl205_0
           replace p205 := eq_true p205
           replace q205 := eq_true q205
           refine start_ (n := 10) (S := fun w' => w'.cell? (ad204.add (x6_2).toNat) = some (.slice A204_0 (rd_L3 t197 x6_2).length c204_0) ∧ w'.cell? (ad205.add (x6_2).toNat) = some (.slice A205_0 (rd_L3 t201 x6_2).length c205_0)) (ds := []) #[false, false, false, false, false, false, false, false, false, false] (by kernel_rfl) rfl rfl ⟨hx204_0, hx205_0⟩ (fun hHeld => ?_); refine with_tabW fleuronlaw03_OutlineTells.tab10 fleuronlaw03_OutlineTells.bits10 (fun HT_ HW_ => ?_)
           generalize wr.drew = w27 at HO_3 HO_5 BK195 HB HL204_0 HL205_0 HR204_0 HR205_0 hx204_0 hx205_0 hHeld ⊢
           refine pure_ (i := 0) (N := some 37) (v := ?_) (a' := ?_) #[true, false, false, false, false, false, false, false, false, false] rfl rfl (any_of HT_.out (by kernel_rfl)) (fun _ _ _ h => h) (Or.inl ⟨by rfl, ?_⟩) ?_ ?_
           rotate_left
           ·
            intro w'
            go_simp
            with_reducible rfl
           rotate_left
           ·
            simp only [Act.put, List.setIfInBounds_toArray, List.set_cons_zero, List.set_cons_succ, i64_w, i32_w]
            rfl
           refine pure_ (i := 1) (N := some 38) (v := ?_) (a' := ?_) #[true, true, false, false, false, false, false, false, false, false] rfl rfl (any_of HT_.out (by kernel_rfl)) (fun _ _ _ h => h) (Or.inl ⟨by rfl, ?_⟩) ?_ ?_
           rotate_left
           ·
            intro w'
            go_simp
            with_reducible rfl
           rotate_left
           ·
            simp only [Act.put, List.setIfInBounds_toArray, List.set_cons_zero, List.set_cons_succ, i64_w, i32_w]
            rfl
           refine pure_ (i := 2) (N := some 39) (v := ?_) (a' := ?_) #[true, true, true, false, false, false, false, false, false, false] rfl rfl (any_of HT_.out (by kernel_rfl)) (fun _ _ _ h => h) (Or.inl ⟨by rfl, ?_⟩) ?_ ?_
           rotate_left
           ·
            intro w'
            go_simp
            with_reducible rfl
           rotate_left
           ·
            simp only [Act.put, List.setIfInBounds_toArray, List.set_cons_zero, List.set_cons_succ, i64_w, i32_w]
            rfl
           refine pure_ (i := 4) (N := some 41) (v := ?_) (a' := ?_) #[true, true, true, false, true, false, false, false, false, false] rfl rfl (any_of HT_.out (by kernel_rfl)) (fun _ _ _ h => h) (Or.inl ⟨by rfl, ?_⟩) ?_ ?_
           rotate_left
           ·
            intro w'
            go_simp
            with_reducible rfl
           rotate_left
           ·
            simp only [Act.put, List.setIfInBounds_toArray, List.set_cons_zero, List.set_cons_succ, i64_w, i32_w]
            rfl
           refine pure_ (i := 5) (N := some 42) (v := ?_) (a' := ?_) #[true, true, true, false, true, true, false, false, false, false] rfl rfl (any_of HT_.out (by kernel_rfl)) (fun _ _ _ h => h) (Or.inl ⟨by rfl, ?_⟩) ?_ ?_
           rotate_left
           ·
            intro w'
            go_simp
            with_reducible rfl
           rotate_left
           ·
            simp only [Act.put, List.setIfInBounds_toArray, List.set_cons_zero, List.set_cons_succ, i64_w, i32_w]
            rfl
           refine pure_ (i := 6) (N := some 43) (v := ?_) (a' := ?_) #[true, true, true, false, true, true, true, false, false, false] rfl rfl (any_of HT_.out (by kernel_rfl)) (fun _ _ _ h => h) (Or.inl ⟨by rfl, ?_⟩) ?_ ?_
           rotate_left
           ·
            intro w'
            go_simp
            with_reducible rfl
           rotate_left
           ·
            simp only [Act.put, List.setIfInBounds_toArray, List.set_cons_zero, List.set_cons_succ, i64_w, i32_w]
            rfl
           refine take_ (i := 3) (N := some 40) (v := ?_) (a' := ?_) #[true, true, true, true, true, true, true, false, false, false] rfl rfl (take_ofW HT_.out HW_.out (by kernel_rfl)) (fun _ _ _ h => h) (Or.inl ⟨by rfl, ?_⟩) hHeld ?_ ?_
           rotate_left
           ·
            rintro w' ⟨s0, s1⟩
            go_simp
            with_reducible rfl
           rotate_left
           ·
            simp only [Act.put, List.setIfInBounds_toArray, List.set_cons_zero, List.set_cons_succ, i64_w, i32_w]
            rfl
           refine take_ (i := 7) (N := some 44) (v := ?_) (a' := ?_) #[true, true, true, true, true, true, true, true, false, false] rfl rfl (take_ofW HT_.out HW_.out (by kernel_rfl)) (fun _ _ _ h => h) (Or.inl ⟨by rfl, ?_⟩) hHeld ?_ ?_
           rotate_left
           ·
            rintro w' ⟨s0, s1⟩
            go_simp
            with_reducible rfl
           rotate_left
           ·
            simp only [Act.put, List.setIfInBounds_toArray, List.set_cons_zero, List.set_cons_succ, i64_w, i32_w]
            rfl
           refine one_ (i := 8) (N := some 45) #[true, true, true, true, true, true, true, true, true, false] rfl rfl (one_of HT_.out (by kernel_rfl)) (by decide) (fun K hK => ?_)
           refine goes_ Try.func18 (by kernel_rfl) rfl #[.slice A204_0 (rd_L3 t197 x6_2).length c204_0, .slice A205_0 (rd_L3 t201 x6_2).length c205_0] (by rfl) rfl rfl (by (try simp only [List.map_toArray, List.map_cons, List.map_nil]); first | done | rfl | (simp only [List.length_drop, List.length_take]; rfl)) ?_
           with_reducible refine (fleuronref03_SamePoints.calls k2 _ _ (rd_L3 t197 x6_2) _ _ (rd_L3 t201 x6_2) true _ ?side1 ?side2 ?side3 ?side4 A24.out).mono ?_
           (case side1 => repeat (first | exact (by repeat (first | (with_reducible exact HR204_0.out) | (with_reducible refine Kd.C_alloc ?_ _) | (with_reducible refine Kd.C_drewN ?_ _) | (with_reducible refine Kd.C_drew ?_) | exact HR204_0.out)) | (with_reducible refine Kd.C_alloc ?_ _) | (with_reducible refine Kd.C_drewN ?_ _) | (with_reducible refine Kd.C_drew ?_)))
           (case side2 => exact HC204_0.out)
           (case side3 => repeat (first | exact (by repeat (first | (with_reducible exact HR205_0.out) | (with_reducible refine Kd.C_alloc ?_ _) | (with_reducible refine Kd.C_drewN ?_ _) | (with_reducible refine Kd.C_drew ?_) | exact HR205_0.out)) | (with_reducible refine Kd.C_alloc ?_ _) | (with_reducible refine Kd.C_drewN ?_ _) | (with_reducible refine Kd.C_drew ?_)))
           (case side4 => exact HC205_0.out)
           rintro e w' ⟨rfl, ⟨nd, rfl⟩⟩
           refine ⟨_, rfl, ?_⟩
           refine hK.out _ _ ⟨hHeld.1, hHeld.2⟩ (fun hHeld => ?_)
           clear hK K
           refine norm_ (a' := ?_) ?_ ?_
           rotate_left
           ·
            show Act.put _ (some 45) _ = _
            simp only [Act.put, List.setIfInBounds_toArray, List.set_cons_zero, List.set_cons_succ, i64_w, i32_w]
            rfl
           refine pure_ (i := 9) (N := some 46) (v := ?_) (a' := ?_) #[true, true, true, true, true, true, true, true, true, true] rfl rfl (any_of HT_.out (by kernel_rfl)) (fun _ _ _ h => h) (Or.inl ⟨by rfl, ?_⟩) ?_ ?_
           rotate_left
           ·
            intro w'
            go_simp
            with_reducible rfl
           rotate_left
           ·
            simp only [Act.put, List.setIfInBounds_toArray, List.set_cons_zero, List.set_cons_succ, i64_w, i32_w]
            rfl
           refine done_ (done_of HT_.out (by kernel_rfl)) ?_
           try go_wp2
           go_roundg k2
           case measure => have := HJ8.out; have := HK2.out; omega
           case rel => exact ⟨(wrap64 (x6_2 + 1)), (by first | rfl | (simp; done) | (simp [*]; done)), H', ⟨by have := HJ8.out; have := HK2.out; omega⟩, ⟨by (with_reducible repeat (first | apply Kd.S_alloc | apply Kd.S_drewN | apply Kd.S_drew)); exact HO_3.out⟩, ⟨by (with_reducible repeat (first | apply Kd.S_alloc | apply Kd.S_drewN | apply Kd.S_drew)); exact HO_5.out⟩, ⟨by (with_reducible repeat (first | refine kN ?_ _ | refine kD ?_ | refine kA ?_ _)); exact BK195.out⟩, ⟨by repeat (first | (with_reducible first | exact HB.out | apply bA | apply bN | apply bD | refine bS ?_ GE195.out) | exact HB.out)⟩⟩
          ·
           replace c25 := Bool.eq_false_iff.mpr c25
           subst c25
           have H1 : (none) = some r := by rw [if_neg (show ¬ (false = true) by decide)] at H; exact H
           clear H
           have H := H1
           clear H1
           exact absurd H (by simp)
         ·
          rw [if_neg c23] at H
          exact absurd H (by simp)
        ·
         rw [if_neg c22] at H
         exact absurd H (by simp)
       ·
        rw [if_neg c21] at H
        have c21b0 : decide (x6_2 < (t197.length : Int)) = false := decide_eq_false c21
        clear c21
        replace H := Option.bind_eq_some_iff.mp H
        obtain ⟨⟨t207, t208, t209, t210, t211, t212, t213⟩, A290, H⟩ := H
        replace H : ((fleuronref03_Box.f k2 l0_0 l0_1).bind fun bt216 => ((fleuronlaw03_drawn.f).bind fun t225 => (if t225 = true then ((outline_Right.f k2 l0_0 l0_1).bind fun t226 => ((fleuronref03_Right.f k2 l0_0 l0_1).bind fun t227 => (if (t226 == t227) = true then (if (t207 == bt216.1 && (t208 == bt216.2.1 && (t209 == bt216.2.2.1))) = true then (if (t210 == bt216.2.2.2.1 && (t211 == bt216.2.2.2.2.1 && (t212 == bt216.2.2.2.2.2.1))) = true then (if (t213 == bt216.2.2.2.2.2.2) = true then ((outline_Area.f l0_0 l0_1).bind fun t228 => ((fleuronref03_Area.f k2 l0_0 l0_1).bind fun t229 => (some (t228 == t229)))) else (none)) else (none)) else (none)) else (none)))) else (none)))) = some r := H
        have A29 := aM A290
        clear A290
        replace H := Option.bind_eq_some_iff.mp H
        obtain ⟨⟨t216, t217, t218, t219, t220, t221, t222⟩, A300, H⟩ := H
        replace H : ((fleuronlaw03_drawn.f).bind fun t225 => (if t225 = true then ((outline_Right.f k2 l0_0 l0_1).bind fun t226 => ((fleuronref03_Right.f k2 l0_0 l0_1).bind fun t227 => (if (t226 == t227) = true then (if (t207 == t216 && (t208 == t217 && (t209 == t218))) = true then (if (t210 == t219 && (t211 == t220 && (t212 == t221))) = true then (if (t213 == t222) = true then ((outline_Area.f l0_0 l0_1).bind fun t228 => ((fleuronref03_Area.f k2 l0_0 l0_1).bind fun t229 => (some (t228 == t229)))) else (none)) else (none)) else (none)) else (none)))) else (none))) = some r := H
        have A30 := aM A300
        clear A300
        replace H := Option.bind_eq_some_iff.mp H
        obtain ⟨t225, A310, H⟩ := H
        replace H : (if t225 = true then ((outline_Right.f k2 l0_0 l0_1).bind fun t226 => ((fleuronref03_Right.f k2 l0_0 l0_1).bind fun t227 => (if (t226 == t227) = true then (if (t207 == t216 && (t208 == t217 && (t209 == t218))) = true then (if (t210 == t219 && (t211 == t220 && (t212 == t221))) = true then (if (t213 == t222) = true then ((outline_Area.f l0_0 l0_1).bind fun t228 => ((fleuronref03_Area.f k2 l0_0 l0_1).bind fun t229 => (some (t228 == t229)))) else (none)) else (none)) else (none)) else (none)))) else (none)) = some r := H
        have A31 := aM A310
        clear A310
        by_cases c32 : t225 = true
        ·
         subst c32
         have H1 : ((outline_Right.f k2 l0_0 l0_1).bind fun t226 => ((fleuronref03_Right.f k2 l0_0 l0_1).bind fun t227 => (if (t226 == t227) = true then (if (t207 == t216 && (t208 == t217 && (t209 == t218))) = true then (if (t210 == t219 && (t211 == t220 && (t212 == t221))) = true then (if (t213 == t222) = true then ((outline_Area.f l0_0 l0_1).bind fun t228 => ((fleuronref03_Area.f k2 l0_0 l0_1).bind fun t229 => (some (t228 == t229)))) else (none)) else (none)) else (none)) else (none)))) = some r := by rw [if_pos rfl] at H; exact H
         clear H
         have H := H1
         clear H1
         replace H := Option.bind_eq_some_iff.mp H
         obtain ⟨t226, A330, H⟩ := H
         replace H : ((fleuronref03_Right.f k2 l0_0 l0_1).bind fun t227 => (if (t226 == t227) = true then (if (t207 == t216 && (t208 == t217 && (t209 == t218))) = true then (if (t210 == t219 && (t211 == t220 && (t212 == t221))) = true then (if (t213 == t222) = true then ((outline_Area.f l0_0 l0_1).bind fun t228 => ((fleuronref03_Area.f k2 l0_0 l0_1).bind fun t229 => (some (t228 == t229)))) else (none)) else (none)) else (none)) else (none))) = some r := H
         have A33 := aM A330
         clear A330
         replace H := Option.bind_eq_some_iff.mp H
         obtain ⟨t227, A340, H⟩ := H
         replace H : (if (t226 == t227) = true then (if (t207 == t216 && (t208 == t217 && (t209 == t218))) = true then (if (t210 == t219 && (t211 == t220 && (t212 == t221))) = true then (if (t213 == t222) = true then ((outline_Area.f l0_0 l0_1).bind fun t228 => ((fleuronref03_Area.f k2 l0_0 l0_1).bind fun t229 => (some (t228 == t229)))) else (none)) else (none)) else (none)) else (none)) = some r := H
         have A34 := aM A340
         clear A340
         by_cases c35 : (t226 == t227) = true
         ·
          rw [if_pos c35] at H
          have c35b0 : (t226 == t227) = true := c35
          (try (have c35b1 : decide (t226 = t227) = true := by simpa using c35))
          (try (have c35b2 : (t226 == t227) = true := by simpa using c35))
          clear c35
          by_cases c36 : (t207 == t216 && (t208 == t217 && (t209 == t218))) = true
          ·
           rw [if_pos c36] at H
           have c36b0 : (t207 == t216 && (t208 == t217 && (t209 == t218))) = true := c36
           (try (have c36b1 : decide (t207 = t216 && (t208 == t217 && (t209 == t218))) = true := by simpa using c36))
           (try (have c36b2 : (t207 == t216 && (t208 == t217 && (t209 == t218))) = true := by simpa using c36))
           clear c36
           by_cases c37 : (t210 == t219 && (t211 == t220 && (t212 == t221))) = true
           ·
            rw [if_pos c37] at H
            have c37b0 : (t210 == t219 && (t211 == t220 && (t212 == t221))) = true := c37
            (try (have c37b1 : decide (t210 = t219 && (t211 == t220 && (t212 == t221))) = true := by simpa using c37))
            (try (have c37b2 : (t210 == t219 && (t211 == t220 && (t212 == t221))) = true := by simpa using c37))
            clear c37
            by_cases c38 : (t213 == t222) = true
            ·
             rw [if_pos c38] at H
             have c38b0 : (t213 == t222) = true := c38
             (try (have c38b1 : decide (t213 = t222) = true := by simpa using c38))
             (try (have c38b2 : (t213 == t222) = true := by simpa using c38))
             clear c38
             replace H := Option.bind_eq_some_iff.mp H
             obtain ⟨t228, A390, H⟩ := H
             replace H : ((fleuronref03_Area.f k2 l0_0 l0_1).bind fun t229 => (some (t228 == t229))) = some r := H
             have A39 := aM A390
             clear A390
             replace H := Option.bind_eq_some_iff.mp H
             obtain ⟨t229, A400, H⟩ := H
             replace H : (some (t228 == t229)) = some r := H
             have A40 := aM A400
             clear A400
             obtain rfl := Option.some.inj H
             obtain ⟨Ao41, co41, eo41⟩ := Kd.S_slice HO_3.out
             subst eo41
             have hcz42_0 : wr.cell? ⟨gb195, 0, none⟩ = some (.slice A0_0 l0_0.length c0_0) := (blk_cell BK195.out 0).trans rfl
             have hcz42_1 : wr.cell? ⟨gb195, 1, none⟩ = some (.slice A0_1 l0_1.length c0_1) := (blk_cell BK195.out 1).trans rfl
             have hfz42_0 := blk_frozen BK195.out 0
             have hfz42_1 := blk_frozen BK195.out 1
             try go_wp2_with (first | ((with_reducible refine gate_callee (f := 19) rfl ?_); refine goesL_ (some 49) rfl rfl Try.func19 (by kernel_rfl) rfl #[.agg #[.slice A0_0 l0_0.length c0_0, .slice A0_1 l0_1.length c0_1]] rfl (by (try simp only [List.map_toArray, List.map_cons, List.map_nil]); first | done | rfl | (simp only [List.length_drop, List.length_take]; rfl)) ?_; (with_reducible refine (outline_Box.calls _ _ l0_0 _ _ l0_1 t207 t208 t209 t210 t211 t212 t213 _ ?side1 ?side2 ?side3 ?side4 A29.out).mono ?_); (case side1 => repeat (first | exact (Kd.C_below HR0_0.out HB.out) | (with_reducible refine Kd.C_alloc ?_ _) | (with_reducible refine Kd.C_drewN ?_ _) | (with_reducible refine Kd.C_drew ?_))); (case side2 => exact HC0_0.out); (case side3 => repeat (first | exact (Kd.C_below HR0_1.out HB.out) | (with_reducible refine Kd.C_alloc ?_ _) | (with_reducible refine Kd.C_drewN ?_ _) | (with_reducible refine Kd.C_drew ?_))); (case side4 => exact HC0_1.out); rintro e w43 ⟨rfl, hb⟩; refine ⟨_, rfl, ?_⟩; have n0_ := aM (Kd.S_below (by (with_reducible repeat (first | apply Kd.S_alloc | apply Kd.S_drewN | apply Kd.S_drew)); exact HO_3.out) hb); have n1_ := aM (Kd.S_below (by (with_reducible repeat (first | apply Kd.S_alloc | apply Kd.S_drewN | apply Kd.S_drew)); exact HO_5.out) hb); have n2_ := aM (blk_below (g := gb195) (o := .cells #[.slice A0_0 l0_0.length c0_0, .slice A0_1 l0_1.length c0_1] 25 (0, 0)) (by (with_reducible repeat (first | refine kN ?_ _ | refine kD ?_ | refine kA ?_ _)); exact BK195.out) hb); have n3_ := aM (below_step (by repeat (first | (with_reducible first | exact HB.out | apply bA | apply bN | apply bD | refine bS ?_ GE195.out) | exact HB.out)) hb); clear HO_3; clear HO_5; clear BK195; clear HB; have HO_3 := n0_; have HO_5 := n1_; have BK195 := n2_; have HB := n3_; clear n0_ n1_ n2_ n3_; (try clear hb); (try clear hb2); (try clear hk); (try clear hi)) | ((with_reducible refine gate_dst (N := 7) rfl ?_); (try (refine gate_guard (by rfl) ?_; dsimp only)); refine box_event ?hg (N := 7) ?hd (cs := #[.int .i64 0, .int .i64 0, .bool false]) (t := 33) ?hr ?_; (case hd => rfl); (case hg => rfl); (case hr => first | (go_simp; done) | (go_simp; rfl)); intro gb214 hg w44 hbox hb; have n0_ := aM (Kd.S_below (Kd.S_elderB (by (with_reducible repeat (first | apply Kd.S_alloc | apply Kd.S_drewN | apply Kd.S_drew)); exact HO_3.out) gb214 (Nat.le_of_eq hg.symm)) hb); have n1_ := aM (Kd.S_below (Kd.S_elderB (by (with_reducible repeat (first | apply Kd.S_alloc | apply Kd.S_drewN | apply Kd.S_drew)); exact HO_5.out) gb214 (Nat.le_of_eq hg.symm)) hb); have n2_ := aM (blk_below (g := gb195) (o := .cells #[.slice A0_0 l0_0.length c0_0, .slice A0_1 l0_1.length c0_1] 25 (0, 0)) (by (with_reducible repeat (first | refine kN ?_ _ | refine kD ?_ | refine kA ?_ _)); exact BK195.out) hb); have n3_ := aM (below_step (by repeat (first | (with_reducible first | exact HB.out | apply bA | apply bN | apply bD | refine bS ?_ GE195.out) | exact HB.out)) hb); have n4_ := aM (hbox); have n5_ := aM ((by rw [hg]; exact (below_size (by repeat (first | (with_reducible first | exact HB.out | apply bA | apply bN | apply bD | refine bS ?_ GE195.out) | exact HB.out))) : w.heap.size ≤ gb214)); have n6_ := aM ((by rw [hg]; exact (below_size (by repeat (first | (with_reducible first | exact HB.out | apply bA | apply bN | apply bD | refine bS ?_ GE195.out) | exact HB.out))) : w.heap.size ≤ gb214)); have n7_ := aM ((by rw [hg]; exact Nat.ne_of_lt (blk_lt (g := gb195) (o := .cells #[.slice A0_0 l0_0.length c0_0, .slice A0_1 l0_1.length c0_1] 25 (0, 0)) (by (with_reducible repeat (first | refine kN ?_ _ | refine kD ?_ | refine kA ?_ _)); exact BK195.out)) : gb195 ≠ gb214)); have n8_ := aM ((by rw [hg]; exact Nat.ne_of_gt (blk_lt (g := gb195) (o := .cells #[.slice A0_0 l0_0.length c0_0, .slice A0_1 l0_1.length c0_1] 25 (0, 0)) (by (with_reducible repeat (first | refine kN ?_ _ | refine kD ?_ | refine kA ?_ _)); exact BK195.out)) : gb214 ≠ gb195)); clear HO_3; clear HO_5; clear BK195; clear HB; have HO_3 := n0_; have HO_5 := n1_; have BK195 := n2_; have HB := n3_; have BK214 := n4_; have GW214 := n5_; have GE214 := n6_; have NB195_214 := n7_; have NB214_195 := n8_; clear n0_ n1_ n2_ n3_ n4_ n5_ n6_ n7_ n8_; clear hb hbox hg) | ((with_reducible refine gate_dst (N := 8) rfl ?_); (try (refine gate_guard (by rfl) ?_; dsimp only)); refine box_event ?hg (N := 8) ?hd (cs := #[.int .i64 0, .int .i64 0, .bool false]) (t := 33) ?hr ?_; (case hd => rfl); (case hg => rfl); (case hr => first | (go_simp; done) | (go_simp; rfl)); intro gb215 hg w45 hbox hb; have n0_ := aM (Kd.S_below (Kd.S_elderB (by (with_reducible repeat (first | apply Kd.S_alloc | apply Kd.S_drewN | apply Kd.S_drew)); exact HO_3.out) gb215 (Nat.le_of_eq hg.symm)) hb); have n1_ := aM (Kd.S_below (Kd.S_elderB (by (with_reducible repeat (first | apply Kd.S_alloc | apply Kd.S_drewN | apply Kd.S_drew)); exact HO_5.out) gb215 (Nat.le_of_eq hg.symm)) hb); have n2_ := aM (blk_below (g := gb195) (o := .cells #[.slice A0_0 l0_0.length c0_0, .slice A0_1 l0_1.length c0_1] 25 (0, 0)) (by (with_reducible repeat (first | refine kN ?_ _ | refine kD ?_ | refine kA ?_ _)); exact BK195.out) hb); have n3_ := aM (blk_below (g := gb214) (o := .cells #[.int .i64 0, .int .i64 0, .bool false] 33 (0, 0)) (by (with_reducible repeat (first | refine kN ?_ _ | refine kD ?_ | refine kA ?_ _)); exact BK214.out) hb); have n4_ := aM (below_step (by repeat (first | (with_reducible first | exact HB.out | apply bA | apply bN | apply bD | refine bS ?_ GE195.out | refine bS ?_ GE214.out) | exact HB.out)) hb); have n5_ := aM (hbox); have n6_ := aM ((by rw [hg]; exact (below_size (by repeat (first | (with_reducible first | exact HB.out | apply bA | apply bN | apply bD | refine bS ?_ GE195.out | refine bS ?_ GE214.out) | exact HB.out))) : w.heap.size ≤ gb215)); have n7_ := aM ((by rw [hg]; exact (below_size (by repeat (first | (with_reducible first | exact HB.out | apply bA | apply bN | apply bD | refine bS ?_ GE195.out | refine bS ?_ GE214.out) | exact HB.out))) : w.heap.size ≤ gb215)); have n8_ := aM ((by rw [hg]; exact Nat.ne_of_lt (blk_lt (g := gb195) (o := .cells #[.slice A0_0 l0_0.length c0_0, .slice A0_1 l0_1.length c0_1] 25 (0, 0)) (by (with_reducible repeat (first | refine kN ?_ _ | refine kD ?_ | refine kA ?_ _)); exact BK195.out)) : gb195 ≠ gb215)); have n9_ := aM ((by rw [hg]; exact Nat.ne_of_gt (blk_lt (g := gb195) (o := .cells #[.slice A0_0 l0_0.length c0_0, .slice A0_1 l0_1.length c0_1] 25 (0, 0)) (by (with_reducible repeat (first | refine kN ?_ _ | refine kD ?_ | refine kA ?_ _)); exact BK195.out)) : gb215 ≠ gb195)); have n10_ := aM ((by rw [hg]; exact Nat.ne_of_lt (blk_lt (g := gb214) (o := .cells #[.int .i64 0, .int .i64 0, .bool false] 33 (0, 0)) (by (with_reducible repeat (first | refine kN ?_ _ | refine kD ?_ | refine kA ?_ _)); exact BK214.out)) : gb214 ≠ gb215)); have n11_ := aM ((by rw [hg]; exact Nat.ne_of_gt (blk_lt (g := gb214) (o := .cells #[.int .i64 0, .int .i64 0, .bool false] 33 (0, 0)) (by (with_reducible repeat (first | refine kN ?_ _ | refine kD ?_ | refine kA ?_ _)); exact BK214.out)) : gb215 ≠ gb214)); clear HO_3; clear HO_5; clear BK195; clear BK214; clear HB; have HO_3 := n0_; have HO_5 := n1_; have BK195 := n2_; have BK214 := n3_; have HB := n4_; have BK215 := n5_; have GW215 := n6_; have GE215 := n7_; have NB195_215 := n8_; have NB215_195 := n9_; have NB214_215 := n10_; have NB215_214 := n11_; clear n0_ n1_ n2_ n3_ n4_ n5_ n6_ n7_ n8_ n9_ n10_ n11_; clear hb hbox hg; have hnb46 := NB214_195.out; have hnc46 := NB195_214.out; have hnb47 := NB214_215.out; have hnc47 := NB215_214.out; have hcz48_0 : w45.cell? ⟨gb214, 0, none⟩ = some (.int .i64 0) := (blk_cell BK214.out 0).trans rfl; have hcz48_1 : w45.cell? ⟨gb214, 1, none⟩ = some (.int .i64 0) := (blk_cell BK214.out 1).trans rfl; have hcz48_2 : w45.cell? ⟨gb214, 2, none⟩ = some (.bool false) := (blk_cell BK214.out 2).trans rfl; have hfz48_0 := blk_frozen BK214.out 0; have hfz48_1 := blk_frozen BK214.out 1; have hfz48_2 := blk_frozen BK214.out 2; have hnb49 := NB215_195.out; have hnc49 := NB195_215.out; have hcz50_0 : w45.cell? ⟨gb215, 0, none⟩ = some (.int .i64 0) := (blk_cell BK215.out 0).trans rfl; have hcz50_1 : w45.cell? ⟨gb215, 1, none⟩ = some (.int .i64 0) := (blk_cell BK215.out 1).trans rfl; have hcz50_2 : w45.cell? ⟨gb215, 2, none⟩ = some (.bool false) := (blk_cell BK215.out 2).trans rfl; have hfz50_0 := blk_frozen BK215.out 0; have hfz50_1 := blk_frozen BK215.out 1; have hfz50_2 := blk_frozen BK215.out 2; have hcz51_0 : w45.cell? ⟨gb195, 0, none⟩ = some (.slice A0_0 l0_0.length c0_0) := (blk_cell BK195.out 0).trans rfl; have hcz51_1 : w45.cell? ⟨gb195, 1, none⟩ = some (.slice A0_1 l0_1.length c0_1) := (blk_cell BK195.out 1).trans rfl; have hfz51_0 := blk_frozen BK195.out 0; have hfz51_1 := blk_frozen BK195.out 1) | ((with_reducible refine gate_callee (f := 20) rfl ?_); refine goesL_ (some 55) rfl rfl Try.func20 (by kernel_rfl) rfl #[.agg #[.slice A0_0 l0_0.length c0_0, .slice A0_1 l0_1.length c0_1]] rfl (by (try simp only [List.map_toArray, List.map_cons, List.map_nil]); first | done | rfl | (simp only [List.length_drop, List.length_take]; rfl)) ?_; (with_reducible refine (fleuronref03_Box.calls k2 _ _ l0_0 _ _ l0_1 t216 t217 t218 t219 t220 t221 t222 _ ?side1 ?side2 ?side3 ?side4 A30.out).mono ?_); (case side1 => exact Kd.C_below HR0_0.out (by repeat (first | (with_reducible first | exact HB.out | apply bA | apply bN | apply bD | refine bS ?_ GE195.out | refine bS ?_ GE214.out | refine bS ?_ GE215.out) | exact HB.out))); (case side2 => exact HC0_0.out); (case side3 => exact Kd.C_below HR0_1.out (by repeat (first | (with_reducible first | exact HB.out | apply bA | apply bN | apply bD | refine bS ?_ GE195.out | refine bS ?_ GE214.out | refine bS ?_ GE215.out) | exact HB.out))); (case side4 => exact HC0_1.out); rintro e w52 ⟨rfl, hb⟩; refine ⟨_, rfl, ?_⟩; have n0_ := aM (Kd.S_below (by (with_reducible repeat (first | apply Kd.S_alloc | apply Kd.S_drewN | apply Kd.S_drew)); exact (Kd.S_mono (Kd.S_mono (Kd.S_far (p := ⟨gb215, 2, none⟩) (Kd.S_far (p := ⟨gb215, 1, none⟩) (Kd.S_far (p := ⟨gb215, 0, none⟩) (Kd.S_far (p := ⟨gb214, 2, none⟩) (Kd.S_far (p := ⟨gb214, 1, none⟩) (Kd.S_far (p := ⟨gb214, 0, none⟩) (Kd.S_mono (Kd.S_mono HO_3.out (fun k_ hk => (⟨hk, hk.1.2⟩ : _ ∧ k_ ≠ gb214))) (fun k_ hk => (⟨hk, hk.1.2⟩ : _ ∧ k_ ≠ gb215))) (fun _ hk => hk.1.2) (.int .i64 t207)) (fun _ hk => hk.1.2) (.int .i64 t208)) (fun _ hk => hk.1.2) (.bool t209)) (fun _ hk => hk.2) (.int .i64 t210)) (fun _ hk => hk.2) (.int .i64 t211)) (fun _ hk => hk.2) (.bool t212)) (fun _ h_ => h_.1)) (fun _ h_ => h_.1))) hb); have n1_ := aM (Kd.S_below (by (with_reducible repeat (first | apply Kd.S_alloc | apply Kd.S_drewN | apply Kd.S_drew)); exact (Kd.S_mono (Kd.S_mono (Kd.S_far (p := ⟨gb215, 2, none⟩) (Kd.S_far (p := ⟨gb215, 1, none⟩) (Kd.S_far (p := ⟨gb215, 0, none⟩) (Kd.S_far (p := ⟨gb214, 2, none⟩) (Kd.S_far (p := ⟨gb214, 1, none⟩) (Kd.S_far (p := ⟨gb214, 0, none⟩) (Kd.S_mono (Kd.S_mono HO_5.out (fun k_ hk => (⟨hk, hk.1.2⟩ : _ ∧ k_ ≠ gb214))) (fun k_ hk => (⟨hk, hk.1.2⟩ : _ ∧ k_ ≠ gb215))) (fun _ hk => hk.1.2) (.int .i64 t207)) (fun _ hk => hk.1.2) (.int .i64 t208)) (fun _ hk => hk.1.2) (.bool t209)) (fun _ hk => hk.2) (.int .i64 t210)) (fun _ hk => hk.2) (.int .i64 t211)) (fun _ hk => hk.2) (.bool t212)) (fun _ h_ => h_.1)) (fun _ h_ => h_.1))) hb); have n2_ := aM (blk_below (g := gb195) (o := .cells #[.slice A0_0 l0_0.length c0_0, .slice A0_1 l0_1.length c0_1] 25 (0, 0)) (by (with_reducible repeat (first | refine kN ?_ _ | refine kD ?_ | refine kA ?_ _)); refine blk_far ?_ NB195_215.out _; (with_reducible repeat (first | refine kN ?_ _ | refine kD ?_ | refine kA ?_ _)); refine blk_far ?_ NB195_215.out _; (with_reducible repeat (first | refine kN ?_ _ | refine kD ?_ | refine kA ?_ _)); refine blk_far ?_ NB195_215.out _; (with_reducible repeat (first | refine kN ?_ _ | refine kD ?_ | refine kA ?_ _)); refine blk_far ?_ NB195_214.out _; (with_reducible repeat (first | refine kN ?_ _ | refine kD ?_ | refine kA ?_ _)); refine blk_far ?_ NB195_214.out _; (with_reducible repeat (first | refine kN ?_ _ | refine kD ?_ | refine kA ?_ _)); refine blk_far ?_ NB195_214.out _; (with_reducible repeat (first | refine kN ?_ _ | refine kD ?_ | refine kA ?_ _)); exact BK195.out) hb); have n3_ := aM (blk_below (g := gb214) (o := .cells #[.int .i64 t207, .int .i64 t208, .bool t209] 33 (0, 0)) (by (with_reducible repeat (first | refine kN ?_ _ | refine kD ?_ | refine kA ?_ _)); refine blk_far ?_ NB214_215.out _; (with_reducible repeat (first | refine kN ?_ _ | refine kD ?_ | refine kA ?_ _)); refine blk_far ?_ NB214_215.out _; (with_reducible repeat (first | refine kN ?_ _ | refine kD ?_ | refine kA ?_ _)); refine blk_far ?_ NB214_215.out _; (with_reducible repeat (first | refine kN ?_ _ | refine kD ?_ | refine kA ?_ _)); refine blk_put (cs := #[.int .i64 t207, .int .i64 t208, .bool false]) ?_ 2 _ rfl; (with_reducible repeat (first | refine kN ?_ _ | refine kD ?_ | refine kA ?_ _)); refine blk_put (cs := #[.int .i64 t207, .int .i64 0, .bool false]) ?_ 1 _ rfl; (with_reducible repeat (first | refine kN ?_ _ | refine kD ?_ | refine kA ?_ _)); refine blk_put (cs := #[.int .i64 0, .int .i64 0, .bool false]) ?_ 0 _ rfl; (with_reducible repeat (first | refine kN ?_ _ | refine kD ?_ | refine kA ?_ _)); exact BK214.out) hb); have n4_ := aM (blk_below (g := gb215) (o := .cells #[.int .i64 t210, .int .i64 t211, .bool t212] 33 (0, 0)) (by (with_reducible repeat (first | refine kN ?_ _ | refine kD ?_ | refine kA ?_ _)); refine blk_put (cs := #[.int .i64 t210, .int .i64 t211, .bool false]) ?_ 2 _ rfl; (with_reducible repeat (first | refine kN ?_ _ | refine kD ?_ | refine kA ?_ _)); refine blk_put (cs := #[.int .i64 t210, .int .i64 0, .bool false]) ?_ 1 _ rfl; (with_reducible repeat (first | refine kN ?_ _ | refine kD ?_ | refine kA ?_ _)); refine blk_put (cs := #[.int .i64 0, .int .i64 0, .bool false]) ?_ 0 _ rfl; (with_reducible repeat (first | refine kN ?_ _ | refine kD ?_ | refine kA ?_ _)); refine blk_far ?_ NB215_214.out _; (with_reducible repeat (first | refine kN ?_ _ | refine kD ?_ | refine kA ?_ _)); refine blk_far ?_ NB215_214.out _; (with_reducible repeat (first | refine kN ?_ _ | refine kD ?_ | refine kA ?_ _)); refine blk_far ?_ NB215_214.out _; (with_reducible repeat (first | refine kN ?_ _ | refine kD ?_ | refine kA ?_ _)); exact BK215.out) hb); have n5_ := aM (below_step (by repeat (first | (with_reducible first | exact HB.out | apply bA | apply bN | apply bD | refine bS ?_ GE195.out | refine bS ?_ GE214.out | refine bS ?_ GE215.out) | exact HB.out)) hb); clear HO_3; clear HO_5; clear BK195; clear BK214; clear BK215; clear HB; have HO_3 := n0_; have HO_5 := n1_; have BK195 := n2_; have BK214 := n3_; have BK215 := n4_; have HB := n5_; clear n0_ n1_ n2_ n3_ n4_ n5_; (try clear hb); (try clear hb2); (try clear hk); (try clear hi)) | ((with_reducible refine gate_dst (N := 10) rfl ?_); (try (refine gate_guard (by rfl) ?_; dsimp only)); refine box_event ?hg (N := 10) ?hd (cs := #[.int .i64 0, .int .i64 0, .bool false]) (t := 33) ?hr ?_; (case hd => rfl); (case hg => rfl); (case hr => first | (go_simp; done) | (go_simp; rfl)); intro gb223 hg w53 hbox hb; have n0_ := aM (Kd.S_below (Kd.S_elderB (by (with_reducible repeat (first | apply Kd.S_alloc | apply Kd.S_drewN | apply Kd.S_drew)); exact HO_3.out) gb223 (Nat.le_of_eq hg.symm)) hb); have n1_ := aM (Kd.S_below (Kd.S_elderB (by (with_reducible repeat (first | apply Kd.S_alloc | apply Kd.S_drewN | apply Kd.S_drew)); exact HO_5.out) gb223 (Nat.le_of_eq hg.symm)) hb); have n2_ := aM (blk_below (g := gb195) (o := .cells #[.slice A0_0 l0_0.length c0_0, .slice A0_1 l0_1.length c0_1] 25 (0, 0)) (by (with_reducible repeat (first | refine kN ?_ _ | refine kD ?_ | refine kA ?_ _)); exact BK195.out) hb); have n3_ := aM (blk_below (g := gb214) (o := .cells #[.int .i64 t207, .int .i64 t208, .bool t209] 33 (0, 0)) (by (with_reducible repeat (first | refine kN ?_ _ | refine kD ?_ | refine kA ?_ _)); exact BK214.out) hb); have n4_ := aM (blk_below (g := gb215) (o := .cells #[.int .i64 t210, .int .i64 t211, .bool t212] 33 (0, 0)) (by (with_reducible repeat (first | refine kN ?_ _ | refine kD ?_ | refine kA ?_ _)); exact BK215.out) hb); have n5_ := aM (below_step (by repeat (first | (with_reducible first | exact HB.out | apply bA | apply bN | apply bD | refine bS ?_ GE195.out | refine bS ?_ GE214.out | refine bS ?_ GE215.out) | exact HB.out)) hb); have n6_ := aM (hbox); have n7_ := aM ((by rw [hg]; exact (below_size (by repeat (first | (with_reducible first | exact HB.out | apply bA | apply bN | apply bD | refine bS ?_ GE195.out | refine bS ?_ GE214.out | refine bS ?_ GE215.out) | exact HB.out))) : w.heap.size ≤ gb223)); have n8_ := aM ((by rw [hg]; exact (below_size (by repeat (first | (with_reducible first | exact HB.out | apply bA | apply bN | apply bD | refine bS ?_ GE195.out | refine bS ?_ GE214.out | refine bS ?_ GE215.out) | exact HB.out))) : w.heap.size ≤ gb223)); have n9_ := aM ((by rw [hg]; exact Nat.ne_of_lt (blk_lt (g := gb195) (o := .cells #[.slice A0_0 l0_0.length c0_0, .slice A0_1 l0_1.length c0_1] 25 (0, 0)) (by (with_reducible repeat (first | refine kN ?_ _ | refine kD ?_ | refine kA ?_ _)); exact BK195.out)) : gb195 ≠ gb223)); have n10_ := aM ((by rw [hg]; exact Nat.ne_of_gt (blk_lt (g := gb195) (o := .cells #[.slice A0_0 l0_0.length c0_0, .slice A0_1 l0_1.length c0_1] 25 (0, 0)) (by (with_reducible repeat (first | refine kN ?_ _ | refine kD ?_ | refine kA ?_ _)); exact BK195.out)) : gb223 ≠ gb195)); have n11_ := aM ((by rw [hg]; exact Nat.ne_of_lt (blk_lt (g := gb214) (o := .cells #[.int .i64 t207, .int .i64 t208, .bool t209] 33 (0, 0)) (by (with_reducible repeat (first | refine kN ?_ _ | refine kD ?_ | refine kA ?_ _)); exact BK214.out)) : gb214 ≠ gb223)); have n12_ := aM ((by rw [hg]; exact Nat.ne_of_gt (blk_lt (g := gb214) (o := .cells #[.int .i64 t207, .int .i64 t208, .bool t209] 33 (0, 0)) (by (with_reducible repeat (first | refine kN ?_ _ | refine kD ?_ | refine kA ?_ _)); exact BK214.out)) : gb223 ≠ gb214)); have n13_ := aM ((by rw [hg]; exact Nat.ne_of_lt (blk_lt (g := gb215) (o := .cells #[.int .i64 t210, .int .i64 t211, .bool t212] 33 (0, 0)) (by (with_reducible repeat (first | refine kN ?_ _ | refine kD ?_ | refine kA ?_ _)); exact BK215.out)) : gb215 ≠ gb223)); have n14_ := aM ((by rw [hg]; exact Nat.ne_of_gt (blk_lt (g := gb215) (o := .cells #[.int .i64 t210, .int .i64 t211, .bool t212] 33 (0, 0)) (by (with_reducible repeat (first | refine kN ?_ _ | refine kD ?_ | refine kA ?_ _)); exact BK215.out)) : gb223 ≠ gb215)); clear HO_3; clear HO_5; clear BK195; clear BK214; clear BK215; clear HB; have HO_3 := n0_; have HO_5 := n1_; have BK195 := n2_; have BK214 := n3_; have BK215 := n4_; have HB := n5_; have BK223 := n6_; have GW223 := n7_; have GE223 := n8_; have NB195_223 := n9_; have NB223_195 := n10_; have NB214_223 := n11_; have NB223_214 := n12_; have NB215_223 := n13_; have NB223_215 := n14_; clear n0_ n1_ n2_ n3_ n4_ n5_ n6_ n7_ n8_ n9_ n10_ n11_ n12_ n13_ n14_; clear hb hbox hg) | ((with_reducible refine gate_dst (N := 11) rfl ?_); (try (refine gate_guard (by rfl) ?_; dsimp only)); refine box_event ?hg (N := 11) ?hd (cs := #[.int .i64 0, .int .i64 0, .bool false]) (t := 33) ?hr ?_; (case hd => rfl); (case hg => rfl); (case hr => first | (go_simp; done) | (go_simp; rfl)); intro gb224 hg w54 hbox hb; have n0_ := aM (Kd.S_below (Kd.S_elderB (by (with_reducible repeat (first | apply Kd.S_alloc | apply Kd.S_drewN | apply Kd.S_drew)); exact HO_3.out) gb224 (Nat.le_of_eq hg.symm)) hb); have n1_ := aM (Kd.S_below (Kd.S_elderB (by (with_reducible repeat (first | apply Kd.S_alloc | apply Kd.S_drewN | apply Kd.S_drew)); exact HO_5.out) gb224 (Nat.le_of_eq hg.symm)) hb); have n2_ := aM (blk_below (g := gb195) (o := .cells #[.slice A0_0 l0_0.length c0_0, .slice A0_1 l0_1.length c0_1] 25 (0, 0)) (by (with_reducible repeat (first | refine kN ?_ _ | refine kD ?_ | refine kA ?_ _)); exact BK195.out) hb); have n3_ := aM (blk_below (g := gb214) (o := .cells #[.int .i64 t207, .int .i64 t208, .bool t209] 33 (0, 0)) (by (with_reducible repeat (first | refine kN ?_ _ | refine kD ?_ | refine kA ?_ _)); exact BK214.out) hb); have n4_ := aM (blk_below (g := gb215) (o := .cells #[.int .i64 t210, .int .i64 t211, .bool t212] 33 (0, 0)) (by (with_reducible repeat (first | refine kN ?_ _ | refine kD ?_ | refine kA ?_ _)); exact BK215.out) hb); have n5_ := aM (blk_below (g := gb223) (o := .cells #[.int .i64 0, .int .i64 0, .bool false] 33 (0, 0)) (by (with_reducible repeat (first | refine kN ?_ _ | refine kD ?_ | refine kA ?_ _)); exact BK223.out) hb); have n6_ := aM (below_step (by repeat (first | (with_reducible first | exact HB.out | apply bA | apply bN | apply bD | refine bS ?_ GE195.out | refine bS ?_ GE214.out | refine bS ?_ GE215.out | refine bS ?_ GE223.out) | exact HB.out)) hb); have n7_ := aM (hbox); have n8_ := aM ((by rw [hg]; exact (below_size (by repeat (first | (with_reducible first | exact HB.out | apply bA | apply bN | apply bD | refine bS ?_ GE195.out | refine bS ?_ GE214.out | refine bS ?_ GE215.out | refine bS ?_ GE223.out) | exact HB.out))) : w.heap.size ≤ gb224)); have n9_ := aM ((by rw [hg]; exact (below_size (by repeat (first | (with_reducible first | exact HB.out | apply bA | apply bN | apply bD | refine bS ?_ GE195.out | refine bS ?_ GE214.out | refine bS ?_ GE215.out | refine bS ?_ GE223.out) | exact HB.out))) : w.heap.size ≤ gb224)); have n10_ := aM ((by rw [hg]; exact Nat.ne_of_lt (blk_lt (g := gb195) (o := .cells #[.slice A0_0 l0_0.length c0_0, .slice A0_1 l0_1.length c0_1] 25 (0, 0)) (by (with_reducible repeat (first | refine kN ?_ _ | refine kD ?_ | refine kA ?_ _)); exact BK195.out)) : gb195 ≠ gb224)); have n11_ := aM ((by rw [hg]; exact Nat.ne_of_gt (blk_lt (g := gb195) (o := .cells #[.slice A0_0 l0_0.length c0_0, .slice A0_1 l0_1.length c0_1] 25 (0, 0)) (by (with_reducible repeat (first | refine kN ?_ _ | refine kD ?_ | refine kA ?_ _)); exact BK195.out)) : gb224 ≠ gb195)); have n12_ := aM ((by rw [hg]; exact Nat.ne_of_lt (blk_lt (g := gb214) (o := .cells #[.int .i64 t207, .int .i64 t208, .bool t209] 33 (0, 0)) (by (with_reducible repeat (first | refine kN ?_ _ | refine kD ?_ | refine kA ?_ _)); exact BK214.out)) : gb214 ≠ gb224)); have n13_ := aM ((by rw [hg]; exact Nat.ne_of_gt (blk_lt (g := gb214) (o := .cells #[.int .i64 t207, .int .i64 t208, .bool t209] 33 (0, 0)) (by (with_reducible repeat (first | refine kN ?_ _ | refine kD ?_ | refine kA ?_ _)); exact BK214.out)) : gb224 ≠ gb214)); have n14_ := aM ((by rw [hg]; exact Nat.ne_of_lt (blk_lt (g := gb215) (o := .cells #[.int .i64 t210, .int .i64 t211, .bool t212] 33 (0, 0)) (by (with_reducible repeat (first | refine kN ?_ _ | refine kD ?_ | refine kA ?_ _)); exact BK215.out)) : gb215 ≠ gb224)); have n15_ := aM ((by rw [hg]; exact Nat.ne_of_gt (blk_lt (g := gb215) (o := .cells #[.int .i64 t210, .int .i64 t211, .bool t212] 33 (0, 0)) (by (with_reducible repeat (first | refine kN ?_ _ | refine kD ?_ | refine kA ?_ _)); exact BK215.out)) : gb224 ≠ gb215)); have n16_ := aM ((by rw [hg]; exact Nat.ne_of_lt (blk_lt (g := gb223) (o := .cells #[.int .i64 0, .int .i64 0, .bool false] 33 (0, 0)) (by (with_reducible repeat (first | refine kN ?_ _ | refine kD ?_ | refine kA ?_ _)); exact BK223.out)) : gb223 ≠ gb224)); have n17_ := aM ((by rw [hg]; exact Nat.ne_of_gt (blk_lt (g := gb223) (o := .cells #[.int .i64 0, .int .i64 0, .bool false] 33 (0, 0)) (by (with_reducible repeat (first | refine kN ?_ _ | refine kD ?_ | refine kA ?_ _)); exact BK223.out)) : gb224 ≠ gb223)); clear HO_3; clear HO_5; clear BK195; clear BK214; clear BK215; clear BK223; clear HB; have HO_3 := n0_; have HO_5 := n1_; have BK195 := n2_; have BK214 := n3_; have BK215 := n4_; have BK223 := n5_; have HB := n6_; have BK224 := n7_; have GW224 := n8_; have GE224 := n9_; have NB195_224 := n10_; have NB224_195 := n11_; have NB214_224 := n12_; have NB224_214 := n13_; have NB215_224 := n14_; have NB224_215 := n15_; have NB223_224 := n16_; have NB224_223 := n17_; clear n0_ n1_ n2_ n3_ n4_ n5_ n6_ n7_ n8_ n9_ n10_ n11_ n12_ n13_ n14_ n15_ n16_ n17_; clear hb hbox hg; have hnb55 := NB223_195.out; have hnc55 := NB195_223.out; have hnb56 := NB223_214.out; have hnc56 := NB214_223.out; have hnb57 := NB223_215.out; have hnc57 := NB215_223.out; have hnb58 := NB223_224.out; have hnc58 := NB224_223.out; have hcz59_0 : w54.cell? ⟨gb223, 0, none⟩ = some (.int .i64 0) := (blk_cell BK223.out 0).trans rfl; have hcz59_1 : w54.cell? ⟨gb223, 1, none⟩ = some (.int .i64 0) := (blk_cell BK223.out 1).trans rfl; have hcz59_2 : w54.cell? ⟨gb223, 2, none⟩ = some (.bool false) := (blk_cell BK223.out 2).trans rfl; have hfz59_0 := blk_frozen BK223.out 0; have hfz59_1 := blk_frozen BK223.out 1; have hfz59_2 := blk_frozen BK223.out 2; have hnb60 := NB224_195.out; have hnc60 := NB195_224.out; have hnb61 := NB224_214.out; have hnc61 := NB214_224.out; have hnb62 := NB224_215.out; have hnc62 := NB215_224.out; have hcz63_0 : w54.cell? ⟨gb224, 0, none⟩ = some (.int .i64 0) := (blk_cell BK224.out 0).trans rfl; have hcz63_1 : w54.cell? ⟨gb224, 1, none⟩ = some (.int .i64 0) := (blk_cell BK224.out 1).trans rfl; have hcz63_2 : w54.cell? ⟨gb224, 2, none⟩ = some (.bool false) := (blk_cell BK224.out 2).trans rfl; have hfz63_0 := blk_frozen BK224.out 0; have hfz63_1 := blk_frozen BK224.out 1; have hfz63_2 := blk_frozen BK224.out 2))
             have n0_ : Aside0 (Kd.S (Kd.slice 33 k33) 22 ((((((w54.setCell ⟨gb223, 0, none⟩ (.int .i64 t216)).setCell ⟨gb223, 1, none⟩ (.int .i64 t217)).setCell ⟨gb223, 2, none⟩ (.bool t218)).setCell ⟨gb224, 0, none⟩ (.int .i64 t219)).setCell ⟨gb224, 1, none⟩ (.int .i64 t220)).setCell ⟨gb224, 2, none⟩ (.bool t221)) w.heap.size (fun k_ => some k_ ≠ (v202 : Value).ownBlock ∧ k_ ≠ gb214 ∧ k_ ≠ gb215 ∧ k_ ≠ gb223 ∧ k_ ≠ gb224) (.slice Ao41 t197.length co41) t197) := ⟨by (with_reducible repeat (first | apply Kd.S_alloc | apply Kd.S_drewN | apply Kd.S_drew)); exact Kd.S_mono (Kd.S_far (p := ⟨gb224, 2, none⟩) (Kd.S_far (p := ⟨gb224, 1, none⟩) (Kd.S_far (p := ⟨gb224, 0, none⟩) (Kd.S_far (p := ⟨gb223, 2, none⟩) (Kd.S_far (p := ⟨gb223, 1, none⟩) (Kd.S_far (p := ⟨gb223, 0, none⟩) (Kd.S_mono (Kd.S_mono HO_3.out (fun k_ hk => (⟨hk, hk.1.2⟩ : _ ∧ k_ ≠ gb223))) (fun k_ hk => (⟨hk, hk.1.2⟩ : _ ∧ k_ ≠ gb224))) (fun _ hk => hk.1.2) (.int .i64 t216)) (fun _ hk => hk.1.2) (.int .i64 t217)) (fun _ hk => hk.1.2) (.bool t218)) (fun _ hk => hk.2) (.int .i64 t219)) (fun _ hk => hk.2) (.int .i64 t220)) (fun _ hk => hk.2) (.bool t221)) (fun _ hk => ⟨hk.1.1.1.1.1.1, ⟨hk.1.1.1.1.1.2, ⟨hk.1.1.1.1.2, ⟨hk.1.1.1.2, hk.1.1.2⟩⟩⟩⟩)⟩
             have n1_ : Aside0 (Kd.S (Kd.slice 33 k33) 22 ((((((w54.setCell ⟨gb223, 0, none⟩ (.int .i64 t216)).setCell ⟨gb223, 1, none⟩ (.int .i64 t217)).setCell ⟨gb223, 2, none⟩ (.bool t218)).setCell ⟨gb224, 0, none⟩ (.int .i64 t219)).setCell ⟨gb224, 1, none⟩ (.int .i64 t220)).setCell ⟨gb224, 2, none⟩ (.bool t221)) w.heap.size (fun k_ => some k_ ≠ (.slice Ao41 t197.length co41 : Value).ownBlock ∧ k_ ≠ gb214 ∧ k_ ≠ gb215 ∧ k_ ≠ gb223 ∧ k_ ≠ gb224) v202 t201) := ⟨by (with_reducible repeat (first | apply Kd.S_alloc | apply Kd.S_drewN | apply Kd.S_drew)); exact Kd.S_mono (Kd.S_far (p := ⟨gb224, 2, none⟩) (Kd.S_far (p := ⟨gb224, 1, none⟩) (Kd.S_far (p := ⟨gb224, 0, none⟩) (Kd.S_far (p := ⟨gb223, 2, none⟩) (Kd.S_far (p := ⟨gb223, 1, none⟩) (Kd.S_far (p := ⟨gb223, 0, none⟩) (Kd.S_mono (Kd.S_mono HO_5.out (fun k_ hk => (⟨hk, hk.1.2⟩ : _ ∧ k_ ≠ gb223))) (fun k_ hk => (⟨hk, hk.1.2⟩ : _ ∧ k_ ≠ gb224))) (fun _ hk => hk.1.2) (.int .i64 t216)) (fun _ hk => hk.1.2) (.int .i64 t217)) (fun _ hk => hk.1.2) (.bool t218)) (fun _ hk => hk.2) (.int .i64 t219)) (fun _ hk => hk.2) (.int .i64 t220)) (fun _ hk => hk.2) (.bool t221)) (fun _ hk => ⟨hk.1.1.1.1.1.1, ⟨hk.1.1.1.1.1.2, ⟨hk.1.1.1.1.2, ⟨hk.1.1.1.2, hk.1.1.2⟩⟩⟩⟩)⟩
             have n2_ : Aside0 (((((((w54.setCell ⟨gb223, 0, none⟩ (.int .i64 t216)).setCell ⟨gb223, 1, none⟩ (.int .i64 t217)).setCell ⟨gb223, 2, none⟩ (.bool t218)).setCell ⟨gb224, 0, none⟩ (.int .i64 t219)).setCell ⟨gb224, 1, none⟩ (.int .i64 t220)).setCell ⟨gb224, 2, none⟩ (.bool t221)).heap[gb195]? = some (.cells #[.slice A0_0 l0_0.length c0_0, .slice A0_1 l0_1.length c0_1] 25 (0, 0))) := ⟨by (with_reducible repeat (first | refine kN ?_ _ | refine kD ?_ | refine kA ?_ _)); refine blk_far ?_ NB195_224.out _; (with_reducible repeat (first | refine kN ?_ _ | refine kD ?_ | refine kA ?_ _)); refine blk_far ?_ NB195_224.out _; (with_reducible repeat (first | refine kN ?_ _ | refine kD ?_ | refine kA ?_ _)); refine blk_far ?_ NB195_224.out _; (with_reducible repeat (first | refine kN ?_ _ | refine kD ?_ | refine kA ?_ _)); refine blk_far ?_ NB195_223.out _; (with_reducible repeat (first | refine kN ?_ _ | refine kD ?_ | refine kA ?_ _)); refine blk_far ?_ NB195_223.out _; (with_reducible repeat (first | refine kN ?_ _ | refine kD ?_ | refine kA ?_ _)); refine blk_far ?_ NB195_223.out _; (with_reducible repeat (first | refine kN ?_ _ | refine kD ?_ | refine kA ?_ _)); exact BK195.out⟩
             have n3_ : Aside0 (((((((w54.setCell ⟨gb223, 0, none⟩ (.int .i64 t216)).setCell ⟨gb223, 1, none⟩ (.int .i64 t217)).setCell ⟨gb223, 2, none⟩ (.bool t218)).setCell ⟨gb224, 0, none⟩ (.int .i64 t219)).setCell ⟨gb224, 1, none⟩ (.int .i64 t220)).setCell ⟨gb224, 2, none⟩ (.bool t221)).heap[gb214]? = some (.cells #[.int .i64 t207, .int .i64 t208, .bool t209] 33 (0, 0))) := ⟨by (with_reducible repeat (first | refine kN ?_ _ | refine kD ?_ | refine kA ?_ _)); refine blk_far ?_ NB214_224.out _; (with_reducible repeat (first | refine kN ?_ _ | refine kD ?_ | refine kA ?_ _)); refine blk_far ?_ NB214_224.out _; (with_reducible repeat (first | refine kN ?_ _ | refine kD ?_ | refine kA ?_ _)); refine blk_far ?_ NB214_224.out _; (with_reducible repeat (first | refine kN ?_ _ | refine kD ?_ | refine kA ?_ _)); refine blk_far ?_ NB214_223.out _; (with_reducible repeat (first | refine kN ?_ _ | refine kD ?_ | refine kA ?_ _)); refine blk_far ?_ NB214_223.out _; (with_reducible repeat (first | refine kN ?_ _ | refine kD ?_ | refine kA ?_ _)); refine blk_far ?_ NB214_223.out _; (with_reducible repeat (first | refine kN ?_ _ | refine kD ?_ | refine kA ?_ _)); exact BK214.out⟩
             have n4_ : Aside0 (((((((w54.setCell ⟨gb223, 0, none⟩ (.int .i64 t216)).setCell ⟨gb223, 1, none⟩ (.int .i64 t217)).setCell ⟨gb223, 2, none⟩ (.bool t218)).setCell ⟨gb224, 0, none⟩ (.int .i64 t219)).setCell ⟨gb224, 1, none⟩ (.int .i64 t220)).setCell ⟨gb224, 2, none⟩ (.bool t221)).heap[gb215]? = some (.cells #[.int .i64 t210, .int .i64 t211, .bool t212] 33 (0, 0))) := ⟨by (with_reducible repeat (first | refine kN ?_ _ | refine kD ?_ | refine kA ?_ _)); refine blk_far ?_ NB215_224.out _; (with_reducible repeat (first | refine kN ?_ _ | refine kD ?_ | refine kA ?_ _)); refine blk_far ?_ NB215_224.out _; (with_reducible repeat (first | refine kN ?_ _ | refine kD ?_ | refine kA ?_ _)); refine blk_far ?_ NB215_224.out _; (with_reducible repeat (first | refine kN ?_ _ | refine kD ?_ | refine kA ?_ _)); refine blk_far ?_ NB215_223.out _; (with_reducible repeat (first | refine kN ?_ _ | refine kD ?_ | refine kA ?_ _)); refine blk_far ?_ NB215_223.out _; (with_reducible repeat (first | refine kN ?_ _ | refine kD ?_ | refine kA ?_ _)); refine blk_far ?_ NB215_223.out _; (with_reducible repeat (first | refine kN ?_ _ | refine kD ?_ | refine kA ?_ _)); exact BK215.out⟩
             have n5_ : Aside0 (((((((w54.setCell ⟨gb223, 0, none⟩ (.int .i64 t216)).setCell ⟨gb223, 1, none⟩ (.int .i64 t217)).setCell ⟨gb223, 2, none⟩ (.bool t218)).setCell ⟨gb224, 0, none⟩ (.int .i64 t219)).setCell ⟨gb224, 1, none⟩ (.int .i64 t220)).setCell ⟨gb224, 2, none⟩ (.bool t221)).heap[gb223]? = some (.cells #[.int .i64 t216, .int .i64 t217, .bool t218] 33 (0, 0))) := ⟨by (with_reducible repeat (first | refine kN ?_ _ | refine kD ?_ | refine kA ?_ _)); refine blk_far ?_ NB223_224.out _; (with_reducible repeat (first | refine kN ?_ _ | refine kD ?_ | refine kA ?_ _)); refine blk_far ?_ NB223_224.out _; (with_reducible repeat (first | refine kN ?_ _ | refine kD ?_ | refine kA ?_ _)); refine blk_far ?_ NB223_224.out _; (with_reducible repeat (first | refine kN ?_ _ | refine kD ?_ | refine kA ?_ _)); refine blk_put (cs := #[.int .i64 t216, .int .i64 t217, .bool false]) ?_ 2 _ rfl; (with_reducible repeat (first | refine kN ?_ _ | refine kD ?_ | refine kA ?_ _)); refine blk_put (cs := #[.int .i64 t216, .int .i64 0, .bool false]) ?_ 1 _ rfl; (with_reducible repeat (first | refine kN ?_ _ | refine kD ?_ | refine kA ?_ _)); refine blk_put (cs := #[.int .i64 0, .int .i64 0, .bool false]) ?_ 0 _ rfl; (with_reducible repeat (first | refine kN ?_ _ | refine kD ?_ | refine kA ?_ _)); exact BK223.out⟩
             have n6_ : Aside0 (((((((w54.setCell ⟨gb223, 0, none⟩ (.int .i64 t216)).setCell ⟨gb223, 1, none⟩ (.int .i64 t217)).setCell ⟨gb223, 2, none⟩ (.bool t218)).setCell ⟨gb224, 0, none⟩ (.int .i64 t219)).setCell ⟨gb224, 1, none⟩ (.int .i64 t220)).setCell ⟨gb224, 2, none⟩ (.bool t221)).heap[gb224]? = some (.cells #[.int .i64 t219, .int .i64 t220, .bool t221] 33 (0, 0))) := ⟨by (with_reducible repeat (first | refine kN ?_ _ | refine kD ?_ | refine kA ?_ _)); refine blk_put (cs := #[.int .i64 t219, .int .i64 t220, .bool false]) ?_ 2 _ rfl; (with_reducible repeat (first | refine kN ?_ _ | refine kD ?_ | refine kA ?_ _)); refine blk_put (cs := #[.int .i64 t219, .int .i64 0, .bool false]) ?_ 1 _ rfl; (with_reducible repeat (first | refine kN ?_ _ | refine kD ?_ | refine kA ?_ _)); refine blk_put (cs := #[.int .i64 0, .int .i64 0, .bool false]) ?_ 0 _ rfl; (with_reducible repeat (first | refine kN ?_ _ | refine kD ?_ | refine kA ?_ _)); refine blk_far ?_ NB224_223.out _; (with_reducible repeat (first | refine kN ?_ _ | refine kD ?_ | refine kA ?_ _)); refine blk_far ?_ NB224_223.out _; (with_reducible repeat (first | refine kN ?_ _ | refine kD ?_ | refine kA ?_ _)); refine blk_far ?_ NB224_223.out _; (with_reducible repeat (first | refine kN ?_ _ | refine kD ?_ | refine kA ?_ _)); exact BK224.out⟩
             have n7_ : Aside0 (Below w.heap.size w ((((((w54.setCell ⟨gb223, 0, none⟩ (.int .i64 t216)).setCell ⟨gb223, 1, none⟩ (.int .i64 t217)).setCell ⟨gb223, 2, none⟩ (.bool t218)).setCell ⟨gb224, 0, none⟩ (.int .i64 t219)).setCell ⟨gb224, 1, none⟩ (.int .i64 t220)).setCell ⟨gb224, 2, none⟩ (.bool t221))) := ⟨by repeat (first | (with_reducible first | exact HB.out | apply bA | apply bN | apply bD | refine bS ?_ GE195.out | refine bS ?_ GE214.out | refine bS ?_ GE215.out | refine bS ?_ GE223.out | refine bS ?_ GE224.out) | exact HB.out)⟩
             (try clear HO_3)
             (try clear HO_5)
             (try clear BK195)
             (try clear BK214)
             (try clear BK215)
             (try clear BK223)
             (try clear BK224)
             (try clear HB)
             generalize ((((((w54.setCell ⟨gb223, 0, none⟩ (.int .i64 t216)).setCell ⟨gb223, 1, none⟩ (.int .i64 t217)).setCell ⟨gb223, 2, none⟩ (.bool t218)).setCell ⟨gb224, 0, none⟩ (.int .i64 t219)).setCell ⟨gb224, 1, none⟩ (.int .i64 t220)).setCell ⟨gb224, 2, none⟩ (.bool t221)) = w64 at n0_ n1_ n2_ n3_ n4_ n5_ n6_ n7_ ⊢
             have HO_3 := n0_
             have HO_5 := n1_
             have BK195 := n2_
             have BK214 := n3_
             have BK215 := n4_
             have BK223 := n5_
             have BK224 := n6_
             have HB := n7_
             clear n0_ n1_ n2_ n3_ n4_ n5_ n6_ n7_
             have n0_ := aM (Kd.S_drew HO_3.out)
             have n1_ := aM (Kd.S_drew HO_5.out)
             have n2_ := aM (kD BK195.out)
             have n3_ := aM (kD BK214.out)
             have n4_ := aM (kD BK215.out)
             have n5_ := aM (kD BK223.out)
             have n6_ := aM (kD BK224.out)
             have n7_ := aM (bD HB.out)
             clear HO_3
             clear HO_5
             clear BK195
             clear BK214
             clear BK215
             clear BK223
             clear BK224
             clear HB
             have HO_3 := n0_
             have HO_5 := n1_
             have BK195 := n2_
             have BK214 := n3_
             have BK215 := n4_
             have BK223 := n5_
             have BK224 := n6_
             have HB := n7_
             clear n0_ n1_ n2_ n3_ n4_ n5_ n6_ n7_
             refine start_ (n := 31) (S := fun w' => w'.cell? ⟨gb195, 0, none⟩ = some (.slice A0_0 l0_0.length c0_0) ∧ w'.cell? ⟨gb195, 1, none⟩ = some (.slice A0_1 l0_1.length c0_1) ∧ w'.cell? ⟨gb214, 0, none⟩ = some (.int .i64 t207) ∧ w'.cell? ⟨gb214, 1, none⟩ = some (.int .i64 t208) ∧ w'.cell? ⟨gb214, 2, none⟩ = some (.bool t209) ∧ w'.cell? ⟨gb223, 0, none⟩ = some (.int .i64 t216) ∧ w'.cell? ⟨gb223, 1, none⟩ = some (.int .i64 t217) ∧ w'.cell? ⟨gb223, 2, none⟩ = some (.bool t218) ∧ w'.cell? ⟨gb215, 0, none⟩ = some (.int .i64 t210) ∧ w'.cell? ⟨gb215, 1, none⟩ = some (.int .i64 t211) ∧ w'.cell? ⟨gb215, 2, none⟩ = some (.bool t212) ∧ w'.cell? ⟨gb224, 0, none⟩ = some (.int .i64 t219) ∧ w'.cell? ⟨gb224, 1, none⟩ = some (.int .i64 t220) ∧ w'.cell? ⟨gb224, 2, none⟩ = some (.bool t221)) (ds := []) #[false, false, false, false, false, false, false, false, false, false, false, false, false, false, false, false, false, false, false, false, false, false, false, false, false, false, false, false, false, false, false] (by kernel_rfl) rfl rfl ⟨(blk_cell BK195.out 0).trans rfl, (blk_cell BK195.out 1).trans rfl, (blk_cell BK214.out 0).trans rfl, (blk_cell BK214.out 1).trans rfl, (blk_cell BK214.out 2).trans rfl, (blk_cell BK223.out 0).trans rfl, (blk_cell BK223.out 1).trans rfl, (blk_cell BK223.out 2).trans rfl, (blk_cell BK215.out 0).trans rfl, (blk_cell BK215.out 1).trans rfl, (blk_cell BK215.out 2).trans rfl, (blk_cell BK224.out 0).trans rfl, (blk_cell BK224.out 1).trans rfl, (blk_cell BK224.out 2).trans rfl⟩ (fun hHeld => ?_); refine with_tabW fleuronlaw03_OutlineTells.tab14 fleuronlaw03_OutlineTells.bits14 (fun HT_ HW_ => ?_)
             generalize w64.drew = w65 at HO_3 HO_5 BK195 BK214 BK215 BK223 BK224 HB hHeld ⊢
             refine one_ (i := 0) (N := some 59) #[true, false, false, false, false, false, false, false, false, false, false, false, false, false, false, false, false, false, false, false, false, false, false, false, false, false, false, false, false, false, false] rfl rfl (one_of HT_.out (by kernel_rfl)) (by decide) (fun K hK => ?_)
             refine goes_ Try.func21 (by kernel_rfl) rfl #[] (by rfl) rfl rfl (by (try simp only [List.map_toArray, List.map_cons, List.map_nil]); first | done | rfl | (simp only [List.length_drop, List.length_take]; rfl)) ?_
             with_reducible refine (fleuronlaw03_drawn.calls  true _ A31.out).mono ?_
             rintro e w66 ⟨rfl, hb⟩
             refine ⟨_, rfl, ?_⟩
             have n0_ := aM (Kd.S_below (by (with_reducible repeat (first | apply Kd.S_alloc | apply Kd.S_drewN | apply Kd.S_drew)); exact HO_3.out) hb)
             have n1_ := aM (Kd.S_below (by (with_reducible repeat (first | apply Kd.S_alloc | apply Kd.S_drewN | apply Kd.S_drew)); exact HO_5.out) hb)
             have n2_ := aM (blk_below (g := gb195) (o := .cells #[.slice A0_0 l0_0.length c0_0, .slice A0_1 l0_1.length c0_1] 25 (0, 0)) (by (with_reducible repeat (first | refine kN ?_ _ | refine kD ?_ | refine kA ?_ _)); exact BK195.out) hb)
             have n3_ := aM (blk_below (g := gb214) (o := .cells #[.int .i64 t207, .int .i64 t208, .bool t209] 33 (0, 0)) (by (with_reducible repeat (first | refine kN ?_ _ | refine kD ?_ | refine kA ?_ _)); exact BK214.out) hb)
             have n4_ := aM (blk_below (g := gb215) (o := .cells #[.int .i64 t210, .int .i64 t211, .bool t212] 33 (0, 0)) (by (with_reducible repeat (first | refine kN ?_ _ | refine kD ?_ | refine kA ?_ _)); exact BK215.out) hb)
             have n5_ := aM (blk_below (g := gb223) (o := .cells #[.int .i64 t216, .int .i64 t217, .bool t218] 33 (0, 0)) (by (with_reducible repeat (first | refine kN ?_ _ | refine kD ?_ | refine kA ?_ _)); exact BK223.out) hb)
             have n6_ := aM (blk_below (g := gb224) (o := .cells #[.int .i64 t219, .int .i64 t220, .bool t221] 33 (0, 0)) (by (with_reducible repeat (first | refine kN ?_ _ | refine kD ?_ | refine kA ?_ _)); exact BK224.out) hb)
             have n7_ := aM (below_step (by repeat (first | (with_reducible first | exact HB.out | apply bA | apply bN | apply bD | refine bS ?_ GE195.out | refine bS ?_ GE214.out | refine bS ?_ GE215.out | refine bS ?_ GE223.out | refine bS ?_ GE224.out) | exact HB.out)) hb)
             clear HO_3
             clear HO_5
             clear BK195
             clear BK214
             clear BK215
             clear BK223
             clear BK224
             clear HB
             have HO_3 := n0_
             have HO_5 := n1_
             have BK195 := n2_
             have BK214 := n3_
             have BK215 := n4_
             have BK223 := n5_
             have BK224 := n6_
             have HB := n7_
             clear n0_ n1_ n2_ n3_ n4_ n5_ n6_ n7_
             (try clear hb)
             (try clear hb2)
             (try clear hk)
             (try clear hi)
             refine hK.out _ _ ⟨(blk_cell BK195.out 0).trans rfl, (blk_cell BK195.out 1).trans rfl, (blk_cell BK214.out 0).trans rfl, (blk_cell BK214.out 1).trans rfl, (blk_cell BK214.out 2).trans rfl, (blk_cell BK223.out 0).trans rfl, (blk_cell BK223.out 1).trans rfl, (blk_cell BK223.out 2).trans rfl, (blk_cell BK215.out 0).trans rfl, (blk_cell BK215.out 1).trans rfl, (blk_cell BK215.out 2).trans rfl, (blk_cell BK224.out 0).trans rfl, (blk_cell BK224.out 1).trans rfl, (blk_cell BK224.out 2).trans rfl⟩ (fun hHeld => ?_)
             clear hK K
             refine norm_ (a' := ?_) ?_ ?_
             rotate_left
             ·
              show Act.put _ (some 59) _ = _
              simp only [Act.put, List.setIfInBounds_toArray, List.set_cons_zero, List.set_cons_succ, i64_w, i32_w]
              rfl
             refine pure_ (i := 1) (N := some 60) (v := ?_) (a' := ?_) #[true, true, false, false, false, false, false, false, false, false, false, false, false, false, false, false, false, false, false, false, false, false, false, false, false, false, false, false, false, false, false] rfl rfl (any_of HT_.out (by kernel_rfl)) (fun _ _ _ h => h) (Or.inl ⟨by rfl, ?_⟩) ?_ ?_
             rotate_left
             ·
              intro w'
              go_simp
              with_reducible rfl
             rotate_left
             ·
              simp only [Act.put, List.setIfInBounds_toArray, List.set_cons_zero, List.set_cons_succ, i64_w, i32_w]
              rfl
             refine take_ (i := 2) (N := some 61) (v := ?_) (a' := ?_) #[true, true, true, false, false, false, false, false, false, false, false, false, false, false, false, false, false, false, false, false, false, false, false, false, false, false, false, false, false, false, false] rfl rfl (take_ofW HT_.out HW_.out (by kernel_rfl)) (fun _ _ _ h => h) (Or.inl ⟨by rfl, ?_⟩) hHeld ?_ ?_
             rotate_left
             ·
              rintro w' ⟨s0, s1, s2, s3, s4, s5, s6, s7, s8, s9, s10, s11, s12, s13⟩
              go_simp
              with_reducible rfl
             rotate_left
             ·
              simp only [Act.put, List.setIfInBounds_toArray, List.set_cons_zero, List.set_cons_succ, i64_w, i32_w]
              rfl
             refine take_ (i := 4) (N := some 63) (v := ?_) (a' := ?_) #[true, true, true, false, true, false, false, false, false, false, false, false, false, false, false, false, false, false, false, false, false, false, false, false, false, false, false, false, false, false, false] rfl rfl (take_ofW HT_.out HW_.out (by kernel_rfl)) (fun _ _ _ h => h) (Or.inl ⟨by rfl, ?_⟩) hHeld ?_ ?_
             rotate_left
             ·
              rintro w' ⟨s0, s1, s2, s3, s4, s5, s6, s7, s8, s9, s10, s11, s12, s13⟩
              go_simp
              with_reducible rfl
             rotate_left
             ·
              simp only [Act.put, List.setIfInBounds_toArray, List.set_cons_zero, List.set_cons_succ, i64_w, i32_w]
              rfl
             refine one_ (i := 3) (N := some 62) #[true, true, true, true, true, false, false, false, false, false, false, false, false, false, false, false, false, false, false, false, false, false, false, false, false, false, false, false, false, false, false] rfl rfl (one_of HT_.out (by kernel_rfl)) (by decide) (fun K hK => ?_)
             refine goes_ Try.func22 (by kernel_rfl) rfl #[.agg #[.slice A0_0 l0_0.length c0_0, .slice A0_1 l0_1.length c0_1]] (by rfl) rfl rfl (by (try simp only [List.map_toArray, List.map_cons, List.map_nil]); first | done | rfl | (simp only [List.length_drop, List.length_take]; rfl)) ?_
             with_reducible refine (outline_Right.calls k2 _ _ l0_0 _ _ l0_1 t226 _ ?side1 ?side2 ?side3 ?side4 A33.out).mono ?_
             (case side1 => repeat (first | exact (Kd.C_below HR0_0.out HB.out) | (with_reducible refine Kd.C_alloc ?_ _) | (with_reducible refine Kd.C_drewN ?_ _) | (with_reducible refine Kd.C_drew ?_)))
             (case side2 => exact HC0_0.out)
             (case side3 => repeat (first | exact (Kd.C_below HR0_1.out HB.out) | (with_reducible refine Kd.C_alloc ?_ _) | (with_reducible refine Kd.C_drewN ?_ _) | (with_reducible refine Kd.C_drew ?_)))
             (case side4 => exact HC0_1.out)
             rintro e w67 ⟨rfl, hb⟩
             refine ⟨_, rfl, ?_⟩
             have n0_ := aM (Kd.S_below (by (with_reducible repeat (first | apply Kd.S_alloc | apply Kd.S_drewN | apply Kd.S_drew)); exact HO_3.out) hb)
             have n1_ := aM (Kd.S_below (by (with_reducible repeat (first | apply Kd.S_alloc | apply Kd.S_drewN | apply Kd.S_drew)); exact HO_5.out) hb)
             have n2_ := aM (blk_below (g := gb195) (o := .cells #[.slice A0_0 l0_0.length c0_0, .slice A0_1 l0_1.length c0_1] 25 (0, 0)) (by (with_reducible repeat (first | refine kN ?_ _ | refine kD ?_ | refine kA ?_ _)); exact BK195.out) hb)
             have n3_ := aM (blk_below (g := gb214) (o := .cells #[.int .i64 t207, .int .i64 t208, .bool t209] 33 (0, 0)) (by (with_reducible repeat (first | refine kN ?_ _ | refine kD ?_ | refine kA ?_ _)); exact BK214.out) hb)
             have n4_ := aM (blk_below (g := gb215) (o := .cells #[.int .i64 t210, .int .i64 t211, .bool t212] 33 (0, 0)) (by (with_reducible repeat (first | refine kN ?_ _ | refine kD ?_ | refine kA ?_ _)); exact BK215.out) hb)
             have n5_ := aM (blk_below (g := gb223) (o := .cells #[.int .i64 t216, .int .i64 t217, .bool t218] 33 (0, 0)) (by (with_reducible repeat (first | refine kN ?_ _ | refine kD ?_ | refine kA ?_ _)); exact BK223.out) hb)
             have n6_ := aM (blk_below (g := gb224) (o := .cells #[.int .i64 t219, .int .i64 t220, .bool t221] 33 (0, 0)) (by (with_reducible repeat (first | refine kN ?_ _ | refine kD ?_ | refine kA ?_ _)); exact BK224.out) hb)
             have n7_ := aM (below_step (by repeat (first | (with_reducible first | exact HB.out | apply bA | apply bN | apply bD | refine bS ?_ GE195.out | refine bS ?_ GE214.out | refine bS ?_ GE215.out | refine bS ?_ GE223.out | refine bS ?_ GE224.out) | exact HB.out)) hb)
             clear HO_3
             clear HO_5
             clear BK195
             clear BK214
             clear BK215
             clear BK223
             clear BK224
             clear HB
             have HO_3 := n0_
             have HO_5 := n1_
             have BK195 := n2_
             have BK214 := n3_
             have BK215 := n4_
             have BK223 := n5_
             have BK224 := n6_
             have HB := n7_
             clear n0_ n1_ n2_ n3_ n4_ n5_ n6_ n7_
             (try clear hb)
             (try clear hb2)
             (try clear hk)
             (try clear hi)
             refine hK.out _ _ ⟨(blk_cell BK195.out 0).trans rfl, (blk_cell BK195.out 1).trans rfl, (blk_cell BK214.out 0).trans rfl, (blk_cell BK214.out 1).trans rfl, (blk_cell BK214.out 2).trans rfl, (blk_cell BK223.out 0).trans rfl, (blk_cell BK223.out 1).trans rfl, (blk_cell BK223.out 2).trans rfl, (blk_cell BK215.out 0).trans rfl, (blk_cell BK215.out 1).trans rfl, (blk_cell BK215.out 2).trans rfl, (blk_cell BK224.out 0).trans rfl, (blk_cell BK224.out 1).trans rfl, (blk_cell BK224.out 2).trans rfl⟩ (fun hHeld => ?_)
             clear hK K
             refine norm_ (a' := ?_) ?_ ?_
             rotate_left
             ·
              show Act.put _ (some 62) _ = _
              simp only [Act.put, List.setIfInBounds_toArray, List.set_cons_zero, List.set_cons_succ, i64_w, i32_w]
              rfl
             refine one_ (i := 5) (N := some 64) #[true, true, true, true, true, true, false, false, false, false, false, false, false, false, false, false, false, false, false, false, false, false, false, false, false, false, false, false, false, false, false] rfl rfl (one_of HT_.out (by kernel_rfl)) (by decide) (fun K hK => ?_)
             refine goes_ Try.func23 (by kernel_rfl) rfl #[.agg #[.slice A0_0 l0_0.length c0_0, .slice A0_1 l0_1.length c0_1]] (by rfl) rfl rfl (by (try simp only [List.map_toArray, List.map_cons, List.map_nil]); first | done | rfl | (simp only [List.length_drop, List.length_take]; rfl)) ?_
             with_reducible refine (fleuronref03_Right.calls k2 _ _ l0_0 _ _ l0_1 t227 _ ?side1 ?side2 ?side3 ?side4 A34.out).mono ?_
             (case side1 => repeat (first | exact (Kd.C_below HR0_0.out HB.out) | (with_reducible refine Kd.C_alloc ?_ _) | (with_reducible refine Kd.C_drewN ?_ _) | (with_reducible refine Kd.C_drew ?_)))
             (case side2 => exact HC0_0.out)
             (case side3 => repeat (first | exact (Kd.C_below HR0_1.out HB.out) | (with_reducible refine Kd.C_alloc ?_ _) | (with_reducible refine Kd.C_drewN ?_ _) | (with_reducible refine Kd.C_drew ?_)))
             (case side4 => exact HC0_1.out)
             rintro e w68 ⟨rfl, hb⟩
             refine ⟨_, rfl, ?_⟩
             have n0_ := aM (Kd.S_below (by (with_reducible repeat (first | apply Kd.S_alloc | apply Kd.S_drewN | apply Kd.S_drew)); exact HO_3.out) hb)
             have n1_ := aM (Kd.S_below (by (with_reducible repeat (first | apply Kd.S_alloc | apply Kd.S_drewN | apply Kd.S_drew)); exact HO_5.out) hb)
             have n2_ := aM (blk_below (g := gb195) (o := .cells #[.slice A0_0 l0_0.length c0_0, .slice A0_1 l0_1.length c0_1] 25 (0, 0)) (by (with_reducible repeat (first | refine kN ?_ _ | refine kD ?_ | refine kA ?_ _)); exact BK195.out) hb)
             have n3_ := aM (blk_below (g := gb214) (o := .cells #[.int .i64 t207, .int .i64 t208, .bool t209] 33 (0, 0)) (by (with_reducible repeat (first | refine kN ?_ _ | refine kD ?_ | refine kA ?_ _)); exact BK214.out) hb)
             have n4_ := aM (blk_below (g := gb215) (o := .cells #[.int .i64 t210, .int .i64 t211, .bool t212] 33 (0, 0)) (by (with_reducible repeat (first | refine kN ?_ _ | refine kD ?_ | refine kA ?_ _)); exact BK215.out) hb)
             have n5_ := aM (blk_below (g := gb223) (o := .cells #[.int .i64 t216, .int .i64 t217, .bool t218] 33 (0, 0)) (by (with_reducible repeat (first | refine kN ?_ _ | refine kD ?_ | refine kA ?_ _)); exact BK223.out) hb)
             have n6_ := aM (blk_below (g := gb224) (o := .cells #[.int .i64 t219, .int .i64 t220, .bool t221] 33 (0, 0)) (by (with_reducible repeat (first | refine kN ?_ _ | refine kD ?_ | refine kA ?_ _)); exact BK224.out) hb)
             have n7_ := aM (below_step (by repeat (first | (with_reducible first | exact HB.out | apply bA | apply bN | apply bD | refine bS ?_ GE195.out | refine bS ?_ GE214.out | refine bS ?_ GE215.out | refine bS ?_ GE223.out | refine bS ?_ GE224.out) | exact HB.out)) hb)
             clear HO_3
             clear HO_5
             clear BK195
             clear BK214
             clear BK215
             clear BK223
             clear BK224
             clear HB
             have HO_3 := n0_
             have HO_5 := n1_
             have BK195 := n2_
             have BK214 := n3_
             have BK215 := n4_
             have BK223 := n5_
             have BK224 := n6_
             have HB := n7_
             clear n0_ n1_ n2_ n3_ n4_ n5_ n6_ n7_
             (try clear hb)
             (try clear hb2)
             (try clear hk)
             (try clear hi)
             refine hK.out _ _ ⟨(blk_cell BK195.out 0).trans rfl, (blk_cell BK195.out 1).trans rfl, (blk_cell BK214.out 0).trans rfl, (blk_cell BK214.out 1).trans rfl, (blk_cell BK214.out 2).trans rfl, (blk_cell BK223.out 0).trans rfl, (blk_cell BK223.out 1).trans rfl, (blk_cell BK223.out 2).trans rfl, (blk_cell BK215.out 0).trans rfl, (blk_cell BK215.out 1).trans rfl, (blk_cell BK215.out 2).trans rfl, (blk_cell BK224.out 0).trans rfl, (blk_cell BK224.out 1).trans rfl, (blk_cell BK224.out 2).trans rfl⟩ (fun hHeld => ?_)
             clear hK K
             refine norm_ (a' := ?_) ?_ ?_
             rotate_left
             ·
              show Act.put _ (some 64) _ = _
              simp only [Act.put, List.setIfInBounds_toArray, List.set_cons_zero, List.set_cons_succ, i64_w, i32_w]
              rfl
             refine pure_ (i := 6) (N := some 65) (v := ?_) (a' := ?_) #[true, true, true, true, true, true, true, false, false, false, false, false, false, false, false, false, false, false, false, false, false, false, false, false, false, false, false, false, false, false, false] rfl rfl (any_of HT_.out (by kernel_rfl)) (fun _ _ _ h => h) (Or.inl ⟨by rfl, ?_⟩) ?_ ?_
             rotate_left
             ·
              intro w'
              go_simp
              with_reducible rfl
             rotate_left
             ·
              simp only [Act.put, List.setIfInBounds_toArray, List.set_cons_zero, List.set_cons_succ, i64_w, i32_w]
              rfl
             refine pure_ (i := 7) (N := some 66) (v := ?_) (a' := ?_) #[true, true, true, true, true, true, true, true, false, false, false, false, false, false, false, false, false, false, false, false, false, false, false, false, false, false, false, false, false, false, false] rfl rfl (any_of HT_.out (by kernel_rfl)) (fun _ _ _ h => h) (Or.inl ⟨by rfl, ?_⟩) ?_ ?_
             rotate_left
             ·
              intro w'
              go_simp
              with_reducible rfl
             rotate_left
             ·
              simp only [Act.put, List.setIfInBounds_toArray, List.set_cons_zero, List.set_cons_succ, i64_w, i32_w]
              rfl
             refine pure_ (i := 8) (N := some 67) (v := ?_) (a' := ?_) #[true, true, true, true, true, true, true, true, true, false, false, false, false, false, false, false, false, false, false, false, false, false, false, false, false, false, false, false, false, false, false] rfl rfl (any_of HT_.out (by kernel_rfl)) (fun _ _ _ h => h) (Or.inl ⟨by rfl, ?_⟩) ?_ ?_
             rotate_left
             ·
              intro w'
              go_simp
              with_reducible rfl
             rotate_left
             ·
              simp only [Act.put, List.setIfInBounds_toArray, List.set_cons_zero, List.set_cons_succ, i64_w, i32_w]
              rfl
             refine take_ (i := 9) (N := some 68) (v := ?_) (a' := ?_) #[true, true, true, true, true, true, true, true, true, true, false, false, false, false, false, false, false, false, false, false, false, false, false, false, false, false, false, false, false, false, false] rfl rfl (take_ofW HT_.out HW_.out (by kernel_rfl)) (fun _ _ _ h => h) (Or.inl ⟨by rfl, ?_⟩) hHeld ?_ ?_
             rotate_left
             ·
              rintro w' ⟨s0, s1, s2, s3, s4, s5, s6, s7, s8, s9, s10, s11, s12, s13⟩
              go_simp
              with_reducible rfl
             rotate_left
             ·
              simp only [Act.put, List.setIfInBounds_toArray, List.set_cons_zero, List.set_cons_succ, i64_w, i32_w]
              rfl
             refine take_ (i := 10) (N := some 69) (v := ?_) (a' := ?_) #[true, true, true, true, true, true, true, true, true, true, true, false, false, false, false, false, false, false, false, false, false, false, false, false, false, false, false, false, false, false, false] rfl rfl (take_ofW HT_.out HW_.out (by kernel_rfl)) (fun _ _ _ h => h) (Or.inl ⟨by rfl, ?_⟩) hHeld ?_ ?_
             rotate_left
             ·
              rintro w' ⟨s0, s1, s2, s3, s4, s5, s6, s7, s8, s9, s10, s11, s12, s13⟩
              go_simp
              with_reducible rfl
             rotate_left
             ·
              simp only [Act.put, List.setIfInBounds_toArray, List.set_cons_zero, List.set_cons_succ, i64_w, i32_w]
              rfl
             refine pure_ (i := 11) (N := some 70) (v := ?_) (a' := ?_) #[true, true, true, true, true, true, true, true, true, true, true, true, false, false, false, false, false, false, false, false, false, false, false, false, false, false, false, false, false, false, false] rfl rfl (any_of HT_.out (by kernel_rfl)) (fun _ _ _ h => h) (Or.inl ⟨by rfl, ?_⟩) ?_ ?_
             rotate_left
             ·
              intro w'
              go_simp
              with_reducible rfl
             rotate_left
             ·
              simp only [Act.put, List.setIfInBounds_toArray, List.set_cons_zero, List.set_cons_succ, i64_w, i32_w]
              rfl
             refine pure_ (i := 12) (N := some 71) (v := ?_) (a' := ?_) #[true, true, true, true, true, true, true, true, true, true, true, true, true, false, false, false, false, false, false, false, false, false, false, false, false, false, false, false, false, false, false] rfl rfl (any_of HT_.out (by kernel_rfl)) (fun _ _ _ h => h) (Or.inl ⟨by rfl, ?_⟩) ?_ ?_
             rotate_left
             ·
              intro w'
              go_simp
              with_reducible rfl
             rotate_left
             ·
              simp only [Act.put, List.setIfInBounds_toArray, List.set_cons_zero, List.set_cons_succ, i64_w, i32_w]
              rfl
             refine pure_ (i := 13) (N := some 72) (v := ?_) (a' := ?_) #[true, true, true, true, true, true, true, true, true, true, true, true, true, true, false, false, false, false, false, false, false, false, false, false, false, false, false, false, false, false, false] rfl rfl (any_of HT_.out (by kernel_rfl)) (fun _ _ _ h => h) (Or.inl ⟨by rfl, ?_⟩) ?_ ?_
             rotate_left
             ·
              intro w'
              go_simp
              with_reducible rfl
             rotate_left
             ·
              simp only [Act.put, List.setIfInBounds_toArray, List.set_cons_zero, List.set_cons_succ, i64_w, i32_w]
              rfl
             refine take_ (i := 14) (N := some 73) (v := ?_) (a' := ?_) #[true, true, true, true, true, true, true, true, true, true, true, true, true, true, true, false, false, false, false, false, false, false, false, false, false, false, false, false, false, false, false] rfl rfl (take_ofW HT_.out HW_.out (by kernel_rfl)) (fun _ _ _ h => h) (Or.inl ⟨by rfl, ?_⟩) hHeld ?_ ?_
             rotate_left
             ·
              rintro w' ⟨s0, s1, s2, s3, s4, s5, s6, s7, s8, s9, s10, s11, s12, s13⟩
              go_simp
              with_reducible rfl
             rotate_left
             ·
              simp only [Act.put, List.setIfInBounds_toArray, List.set_cons_zero, List.set_cons_succ, i64_w, i32_w]
              rfl
             refine take_ (i := 15) (N := some 74) (v := ?_) (a' := ?_) #[true, true, true, true, true, true, true, true, true, true, true, true, true, true, true, true, false, false, false, false, false, false, false, false, false, false, false, false, false, false, false] rfl rfl (take_ofW HT_.out HW_.out (by kernel_rfl)) (fun _ _ _ h => h) (Or.inl ⟨by rfl, ?_⟩) hHeld ?_ ?_
             rotate_left
             ·
              rintro w' ⟨s0, s1, s2, s3, s4, s5, s6, s7, s8, s9, s10, s11, s12, s13⟩
              go_simp
              with_reducible rfl
             rotate_left
             ·
              simp only [Act.put, List.setIfInBounds_toArray, List.set_cons_zero, List.set_cons_succ, i64_w, i32_w]
              rfl
             refine pure_ (i := 16) (N := some 75) (v := ?_) (a' := ?_) #[true, true, true, true, true, true, true, true, true, true, true, true, true, true, true, true, true, false, false, false, false, false, false, false, false, false, false, false, false, false, false] rfl rfl (any_of HT_.out (by kernel_rfl)) (fun _ _ _ h => h) (Or.inl ⟨by rfl, ?_⟩) ?_ ?_
             rotate_left
             ·
              intro w'
              go_simp
              with_reducible rfl
             rotate_left
             ·
              simp only [Act.put, List.setIfInBounds_toArray, List.set_cons_zero, List.set_cons_succ, i64_w, i32_w]
              rfl
             refine pure_ (i := 17) (N := some 76) (v := ?_) (a' := ?_) #[true, true, true, true, true, true, true, true, true, true, true, true, true, true, true, true, true, true, false, false, false, false, false, false, false, false, false, false, false, false, false] rfl rfl (any_of HT_.out (by kernel_rfl)) (fun _ _ _ h => h) (Or.inl ⟨by rfl, ?_⟩) ?_ ?_
             rotate_left
             ·
              intro w'
              go_simp
              with_reducible rfl
             rotate_left
             ·
              simp only [Act.put, List.setIfInBounds_toArray, List.set_cons_zero, List.set_cons_succ, i64_w, i32_w]
              rfl
             refine pure_ (i := 18) (N := some 77) (v := ?_) (a' := ?_) #[true, true, true, true, true, true, true, true, true, true, true, true, true, true, true, true, true, true, true, false, false, false, false, false, false, false, false, false, false, false, false] rfl rfl (any_of HT_.out (by kernel_rfl)) (fun _ _ _ h => h) (Or.inl ⟨by rfl, ?_⟩) ?_ ?_
             rotate_left
             ·
              intro w'
              go_simp
              with_reducible rfl
             rotate_left
             ·
              simp only [Act.put, List.setIfInBounds_toArray, List.set_cons_zero, List.set_cons_succ, i64_w, i32_w]
              rfl
             refine pure_ (i := 19) (N := some 78) (v := ?_) (a' := ?_) #[true, true, true, true, true, true, true, true, true, true, true, true, true, true, true, true, true, true, true, true, false, false, false, false, false, false, false, false, false, false, false] rfl rfl (any_of HT_.out (by kernel_rfl)) (fun _ _ _ h => h) (Or.inl ⟨by rfl, ?_⟩) ?_ ?_
             rotate_left
             ·
              intro w'
              go_simp
              with_reducible rfl
             rotate_left
             ·
              simp only [Act.put, List.setIfInBounds_toArray, List.set_cons_zero, List.set_cons_succ, i64_w, i32_w]
              rfl
             refine pure_ (i := 20) (N := some 79) (v := ?_) (a' := ?_) #[true, true, true, true, true, true, true, true, true, true, true, true, true, true, true, true, true, true, true, true, true, false, false, false, false, false, false, false, false, false, false] rfl rfl (any_of HT_.out (by kernel_rfl)) (fun _ _ _ h => h) (Or.inl ⟨by rfl, ?_⟩) ?_ ?_
             rotate_left
             ·
              intro w'
              go_simp
              with_reducible rfl
             rotate_left
             ·
              simp only [Act.put, List.setIfInBounds_toArray, List.set_cons_zero, List.set_cons_succ, i64_w, i32_w]
              rfl
             refine pure_ (i := 21) (N := some 80) (v := ?_) (a' := ?_) #[true, true, true, true, true, true, true, true, true, true, true, true, true, true, true, true, true, true, true, true, true, true, false, false, false, false, false, false, false, false, false] rfl rfl (any_of HT_.out (by kernel_rfl)) (fun _ _ _ h => h) (Or.inl ⟨by rfl, ?_⟩) ?_ ?_
             rotate_left
             ·
              intro w'
              go_simp
              with_reducible rfl
             rotate_left
             ·
              simp only [Act.put, List.setIfInBounds_toArray, List.set_cons_zero, List.set_cons_succ, i64_w, i32_w]
              rfl
             refine pure_ (i := 22) (N := some 81) (v := ?_) (a' := ?_) #[true, true, true, true, true, true, true, true, true, true, true, true, true, true, true, true, true, true, true, true, true, true, true, false, false, false, false, false, false, false, false] rfl rfl (any_of HT_.out (by kernel_rfl)) (fun _ _ _ h => h) (Or.inl ⟨by rfl, ?_⟩) ?_ ?_
             rotate_left
             ·
              intro w'
              go_simp
              with_reducible rfl
             rotate_left
             ·
              simp only [Act.put, List.setIfInBounds_toArray, List.set_cons_zero, List.set_cons_succ, i64_w, i32_w]
              rfl
             refine pure_ (i := 23) (N := some 82) (v := ?_) (a' := ?_) #[true, true, true, true, true, true, true, true, true, true, true, true, true, true, true, true, true, true, true, true, true, true, true, true, false, false, false, false, false, false, false] rfl rfl (any_of HT_.out (by kernel_rfl)) (fun _ _ _ h => h) (Or.inl ⟨by rfl, ?_⟩) ?_ ?_
             rotate_left
             ·
              intro w'
              go_simp
              with_reducible rfl
             rotate_left
             ·
              simp only [Act.put, List.setIfInBounds_toArray, List.set_cons_zero, List.set_cons_succ, i64_w, i32_w]
              rfl
             refine take_ (i := 24) (N := some 83) (v := ?_) (a' := ?_) #[true, true, true, true, true, true, true, true, true, true, true, true, true, true, true, true, true, true, true, true, true, true, true, true, true, false, false, false, false, false, false] rfl rfl (take_ofW HT_.out HW_.out (by kernel_rfl)) (fun _ _ _ h => h) (Or.inl ⟨by rfl, ?_⟩) hHeld ?_ ?_
             rotate_left
             ·
              rintro w' ⟨s0, s1, s2, s3, s4, s5, s6, s7, s8, s9, s10, s11, s12, s13⟩
              go_simp
              with_reducible rfl
             rotate_left
             ·
              simp only [Act.put, List.setIfInBounds_toArray, List.set_cons_zero, List.set_cons_succ, i64_w, i32_w]
              rfl
             refine take_ (i := 26) (N := some 85) (v := ?_) (a' := ?_) #[true, true, true, true, true, true, true, true, true, true, true, true, true, true, true, true, true, true, true, true, true, true, true, true, true, false, true, false, false, false, false] rfl rfl (take_ofW HT_.out HW_.out (by kernel_rfl)) (fun _ _ _ h => h) (Or.inl ⟨by rfl, ?_⟩) hHeld ?_ ?_
             rotate_left
             ·
              rintro w' ⟨s0, s1, s2, s3, s4, s5, s6, s7, s8, s9, s10, s11, s12, s13⟩
              go_simp
              with_reducible rfl
             rotate_left
             ·
              simp only [Act.put, List.setIfInBounds_toArray, List.set_cons_zero, List.set_cons_succ, i64_w, i32_w]
              rfl
             refine one_ (i := 25) (N := some 84) #[true, true, true, true, true, true, true, true, true, true, true, true, true, true, true, true, true, true, true, true, true, true, true, true, true, true, true, false, false, false, false] rfl rfl (one_of HT_.out (by kernel_rfl)) (by decide) (fun K hK => ?_)
             refine goes_ Try.func24 (by kernel_rfl) rfl #[.agg #[.slice A0_0 l0_0.length c0_0, .slice A0_1 l0_1.length c0_1]] (by rfl) rfl rfl (by (try simp only [List.map_toArray, List.map_cons, List.map_nil]); first | done | rfl | (simp only [List.length_drop, List.length_take]; rfl)) ?_
             with_reducible refine (outline_Area.calls _ _ l0_0 _ _ l0_1 t228 _ ?side1 ?side2 ?side3 ?side4 A39.out).mono ?_
             (case side1 => repeat (first | exact (Kd.C_below HR0_0.out HB.out) | (with_reducible refine Kd.C_alloc ?_ _) | (with_reducible refine Kd.C_drewN ?_ _) | (with_reducible refine Kd.C_drew ?_)))
             (case side2 => exact HC0_0.out)
             (case side3 => repeat (first | exact (Kd.C_below HR0_1.out HB.out) | (with_reducible refine Kd.C_alloc ?_ _) | (with_reducible refine Kd.C_drewN ?_ _) | (with_reducible refine Kd.C_drew ?_)))
             (case side4 => exact HC0_1.out)
             rintro e w69 ⟨rfl, hb⟩
             refine ⟨_, rfl, ?_⟩
             have n0_ := aM (Kd.S_below (by (with_reducible repeat (first | apply Kd.S_alloc | apply Kd.S_drewN | apply Kd.S_drew)); exact HO_3.out) hb)
             have n1_ := aM (Kd.S_below (by (with_reducible repeat (first | apply Kd.S_alloc | apply Kd.S_drewN | apply Kd.S_drew)); exact HO_5.out) hb)
             have n2_ := aM (blk_below (g := gb195) (o := .cells #[.slice A0_0 l0_0.length c0_0, .slice A0_1 l0_1.length c0_1] 25 (0, 0)) (by (with_reducible repeat (first | refine kN ?_ _ | refine kD ?_ | refine kA ?_ _)); exact BK195.out) hb)
             have n3_ := aM (blk_below (g := gb214) (o := .cells #[.int .i64 t207, .int .i64 t208, .bool t209] 33 (0, 0)) (by (with_reducible repeat (first | refine kN ?_ _ | refine kD ?_ | refine kA ?_ _)); exact BK214.out) hb)
             have n4_ := aM (blk_below (g := gb215) (o := .cells #[.int .i64 t210, .int .i64 t211, .bool t212] 33 (0, 0)) (by (with_reducible repeat (first | refine kN ?_ _ | refine kD ?_ | refine kA ?_ _)); exact BK215.out) hb)
             have n5_ := aM (blk_below (g := gb223) (o := .cells #[.int .i64 t216, .int .i64 t217, .bool t218] 33 (0, 0)) (by (with_reducible repeat (first | refine kN ?_ _ | refine kD ?_ | refine kA ?_ _)); exact BK223.out) hb)
             have n6_ := aM (blk_below (g := gb224) (o := .cells #[.int .i64 t219, .int .i64 t220, .bool t221] 33 (0, 0)) (by (with_reducible repeat (first | refine kN ?_ _ | refine kD ?_ | refine kA ?_ _)); exact BK224.out) hb)
             have n7_ := aM (below_step (by repeat (first | (with_reducible first | exact HB.out | apply bA | apply bN | apply bD | refine bS ?_ GE195.out | refine bS ?_ GE214.out | refine bS ?_ GE215.out | refine bS ?_ GE223.out | refine bS ?_ GE224.out) | exact HB.out)) hb)
             clear HO_3
             clear HO_5
             clear BK195
             clear BK214
             clear BK215
             clear BK223
             clear BK224
             clear HB
             have HO_3 := n0_
             have HO_5 := n1_
             have BK195 := n2_
             have BK214 := n3_
             have BK215 := n4_
             have BK223 := n5_
             have BK224 := n6_
             have HB := n7_
             clear n0_ n1_ n2_ n3_ n4_ n5_ n6_ n7_
             (try clear hb)
             (try clear hb2)
             (try clear hk)
             (try clear hi)
             refine hK.out _ _ ⟨(blk_cell BK195.out 0).trans rfl, (blk_cell BK195.out 1).trans rfl, (blk_cell BK214.out 0).trans rfl, (blk_cell BK214.out 1).trans rfl, (blk_cell BK214.out 2).trans rfl, (blk_cell BK223.out 0).trans rfl, (blk_cell BK223.out 1).trans rfl, (blk_cell BK223.out 2).trans rfl, (blk_cell BK215.out 0).trans rfl, (blk_cell BK215.out 1).trans rfl, (blk_cell BK215.out 2).trans rfl, (blk_cell BK224.out 0).trans rfl, (blk_cell BK224.out 1).trans rfl, (blk_cell BK224.out 2).trans rfl⟩ (fun hHeld => ?_)
             clear hK K
             refine norm_ (a' := ?_) ?_ ?_
             rotate_left
             ·
              show Act.put _ (some 84) _ = _
              simp only [Act.put, List.setIfInBounds_toArray, List.set_cons_zero, List.set_cons_succ, i64_w, i32_w]
              rfl
             refine one_ (i := 27) (N := some 86) #[true, true, true, true, true, true, true, true, true, true, true, true, true, true, true, true, true, true, true, true, true, true, true, true, true, true, true, true, false, false, false] rfl rfl (one_of HT_.out (by kernel_rfl)) (by decide) (fun K hK => ?_)
             refine goes_ Try.func25 (by kernel_rfl) rfl #[.agg #[.slice A0_0 l0_0.length c0_0, .slice A0_1 l0_1.length c0_1]] (by rfl) rfl rfl (by (try simp only [List.map_toArray, List.map_cons, List.map_nil]); first | done | rfl | (simp only [List.length_drop, List.length_take]; rfl)) ?_
             with_reducible refine (fleuronref03_Area.calls k2 _ _ l0_0 _ _ l0_1 t229 _ ?side1 ?side2 ?side3 ?side4 A40.out).mono ?_
             (case side1 => repeat (first | exact (Kd.C_below HR0_0.out HB.out) | (with_reducible refine Kd.C_alloc ?_ _) | (with_reducible refine Kd.C_drewN ?_ _) | (with_reducible refine Kd.C_drew ?_)))
             (case side2 => exact HC0_0.out)
             (case side3 => repeat (first | exact (Kd.C_below HR0_1.out HB.out) | (with_reducible refine Kd.C_alloc ?_ _) | (with_reducible refine Kd.C_drewN ?_ _) | (with_reducible refine Kd.C_drew ?_)))
             (case side4 => exact HC0_1.out)
             rintro e w70 ⟨rfl, hb⟩
             refine ⟨_, rfl, ?_⟩
             have n0_ := aM (Kd.S_below (by (with_reducible repeat (first | apply Kd.S_alloc | apply Kd.S_drewN | apply Kd.S_drew)); exact HO_3.out) hb)
             have n1_ := aM (Kd.S_below (by (with_reducible repeat (first | apply Kd.S_alloc | apply Kd.S_drewN | apply Kd.S_drew)); exact HO_5.out) hb)
             have n2_ := aM (blk_below (g := gb195) (o := .cells #[.slice A0_0 l0_0.length c0_0, .slice A0_1 l0_1.length c0_1] 25 (0, 0)) (by (with_reducible repeat (first | refine kN ?_ _ | refine kD ?_ | refine kA ?_ _)); exact BK195.out) hb)
             have n3_ := aM (blk_below (g := gb214) (o := .cells #[.int .i64 t207, .int .i64 t208, .bool t209] 33 (0, 0)) (by (with_reducible repeat (first | refine kN ?_ _ | refine kD ?_ | refine kA ?_ _)); exact BK214.out) hb)
             have n4_ := aM (blk_below (g := gb215) (o := .cells #[.int .i64 t210, .int .i64 t211, .bool t212] 33 (0, 0)) (by (with_reducible repeat (first | refine kN ?_ _ | refine kD ?_ | refine kA ?_ _)); exact BK215.out) hb)
             have n5_ := aM (blk_below (g := gb223) (o := .cells #[.int .i64 t216, .int .i64 t217, .bool t218] 33 (0, 0)) (by (with_reducible repeat (first | refine kN ?_ _ | refine kD ?_ | refine kA ?_ _)); exact BK223.out) hb)
             have n6_ := aM (blk_below (g := gb224) (o := .cells #[.int .i64 t219, .int .i64 t220, .bool t221] 33 (0, 0)) (by (with_reducible repeat (first | refine kN ?_ _ | refine kD ?_ | refine kA ?_ _)); exact BK224.out) hb)
             have n7_ := aM (below_step (by repeat (first | (with_reducible first | exact HB.out | apply bA | apply bN | apply bD | refine bS ?_ GE195.out | refine bS ?_ GE214.out | refine bS ?_ GE215.out | refine bS ?_ GE223.out | refine bS ?_ GE224.out) | exact HB.out)) hb)
             clear HO_3
             clear HO_5
             clear BK195
             clear BK214
             clear BK215
             clear BK223
             clear BK224
             clear HB
             have HO_3 := n0_
             have HO_5 := n1_
             have BK195 := n2_
             have BK214 := n3_
             have BK215 := n4_
             have BK223 := n5_
             have BK224 := n6_
             have HB := n7_
             clear n0_ n1_ n2_ n3_ n4_ n5_ n6_ n7_
             (try clear hb)
             (try clear hb2)
             (try clear hk)
             (try clear hi)
             refine hK.out _ _ ⟨(blk_cell BK195.out 0).trans rfl, (blk_cell BK195.out 1).trans rfl, (blk_cell BK214.out 0).trans rfl, (blk_cell BK214.out 1).trans rfl, (blk_cell BK214.out 2).trans rfl, (blk_cell BK223.out 0).trans rfl, (blk_cell BK223.out 1).trans rfl, (blk_cell BK223.out 2).trans rfl, (blk_cell BK215.out 0).trans rfl, (blk_cell BK215.out 1).trans rfl, (blk_cell BK215.out 2).trans rfl, (blk_cell BK224.out 0).trans rfl, (blk_cell BK224.out 1).trans rfl, (blk_cell BK224.out 2).trans rfl⟩ (fun hHeld => ?_)
             clear hK K
             refine norm_ (a' := ?_) ?_ ?_
             rotate_left
             ·
              show Act.put _ (some 86) _ = _
              simp only [Act.put, List.setIfInBounds_toArray, List.set_cons_zero, List.set_cons_succ, i64_w, i32_w]
              rfl
             refine pure_ (i := 28) (N := some 87) (v := ?_) (a' := ?_) #[true, true, true, true, true, true, true, true, true, true, true, true, true, true, true, true, true, true, true, true, true, true, true, true, true, true, true, true, true, false, false] rfl rfl (any_of HT_.out (by kernel_rfl)) (fun _ _ _ h => h) (Or.inl ⟨by rfl, ?_⟩) ?_ ?_
             rotate_left
             ·
              intro w'
              go_simp
              with_reducible rfl
             rotate_left
             ·
              simp only [Act.put, List.setIfInBounds_toArray, List.set_cons_zero, List.set_cons_succ, i64_w, i32_w]
              rfl
             refine pure_ (i := 29) (N := some 88) (v := ?_) (a' := ?_) #[true, true, true, true, true, true, true, true, true, true, true, true, true, true, true, true, true, true, true, true, true, true, true, true, true, true, true, true, true, true, false] rfl rfl (any_of HT_.out (by kernel_rfl)) (fun _ _ _ h => h) (Or.inl ⟨by rfl, ?_⟩) ?_ ?_
             rotate_left
             ·
              intro w'
              go_simp
              with_reducible rfl
             rotate_left
             ·
              simp only [Act.put, List.setIfInBounds_toArray, List.set_cons_zero, List.set_cons_succ, i64_w, i32_w]
              rfl
             refine pure_ (i := 30) (N := some 2) (v := ?_) (a' := ?_) #[true, true, true, true, true, true, true, true, true, true, true, true, true, true, true, true, true, true, true, true, true, true, true, true, true, true, true, true, true, true, true] rfl rfl (any_of HT_.out (by kernel_rfl)) (fun _ _ _ h => h) (Or.inl ⟨by rfl, ?_⟩) ?_ ?_
             rotate_left
             ·
              intro w'
              go_simp
              with_reducible rfl
             rotate_left
             ·
              simp only [Act.put, List.setIfInBounds_toArray, List.set_cons_zero, List.set_cons_succ, i64_w, i32_w]
              rfl
             refine done_ (done_of HT_.out (by kernel_rfl)) ?_
             try go_wp2
             go_ret
             exact ⟨by first | rfl | (simp [errW_none, errW_some] <;> rfl) | (simp [*, errW_none, errW_some] <;> rfl), by repeat (first | (with_reducible first | exact HB.out | apply bA | apply bN | apply bD | refine bS ?_ GE195.out | refine bS ?_ GE214.out | refine bS ?_ GE215.out | refine bS ?_ GE223.out | refine bS ?_ GE224.out) | exact HB.out)⟩
            ·
             rw [if_neg c38] at H
             have c38b0 : (t213 == t222) = false := by simpa using c38
             (try (have c38b1 : decide (t213 = t222) = false := by simpa using c38))
             (try (have c38b2 : (t213 == t222) = false := by simpa using c38))
             (try (have c38b3 : ¬ (t213 = t222) := by simpa using c38))
             clear c38
             exact absurd H (by simp)
           ·
            rw [if_neg c37] at H
            have c37b0 : (t210 == t219 && (t211 == t220 && (t212 == t221))) = false := by simpa using c37
            (try (have c37b1 : decide (t210 = t219 && (t211 == t220 && (t212 == t221))) = false := by simpa using c37))
            (try (have c37b2 : (t210 == t219 && (t211 == t220 && (t212 == t221))) = false := by simpa using c37))
            (try (have c37b3 : ¬ (t210 = t219 && (t211 == t220 && (t212 == t221))) := by simpa using c37))
            clear c37
            exact absurd H (by simp)
          ·
           rw [if_neg c36] at H
           have c36b0 : (t207 == t216 && (t208 == t217 && (t209 == t218))) = false := by simpa using c36
           (try (have c36b1 : decide (t207 = t216 && (t208 == t217 && (t209 == t218))) = false := by simpa using c36))
           (try (have c36b2 : (t207 == t216 && (t208 == t217 && (t209 == t218))) = false := by simpa using c36))
           (try (have c36b3 : ¬ (t207 = t216 && (t208 == t217 && (t209 == t218))) := by simpa using c36))
           clear c36
           exact absurd H (by simp)
         ·
          rw [if_neg c35] at H
          have c35b0 : (t226 == t227) = false := by simpa using c35
          (try (have c35b1 : decide (t226 = t227) = false := by simpa using c35))
          (try (have c35b2 : (t226 == t227) = false := by simpa using c35))
          (try (have c35b3 : ¬ (t226 = t227) := by simpa using c35))
          clear c35
          exact absurd H (by simp)
        ·
         replace c32 := Bool.eq_false_iff.mpr c32
         subst c32
         have H1 : (none) = some r := by rw [if_neg (show ¬ (false = true) by decide)] at H; exact H
         clear H
         have H := H1
         clear H1
         exact absurd H (by simp)
end Go.Proofs.Ytbmklpcheopgoaa.H

namespace Go.Proofs.YtbmklpcheopgoaaOpen
open Go Go.RowKit Go.ChangeShapes Go.WideShapes Go.Proofs.YtbmklpcheopgoaaW.PrintWords

/-- Whatever reads as data of type t is of kind d, and good. -/
def Opens (P : Program) (t : TypeId) {α : Type} (d : Kd α) (good : α → Prop) : Prop :=
  ∀ {H : Type} (enc : TypeId × Value → H) (w : World) (base : Nat) (spare : Nat → Bool) (held : Bool) (fuel : Nat) (cs : List Value) (x : DataW H × List MemPlace),
    DataW.trod enc P w base spare held fuel t cs = some x → ∃ y, d.K w y cs ∧ good y

/-- A number of its kind. -/
def InK (k : IntKind) (n : Int) : Prop := (Lit.int k n).wf = true
theorem InK.i64 {n : Int} (h : InK .i64 n) : -9223372036854775808 ≤ n ∧ n ≤ 9223372036854775807 := by
  exact bounds_i64 h
theorem InK.u8 {n : Int} (h : InK .u8 n) : 0 ≤ n ∧ n ≤ 255 := by
  exact bounds_u8 h
theorem opens_int {P : Program} {t : TypeId} {k : IntKind} (ht : P.underlying t = some (.int k)) : Opens P t (Kd.int k) (InK k) := by
  intro H enc w base spare held fuel cs x h
  obtain ⟨n, rfl, _, hw⟩ := DataW.trod_int ht h
  exact ⟨n, rfl, hw⟩
theorem opens_bool {P : Program} {t : TypeId} (ht : P.underlying t = some .bool) : Opens P t Kd.bool (fun _ => True) := by
  intro H enc w base spare held fuel cs x h
  obtain ⟨n, rfl, _⟩ := DataW.trod_bool ht h
  exact ⟨n, rfl, trivial⟩
theorem opens_string {P : Program} {t : TypeId} (ht : P.underlying t = some .string) : Opens P t Kd.string (fun s => s.size ≤ maxLen) := by
  intro H enc w base spare held fuel cs x h
  obtain ⟨n, rfl, _, hw⟩ := DataW.trod_string ht h
  exact ⟨n, rfl, hw⟩

theorem cells_get {w : World} {base : Nat} {a : Addr} {n : Nat} {cs : List Value} (h : w.cells? base a n = some cs) : cs.length = n ∧ ∀ i u, cs[i]? = some u → w.cell? (a.add i) = some u := by
  obtain ⟨_, hl, hc⟩ := World.cells?_some h
  refine ⟨hl, fun i u hu => ?_⟩
  have hi : i < n := by rw [← hl]; exact (List.getElem?_eq_some_iff.1 hu).1
  rw [hc i hi, hu]

theorem opens_slice {P : Program} {t e : TypeId} {α : Type} {d : Kd α} {good : α → Prop} (ht : P.underlying t = some (.slice e)) (hs : P.cellsOf e = d.sz) (he : Opens P e d good) : Opens P t (Kd.slice e d) (fun xs => xs.length ≤ 9223372036854775807 ∧ ∀ x ∈ xs, good x) := by
  intro H enc w base spare held fuel cs x h
  rcases Deep.open_slice ht h with ⟨rfl, _⟩ | ⟨a, len, cap, m, n, D, Pl, rfl, _, hl, hm, hmm, _, hel⟩
  · exact ⟨[], ⟨none, 0, rfl, Nat.le_refl _, Kd.C_nil _ _⟩, by simp, fun x hx => by simp at hx⟩
  · have key : ∀ i, i < len → ∃ y cs', d.K w y cs' ∧ good y ∧ cs'.length = d.sz ∧ ∀ j u, cs'[j]? = some u → w.cell? (a.add (i * d.sz + j)) = some u := by
      intro i hi
      obtain ⟨cs', hc, ht'⟩ := hel i (by rw [hmm]; split <;> omega)
      obtain ⟨y, hk, hg⟩ := he enc w base spare held n cs' _ ht'
      obtain ⟨hlen, hcell⟩ := cells_get hc
      rw [hs] at hlen
      refine ⟨y, cs', hk, hg, hlen, fun j u hu => ?_⟩
      have := hcell j u hu
      rwa [Deep.add_add, hs] at this
    have : ∀ k, k ≤ len → ∃ ys : List α, ys.length = k ∧ (∀ x ∈ ys, good x) ∧ ∀ i y, ys[i]? = some y → ∃ cs', cs'.length = d.sz ∧ d.K w y cs' ∧ ∀ j u, cs'[j]? = some u → w.cell? (a.add (i * d.sz + j)) = some u := by
      intro k
      induction k with
      | zero => exact fun _ => ⟨[], rfl, fun x hx => by simp at hx, fun i y h => by simp at h⟩
      | succ k ih =>
        intro hk
        obtain ⟨ys, h1, h2, h3⟩ := ih (by omega)
        obtain ⟨y, cs', q1, q2, q3, q4⟩ := key k (by omega)
        refine ⟨ys ++ [y], by simp [h1], fun x hx => ?_, fun i z hz => ?_⟩
        · rcases List.mem_append.1 hx with hx | hx
          · exact h2 x hx
          · rw [List.mem_singleton.1 hx]; exact q2
        · rcases Nat.lt_or_ge i ys.length with hi | hi
          · rw [List.getElem?_append_left hi] at hz
            exact h3 i z hz
          · have hi' : i = ys.length := by
              have := (List.getElem?_eq_some_iff.1 hz).1
              simp at this
              omega
            subst hi'
            have : y = z := by simpa using hz
            subst this
            rw [h1]
            exact ⟨cs', q3, q1, q4⟩
    obtain ⟨ys, h1, h2, h3⟩ := this len (Nat.le_refl _)
    subst h1
    have hle : ys.length ≤ 9223372036854775807 := by
      unfold maxLen at hm
      omega
    exact ⟨ys, ⟨some a, cap, rfl, hl, rfl, hle, fun _ => ⟨a, rfl, h3⟩⟩, hle, h2⟩

/-- The cells from o on are s of them, and those from o + s on. -/
theorem cutQ (cs : List Value) (o s : Nat) : cs.drop o = (cs.drop o).take s ++ cs.drop (o + s) := by
  rw [← List.drop_drop, List.take_append_drop]
theorem cutQ_last (cs : List Value) (o s : Nat) (h : cs.length = o + s) : cs.drop o = (cs.drop o).take s := by
  rw [List.take_of_length_le]; simp; omega

theorem wide_agg {P : Program} {w : World} {r : Reach} {base : Nat} {t : TypeId} {v : Value} (h : Value.okWide P w r base t v) (hu : (match P.underlying t with | some (.struct _) | some (.array _ _) => true | _ => false) = true) : ∃ cs, v = .agg cs := by
  unfold Value.okWide at h
  split at h
  · obtain ⟨cs, e, _⟩ := h; exact ⟨cs, e⟩
  · obtain ⟨cs, e, _⟩ := h; exact ⟨cs, e⟩
  · rename_i h1 h2
    split at hu
    · rename_i h3; exact absurd h3 (h1 _)
    · rename_i h3; exact absurd h3 (h2 _ _)
    · cases hu
theorem agg_list {cs : Array Value} {l : List Value} (h : (Value.agg cs).cells.toList = l) : cs = l.toArray := by
  have h' : cs.toList = l := h
  rw [← h', Array.toArray_toList]
end Go.Proofs.YtbmklpcheopgoaaOpen

namespace Go.Proofs.Ytbmklpcheopgoaa.Out
open Go Go.RowKit Go.Proofs.Ytbmklpcheopgoaa.H Go.Proofs.YtbmklpcheopgoaaOpen Go.Proofs.YtbmklpcheopgoaaW.PrintWords Go.Proofs.YtbmklpcheopgoaaW.PrintLast Go.Proofs.YtbmklpcheopgoaaW.PrintMore

theorem W_W (x : Int) : wrap64 (wrap64 x) = wrap64 x := by unfold wrap64; omega
theorem W_addl (x y : Int) : wrap64 (wrap64 x + y) = wrap64 (x + y) := by unfold wrap64; omega
theorem W_addr (x y : Int) : wrap64 (x + wrap64 y) = wrap64 (x + y) := by unfold wrap64; omega
theorem W_subl (x y : Int) : wrap64 (wrap64 x - y) = wrap64 (x - y) := by unfold wrap64; omega
theorem W_subr (x y : Int) : wrap64 (x - wrap64 y) = wrap64 (x - y) := by unfold wrap64; omega
theorem W_neg (x : Int) : wrap64 (-(wrap64 x)) = wrap64 (-x) := by unfold wrap64; omega
theorem W_in (x : Int) (h0 : -9223372036854775808 ≤ x) (h1 : x ≤ 9223372036854775807) : wrap64 x = x := by unfold wrap64; omega
theorem W_k (x : Int) : ∃ k, wrap64 x = x + 18446744073709551616 * k := ⟨-((x + 9223372036854775808) / 18446744073709551616), by unfold wrap64; omega⟩
theorem W_M (x k : Int) : wrap64 (x + 18446744073709551616 * k) = wrap64 x := by unfold wrap64; omega
theorem W_mul (x y : Int) : wrap64 (wrap64 x * wrap64 y) = wrap64 (x * y) := by
  obtain ⟨k, hk⟩ := W_k x
  obtain ⟨l, hl⟩ := W_k y
  rw [hk, hl, show (x + 18446744073709551616 * k) * (y + 18446744073709551616 * l) = x * y + 18446744073709551616 * (k * y + x * l + 18446744073709551616 * k * l) by grind, W_M]
theorem W_eq_add {a b c d : Int} (h : wrap64 a = wrap64 b) (h' : wrap64 c = wrap64 d) : wrap64 (a + c) = wrap64 (b + d) := by rw [← W_addl, ← W_addr, h, h', W_addl, W_addr]
theorem W_eq_sub {a b c d : Int} (h : wrap64 a = wrap64 b) (h' : wrap64 c = wrap64 d) : wrap64 (a - c) = wrap64 (b - d) := by rw [← W_subl, ← W_subr, h, h', W_subl, W_subr]
theorem W_eq_mul {a b c d : Int} (h : wrap64 a = wrap64 b) (h' : wrap64 c = wrap64 d) : wrap64 (a * c) = wrap64 (b * d) := by rw [← W_mul, h, h', W_mul]

theorem rdS_mid (l1 l2 : List S33) (p : S33) : rd_T33 (l1 ++ p :: l2) (l1.length : Int) = p := by simp [rd_T33]
theorem set_mid {α : Type} (l1 l2 : List α) (p q : α) : (l1 ++ p :: l2).set l1.length q = l1 ++ q :: l2 := by simp
theorem rdS_get (l : List S33) (i : Nat) (h : i < l.length) : rd_T33 l (i : Int) = l[i] := by simp [rd_T33, h]
theorem rd_get (l : List Int) (i : Nat) (h : i < l.length) : rd l (i : Int) = l[i] := by simp [rd, h]

/-! Right -/
def ptOk (p : S33) : Bool := !(decide (mx p.f0 p.f1 > 16384)) && !(decide (mn p.f0 p.f1 < -16384))
def endsOk : Int → List Int → Int → Bool
  | last, [], n => last == n - 1
  | last, e :: es, n => if e < last + 2 then false else if e ≥ n then false else endsOk e es n
def rightB (pts : List S33) (es : List Int) : Bool := decide (pts.length ≤ 200) && decide (es.length ≤ 40) && (pts.all ptOk && endsOk (-1) es pts.length)
theorem right_l1 (pts : List S33) (es : List Int) (hn : pts.length ≤ 1000000) (he : es.length ≤ 1000000) : ∀ (m k i : Nat) (last : Int), es.length = i + m → m < k → -1 ≤ last → last ≤ 1000000 →
    outline_Right.l1 k last es (es.length : Int) (i : Int) pts es = some (endsOk last (es.drop i) pts.length) := by
  intro m
  induction m with
  | zero =>
    intro k i last h1 h2 h3 h4
    obtain ⟨k, rfl⟩ : ∃ j, k = j + 1 := ⟨k - 1, by omega⟩
    rw [outline_Right.l1, if_neg (by omega), List.drop_of_length_le (by omega)]
    rw [W_in ((pts.length : Int) - 1) (by omega) (by omega)]
    rfl
  | succ m ih =>
    intro k i last h1 h2 h3 h4
    obtain ⟨k, rfl⟩ : ∃ j, k = j + 1 := ⟨k - 1, by omega⟩
    have hi : i < es.length := by omega
    rw [outline_Right.l1, if_pos (by omega), if_pos (by omega), if_pos (by omega), rd_get es i hi, List.drop_eq_getElem_cons hi, endsOk, W_in (last + 2) (by omega) (by omega), W_in ((i : Int) + 1) (by omega) (by omega)]
    by_cases c1 : es[i] < last + 2
    · rw [if_pos c1, if_pos c1]
    · rw [if_neg c1, if_neg c1]
      by_cases c2 : es[i] ≥ (pts.length : Int)
      · rw [if_pos c2, if_pos c2]
      · rw [if_neg c2, if_neg c2]
        exact ih k (i + 1) es[i] (by omega) (by omega) (by omega) (by omega)
theorem right_l0 (pts : List S33) (es : List Int) (hn : pts.length ≤ 1000000) (he : es.length ≤ 1000000) : ∀ (m k i : Nat), pts.length = i + m → m + es.length + 1 < k →
    outline_Right.l0 k pts (pts.length : Int) (i : Int) pts es = some ((pts.drop i).all ptOk && endsOk (-1) es pts.length) := by
  intro m
  induction m with
  | zero =>
    intro k i h1 h2
    obtain ⟨k, rfl⟩ : ∃ j, k = j + 1 := ⟨k - 1, by omega⟩
    rw [outline_Right.l0, if_neg (by omega), List.drop_of_length_le (by omega)]
    have := right_l1 pts es hn he es.length k 0 (-1) (by omega) (by omega) (by omega) (by omega)
    simpa using this
  | succ m ih =>
    intro k i h1 h2
    obtain ⟨k, rfl⟩ : ∃ j, k = j + 1 := ⟨k - 1, by omega⟩
    have hi : i < pts.length := by omega
    rw [outline_Right.l0, if_pos (by omega), if_pos (by omega), if_pos (by omega), rdS_get pts i hi, List.drop_eq_getElem_cons hi, List.all_cons, W_in ((i : Int) + 1) (by omega) (by omega)]
    by_cases c1 : mx pts[i].f0 pts[i].f1 > 16384
    · rw [if_pos c1]; simp [ptOk, c1]
    · rw [if_neg c1]
      by_cases c2 : mn pts[i].f0 pts[i].f1 < -16384
      · rw [if_pos c2]; simp [ptOk, c2]
      · rw [if_neg c2]
        have e : ptOk pts[i] = true := by simp only [ptOk, decide_eq_false c1, decide_eq_false c2]; rfl
        rw [e, Bool.true_and]
        exact ih k (i + 1) (by omega) (by omega)
theorem right_f (pts : List S33) (es : List Int) (k : Nat) (hn : pts.length ≤ 1000000) (he : es.length ≤ 1000000) (hk : pts.length + es.length + 3 ≤ k) : outline_Right.f k pts es = some (rightB pts es) := by
  obtain ⟨k, rfl⟩ : ∃ j, k = j + 1 := ⟨k - 1, by omega⟩
  unfold outline_Right.f rightB
  by_cases h1 : (pts.length : Int) > 200
  · rw [if_pos h1, outline_Right.j0, if_pos rfl, decide_eq_false (show ¬ pts.length ≤ 200 by omega)]; rfl
  · rw [if_neg h1, outline_Right.j0, decide_eq_true (show pts.length ≤ 200 by omega)]
    by_cases h2 : (es.length : Int) > 40
    · rw [if_pos (decide_eq_true h2), decide_eq_false (show ¬ es.length ≤ 40 by omega)]; rfl
    · rw [if_neg (by simpa using h2), decide_eq_true (show es.length ≤ 40 by omega)]
      have := right_l0 pts es hn he pts.length k 0 (by omega) (by omega)
      simpa using this

/-! Moved -/
def mvW (x y : Int) (p : S33) : S33 := ⟨wrap64 (p.f0 + x), wrap64 (p.f1 + y), p.f2⟩
theorem moved_l0 (x y : Int) (es : List Int) : ∀ (l2 l1 : List S33) (k : Nat) (n : Int), n = (l1 ++ l2).length → l2.length < k → l1.length + l2.length ≤ 1000000 → outline_Moved.l0 k x y n (l1.length : Int) (l1 ++ l2) es = some (l1 ++ l2.map (mvW x y), es) := by
  intro l2
  induction l2 with
  | nil =>
    intro l1 k n hn h1 h2
    obtain ⟨k, rfl⟩ : ∃ j, k = j + 1 := ⟨k - 1, by omega⟩
    rw [outline_Moved.l0, if_neg (by subst hn; simp)]
    simp
  | cons p l2 ih =>
    intro l1 k n hn h1 h2
    simp only [List.length_cons] at h1 h2
    obtain ⟨k, rfl⟩ : ∃ j, k = j + 1 := ⟨k - 1, by omega⟩
    rw [outline_Moved.l0, if_pos (by subst hn; simp; omega), if_pos (by omega), if_pos (by simp; omega), Option.bind_some]
    simp only [Int.toNat_natCast, rdS_mid, set_mid, W_in ((l1.length : Int) + 1) (by omega) (by omega)]
    have := ih (l1 ++ [mvW x y p]) k n (by subst hn; simp) (by omega) (by simp; omega)
    simpa [mvW] using this
theorem clone_f (pts : List S33) (es : List Int) (hn : pts.length ≤ 1000000) (he : es.length ≤ 1000000) : outline_clone.f pts es = some (pts, es) := by
  unfold outline_clone.f
  rw [if_pos (by simp; omega), if_pos (by simp; omega)]
  simp
theorem moved_f (pts : List S33) (es : List Int) (x y : Int) (k : Nat) (hn : pts.length ≤ 1000000) (he : es.length ≤ 1000000) (hk : pts.length < k) : outline_Moved.f k pts es x y = some (pts.map (mvW x y), es) := by
  unfold outline_Moved.f
  rw [clone_f pts es hn he, Option.bind_some]
  exact moved_l0 x y es pts [] k _ (by simp) hk (by simpa using hn)
theorem mvW_back (x y : Int) (p : S33) (h0 : wrap64 p.f0 = p.f0) (h1 : wrap64 p.f1 = p.f1) : mvW (wrap64 (-x)) (wrap64 (-y)) (mvW x y p) = p := by
  obtain ⟨a, b, c⟩ := p
  have e0 : wrap64 (wrap64 (a + x) + wrap64 (-x)) = a := by rw [W_addl, W_addr, show a + x + -x = a by omega]; exact h0
  have e1 : wrap64 (wrap64 (b + y) + wrap64 (-y)) = b := by rw [W_addl, W_addr, show b + y + -y = b by omega]; exact h1
  simp only [mvW, e0, e1]

end Go.Proofs.Ytbmklpcheopgoaa.Out

namespace Go.Proofs.Ytbmklpcheopgoaa.Out
open Go Go.RowKit Go.Proofs.Ytbmklpcheopgoaa.H Go.Proofs.YtbmklpcheopgoaaOpen Go.Proofs.YtbmklpcheopgoaaW.PrintWords Go.Proofs.YtbmklpcheopgoaaW.PrintLast Go.Proofs.YtbmklpcheopgoaaW.PrintMore

theorem samePoints_l0 (a : List S33) (hn : a.length ≤ 1000000) : ∀ (m k i : Nat), a.length = i + m → m < k → fleuronref03_SamePoints.l0 k a a (i : Int) = some true := by
  intro m
  induction m with
  | zero =>
    intro k i h1 h2
    obtain ⟨k, rfl⟩ : ∃ j, k = j + 1 := ⟨k - 1, by omega⟩
    rw [fleuronref03_SamePoints.l0, if_neg (by omega)]
  | succ m ih =>
    intro k i h1 h2
    obtain ⟨k, rfl⟩ : ∃ j, k = j + 1 := ⟨k - 1, by omega⟩
    rw [fleuronref03_SamePoints.l0, if_pos (by omega), if_pos (by omega), if_pos (by omega), W_in ((i : Int) + 1) (by omega) (by omega)]
    simp only [BEq.rfl, Bool.not_true, Bool.or_self, Bool.false_eq_true, if_false]
    exact ih k (i + 1) (by omega) (by omega)
theorem big_f (pts : List S33) (es : List Int) (h : ¬ fleuronref03_Big.f pts es = some true) : fleuronref03_Big.f pts es = some false ∧ pts.length ≤ 1500 ∧ es.length ≤ 300 := by
  unfold fleuronref03_Big.f at h ⊢
  by_cases h1 : (pts.length : Int) > 1500
  · rw [if_pos h1] at h; exact absurd rfl h
  · rw [if_neg h1] at h ⊢
    by_cases h2 : (es.length : Int) > 300
    · rw [decide_eq_true h2] at h; exact absurd rfl h
    · rw [decide_eq_false h2]; exact ⟨rfl, by omega, by omega⟩
end Go.Proofs.Ytbmklpcheopgoaa.Out

namespace Go.Proofs.Ytbmklpcheopgoaa.Out
open Go Go.RowKit Go.Proofs.Ytbmklpcheopgoaa.H Go.Proofs.YtbmklpcheopgoaaIt Go.Proofs.YtbmklpcheopgoaaW.PrintWords

theorem contour_len (pts : List S33) (c : Int × Int) (h : c.2.toNat ≤ pts.length) : (contourOf pts c).length = c.2.toNat - c.1.toNat := by
  unfold contourOf
  rw [List.length_take, List.length_drop]; omega
theorem cut_mem (es : List Int) (n : Nat) (c : Int × Int) (h : c ∈ cutsL es n) : 0 ≤ c.1 ∧ c.1 < c.2 ∧ c.2 ≤ n := by
  obtain ⟨k, hk⟩ := List.mem_iff_getElem?.1 h
  exact cutsF_mem es n 0 k c hk
theorem cutsF_len : ∀ (es : List Int) (n b : Int), (cutsF b es n).length ≤ es.length
  | [], _, _ => by simp [cutsF]
  | e :: es, n, b => by
    unfold cutsF
    split
    · simp
    · have := cutsF_len es n (e + 1)
      simp only [List.length_cons]
      omega
end Go.Proofs.Ytbmklpcheopgoaa.Out

namespace Go.Proofs.Ytbmklpcheopgoaa.Out
open Go Go.RowKit Go.Proofs.Ytbmklpcheopgoaa.H Go.Proofs.YtbmklpcheopgoaaIt Go.Proofs.YtbmklpcheopgoaaOpen Go.Proofs.YtbmklpcheopgoaaW.PrintWords Go.Proofs.YtbmklpcheopgoaaW.PrintLast Go.Proofs.YtbmklpcheopgoaaW.PrintMore

/-! where a point goes -/
def sig : List Int → Nat → Nat → Nat → Nat
  | [], _, _, i => i
  | e :: es, b, n, i => if e < b ∨ (n : Int) ≤ e then i else if i ≤ e.toNat then (if i ≤ b then i else b + (e.toNat + 1) - i) else sig es (e.toNat + 1) n i
theorem sig_low : ∀ (es : List Int) (b n i : Nat), i ≤ b → sig es b n i = i
  | [], _, _, _, _ => rfl
  | e :: es, b, n, i, h => by
    unfold sig
    split
    · rfl
    · split
      · rfl
      · omega
theorem sig_ge : ∀ (es : List Int) (b n i : Nat), b ≤ i → b ≤ sig es b n i
  | [], _, _, _, h => h
  | e :: es, b, n, i, h => by
    unfold sig
    split
    · exact h
    · split
      · split <;> omega
      · have := sig_ge es (e.toNat + 1) n i (by omega); omega
theorem sig_lt : ∀ (es : List Int) (b n i : Nat), i < n → sig es b n i < n
  | [], _, _, _, h => h
  | e :: es, b, n, i, h => by
    unfold sig
    split
    · exact h
    · split
      · split <;> omega
      · exact sig_lt es (e.toNat + 1) n i h
theorem sig_sig : ∀ (es : List Int) (b n i : Nat), sig es b n (sig es b n i) = i
  | [], _, _, _ => rfl
  | e :: es, b, n, i => by
    by_cases h : e < b ∨ (n : Int) ≤ e
    · simp [sig, h]
    · by_cases h1 : i ≤ e.toNat
      · by_cases h2 : i ≤ b
        · simp [sig, h, h1, h2]
        · have e1 : sig (e :: es) b n i = b + (e.toNat + 1) - i := by simp [sig, h, h1, h2]
          have e2 : b + (e.toNat + 1) - i ≤ e.toNat := by omega
          have e3 : ¬ b + (e.toNat + 1) - i ≤ b := by omega
          rw [e1]
          simp [sig, h, e2, e3]
          omega
      · have e1 : sig (e :: es) b n i = sig es (e.toNat + 1) n i := by simp [sig, h, h1]
        have e2 : ¬ sig es (e.toNat + 1) n i ≤ e.toNat := by have := sig_ge es (e.toNat + 1) n i (by omega); omega
        rw [e1]
        have e3 : sig (e :: es) b n (sig es (e.toNat + 1) n i) = sig es (e.toNat + 1) n (sig es (e.toNat + 1) n i) := by
          rw [show sig (e :: es) b n (sig es (e.toNat + 1) n i) = if e < b ∨ (n : Int) ≤ e then sig es (e.toNat + 1) n i else if sig es (e.toNat + 1) n i ≤ e.toNat then (if sig es (e.toNat + 1) n i ≤ b then sig es (e.toNat + 1) n i else b + (e.toNat + 1) - sig es (e.toNat + 1) n i) else sig es (e.toNat + 1) n (sig es (e.toNat + 1) n i) from rfl, if_neg h, if_neg e2]
        rw [e3, sig_sig es (e.toNat + 1) n i]
theorem sig_cut : ∀ (es : List Int) (b n : Nat) (c : Int × Int), c ∈ cutsF b es n → ∀ i : Nat, c.1.toNat ≤ i → i < c.2.toNat → sig es b n i = if i = c.1.toNat then i else c.1.toNat + c.2.toNat - i
  | [], _, _, _, h, _, _, _ => by simp [cutsF] at h
  | e :: es, b, n, c, h, i, h0, h1 => by
    unfold cutsF at h
    by_cases hh : e < b ∨ (n : Int) ≤ e
    · rw [if_pos hh] at h; cases h
    · rw [if_neg hh] at h
      rcases List.mem_cons.1 h with rfl | h
      · simp only at h0 h1 ⊢
        simp only [sig, if_neg hh]
        rw [if_pos (by omega)]
        by_cases h2 : i ≤ b
        · rw [if_pos h2, if_pos (by omega)]
        · rw [if_neg h2, if_neg (by omega)]; omega
      · obtain ⟨k, hk⟩ := List.mem_iff_getElem?.1 h
        obtain ⟨m1, m2, m3⟩ := cutsF_mem es n (e + 1) k c hk
        have ee : e + 1 = ((e.toNat + 1 : Nat) : Int) := by omega
        rw [ee] at h
        have := sig_cut es (e.toNat + 1) n c h i h0 h1
        simp only [sig, if_neg hh]
        rw [if_neg (by omega)]
        exact this

theorem swapAt_get (l : List S33) (a b : Nat) (ha : a < l.length) (hb : b < l.length) (i : Nat) : (swapAt l a b)[i]? = if i = b then l[a]? else if i = a then l[b]? else l[i]? := by
  unfold swapAt
  rw [rdS_get l a ha, rdS_get l b hb, List.getElem?_set, List.getElem?_set, List.length_set]
  by_cases h1 : b = i
  · subst h1; rw [if_pos rfl, if_pos hb, if_pos rfl, List.getElem?_eq_getElem ha]
  · rw [if_neg h1, if_neg (show ¬ i = b from fun e => h1 e.symm)]
    by_cases h2 : a = i
    · subst h2; rw [if_pos rfl, if_pos ha, if_pos rfl, List.getElem?_eq_getElem hb]
    · rw [if_neg h2, if_neg (show ¬ i = a from fun e => h2 e.symm)]
theorem revK_get (l : List S33) (s t : Nat) (hst : s < t) (ht : t ≤ l.length) : ∀ (m : Nat), m ≤ (t - s - 1) / 2 → ∀ i, (revK l s t m)[i]? = l[if (s < i ∧ i ≤ s + m) ∨ (t - m ≤ i ∧ i < t) then s + t - i else i]? := by
  intro m
  induction m with
  | zero => intro _ i; rw [if_neg (by omega)]; rfl
  | succ m ih =>
    intro hm i
    have hl := revK_len l s t m
    rw [revK_succ, swapAt_get _ _ _ (by omega) (by omega), ih (by omega), ih (by omega), ih (by omega)]
    by_cases h1 : i = s + (t - s - 1 - m)
    · rw [if_pos h1, if_neg (by omega), if_pos (by omega)]; congr 1; omega
    · rw [if_neg h1]
      by_cases h2 : i = s + (1 + m)
      · rw [if_pos h2, if_neg (by omega), if_pos (by omega)]; congr 1; omega
      · rw [if_neg h2]
        by_cases h3 : (s < i ∧ i ≤ s + m) ∨ (t - m ≤ i ∧ i < t)
        · rw [if_pos h3, if_pos (by omega)]
        · rw [if_neg h3, if_neg (by omega)]
theorem revC_get (l : List S33) (c : Int × Int) (hst : c.1.toNat < c.2.toNat) (ht : c.2.toNat ≤ l.length) (i : Nat) : (revC l c)[i]? = l[if c.1.toNat < i ∧ i < c.2.toNat then c.1.toNat + c.2.toNat - i else i]? := by
  unfold revC
  rw [revK_get l _ _ hst ht _ (Nat.le_refl _)]
  by_cases h : c.1.toNat < i ∧ i < c.2.toNat
  · rw [if_pos h]
    by_cases h1 : (c.1.toNat < i ∧ i ≤ c.1.toNat + (c.2.toNat - c.1.toNat - 1) / 2) ∨ (c.2.toNat - (c.2.toNat - c.1.toNat - 1) / 2 ≤ i ∧ i < c.2.toNat)
    · rw [if_pos h1]
    · rw [if_neg h1]; congr 1; omega
  · rw [if_neg h, if_neg (by omega)]
theorem revC_len (l : List S33) (c : Int × Int) : (revC l c).length = l.length := revK_len _ _ _ _
theorem foldC_get : ∀ (es : List Int) (b n : Nat) (l : List S33), l.length = n → ∀ i, ((cutsF b es n).foldl revC l)[i]? = l[sig es b n i]?
  | [], _, _, _, _, _ => rfl
  | e :: es, b, n, l, hl, i => by
    unfold cutsF sig
    by_cases h : e < b ∨ (n : Int) ≤ e
    · rw [if_pos h, if_pos h]; rfl
    · rw [if_neg h, if_neg h, List.foldl_cons]
      have ee : e + 1 = ((e.toNat + 1 : Nat) : Int) := by omega
      have h1 := foldC_get es (e.toNat + 1) n (revC l (b, e + 1)) (by rw [revC_len]; exact hl) i
      rw [← ee] at h1
      rw [h1, revC_get l (b, e + 1) (by simp; omega) (by simp; omega)]
      simp only [Int.toNat_natCast, show (e + 1).toNat = e.toNat + 1 by omega]
      by_cases h2 : i ≤ e.toNat
      · rw [sig_low es _ n i (by omega), if_pos h2]
        by_cases h3 : i ≤ b
        · rw [if_neg (by omega), if_pos h3]
        · rw [if_pos (by omega), if_neg h3]
      · have := sig_ge es (e.toNat + 1) n i (by omega)
        rw [if_neg (by omega), if_neg h2]
/-- The outline turned, in one word. -/
def revA (pts : List S33) (es : List Int) : List S33 := revL pts es (cutsL es pts.length).length
theorem revA_get (pts : List S33) (es : List Int) (i : Nat) : (revA pts es)[i]? = pts[sig es 0 pts.length i]? := by
  unfold revA revL cutsL
  rw [List.take_length]
  exact foldC_get es 0 pts.length pts rfl i
theorem revA_len (pts : List S33) (es : List Int) : (revA pts es).length = pts.length := revL_len _ _ _
theorem revA_revA (pts : List S33) (es : List Int) : revA (revA pts es) es = pts := by
  refine List.ext_getElem? fun i => ?_
  rw [revA_get, revA_get, revA_len, sig_sig]
theorem reversed_f (pts : List S33) (es : List Int) (hn : pts.length ≤ 1000000) (he : es.length ≤ 1000000) : outline_Reversed.f pts es = some (revA pts es, es) := by
  unfold outline_Reversed.f
  rw [if_pos ⟨hn, he⟩]
  rfl
theorem revA_all (pts : List S33) (es : List Int) (p : S33 → Bool) : (revA pts es).all p = pts.all p := by
  have h : ∀ l : List S33, l.all p = true → (revA l es).all p = true := by
    intro l hl
    rw [List.all_eq_true] at hl ⊢
    intro x hx
    obtain ⟨i, hi⟩ := List.mem_iff_getElem?.1 hx
    rw [revA_get] at hi
    exact hl x (List.mem_of_getElem? hi)
  cases h1 : pts.all p with
  | true => exact h _ h1
  | false =>
    cases h2 : (revA pts es).all p with
    | false => rfl
    | true =>
      have := h _ h2
      rw [revA_revA, h1] at this
      cases this
theorem right_rev (pts : List S33) (es : List Int) : rightB (revA pts es) es = rightB pts es := by
  unfold rightB
  rw [revA_len, revA_all]

end Go.Proofs.Ytbmklpcheopgoaa.Out

namespace Go.Proofs.Ytbmklpcheopgoaa.Out
open Go Go.RowKit Go.Proofs.Ytbmklpcheopgoaa.H Go.Proofs.YtbmklpcheopgoaaIt Go.Proofs.YtbmklpcheopgoaaOpen Go.Proofs.YtbmklpcheopgoaaW.PrintWords Go.Proofs.YtbmklpcheopgoaaW.PrintLast Go.Proofs.YtbmklpcheopgoaaW.PrintMore

/-! a contour turned -/
def segRev (c : List S33) : List S33 := match c with | [] => [] | a :: r => a :: r.reverse
theorem segRev_len (c : List S33) : (segRev c).length = c.length := by cases c <;> simp [segRev]
theorem segRev_get (c : List S33) (i : Nat) (hi : i < c.length) : (segRev c)[i]? = c[if i = 0 then 0 else c.length - i]? := by
  cases c with
  | nil => simp at hi
  | cons a r =>
    cases i with
    | zero => simp [segRev]
    | succ i =>
      simp only [List.length_cons] at hi
      rw [if_neg (by omega), segRev, List.getElem?_cons_succ, List.getElem?_reverse (by omega), List.length_cons, show r.length + 1 - (i + 1) = (r.length - 1 - i) + 1 by omega, List.getElem?_cons_succ]
theorem contour_get (pts : List S33) (c : Int × Int) (i : Nat) : (contourOf pts c)[i]? = if i < c.2.toNat - c.1.toNat then pts[c.1.toNat + i]? else none := by
  unfold contourOf
  by_cases h : i < c.2.toNat - c.1.toNat
  · rw [if_pos h, List.getElem?_take_of_lt h, List.getElem?_drop]
  · rw [if_neg h, List.getElem?_eq_none (by simp; omega)]
theorem contour_rev (pts : List S33) (es : List Int) (c : Int × Int) (h : c ∈ cutsL es pts.length) : contourOf (revA pts es) c = segRev (contourOf pts c) := by
  obtain ⟨m1, m2, m3⟩ := cut_mem es _ c h
  have hl := contour_len pts c (by omega)
  refine List.ext_getElem? fun i => ?_
  rw [contour_get]
  by_cases hi : i < c.2.toNat - c.1.toNat
  · rw [if_pos hi, segRev_get _ _ (by omega), revA_get, contour_get, hl, sig_cut es 0 pts.length c h (c.1.toNat + i) (by omega) (by omega)]
    by_cases h0 : i = 0
    · subst h0; rw [if_pos (by omega), if_pos rfl, if_pos (by omega)]
    · rw [if_neg (by omega), if_neg h0, if_pos (by omega)]; congr 1; omega
  · rw [if_neg hi, List.getElem?_eq_none (by rw [segRev_len]; omega)]
theorem contour_map (f : S33 → S33) (pts : List S33) (c : Int × Int) : contourOf (pts.map f) c = (contourOf pts c).map f := by
  unfold contourOf
  rw [← List.map_drop, ← List.map_take]

end Go.Proofs.Ytbmklpcheopgoaa.Out

namespace Go.Proofs.Ytbmklpcheopgoaa.Out
open Go Go.RowKit Go.Proofs.Ytbmklpcheopgoaa.H Go.Proofs.YtbmklpcheopgoaaIt Go.Proofs.YtbmklpcheopgoaaOpen Go.Proofs.YtbmklpcheopgoaaW.PrintWords Go.Proofs.YtbmklpcheopgoaaW.PrintLast Go.Proofs.YtbmklpcheopgoaaW.PrintMore

/-! Area -/
def crossX (a b : S33) : Int := a.f0 * b.f1 - b.f0 * a.f1
def path : S33 → List S33 → Int
  | _, [] => 0
  | a, b :: r => crossX a b + path b r
def lastP : S33 → List S33 → S33
  | a, [] => a
  | _, b :: r => lastP b r
def cyc : List S33 → Int
  | [] => 0
  | a :: r => crossX (lastP a r) a + path a r
theorem path_snoc : ∀ (l : List S33) (a z : S33), path a (l ++ [z]) = path a l + crossX (lastP a l) z
  | [], a, z => by simp [path, lastP]
  | b :: l, a, z => by simp only [List.cons_append, path, lastP, path_snoc l b z]; omega
theorem lastP_snoc : ∀ (l : List S33) (a z : S33), lastP a (l ++ [z]) = z
  | [], _, _ => rfl
  | b :: l, _, z => lastP_snoc l b z
theorem crossX_swap (a b : S33) : crossX a b = - crossX b a := by unfold crossX; omega
theorem path_rev : ∀ (r : List S33) (a b : S33), path a r.reverse + crossX (lastP a r.reverse) b = -(path b r + crossX (lastP b r) a)
  | [], a, b => by simp only [List.reverse_nil, path, lastP]; have := crossX_swap a b; omega
  | h :: r, a, b => by
    rw [List.reverse_cons, path_snoc, lastP_snoc]
    have h1 := path_rev r a h
    have h2 := crossX_swap h b
    simp only [path, lastP]
    omega
theorem cyc_rev (c : List S33) : cyc (segRev c) = - cyc c := by
  cases c with
  | nil => rfl
  | cons a r =>
    have := path_rev r a a
    simp only [segRev, cyc]
    omega
theorem lastP_map (f : S33 → S33) : ∀ (r : List S33) (a : S33), lastP (f a) (r.map f) = f (lastP a r)
  | [], _ => rfl
  | b :: r, _ => lastP_map f r b
def mvE (x y : Int) (p : S33) : S33 := ⟨p.f0 + x, p.f1 + y, p.f2⟩
theorem cross_mv (x y : Int) (a b : S33) : crossX (mvE x y a) (mvE x y b) = crossX a b + (y * (a.f0 - b.f0) + x * (b.f1 - a.f1)) := by simp only [crossX, mvE]; grind
theorem path_mv (x y : Int) : ∀ (r : List S33) (a : S33), path (mvE x y a) (r.map (mvE x y)) = path a r + (y * (a.f0 - (lastP a r).f0) + x * ((lastP a r).f1 - a.f1))
  | [], a => by simp [path, lastP]
  | b :: r, a => by
    simp only [List.map_cons, path, lastP, path_mv x y r b, cross_mv]
    grind
theorem cyc_mv (x y : Int) (c : List S33) : cyc (c.map (mvE x y)) = cyc c := by
  cases c with
  | nil => rfl
  | cons a r =>
    simp only [List.map_cons, cyc, lastP_map, path_mv, cross_mv]
    grind
def eqv (p q : S33) : Prop := wrap64 p.f0 = wrap64 q.f0 ∧ wrap64 p.f1 = wrap64 q.f1
theorem cross_eqv {a a' b b' : S33} (h : eqv a a') (h' : eqv b b') : wrap64 (crossX a b) = wrap64 (crossX a' b') := W_eq_sub (W_eq_mul h.1 h'.2) (W_eq_mul h'.1 h.2)
theorem path_eqv (f g : S33 → S33) (hfg : ∀ p, eqv (f p) (g p)) : ∀ (r : List S33) (a : S33), wrap64 (path (f a) (r.map f)) = wrap64 (path (g a) (r.map g))
  | [], _ => rfl
  | b :: r, a => W_eq_add (cross_eqv (hfg a) (hfg b)) (path_eqv f g hfg r b)
theorem cyc_eqv (f g : S33 → S33) (hfg : ∀ p, eqv (f p) (g p)) (c : List S33) : wrap64 (cyc (c.map f)) = wrap64 (cyc (c.map g)) := by
  cases c with
  | nil => rfl
  | cons a r =>
    simp only [List.map_cons, cyc, lastP_map]
    exact W_eq_add (cross_eqv (hfg _) (hfg _)) (path_eqv f g hfg r a)
theorem cyc_mvW (x y : Int) (c : List S33) : wrap64 (cyc (c.map (mvW x y))) = wrap64 (cyc c) := by
  rw [cyc_eqv (mvW x y) (mvE x y) (fun p => ⟨W_W _, W_W _⟩), cyc_mv]

theorem areaK_fold (c : List S33) (n : Int) : ∀ k, k ≤ c.length → areaK c n k = (c.take k).foldl areaStep (n, rd_T33 c (c.length - 1))
  | 0, _ => rfl
  | k + 1, h => by
    rw [areaK_succ, areaK_fold c n k (by omega), List.take_add_one, List.getElem?_eq_getElem (show k < c.length by omega), rdS_get c k (by omega)]
    simp only [Option.toList_some, List.foldl_append, List.foldl_cons, List.foldl_nil]
theorem step_fold : ∀ (c : List S33) (n : Int) (a : S33), wrap64 n = n → (c.foldl areaStep (n, a)).1 = wrap64 (n + path a c)
  | [], n, a, h => by simp only [List.foldl_nil, path, Int.add_zero]; exact h.symm
  | b :: c, n, a, h => by
    have e : wrap64 (n + wrap64 (wrap64 (a.f0 * b.f1) - wrap64 (b.f0 * a.f1))) = wrap64 (n + crossX a b) := by rw [W_addr, ← W_addr, W_subl, W_subr, W_addr]; rfl
    simp only [List.foldl_cons, areaStep]
    rw [e, step_fold c _ b (W_W _), W_addl, path, Int.add_assoc]
theorem lastP_get : ∀ (r : List S33) (a : S33), (a :: r)[r.length]? = some (lastP a r)
  | [], _ => rfl
  | b :: r, a => by simpa [lastP] using lastP_get r b
theorem areaRow_eq (c : List S33) (n : Int) (h : wrap64 n = n) : areaRow c n = wrap64 (n + cyc c) := by
  unfold areaRow
  rw [areaK_fold c n _ (Nat.le_refl _), List.take_length, step_fold _ _ _ h]
  cases c with
  | nil => simp [path, cyc]
  | cons a r =>
    have e : rd_T33 (a :: r) (((a :: r).length : Int) - 1) = lastP a r := by
      have h1 := lastP_get r a
      unfold rd_T33
      rw [show (((a :: r).length : Int) - 1).toNat = r.length by simp, List.getD_eq_getElem?_getD, h1]
      rfl
    rw [e]
    simp only [path, cyc]
theorem areaF_eq (pts : List S33) : ∀ (cs : List (Int × Int)) (n : Int), wrap64 n = n → cs.foldl (fun n c => areaRow (contourOf pts c) n) n = wrap64 (n + (cs.map fun c => cyc (contourOf pts c)).sum)
  | [], n, h => by simp only [List.foldl_nil, List.map_nil, List.sum_nil, Int.add_zero]; exact h.symm
  | c :: cs, n, h => by
    rw [List.foldl_cons, areaF_eq pts cs _ (by rw [areaRow_eq _ _ h]; exact W_W _), areaRow_eq _ _ h, W_addl, List.map_cons, List.sum_cons, Int.add_assoc]
def areaA (pts : List S33) (es : List Int) : Int := wrap64 ((cutsL es pts.length).map fun c => cyc (contourOf pts c)).sum
theorem area_f (pts : List S33) (es : List Int) (hn : pts.length ≤ 1000000) : outline_Area.f pts es = some (areaA pts es) := by
  unfold outline_Area.f
  rw [if_pos hn]
  unfold areaL areaA
  rw [List.take_length, areaF_eq pts _ 0 (by unfold wrap64; omega), Int.zero_add]
theorem sum_neg {α : Type} (f g : α → Int) : ∀ l : List α, (∀ c ∈ l, f c = - g c) → (l.map f).sum = -(l.map g).sum
  | [], _ => rfl
  | a :: l, h => by
    have := sum_neg f g l (fun c hc => h c (List.mem_cons_of_mem _ hc))
    have h2 := h a List.mem_cons_self
    simp only [List.map_cons, List.sum_cons]
    omega
theorem sum_W {α : Type} (f g : α → Int) : ∀ l : List α, (∀ c ∈ l, wrap64 (f c) = wrap64 (g c)) → wrap64 (l.map f).sum = wrap64 (l.map g).sum
  | [], _ => rfl
  | a :: l, h => by
    simp only [List.map_cons, List.sum_cons]
    exact W_eq_add (h a List.mem_cons_self) (sum_W f g l (fun c hc => h c (List.mem_cons_of_mem _ hc)))
theorem area_rev (pts : List S33) (es : List Int) : areaA (revA pts es) es = wrap64 (-(areaA pts es)) := by
  unfold areaA
  rw [revA_len, W_neg, sum_neg (fun c => cyc (contourOf (revA pts es) c)) (fun c => cyc (contourOf pts c)) _ (fun c hc => by rw [contour_rev pts es c hc, cyc_rev])]
theorem area_moved (pts : List S33) (es : List Int) (x y : Int) : areaA (pts.map (mvW x y)) es = areaA pts es := by
  unfold areaA
  rw [List.length_map]
  exact sum_W _ _ _ (fun c hc => by rw [contour_map, cyc_mvW])
end Go.Proofs.Ytbmklpcheopgoaa.Out

namespace Go.Proofs.Ytbmklpcheopgoaa.Out
open Go Go.RowKit Go.Proofs.Ytbmklpcheopgoaa.H Go.Proofs.YtbmklpcheopgoaaIt Go.Proofs.YtbmklpcheopgoaaOpen Go.Proofs.YtbmklpcheopgoaaW.PrintWords Go.Proofs.YtbmklpcheopgoaaW.PrintLast Go.Proofs.YtbmklpcheopgoaaW.PrintMore

def cN (c : Int × Int) : S64 := ⟨c.1, c.2 - 1⟩
theorem refCuts_l0 (es : List Int) (n : Int) (hn : n ≤ 1000000) (he : es.length ≤ 1000000) : ∀ (m k i : Nat) (last : Int) (out : List S64), es.length = i + m → m < k → -1 ≤ last → last ≤ 1000000 → out.length ≤ i →
    fleuronref03_Cuts.l0 k es n out last (i : Int) = some (out ++ (cutsF (last + 1) (es.drop i) n).map cN) := by
  intro m
  induction m with
  | zero =>
    intro k i last out h1 h2 h3 h4 h5
    obtain ⟨k, rfl⟩ : ∃ j, k = j + 1 := ⟨k - 1, by omega⟩
    rw [fleuronref03_Cuts.l0, if_neg (by omega), List.drop_of_length_le (by omega)]
    simp [cutsF]
  | succ m ih =>
    intro k i last out h1 h2 h3 h4 h5
    obtain ⟨k, rfl⟩ : ∃ j, k = j + 1 := ⟨k - 1, by omega⟩
    have hi : i < es.length := by omega
    rw [fleuronref03_Cuts.l0, if_pos (by omega), if_pos (by omega), rd_get es i hi, List.drop_eq_getElem_cons hi, cutsF]
    by_cases c1 : es[i] ≤ last
    · rw [if_pos c1, if_pos (by omega)]; simp
    · rw [if_neg c1]
      by_cases c2 : es[i] ≥ n
      · rw [if_pos c2, if_pos (by omega)]; simp
      · rw [if_neg c2, if_pos (show out.length < 8796093022208 by omega), if_neg (show ¬ (es[i] < last + 1 ∨ n ≤ es[i]) by omega), W_in (last + 1) (by omega) (by omega), W_in ((i : Int) + 1) (by omega) (by omega)]
        have := ih k (i + 1) es[i] (out ++ [⟨last + 1, es[i]⟩]) (by omega) (by omega) (by omega) (by omega) (by simp; omega)
        rw [List.append_assoc] at this
        have e : cN (last + 1, es[i] + 1) = ⟨last + 1, es[i]⟩ := by unfold cN; congr 1; dsimp only; omega
        rw [List.map_cons, e]
        exact this
theorem refCuts_f (es : List Int) (n : Int) (k : Nat) (hn : n ≤ 1000000) (he : es.length ≤ 1000000) (hk : es.length < k) : fleuronref03_Cuts.f k es n = some ((cutsL es n).map cN) := by
  unfold fleuronref03_Cuts.f
  have := refCuts_l0 es n hn he es.length k 0 (-1) [] (by omega) hk (by omega) (by omega) (by simp)
  simpa [cutsL] using this
end Go.Proofs.Ytbmklpcheopgoaa.Out

namespace Go.Proofs.Ytbmklpcheopgoaa.Out
open Go Go.RowKit Go.Proofs.Ytbmklpcheopgoaa.H Go.Proofs.YtbmklpcheopgoaaIt Go.Proofs.YtbmklpcheopgoaaOpen Go.Proofs.YtbmklpcheopgoaaW.PrintWords Go.Proofs.YtbmklpcheopgoaaW.PrintLast Go.Proofs.YtbmklpcheopgoaaW.PrintMore

theorem rdC_get (l : List S64) (i : Nat) (h : i < l.length) : rd_T64 l (i : Int) = l[i] := by simp [rd_T64, h]
theorem refContours_l0 (pts : List S33) (es : List Int) (C : List (Int × Int)) (hC : ∀ c ∈ C, 0 ≤ c.1 ∧ c.1 < c.2 ∧ c.2 ≤ pts.length) (hn : pts.length ≤ 1000000) (hl : C.length ≤ 1000000) : ∀ (m k i : Nat) (out : List (List S33)), C.length = i + m → m < k → out.length = i →
    fleuronref03_Contours.l0 k out (C.map cN) (i : Int) pts es = some (out ++ (C.drop i).map (contourOf pts)) := by
  intro m
  induction m with
  | zero =>
    intro k i out h1 h2 h3
    obtain ⟨k, rfl⟩ : ∃ j, k = j + 1 := ⟨k - 1, by omega⟩
    rw [fleuronref03_Contours.l0, if_neg (by simp; omega), List.drop_of_length_le (by omega)]
    simp
  | succ m ih =>
    intro k i out h1 h2 h3
    obtain ⟨k, rfl⟩ : ∃ j, k = j + 1 := ⟨k - 1, by omega⟩
    have hi : i < C.length := by omega
    obtain ⟨c1, c2, c3⟩ := hC _ (List.getElem_mem hi)
    have e : rd_T64 (C.map cN) (i : Int) = ⟨C[i].1, C[i].2 - 1⟩ := by rw [rdC_get _ i (by simpa using hi)]; simp [cN]
    have e2 : wrap64 (C[i].2 - 1 + 1) = C[i].2 := by rw [W_in _ (by omega) (by omega)]; omega
    have e3 : (pts.take C[i].2.toNat).drop C[i].1.toNat = contourOf pts C[i] := by unfold contourOf; rw [List.drop_take]
    have e4 := contour_len pts C[i] (by omega)
    rw [fleuronref03_Contours.l0, if_pos (by simp; omega), Option.bind_some, if_pos (by omega), e]
    dsimp only
    rw [if_pos c1, e2, if_pos (by omega), if_pos (by omega), Option.bind_some, e3, if_pos (by simp; omega), if_pos (by omega), W_in ((i : Int) + 1) (by omega) (by omega)]
    have := ih k (i + 1) (out ++ [[] ++ contourOf pts C[i]]) (by omega) (by omega) (by simp; omega)
    rw [List.append_assoc] at this
    rw [List.drop_eq_getElem_cons hi]
    exact this
theorem refContours_f (pts : List S33) (es : List Int) (k : Nat) (hn : pts.length ≤ 1000000) (he : es.length ≤ 1000000) (hk : es.length < k) : fleuronref03_Contours.f k pts es = some ((cutsL es pts.length).map (contourOf pts)) := by
  unfold fleuronref03_Contours.f
  have hl := cutsF_len es pts.length 0
  change (cutsL es pts.length).length ≤ es.length at hl
  rw [refCuts_f es pts.length k (by omega) he hk, Option.bind_some]
  have := refContours_l0 pts es (cutsL es pts.length) (fun c hc => cut_mem es pts.length c hc) hn (by omega) (cutsL es pts.length).length k 0 [] (by omega) (by omega) rfl
  simpa using this

theorem refBox_l0 (pts : List S33) (es : List Int) (hn : pts.length ≤ 1000000) : ∀ (m k i : Nat), pts.length = i + m → 6 * m < k → (boxSt pts i).1.f2 = false → (boxSt pts i).2.f2 = false →
    fleuronref03_Box.l0 k (i : Int) pts es (boxSt pts i).1.f0 (boxSt pts i).1.f1 false (boxSt pts i).2.f0 (boxSt pts i).2.f1 false = outline_Box.f pts es := by
  intro m
  induction m with
  | zero =>
    intro k i h1 h2 h3 h4
    obtain ⟨k, rfl⟩ : ∃ j, k = j + 1 := ⟨k - 1, by omega⟩
    have e : outline_Box.f pts es = some ((boxSt pts pts.length).1.f0, (boxSt pts pts.length).1.f1, (boxSt pts pts.length).1.f2, (boxSt pts pts.length).2.f0, (boxSt pts pts.length).2.f1, (boxSt pts pts.length).2.f2, decide (0 < pts.length)) := rfl
    rw [fleuronref03_Box.l0, if_neg (by omega), e, show pts.length = i by omega, h3, h4]
    congr 6
    simp
  | succ m ih =>
    intro k i h1 h2 h3 h4
    obtain ⟨k, rfl⟩ : ∃ j, k = j + 6 := ⟨k - 6, by omega⟩
    have hs := boxSt_succ pts i
    have ih := ih k (i + 1) (by omega) (by omega) (by rw [hs]; unfold boxStep; by_cases c : i = 0 <;> simp [c, h3]) (by rw [hs]; unfold boxStep; by_cases c : i = 0 <;> simp [c, h4])
    rw [hs, show ((i + 1 : Nat) : Int) = wrap64 ((i : Int) + 1) by rw [W_in _ (by omega) (by omega)]; rfl] at ih
    rw [fleuronref03_Box.l0, if_pos (by omega), if_pos (by omega)]
    generalize rd_T33 pts (i : Int) = p at *
    generalize boxSt pts i = st at *
    obtain ⟨⟨a, b, u⟩, ⟨c, d, v⟩⟩ := st
    obtain ⟨x, y, z⟩ := p
    by_cases h0 : (i : Int) = 0
    · have h0' : i = 0 := by omega
      rw [if_pos h0, fleuronref03_Box.j1, if_pos rfl, fleuronref03_Box.j2, if_pos h0, fleuronref03_Box.j3, if_pos rfl, fleuronref03_Box.j4, if_pos h0, fleuronref03_Box.j5, if_pos rfl, if_pos h0]
      simp only [boxStep, h0', if_true, Int.min_self, Int.max_self] at ih
      subst h0'
      exact ih
    · have h0' : ¬ i = 0 := by omega
      simp only [boxStep, h0', if_false] at ih
      rw [if_neg h0, fleuronref03_Box.j1]
      have e1 : ∀ (T : Int → Option (Int × Int × Bool × Int × Int × Bool × Bool)), (if decide (x < a) = true then T x else T a) = T (min a x) := by
        intro T; by_cases q : x < a
        · rw [if_pos (by simpa using q), show min a x = x by omega]
        · rw [if_neg (by simpa using q), show min a x = a by omega]
      have e2 : ∀ (T : Int → Option (Int × Int × Bool × Int × Int × Bool × Bool)), (if decide (y < b) = true then T y else T b) = T (min b y) := by
        intro T; by_cases q : y < b
        · rw [if_pos (by simpa using q), show min b y = y by omega]
        · rw [if_neg (by simpa using q), show min b y = b by omega]
      rw [e1 (fun a => fleuronref03_Box.j2 (k + 4) (i : Int) pts es a b false c d false x y z), fleuronref03_Box.j2, if_neg h0, fleuronref03_Box.j3,
        e2 (fun b => fleuronref03_Box.j4 (k + 2) (i : Int) pts es (min a x) b false c d false x y z), fleuronref03_Box.j4, if_neg h0, fleuronref03_Box.j5]
      by_cases q1 : x > c
      · rw [if_pos (by simpa using q1), if_neg h0]
        rw [show max c x = x by omega] at ih
        by_cases q2 : y > d
        · rw [if_pos q2]; rw [show max d y = y by omega] at ih; exact ih
        · rw [if_neg q2]; rw [show max d y = d by omega] at ih; exact ih
      · rw [if_neg (by simpa using q1), if_neg h0]
        rw [show max c x = c by omega] at ih
        by_cases q2 : y > d
        · rw [if_pos q2]; rw [show max d y = y by omega] at ih; exact ih
        · rw [if_neg q2]; rw [show max d y = d by omega] at ih; exact ih
theorem refBox_f (pts : List S33) (es : List Int) (k : Nat) (hn : pts.length ≤ 1000000) (hk : 6 * pts.length < k) : fleuronref03_Box.f k pts es = outline_Box.f pts es :=
  refBox_l0 pts es hn pts.length k 0 (by omega) (by omega) rfl rfl

theorem refRight_l1 (pts : List S33) (es : List Int) (hn : pts.length ≤ 1000000) (he : es.length ≤ 1000000) : ∀ (m k i : Nat) (last : Int), es.length = i + m → m < k → -1 ≤ last → last ≤ pts.length →
    fleuronref03_Right.l1 k last (i : Int) pts es = some (endsOk last (es.drop i) pts.length) := by
  intro m
  induction m with
  | zero =>
    intro k i last h1 h2 h3 h4
    obtain ⟨k, rfl⟩ : ∃ j, k = j + 1 := ⟨k - 1, by omega⟩
    rw [fleuronref03_Right.l1, if_neg (by omega), List.drop_of_length_le (by omega), W_in ((pts.length : Int) - 1) (by omega) (by omega)]
    rfl
  | succ m ih =>
    intro k i last h1 h2 h3 h4
    obtain ⟨k, rfl⟩ : ∃ j, k = j + 1 := ⟨k - 1, by omega⟩
    have hi : i < es.length := by omega
    rw [fleuronref03_Right.l1, if_pos (by omega), if_pos (by omega), rd_get es i hi, List.drop_eq_getElem_cons hi, endsOk, W_in (last + 2) (by omega) (by omega), W_in ((i : Int) + 1) (by omega) (by omega)]
    by_cases c0 : es[i] > (pts.length : Int)
    · rw [if_pos c0]
      by_cases c1 : es[i] < last + 2
      · rw [if_pos c1]
      · rw [if_neg c1, if_pos (by omega)]
    · rw [if_neg c0]
      by_cases c1 : es[i] < last + 2
      · rw [if_pos c1, if_pos c1]
      · rw [if_neg c1, if_neg c1]
        have ih := ih k (i + 1) es[i] (by omega) (by omega) (by omega) (by omega)
        rw [show ((i + 1 : Nat) : Int) = (i : Int) + 1 by omega] at ih
        rw [ih]
        by_cases c2 : es[i] ≥ (pts.length : Int)
        · rw [if_pos c2]
          congr 1
          cases hr : es.drop (i + 1) with
          | nil => simp [endsOk]; omega
          | cons e r =>
            unfold endsOk
            by_cases c3 : e < es[i] + 2
            · rw [if_pos c3]
            · rw [if_neg c3, if_pos (by omega)]
        · rw [if_neg c2]
theorem ptOk_iff (p : S33) : ptOk p = true ↔ -16384 ≤ p.f0 ∧ p.f0 ≤ 16384 ∧ -16384 ≤ p.f1 ∧ p.f1 ≤ 16384 := by
  unfold ptOk mx mn
  simp
  omega
theorem refRight_l0 (pts : List S33) (es : List Int) (hn : pts.length ≤ 1000000) (he : es.length ≤ 1000000) : ∀ (m k i : Nat), pts.length = i + m → m + es.length + 1 < k →
    fleuronref03_Right.l0 k (i : Int) pts es = some ((pts.drop i).all ptOk && endsOk (-1) es pts.length) := by
  intro m
  induction m with
  | zero =>
    intro k i h1 h2
    obtain ⟨k, rfl⟩ : ∃ j, k = j + 1 := ⟨k - 1, by omega⟩
    rw [fleuronref03_Right.l0, if_neg (by omega), List.drop_of_length_le (by omega)]
    have := refRight_l1 pts es hn he es.length k 0 (-1) (by omega) (by omega) (by omega) (by omega)
    simpa using this
  | succ m ih =>
    intro k i h1 h2
    obtain ⟨k, rfl⟩ : ∃ j, k = j + 1 := ⟨k - 1, by omega⟩
    have hi : i < pts.length := by omega
    have hp := ptOk_iff pts[i]
    rw [fleuronref03_Right.l0, if_pos (by omega), if_pos (by omega), rdS_get pts i hi, List.drop_eq_getElem_cons hi, List.all_cons, W_in ((i : Int) + 1) (by omega) (by omega)]
    generalize pts[i] = p at *
    have no : ¬ (-16384 ≤ p.f0 ∧ p.f0 ≤ 16384 ∧ -16384 ≤ p.f1 ∧ p.f1 ≤ 16384) → some false = some ((ptOk p && (pts.drop (i + 1)).all ptOk) && endsOk (-1) es pts.length) := by
      intro h
      have : ptOk p = false := by
        cases hq : ptOk p with
        | false => rfl
        | true => exact absurd (hp.1 hq) h
      rw [this]; rfl
    by_cases c1 : p.f0 < -16384
    · rw [if_pos c1]; exact no (by omega)
    by_cases c2 : p.f0 > 16384
    · rw [if_neg c1, if_pos c2]; exact no (by omega)
    by_cases c3 : p.f1 < -16384
    · rw [if_neg c1, if_neg c2, if_pos c3]; exact no (by omega)
    by_cases c4 : p.f1 > 16384
    · rw [if_neg c1, if_neg c2, if_neg c3, if_pos c4]; exact no (by omega)
    rw [if_neg c1, if_neg c2, if_neg c3, if_neg c4, hp.2 (by omega), Bool.true_and]
    exact ih k (i + 1) (by omega) (by omega)
theorem refRight_f (pts : List S33) (es : List Int) (k : Nat) (hn : pts.length ≤ 1000000) (he : es.length ≤ 1000000) (hk : pts.length + es.length + 3 ≤ k) : fleuronref03_Right.f k pts es = some (rightB pts es) := by
  obtain ⟨k, rfl⟩ : ∃ j, k = j + 1 := ⟨k - 1, by omega⟩
  unfold fleuronref03_Right.f rightB
  by_cases h1 : (pts.length : Int) > 200
  · rw [if_pos h1, fleuronref03_Right.j0, if_pos rfl, decide_eq_false (show ¬ pts.length ≤ 200 by omega)]; rfl
  · rw [if_neg h1, fleuronref03_Right.j0, decide_eq_true (show pts.length ≤ 200 by omega)]
    by_cases h2 : (es.length : Int) > 40
    · rw [if_pos (decide_eq_true h2), decide_eq_false (show ¬ es.length ≤ 40 by omega)]; rfl
    · rw [if_neg (by simpa using h2), decide_eq_true (show es.length ≤ 40 by omega)]
      have := refRight_l0 pts es hn he pts.length k 0 (by omega) (by omega)
      simpa using this

theorem rdS_closed (l : List S33) (z : S33) (hz : l[0]? = some z) (j : Nat) (hj : j ≤ l.length) (p : S33) (r : List S33) (h : (l ++ [z]).drop j = p :: r) : rd_T33 l ((j % l.length : Nat) : Int) = p := by
  have e : (l ++ [z])[j]? = some p := by rw [← List.head?_drop, h]; rfl
  by_cases c : j = l.length
  · subst c
    rw [Nat.mod_self]
    simp at e
    subst e
    simp [rd_T33, hz]
  · rw [Nat.mod_eq_of_lt (by omega)]
    rw [List.getElem?_append_left (by omega)] at e
    simp [rd_T33, e]
theorem W_cross (n u v : Int) : wrap64 (wrap64 (n + wrap64 u) - wrap64 v) = wrap64 (n + (u - v)) := by
  rw [W_subl, W_subr, show n + wrap64 u - v = (n - v) + wrap64 u by omega, W_addr]
  congr 1; omega
theorem refArea_l1 (L : List (List S33)) (i : Nat) (hi : i < L.length) (hL : L.length ≤ 1000000) (c : List S33) (hc : L[i] = c) (hcl : c.length ≤ 1000000) (z : S33) (hz : c[0]? = some z) : ∀ (m k j : Nat) (n : Int) (p : S33) (r : List S33), c.length = j + m → m < k → wrap64 n = n → (c ++ [z]).drop j = p :: r →
    fleuronref03_Area.l1 k n L (i : Int) (j : Int) = fleuronref03_Area.l0 (k - m - 1) (wrap64 (n + path p r)) L ((i + 1 : Nat) : Int) := by
  have e1 : rd_L3 L (i : Int) = c := by simp [rd_L3, hi, hc]
  have h0 : 0 < c.length := (List.getElem?_eq_some_iff.1 hz).1
  intro m
  induction m with
  | zero =>
    intro k j n p r h1 h2 h3 h4
    obtain ⟨k, rfl⟩ : ∃ j, k = j + 1 := ⟨k - 1, by omega⟩
    have e : (c ++ [z]).drop j = [z] := by rw [show j = c.length by omega]; simp
    rw [e] at h4
    injection h4 with q1 q2
    subst q2
    rw [fleuronref03_Area.l1, if_pos (by omega), if_pos (by omega), e1, if_neg (by omega), W_in ((i : Int) + 1) (by omega) (by omega)]
    simp only [path, Int.add_zero, h3]
    rfl
  | succ m ih =>
    intro k j n p r h1 h2 h3 h4
    obtain ⟨k, rfl⟩ : ∃ j, k = j + 1 := ⟨k - 1, by omega⟩
    have hj : j < c.length := by omega
    have hr : (c ++ [z]).drop (j + 1) = r := by rw [← List.drop_drop, h4]; rfl
    have hrl : r.length = c.length - j := by rw [← hr]; simp
    obtain ⟨q, r', rfl⟩ : ∃ q r', r = q :: r' := by
      cases r with
      | nil => simp at hrl; omega
      | cons q r' => exact ⟨q, r', rfl⟩
    have g1 := rdS_closed c z hz j (by omega) p _ h4
    have g2 := rdS_closed c z hz (j + 1) (by omega) q _ hr
    rw [Nat.mod_eq_of_lt hj] at g1
    have hm : (j + 1) % c.length < c.length := Nat.mod_lt _ h0
    have ht : Int.tmod ((j : Int) + 1) (c.length : Int) = (((j + 1) % c.length : Nat) : Int) := rfl
    rw [fleuronref03_Area.l1, if_pos (by omega), if_pos (by omega), e1, if_pos (by omega), if_pos (by omega), if_neg (by omega), W_in ((j : Int) + 1) (by omega) (by omega), ht, if_pos (by omega), if_pos (by omega), g1, g2, W_cross]
    have := ih k (j + 1) (wrap64 (n + (p.f0 * q.f1 - q.f0 * p.f1))) q r' (by omega) (by omega) (W_W _) hr
    rw [show ((j + 1 : Nat) : Int) = (j : Int) + 1 by omega] at this
    rw [this, W_addl, show k + 1 - (m + 1) - 1 = k - m - 1 by omega]
    simp only [path, crossX]
    rw [Int.add_assoc]
theorem refArea_l0 (pts : List S33) (C : List (Int × Int)) (hC : ∀ c ∈ C, 0 ≤ c.1 ∧ c.1 < c.2 ∧ c.2 ≤ pts.length) (hn : pts.length ≤ 1000000) (hl : C.length ≤ 1000000) : ∀ (m k i : Nat) (n : Int), C.length = i + m → m * (pts.length + 2) < k → wrap64 n = n →
    fleuronref03_Area.l0 k n (C.map (contourOf pts)) (i : Int) = some (wrap64 (n + ((C.drop i).map fun c => cyc (contourOf pts c)).sum)) := by
  intro m
  induction m with
  | zero =>
    intro k i n h1 h2 h3
    obtain ⟨k, rfl⟩ : ∃ j, k = j + 1 := ⟨k - 1, by omega⟩
    rw [fleuronref03_Area.l0, if_neg (by simp; omega), List.drop_of_length_le (by omega)]
    simp [h3]
  | succ m ih =>
    intro k i n h1 h2 h3
    obtain ⟨k, rfl⟩ : ∃ j, k = j + 1 := ⟨k - 1, by omega⟩
    have hi : i < C.length := by omega
    obtain ⟨c1, c2, c3⟩ := hC _ (List.getElem_mem hi)
    have e4 := contour_len pts C[i] (by omega)
    have hk : m * (pts.length + 2) + (pts.length + 2) < k + 1 := by rw [Nat.succ_mul] at h2; exact h2
    rw [fleuronref03_Area.l0, if_pos (by simp; omega), List.drop_eq_getElem_cons hi, List.map_cons, List.sum_cons]
    cases hcc : contourOf pts C[i] with
    | nil => rw [hcc] at e4; simp at e4; omega
    | cons a r =>
      have := refArea_l1 (C.map (contourOf pts)) i (by simpa using hi) (by simpa using hl) (a :: r) (by simp [hcc]) (by rw [← hcc]; omega) a rfl (a :: r).length k 0 n a (r ++ [a]) (by omega) (by rw [← hcc]; omega) h3 rfl
      rw [show ((0 : Nat) : Int) = 0 from rfl] at this
      rw [this, ih _ (i + 1) _ (by omega) (by rw [← hcc]; omega) (W_W _), W_addl, path_snoc]
      congr 2
      simp only [cyc]
      omega
theorem refArea_f (pts : List S33) (es : List Int) (k : Nat) (hn : pts.length ≤ 1000000) (he : es.length ≤ 1000000) (hk : es.length * (pts.length + 2) + es.length < k) : fleuronref03_Area.f k pts es = some (areaA pts es) := by
  unfold fleuronref03_Area.f
  have hl := cutsF_len es pts.length 0
  change (cutsL es pts.length).length ≤ es.length at hl
  rw [refContours_f pts es k hn he (by omega), Option.bind_some]
  have hm := Nat.mul_le_mul_right (pts.length + 2) hl
  have := refArea_l0 pts (cutsL es pts.length) (fun c hc => cut_mem es pts.length c hc) hn (by omega) (cutsL es pts.length).length k 0 0 (by omega) (by omega) (by unfold wrap64; omega)
  rw [show ((0 : Nat) : Int) = 0 from rfl] at this
  rw [this]
  simp [areaA]
end Go.Proofs.Ytbmklpcheopgoaa.Out

namespace Go.Proofs.Ytbmklpcheopgoaa.Pure
open Go.RowKit Go.Proofs.Ytbmklpcheopgoaa.H Go.Proofs.YtbmklpcheopgoaaOpen Go.Proofs.YtbmklpcheopgoaaW.PrintWords Go.Proofs.YtbmklpcheopgoaaW.PrintLast
open Go.Proofs.Ytbmklpcheopgoaa.Out Go.Proofs.YtbmklpcheopgoaaIt Go.Proofs.YtbmklpcheopgoaaW.PrintMore
theorem told_f (pts : List S33) (es : List Int) (hn : pts.length ≤ 1000000) (he : es.length ≤ 1000000) : fleuronlaw03_told.f pts es = some ((cutsL es pts.length).map (contourOf pts), true) := by
  unfold fleuronlaw03_told.f
  rw [if_pos ⟨hn, he⟩]
  unfold toldK
  rw [List.take_length]
theorem samePoints_f (a : List S33) (hn : a.length ≤ 1000000) (k : Nat) (hk : a.length < k) : fleuronref03_SamePoints.f k a a = some true := by
  unfold fleuronref03_SamePoints.f
  rw [if_pos rfl]
  exact samePoints_l0 a hn a.length k 0 (by omega) hk
theorem tells_l0 (pts : List S33) (es : List Int) (hn : pts.length ≤ 1500) (he : es.length ≤ 300) (L : List (List S33)) (hL : L.length ≤ 300) (hl : ∀ l ∈ L, l.length ≤ 1500) : ∀ (m k i : Nat), L.length = i + m → m + 500000 < k → fleuronlaw03_OutlineTells.l0 k L L (i : Int) pts es = some true := by
  intro m
  induction m with
  | zero =>
    intro k i h1 h2
    obtain ⟨k, rfl⟩ : ∃ j, k = j + 1 := ⟨k - 1, by omega⟩
    have hbf : outline_Box.f pts es = some ((boxSt pts pts.length).1.f0, (boxSt pts pts.length).1.f1, (boxSt pts pts.length).1.f2, (boxSt pts pts.length).2.f0, (boxSt pts pts.length).2.f1, (boxSt pts pts.length).2.f2, decide (0 < pts.length)) := rfl
    have hmul : es.length * (pts.length + 2) ≤ 300 * 1502 := Nat.mul_le_mul he (by omega)
    rw [fleuronlaw03_OutlineTells.l0, if_neg (by omega), refBox_f pts es k (by omega) (by omega), hbf, Option.bind_some, Option.bind_some, fleuronlaw03_drawn.f, Option.bind_some, if_pos rfl,
      right_f pts es k (by omega) (by omega) (by omega), Option.bind_some, refRight_f pts es k (by omega) (by omega) (by omega), Option.bind_some, if_pos (by simp), if_pos (by simp), if_pos (by simp), if_pos (by simp),
      area_f pts es (by omega), Option.bind_some, refArea_f pts es k (by omega) (by omega) (by omega), Option.bind_some]
    simp
  | succ m ih =>
    intro k i h1 h2
    obtain ⟨k, rfl⟩ : ∃ j, k = j + 1 := ⟨k - 1, by omega⟩
    have hi : i < L.length := by omega
    have hr : rd_L3 L (i : Int) = L[i] := by simp [rd_L3, hi]
    have hli := hl _ (List.getElem_mem hi)
    rw [fleuronlaw03_OutlineTells.l0, if_pos (by omega), if_pos (by omega), if_pos (by omega), hr, samePoints_f _ (by omega) k (by omega), Option.bind_some, if_pos rfl, W_in ((i : Int) + 1) (by omega) (by omega)]
    exact ih k (i + 1) (by omega) (by omega)
theorem OutlineTells : ∀ (l0_0 : List (S33)) (l0_1 : List Int), (l0_0.length ≤ 9223372036854775807 ∧ ∀ x_ ∈ l0_0, (InK .i64 x_.f0 ∧ InK .i64 x_.f1 ∧ True)) ∧ (l0_1.length ≤ 9223372036854775807 ∧ ∀ x_ ∈ l0_1, InK .i64 x_) → ∃ k, fleuronlaw03_OutlineTells.f k l0_0 l0_1 = some true := by
  intro pts es hp
  refine ⟨600001, ?_⟩
  unfold fleuronlaw03_OutlineTells.f
  by_cases hb : fleuronref03_Big.f pts es = some true
  · rw [hb]; rfl
  obtain ⟨hb, hn, he⟩ := big_f pts es hb
  rw [hb, Option.bind_some, if_neg (by decide), told_f pts es (by omega) (by omega), Option.bind_some, refContours_f pts es 600001 (by omega) (by omega) (by omega), Option.bind_some, if_pos rfl, fleuronlaw03_OutlineTells.j0, if_neg (by simp)]
  have hl := cutsF_len es pts.length 0
  change (cutsL es pts.length).length ≤ es.length at hl
  exact tells_l0 pts es (by omega) (by omega) _ (by simp; omega) (fun l h => by
    obtain ⟨c, hc, rfl⟩ := List.mem_map.1 h
    obtain ⟨c1, c2, c3⟩ := cut_mem es pts.length c hc
    rw [contour_len pts c (by omega)]; omega) ((cutsL es pts.length).map (contourOf pts)).length 600000 0 (Nat.zero_add _).symm (by simp; omega)

end Go.Proofs.Ytbmklpcheopgoaa.Pure

namespace Go.Proofs.Ytbmklpcheopgoaa.outlineTells
open Go.ChangeShapes Go.WideShapes Go.ChangeAt Go.RowKit Go.Proofs.YtbmklpcheopgoaaOpen Go.Proofs.YtbmklpcheopgoaaW.PrintWords Go.Proofs.Ytbmklpcheopgoaa.H
open Go.ChangeMaps (open_string shut_string)
set_option linter.unusedVariables false
theorem own : ownKnob Try.prog.godebug = none := by kernel_rfl
theorem laidOut : laidOutB Try.prog = true := by kernel_rfl
set_option maxRecDepth 100000 in
theorem opens_33 : Opens Try.prog 33 k33 (fun y_ => (InK .i64 y_.f0 ∧ InK .i64 y_.f1 ∧ True)) := by
  intro H enc w base spare held fuel cs x h
  obtain ⟨xs, n, _, rfl, hl, hlen, hf⟩ := DataW.trod_struct Try.underlying33 h
  have hz : Try.prog.cellsOf 33 = 3 := by kernel_rfl
  rw [hz] at hl
  have g0 := hf 0 _ rfl
  have g1 := hf 1 _ rfl
  have g2 := hf 2 _ rfl
  match xs, hlen with
  | [x0, x1, x2], _ =>
    have g0 : DataW.trod enc Try.prog w base spare held n 3 ((cs.drop 0).take 1) = some x0 := g0
    obtain ⟨y0, k0_, q0⟩ := (opens_int Try.underlying3) enc w base spare held n _ _ g0
    have g1 : DataW.trod enc Try.prog w base spare held n 3 ((cs.drop 1).take 1) = some x1 := g1
    obtain ⟨y1, k1_, q1⟩ := (opens_int Try.underlying3) enc w base spare held n _ _ g1
    have g2 : DataW.trod enc Try.prog w base spare held n 4 ((cs.drop 2).take 1) = some x2 := g2
    obtain ⟨y2, k2_, q2⟩ := (opens_bool Try.underlying4) enc w base spare held n _ _ g2
    exact ⟨⟨y0, y1, y2⟩, ⟨_, _, cutQ cs 0 1, k0_, ⟨_, _, cutQ cs 1 1, k1_, (by show (Kd.bool).K w y2 (cs.drop 2); rw [cutQ_last cs 2 1 (by omega)]; exact k2_)⟩⟩, q0, q1, q2⟩

set_option maxRecDepth 100000 in
theorem opens_25 : Opens Try.prog 25 k25 (fun y_ => ((y_.f0.length ≤ 9223372036854775807 ∧ ∀ x_ ∈ y_.f0, (InK .i64 x_.f0 ∧ InK .i64 x_.f1 ∧ True)) ∧ (y_.f1.length ≤ 9223372036854775807 ∧ ∀ x_ ∈ y_.f1, InK .i64 x_))) := by
  intro H enc w base spare held fuel cs x h
  obtain ⟨xs, n, _, rfl, hl, hlen, hf⟩ := DataW.trod_struct Try.underlying25 h
  have hz : Try.prog.cellsOf 25 = 2 := by kernel_rfl
  rw [hz] at hl
  have g0 := hf 0 _ rfl
  have g1 := hf 1 _ rfl
  match xs, hlen with
  | [x0, x1], _ =>
    have g0 : DataW.trod enc Try.prog w base spare held n 22 ((cs.drop 0).take 1) = some x0 := g0
    obtain ⟨y0, k0_, q0⟩ := (opens_slice Try.underlying22 (by kernel_rfl) opens_33) enc w base spare held n _ _ g0
    have g1 : DataW.trod enc Try.prog w base spare held n 23 ((cs.drop 1).take 1) = some x1 := g1
    obtain ⟨y1, k1_, q1⟩ := (opens_slice Try.underlying23 (by kernel_rfl) (opens_int Try.underlying3)) enc w base spare held n _ _ g1
    exact ⟨⟨y0, y1⟩, ⟨_, _, cutQ cs 0 1, k0_, (by show ((Kd.slice 3 (Kd.int .i64))).K w y1 (cs.drop 1); rw [cutQ_last cs 1 1 (by omega)]; exact k1_)⟩, q0, q1⟩

set_option maxRecDepth 100000 in
set_option maxHeartbeats 2000000 in
theorem lifted (os : Os) (started : os.Started) (H : Type) (enc : TypeId × Value → H) :
    ReturnsInHanded {} Try.checked os 3 .any (Rows.outlineTellsSpec.pre6 enc Try.prog Try.f3 Rows.outlineTellsRow.domain false) (Rows.outlineTellsSpec.post enc Try.prog Try.f3 false true false false) := by
  refine returnsInHanded_of_change_sized (C := Try.checked) own started (by kernel_rfl) Try.func3
    (ChangeSpec.witness6 (enc := enc) (C := Try.checked) false ⟨#[], #[.agg #[.slice none 0 0, .slice none 0 0]], []⟩ 8 (by kernel_rfl) (by kernel_rfl) (by kernel_rfl) (by kernel_rfl)) ?_
  intro W base args ds gs before hval0 hW hcnd hsz0 _
  have hval : ∀ (j : Nat) t v, Try.f3.params[j]? = some t → args[j]? = some v → Value.okWide Try.prog W .any base t v := hval0
  have hW' := hW
  obtain ⟨p, q, hA0, hV, rfl, hfz, hnd⟩ := hW
  have hA : DataW.TrodAll enc Try.prog W 0 (fun _ => true) true Try.f3.params.toList args.toList ds p := hA0
  rw [Try.params3] at hA hval
  obtain ⟨v0, vs0, d0, ds0, p0, q0, hargs, rfl, rfl, h0, r0⟩ := trodAll_cons hA
  obtain ⟨rfl, rfl, rfl⟩ := trodAll_nil r0
  obtain rfl : args = #[v0] := by cases args; simp_all
  obtain ⟨rfl, rfl⟩ := trodVars_none hV
  have k0 := h0
  have lt0 : ∀ x ∈ p0, x.block < W.heap.size := by obtain ⟨m, hm⟩ := k0; exact DataW.trod_lt m _ _ _ hm
  obtain ⟨fuel0, hf0⟩ := h0
  obtain ⟨y0, ky0, gy0⟩ := opens_25 enc W 0 (fun _ => true) true fuel0 _ _ hf0
  obtain ⟨cs0, rfl⟩ := wide_agg (hval 0 25 v0 rfl rfl) (by rw [Try.underlying25])
  obtain ⟨A0_0, c0_0, A0_1, c0_1, hc0, l0_0, g0_0, l0_1, g0_1⟩ := k25_open ky0
  obtain rfl := agg_list hc0
  clear hA0 hval0 hsz0
  obtain ⟨k, hk⟩ := Pure.OutlineTells y0.f0 y0.f1 gy0
  refine (fleuronlaw03_OutlineTells.calls k A0_0 c0_0 y0.f0 A0_1 c0_1 y0.f1 true W g0_0 l0_0 g0_1 l0_1 hk).mono fun e W' ⟨he, bel⟩ => ?_
  subst he
  exact ⟨_, rfl, _, _, _, [], _, [], hW', trodAll_mk1 (shut_bool Try.underlying4 _), (trodAll_cons_mk (Below.trod laidOut (by kernel_rfl) (of_decide_eq_true (by kernel_rfl)) k0 bel lt0) trodAll_mk0), rfl, bel.frame _, fun h => by cases h⟩
theorem over : Rows.outlineTellsRow.holds Try.pinned (OpenSpec.ofChange Rows.outlineTellsSpec) :=
  OpenClaim.holds_of_wide 3 Try.f3 rfl rfl rfl rfl rfl rfl rfl ⟨rfl, rfl, rfl, rfl, rfl⟩ rfl rfl rfl rfl rfl (by kernel_rfl) Try.func3 (by kernel_rfl)
    (of_decide_eq_true (by kernel_rfl)) (by unfold Func.isWrapper; first | (rw [if_pos (by decide +kernel)]; kernel_rfl) | (rw [if_neg (by decide +kernel)]; exact ⟨rfl, rfl⟩))
    (fun os started H enc _ => lifted os started H enc)
theorem proved : Rows.OutlineTellsSaid := over
end Go.Proofs.Ytbmklpcheopgoaa.outlineTells
namespace Go.Proofs.Ytbmklpcheopgoaa
/-- The row, under a short name, for the claim. -/
theorem outlineTells_holds : Rows.OutlineTellsSaid := outlineTells.proved
#print axioms outlineTells_holds
end Go.Proofs.Ytbmklpcheopgoaa
