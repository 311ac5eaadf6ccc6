/- Texts of this session, one behind the other, for the statement OutlineBoxes: what its functions compute, plain facts, and (last) its row. No condition besides those stated. -/
import Derived.Test.YtbmklpcheopgoaaMBoxes1
import Derived.Test.YtbmklpcheopgoaaMBoxes2
import Derived.Test.YtbmklpcheopgoaaMBoxes3
import Derived.Test.YtbmklpcheopgoaaWWords
import Derived.ChangeArms
import Derived.Deep.Slices
import Derived.OpenShut
import Derived.DataReads
import Derived.Test.YtbmklpcheopgoaaRows
import Derived.WalkKit
import Derived.ProofKit
import Derived.ShutString
import Derived.ChangeOld
import Derived.Below
import Derived.SizedLaws
set_option linter.unusedVariables false
set_option linter.unusedSimpArgs false
namespace Go.Proofs.Ytbmklpcheopgoaa.H
open Go.RowKit Go.Proofs.YtbmklpcheopgoaaW.PrintWords Go.Proofs.YtbmklpcheopgoaaW.PrintLast Go.Proofs.YtbmklpcheopgoaaW.PrintMore
attribute [local go_sem] max2_int min2_int max_two min_two max_three min_three max_four min_four
set_option linter.unusedVariables false
set_option linter.unusedSimpArgs false
attribute [local go_sem high] eqA33 eqA48
mutual
def fleuronlaw03_OutlineBoxes.j0 : Nat → Int → Int → Bool → Bool → List (S33) → List Int → Int → Int → Bool → Int → Int → Bool → Option (Bool)
 | 0, _, _, _, _, _, _, _, _, _, _, _, _ => none
 | k + 1, x1, x2, x9, x40, x598000, x598001, x606000, x606001, x606002, x607000, x607001, x607002 => if x40 = true then ((fleuronlaw03_drawn.f).bind fun t608 => (some t608)) else (fleuronlaw03_OutlineBoxes.l0 k x1 x2 x9 0 x598000 x598001 x606000 x606001 x606002 x607000 x607001 x607002 false false false false)
def fleuronlaw03_OutlineBoxes.l0 : Nat → Int → Int → Bool → Int → List (S33) → List Int → Int → Int → Bool → Int → Int → Bool → Bool → Bool → Bool → Bool → Option (Bool)
 | 0, _, _, _, _, _, _, _, _, _, _, _, _, _, _, _, _ => none
 | k + 1, x1, x2, x9, x11, x598000, x598001, x606000, x606001, x606002, x607000, x607001, x607002, x610000, x610001, x610002, x610003 => if x11 < (x598000.length : Int) then (if 0 ≤ x11 then (if ((rd_T33 x598000 x11).f0) < x606000 then (none) else (if ((rd_T33 x598000 x11).f0) > x607000 then (none) else (if ((rd_T33 x598000 x11).f1) < x606001 then (none) else (if ((rd_T33 x598000 x11).f1) > x607001 then (none) else (if x610000 = true then (if x610001 = true then (if x610002 = true then (if x610003 = true then (fleuronlaw03_OutlineBoxes.l0 k x1 x2 x9 (wrap64 (x11 + 1)) x598000 x598001 x606000 x606001 x606002 x607000 x607001 x607002 true true true true) else (fleuronlaw03_OutlineBoxes.l0 k x1 x2 x9 (wrap64 (x11 + 1)) x598000 x598001 x606000 x606001 x606002 x607000 x607001 x607002 true true true (((rd_T33 x598000 x11).f1) == x607001))) else (if x610003 = true then (fleuronlaw03_OutlineBoxes.l0 k x1 x2 x9 (wrap64 (x11 + 1)) x598000 x598001 x606000 x606001 x606002 x607000 x607001 x607002 true true (((rd_T33 x598000 x11).f1) == x606001) true) else (fleuronlaw03_OutlineBoxes.l0 k x1 x2 x9 (wrap64 (x11 + 1)) x598000 x598001 x606000 x606001 x606002 x607000 x607001 x607002 true true (((rd_T33 x598000 x11).f1) == x606001) (((rd_T33 x598000 x11).f1) == x607001)))) else (if x610002 = true then (if x610003 = true then (fleuronlaw03_OutlineBoxes.l0 k x1 x2 x9 (wrap64 (x11 + 1)) x598000 x598001 x606000 x606001 x606002 x607000 x607001 x607002 true (((rd_T33 x598000 x11).f0) == x607000) true true) else (fleuronlaw03_OutlineBoxes.l0 k x1 x2 x9 (wrap64 (x11 + 1)) x598000 x598001 x606000 x606001 x606002 x607000 x607001 x607002 true (((rd_T33 x598000 x11).f0) == x607000) true (((rd_T33 x598000 x11).f1) == x607001))) else (if x610003 = true then (fleuronlaw03_OutlineBoxes.l0 k x1 x2 x9 (wrap64 (x11 + 1)) x598000 x598001 x606000 x606001 x606002 x607000 x607001 x607002 true (((rd_T33 x598000 x11).f0) == x607000) (((rd_T33 x598000 x11).f1) == x606001) true) else (fleuronlaw03_OutlineBoxes.l0 k x1 x2 x9 (wrap64 (x11 + 1)) x598000 x598001 x606000 x606001 x606002 x607000 x607001 x607002 true (((rd_T33 x598000 x11).f0) == x607000) (((rd_T33 x598000 x11).f1) == x606001) (((rd_T33 x598000 x11).f1) == x607001))))) else (if x610001 = true then (if x610002 = true then (if x610003 = true then (fleuronlaw03_OutlineBoxes.l0 k x1 x2 x9 (wrap64 (x11 + 1)) x598000 x598001 x606000 x606001 x606002 x607000 x607001 x607002 (((rd_T33 x598000 x11).f0) == x606000) true true true) else (fleuronlaw03_OutlineBoxes.l0 k x1 x2 x9 (wrap64 (x11 + 1)) x598000 x598001 x606000 x606001 x606002 x607000 x607001 x607002 (((rd_T33 x598000 x11).f0) == x606000) true true (((rd_T33 x598000 x11).f1) == x607001))) else (if x610003 = true then (fleuronlaw03_OutlineBoxes.l0 k x1 x2 x9 (wrap64 (x11 + 1)) x598000 x598001 x606000 x606001 x606002 x607000 x607001 x607002 (((rd_T33 x598000 x11).f0) == x606000) true (((rd_T33 x598000 x11).f1) == x606001) true) else (fleuronlaw03_OutlineBoxes.l0 k x1 x2 x9 (wrap64 (x11 + 1)) x598000 x598001 x606000 x606001 x606002 x607000 x607001 x607002 (((rd_T33 x598000 x11).f0) == x606000) true (((rd_T33 x598000 x11).f1) == x606001) (((rd_T33 x598000 x11).f1) == x607001)))) else (if x610002 = true then (if x610003 = true then (fleuronlaw03_OutlineBoxes.l0 k x1 x2 x9 (wrap64 (x11 + 1)) x598000 x598001 x606000 x606001 x606002 x607000 x607001 x607002 (((rd_T33 x598000 x11).f0) == x606000) (((rd_T33 x598000 x11).f0) == x607000) true true) else (fleuronlaw03_OutlineBoxes.l0 k x1 x2 x9 (wrap64 (x11 + 1)) x598000 x598001 x606000 x606001 x606002 x607000 x607001 x607002 (((rd_T33 x598000 x11).f0) == x606000) (((rd_T33 x598000 x11).f0) == x607000) true (((rd_T33 x598000 x11).f1) == x607001))) else (if x610003 = true then (fleuronlaw03_OutlineBoxes.l0 k x1 x2 x9 (wrap64 (x11 + 1)) x598000 x598001 x606000 x606001 x606002 x607000 x607001 x607002 (((rd_T33 x598000 x11).f0) == x606000) (((rd_T33 x598000 x11).f0) == x607000) (((rd_T33 x598000 x11).f1) == x606001) true) else (fleuronlaw03_OutlineBoxes.l0 k x1 x2 x9 (wrap64 (x11 + 1)) x598000 x598001 x606000 x606001 x606002 x607000 x607001 x607002 (((rd_T33 x598000 x11).f0) == x606000) (((rd_T33 x598000 x11).f0) == x607000) (((rd_T33 x598000 x11).f1) == x606001) (((rd_T33 x598000 x11).f1) == x607001)))))))))) else (none)) else ((outline_Moved.f k x598000 x598001 x1 x2).bind fun bt612 => ((outline_Box.f bt612.1 bt612.2).bind fun bt618 => (if x9 = true then ((fleuronlaw03_drawn.f).bind fun t627 => (if t627 = true then (if bt618.2.2.2.2.2.2 = true then (if (x610000 && (x610001 && (x610002 && (x610003)))) = true then (if (bt618.1 == (wrap64 (x606000 + x1)) && (bt618.2.1 == (wrap64 (x606001 + x2)) && (!bt618.2.2.1))) = true then (some (bt618.2.2.2.1 == (wrap64 (x607000 + x1)) && (bt618.2.2.2.2.1 == (wrap64 (x607001 + x2)) && (!bt618.2.2.2.2.2.1)))) else (none)) else (none)) else (none)) else (none))) else ((fleuronlaw03_drawn.f).bind fun t628 => (if t628 = true then (if bt618.2.2.2.2.2.2 = true then (none) else (some ((x598000.length : Int) == 0))) else (none))))))
end
def fleuronlaw03_OutlineBoxes.f (k : Nat) (l0_0 : List (S33)) (l0_1 : List Int) (a1 : Int) (a2 : Int) : Option (Bool) := (outline_Box.f l0_0 l0_1).bind fun bt598 => ((outline_Right.f k l0_0 l0_1).bind fun t607 => (if t607 = true then (if a1 > 100000 then (fleuronlaw03_OutlineBoxes.j0 k a1 a2 bt598.2.2.2.2.2.2 true l0_0 l0_1 bt598.1 bt598.2.1 bt598.2.2.1 bt598.2.2.2.1 bt598.2.2.2.2.1 bt598.2.2.2.2.2.1) else (if a1 < (-100000) then (fleuronlaw03_OutlineBoxes.j0 k a1 a2 bt598.2.2.2.2.2.2 true l0_0 l0_1 bt598.1 bt598.2.1 bt598.2.2.1 bt598.2.2.2.1 bt598.2.2.2.2.1 bt598.2.2.2.2.2.1) else (if a2 > 100000 then (fleuronlaw03_OutlineBoxes.j0 k a1 a2 bt598.2.2.2.2.2.2 true l0_0 l0_1 bt598.1 bt598.2.1 bt598.2.2.1 bt598.2.2.2.1 bt598.2.2.2.2.1 bt598.2.2.2.2.2.1) else (fleuronlaw03_OutlineBoxes.j0 k a1 a2 bt598.2.2.2.2.2.2 (decide (a2 < (-100000))) l0_0 l0_1 bt598.1 bt598.2.1 bt598.2.2.1 bt598.2.2.2.1 bt598.2.2.2.2.1 bt598.2.2.2.2.2.1)))) else (fleuronlaw03_OutlineBoxes.j0 k a1 a2 bt598.2.2.2.2.2.2 true l0_0 l0_1 bt598.1 bt598.2.1 bt598.2.2.1 bt598.2.2.2.1 bt598.2.2.2.2.1 bt598.2.2.2.2.2.1)))
theorem fleuronlaw03_OutlineBoxes.mono_l : ∀ k, (∀ y0 y1 y2 y3 y4 y5 y6 y7 y8 y9 y10 y11, LeO (fleuronlaw03_OutlineBoxes.j0 k y0 y1 y2 y3 y4 y5 y6 y7 y8 y9 y10 y11) (fleuronlaw03_OutlineBoxes.j0 (k + 1) y0 y1 y2 y3 y4 y5 y6 y7 y8 y9 y10 y11)) ∧ (∀ y0 y1 y2 y3 y4 y5 y6 y7 y8 y9 y10 y11 y12 y13 y14 y15, LeO (fleuronlaw03_OutlineBoxes.l0 k y0 y1 y2 y3 y4 y5 y6 y7 y8 y9 y10 y11 y12 y13 y14 y15) (fleuronlaw03_OutlineBoxes.l0 (k + 1) y0 y1 y2 y3 y4 y5 y6 y7 y8 y9 y10 y11 y12 y13 y14 y15))
 | 0 => ⟨fun _ _ _ _ _ _ _ _ _ _ _ _ r h => by simp [fleuronlaw03_OutlineBoxes.j0] at h, fun _ _ _ _ _ _ _ _ _ _ _ _ _ _ _ _ r h => by simp [fleuronlaw03_OutlineBoxes.l0] at h⟩
 | k + 1 => by
  obtain ⟨ih0, ih1⟩ := fleuronlaw03_OutlineBoxes.mono_l k
  refine ⟨?_, ?_⟩
  ·
   intro y0 y1 y2 y3 y4 y5 y6 y7 y8 y9 y10 y11
   unfold fleuronlaw03_OutlineBoxes.j0
   repeat' first
   | (with_reducible exact ih0 _ _ _ _ _ _ _ _ _ _ _ _)
   | (with_reducible exact ih1 _ _ _ _ _ _ _ _ _ _ _ _ _ _ _ _)
   | (with_reducible exact outline_Moved.mono _ _ _ _ _)
   | (with_reducible exact outline_Right.mono _ _ _)
   | (with_reducible exact LeO.refl _)
   | (with_reducible exact LeO.none _)
   | (with_reducible refine LeO.ite ?_ ?_)
   | (with_reducible refine LeO.bind ?_ (fun _ => ?_))
   | exact ih0 _ _ _ _ _ _ _ _ _ _ _ _
   | exact ih1 _ _ _ _ _ _ _ _ _ _ _ _ _ _ _ _
   | exact outline_Moved.mono _ _ _ _ _
   | exact outline_Right.mono _ _ _
   | exact LeO.none _
   | refine LeO.ite ?_ ?_
   | refine LeO.bind ?_ (fun _ => ?_)
  ·
   intro y0 y1 y2 y3 y4 y5 y6 y7 y8 y9 y10 y11 y12 y13 y14 y15
   unfold fleuronlaw03_OutlineBoxes.l0
   repeat' first
   | (with_reducible exact ih0 _ _ _ _ _ _ _ _ _ _ _ _)
   | (with_reducible exact ih1 _ _ _ _ _ _ _ _ _ _ _ _ _ _ _ _)
   | (with_reducible exact outline_Moved.mono _ _ _ _ _)
   | (with_reducible exact outline_Right.mono _ _ _)
   | (with_reducible exact LeO.refl _)
   | (with_reducible exact LeO.none _)
   | (with_reducible refine LeO.ite ?_ ?_)
   | (with_reducible refine LeO.bind ?_ (fun _ => ?_))
   | exact ih0 _ _ _ _ _ _ _ _ _ _ _ _
   | exact ih1 _ _ _ _ _ _ _ _ _ _ _ _ _ _ _ _
   | exact outline_Moved.mono _ _ _ _ _
   | exact outline_Right.mono _ _ _
   | exact LeO.none _
   | refine LeO.ite ?_ ?_
   | refine LeO.bind ?_ (fun _ => ?_)
theorem fleuronlaw03_OutlineBoxes.mono : ∀ a0 a1 a2 a3 k, LeO (fleuronlaw03_OutlineBoxes.f k a0 a1 a2 a3) (fleuronlaw03_OutlineBoxes.f (k + 1) a0 a1 a2 a3) := by
 intro a0 a1 a2 a3 k
 obtain ⟨ih0, ih1⟩ := fleuronlaw03_OutlineBoxes.mono_l k
 unfold fleuronlaw03_OutlineBoxes.f
 repeat' first
   | (with_reducible exact ih0 _ _ _ _ _ _ _ _ _ _ _ _)
   | (with_reducible exact ih1 _ _ _ _ _ _ _ _ _ _ _ _ _ _ _ _)
   | (with_reducible exact outline_Moved.mono _ _ _ _ _)
   | (with_reducible exact outline_Right.mono _ _ _)
   | (with_reducible exact LeO.refl _)
   | (with_reducible exact LeO.none _)
   | (with_reducible refine LeO.ite ?_ ?_)
   | (with_reducible refine LeO.bind ?_ (fun _ => ?_))
   | exact ih0 _ _ _ _ _ _ _ _ _ _ _ _
   | exact ih1 _ _ _ _ _ _ _ _ _ _ _ _ _ _ _ _
   | exact outline_Moved.mono _ _ _ _ _
   | exact outline_Right.mono _ _ _
   | exact LeO.none _
   | refine LeO.ite ?_ ?_
   | refine LeO.bind ?_ (fun _ => ?_)
set_option maxHeartbeats 8000000 in
set_option maxRecDepth 100000 in
theorem fleuronlaw03_OutlineBoxes.calls (k : Nat) (A0_0 : Option Addr) (c0_0 : Nat) (l0_0 : List (S33)) (A0_1 : Option Addr) (c0_1 : Nat) (l0_1 : List Int) (a1 : Int) (a2 : Int) (r : Bool) (w : World) (hr0_0 : Kd.C k33 w A0_0 l0_0.length l0_0) (hc0_0 : l0_0.length ≤ c0_0) (hr0_1 : Kd.C (Kd.int .i64) w A0_1 l0_1.length l0_1) (hc0_1 : l0_1.length ≤ c0_1) (h : fleuronlaw03_OutlineBoxes.f k l0_0 l0_1 a1 a2 = some r) :
  Calls Try.prog 7 #[.agg #[.slice A0_0 l0_0.length c0_0, .slice A0_1 l0_1.length c0_1], .int .i64 a1, .int .i64 a2] w fun e w' => e = .returned (.bool r) ∧ Below w.heap.size w w' := by
 have hu25 := Try.underlying25
 have hu33 := Try.underlying33
 have hu48 := Try.underlying48
 have HR0_0 := aM hr0_0
 have HC0_0 := aM hc0_0
 clear hr0_0 hc0_0
 have HR0_1 := aM hr0_1
 have HC0_1 := aM hc0_1
 clear hr0_1 hc0_1
 have HB := aM (Below.refl w.heap.size w)
 have H : ((outline_Box.f l0_0 l0_1).bind fun bt598 => ((outline_Right.f k l0_0 l0_1).bind fun t607 => (if t607 = true then (if a1 > 100000 then (fleuronlaw03_OutlineBoxes.j0 k a1 a2 bt598.2.2.2.2.2.2 true l0_0 l0_1 bt598.1 bt598.2.1 bt598.2.2.1 bt598.2.2.2.1 bt598.2.2.2.2.1 bt598.2.2.2.2.2.1) else (if a1 < (-100000) then (fleuronlaw03_OutlineBoxes.j0 k a1 a2 bt598.2.2.2.2.2.2 true l0_0 l0_1 bt598.1 bt598.2.1 bt598.2.2.1 bt598.2.2.2.1 bt598.2.2.2.2.1 bt598.2.2.2.2.2.1) else (if a2 > 100000 then (fleuronlaw03_OutlineBoxes.j0 k a1 a2 bt598.2.2.2.2.2.2 true l0_0 l0_1 bt598.1 bt598.2.1 bt598.2.2.1 bt598.2.2.2.1 bt598.2.2.2.2.1 bt598.2.2.2.2.2.1) else (fleuronlaw03_OutlineBoxes.j0 k a1 a2 bt598.2.2.2.2.2.2 (decide (a2 < (-100000))) l0_0 l0_1 bt598.1 bt598.2.1 bt598.2.2.1 bt598.2.2.2.1 bt598.2.2.2.2.1 bt598.2.2.2.2.2.1)))) else (fleuronlaw03_OutlineBoxes.j0 k a1 a2 bt598.2.2.2.2.2.2 true l0_0 l0_1 bt598.1 bt598.2.1 bt598.2.2.1 bt598.2.2.2.1 bt598.2.2.2.2.1 bt598.2.2.2.2.2.1)))) = some r := h
 clear h
 replace H := Option.bind_eq_some_iff.mp H
 obtain ⟨⟨t598, t599, t600, t601, t602, t603, t604⟩, A40, H⟩ := H
 replace H : ((outline_Right.f k l0_0 l0_1).bind fun t607 => (if t607 = true then (if a1 > 100000 then (fleuronlaw03_OutlineBoxes.j0 k a1 a2 t604 true l0_0 l0_1 t598 t599 t600 t601 t602 t603) else (if a1 < (-100000) then (fleuronlaw03_OutlineBoxes.j0 k a1 a2 t604 true l0_0 l0_1 t598 t599 t600 t601 t602 t603) else (if a2 > 100000 then (fleuronlaw03_OutlineBoxes.j0 k a1 a2 t604 true l0_0 l0_1 t598 t599 t600 t601 t602 t603) else (fleuronlaw03_OutlineBoxes.j0 k a1 a2 t604 (decide (a2 < (-100000))) l0_0 l0_1 t598 t599 t600 t601 t602 t603)))) else (fleuronlaw03_OutlineBoxes.j0 k a1 a2 t604 true l0_0 l0_1 t598 t599 t600 t601 t602 t603))) = some r := H
 have A4 := aM A40
 clear A40
 have HC5 := aM H
 clear H
 go_enter Try.func7, Try.ntmps7
 go_upto_region 2 with (first | ((with_reducible refine gate_dst (N := 3) rfl ?_); (try (refine gate_guard (by rfl) ?_; dsimp only)); refine box_event ?hg (N := 3) ?hd (cs := #[.slice A0_0 l0_0.length c0_0, .slice A0_1 l0_1.length c0_1]) (t := 25) ?hr ?_; (case hd => rfl); (case hg => rfl); (case hr => first | (go_simp; done) | (go_simp; rfl)); intro gb597 hg w6 hbox hb; have n0_ := aM (below_step (by repeat (first | (with_reducible first | exact HB.out | apply bA | apply bN | apply bD) | exact HB.out)) hb); have n1_ := aM (hbox); have n2_ := aM ((by rw [hg]; exact (below_size (by repeat (first | (with_reducible first | exact HB.out | apply bA | apply bN | apply bD) | exact HB.out))) : w.heap.size ≤ gb597)); have n3_ := aM ((by rw [hg]; exact (below_size (by repeat (first | (with_reducible first | exact HB.out | apply bA | apply bN | apply bD) | exact HB.out))) : w.heap.size ≤ gb597)); clear HB; have HB := n0_; have BK597 := n1_; have GW597 := n2_; have GE597 := n3_; clear n0_ n1_ n2_ n3_; clear hb hbox hg; have hcz7_0 : w6.cell? ⟨gb597, 0, none⟩ = some (.slice A0_0 l0_0.length c0_0) := (blk_cell BK597.out 0).trans rfl; have hcz7_1 : w6.cell? ⟨gb597, 1, none⟩ = some (.slice A0_1 l0_1.length c0_1) := (blk_cell BK597.out 1).trans rfl; have hfz7_0 := blk_frozen BK597.out 0; have hfz7_1 := blk_frozen BK597.out 1) | ((with_reducible refine gate_callee (f := 19) rfl ?_); refine goesL_ (some 18) rfl rfl Try.func19 (by kernel_rfl) rfl #[.agg #[.slice A0_0 l0_0.length c0_0, .slice A0_1 l0_1.length c0_1]] rfl (by (try simp only [List.map_toArray, List.map_cons, List.map_nil]); first | done | rfl | (simp only [List.length_drop, List.length_take]; rfl)) ?_; (with_reducible refine (outline_Box.calls _ _ l0_0 _ _ l0_1 t598 t599 t600 t601 t602 t603 t604 _ ?side1 ?side2 ?side3 ?side4 A4.out).mono ?_); (case side1 => repeat (first | exact (Kd.C_below HR0_0.out HB.out) | (with_reducible refine Kd.C_alloc ?_ _) | (with_reducible refine Kd.C_drewN ?_ _) | (with_reducible refine Kd.C_drew ?_))); (case side2 => exact HC0_0.out); (case side3 => repeat (first | exact (Kd.C_below HR0_1.out HB.out) | (with_reducible refine Kd.C_alloc ?_ _) | (with_reducible refine Kd.C_drewN ?_ _) | (with_reducible refine Kd.C_drew ?_))); (case side4 => exact HC0_1.out); rintro e w8 ⟨rfl, hb⟩; refine ⟨_, rfl, ?_⟩; have n0_ := aM (blk_below (g := gb597) (o := .cells #[.slice A0_0 l0_0.length c0_0, .slice A0_1 l0_1.length c0_1] 25 (0, 0)) (by (with_reducible repeat (first | refine kN ?_ _ | refine kD ?_ | refine kA ?_ _)); exact BK597.out) hb); have n1_ := aM (below_step (by repeat (first | (with_reducible first | exact HB.out | apply bA | apply bN | apply bD | refine bS ?_ GE597.out) | exact HB.out)) hb); clear BK597; clear HB; have BK597 := n0_; have HB := n1_; clear n0_ n1_; (try clear hb); (try clear hb2); (try clear hk); (try clear hi)) | ((with_reducible refine gate_dst (N := 7) rfl ?_); (try (refine gate_guard (by rfl) ?_; dsimp only)); refine box_event ?hg (N := 7) ?hd (cs := #[.int .i64 0, .int .i64 0, .bool false]) (t := 33) ?hr ?_; (case hd => rfl); (case hg => rfl); (case hr => first | (go_simp; done) | (go_simp; rfl)); intro gb605 hg w9 hbox hb; have n0_ := aM (blk_below (g := gb597) (o := .cells #[.slice A0_0 l0_0.length c0_0, .slice A0_1 l0_1.length c0_1] 25 (0, 0)) (by (with_reducible repeat (first | refine kN ?_ _ | refine kD ?_ | refine kA ?_ _)); exact BK597.out) hb); have n1_ := aM (below_step (by repeat (first | (with_reducible first | exact HB.out | apply bA | apply bN | apply bD | refine bS ?_ GE597.out) | exact HB.out)) hb); have n2_ := aM (hbox); have n3_ := aM ((by rw [hg]; exact (below_size (by repeat (first | (with_reducible first | exact HB.out | apply bA | apply bN | apply bD | refine bS ?_ GE597.out) | exact HB.out))) : w.heap.size ≤ gb605)); have n4_ := aM ((by rw [hg]; exact (below_size (by repeat (first | (with_reducible first | exact HB.out | apply bA | apply bN | apply bD | refine bS ?_ GE597.out) | exact HB.out))) : w.heap.size ≤ gb605)); have n5_ := aM ((by rw [hg]; exact Nat.ne_of_lt (blk_lt (g := gb597) (o := .cells #[.slice A0_0 l0_0.length c0_0, .slice A0_1 l0_1.length c0_1] 25 (0, 0)) (by (with_reducible repeat (first | refine kN ?_ _ | refine kD ?_ | refine kA ?_ _)); exact BK597.out)) : gb597 ≠ gb605)); have n6_ := aM ((by rw [hg]; exact Nat.ne_of_gt (blk_lt (g := gb597) (o := .cells #[.slice A0_0 l0_0.length c0_0, .slice A0_1 l0_1.length c0_1] 25 (0, 0)) (by (with_reducible repeat (first | refine kN ?_ _ | refine kD ?_ | refine kA ?_ _)); exact BK597.out)) : gb605 ≠ gb597)); clear BK597; clear HB; have BK597 := n0_; have HB := n1_; have BK605 := n2_; have GW605 := n3_; have GE605 := n4_; have NB597_605 := n5_; have NB605_597 := n6_; clear n0_ n1_ n2_ n3_ n4_ n5_ n6_; clear hb hbox hg) | ((with_reducible refine gate_dst (N := 8) rfl ?_); (try (refine gate_guard (by rfl) ?_; dsimp only)); refine box_event ?hg (N := 8) ?hd (cs := #[.int .i64 0, .int .i64 0, .bool false]) (t := 33) ?hr ?_; (case hd => rfl); (case hg => rfl); (case hr => first | (go_simp; done) | (go_simp; rfl)); intro gb606 hg w10 hbox hb; have n0_ := aM (blk_below (g := gb597) (o := .cells #[.slice A0_0 l0_0.length c0_0, .slice A0_1 l0_1.length c0_1] 25 (0, 0)) (by (with_reducible repeat (first | refine kN ?_ _ | refine kD ?_ | refine kA ?_ _)); exact BK597.out) hb); have n1_ := aM (blk_below (g := gb605) (o := .cells #[.int .i64 0, .int .i64 0, .bool false] 33 (0, 0)) (by (with_reducible repeat (first | refine kN ?_ _ | refine kD ?_ | refine kA ?_ _)); exact BK605.out) hb); have n2_ := aM (below_step (by repeat (first | (with_reducible first | exact HB.out | apply bA | apply bN | apply bD | refine bS ?_ GE597.out | refine bS ?_ GE605.out) | exact HB.out)) hb); have n3_ := aM (hbox); have n4_ := aM ((by rw [hg]; exact (below_size (by repeat (first | (with_reducible first | exact HB.out | apply bA | apply bN | apply bD | refine bS ?_ GE597.out | refine bS ?_ GE605.out) | exact HB.out))) : w.heap.size ≤ gb606)); have n5_ := aM ((by rw [hg]; exact (below_size (by repeat (first | (with_reducible first | exact HB.out | apply bA | apply bN | apply bD | refine bS ?_ GE597.out | refine bS ?_ GE605.out) | exact HB.out))) : w.heap.size ≤ gb606)); have n6_ := aM ((by rw [hg]; exact Nat.ne_of_lt (blk_lt (g := gb597) (o := .cells #[.slice A0_0 l0_0.length c0_0, .slice A0_1 l0_1.length c0_1] 25 (0, 0)) (by (with_reducible repeat (first | refine kN ?_ _ | refine kD ?_ | refine kA ?_ _)); exact BK597.out)) : gb597 ≠ gb606)); have n7_ := aM ((by rw [hg]; exact Nat.ne_of_gt (blk_lt (g := gb597) (o := .cells #[.slice A0_0 l0_0.length c0_0, .slice A0_1 l0_1.length c0_1] 25 (0, 0)) (by (with_reducible repeat (first | refine kN ?_ _ | refine kD ?_ | refine kA ?_ _)); exact BK597.out)) : gb606 ≠ gb597)); have n8_ := aM ((by rw [hg]; exact Nat.ne_of_lt (blk_lt (g := gb605) (o := .cells #[.int .i64 0, .int .i64 0, .bool false] 33 (0, 0)) (by (with_reducible repeat (first | refine kN ?_ _ | refine kD ?_ | refine kA ?_ _)); exact BK605.out)) : gb605 ≠ gb606)); have n9_ := aM ((by rw [hg]; exact Nat.ne_of_gt (blk_lt (g := gb605) (o := .cells #[.int .i64 0, .int .i64 0, .bool false] 33 (0, 0)) (by (with_reducible repeat (first | refine kN ?_ _ | refine kD ?_ | refine kA ?_ _)); exact BK605.out)) : gb606 ≠ gb605)); clear BK597; clear BK605; clear HB; have BK597 := n0_; have BK605 := n1_; have HB := n2_; have BK606 := n3_; have GW606 := n4_; have GE606 := n5_; have NB597_606 := n6_; have NB606_597 := n7_; have NB605_606 := n8_; have NB606_605 := n9_; clear n0_ n1_ n2_ n3_ n4_ n5_ n6_ n7_ n8_ n9_; clear hb hbox hg; have hnb11 := NB605_597.out; have hnc11 := NB597_605.out; have hnb12 := NB605_606.out; have hnc12 := NB606_605.out; have hcz13_0 : w10.cell? ⟨gb605, 0, none⟩ = some (.int .i64 0) := (blk_cell BK605.out 0).trans rfl; have hcz13_1 : w10.cell? ⟨gb605, 1, none⟩ = some (.int .i64 0) := (blk_cell BK605.out 1).trans rfl; have hcz13_2 : w10.cell? ⟨gb605, 2, none⟩ = some (.bool false) := (blk_cell BK605.out 2).trans rfl; have hfz13_0 := blk_frozen BK605.out 0; have hfz13_1 := blk_frozen BK605.out 1; have hfz13_2 := blk_frozen BK605.out 2; have hnb14 := NB606_597.out; have hnc14 := NB597_606.out; have hcz15_0 : w10.cell? ⟨gb606, 0, none⟩ = some (.int .i64 0) := (blk_cell BK606.out 0).trans rfl; have hcz15_1 : w10.cell? ⟨gb606, 1, none⟩ = some (.int .i64 0) := (blk_cell BK606.out 1).trans rfl; have hcz15_2 : w10.cell? ⟨gb606, 2, none⟩ = some (.bool false) := (blk_cell BK606.out 2).trans rfl; have hfz15_0 := blk_frozen BK606.out 0; have hfz15_1 := blk_frozen BK606.out 1; have hfz15_2 := blk_frozen BK606.out 2))
 (try simp only [Act.put, List.setIfInBounds_toArray, List.set_cons_zero, List.set_cons_succ])
 go_cut [40] (fun v40 wc => ∃ (kq : Nat) (x40_4 : Bool), v40 = .bool x40_4 ∧ Aside0 (fleuronlaw03_OutlineBoxes.j0 kq a1 a2 t604 x40_4 l0_0 l0_1 t598 t599 t600 t601 t602 t603 = some r) ∧ Aside0 (kq ≤ k) ∧ Aside0 (wc.heap[gb597]? = some (.cells #[(.slice A0_0 l0_0.length c0_0), (.slice A0_1 l0_1.length c0_1)] 25 (0, 0))) ∧ Aside0 (wc.heap[gb605]? = some (.cells #[.int .i64 t598, .int .i64 t599, .bool t600] 33 (0, 0))) ∧ Aside0 (wc.heap[gb606]? = some (.cells #[.int .i64 t601, .int .i64 t602, .bool t603] 33 (0, 0))) ∧ Aside0 (Below w.heap.size w wc))
 case first =>
  have H := HC5.out
  clear HC5
  replace H := Option.bind_eq_some_iff.mp H
  obtain ⟨t607, A160, H⟩ := H
  replace H : (if t607 = true then (if a1 > 100000 then (fleuronlaw03_OutlineBoxes.j0 k a1 a2 t604 true l0_0 l0_1 t598 t599 t600 t601 t602 t603) else (if a1 < (-100000) then (fleuronlaw03_OutlineBoxes.j0 k a1 a2 t604 true l0_0 l0_1 t598 t599 t600 t601 t602 t603) else (if a2 > 100000 then (fleuronlaw03_OutlineBoxes.j0 k a1 a2 t604 true l0_0 l0_1 t598 t599 t600 t601 t602 t603) else (fleuronlaw03_OutlineBoxes.j0 k a1 a2 t604 (decide (a2 < (-100000))) l0_0 l0_1 t598 t599 t600 t601 t602 t603)))) else (fleuronlaw03_OutlineBoxes.j0 k a1 a2 t604 true l0_0 l0_1 t598 t599 t600 t601 t602 t603)) = some r := H
  have A16 := aM A160
  clear A160
  by_cases c17 : t607 = true
  ·
   subst c17
   have H1 : (if a1 > 100000 then (fleuronlaw03_OutlineBoxes.j0 k a1 a2 t604 true l0_0 l0_1 t598 t599 t600 t601 t602 t603) else (if a1 < (-100000) then (fleuronlaw03_OutlineBoxes.j0 k a1 a2 t604 true l0_0 l0_1 t598 t599 t600 t601 t602 t603) else (if a2 > 100000 then (fleuronlaw03_OutlineBoxes.j0 k a1 a2 t604 true l0_0 l0_1 t598 t599 t600 t601 t602 t603) else (fleuronlaw03_OutlineBoxes.j0 k a1 a2 t604 (decide (a2 < (-100000))) l0_0 l0_1 t598 t599 t600 t601 t602 t603)))) = some r := by rw [if_pos rfl] at H; exact H
   clear H
   have H := H1
   clear H1
   by_cases c18 : a1 > 100000
   ·
    rw [if_pos c18] at H
    have c18b0 : decide (100000 < a1) = true := decide_eq_true c18
    clear c18
    (first | rw [c18b0] | (simp only [i64_w, i32_w]; rw [c18b0]) | skip)
    have H' := aM H
    clear H
    have hnb19 := NB597_605.out
    have hnc19 := NB605_597.out
    have hnb20 := NB597_606.out
    have hnc20 := NB606_597.out
    have hcz21_0 : w10.cell? ⟨gb597, 0, none⟩ = some (.slice A0_0 l0_0.length c0_0) := (blk_cell BK597.out 0).trans rfl
    have hcz21_1 : w10.cell? ⟨gb597, 1, none⟩ = some (.slice A0_1 l0_1.length c0_1) := (blk_cell BK597.out 1).trans rfl
    have hfz21_0 := blk_frozen BK597.out 0
    have hfz21_1 := blk_frozen BK597.out 1
    go_wp2_with (first | ((with_reducible refine gate_callee (f := 22) rfl ?_); refine goesL_ (some 23) rfl rfl Try.func22 (by kernel_rfl) rfl #[.agg #[.slice A0_0 l0_0.length c0_0, .slice A0_1 l0_1.length c0_1]] rfl (by (try simp only [List.map_toArray, List.map_cons, List.map_nil]); first | done | rfl | (simp only [List.length_drop, List.length_take]; rfl)) ?_; (with_reducible refine (outline_Right.calls k _ _ l0_0 _ _ l0_1 true _ ?side1 ?side2 ?side3 ?side4 A16.out).mono ?_); (case side1 => exact Kd.C_below HR0_0.out (by repeat (first | (with_reducible first | exact HB.out | apply bA | apply bN | apply bD | refine bS ?_ GE597.out | refine bS ?_ GE605.out | refine bS ?_ GE606.out) | exact HB.out))); (case side2 => exact HC0_0.out); (case side3 => exact Kd.C_below HR0_1.out (by repeat (first | (with_reducible first | exact HB.out | apply bA | apply bN | apply bD | refine bS ?_ GE597.out | refine bS ?_ GE605.out | refine bS ?_ GE606.out) | exact HB.out))); (case side4 => exact HC0_1.out); rintro e w22 ⟨rfl, hb⟩; refine ⟨_, rfl, ?_⟩; have n0_ := aM (blk_below (g := gb597) (o := .cells #[.slice A0_0 l0_0.length c0_0, .slice A0_1 l0_1.length c0_1] 25 (0, 0)) (by (with_reducible repeat (first | refine kN ?_ _ | refine kD ?_ | refine kA ?_ _)); refine blk_far ?_ NB597_606.out _; (with_reducible repeat (first | refine kN ?_ _ | refine kD ?_ | refine kA ?_ _)); refine blk_far ?_ NB597_606.out _; (with_reducible repeat (first | refine kN ?_ _ | refine kD ?_ | refine kA ?_ _)); refine blk_far ?_ NB597_606.out _; (with_reducible repeat (first | refine kN ?_ _ | refine kD ?_ | refine kA ?_ _)); refine blk_far ?_ NB597_605.out _; (with_reducible repeat (first | refine kN ?_ _ | refine kD ?_ | refine kA ?_ _)); refine blk_far ?_ NB597_605.out _; (with_reducible repeat (first | refine kN ?_ _ | refine kD ?_ | refine kA ?_ _)); refine blk_far ?_ NB597_605.out _; (with_reducible repeat (first | refine kN ?_ _ | refine kD ?_ | refine kA ?_ _)); exact BK597.out) hb); have n1_ := aM (blk_below (g := gb605) (o := .cells #[.int .i64 t598, .int .i64 t599, .bool t600] 33 (0, 0)) (by (with_reducible repeat (first | refine kN ?_ _ | refine kD ?_ | refine kA ?_ _)); refine blk_far ?_ NB605_606.out _; (with_reducible repeat (first | refine kN ?_ _ | refine kD ?_ | refine kA ?_ _)); refine blk_far ?_ NB605_606.out _; (with_reducible repeat (first | refine kN ?_ _ | refine kD ?_ | refine kA ?_ _)); refine blk_far ?_ NB605_606.out _; (with_reducible repeat (first | refine kN ?_ _ | refine kD ?_ | refine kA ?_ _)); refine blk_put (cs := #[.int .i64 t598, .int .i64 t599, .bool false]) ?_ 2 _ rfl; (with_reducible repeat (first | refine kN ?_ _ | refine kD ?_ | refine kA ?_ _)); refine blk_put (cs := #[.int .i64 t598, .int .i64 0, .bool false]) ?_ 1 _ rfl; (with_reducible repeat (first | refine kN ?_ _ | refine kD ?_ | refine kA ?_ _)); refine blk_put (cs := #[.int .i64 0, .int .i64 0, .bool false]) ?_ 0 _ rfl; (with_reducible repeat (first | refine kN ?_ _ | refine kD ?_ | refine kA ?_ _)); exact BK605.out) hb); have n2_ := aM (blk_below (g := gb606) (o := .cells #[.int .i64 t601, .int .i64 t602, .bool t603] 33 (0, 0)) (by (with_reducible repeat (first | refine kN ?_ _ | refine kD ?_ | refine kA ?_ _)); refine blk_put (cs := #[.int .i64 t601, .int .i64 t602, .bool false]) ?_ 2 _ rfl; (with_reducible repeat (first | refine kN ?_ _ | refine kD ?_ | refine kA ?_ _)); refine blk_put (cs := #[.int .i64 t601, .int .i64 0, .bool false]) ?_ 1 _ rfl; (with_reducible repeat (first | refine kN ?_ _ | refine kD ?_ | refine kA ?_ _)); refine blk_put (cs := #[.int .i64 0, .int .i64 0, .bool false]) ?_ 0 _ rfl; (with_reducible repeat (first | refine kN ?_ _ | refine kD ?_ | refine kA ?_ _)); refine blk_far ?_ NB606_605.out _; (with_reducible repeat (first | refine kN ?_ _ | refine kD ?_ | refine kA ?_ _)); refine blk_far ?_ NB606_605.out _; (with_reducible repeat (first | refine kN ?_ _ | refine kD ?_ | refine kA ?_ _)); refine blk_far ?_ NB606_605.out _; (with_reducible repeat (first | refine kN ?_ _ | refine kD ?_ | refine kA ?_ _)); exact BK606.out) hb); have n3_ := aM (below_step (by repeat (first | (with_reducible first | exact HB.out | apply bA | apply bN | apply bD | refine bS ?_ GE597.out | refine bS ?_ GE605.out | refine bS ?_ GE606.out) | exact HB.out)) hb); clear BK597; clear BK605; clear BK606; clear HB; have BK597 := n0_; have BK605 := n1_; have BK606 := n2_; have HB := n3_; clear n0_ n1_ n2_ n3_; (try clear hb); (try clear hb2); (try clear hk); (try clear hi)))
    go_meet
    case rel => exact ⟨_, (true), (by first | rfl | (simp; done) | (simp [*]; done)), H', ⟨by first | omega | exact Nat.le_refl _⟩, ⟨by (with_reducible repeat (first | refine kN ?_ _ | refine kD ?_ | refine kA ?_ _)); exact BK597.out⟩, ⟨by (with_reducible repeat (first | refine kN ?_ _ | refine kD ?_ | refine kA ?_ _)); exact BK605.out⟩, ⟨by (with_reducible repeat (first | refine kN ?_ _ | refine kD ?_ | refine kA ?_ _)); exact BK606.out⟩, ⟨by repeat (first | (with_reducible first | exact HB.out | apply bA | apply bN | apply bD | refine bS ?_ GE597.out | refine bS ?_ GE605.out | refine bS ?_ GE606.out) | exact HB.out)⟩⟩
   ·
    rw [if_neg c18] at H
    have c18b0 : decide (100000 < a1) = false := decide_eq_false c18
    clear c18
    (first | rw [c18b0] | (simp only [i64_w, i32_w]; rw [c18b0]) | skip)
    by_cases c23 : a1 < (-100000)
    ·
     rw [if_pos c23] at H
     have c23b0 : decide (a1 < (-100000)) = true := decide_eq_true c23
     clear c23
     have H' := aM H
     clear H
     have hnb24 := NB597_605.out
     have hnc24 := NB605_597.out
     have hnb25 := NB597_606.out
     have hnc25 := NB606_597.out
     have hcz26_0 : w10.cell? ⟨gb597, 0, none⟩ = some (.slice A0_0 l0_0.length c0_0) := (blk_cell BK597.out 0).trans rfl
     have hcz26_1 : w10.cell? ⟨gb597, 1, none⟩ = some (.slice A0_1 l0_1.length c0_1) := (blk_cell BK597.out 1).trans rfl
     have hfz26_0 := blk_frozen BK597.out 0
     have hfz26_1 := blk_frozen BK597.out 1
     go_wp2_with (first | ((with_reducible refine gate_callee (f := 22) rfl ?_); refine goesL_ (some 23) rfl rfl Try.func22 (by kernel_rfl) rfl #[.agg #[.slice A0_0 l0_0.length c0_0, .slice A0_1 l0_1.length c0_1]] rfl (by (try simp only [List.map_toArray, List.map_cons, List.map_nil]); first | done | rfl | (simp only [List.length_drop, List.length_take]; rfl)) ?_; (with_reducible refine (outline_Right.calls k _ _ l0_0 _ _ l0_1 true _ ?side1 ?side2 ?side3 ?side4 A16.out).mono ?_); (case side1 => exact Kd.C_below HR0_0.out (by repeat (first | (with_reducible first | exact HB.out | apply bA | apply bN | apply bD | refine bS ?_ GE597.out | refine bS ?_ GE605.out | refine bS ?_ GE606.out) | exact HB.out))); (case side2 => exact HC0_0.out); (case side3 => exact Kd.C_below HR0_1.out (by repeat (first | (with_reducible first | exact HB.out | apply bA | apply bN | apply bD | refine bS ?_ GE597.out | refine bS ?_ GE605.out | refine bS ?_ GE606.out) | exact HB.out))); (case side4 => exact HC0_1.out); rintro e w27 ⟨rfl, hb⟩; refine ⟨_, rfl, ?_⟩; have n0_ := aM (blk_below (g := gb597) (o := .cells #[.slice A0_0 l0_0.length c0_0, .slice A0_1 l0_1.length c0_1] 25 (0, 0)) (by (with_reducible repeat (first | refine kN ?_ _ | refine kD ?_ | refine kA ?_ _)); refine blk_far ?_ NB597_606.out _; (with_reducible repeat (first | refine kN ?_ _ | refine kD ?_ | refine kA ?_ _)); refine blk_far ?_ NB597_606.out _; (with_reducible repeat (first | refine kN ?_ _ | refine kD ?_ | refine kA ?_ _)); refine blk_far ?_ NB597_606.out _; (with_reducible repeat (first | refine kN ?_ _ | refine kD ?_ | refine kA ?_ _)); refine blk_far ?_ NB597_605.out _; (with_reducible repeat (first | refine kN ?_ _ | refine kD ?_ | refine kA ?_ _)); refine blk_far ?_ NB597_605.out _; (with_reducible repeat (first | refine kN ?_ _ | refine kD ?_ | refine kA ?_ _)); refine blk_far ?_ NB597_605.out _; (with_reducible repeat (first | refine kN ?_ _ | refine kD ?_ | refine kA ?_ _)); exact BK597.out) hb); have n1_ := aM (blk_below (g := gb605) (o := .cells #[.int .i64 t598, .int .i64 t599, .bool t600] 33 (0, 0)) (by (with_reducible repeat (first | refine kN ?_ _ | refine kD ?_ | refine kA ?_ _)); refine blk_far ?_ NB605_606.out _; (with_reducible repeat (first | refine kN ?_ _ | refine kD ?_ | refine kA ?_ _)); refine blk_far ?_ NB605_606.out _; (with_reducible repeat (first | refine kN ?_ _ | refine kD ?_ | refine kA ?_ _)); refine blk_far ?_ NB605_606.out _; (with_reducible repeat (first | refine kN ?_ _ | refine kD ?_ | refine kA ?_ _)); refine blk_put (cs := #[.int .i64 t598, .int .i64 t599, .bool false]) ?_ 2 _ rfl; (with_reducible repeat (first | refine kN ?_ _ | refine kD ?_ | refine kA ?_ _)); refine blk_put (cs := #[.int .i64 t598, .int .i64 0, .bool false]) ?_ 1 _ rfl; (with_reducible repeat (first | refine kN ?_ _ | refine kD ?_ | refine kA ?_ _)); refine blk_put (cs := #[.int .i64 0, .int .i64 0, .bool false]) ?_ 0 _ rfl; (with_reducible repeat (first | refine kN ?_ _ | refine kD ?_ | refine kA ?_ _)); exact BK605.out) hb); have n2_ := aM (blk_below (g := gb606) (o := .cells #[.int .i64 t601, .int .i64 t602, .bool t603] 33 (0, 0)) (by (with_reducible repeat (first | refine kN ?_ _ | refine kD ?_ | refine kA ?_ _)); refine blk_put (cs := #[.int .i64 t601, .int .i64 t602, .bool false]) ?_ 2 _ rfl; (with_reducible repeat (first | refine kN ?_ _ | refine kD ?_ | refine kA ?_ _)); refine blk_put (cs := #[.int .i64 t601, .int .i64 0, .bool false]) ?_ 1 _ rfl; (with_reducible repeat (first | refine kN ?_ _ | refine kD ?_ | refine kA ?_ _)); refine blk_put (cs := #[.int .i64 0, .int .i64 0, .bool false]) ?_ 0 _ rfl; (with_reducible repeat (first | refine kN ?_ _ | refine kD ?_ | refine kA ?_ _)); refine blk_far ?_ NB606_605.out _; (with_reducible repeat (first | refine kN ?_ _ | refine kD ?_ | refine kA ?_ _)); refine blk_far ?_ NB606_605.out _; (with_reducible repeat (first | refine kN ?_ _ | refine kD ?_ | refine kA ?_ _)); refine blk_far ?_ NB606_605.out _; (with_reducible repeat (first | refine kN ?_ _ | refine kD ?_ | refine kA ?_ _)); exact BK606.out) hb); have n3_ := aM (below_step (by repeat (first | (with_reducible first | exact HB.out | apply bA | apply bN | apply bD | refine bS ?_ GE597.out | refine bS ?_ GE605.out | refine bS ?_ GE606.out) | exact HB.out)) hb); clear BK597; clear BK605; clear BK606; clear HB; have BK597 := n0_; have BK605 := n1_; have BK606 := n2_; have HB := n3_; clear n0_ n1_ n2_ n3_; (try clear hb); (try clear hb2); (try clear hk); (try clear hi)))
     go_meet
     case rel => exact ⟨_, (true), (by first | rfl | (simp; done) | (simp [*]; done)), H', ⟨by first | omega | exact Nat.le_refl _⟩, ⟨by (with_reducible repeat (first | refine kN ?_ _ | refine kD ?_ | refine kA ?_ _)); exact BK597.out⟩, ⟨by (with_reducible repeat (first | refine kN ?_ _ | refine kD ?_ | refine kA ?_ _)); exact BK605.out⟩, ⟨by (with_reducible repeat (first | refine kN ?_ _ | refine kD ?_ | refine kA ?_ _)); exact BK606.out⟩, ⟨by repeat (first | (with_reducible first | exact HB.out | apply bA | apply bN | apply bD | refine bS ?_ GE597.out | refine bS ?_ GE605.out | refine bS ?_ GE606.out) | exact HB.out)⟩⟩
    ·
     rw [if_neg c23] at H
     have c23b0 : decide (a1 < (-100000)) = false := decide_eq_false c23
     clear c23
     by_cases c28 : a2 > 100000
     ·
      rw [if_pos c28] at H
      have c28b0 : decide (100000 < a2) = true := decide_eq_true c28
      clear c28
      have H' := aM H
      clear H
      have hnb29 := NB597_605.out
      have hnc29 := NB605_597.out
      have hnb30 := NB597_606.out
      have hnc30 := NB606_597.out
      have hcz31_0 : w10.cell? ⟨gb597, 0, none⟩ = some (.slice A0_0 l0_0.length c0_0) := (blk_cell BK597.out 0).trans rfl
      have hcz31_1 : w10.cell? ⟨gb597, 1, none⟩ = some (.slice A0_1 l0_1.length c0_1) := (blk_cell BK597.out 1).trans rfl
      have hfz31_0 := blk_frozen BK597.out 0
      have hfz31_1 := blk_frozen BK597.out 1
      go_wp2_with (first | ((with_reducible refine gate_callee (f := 22) rfl ?_); refine goesL_ (some 23) rfl rfl Try.func22 (by kernel_rfl) rfl #[.agg #[.slice A0_0 l0_0.length c0_0, .slice A0_1 l0_1.length c0_1]] rfl (by (try simp only [List.map_toArray, List.map_cons, List.map_nil]); first | done | rfl | (simp only [List.length_drop, List.length_take]; rfl)) ?_; (with_reducible refine (outline_Right.calls k _ _ l0_0 _ _ l0_1 true _ ?side1 ?side2 ?side3 ?side4 A16.out).mono ?_); (case side1 => exact Kd.C_below HR0_0.out (by repeat (first | (with_reducible first | exact HB.out | apply bA | apply bN | apply bD | refine bS ?_ GE597.out | refine bS ?_ GE605.out | refine bS ?_ GE606.out) | exact HB.out))); (case side2 => exact HC0_0.out); (case side3 => exact Kd.C_below HR0_1.out (by repeat (first | (with_reducible first | exact HB.out | apply bA | apply bN | apply bD | refine bS ?_ GE597.out | refine bS ?_ GE605.out | refine bS ?_ GE606.out) | exact HB.out))); (case side4 => exact HC0_1.out); rintro e w32 ⟨rfl, hb⟩; refine ⟨_, rfl, ?_⟩; have n0_ := aM (blk_below (g := gb597) (o := .cells #[.slice A0_0 l0_0.length c0_0, .slice A0_1 l0_1.length c0_1] 25 (0, 0)) (by (with_reducible repeat (first | refine kN ?_ _ | refine kD ?_ | refine kA ?_ _)); refine blk_far ?_ NB597_606.out _; (with_reducible repeat (first | refine kN ?_ _ | refine kD ?_ | refine kA ?_ _)); refine blk_far ?_ NB597_606.out _; (with_reducible repeat (first | refine kN ?_ _ | refine kD ?_ | refine kA ?_ _)); refine blk_far ?_ NB597_606.out _; (with_reducible repeat (first | refine kN ?_ _ | refine kD ?_ | refine kA ?_ _)); refine blk_far ?_ NB597_605.out _; (with_reducible repeat (first | refine kN ?_ _ | refine kD ?_ | refine kA ?_ _)); refine blk_far ?_ NB597_605.out _; (with_reducible repeat (first | refine kN ?_ _ | refine kD ?_ | refine kA ?_ _)); refine blk_far ?_ NB597_605.out _; (with_reducible repeat (first | refine kN ?_ _ | refine kD ?_ | refine kA ?_ _)); exact BK597.out) hb); have n1_ := aM (blk_below (g := gb605) (o := .cells #[.int .i64 t598, .int .i64 t599, .bool t600] 33 (0, 0)) (by (with_reducible repeat (first | refine kN ?_ _ | refine kD ?_ | refine kA ?_ _)); refine blk_far ?_ NB605_606.out _; (with_reducible repeat (first | refine kN ?_ _ | refine kD ?_ | refine kA ?_ _)); refine blk_far ?_ NB605_606.out _; (with_reducible repeat (first | refine kN ?_ _ | refine kD ?_ | refine kA ?_ _)); refine blk_far ?_ NB605_606.out _; (with_reducible repeat (first | refine kN ?_ _ | refine kD ?_ | refine kA ?_ _)); refine blk_put (cs := #[.int .i64 t598, .int .i64 t599, .bool false]) ?_ 2 _ rfl; (with_reducible repeat (first | refine kN ?_ _ | refine kD ?_ | refine kA ?_ _)); refine blk_put (cs := #[.int .i64 t598, .int .i64 0, .bool false]) ?_ 1 _ rfl; (with_reducible repeat (first | refine kN ?_ _ | refine kD ?_ | refine kA ?_ _)); refine blk_put (cs := #[.int .i64 0, .int .i64 0, .bool false]) ?_ 0 _ rfl; (with_reducible repeat (first | refine kN ?_ _ | refine kD ?_ | refine kA ?_ _)); exact BK605.out) hb); have n2_ := aM (blk_below (g := gb606) (o := .cells #[.int .i64 t601, .int .i64 t602, .bool t603] 33 (0, 0)) (by (with_reducible repeat (first | refine kN ?_ _ | refine kD ?_ | refine kA ?_ _)); refine blk_put (cs := #[.int .i64 t601, .int .i64 t602, .bool false]) ?_ 2 _ rfl; (with_reducible repeat (first | refine kN ?_ _ | refine kD ?_ | refine kA ?_ _)); refine blk_put (cs := #[.int .i64 t601, .int .i64 0, .bool false]) ?_ 1 _ rfl; (with_reducible repeat (first | refine kN ?_ _ | refine kD ?_ | refine kA ?_ _)); refine blk_put (cs := #[.int .i64 0, .int .i64 0, .bool false]) ?_ 0 _ rfl; (with_reducible repeat (first | refine kN ?_ _ | refine kD ?_ | refine kA ?_ _)); refine blk_far ?_ NB606_605.out _; (with_reducible repeat (first | refine kN ?_ _ | refine kD ?_ | refine kA ?_ _)); refine blk_far ?_ NB606_605.out _; (with_reducible repeat (first | refine kN ?_ _ | refine kD ?_ | refine kA ?_ _)); refine blk_far ?_ NB606_605.out _; (with_reducible repeat (first | refine kN ?_ _ | refine kD ?_ | refine kA ?_ _)); exact BK606.out) hb); have n3_ := aM (below_step (by repeat (first | (with_reducible first | exact HB.out | apply bA | apply bN | apply bD | refine bS ?_ GE597.out | refine bS ?_ GE605.out | refine bS ?_ GE606.out) | exact HB.out)) hb); clear BK597; clear BK605; clear BK606; clear HB; have BK597 := n0_; have BK605 := n1_; have BK606 := n2_; have HB := n3_; clear n0_ n1_ n2_ n3_; (try clear hb); (try clear hb2); (try clear hk); (try clear hi)))
      go_meet
      case rel => exact ⟨_, (true), (by first | rfl | (simp; done) | (simp [*]; done)), H', ⟨by first | omega | exact Nat.le_refl _⟩, ⟨by (with_reducible repeat (first | refine kN ?_ _ | refine kD ?_ | refine kA ?_ _)); exact BK597.out⟩, ⟨by (with_reducible repeat (first | refine kN ?_ _ | refine kD ?_ | refine kA ?_ _)); exact BK605.out⟩, ⟨by (with_reducible repeat (first | refine kN ?_ _ | refine kD ?_ | refine kA ?_ _)); exact BK606.out⟩, ⟨by repeat (first | (with_reducible first | exact HB.out | apply bA | apply bN | apply bD | refine bS ?_ GE597.out | refine bS ?_ GE605.out | refine bS ?_ GE606.out) | exact HB.out)⟩⟩
     ·
      rw [if_neg c28] at H
      have c28b0 : decide (100000 < a2) = false := decide_eq_false c28
      clear c28
      have H' := aM H
      clear H
      have hnb33 := NB597_605.out
      have hnc33 := NB605_597.out
      have hnb34 := NB597_606.out
      have hnc34 := NB606_597.out
      have hcz35_0 : w10.cell? ⟨gb597, 0, none⟩ = some (.slice A0_0 l0_0.length c0_0) := (blk_cell BK597.out 0).trans rfl
      have hcz35_1 : w10.cell? ⟨gb597, 1, none⟩ = some (.slice A0_1 l0_1.length c0_1) := (blk_cell BK597.out 1).trans rfl
      have hfz35_0 := blk_frozen BK597.out 0
      have hfz35_1 := blk_frozen BK597.out 1
      go_wp2_with (first | ((with_reducible refine gate_callee (f := 22) rfl ?_); refine goesL_ (some 23) rfl rfl Try.func22 (by kernel_rfl) rfl #[.agg #[.slice A0_0 l0_0.length c0_0, .slice A0_1 l0_1.length c0_1]] rfl (by (try simp only [List.map_toArray, List.map_cons, List.map_nil]); first | done | rfl | (simp only [List.length_drop, List.length_take]; rfl)) ?_; (with_reducible refine (outline_Right.calls k _ _ l0_0 _ _ l0_1 true _ ?side1 ?side2 ?side3 ?side4 A16.out).mono ?_); (case side1 => exact Kd.C_below HR0_0.out (by repeat (first | (with_reducible first | exact HB.out | apply bA | apply bN | apply bD | refine bS ?_ GE597.out | refine bS ?_ GE605.out | refine bS ?_ GE606.out) | exact HB.out))); (case side2 => exact HC0_0.out); (case side3 => exact Kd.C_below HR0_1.out (by repeat (first | (with_reducible first | exact HB.out | apply bA | apply bN | apply bD | refine bS ?_ GE597.out | refine bS ?_ GE605.out | refine bS ?_ GE606.out) | exact HB.out))); (case side4 => exact HC0_1.out); rintro e w36 ⟨rfl, hb⟩; refine ⟨_, rfl, ?_⟩; have n0_ := aM (blk_below (g := gb597) (o := .cells #[.slice A0_0 l0_0.length c0_0, .slice A0_1 l0_1.length c0_1] 25 (0, 0)) (by (with_reducible repeat (first | refine kN ?_ _ | refine kD ?_ | refine kA ?_ _)); refine blk_far ?_ NB597_606.out _; (with_reducible repeat (first | refine kN ?_ _ | refine kD ?_ | refine kA ?_ _)); refine blk_far ?_ NB597_606.out _; (with_reducible repeat (first | refine kN ?_ _ | refine kD ?_ | refine kA ?_ _)); refine blk_far ?_ NB597_606.out _; (with_reducible repeat (first | refine kN ?_ _ | refine kD ?_ | refine kA ?_ _)); refine blk_far ?_ NB597_605.out _; (with_reducible repeat (first | refine kN ?_ _ | refine kD ?_ | refine kA ?_ _)); refine blk_far ?_ NB597_605.out _; (with_reducible repeat (first | refine kN ?_ _ | refine kD ?_ | refine kA ?_ _)); refine blk_far ?_ NB597_605.out _; (with_reducible repeat (first | refine kN ?_ _ | refine kD ?_ | refine kA ?_ _)); exact BK597.out) hb); have n1_ := aM (blk_below (g := gb605) (o := .cells #[.int .i64 t598, .int .i64 t599, .bool t600] 33 (0, 0)) (by (with_reducible repeat (first | refine kN ?_ _ | refine kD ?_ | refine kA ?_ _)); refine blk_far ?_ NB605_606.out _; (with_reducible repeat (first | refine kN ?_ _ | refine kD ?_ | refine kA ?_ _)); refine blk_far ?_ NB605_606.out _; (with_reducible repeat (first | refine kN ?_ _ | refine kD ?_ | refine kA ?_ _)); refine blk_far ?_ NB605_606.out _; (with_reducible repeat (first | refine kN ?_ _ | refine kD ?_ | refine kA ?_ _)); refine blk_put (cs := #[.int .i64 t598, .int .i64 t599, .bool false]) ?_ 2 _ rfl; (with_reducible repeat (first | refine kN ?_ _ | refine kD ?_ | refine kA ?_ _)); refine blk_put (cs := #[.int .i64 t598, .int .i64 0, .bool false]) ?_ 1 _ rfl; (with_reducible repeat (first | refine kN ?_ _ | refine kD ?_ | refine kA ?_ _)); refine blk_put (cs := #[.int .i64 0, .int .i64 0, .bool false]) ?_ 0 _ rfl; (with_reducible repeat (first | refine kN ?_ _ | refine kD ?_ | refine kA ?_ _)); exact BK605.out) hb); have n2_ := aM (blk_below (g := gb606) (o := .cells #[.int .i64 t601, .int .i64 t602, .bool t603] 33 (0, 0)) (by (with_reducible repeat (first | refine kN ?_ _ | refine kD ?_ | refine kA ?_ _)); refine blk_put (cs := #[.int .i64 t601, .int .i64 t602, .bool false]) ?_ 2 _ rfl; (with_reducible repeat (first | refine kN ?_ _ | refine kD ?_ | refine kA ?_ _)); refine blk_put (cs := #[.int .i64 t601, .int .i64 0, .bool false]) ?_ 1 _ rfl; (with_reducible repeat (first | refine kN ?_ _ | refine kD ?_ | refine kA ?_ _)); refine blk_put (cs := #[.int .i64 0, .int .i64 0, .bool false]) ?_ 0 _ rfl; (with_reducible repeat (first | refine kN ?_ _ | refine kD ?_ | refine kA ?_ _)); refine blk_far ?_ NB606_605.out _; (with_reducible repeat (first | refine kN ?_ _ | refine kD ?_ | refine kA ?_ _)); refine blk_far ?_ NB606_605.out _; (with_reducible repeat (first | refine kN ?_ _ | refine kD ?_ | refine kA ?_ _)); refine blk_far ?_ NB606_605.out _; (with_reducible repeat (first | refine kN ?_ _ | refine kD ?_ | refine kA ?_ _)); exact BK606.out) hb); have n3_ := aM (below_step (by repeat (first | (with_reducible first | exact HB.out | apply bA | apply bN | apply bD | refine bS ?_ GE597.out | refine bS ?_ GE605.out | refine bS ?_ GE606.out) | exact HB.out)) hb); clear BK597; clear BK605; clear BK606; clear HB; have BK597 := n0_; have BK605 := n1_; have BK606 := n2_; have HB := n3_; clear n0_ n1_ n2_ n3_; (try clear hb); (try clear hb2); (try clear hk); (try clear hi)))
      go_meet
      case rel => exact ⟨_, (decide (a2 < (-100000))), (by first | rfl | (simp; done) | (simp [*]; done)), H', ⟨by first | omega | exact Nat.le_refl _⟩, ⟨by (with_reducible repeat (first | refine kN ?_ _ | refine kD ?_ | refine kA ?_ _)); exact BK597.out⟩, ⟨by (with_reducible repeat (first | refine kN ?_ _ | refine kD ?_ | refine kA ?_ _)); exact BK605.out⟩, ⟨by (with_reducible repeat (first | refine kN ?_ _ | refine kD ?_ | refine kA ?_ _)); exact BK606.out⟩, ⟨by repeat (first | (with_reducible first | exact HB.out | apply bA | apply bN | apply bD | refine bS ?_ GE597.out | refine bS ?_ GE605.out | refine bS ?_ GE606.out) | exact HB.out)⟩⟩
  ·
   replace c17 := Bool.eq_false_iff.mpr c17
   subst c17
   have H1 : (fleuronlaw03_OutlineBoxes.j0 k a1 a2 t604 true l0_0 l0_1 t598 t599 t600 t601 t602 t603) = some r := by rw [if_neg (show ¬ (false = true) by decide)] at H; exact H
   clear H
   have H := H1
   clear H1
   have H' := aM H
   clear H
   have hnb37 := NB597_605.out
   have hnc37 := NB605_597.out
   have hnb38 := NB597_606.out
   have hnc38 := NB606_597.out
   have hcz39_0 : w10.cell? ⟨gb597, 0, none⟩ = some (.slice A0_0 l0_0.length c0_0) := (blk_cell BK597.out 0).trans rfl
   have hcz39_1 : w10.cell? ⟨gb597, 1, none⟩ = some (.slice A0_1 l0_1.length c0_1) := (blk_cell BK597.out 1).trans rfl
   have hfz39_0 := blk_frozen BK597.out 0
   have hfz39_1 := blk_frozen BK597.out 1
   go_wp2_with (first | ((with_reducible refine gate_callee (f := 22) rfl ?_); refine goesL_ (some 23) rfl rfl Try.func22 (by kernel_rfl) rfl #[.agg #[.slice A0_0 l0_0.length c0_0, .slice A0_1 l0_1.length c0_1]] rfl (by (try simp only [List.map_toArray, List.map_cons, List.map_nil]); first | done | rfl | (simp only [List.length_drop, List.length_take]; rfl)) ?_; (with_reducible refine (outline_Right.calls k _ _ l0_0 _ _ l0_1 false _ ?side1 ?side2 ?side3 ?side4 A16.out).mono ?_); (case side1 => exact Kd.C_below HR0_0.out (by repeat (first | (with_reducible first | exact HB.out | apply bA | apply bN | apply bD | refine bS ?_ GE597.out | refine bS ?_ GE605.out | refine bS ?_ GE606.out) | exact HB.out))); (case side2 => exact HC0_0.out); (case side3 => exact Kd.C_below HR0_1.out (by repeat (first | (with_reducible first | exact HB.out | apply bA | apply bN | apply bD | refine bS ?_ GE597.out | refine bS ?_ GE605.out | refine bS ?_ GE606.out) | exact HB.out))); (case side4 => exact HC0_1.out); rintro e w40 ⟨rfl, hb⟩; refine ⟨_, rfl, ?_⟩; have n0_ := aM (blk_below (g := gb597) (o := .cells #[.slice A0_0 l0_0.length c0_0, .slice A0_1 l0_1.length c0_1] 25 (0, 0)) (by (with_reducible repeat (first | refine kN ?_ _ | refine kD ?_ | refine kA ?_ _)); refine blk_far ?_ NB597_606.out _; (with_reducible repeat (first | refine kN ?_ _ | refine kD ?_ | refine kA ?_ _)); refine blk_far ?_ NB597_606.out _; (with_reducible repeat (first | refine kN ?_ _ | refine kD ?_ | refine kA ?_ _)); refine blk_far ?_ NB597_606.out _; (with_reducible repeat (first | refine kN ?_ _ | refine kD ?_ | refine kA ?_ _)); refine blk_far ?_ NB597_605.out _; (with_reducible repeat (first | refine kN ?_ _ | refine kD ?_ | refine kA ?_ _)); refine blk_far ?_ NB597_605.out _; (with_reducible repeat (first | refine kN ?_ _ | refine kD ?_ | refine kA ?_ _)); refine blk_far ?_ NB597_605.out _; (with_reducible repeat (first | refine kN ?_ _ | refine kD ?_ | refine kA ?_ _)); exact BK597.out) hb); have n1_ := aM (blk_below (g := gb605) (o := .cells #[.int .i64 t598, .int .i64 t599, .bool t600] 33 (0, 0)) (by (with_reducible repeat (first | refine kN ?_ _ | refine kD ?_ | refine kA ?_ _)); refine blk_far ?_ NB605_606.out _; (with_reducible repeat (first | refine kN ?_ _ | refine kD ?_ | refine kA ?_ _)); refine blk_far ?_ NB605_606.out _; (with_reducible repeat (first | refine kN ?_ _ | refine kD ?_ | refine kA ?_ _)); refine blk_far ?_ NB605_606.out _; (with_reducible repeat (first | refine kN ?_ _ | refine kD ?_ | refine kA ?_ _)); refine blk_put (cs := #[.int .i64 t598, .int .i64 t599, .bool false]) ?_ 2 _ rfl; (with_reducible repeat (first | refine kN ?_ _ | refine kD ?_ | refine kA ?_ _)); refine blk_put (cs := #[.int .i64 t598, .int .i64 0, .bool false]) ?_ 1 _ rfl; (with_reducible repeat (first | refine kN ?_ _ | refine kD ?_ | refine kA ?_ _)); refine blk_put (cs := #[.int .i64 0, .int .i64 0, .bool false]) ?_ 0 _ rfl; (with_reducible repeat (first | refine kN ?_ _ | refine kD ?_ | refine kA ?_ _)); exact BK605.out) hb); have n2_ := aM (blk_below (g := gb606) (o := .cells #[.int .i64 t601, .int .i64 t602, .bool t603] 33 (0, 0)) (by (with_reducible repeat (first | refine kN ?_ _ | refine kD ?_ | refine kA ?_ _)); refine blk_put (cs := #[.int .i64 t601, .int .i64 t602, .bool false]) ?_ 2 _ rfl; (with_reducible repeat (first | refine kN ?_ _ | refine kD ?_ | refine kA ?_ _)); refine blk_put (cs := #[.int .i64 t601, .int .i64 0, .bool false]) ?_ 1 _ rfl; (with_reducible repeat (first | refine kN ?_ _ | refine kD ?_ | refine kA ?_ _)); refine blk_put (cs := #[.int .i64 0, .int .i64 0, .bool false]) ?_ 0 _ rfl; (with_reducible repeat (first | refine kN ?_ _ | refine kD ?_ | refine kA ?_ _)); refine blk_far ?_ NB606_605.out _; (with_reducible repeat (first | refine kN ?_ _ | refine kD ?_ | refine kA ?_ _)); refine blk_far ?_ NB606_605.out _; (with_reducible repeat (first | refine kN ?_ _ | refine kD ?_ | refine kA ?_ _)); refine blk_far ?_ NB606_605.out _; (with_reducible repeat (first | refine kN ?_ _ | refine kD ?_ | refine kA ?_ _)); exact BK606.out) hb); have n3_ := aM (below_step (by repeat (first | (with_reducible first | exact HB.out | apply bA | apply bN | apply bD | refine bS ?_ GE597.out | refine bS ?_ GE605.out | refine bS ?_ GE606.out) | exact HB.out)) hb); clear BK597; clear BK605; clear BK606; clear HB; have BK597 := n0_; have BK605 := n1_; have BK606 := n2_; have HB := n3_; clear n0_ n1_ n2_ n3_; (try clear hb); (try clear hb2); (try clear hk); (try clear hi)))
   go_meet
   case rel => exact ⟨_, (true), (by first | rfl | (simp; done) | (simp [*]; done)), H', ⟨by first | omega | exact Nat.le_refl _⟩, ⟨by (with_reducible repeat (first | refine kN ?_ _ | refine kD ?_ | refine kA ?_ _)); exact BK597.out⟩, ⟨by (with_reducible repeat (first | refine kN ?_ _ | refine kD ?_ | refine kA ?_ _)); exact BK605.out⟩, ⟨by (with_reducible repeat (first | refine kN ?_ _ | refine kD ?_ | refine kA ?_ _)); exact BK606.out⟩, ⟨by repeat (first | (with_reducible first | exact HB.out | apply bA | apply bN | apply bD | refine bS ?_ GE597.out | refine bS ?_ GE605.out | refine bS ?_ GE606.out) | exact HB.out)⟩⟩
 case rest =>
  clear HC5
  try clear c1
  try clear c2
  try clear p2
  try clear c3
  try clear c7
  try clear c11
  try clear c12
  try clear c14
  try clear c17
  try clear c18
  try clear c18b0
  try clear c19
  try clear c20
  try clear c22
  try clear c23
  try clear c23b0
  try clear c24
  try clear c25
  try clear c28
  try clear c28b0
  try clear c29
  try clear c30
  try clear c33
  try clear c34
  try clear c37
  try clear c38
  try clear hcz13_0
  try clear hcz13_1
  try clear hcz13_2
  try clear hcz15_0
  try clear hcz15_1
  try clear hcz15_2
  try clear hcz21_0
  try clear hcz21_1
  try clear hcz26_0
  try clear hcz26_1
  try clear hcz31_0
  try clear hcz31_1
  try clear hcz35_0
  try clear hcz35_1
  try clear hcz39_0
  try clear hcz39_1
  try clear hcz7_0
  try clear hcz7_1
  try clear hfz13_0
  try clear hfz13_1
  try clear hfz13_2
  try clear hfz15_0
  try clear hfz15_1
  try clear hfz15_2
  try clear hfz21_0
  try clear hfz21_1
  try clear hfz26_0
  try clear hfz26_1
  try clear hfz31_0
  try clear hfz31_1
  try clear hfz35_0
  try clear hfz35_1
  try clear hfz39_0
  try clear hfz39_1
  try clear hfz7_0
  try clear hfz7_1
  obtain ⟨kq, x40_4, rfl, HA, HJ4, BK597, BK605, BK606, HB⟩ := hcut
  cases kq with
  | zero => exact absurd HA.out (by simp [fleuronlaw03_OutlineBoxes.j0])
  | succ kj4 =>
   have H := HA.out
   clear HA
   simp only [fleuronlaw03_OutlineBoxes.j0] at H
   by_cases c41 : x40_4 = true
   ·
    subst c41
    have H1 : ((fleuronlaw03_drawn.f).bind fun t608 => (some t608)) = some r := by rw [if_pos rfl] at H; exact H
    clear H
    have H := H1
    clear H1
    replace H := Option.bind_eq_some_iff.mp H
    obtain ⟨t608, A420, H⟩ := H
    replace H : (some t608) = some r := H
    have A42 := aM A420
    clear A420
    obtain rfl := Option.some.inj H
    go_wp2_with (first | ((with_reducible refine gate_callee (f := 21) rfl ?_); refine goesL_ (some 41) rfl rfl Try.func21 (by kernel_rfl) rfl #[] rfl (by (try simp only [List.map_toArray, List.map_cons, List.map_nil]); first | done | rfl | (simp only [List.length_drop, List.length_take]; rfl)) ?_; (with_reducible refine (fleuronlaw03_drawn.calls  t608 _ A42.out).mono ?_); rintro e w43 ⟨rfl, hb⟩; refine ⟨_, rfl, ?_⟩; have n0_ := aM (blk_below (g := gb597) (o := .cells #[.slice A0_0 l0_0.length c0_0, .slice A0_1 l0_1.length c0_1] 25 (0, 0)) (by (with_reducible repeat (first | refine kN ?_ _ | refine kD ?_ | refine kA ?_ _)); exact BK597.out) hb); have n1_ := aM (blk_below (g := gb605) (o := .cells #[.int .i64 t598, .int .i64 t599, .bool t600] 33 (0, 0)) (by (with_reducible repeat (first | refine kN ?_ _ | refine kD ?_ | refine kA ?_ _)); exact BK605.out) hb); have n2_ := aM (blk_below (g := gb606) (o := .cells #[.int .i64 t601, .int .i64 t602, .bool t603] 33 (0, 0)) (by (with_reducible repeat (first | refine kN ?_ _ | refine kD ?_ | refine kA ?_ _)); exact BK606.out) hb); have n3_ := aM (below_step (by repeat (first | (with_reducible first | exact HB.out | apply bA | apply bN | apply bD | refine bS ?_ GE597.out | refine bS ?_ GE605.out | refine bS ?_ GE606.out) | exact HB.out)) hb); clear BK597; clear BK605; clear BK606; clear HB; have BK597 := n0_; have BK605 := n1_; have BK606 := n2_; have HB := n3_; clear n0_ n1_ n2_ n3_; (try clear hb); (try clear hb2); (try clear hk); (try clear hi)))
    go_ret
    exact ⟨by first | rfl | (simp [errW_none, errW_some] <;> rfl) | (simp [*, errW_none, errW_some] <;> rfl), by repeat (first | (with_reducible first | exact HB.out | apply bA | apply bN | apply bD | refine bS ?_ GE597.out | refine bS ?_ GE605.out | refine bS ?_ GE606.out) | exact HB.out)⟩
   ·
    replace c41 := Bool.eq_false_iff.mpr c41
    subst c41
    have H1 : (fleuronlaw03_OutlineBoxes.l0 kj4 a1 a2 t604 0 l0_0 l0_1 t598 t599 t600 t601 t602 t603 false false false false) = some r := by rw [if_neg (show ¬ (false = true) by decide)] at H; exact H
    clear H
    have H := H1
    clear H1
    have H' := aM H
    clear H
    go_wp2_with (first | ((with_reducible refine gate_dst (N := 10) rfl ?_); (try (refine gate_guard (by rfl) ?_; dsimp only)); refine box_event ?hg (N := 10) ?hd (cs := #[.bool false, .bool false, .bool false, .bool false]) (t := 48) ?hr ?_; (case hd => rfl); (case hg => rfl); (case hr => first | (go_simp; done) | (go_simp; rfl)); intro gb609 hg w44 hbox hb; have n0_ := aM (blk_below (g := gb597) (o := .cells #[.slice A0_0 l0_0.length c0_0, .slice A0_1 l0_1.length c0_1] 25 (0, 0)) (by (with_reducible repeat (first | refine kN ?_ _ | refine kD ?_ | refine kA ?_ _)); exact BK597.out) hb); have n1_ := aM (blk_below (g := gb605) (o := .cells #[.int .i64 t598, .int .i64 t599, .bool t600] 33 (0, 0)) (by (with_reducible repeat (first | refine kN ?_ _ | refine kD ?_ | refine kA ?_ _)); exact BK605.out) hb); have n2_ := aM (blk_below (g := gb606) (o := .cells #[.int .i64 t601, .int .i64 t602, .bool t603] 33 (0, 0)) (by (with_reducible repeat (first | refine kN ?_ _ | refine kD ?_ | refine kA ?_ _)); exact BK606.out) hb); have n3_ := aM (below_step (by repeat (first | (with_reducible first | exact HB.out | apply bA | apply bN | apply bD | refine bS ?_ GE597.out | refine bS ?_ GE605.out | refine bS ?_ GE606.out) | exact HB.out)) hb); have n4_ := aM (hbox); have n5_ := aM ((by rw [hg]; exact (below_size (by repeat (first | (with_reducible first | exact HB.out | apply bA | apply bN | apply bD | refine bS ?_ GE597.out | refine bS ?_ GE605.out | refine bS ?_ GE606.out) | exact HB.out))) : w.heap.size ≤ gb609)); have n6_ := aM ((by rw [hg]; exact (below_size (by repeat (first | (with_reducible first | exact HB.out | apply bA | apply bN | apply bD | refine bS ?_ GE597.out | refine bS ?_ GE605.out | refine bS ?_ GE606.out) | exact HB.out))) : w.heap.size ≤ gb609)); have n7_ := aM ((by rw [hg]; exact Nat.ne_of_lt (blk_lt (g := gb597) (o := .cells #[.slice A0_0 l0_0.length c0_0, .slice A0_1 l0_1.length c0_1] 25 (0, 0)) (by (with_reducible repeat (first | refine kN ?_ _ | refine kD ?_ | refine kA ?_ _)); exact BK597.out)) : gb597 ≠ gb609)); have n8_ := aM ((by rw [hg]; exact Nat.ne_of_gt (blk_lt (g := gb597) (o := .cells #[.slice A0_0 l0_0.length c0_0, .slice A0_1 l0_1.length c0_1] 25 (0, 0)) (by (with_reducible repeat (first | refine kN ?_ _ | refine kD ?_ | refine kA ?_ _)); exact BK597.out)) : gb609 ≠ gb597)); have n9_ := aM ((by rw [hg]; exact Nat.ne_of_lt (blk_lt (g := gb605) (o := .cells #[.int .i64 t598, .int .i64 t599, .bool t600] 33 (0, 0)) (by (with_reducible repeat (first | refine kN ?_ _ | refine kD ?_ | refine kA ?_ _)); exact BK605.out)) : gb605 ≠ gb609)); have n10_ := aM ((by rw [hg]; exact Nat.ne_of_gt (blk_lt (g := gb605) (o := .cells #[.int .i64 t598, .int .i64 t599, .bool t600] 33 (0, 0)) (by (with_reducible repeat (first | refine kN ?_ _ | refine kD ?_ | refine kA ?_ _)); exact BK605.out)) : gb609 ≠ gb605)); have n11_ := aM ((by rw [hg]; exact Nat.ne_of_lt (blk_lt (g := gb606) (o := .cells #[.int .i64 t601, .int .i64 t602, .bool t603] 33 (0, 0)) (by (with_reducible repeat (first | refine kN ?_ _ | refine kD ?_ | refine kA ?_ _)); exact BK606.out)) : gb606 ≠ gb609)); have n12_ := aM ((by rw [hg]; exact Nat.ne_of_gt (blk_lt (g := gb606) (o := .cells #[.int .i64 t601, .int .i64 t602, .bool t603] 33 (0, 0)) (by (with_reducible repeat (first | refine kN ?_ _ | refine kD ?_ | refine kA ?_ _)); exact BK606.out)) : gb609 ≠ gb606)); clear BK597; clear BK605; clear BK606; clear HB; have BK597 := n0_; have BK605 := n1_; have BK606 := n2_; have HB := n3_; have BK609 := n4_; have GW609 := n5_; have GE609 := n6_; have NB597_609 := n7_; have NB609_597 := n8_; have NB605_609 := n9_; have NB609_605 := n10_; have NB606_609 := n11_; have NB609_606 := n12_; clear n0_ n1_ n2_ n3_ n4_ n5_ n6_ n7_ n8_ n9_ n10_ n11_ n12_; clear hb hbox hg; have hnb45 := NB609_597.out; have hnc45 := NB597_609.out; have hnb46 := NB609_605.out; have hnc46 := NB605_609.out; have hnb47 := NB609_606.out; have hnc47 := NB606_609.out; have hcz48_0 : w44.cell? ⟨gb609, 0, none⟩ = some (.bool false) := (blk_cell BK609.out 0).trans rfl; have hcz48_1 : w44.cell? ⟨gb609, 1, none⟩ = some (.bool false) := (blk_cell BK609.out 1).trans rfl; have hcz48_2 : w44.cell? ⟨gb609, 2, none⟩ = some (.bool false) := (blk_cell BK609.out 2).trans rfl; have hcz48_3 : w44.cell? ⟨gb609, 3, none⟩ = some (.bool false) := (blk_cell BK609.out 3).trans rfl; have hfz48_0 := blk_frozen BK609.out 0; have hfz48_1 := blk_frozen BK609.out 1; have hfz48_2 := blk_frozen BK609.out 2; have hfz48_3 := blk_frozen BK609.out 3))
    go_loopg [11] kj4 (fun kq v11 w' => ∃ (x11_2 : Int) (x610000_2 : Bool) (x610001_2 : Bool) (x610002_2 : Bool) (x610003_2 : Bool), v11 = .int .i64 x11_2 ∧ Aside0 (fleuronlaw03_OutlineBoxes.l0 kq a1 a2 t604 x11_2 l0_0 l0_1 t598 t599 t600 t601 t602 t603 x610000_2 x610001_2 x610002_2 x610003_2 = some r) ∧ Aside0 (kq ≤ kj4) ∧ Aside0 (w'.heap[gb597]? = some (.cells #[(.slice A0_0 l0_0.length c0_0), (.slice A0_1 l0_1.length c0_1)] 25 (0, 0))) ∧ Aside0 (w'.heap[gb605]? = some (.cells #[.int .i64 t598, .int .i64 t599, .bool t600] 33 (0, 0))) ∧ Aside0 (w'.heap[gb606]? = some (.cells #[.int .i64 t601, .int .i64 t602, .bool t603] 33 (0, 0))) ∧ Aside0 (w'.heap[gb609]? = some (.cells #[.bool x610000_2, .bool x610001_2, .bool x610002_2, .bool x610003_2] 48 (0, 0))) ∧ Aside0 (Below w.heap.size w w'))
    case atStart => exact ⟨(0), (false), (false), (false), (false), (by first | rfl | (simp; done) | (simp [*]; done)), H', ⟨Nat.le_refl _⟩, ⟨by (with_reducible repeat (first | refine kN ?_ _ | refine kD ?_ | refine kA ?_ _)); refine blk_far ?_ NB597_609.out _; (with_reducible repeat (first | refine kN ?_ _ | refine kD ?_ | refine kA ?_ _)); refine blk_far ?_ NB597_609.out _; (with_reducible repeat (first | refine kN ?_ _ | refine kD ?_ | refine kA ?_ _)); refine blk_far ?_ NB597_609.out _; (with_reducible repeat (first | refine kN ?_ _ | refine kD ?_ | refine kA ?_ _)); refine blk_far ?_ NB597_609.out _; (with_reducible repeat (first | refine kN ?_ _ | refine kD ?_ | refine kA ?_ _)); exact BK597.out⟩, ⟨by (with_reducible repeat (first | refine kN ?_ _ | refine kD ?_ | refine kA ?_ _)); refine blk_far ?_ NB605_609.out _; (with_reducible repeat (first | refine kN ?_ _ | refine kD ?_ | refine kA ?_ _)); refine blk_far ?_ NB605_609.out _; (with_reducible repeat (first | refine kN ?_ _ | refine kD ?_ | refine kA ?_ _)); refine blk_far ?_ NB605_609.out _; (with_reducible repeat (first | refine kN ?_ _ | refine kD ?_ | refine kA ?_ _)); refine blk_far ?_ NB605_609.out _; (with_reducible repeat (first | refine kN ?_ _ | refine kD ?_ | refine kA ?_ _)); exact BK605.out⟩, ⟨by (with_reducible repeat (first | refine kN ?_ _ | refine kD ?_ | refine kA ?_ _)); refine blk_far ?_ NB606_609.out _; (with_reducible repeat (first | refine kN ?_ _ | refine kD ?_ | refine kA ?_ _)); refine blk_far ?_ NB606_609.out _; (with_reducible repeat (first | refine kN ?_ _ | refine kD ?_ | refine kA ?_ _)); refine blk_far ?_ NB606_609.out _; (with_reducible repeat (first | refine kN ?_ _ | refine kD ?_ | refine kA ?_ _)); refine blk_far ?_ NB606_609.out _; (with_reducible repeat (first | refine kN ?_ _ | refine kD ?_ | refine kA ?_ _)); exact BK606.out⟩, ⟨by (with_reducible repeat (first | refine kN ?_ _ | refine kD ?_ | refine kA ?_ _)); refine blk_put (cs := #[.bool false, .bool false, .bool false, .bool false]) ?_ 3 _ rfl; (with_reducible repeat (first | refine kN ?_ _ | refine kD ?_ | refine kA ?_ _)); refine blk_put (cs := #[.bool false, .bool false, .bool false, .bool false]) ?_ 2 _ rfl; (with_reducible repeat (first | refine kN ?_ _ | refine kD ?_ | refine kA ?_ _)); refine blk_put (cs := #[.bool false, .bool false, .bool false, .bool false]) ?_ 1 _ rfl; (with_reducible repeat (first | refine kN ?_ _ | refine kD ?_ | refine kA ?_ _)); refine blk_put (cs := #[.bool false, .bool false, .bool false, .bool false]) ?_ 0 _ rfl; (with_reducible repeat (first | refine kN ?_ _ | refine kD ?_ | refine kA ?_ _)); exact BK609.out⟩, ⟨by repeat (first | (with_reducible first | exact HB.out | apply bA | apply bN | apply bD | refine bS ?_ GE597.out | refine bS ?_ GE605.out | refine bS ?_ GE606.out | refine bS ?_ GE609.out) | exact HB.out)⟩⟩
    case round =>
     clear H'
     try clear c1
     try clear c2
     try clear p2
     try clear c3
     try clear c4
     try clear c7
     try clear c11
     try clear c12
     try clear c14
     try clear c17
     try clear c18
     try clear c18b0
     try clear c19
     try clear c20
     try clear c21
     try clear c22
     try clear c23
     try clear c23b0
     try clear c24
     try clear c25
     try clear c28
     try clear c28b0
     try clear c29
     try clear c30
     try clear c33
     try clear c34
     try clear c37
     try clear c38
     try clear c41
     try clear c45
     try clear c46
     try clear c47
     try clear hcz13_0
     try clear hcz13_1
     try clear hcz13_2
     try clear hcz15_0
     try clear hcz15_1
     try clear hcz15_2
     try clear hcz21_0
     try clear hcz21_1
     try clear hcz26_0
     try clear hcz26_1
     try clear hcz31_0
     try clear hcz31_1
     try clear hcz35_0
     try clear hcz35_1
     try clear hcz39_0
     try clear hcz39_1
     try clear hcz48_0
     try clear hcz48_1
     try clear hcz48_2
     try clear hcz48_3
     try clear hcz7_0
     try clear hcz7_1
     try clear hfz13_0
     try clear hfz13_1
     try clear hfz13_2
     try clear hfz15_0
     try clear hfz15_1
     try clear hfz15_2
     try clear hfz21_0
     try clear hfz21_1
     try clear hfz26_0
     try clear hfz26_1
     try clear hfz31_0
     try clear hfz31_1
     try clear hfz35_0
     try clear hfz35_1
     try clear hfz39_0
     try clear hfz39_1
     try clear hfz48_0
     try clear hfz48_1
     try clear hfz48_2
     try clear hfz48_3
     try clear hfz7_0
     try clear hfz7_1
     try clear p2
     obtain ⟨x11_2, x610000_2, x610001_2, x610002_2, x610003_2, rfl, HA, HK2, BK597, BK605, BK606, BK609, HB⟩ := hrel
     cases gk with
     | zero => exact absurd HA.out (by simp [fleuronlaw03_OutlineBoxes.l0])
     | succ k2 =>
      have H := HA.out
      clear HA
      simp only [fleuronlaw03_OutlineBoxes.l0] at H
      by_cases c49 : x11_2 < (l0_0.length : Int)
      ·
       rw [if_pos c49] at H
       have c49b0 : decide (x11_2 < (l0_0.length : Int)) = true := decide_eq_true c49
       clear c49
       by_cases c50 : 0 ≤ x11_2
       ·
        rw [if_pos c50] at H
        have c50b0 : decide (0 ≤ x11_2) = true := decide_eq_true c50
        clear c50
        by_cases c51 : ((rd_T33 l0_0 x11_2).f0) < t598
        ·
         rw [if_pos c51] at H
         exact absurd H (by simp)
        ·
         rw [if_neg c51] at H
         have c51b0 : decide (((rd_T33 l0_0 x11_2).f0) < t598) = false := decide_eq_false c51
         clear c51
         by_cases c52 : ((rd_T33 l0_0 x11_2).f0) > t601
         ·
          rw [if_pos c52] at H
          exact absurd H (by simp)
         ·
          rw [if_neg c52] at H
          have c52b0 : decide (t601 < ((rd_T33 l0_0 x11_2).f0)) = false := decide_eq_false c52
          clear c52
          by_cases c53 : ((rd_T33 l0_0 x11_2).f1) < t599
          ·
           rw [if_pos c53] at H
           exact absurd H (by simp)
          ·
           rw [if_neg c53] at H
           have c53b0 : decide (((rd_T33 l0_0 x11_2).f1) < t599) = false := decide_eq_false c53
           clear c53
           by_cases c54 : ((rd_T33 l0_0 x11_2).f1) > t602
           ·
            rw [if_pos c54] at H
            exact absurd H (by simp)
           ·
            rw [if_neg c54] at H
            have c54b0 : decide (t602 < ((rd_T33 l0_0 x11_2).f1)) = false := decide_eq_false c54
            clear c54
            rcases x610000_2 with _ | _ <;> rcases x610001_2 with _ | _ <;> rcases x610002_2 with _ | _ <;> rcases x610003_2 with _ | _
            all_goals
             simp only [if_true, if_false, Bool.false_eq_true, eq_self] at H
             have H' := aM H
             clear H
             have hnb59 := NB597_605.out
             have hnc59 := NB605_597.out
             have hnb60 := NB597_606.out
             have hnc60 := NB606_597.out
             have hnb61 := NB597_609.out
             have hnc61 := NB609_597.out
             have hcz62_0 : wr.cell? ⟨gb597, 0, none⟩ = some (.slice A0_0 l0_0.length c0_0) := (blk_cell BK597.out 0).trans rfl
             have hcz62_1 : wr.cell? ⟨gb597, 1, none⟩ = some (.slice A0_1 l0_1.length c0_1) := (blk_cell BK597.out 1).trans rfl
             have hfz62_0 := blk_frozen BK597.out 0
             have hfz62_1 := blk_frozen BK597.out 1
             have p610 : 0 ≤ (x11_2 : Int) := dT (by assumption)
             have q610 : x11_2 < (l0_0.length : Int) := dT (by assumption)
             obtain ⟨ad610, e610, hx610_0, hx610_1, hx610_2⟩ := at_T33 HR0_0.out x11_2 p610 q610
             cases e610
             replace hx610_0 := (HB.out.cell (World.block_lt_of_cell? w _ hx610_0)).trans hx610_0
             replace hx610_1 := (HB.out.cell (World.block_lt_of_cell? w _ hx610_1)).trans hx610_1
             replace hx610_2 := (HB.out.cell (World.block_lt_of_cell? w _ hx610_2)).trans hx610_2
             replace p610 := eq_true p610
             replace q610 := eq_true q610
             go_wp2_with (first | ((with_reducible refine gate_dst (N := 12) rfl ?_); (try (refine gate_guard (by rfl) ?_; dsimp only)); refine box_event ?hg (N := 12) ?hd (cs := #[.int .i64 0, .int .i64 0, .bool false]) (t := 33) ?hr ?_; (case hd => rfl); (case hg => rfl); (case hr => first | (go_simp; done) | (go_simp; rfl)); intro gb611 hg w63 hbox hb; have n0_ := aM (blk_below (g := gb597) (o := .cells #[.slice (some ad610) l0_0.length c0_0, .slice A0_1 l0_1.length c0_1] 25 (0, 0)) (by (with_reducible repeat (first | refine kN ?_ _ | refine kD ?_ | refine kA ?_ _)); exact BK597.out) hb); have n1_ := aM (blk_below (g := gb605) (o := .cells #[.int .i64 t598, .int .i64 t599, .bool t600] 33 (0, 0)) (by (with_reducible repeat (first | refine kN ?_ _ | refine kD ?_ | refine kA ?_ _)); exact BK605.out) hb); have n2_ := aM (blk_below (g := gb606) (o := .cells #[.int .i64 t601, .int .i64 t602, .bool t603] 33 (0, 0)) (by (with_reducible repeat (first | refine kN ?_ _ | refine kD ?_ | refine kA ?_ _)); exact BK606.out) hb); have n3_ := aM (blk_below (g := gb609) (o := .cells #[.bool _, .bool _, .bool _, .bool _] 48 (0, 0)) (by (with_reducible repeat (first | refine kN ?_ _ | refine kD ?_ | refine kA ?_ _)); exact BK609.out) hb); have n4_ := aM (below_step (by repeat (first | (with_reducible first | exact HB.out | apply bA | apply bN | apply bD | refine bS ?_ GE597.out | refine bS ?_ GE605.out | refine bS ?_ GE606.out | refine bS ?_ GE609.out) | exact HB.out)) hb); have n5_ := aM (hbox); have n6_ := aM ((by rw [hg]; exact (below_size (by repeat (first | (with_reducible first | exact HB.out | apply bA | apply bN | apply bD | refine bS ?_ GE597.out | refine bS ?_ GE605.out | refine bS ?_ GE606.out | refine bS ?_ GE609.out) | exact HB.out))) : w.heap.size ≤ gb611)); have n7_ := aM ((by rw [hg]; exact (below_size (by repeat (first | (with_reducible first | exact HB.out | apply bA | apply bN | apply bD | refine bS ?_ GE597.out | refine bS ?_ GE605.out | refine bS ?_ GE606.out | refine bS ?_ GE609.out) | exact HB.out))) : w.heap.size ≤ gb611)); have n8_ := aM ((by rw [hg]; exact Nat.ne_of_lt (blk_lt (g := gb597) (o := .cells #[.slice (some ad610) l0_0.length c0_0, .slice A0_1 l0_1.length c0_1] 25 (0, 0)) (by (with_reducible repeat (first | refine kN ?_ _ | refine kD ?_ | refine kA ?_ _)); exact BK597.out)) : gb597 ≠ gb611)); have n9_ := aM ((by rw [hg]; exact Nat.ne_of_gt (blk_lt (g := gb597) (o := .cells #[.slice (some ad610) l0_0.length c0_0, .slice A0_1 l0_1.length c0_1] 25 (0, 0)) (by (with_reducible repeat (first | refine kN ?_ _ | refine kD ?_ | refine kA ?_ _)); exact BK597.out)) : gb611 ≠ gb597)); have n10_ := aM ((by rw [hg]; exact Nat.ne_of_lt (blk_lt (g := gb605) (o := .cells #[.int .i64 t598, .int .i64 t599, .bool t600] 33 (0, 0)) (by (with_reducible repeat (first | refine kN ?_ _ | refine kD ?_ | refine kA ?_ _)); exact BK605.out)) : gb605 ≠ gb611)); have n11_ := aM ((by rw [hg]; exact Nat.ne_of_gt (blk_lt (g := gb605) (o := .cells #[.int .i64 t598, .int .i64 t599, .bool t600] 33 (0, 0)) (by (with_reducible repeat (first | refine kN ?_ _ | refine kD ?_ | refine kA ?_ _)); exact BK605.out)) : gb611 ≠ gb605)); have n12_ := aM ((by rw [hg]; exact Nat.ne_of_lt (blk_lt (g := gb606) (o := .cells #[.int .i64 t601, .int .i64 t602, .bool t603] 33 (0, 0)) (by (with_reducible repeat (first | refine kN ?_ _ | refine kD ?_ | refine kA ?_ _)); exact BK606.out)) : gb606 ≠ gb611)); have n13_ := aM ((by rw [hg]; exact Nat.ne_of_gt (blk_lt (g := gb606) (o := .cells #[.int .i64 t601, .int .i64 t602, .bool t603] 33 (0, 0)) (by (with_reducible repeat (first | refine kN ?_ _ | refine kD ?_ | refine kA ?_ _)); exact BK606.out)) : gb611 ≠ gb606)); have n14_ := aM ((by rw [hg]; exact Nat.ne_of_lt (blk_lt (g := gb609) (o := .cells #[.bool _, .bool _, .bool _, .bool _] 48 (0, 0)) (by (with_reducible repeat (first | refine kN ?_ _ | refine kD ?_ | refine kA ?_ _)); exact BK609.out)) : gb609 ≠ gb611)); have n15_ := aM ((by rw [hg]; exact Nat.ne_of_gt (blk_lt (g := gb609) (o := .cells #[.bool _, .bool _, .bool _, .bool _] 48 (0, 0)) (by (with_reducible repeat (first | refine kN ?_ _ | refine kD ?_ | refine kA ?_ _)); exact BK609.out)) : gb611 ≠ gb609)); clear BK597; clear BK605; clear BK606; clear BK609; clear HB; have BK597 := n0_; have BK605 := n1_; have BK606 := n2_; have BK609 := n3_; have HB := n4_; have BK611 := n5_; have GW611 := n6_; have GE611 := n7_; have NB597_611 := n8_; have NB611_597 := n9_; have NB605_611 := n10_; have NB611_605 := n11_; have NB606_611 := n12_; have NB611_606 := n13_; have NB609_611 := n14_; have NB611_609 := n15_; clear n0_ n1_ n2_ n3_ n4_ n5_ n6_ n7_ n8_ n9_ n10_ n11_ n12_ n13_ n14_ n15_; clear hb hbox hg; have hnb64 := NB611_597.out; have hnc64 := NB597_611.out; have hnb65 := NB611_605.out; have hnc65 := NB605_611.out; have hnb66 := NB611_606.out; have hnc66 := NB606_611.out; have hnb67 := NB611_609.out; have hnc67 := NB609_611.out; have hcz68_0 : w63.cell? ⟨gb611, 0, none⟩ = some (.int .i64 0) := (blk_cell BK611.out 0).trans rfl; have hcz68_1 : w63.cell? ⟨gb611, 1, none⟩ = some (.int .i64 0) := (blk_cell BK611.out 1).trans rfl; have hcz68_2 : w63.cell? ⟨gb611, 2, none⟩ = some (.bool false) := (blk_cell BK611.out 2).trans rfl; have hfz68_0 := blk_frozen BK611.out 0; have hfz68_1 := blk_frozen BK611.out 1; have hfz68_2 := blk_frozen BK611.out 2; have hnb69 := NB605_606.out; have hnc69 := NB606_605.out; have hnb70 := NB605_609.out; have hnc70 := NB609_605.out; have hcz71_0 : w63.cell? ⟨gb605, 0, none⟩ = some (.int .i64 t598) := (blk_cell BK605.out 0).trans rfl; have hcz71_1 : w63.cell? ⟨gb605, 1, none⟩ = some (.int .i64 t599) := (blk_cell BK605.out 1).trans rfl; have hcz71_2 : w63.cell? ⟨gb605, 2, none⟩ = some (.bool t600) := (blk_cell BK605.out 2).trans rfl; have hfz71_0 := blk_frozen BK605.out 0; have hfz71_1 := blk_frozen BK605.out 1; have hfz71_2 := blk_frozen BK605.out 2; have hnb72 := NB606_609.out; have hnc72 := NB609_606.out; have hcz73_0 : w63.cell? ⟨gb606, 0, none⟩ = some (.int .i64 t601) := (blk_cell BK606.out 0).trans rfl; have hcz73_1 : w63.cell? ⟨gb606, 1, none⟩ = some (.int .i64 t602) := (blk_cell BK606.out 1).trans rfl; have hcz73_2 : w63.cell? ⟨gb606, 2, none⟩ = some (.bool t603) := (blk_cell BK606.out 2).trans rfl; have hfz73_0 := blk_frozen BK606.out 0; have hfz73_1 := blk_frozen BK606.out 1; have hfz73_2 := blk_frozen BK606.out 2; have hcz74_0 : w63.cell? ⟨gb609, 0, none⟩ = some (.bool _) := (blk_cell BK609.out 0).trans rfl; have hcz74_1 : w63.cell? ⟨gb609, 1, none⟩ = some (.bool _) := (blk_cell BK609.out 1).trans rfl; have hcz74_2 : w63.cell? ⟨gb609, 2, none⟩ = some (.bool _) := (blk_cell BK609.out 2).trans rfl; have hcz74_3 : w63.cell? ⟨gb609, 3, none⟩ = some (.bool _) := (blk_cell BK609.out 3).trans rfl; have hfz74_0 := blk_frozen BK609.out 0; have hfz74_1 := blk_frozen BK609.out 1; have hfz74_2 := blk_frozen BK609.out 2; have hfz74_3 := blk_frozen BK609.out 3))
             go_roundg k2
             case measure => have := HJ4.out; have := HK2.out; omega
             case rel => exact ⟨(wrap64 (x11_2 + 1)), _, _, _, _, (by first | rfl | (simp; done) | (simp [*]; done)), H', ⟨by have := HJ4.out; have := HK2.out; omega⟩, ⟨by (with_reducible repeat (first | refine kN ?_ _ | refine kD ?_ | refine kA ?_ _)); refine blk_far ?_ NB597_609.out _; (with_reducible repeat (first | refine kN ?_ _ | refine kD ?_ | refine kA ?_ _)); refine blk_far ?_ NB597_609.out _; (with_reducible repeat (first | refine kN ?_ _ | refine kD ?_ | refine kA ?_ _)); refine blk_far ?_ NB597_609.out _; (with_reducible repeat (first | refine kN ?_ _ | refine kD ?_ | refine kA ?_ _)); refine blk_far ?_ NB597_609.out _; (with_reducible repeat (first | refine kN ?_ _ | refine kD ?_ | refine kA ?_ _)); refine blk_far ?_ NB597_611.out _; (with_reducible repeat (first | refine kN ?_ _ | refine kD ?_ | refine kA ?_ _)); refine blk_far ?_ NB597_611.out _; (with_reducible repeat (first | refine kN ?_ _ | refine kD ?_ | refine kA ?_ _)); refine blk_far ?_ NB597_611.out _; (with_reducible repeat (first | refine kN ?_ _ | refine kD ?_ | refine kA ?_ _)); exact BK597.out⟩, ⟨by (with_reducible repeat (first | refine kN ?_ _ | refine kD ?_ | refine kA ?_ _)); refine blk_far ?_ NB605_609.out _; (with_reducible repeat (first | refine kN ?_ _ | refine kD ?_ | refine kA ?_ _)); refine blk_far ?_ NB605_609.out _; (with_reducible repeat (first | refine kN ?_ _ | refine kD ?_ | refine kA ?_ _)); refine blk_far ?_ NB605_609.out _; (with_reducible repeat (first | refine kN ?_ _ | refine kD ?_ | refine kA ?_ _)); refine blk_far ?_ NB605_609.out _; (with_reducible repeat (first | refine kN ?_ _ | refine kD ?_ | refine kA ?_ _)); refine blk_far ?_ NB605_611.out _; (with_reducible repeat (first | refine kN ?_ _ | refine kD ?_ | refine kA ?_ _)); refine blk_far ?_ NB605_611.out _; (with_reducible repeat (first | refine kN ?_ _ | refine kD ?_ | refine kA ?_ _)); refine blk_far ?_ NB605_611.out _; (with_reducible repeat (first | refine kN ?_ _ | refine kD ?_ | refine kA ?_ _)); exact BK605.out⟩, ⟨by (with_reducible repeat (first | refine kN ?_ _ | refine kD ?_ | refine kA ?_ _)); refine blk_far ?_ NB606_609.out _; (with_reducible repeat (first | refine kN ?_ _ | refine kD ?_ | refine kA ?_ _)); refine blk_far ?_ NB606_609.out _; (with_reducible repeat (first | refine kN ?_ _ | refine kD ?_ | refine kA ?_ _)); refine blk_far ?_ NB606_609.out _; (with_reducible repeat (first | refine kN ?_ _ | refine kD ?_ | refine kA ?_ _)); refine blk_far ?_ NB606_609.out _; (with_reducible repeat (first | refine kN ?_ _ | refine kD ?_ | refine kA ?_ _)); refine blk_far ?_ NB606_611.out _; (with_reducible repeat (first | refine kN ?_ _ | refine kD ?_ | refine kA ?_ _)); refine blk_far ?_ NB606_611.out _; (with_reducible repeat (first | refine kN ?_ _ | refine kD ?_ | refine kA ?_ _)); refine blk_far ?_ NB606_611.out _; (with_reducible repeat (first | refine kN ?_ _ | refine kD ?_ | refine kA ?_ _)); exact BK606.out⟩, ⟨(blk_put (blk_put (blk_put (blk_put (blk_far (blk_far (blk_far BK609.out NB609_611.out _) NB609_611.out _) NB609_611.out _) 0 _ rfl) 1 _ rfl) 2 _ rfl) 3 _ rfl)⟩, ⟨by repeat (first | (with_reducible first | exact HB.out | apply bA | apply bN | apply bD | refine bS ?_ GE597.out | refine bS ?_ GE605.out | refine bS ?_ GE606.out | refine bS ?_ GE609.out | refine bS ?_ GE611.out) | exact HB.out)⟩⟩
       ·
        rw [if_neg c50] at H
        exact absurd H (by simp)
      ·
       rw [if_neg c49] at H
       have c49b0 : decide (x11_2 < (l0_0.length : Int)) = false := decide_eq_false c49
       clear c49
       replace H := Option.bind_eq_some_iff.mp H
       obtain ⟨⟨t612, t615⟩, A3260, H⟩ := H
       replace H : ((outline_Box.f t612 t615).bind fun bt618 => (if t604 = true then ((fleuronlaw03_drawn.f).bind fun t627 => (if t627 = true then (if bt618.2.2.2.2.2.2 = true then (if (x610000_2 && (x610001_2 && (x610002_2 && (x610003_2)))) = true then (if (bt618.1 == (wrap64 (t598 + a1)) && (bt618.2.1 == (wrap64 (t599 + a2)) && (!bt618.2.2.1))) = true then (some (bt618.2.2.2.1 == (wrap64 (t601 + a1)) && (bt618.2.2.2.2.1 == (wrap64 (t602 + a2)) && (!bt618.2.2.2.2.2.1)))) else (none)) else (none)) else (none)) else (none))) else ((fleuronlaw03_drawn.f).bind fun t628 => (if t628 = true then (if bt618.2.2.2.2.2.2 = true then (none) else (some ((l0_0.length : Int) == 0))) else (none))))) = some r := H
       have A326 := aM A3260
       clear A3260
       replace H := Option.bind_eq_some_iff.mp H
       obtain ⟨⟨t618, t619, t620, t621, t622, t623, t624⟩, A3270, H⟩ := H
       replace H : (if t604 = true then ((fleuronlaw03_drawn.f).bind fun t627 => (if t627 = true then (if t624 = true then (if (x610000_2 && (x610001_2 && (x610002_2 && (x610003_2)))) = true then (if (t618 == (wrap64 (t598 + a1)) && (t619 == (wrap64 (t599 + a2)) && (!t620))) = true then (some (t621 == (wrap64 (t601 + a1)) && (t622 == (wrap64 (t602 + a2)) && (!t623)))) else (none)) else (none)) else (none)) else (none))) else ((fleuronlaw03_drawn.f).bind fun t628 => (if t628 = true then (if t624 = true then (none) else (some ((l0_0.length : Int) == 0))) else (none)))) = some r := H
       have A327 := aM A3270
       clear A3270
       by_cases c328 : t604 = true
       ·
        subst c328
        have H1 : ((fleuronlaw03_drawn.f).bind fun t627 => (if t627 = true then (if t624 = true then (if (x610000_2 && (x610001_2 && (x610002_2 && (x610003_2)))) = true then (if (t618 == (wrap64 (t598 + a1)) && (t619 == (wrap64 (t599 + a2)) && (!t620))) = true then (some (t621 == (wrap64 (t601 + a1)) && (t622 == (wrap64 (t602 + a2)) && (!t623)))) else (none)) else (none)) else (none)) else (none))) = some r := by rw [if_pos rfl] at H; exact H
        clear H
        have H := H1
        clear H1
        replace H := Option.bind_eq_some_iff.mp H
        obtain ⟨t627, A3290, H⟩ := H
        replace H : (if t627 = true then (if t624 = true then (if (x610000_2 && (x610001_2 && (x610002_2 && (x610003_2)))) = true then (if (t618 == (wrap64 (t598 + a1)) && (t619 == (wrap64 (t599 + a2)) && (!t620))) = true then (some (t621 == (wrap64 (t601 + a1)) && (t622 == (wrap64 (t602 + a2)) && (!t623)))) else (none)) else (none)) else (none)) else (none)) = some r := H
        have A329 := aM A3290
        clear A3290
        by_cases c330 : t627 = true
        ·
         subst c330
         have H1 : (if t624 = true then (if (x610000_2 && (x610001_2 && (x610002_2 && (x610003_2)))) = true then (if (t618 == (wrap64 (t598 + a1)) && (t619 == (wrap64 (t599 + a2)) && (!t620))) = true then (some (t621 == (wrap64 (t601 + a1)) && (t622 == (wrap64 (t602 + a2)) && (!t623)))) else (none)) else (none)) else (none)) = some r := by rw [if_pos rfl] at H; exact H
         clear H
         have H := H1
         clear H1
         by_cases c331 : t624 = true
         ·
          subst c331
          have H1 : (if (x610000_2 && (x610001_2 && (x610002_2 && (x610003_2)))) = true then (if (t618 == (wrap64 (t598 + a1)) && (t619 == (wrap64 (t599 + a2)) && (!t620))) = true then (some (t621 == (wrap64 (t601 + a1)) && (t622 == (wrap64 (t602 + a2)) && (!t623)))) else (none)) else (none)) = some r := by rw [if_pos rfl] at H; exact H
          clear H
          have H := H1
          clear H1
          by_cases c332 : (x610000_2 && (x610001_2 && (x610002_2 && (x610003_2)))) = true
          ·
           rw [if_pos c332] at H
           have c332b0 : (x610000_2 && (x610001_2 && (x610002_2 && (x610003_2)))) = true := c332
           clear c332
           by_cases c333 : (t618 == (wrap64 (t598 + a1)) && (t619 == (wrap64 (t599 + a2)) && (!t620))) = true
           ·
            rw [if_pos c333] at H
            have c333b0 : (t618 == (wrap64 (t598 + a1)) && (t619 == (wrap64 (t599 + a2)) && (!t620))) = true := c333
            (try (have c333b1 : decide (t618 = (wrap64 (t598 + a1)) && (t619 == (wrap64 (t599 + a2)) && (!t620))) = true := by simpa using c333))
            (try (have c333b2 : (t618 == (wrap64 (t598 + a1)) && (t619 == (wrap64 (t599 + a2)) && (!t620))) = true := by simpa using c333))
            clear c333
            obtain rfl := Option.some.inj H
            have hnb334 := NB597_605.out
            have hnc334 := NB605_597.out
            have hnb335 := NB597_606.out
            have hnc335 := NB606_597.out
            have hnb336 := NB597_609.out
            have hnc336 := NB609_597.out
            have hcz337_0 : wr.cell? ⟨gb597, 0, none⟩ = some (.slice A0_0 l0_0.length c0_0) := (blk_cell BK597.out 0).trans rfl
            have hcz337_1 : wr.cell? ⟨gb597, 1, none⟩ = some (.slice A0_1 l0_1.length c0_1) := (blk_cell BK597.out 1).trans rfl
            have hfz337_0 := blk_frozen BK597.out 0
            have hfz337_1 := blk_frozen BK597.out 1
            go_wp2_with (first | ((with_reducible refine gate_callee (f := 27) rfl ?_); refine goesL_ (some 122) rfl rfl Try.func27 (by kernel_rfl) rfl #[.agg #[.slice A0_0 l0_0.length c0_0, .slice A0_1 l0_1.length c0_1], .int .i64 a1, .int .i64 a2] rfl (by (try simp only [List.map_toArray, List.map_cons, List.map_nil]); first | done | rfl | (simp only [List.length_drop, List.length_take]; rfl)) ?_; (with_reducible refine (outline_Moved.calls k2 _ _ l0_0 _ _ l0_1 a1 a2 t612 t615 _ ?side1 ?side2 ?side3 ?side4 A326.out).mono ?_); (case side1 => repeat (first | exact (Kd.C_below HR0_0.out HB.out) | (with_reducible refine Kd.C_alloc ?_ _) | (with_reducible refine Kd.C_drewN ?_ _) | (with_reducible refine Kd.C_drew ?_))); (case side2 => exact HC0_0.out); (case side3 => repeat (first | exact (Kd.C_below HR0_1.out HB.out) | (with_reducible refine Kd.C_alloc ?_ _) | (with_reducible refine Kd.C_drewN ?_ _) | (with_reducible refine Kd.C_drew ?_))); (case side4 => exact HC0_1.out); rintro e w338 ⟨v613, v616, rfl, ho0, ho1, hb⟩; refine ⟨_, rfl, ?_⟩; have n0_ := aM (Kd.R_lower (Kd.R_newB (Kd.R_newB ho0 (g := gb605) (o := .cells #[.int .i64 t598, .int .i64 t599, .bool t600] 33 (0, 0)) (by (with_reducible repeat (first | refine kN ?_ _ | refine kD ?_ | refine kA ?_ _)); exact BK605.out)) (g := gb606) (o := .cells #[.int .i64 t601, .int .i64 t602, .bool t603] 33 (0, 0)) (by (with_reducible repeat (first | refine kN ?_ _ | refine kD ?_ | refine kA ?_ _)); exact BK606.out)) (below_size (by repeat (first | (with_reducible first | exact HB.out | apply bA | apply bN | apply bD | refine bS ?_ GE597.out | refine bS ?_ GE605.out | refine bS ?_ GE606.out | refine bS ?_ GE609.out) | exact HB.out)))); have n1_ := aM (Kd.R_lower ho1 (below_size (by repeat (first | (with_reducible first | exact HB.out | apply bA | apply bN | apply bD | refine bS ?_ GE597.out | refine bS ?_ GE605.out | refine bS ?_ GE606.out | refine bS ?_ GE609.out) | exact HB.out)))); have n2_ := aM (blk_below (g := gb597) (o := .cells #[.slice A0_0 l0_0.length c0_0, .slice A0_1 l0_1.length c0_1] 25 (0, 0)) (by (with_reducible repeat (first | refine kN ?_ _ | refine kD ?_ | refine kA ?_ _)); exact BK597.out) hb); have n3_ := aM (blk_below (g := gb605) (o := .cells #[.int .i64 t598, .int .i64 t599, .bool t600] 33 (0, 0)) (by (with_reducible repeat (first | refine kN ?_ _ | refine kD ?_ | refine kA ?_ _)); exact BK605.out) hb); have n4_ := aM (blk_below (g := gb606) (o := .cells #[.int .i64 t601, .int .i64 t602, .bool t603] 33 (0, 0)) (by (with_reducible repeat (first | refine kN ?_ _ | refine kD ?_ | refine kA ?_ _)); exact BK606.out) hb); have n5_ := aM (blk_below (g := gb609) (o := .cells #[.bool x610000_2, .bool x610001_2, .bool x610002_2, .bool x610003_2] 48 (0, 0)) (by (with_reducible repeat (first | refine kN ?_ _ | refine kD ?_ | refine kA ?_ _)); exact BK609.out) hb); have n6_ := aM (below_step (by repeat (first | (with_reducible first | exact HB.out | apply bA | apply bN | apply bD | refine bS ?_ GE597.out | refine bS ?_ GE605.out | refine bS ?_ GE606.out | refine bS ?_ GE609.out) | exact HB.out)) hb); clear BK597; clear BK605; clear BK606; clear BK609; clear HB; have HO614 := n0_; have HO617 := n1_; have BK597 := n2_; have BK605 := n3_; have BK606 := n4_; have BK609 := n5_; have HB := n6_; clear n0_ n1_ n2_ n3_ n4_ n5_ n6_; (try clear hb); (try clear hb2); (try clear hk); (try clear hi); (try clear ho0); (try clear ho1); obtain ⟨Ao339, co339, eo339⟩ := Kd.R_slice HO614.out; subst eo339; obtain ⟨Ao340, co340, eo340⟩ := Kd.R_slice HO617.out; subst eo340) | ((with_reducible refine gate_callee (f := 19) rfl ?_); refine goesL_ (some 123) rfl rfl Try.func19 (by kernel_rfl) rfl #[.agg #[.slice Ao339 t612.length co339, .slice Ao340 t615.length co340]] rfl (by (try simp only [List.map_toArray, List.map_cons, List.map_nil]); first | done | rfl | (simp only [List.length_drop, List.length_take]; rfl)) ?_; (with_reducible refine (outline_Box.calls _ _ t612 _ _ t615 t618 t619 t620 t621 t622 t623 true _ ?side1 ?side2 ?side3 ?side4 A327.out).mono ?_); (case side1 => repeat (first | exact (Kd.R_reads' HO614.out).2.2 | (with_reducible refine Kd.C_alloc ?_ _) | (with_reducible refine Kd.C_drewN ?_ _) | (with_reducible refine Kd.C_drew ?_))); (case side2 => exact (Kd.R_reads' HO614.out).2.1); (case side3 => repeat (first | exact (Kd.R_reads' HO617.out).2.2 | (with_reducible refine Kd.C_alloc ?_ _) | (with_reducible refine Kd.C_drewN ?_ _) | (with_reducible refine Kd.C_drew ?_))); (case side4 => exact (Kd.R_reads' HO617.out).2.1); rintro e w341 ⟨rfl, hb⟩; refine ⟨_, rfl, ?_⟩; have n0_ := aM (Kd.R_below (by (with_reducible repeat (first | apply Kd.R_alloc | apply Kd.R_drewN | apply Kd.R_drew)); exact HO614.out) hb); have n1_ := aM (Kd.R_below (by (with_reducible repeat (first | apply Kd.R_alloc | apply Kd.R_drewN | apply Kd.R_drew)); exact HO617.out) hb); have n2_ := aM (blk_below (g := gb597) (o := .cells #[.slice A0_0 l0_0.length c0_0, .slice A0_1 l0_1.length c0_1] 25 (0, 0)) (by (with_reducible repeat (first | refine kN ?_ _ | refine kD ?_ | refine kA ?_ _)); exact BK597.out) hb); have n3_ := aM (blk_below (g := gb605) (o := .cells #[.int .i64 t598, .int .i64 t599, .bool t600] 33 (0, 0)) (by (with_reducible repeat (first | refine kN ?_ _ | refine kD ?_ | refine kA ?_ _)); exact BK605.out) hb); have n4_ := aM (blk_below (g := gb606) (o := .cells #[.int .i64 t601, .int .i64 t602, .bool t603] 33 (0, 0)) (by (with_reducible repeat (first | refine kN ?_ _ | refine kD ?_ | refine kA ?_ _)); exact BK606.out) hb); have n5_ := aM (blk_below (g := gb609) (o := .cells #[.bool x610000_2, .bool x610001_2, .bool x610002_2, .bool x610003_2] 48 (0, 0)) (by (with_reducible repeat (first | refine kN ?_ _ | refine kD ?_ | refine kA ?_ _)); exact BK609.out) hb); have n6_ := aM (below_step (by repeat (first | (with_reducible first | exact HB.out | apply bA | apply bN | apply bD | refine bS ?_ GE597.out | refine bS ?_ GE605.out | refine bS ?_ GE606.out | refine bS ?_ GE609.out) | exact HB.out)) hb); clear HO614; clear HO617; clear BK597; clear BK605; clear BK606; clear BK609; clear HB; have HO614 := n0_; have HO617 := n1_; have BK597 := n2_; have BK605 := n3_; have BK606 := n4_; have BK609 := n5_; have HB := n6_; clear n0_ n1_ n2_ n3_ n4_ n5_ n6_; (try clear hb); (try clear hb2); (try clear hk); (try clear hi)) | ((with_reducible refine gate_dst (N := 13) rfl ?_); (try (refine gate_guard (by rfl) ?_; dsimp only)); refine box_event ?hg (N := 13) ?hd (cs := #[.int .i64 0, .int .i64 0, .bool false]) (t := 33) ?hr ?_; (case hd => rfl); (case hg => rfl); (case hr => first | (go_simp; done) | (go_simp; rfl)); intro gb625 hg w342 hbox hb; have n0_ := aM (Kd.R_below (Kd.R_elderB (by (with_reducible repeat (first | apply Kd.R_alloc | apply Kd.R_drewN | apply Kd.R_drew)); exact HO614.out) gb625 (Nat.le_of_eq hg.symm)) hb); have n1_ := aM (Kd.R_below (by (with_reducible repeat (first | apply Kd.R_alloc | apply Kd.R_drewN | apply Kd.R_drew)); exact HO617.out) hb); have n2_ := aM (blk_below (g := gb597) (o := .cells #[.slice A0_0 l0_0.length c0_0, .slice A0_1 l0_1.length c0_1] 25 (0, 0)) (by (with_reducible repeat (first | refine kN ?_ _ | refine kD ?_ | refine kA ?_ _)); exact BK597.out) hb); have n3_ := aM (blk_below (g := gb605) (o := .cells #[.int .i64 t598, .int .i64 t599, .bool t600] 33 (0, 0)) (by (with_reducible repeat (first | refine kN ?_ _ | refine kD ?_ | refine kA ?_ _)); exact BK605.out) hb); have n4_ := aM (blk_below (g := gb606) (o := .cells #[.int .i64 t601, .int .i64 t602, .bool t603] 33 (0, 0)) (by (with_reducible repeat (first | refine kN ?_ _ | refine kD ?_ | refine kA ?_ _)); exact BK606.out) hb); have n5_ := aM (blk_below (g := gb609) (o := .cells #[.bool x610000_2, .bool x610001_2, .bool x610002_2, .bool x610003_2] 48 (0, 0)) (by (with_reducible repeat (first | refine kN ?_ _ | refine kD ?_ | refine kA ?_ _)); exact BK609.out) hb); have n6_ := aM (below_step (by repeat (first | (with_reducible first | exact HB.out | apply bA | apply bN | apply bD | refine bS ?_ GE597.out | refine bS ?_ GE605.out | refine bS ?_ GE606.out | refine bS ?_ GE609.out) | exact HB.out)) hb); have n7_ := aM (hbox); have n8_ := aM ((by rw [hg]; exact (below_size (by repeat (first | (with_reducible first | exact HB.out | apply bA | apply bN | apply bD | refine bS ?_ GE597.out | refine bS ?_ GE605.out | refine bS ?_ GE606.out | refine bS ?_ GE609.out) | exact HB.out))) : w.heap.size ≤ gb625)); have n9_ := aM ((by rw [hg]; exact (below_size (by repeat (first | (with_reducible first | exact HB.out | apply bA | apply bN | apply bD | refine bS ?_ GE597.out | refine bS ?_ GE605.out | refine bS ?_ GE606.out | refine bS ?_ GE609.out) | exact HB.out))) : w.heap.size ≤ gb625)); have n10_ := aM ((by rw [hg]; exact Nat.ne_of_lt (blk_lt (g := gb597) (o := .cells #[.slice A0_0 l0_0.length c0_0, .slice A0_1 l0_1.length c0_1] 25 (0, 0)) (by (with_reducible repeat (first | refine kN ?_ _ | refine kD ?_ | refine kA ?_ _)); exact BK597.out)) : gb597 ≠ gb625)); have n11_ := aM ((by rw [hg]; exact Nat.ne_of_gt (blk_lt (g := gb597) (o := .cells #[.slice A0_0 l0_0.length c0_0, .slice A0_1 l0_1.length c0_1] 25 (0, 0)) (by (with_reducible repeat (first | refine kN ?_ _ | refine kD ?_ | refine kA ?_ _)); exact BK597.out)) : gb625 ≠ gb597)); have n12_ := aM ((by rw [hg]; exact Nat.ne_of_lt (blk_lt (g := gb605) (o := .cells #[.int .i64 t598, .int .i64 t599, .bool t600] 33 (0, 0)) (by (with_reducible repeat (first | refine kN ?_ _ | refine kD ?_ | refine kA ?_ _)); exact BK605.out)) : gb605 ≠ gb625)); have n13_ := aM ((by rw [hg]; exact Nat.ne_of_gt (blk_lt (g := gb605) (o := .cells #[.int .i64 t598, .int .i64 t599, .bool t600] 33 (0, 0)) (by (with_reducible repeat (first | refine kN ?_ _ | refine kD ?_ | refine kA ?_ _)); exact BK605.out)) : gb625 ≠ gb605)); have n14_ := aM ((by rw [hg]; exact Nat.ne_of_lt (blk_lt (g := gb606) (o := .cells #[.int .i64 t601, .int .i64 t602, .bool t603] 33 (0, 0)) (by (with_reducible repeat (first | refine kN ?_ _ | refine kD ?_ | refine kA ?_ _)); exact BK606.out)) : gb606 ≠ gb625)); have n15_ := aM ((by rw [hg]; exact Nat.ne_of_gt (blk_lt (g := gb606) (o := .cells #[.int .i64 t601, .int .i64 t602, .bool t603] 33 (0, 0)) (by (with_reducible repeat (first | refine kN ?_ _ | refine kD ?_ | refine kA ?_ _)); exact BK606.out)) : gb625 ≠ gb606)); have n16_ := aM ((by rw [hg]; exact Nat.ne_of_lt (blk_lt (g := gb609) (o := .cells #[.bool x610000_2, .bool x610001_2, .bool x610002_2, .bool x610003_2] 48 (0, 0)) (by (with_reducible repeat (first | refine kN ?_ _ | refine kD ?_ | refine kA ?_ _)); exact BK609.out)) : gb609 ≠ gb625)); have n17_ := aM ((by rw [hg]; exact Nat.ne_of_gt (blk_lt (g := gb609) (o := .cells #[.bool x610000_2, .bool x610001_2, .bool x610002_2, .bool x610003_2] 48 (0, 0)) (by (with_reducible repeat (first | refine kN ?_ _ | refine kD ?_ | refine kA ?_ _)); exact BK609.out)) : gb625 ≠ gb609)); clear HO614; clear HO617; clear BK597; clear BK605; clear BK606; clear BK609; clear HB; have HO614 := n0_; have HO617 := n1_; have BK597 := n2_; have BK605 := n3_; have BK606 := n4_; have BK609 := n5_; have HB := n6_; have BK625 := n7_; have GW625 := n8_; have GE625 := n9_; have NB597_625 := n10_; have NB625_597 := n11_; have NB605_625 := n12_; have NB625_605 := n13_; have NB606_625 := n14_; have NB625_606 := n15_; have NB609_625 := n16_; have NB625_609 := n17_; clear n0_ n1_ n2_ n3_ n4_ n5_ n6_ n7_ n8_ n9_ n10_ n11_ n12_ n13_ n14_ n15_ n16_ n17_; clear hb hbox hg) | ((with_reducible refine gate_dst (N := 14) rfl ?_); (try (refine gate_guard (by rfl) ?_; dsimp only)); refine box_event ?hg (N := 14) ?hd (cs := #[.int .i64 0, .int .i64 0, .bool false]) (t := 33) ?hr ?_; (case hd => rfl); (case hg => rfl); (case hr => first | (go_simp; done) | (go_simp; rfl)); intro gb626 hg w343 hbox hb; have n0_ := aM (Kd.R_below (Kd.R_elderB (by (with_reducible repeat (first | apply Kd.R_alloc | apply Kd.R_drewN | apply Kd.R_drew)); exact HO614.out) gb626 (Nat.le_of_eq hg.symm)) hb); have n1_ := aM (Kd.R_below (by (with_reducible repeat (first | apply Kd.R_alloc | apply Kd.R_drewN | apply Kd.R_drew)); exact HO617.out) hb); have n2_ := aM (blk_below (g := gb597) (o := .cells #[.slice A0_0 l0_0.length c0_0, .slice A0_1 l0_1.length c0_1] 25 (0, 0)) (by (with_reducible repeat (first | refine kN ?_ _ | refine kD ?_ | refine kA ?_ _)); exact BK597.out) hb); have n3_ := aM (blk_below (g := gb605) (o := .cells #[.int .i64 t598, .int .i64 t599, .bool t600] 33 (0, 0)) (by (with_reducible repeat (first | refine kN ?_ _ | refine kD ?_ | refine kA ?_ _)); exact BK605.out) hb); have n4_ := aM (blk_below (g := gb606) (o := .cells #[.int .i64 t601, .int .i64 t602, .bool t603] 33 (0, 0)) (by (with_reducible repeat (first | refine kN ?_ _ | refine kD ?_ | refine kA ?_ _)); exact BK606.out) hb); have n5_ := aM (blk_below (g := gb609) (o := .cells #[.bool x610000_2, .bool x610001_2, .bool x610002_2, .bool x610003_2] 48 (0, 0)) (by (with_reducible repeat (first | refine kN ?_ _ | refine kD ?_ | refine kA ?_ _)); exact BK609.out) hb); have n6_ := aM (blk_below (g := gb625) (o := .cells #[.int .i64 0, .int .i64 0, .bool false] 33 (0, 0)) (by (with_reducible repeat (first | refine kN ?_ _ | refine kD ?_ | refine kA ?_ _)); exact BK625.out) hb); have n7_ := aM (below_step (by repeat (first | (with_reducible first | exact HB.out | apply bA | apply bN | apply bD | refine bS ?_ GE597.out | refine bS ?_ GE605.out | refine bS ?_ GE606.out | refine bS ?_ GE609.out | refine bS ?_ GE625.out) | exact HB.out)) hb); have n8_ := aM (hbox); have n9_ := aM ((by rw [hg]; exact (below_size (by repeat (first | (with_reducible first | exact HB.out | apply bA | apply bN | apply bD | refine bS ?_ GE597.out | refine bS ?_ GE605.out | refine bS ?_ GE606.out | refine bS ?_ GE609.out | refine bS ?_ GE625.out) | exact HB.out))) : w.heap.size ≤ gb626)); have n10_ := aM ((by rw [hg]; exact (below_size (by repeat (first | (with_reducible first | exact HB.out | apply bA | apply bN | apply bD | refine bS ?_ GE597.out | refine bS ?_ GE605.out | refine bS ?_ GE606.out | refine bS ?_ GE609.out | refine bS ?_ GE625.out) | exact HB.out))) : w.heap.size ≤ gb626)); have n11_ := aM ((by rw [hg]; exact Nat.ne_of_lt (blk_lt (g := gb597) (o := .cells #[.slice A0_0 l0_0.length c0_0, .slice A0_1 l0_1.length c0_1] 25 (0, 0)) (by (with_reducible repeat (first | refine kN ?_ _ | refine kD ?_ | refine kA ?_ _)); exact BK597.out)) : gb597 ≠ gb626)); have n12_ := aM ((by rw [hg]; exact Nat.ne_of_gt (blk_lt (g := gb597) (o := .cells #[.slice A0_0 l0_0.length c0_0, .slice A0_1 l0_1.length c0_1] 25 (0, 0)) (by (with_reducible repeat (first | refine kN ?_ _ | refine kD ?_ | refine kA ?_ _)); exact BK597.out)) : gb626 ≠ gb597)); have n13_ := aM ((by rw [hg]; exact Nat.ne_of_lt (blk_lt (g := gb605) (o := .cells #[.int .i64 t598, .int .i64 t599, .bool t600] 33 (0, 0)) (by (with_reducible repeat (first | refine kN ?_ _ | refine kD ?_ | refine kA ?_ _)); exact BK605.out)) : gb605 ≠ gb626)); have n14_ := aM ((by rw [hg]; exact Nat.ne_of_gt (blk_lt (g := gb605) (o := .cells #[.int .i64 t598, .int .i64 t599, .bool t600] 33 (0, 0)) (by (with_reducible repeat (first | refine kN ?_ _ | refine kD ?_ | refine kA ?_ _)); exact BK605.out)) : gb626 ≠ gb605)); have n15_ := aM ((by rw [hg]; exact Nat.ne_of_lt (blk_lt (g := gb606) (o := .cells #[.int .i64 t601, .int .i64 t602, .bool t603] 33 (0, 0)) (by (with_reducible repeat (first | refine kN ?_ _ | refine kD ?_ | refine kA ?_ _)); exact BK606.out)) : gb606 ≠ gb626)); have n16_ := aM ((by rw [hg]; exact Nat.ne_of_gt (blk_lt (g := gb606) (o := .cells #[.int .i64 t601, .int .i64 t602, .bool t603] 33 (0, 0)) (by (with_reducible repeat (first | refine kN ?_ _ | refine kD ?_ | refine kA ?_ _)); exact BK606.out)) : gb626 ≠ gb606)); have n17_ := aM ((by rw [hg]; exact Nat.ne_of_lt (blk_lt (g := gb609) (o := .cells #[.bool x610000_2, .bool x610001_2, .bool x610002_2, .bool x610003_2] 48 (0, 0)) (by (with_reducible repeat (first | refine kN ?_ _ | refine kD ?_ | refine kA ?_ _)); exact BK609.out)) : gb609 ≠ gb626)); have n18_ := aM ((by rw [hg]; exact Nat.ne_of_gt (blk_lt (g := gb609) (o := .cells #[.bool x610000_2, .bool x610001_2, .bool x610002_2, .bool x610003_2] 48 (0, 0)) (by (with_reducible repeat (first | refine kN ?_ _ | refine kD ?_ | refine kA ?_ _)); exact BK609.out)) : gb626 ≠ gb609)); have n19_ := aM ((by rw [hg]; exact Nat.ne_of_lt (blk_lt (g := gb625) (o := .cells #[.int .i64 0, .int .i64 0, .bool false] 33 (0, 0)) (by (with_reducible repeat (first | refine kN ?_ _ | refine kD ?_ | refine kA ?_ _)); exact BK625.out)) : gb625 ≠ gb626)); have n20_ := aM ((by rw [hg]; exact Nat.ne_of_gt (blk_lt (g := gb625) (o := .cells #[.int .i64 0, .int .i64 0, .bool false] 33 (0, 0)) (by (with_reducible repeat (first | refine kN ?_ _ | refine kD ?_ | refine kA ?_ _)); exact BK625.out)) : gb626 ≠ gb625)); clear HO614; clear HO617; clear BK597; clear BK605; clear BK606; clear BK609; clear BK625; clear HB; have HO614 := n0_; have HO617 := n1_; have BK597 := n2_; have BK605 := n3_; have BK606 := n4_; have BK609 := n5_; have BK625 := n6_; have HB := n7_; have BK626 := n8_; have GW626 := n9_; have GE626 := n10_; have NB597_626 := n11_; have NB626_597 := n12_; have NB605_626 := n13_; have NB626_605 := n14_; have NB606_626 := n15_; have NB626_606 := n16_; have NB609_626 := n17_; have NB626_609 := n18_; have NB625_626 := n19_; have NB626_625 := n20_; clear n0_ n1_ n2_ n3_ n4_ n5_ n6_ n7_ n8_ n9_ n10_ n11_ n12_ n13_ n14_ n15_ n16_ n17_ n18_ n19_ n20_; clear hb hbox hg; have hnb344 := NB625_597.out; have hnc344 := NB597_625.out; have hnb345 := NB625_605.out; have hnc345 := NB605_625.out; have hnb346 := NB625_606.out; have hnc346 := NB606_625.out; have hnb347 := NB625_609.out; have hnc347 := NB609_625.out; have hnb348 := NB625_626.out; have hnc348 := NB626_625.out; have hcz349_0 : w343.cell? ⟨gb625, 0, none⟩ = some (.int .i64 0) := (blk_cell BK625.out 0).trans rfl; have hcz349_1 : w343.cell? ⟨gb625, 1, none⟩ = some (.int .i64 0) := (blk_cell BK625.out 1).trans rfl; have hcz349_2 : w343.cell? ⟨gb625, 2, none⟩ = some (.bool false) := (blk_cell BK625.out 2).trans rfl; have hfz349_0 := blk_frozen BK625.out 0; have hfz349_1 := blk_frozen BK625.out 1; have hfz349_2 := blk_frozen BK625.out 2; have hnb350 := NB626_597.out; have hnc350 := NB597_626.out; have hnb351 := NB626_605.out; have hnc351 := NB605_626.out; have hnb352 := NB626_606.out; have hnc352 := NB606_626.out; have hnb353 := NB626_609.out; have hnc353 := NB609_626.out; have hcz354_0 : w343.cell? ⟨gb626, 0, none⟩ = some (.int .i64 0) := (blk_cell BK626.out 0).trans rfl; have hcz354_1 : w343.cell? ⟨gb626, 1, none⟩ = some (.int .i64 0) := (blk_cell BK626.out 1).trans rfl; have hcz354_2 : w343.cell? ⟨gb626, 2, none⟩ = some (.bool false) := (blk_cell BK626.out 2).trans rfl; have hfz354_0 := blk_frozen BK626.out 0; have hfz354_1 := blk_frozen BK626.out 1; have hfz354_2 := blk_frozen BK626.out 2) | ((with_reducible refine gate_callee (f := 21) rfl ?_); refine goesL_ (some 140) rfl rfl Try.func21 (by kernel_rfl) rfl #[] rfl (by (try simp only [List.map_toArray, List.map_cons, List.map_nil]); first | done | rfl | (simp only [List.length_drop, List.length_take]; rfl)) ?_; (with_reducible refine (fleuronlaw03_drawn.calls  true _ A329.out).mono ?_); rintro e w355 ⟨rfl, hb⟩; refine ⟨_, rfl, ?_⟩; have n0_ := aM (Kd.R_below (by (with_reducible repeat (first | apply Kd.R_alloc | apply Kd.R_drewN | apply Kd.R_drew)); exact (Kd.R_mono (Kd.R_mono (Kd.R_far (p := ⟨gb626, 2, none⟩) (Kd.R_far (p := ⟨gb626, 1, none⟩) (Kd.R_far (p := ⟨gb626, 0, none⟩) (Kd.R_far (p := ⟨gb625, 2, none⟩) (Kd.R_far (p := ⟨gb625, 1, none⟩) (Kd.R_far (p := ⟨gb625, 0, none⟩) (Kd.R_mono (Kd.R_mono HO614.out (fun k_ hk => (⟨hk, hk.1.2⟩ : _ ∧ k_ ≠ gb625))) (fun k_ hk => (⟨hk, hk.1.2⟩ : _ ∧ k_ ≠ gb626))) (fun _ hk => hk.1.2) (.int .i64 t618)) (fun _ hk => hk.1.2) (.int .i64 t619)) (fun _ hk => hk.1.2) (.bool t620)) (fun _ hk => hk.2) (.int .i64 t621)) (fun _ hk => hk.2) (.int .i64 t622)) (fun _ hk => hk.2) (.bool t623)) (fun _ h_ => h_.1)) (fun _ h_ => h_.1))) hb); have n1_ := aM (Kd.R_below (by (with_reducible repeat (first | apply Kd.R_alloc | apply Kd.R_drewN | apply Kd.R_drew)); exact (Kd.R_mono (Kd.R_mono (Kd.R_far (p := ⟨gb626, 2, none⟩) (Kd.R_far (p := ⟨gb626, 1, none⟩) (Kd.R_far (p := ⟨gb626, 0, none⟩) (Kd.R_far (p := ⟨gb625, 2, none⟩) (Kd.R_far (p := ⟨gb625, 1, none⟩) (Kd.R_far (p := ⟨gb625, 0, none⟩) (Kd.R_types (Kd.R_types HO617.out BK625.out (by decide)) BK626.out (by decide)) (fun _ hk => hk.1.2) (.int .i64 t618)) (fun _ hk => hk.1.2) (.int .i64 t619)) (fun _ hk => hk.1.2) (.bool t620)) (fun _ hk => hk.2) (.int .i64 t621)) (fun _ hk => hk.2) (.int .i64 t622)) (fun _ hk => hk.2) (.bool t623)) (fun _ h_ => h_.1)) (fun _ h_ => h_.1))) hb); have n2_ := aM (blk_below (g := gb597) (o := .cells #[.slice A0_0 l0_0.length c0_0, .slice A0_1 l0_1.length c0_1] 25 (0, 0)) (by (with_reducible repeat (first | refine kN ?_ _ | refine kD ?_ | refine kA ?_ _)); refine blk_far ?_ NB597_626.out _; (with_reducible repeat (first | refine kN ?_ _ | refine kD ?_ | refine kA ?_ _)); refine blk_far ?_ NB597_626.out _; (with_reducible repeat (first | refine kN ?_ _ | refine kD ?_ | refine kA ?_ _)); refine blk_far ?_ NB597_626.out _; (with_reducible repeat (first | refine kN ?_ _ | refine kD ?_ | refine kA ?_ _)); refine blk_far ?_ NB597_625.out _; (with_reducible repeat (first | refine kN ?_ _ | refine kD ?_ | refine kA ?_ _)); refine blk_far ?_ NB597_625.out _; (with_reducible repeat (first | refine kN ?_ _ | refine kD ?_ | refine kA ?_ _)); refine blk_far ?_ NB597_625.out _; (with_reducible repeat (first | refine kN ?_ _ | refine kD ?_ | refine kA ?_ _)); exact BK597.out) hb); have n3_ := aM (blk_below (g := gb605) (o := .cells #[.int .i64 t598, .int .i64 t599, .bool t600] 33 (0, 0)) (by (with_reducible repeat (first | refine kN ?_ _ | refine kD ?_ | refine kA ?_ _)); refine blk_far ?_ NB605_626.out _; (with_reducible repeat (first | refine kN ?_ _ | refine kD ?_ | refine kA ?_ _)); refine blk_far ?_ NB605_626.out _; (with_reducible repeat (first | refine kN ?_ _ | refine kD ?_ | refine kA ?_ _)); refine blk_far ?_ NB605_626.out _; (with_reducible repeat (first | refine kN ?_ _ | refine kD ?_ | refine kA ?_ _)); refine blk_far ?_ NB605_625.out _; (with_reducible repeat (first | refine kN ?_ _ | refine kD ?_ | refine kA ?_ _)); refine blk_far ?_ NB605_625.out _; (with_reducible repeat (first | refine kN ?_ _ | refine kD ?_ | refine kA ?_ _)); refine blk_far ?_ NB605_625.out _; (with_reducible repeat (first | refine kN ?_ _ | refine kD ?_ | refine kA ?_ _)); exact BK605.out) hb); have n4_ := aM (blk_below (g := gb606) (o := .cells #[.int .i64 t601, .int .i64 t602, .bool t603] 33 (0, 0)) (by (with_reducible repeat (first | refine kN ?_ _ | refine kD ?_ | refine kA ?_ _)); refine blk_far ?_ NB606_626.out _; (with_reducible repeat (first | refine kN ?_ _ | refine kD ?_ | refine kA ?_ _)); refine blk_far ?_ NB606_626.out _; (with_reducible repeat (first | refine kN ?_ _ | refine kD ?_ | refine kA ?_ _)); refine blk_far ?_ NB606_626.out _; (with_reducible repeat (first | refine kN ?_ _ | refine kD ?_ | refine kA ?_ _)); refine blk_far ?_ NB606_625.out _; (with_reducible repeat (first | refine kN ?_ _ | refine kD ?_ | refine kA ?_ _)); refine blk_far ?_ NB606_625.out _; (with_reducible repeat (first | refine kN ?_ _ | refine kD ?_ | refine kA ?_ _)); refine blk_far ?_ NB606_625.out _; (with_reducible repeat (first | refine kN ?_ _ | refine kD ?_ | refine kA ?_ _)); exact BK606.out) hb); have n5_ := aM (blk_below (g := gb609) (o := .cells #[.bool x610000_2, .bool x610001_2, .bool x610002_2, .bool x610003_2] 48 (0, 0)) (by (with_reducible repeat (first | refine kN ?_ _ | refine kD ?_ | refine kA ?_ _)); refine blk_far ?_ NB609_626.out _; (with_reducible repeat (first | refine kN ?_ _ | refine kD ?_ | refine kA ?_ _)); refine blk_far ?_ NB609_626.out _; (with_reducible repeat (first | refine kN ?_ _ | refine kD ?_ | refine kA ?_ _)); refine blk_far ?_ NB609_626.out _; (with_reducible repeat (first | refine kN ?_ _ | refine kD ?_ | refine kA ?_ _)); refine blk_far ?_ NB609_625.out _; (with_reducible repeat (first | refine kN ?_ _ | refine kD ?_ | refine kA ?_ _)); refine blk_far ?_ NB609_625.out _; (with_reducible repeat (first | refine kN ?_ _ | refine kD ?_ | refine kA ?_ _)); refine blk_far ?_ NB609_625.out _; (with_reducible repeat (first | refine kN ?_ _ | refine kD ?_ | refine kA ?_ _)); exact BK609.out) hb); have n6_ := aM (blk_below (g := gb625) (o := .cells #[.int .i64 t618, .int .i64 t619, .bool t620] 33 (0, 0)) (by (with_reducible repeat (first | refine kN ?_ _ | refine kD ?_ | refine kA ?_ _)); refine blk_far ?_ NB625_626.out _; (with_reducible repeat (first | refine kN ?_ _ | refine kD ?_ | refine kA ?_ _)); refine blk_far ?_ NB625_626.out _; (with_reducible repeat (first | refine kN ?_ _ | refine kD ?_ | refine kA ?_ _)); refine blk_far ?_ NB625_626.out _; (with_reducible repeat (first | refine kN ?_ _ | refine kD ?_ | refine kA ?_ _)); refine blk_put (cs := #[.int .i64 t618, .int .i64 t619, .bool false]) ?_ 2 _ rfl; (with_reducible repeat (first | refine kN ?_ _ | refine kD ?_ | refine kA ?_ _)); refine blk_put (cs := #[.int .i64 t618, .int .i64 0, .bool false]) ?_ 1 _ rfl; (with_reducible repeat (first | refine kN ?_ _ | refine kD ?_ | refine kA ?_ _)); refine blk_put (cs := #[.int .i64 0, .int .i64 0, .bool false]) ?_ 0 _ rfl; (with_reducible repeat (first | refine kN ?_ _ | refine kD ?_ | refine kA ?_ _)); exact BK625.out) hb); have n7_ := aM (blk_below (g := gb626) (o := .cells #[.int .i64 t621, .int .i64 t622, .bool t623] 33 (0, 0)) (by (with_reducible repeat (first | refine kN ?_ _ | refine kD ?_ | refine kA ?_ _)); refine blk_put (cs := #[.int .i64 t621, .int .i64 t622, .bool false]) ?_ 2 _ rfl; (with_reducible repeat (first | refine kN ?_ _ | refine kD ?_ | refine kA ?_ _)); refine blk_put (cs := #[.int .i64 t621, .int .i64 0, .bool false]) ?_ 1 _ rfl; (with_reducible repeat (first | refine kN ?_ _ | refine kD ?_ | refine kA ?_ _)); refine blk_put (cs := #[.int .i64 0, .int .i64 0, .bool false]) ?_ 0 _ rfl; (with_reducible repeat (first | refine kN ?_ _ | refine kD ?_ | refine kA ?_ _)); refine blk_far ?_ NB626_625.out _; (with_reducible repeat (first | refine kN ?_ _ | refine kD ?_ | refine kA ?_ _)); refine blk_far ?_ NB626_625.out _; (with_reducible repeat (first | refine kN ?_ _ | refine kD ?_ | refine kA ?_ _)); refine blk_far ?_ NB626_625.out _; (with_reducible repeat (first | refine kN ?_ _ | refine kD ?_ | refine kA ?_ _)); exact BK626.out) hb); have n8_ := aM (below_step (by repeat (first | (with_reducible first | exact HB.out | apply bA | apply bN | apply bD | refine bS ?_ GE597.out | refine bS ?_ GE605.out | refine bS ?_ GE606.out | refine bS ?_ GE609.out | refine bS ?_ GE625.out | refine bS ?_ GE626.out) | exact HB.out)) hb); clear HO614; clear HO617; clear BK597; clear BK605; clear BK606; clear BK609; clear BK625; clear BK626; clear HB; have HO614 := n0_; have HO617 := n1_; have BK597 := n2_; have BK605 := n3_; have BK606 := n4_; have BK609 := n5_; have BK625 := n6_; have BK626 := n7_; have HB := n8_; clear n0_ n1_ n2_ n3_ n4_ n5_ n6_ n7_ n8_; (try clear hb); (try clear hb2); (try clear hk); (try clear hi); have hnb356 := NB609_605.out; have hnc356 := NB605_609.out; have hnb357 := NB609_606.out; have hnc357 := NB606_609.out; have hcz358_0 : w355.cell? ⟨gb609, 0, none⟩ = some (.bool x610000_2) := (blk_cell BK609.out 0).trans rfl; have hcz358_1 : w355.cell? ⟨gb609, 1, none⟩ = some (.bool x610001_2) := (blk_cell BK609.out 1).trans rfl; have hcz358_2 : w355.cell? ⟨gb609, 2, none⟩ = some (.bool x610002_2) := (blk_cell BK609.out 2).trans rfl; have hcz358_3 : w355.cell? ⟨gb609, 3, none⟩ = some (.bool x610003_2) := (blk_cell BK609.out 3).trans rfl; have hfz358_0 := blk_frozen BK609.out 0; have hfz358_1 := blk_frozen BK609.out 1; have hfz358_2 := blk_frozen BK609.out 2; have hfz358_3 := blk_frozen BK609.out 3; have hcz359_0 : w355.cell? ⟨gb625, 0, none⟩ = some (.int .i64 t618) := (blk_cell BK625.out 0).trans rfl; have hcz359_1 : w355.cell? ⟨gb625, 1, none⟩ = some (.int .i64 t619) := (blk_cell BK625.out 1).trans rfl; have hcz359_2 : w355.cell? ⟨gb625, 2, none⟩ = some (.bool t620) := (blk_cell BK625.out 2).trans rfl; have hfz359_0 := blk_frozen BK625.out 0; have hfz359_1 := blk_frozen BK625.out 1; have hfz359_2 := blk_frozen BK625.out 2; have hnb360 := NB605_606.out; have hnc360 := NB606_605.out; have hcz361_0 : w355.cell? ⟨gb605, 0, none⟩ = some (.int .i64 t598) := (blk_cell BK605.out 0).trans rfl; have hcz361_1 : w355.cell? ⟨gb605, 1, none⟩ = some (.int .i64 t599) := (blk_cell BK605.out 1).trans rfl; have hcz361_2 : w355.cell? ⟨gb605, 2, none⟩ = some (.bool t600) := (blk_cell BK605.out 2).trans rfl; have hfz361_0 := blk_frozen BK605.out 0; have hfz361_1 := blk_frozen BK605.out 1; have hfz361_2 := blk_frozen BK605.out 2; have hcz362_0 : w355.cell? ⟨gb626, 0, none⟩ = some (.int .i64 t621) := (blk_cell BK626.out 0).trans rfl; have hcz362_1 : w355.cell? ⟨gb626, 1, none⟩ = some (.int .i64 t622) := (blk_cell BK626.out 1).trans rfl; have hcz362_2 : w355.cell? ⟨gb626, 2, none⟩ = some (.bool t623) := (blk_cell BK626.out 2).trans rfl; have hfz362_0 := blk_frozen BK626.out 0; have hfz362_1 := blk_frozen BK626.out 1; have hfz362_2 := blk_frozen BK626.out 2; have hcz363_0 : w355.cell? ⟨gb606, 0, none⟩ = some (.int .i64 t601) := (blk_cell BK606.out 0).trans rfl; have hcz363_1 : w355.cell? ⟨gb606, 1, none⟩ = some (.int .i64 t602) := (blk_cell BK606.out 1).trans rfl; have hcz363_2 : w355.cell? ⟨gb606, 2, none⟩ = some (.bool t603) := (blk_cell BK606.out 2).trans rfl; have hfz363_0 := blk_frozen BK606.out 0; have hfz363_1 := blk_frozen BK606.out 1; have hfz363_2 := blk_frozen BK606.out 2))
            go_ret
            exact ⟨by first | rfl | (simp [errW_none, errW_some] <;> rfl) | (simp [*, errW_none, errW_some] <;> rfl), by repeat (first | (with_reducible first | exact HB.out | apply bA | apply bN | apply bD | refine bS ?_ GE597.out | refine bS ?_ GE605.out | refine bS ?_ GE606.out | refine bS ?_ GE609.out | refine bS ?_ GE625.out | refine bS ?_ GE626.out) | exact HB.out)⟩
           ·
            rw [if_neg c333] at H
            exact absurd H (by simp)
          ·
           rw [if_neg c332] at H
           exact absurd H (by simp)
         ·
          replace c331 := Bool.eq_false_iff.mpr c331
          subst c331
          have H1 : (none) = some r := by rw [if_neg (show ¬ (false = true) by decide)] at H; exact H
          clear H
          have H := H1
          clear H1
          exact absurd H (by simp)
        ·
         replace c330 := Bool.eq_false_iff.mpr c330
         subst c330
         have H1 : (none) = some r := by rw [if_neg (show ¬ (false = true) by decide)] at H; exact H
         clear H
         have H := H1
         clear H1
         exact absurd H (by simp)
       ·
        replace c328 := Bool.eq_false_iff.mpr c328
        subst c328
        have H1 : ((fleuronlaw03_drawn.f).bind fun t628 => (if t628 = true then (if t624 = true then (none) else (some ((l0_0.length : Int) == 0))) else (none))) = some r := by rw [if_neg (show ¬ (false = true) by decide)] at H; exact H
        clear H
        have H := H1
        clear H1
        replace H := Option.bind_eq_some_iff.mp H
        obtain ⟨t628, A3640, H⟩ := H
        replace H : (if t628 = true then (if t624 = true then (none) else (some ((l0_0.length : Int) == 0))) else (none)) = some r := H
        have A364 := aM A3640
        clear A3640
        by_cases c365 : t628 = true
        ·
         subst c365
         have H1 : (if t624 = true then (none) else (some ((l0_0.length : Int) == 0))) = some r := by rw [if_pos rfl] at H; exact H
         clear H
         have H := H1
         clear H1
         by_cases c366 : t624 = true
         ·
          subst c366
          have H1 : (none) = some r := by rw [if_pos rfl] at H; exact H
          clear H
          have H := H1
          clear H1
          exact absurd H (by simp)
         ·
          replace c366 := Bool.eq_false_iff.mpr c366
          subst c366
          have H1 : (some ((l0_0.length : Int) == 0)) = some r := by rw [if_neg (show ¬ (false = true) by decide)] at H; exact H
          clear H
          have H := H1
          clear H1
          obtain rfl := Option.some.inj H
          have hnb367 := NB597_605.out
          have hnc367 := NB605_597.out
          have hnb368 := NB597_606.out
          have hnc368 := NB606_597.out
          have hnb369 := NB597_609.out
          have hnc369 := NB609_597.out
          have hcz370_0 : wr.cell? ⟨gb597, 0, none⟩ = some (.slice A0_0 l0_0.length c0_0) := (blk_cell BK597.out 0).trans rfl
          have hcz370_1 : wr.cell? ⟨gb597, 1, none⟩ = some (.slice A0_1 l0_1.length c0_1) := (blk_cell BK597.out 1).trans rfl
          have hfz370_0 := blk_frozen BK597.out 0
          have hfz370_1 := blk_frozen BK597.out 1
          go_wp2_with (first | ((with_reducible refine gate_callee (f := 27) rfl ?_); refine goesL_ (some 122) rfl rfl Try.func27 (by kernel_rfl) rfl #[.agg #[.slice A0_0 l0_0.length c0_0, .slice A0_1 l0_1.length c0_1], .int .i64 a1, .int .i64 a2] rfl (by (try simp only [List.map_toArray, List.map_cons, List.map_nil]); first | done | rfl | (simp only [List.length_drop, List.length_take]; rfl)) ?_; (with_reducible refine (outline_Moved.calls k2 _ _ l0_0 _ _ l0_1 a1 a2 t612 t615 _ ?side1 ?side2 ?side3 ?side4 A326.out).mono ?_); (case side1 => repeat (first | exact (Kd.C_below HR0_0.out HB.out) | (with_reducible refine Kd.C_alloc ?_ _) | (with_reducible refine Kd.C_drewN ?_ _) | (with_reducible refine Kd.C_drew ?_))); (case side2 => exact HC0_0.out); (case side3 => repeat (first | exact (Kd.C_below HR0_1.out HB.out) | (with_reducible refine Kd.C_alloc ?_ _) | (with_reducible refine Kd.C_drewN ?_ _) | (with_reducible refine Kd.C_drew ?_))); (case side4 => exact HC0_1.out); rintro e w371 ⟨v613, v616, rfl, ho0, ho1, hb⟩; refine ⟨_, rfl, ?_⟩; have n0_ := aM (Kd.R_lower (Kd.R_newB (Kd.R_newB ho0 (g := gb605) (o := .cells #[.int .i64 t598, .int .i64 t599, .bool t600] 33 (0, 0)) (by (with_reducible repeat (first | refine kN ?_ _ | refine kD ?_ | refine kA ?_ _)); exact BK605.out)) (g := gb606) (o := .cells #[.int .i64 t601, .int .i64 t602, .bool t603] 33 (0, 0)) (by (with_reducible repeat (first | refine kN ?_ _ | refine kD ?_ | refine kA ?_ _)); exact BK606.out)) (below_size (by repeat (first | (with_reducible first | exact HB.out | apply bA | apply bN | apply bD | refine bS ?_ GE597.out | refine bS ?_ GE605.out | refine bS ?_ GE606.out | refine bS ?_ GE609.out) | exact HB.out)))); have n1_ := aM (Kd.R_lower ho1 (below_size (by repeat (first | (with_reducible first | exact HB.out | apply bA | apply bN | apply bD | refine bS ?_ GE597.out | refine bS ?_ GE605.out | refine bS ?_ GE606.out | refine bS ?_ GE609.out) | exact HB.out)))); have n2_ := aM (blk_below (g := gb597) (o := .cells #[.slice A0_0 l0_0.length c0_0, .slice A0_1 l0_1.length c0_1] 25 (0, 0)) (by (with_reducible repeat (first | refine kN ?_ _ | refine kD ?_ | refine kA ?_ _)); exact BK597.out) hb); have n3_ := aM (blk_below (g := gb605) (o := .cells #[.int .i64 t598, .int .i64 t599, .bool t600] 33 (0, 0)) (by (with_reducible repeat (first | refine kN ?_ _ | refine kD ?_ | refine kA ?_ _)); exact BK605.out) hb); have n4_ := aM (blk_below (g := gb606) (o := .cells #[.int .i64 t601, .int .i64 t602, .bool t603] 33 (0, 0)) (by (with_reducible repeat (first | refine kN ?_ _ | refine kD ?_ | refine kA ?_ _)); exact BK606.out) hb); have n5_ := aM (blk_below (g := gb609) (o := .cells #[.bool x610000_2, .bool x610001_2, .bool x610002_2, .bool x610003_2] 48 (0, 0)) (by (with_reducible repeat (first | refine kN ?_ _ | refine kD ?_ | refine kA ?_ _)); exact BK609.out) hb); have n6_ := aM (below_step (by repeat (first | (with_reducible first | exact HB.out | apply bA | apply bN | apply bD | refine bS ?_ GE597.out | refine bS ?_ GE605.out | refine bS ?_ GE606.out | refine bS ?_ GE609.out) | exact HB.out)) hb); clear BK597; clear BK605; clear BK606; clear BK609; clear HB; have HO614 := n0_; have HO617 := n1_; have BK597 := n2_; have BK605 := n3_; have BK606 := n4_; have BK609 := n5_; have HB := n6_; clear n0_ n1_ n2_ n3_ n4_ n5_ n6_; (try clear hb); (try clear hb2); (try clear hk); (try clear hi); (try clear ho0); (try clear ho1); obtain ⟨Ao372, co372, eo372⟩ := Kd.R_slice HO614.out; subst eo372; obtain ⟨Ao373, co373, eo373⟩ := Kd.R_slice HO617.out; subst eo373) | ((with_reducible refine gate_callee (f := 19) rfl ?_); refine goesL_ (some 123) rfl rfl Try.func19 (by kernel_rfl) rfl #[.agg #[.slice Ao372 t612.length co372, .slice Ao373 t615.length co373]] rfl (by (try simp only [List.map_toArray, List.map_cons, List.map_nil]); first | done | rfl | (simp only [List.length_drop, List.length_take]; rfl)) ?_; (with_reducible refine (outline_Box.calls _ _ t612 _ _ t615 t618 t619 t620 t621 t622 t623 false _ ?side1 ?side2 ?side3 ?side4 A327.out).mono ?_); (case side1 => repeat (first | exact (Kd.R_reads' HO614.out).2.2 | (with_reducible refine Kd.C_alloc ?_ _) | (with_reducible refine Kd.C_drewN ?_ _) | (with_reducible refine Kd.C_drew ?_))); (case side2 => exact (Kd.R_reads' HO614.out).2.1); (case side3 => repeat (first | exact (Kd.R_reads' HO617.out).2.2 | (with_reducible refine Kd.C_alloc ?_ _) | (with_reducible refine Kd.C_drewN ?_ _) | (with_reducible refine Kd.C_drew ?_))); (case side4 => exact (Kd.R_reads' HO617.out).2.1); rintro e w374 ⟨rfl, hb⟩; refine ⟨_, rfl, ?_⟩; have n0_ := aM (Kd.R_below (by (with_reducible repeat (first | apply Kd.R_alloc | apply Kd.R_drewN | apply Kd.R_drew)); exact HO614.out) hb); have n1_ := aM (Kd.R_below (by (with_reducible repeat (first | apply Kd.R_alloc | apply Kd.R_drewN | apply Kd.R_drew)); exact HO617.out) hb); have n2_ := aM (blk_below (g := gb597) (o := .cells #[.slice A0_0 l0_0.length c0_0, .slice A0_1 l0_1.length c0_1] 25 (0, 0)) (by (with_reducible repeat (first | refine kN ?_ _ | refine kD ?_ | refine kA ?_ _)); exact BK597.out) hb); have n3_ := aM (blk_below (g := gb605) (o := .cells #[.int .i64 t598, .int .i64 t599, .bool t600] 33 (0, 0)) (by (with_reducible repeat (first | refine kN ?_ _ | refine kD ?_ | refine kA ?_ _)); exact BK605.out) hb); have n4_ := aM (blk_below (g := gb606) (o := .cells #[.int .i64 t601, .int .i64 t602, .bool t603] 33 (0, 0)) (by (with_reducible repeat (first | refine kN ?_ _ | refine kD ?_ | refine kA ?_ _)); exact BK606.out) hb); have n5_ := aM (blk_below (g := gb609) (o := .cells #[.bool x610000_2, .bool x610001_2, .bool x610002_2, .bool x610003_2] 48 (0, 0)) (by (with_reducible repeat (first | refine kN ?_ _ | refine kD ?_ | refine kA ?_ _)); exact BK609.out) hb); have n6_ := aM (below_step (by repeat (first | (with_reducible first | exact HB.out | apply bA | apply bN | apply bD | refine bS ?_ GE597.out | refine bS ?_ GE605.out | refine bS ?_ GE606.out | refine bS ?_ GE609.out) | exact HB.out)) hb); clear HO614; clear HO617; clear BK597; clear BK605; clear BK606; clear BK609; clear HB; have HO614 := n0_; have HO617 := n1_; have BK597 := n2_; have BK605 := n3_; have BK606 := n4_; have BK609 := n5_; have HB := n6_; clear n0_ n1_ n2_ n3_ n4_ n5_ n6_; (try clear hb); (try clear hb2); (try clear hk); (try clear hi)) | ((with_reducible refine gate_dst (N := 13) rfl ?_); (try (refine gate_guard (by rfl) ?_; dsimp only)); refine box_event ?hg (N := 13) ?hd (cs := #[.int .i64 0, .int .i64 0, .bool false]) (t := 33) ?hr ?_; (case hd => rfl); (case hg => rfl); (case hr => first | (go_simp; done) | (go_simp; rfl)); intro gb625 hg w375 hbox hb; have n0_ := aM (Kd.R_below (Kd.R_elderB (by (with_reducible repeat (first | apply Kd.R_alloc | apply Kd.R_drewN | apply Kd.R_drew)); exact HO614.out) gb625 (Nat.le_of_eq hg.symm)) hb); have n1_ := aM (Kd.R_below (by (with_reducible repeat (first | apply Kd.R_alloc | apply Kd.R_drewN | apply Kd.R_drew)); exact HO617.out) hb); have n2_ := aM (blk_below (g := gb597) (o := .cells #[.slice A0_0 l0_0.length c0_0, .slice A0_1 l0_1.length c0_1] 25 (0, 0)) (by (with_reducible repeat (first | refine kN ?_ _ | refine kD ?_ | refine kA ?_ _)); exact BK597.out) hb); have n3_ := aM (blk_below (g := gb605) (o := .cells #[.int .i64 t598, .int .i64 t599, .bool t600] 33 (0, 0)) (by (with_reducible repeat (first | refine kN ?_ _ | refine kD ?_ | refine kA ?_ _)); exact BK605.out) hb); have n4_ := aM (blk_below (g := gb606) (o := .cells #[.int .i64 t601, .int .i64 t602, .bool t603] 33 (0, 0)) (by (with_reducible repeat (first | refine kN ?_ _ | refine kD ?_ | refine kA ?_ _)); exact BK606.out) hb); have n5_ := aM (blk_below (g := gb609) (o := .cells #[.bool x610000_2, .bool x610001_2, .bool x610002_2, .bool x610003_2] 48 (0, 0)) (by (with_reducible repeat (first | refine kN ?_ _ | refine kD ?_ | refine kA ?_ _)); exact BK609.out) hb); have n6_ := aM (below_step (by repeat (first | (with_reducible first | exact HB.out | apply bA | apply bN | apply bD | refine bS ?_ GE597.out | refine bS ?_ GE605.out | refine bS ?_ GE606.out | refine bS ?_ GE609.out) | exact HB.out)) hb); have n7_ := aM (hbox); have n8_ := aM ((by rw [hg]; exact (below_size (by repeat (first | (with_reducible first | exact HB.out | apply bA | apply bN | apply bD | refine bS ?_ GE597.out | refine bS ?_ GE605.out | refine bS ?_ GE606.out | refine bS ?_ GE609.out) | exact HB.out))) : w.heap.size ≤ gb625)); have n9_ := aM ((by rw [hg]; exact (below_size (by repeat (first | (with_reducible first | exact HB.out | apply bA | apply bN | apply bD | refine bS ?_ GE597.out | refine bS ?_ GE605.out | refine bS ?_ GE606.out | refine bS ?_ GE609.out) | exact HB.out))) : w.heap.size ≤ gb625)); have n10_ := aM ((by rw [hg]; exact Nat.ne_of_lt (blk_lt (g := gb597) (o := .cells #[.slice A0_0 l0_0.length c0_0, .slice A0_1 l0_1.length c0_1] 25 (0, 0)) (by (with_reducible repeat (first | refine kN ?_ _ | refine kD ?_ | refine kA ?_ _)); exact BK597.out)) : gb597 ≠ gb625)); have n11_ := aM ((by rw [hg]; exact Nat.ne_of_gt (blk_lt (g := gb597) (o := .cells #[.slice A0_0 l0_0.length c0_0, .slice A0_1 l0_1.length c0_1] 25 (0, 0)) (by (with_reducible repeat (first | refine kN ?_ _ | refine kD ?_ | refine kA ?_ _)); exact BK597.out)) : gb625 ≠ gb597)); have n12_ := aM ((by rw [hg]; exact Nat.ne_of_lt (blk_lt (g := gb605) (o := .cells #[.int .i64 t598, .int .i64 t599, .bool t600] 33 (0, 0)) (by (with_reducible repeat (first | refine kN ?_ _ | refine kD ?_ | refine kA ?_ _)); exact BK605.out)) : gb605 ≠ gb625)); have n13_ := aM ((by rw [hg]; exact Nat.ne_of_gt (blk_lt (g := gb605) (o := .cells #[.int .i64 t598, .int .i64 t599, .bool t600] 33 (0, 0)) (by (with_reducible repeat (first | refine kN ?_ _ | refine kD ?_ | refine kA ?_ _)); exact BK605.out)) : gb625 ≠ gb605)); have n14_ := aM ((by rw [hg]; exact Nat.ne_of_lt (blk_lt (g := gb606) (o := .cells #[.int .i64 t601, .int .i64 t602, .bool t603] 33 (0, 0)) (by (with_reducible repeat (first | refine kN ?_ _ | refine kD ?_ | refine kA ?_ _)); exact BK606.out)) : gb606 ≠ gb625)); have n15_ := aM ((by rw [hg]; exact Nat.ne_of_gt (blk_lt (g := gb606) (o := .cells #[.int .i64 t601, .int .i64 t602, .bool t603] 33 (0, 0)) (by (with_reducible repeat (first | refine kN ?_ _ | refine kD ?_ | refine kA ?_ _)); exact BK606.out)) : gb625 ≠ gb606)); have n16_ := aM ((by rw [hg]; exact Nat.ne_of_lt (blk_lt (g := gb609) (o := .cells #[.bool x610000_2, .bool x610001_2, .bool x610002_2, .bool x610003_2] 48 (0, 0)) (by (with_reducible repeat (first | refine kN ?_ _ | refine kD ?_ | refine kA ?_ _)); exact BK609.out)) : gb609 ≠ gb625)); have n17_ := aM ((by rw [hg]; exact Nat.ne_of_gt (blk_lt (g := gb609) (o := .cells #[.bool x610000_2, .bool x610001_2, .bool x610002_2, .bool x610003_2] 48 (0, 0)) (by (with_reducible repeat (first | refine kN ?_ _ | refine kD ?_ | refine kA ?_ _)); exact BK609.out)) : gb625 ≠ gb609)); clear HO614; clear HO617; clear BK597; clear BK605; clear BK606; clear BK609; clear HB; have HO614 := n0_; have HO617 := n1_; have BK597 := n2_; have BK605 := n3_; have BK606 := n4_; have BK609 := n5_; have HB := n6_; have BK625 := n7_; have GW625 := n8_; have GE625 := n9_; have NB597_625 := n10_; have NB625_597 := n11_; have NB605_625 := n12_; have NB625_605 := n13_; have NB606_625 := n14_; have NB625_606 := n15_; have NB609_625 := n16_; have NB625_609 := n17_; clear n0_ n1_ n2_ n3_ n4_ n5_ n6_ n7_ n8_ n9_ n10_ n11_ n12_ n13_ n14_ n15_ n16_ n17_; clear hb hbox hg) | ((with_reducible refine gate_dst (N := 14) rfl ?_); (try (refine gate_guard (by rfl) ?_; dsimp only)); refine box_event ?hg (N := 14) ?hd (cs := #[.int .i64 0, .int .i64 0, .bool false]) (t := 33) ?hr ?_; (case hd => rfl); (case hg => rfl); (case hr => first | (go_simp; done) | (go_simp; rfl)); intro gb626 hg w376 hbox hb; have n0_ := aM (Kd.R_below (Kd.R_elderB (by (with_reducible repeat (first | apply Kd.R_alloc | apply Kd.R_drewN | apply Kd.R_drew)); exact HO614.out) gb626 (Nat.le_of_eq hg.symm)) hb); have n1_ := aM (Kd.R_below (by (with_reducible repeat (first | apply Kd.R_alloc | apply Kd.R_drewN | apply Kd.R_drew)); exact HO617.out) hb); have n2_ := aM (blk_below (g := gb597) (o := .cells #[.slice A0_0 l0_0.length c0_0, .slice A0_1 l0_1.length c0_1] 25 (0, 0)) (by (with_reducible repeat (first | refine kN ?_ _ | refine kD ?_ | refine kA ?_ _)); exact BK597.out) hb); have n3_ := aM (blk_below (g := gb605) (o := .cells #[.int .i64 t598, .int .i64 t599, .bool t600] 33 (0, 0)) (by (with_reducible repeat (first | refine kN ?_ _ | refine kD ?_ | refine kA ?_ _)); exact BK605.out) hb); have n4_ := aM (blk_below (g := gb606) (o := .cells #[.int .i64 t601, .int .i64 t602, .bool t603] 33 (0, 0)) (by (with_reducible repeat (first | refine kN ?_ _ | refine kD ?_ | refine kA ?_ _)); exact BK606.out) hb); have n5_ := aM (blk_below (g := gb609) (o := .cells #[.bool x610000_2, .bool x610001_2, .bool x610002_2, .bool x610003_2] 48 (0, 0)) (by (with_reducible repeat (first | refine kN ?_ _ | refine kD ?_ | refine kA ?_ _)); exact BK609.out) hb); have n6_ := aM (blk_below (g := gb625) (o := .cells #[.int .i64 0, .int .i64 0, .bool false] 33 (0, 0)) (by (with_reducible repeat (first | refine kN ?_ _ | refine kD ?_ | refine kA ?_ _)); exact BK625.out) hb); have n7_ := aM (below_step (by repeat (first | (with_reducible first | exact HB.out | apply bA | apply bN | apply bD | refine bS ?_ GE597.out | refine bS ?_ GE605.out | refine bS ?_ GE606.out | refine bS ?_ GE609.out | refine bS ?_ GE625.out) | exact HB.out)) hb); have n8_ := aM (hbox); have n9_ := aM ((by rw [hg]; exact (below_size (by repeat (first | (with_reducible first | exact HB.out | apply bA | apply bN | apply bD | refine bS ?_ GE597.out | refine bS ?_ GE605.out | refine bS ?_ GE606.out | refine bS ?_ GE609.out | refine bS ?_ GE625.out) | exact HB.out))) : w.heap.size ≤ gb626)); have n10_ := aM ((by rw [hg]; exact (below_size (by repeat (first | (with_reducible first | exact HB.out | apply bA | apply bN | apply bD | refine bS ?_ GE597.out | refine bS ?_ GE605.out | refine bS ?_ GE606.out | refine bS ?_ GE609.out | refine bS ?_ GE625.out) | exact HB.out))) : w.heap.size ≤ gb626)); have n11_ := aM ((by rw [hg]; exact Nat.ne_of_lt (blk_lt (g := gb597) (o := .cells #[.slice A0_0 l0_0.length c0_0, .slice A0_1 l0_1.length c0_1] 25 (0, 0)) (by (with_reducible repeat (first | refine kN ?_ _ | refine kD ?_ | refine kA ?_ _)); exact BK597.out)) : gb597 ≠ gb626)); have n12_ := aM ((by rw [hg]; exact Nat.ne_of_gt (blk_lt (g := gb597) (o := .cells #[.slice A0_0 l0_0.length c0_0, .slice A0_1 l0_1.length c0_1] 25 (0, 0)) (by (with_reducible repeat (first | refine kN ?_ _ | refine kD ?_ | refine kA ?_ _)); exact BK597.out)) : gb626 ≠ gb597)); have n13_ := aM ((by rw [hg]; exact Nat.ne_of_lt (blk_lt (g := gb605) (o := .cells #[.int .i64 t598, .int .i64 t599, .bool t600] 33 (0, 0)) (by (with_reducible repeat (first | refine kN ?_ _ | refine kD ?_ | refine kA ?_ _)); exact BK605.out)) : gb605 ≠ gb626)); have n14_ := aM ((by rw [hg]; exact Nat.ne_of_gt (blk_lt (g := gb605) (o := .cells #[.int .i64 t598, .int .i64 t599, .bool t600] 33 (0, 0)) (by (with_reducible repeat (first | refine kN ?_ _ | refine kD ?_ | refine kA ?_ _)); exact BK605.out)) : gb626 ≠ gb605)); have n15_ := aM ((by rw [hg]; exact Nat.ne_of_lt (blk_lt (g := gb606) (o := .cells #[.int .i64 t601, .int .i64 t602, .bool t603] 33 (0, 0)) (by (with_reducible repeat (first | refine kN ?_ _ | refine kD ?_ | refine kA ?_ _)); exact BK606.out)) : gb606 ≠ gb626)); have n16_ := aM ((by rw [hg]; exact Nat.ne_of_gt (blk_lt (g := gb606) (o := .cells #[.int .i64 t601, .int .i64 t602, .bool t603] 33 (0, 0)) (by (with_reducible repeat (first | refine kN ?_ _ | refine kD ?_ | refine kA ?_ _)); exact BK606.out)) : gb626 ≠ gb606)); have n17_ := aM ((by rw [hg]; exact Nat.ne_of_lt (blk_lt (g := gb609) (o := .cells #[.bool x610000_2, .bool x610001_2, .bool x610002_2, .bool x610003_2] 48 (0, 0)) (by (with_reducible repeat (first | refine kN ?_ _ | refine kD ?_ | refine kA ?_ _)); exact BK609.out)) : gb609 ≠ gb626)); have n18_ := aM ((by rw [hg]; exact Nat.ne_of_gt (blk_lt (g := gb609) (o := .cells #[.bool x610000_2, .bool x610001_2, .bool x610002_2, .bool x610003_2] 48 (0, 0)) (by (with_reducible repeat (first | refine kN ?_ _ | refine kD ?_ | refine kA ?_ _)); exact BK609.out)) : gb626 ≠ gb609)); have n19_ := aM ((by rw [hg]; exact Nat.ne_of_lt (blk_lt (g := gb625) (o := .cells #[.int .i64 0, .int .i64 0, .bool false] 33 (0, 0)) (by (with_reducible repeat (first | refine kN ?_ _ | refine kD ?_ | refine kA ?_ _)); exact BK625.out)) : gb625 ≠ gb626)); have n20_ := aM ((by rw [hg]; exact Nat.ne_of_gt (blk_lt (g := gb625) (o := .cells #[.int .i64 0, .int .i64 0, .bool false] 33 (0, 0)) (by (with_reducible repeat (first | refine kN ?_ _ | refine kD ?_ | refine kA ?_ _)); exact BK625.out)) : gb626 ≠ gb625)); clear HO614; clear HO617; clear BK597; clear BK605; clear BK606; clear BK609; clear BK625; clear HB; have HO614 := n0_; have HO617 := n1_; have BK597 := n2_; have BK605 := n3_; have BK606 := n4_; have BK609 := n5_; have BK625 := n6_; have HB := n7_; have BK626 := n8_; have GW626 := n9_; have GE626 := n10_; have NB597_626 := n11_; have NB626_597 := n12_; have NB605_626 := n13_; have NB626_605 := n14_; have NB606_626 := n15_; have NB626_606 := n16_; have NB609_626 := n17_; have NB626_609 := n18_; have NB625_626 := n19_; have NB626_625 := n20_; clear n0_ n1_ n2_ n3_ n4_ n5_ n6_ n7_ n8_ n9_ n10_ n11_ n12_ n13_ n14_ n15_ n16_ n17_ n18_ n19_ n20_; clear hb hbox hg; have hnb377 := NB625_597.out; have hnc377 := NB597_625.out; have hnb378 := NB625_605.out; have hnc378 := NB605_625.out; have hnb379 := NB625_606.out; have hnc379 := NB606_625.out; have hnb380 := NB625_609.out; have hnc380 := NB609_625.out; have hnb381 := NB625_626.out; have hnc381 := NB626_625.out; have hcz382_0 : w376.cell? ⟨gb625, 0, none⟩ = some (.int .i64 0) := (blk_cell BK625.out 0).trans rfl; have hcz382_1 : w376.cell? ⟨gb625, 1, none⟩ = some (.int .i64 0) := (blk_cell BK625.out 1).trans rfl; have hcz382_2 : w376.cell? ⟨gb625, 2, none⟩ = some (.bool false) := (blk_cell BK625.out 2).trans rfl; have hfz382_0 := blk_frozen BK625.out 0; have hfz382_1 := blk_frozen BK625.out 1; have hfz382_2 := blk_frozen BK625.out 2; have hnb383 := NB626_597.out; have hnc383 := NB597_626.out; have hnb384 := NB626_605.out; have hnc384 := NB605_626.out; have hnb385 := NB626_606.out; have hnc385 := NB606_626.out; have hnb386 := NB626_609.out; have hnc386 := NB609_626.out; have hcz387_0 : w376.cell? ⟨gb626, 0, none⟩ = some (.int .i64 0) := (blk_cell BK626.out 0).trans rfl; have hcz387_1 : w376.cell? ⟨gb626, 1, none⟩ = some (.int .i64 0) := (blk_cell BK626.out 1).trans rfl; have hcz387_2 : w376.cell? ⟨gb626, 2, none⟩ = some (.bool false) := (blk_cell BK626.out 2).trans rfl; have hfz387_0 := blk_frozen BK626.out 0; have hfz387_1 := blk_frozen BK626.out 1; have hfz387_2 := blk_frozen BK626.out 2) | ((with_reducible refine gate_callee (f := 21) rfl ?_); refine goesL_ (some 129) rfl rfl Try.func21 (by kernel_rfl) rfl #[] rfl (by (try simp only [List.map_toArray, List.map_cons, List.map_nil]); first | done | rfl | (simp only [List.length_drop, List.length_take]; rfl)) ?_; (with_reducible refine (fleuronlaw03_drawn.calls  true _ A364.out).mono ?_); rintro e w388 ⟨rfl, hb⟩; refine ⟨_, rfl, ?_⟩; have n0_ := aM (Kd.R_below (by (with_reducible repeat (first | apply Kd.R_alloc | apply Kd.R_drewN | apply Kd.R_drew)); exact (Kd.R_mono (Kd.R_mono (Kd.R_far (p := ⟨gb626, 2, none⟩) (Kd.R_far (p := ⟨gb626, 1, none⟩) (Kd.R_far (p := ⟨gb626, 0, none⟩) (Kd.R_far (p := ⟨gb625, 2, none⟩) (Kd.R_far (p := ⟨gb625, 1, none⟩) (Kd.R_far (p := ⟨gb625, 0, none⟩) (Kd.R_mono (Kd.R_mono HO614.out (fun k_ hk => (⟨hk, hk.1.2⟩ : _ ∧ k_ ≠ gb625))) (fun k_ hk => (⟨hk, hk.1.2⟩ : _ ∧ k_ ≠ gb626))) (fun _ hk => hk.1.2) (.int .i64 t618)) (fun _ hk => hk.1.2) (.int .i64 t619)) (fun _ hk => hk.1.2) (.bool t620)) (fun _ hk => hk.2) (.int .i64 t621)) (fun _ hk => hk.2) (.int .i64 t622)) (fun _ hk => hk.2) (.bool t623)) (fun _ h_ => h_.1)) (fun _ h_ => h_.1))) hb); have n1_ := aM (Kd.R_below (by (with_reducible repeat (first | apply Kd.R_alloc | apply Kd.R_drewN | apply Kd.R_drew)); exact (Kd.R_mono (Kd.R_mono (Kd.R_far (p := ⟨gb626, 2, none⟩) (Kd.R_far (p := ⟨gb626, 1, none⟩) (Kd.R_far (p := ⟨gb626, 0, none⟩) (Kd.R_far (p := ⟨gb625, 2, none⟩) (Kd.R_far (p := ⟨gb625, 1, none⟩) (Kd.R_far (p := ⟨gb625, 0, none⟩) (Kd.R_types (Kd.R_types HO617.out BK625.out (by decide)) BK626.out (by decide)) (fun _ hk => hk.1.2) (.int .i64 t618)) (fun _ hk => hk.1.2) (.int .i64 t619)) (fun _ hk => hk.1.2) (.bool t620)) (fun _ hk => hk.2) (.int .i64 t621)) (fun _ hk => hk.2) (.int .i64 t622)) (fun _ hk => hk.2) (.bool t623)) (fun _ h_ => h_.1)) (fun _ h_ => h_.1))) hb); have n2_ := aM (blk_below (g := gb597) (o := .cells #[.slice A0_0 l0_0.length c0_0, .slice A0_1 l0_1.length c0_1] 25 (0, 0)) (by (with_reducible repeat (first | refine kN ?_ _ | refine kD ?_ | refine kA ?_ _)); refine blk_far ?_ NB597_626.out _; (with_reducible repeat (first | refine kN ?_ _ | refine kD ?_ | refine kA ?_ _)); refine blk_far ?_ NB597_626.out _; (with_reducible repeat (first | refine kN ?_ _ | refine kD ?_ | refine kA ?_ _)); refine blk_far ?_ NB597_626.out _; (with_reducible repeat (first | refine kN ?_ _ | refine kD ?_ | refine kA ?_ _)); refine blk_far ?_ NB597_625.out _; (with_reducible repeat (first | refine kN ?_ _ | refine kD ?_ | refine kA ?_ _)); refine blk_far ?_ NB597_625.out _; (with_reducible repeat (first | refine kN ?_ _ | refine kD ?_ | refine kA ?_ _)); refine blk_far ?_ NB597_625.out _; (with_reducible repeat (first | refine kN ?_ _ | refine kD ?_ | refine kA ?_ _)); exact BK597.out) hb); have n3_ := aM (blk_below (g := gb605) (o := .cells #[.int .i64 t598, .int .i64 t599, .bool t600] 33 (0, 0)) (by (with_reducible repeat (first | refine kN ?_ _ | refine kD ?_ | refine kA ?_ _)); refine blk_far ?_ NB605_626.out _; (with_reducible repeat (first | refine kN ?_ _ | refine kD ?_ | refine kA ?_ _)); refine blk_far ?_ NB605_626.out _; (with_reducible repeat (first | refine kN ?_ _ | refine kD ?_ | refine kA ?_ _)); refine blk_far ?_ NB605_626.out _; (with_reducible repeat (first | refine kN ?_ _ | refine kD ?_ | refine kA ?_ _)); refine blk_far ?_ NB605_625.out _; (with_reducible repeat (first | refine kN ?_ _ | refine kD ?_ | refine kA ?_ _)); refine blk_far ?_ NB605_625.out _; (with_reducible repeat (first | refine kN ?_ _ | refine kD ?_ | refine kA ?_ _)); refine blk_far ?_ NB605_625.out _; (with_reducible repeat (first | refine kN ?_ _ | refine kD ?_ | refine kA ?_ _)); exact BK605.out) hb); have n4_ := aM (blk_below (g := gb606) (o := .cells #[.int .i64 t601, .int .i64 t602, .bool t603] 33 (0, 0)) (by (with_reducible repeat (first | refine kN ?_ _ | refine kD ?_ | refine kA ?_ _)); refine blk_far ?_ NB606_626.out _; (with_reducible repeat (first | refine kN ?_ _ | refine kD ?_ | refine kA ?_ _)); refine blk_far ?_ NB606_626.out _; (with_reducible repeat (first | refine kN ?_ _ | refine kD ?_ | refine kA ?_ _)); refine blk_far ?_ NB606_626.out _; (with_reducible repeat (first | refine kN ?_ _ | refine kD ?_ | refine kA ?_ _)); refine blk_far ?_ NB606_625.out _; (with_reducible repeat (first | refine kN ?_ _ | refine kD ?_ | refine kA ?_ _)); refine blk_far ?_ NB606_625.out _; (with_reducible repeat (first | refine kN ?_ _ | refine kD ?_ | refine kA ?_ _)); refine blk_far ?_ NB606_625.out _; (with_reducible repeat (first | refine kN ?_ _ | refine kD ?_ | refine kA ?_ _)); exact BK606.out) hb); have n5_ := aM (blk_below (g := gb609) (o := .cells #[.bool x610000_2, .bool x610001_2, .bool x610002_2, .bool x610003_2] 48 (0, 0)) (by (with_reducible repeat (first | refine kN ?_ _ | refine kD ?_ | refine kA ?_ _)); refine blk_far ?_ NB609_626.out _; (with_reducible repeat (first | refine kN ?_ _ | refine kD ?_ | refine kA ?_ _)); refine blk_far ?_ NB609_626.out _; (with_reducible repeat (first | refine kN ?_ _ | refine kD ?_ | refine kA ?_ _)); refine blk_far ?_ NB609_626.out _; (with_reducible repeat (first | refine kN ?_ _ | refine kD ?_ | refine kA ?_ _)); refine blk_far ?_ NB609_625.out _; (with_reducible repeat (first | refine kN ?_ _ | refine kD ?_ | refine kA ?_ _)); refine blk_far ?_ NB609_625.out _; (with_reducible repeat (first | refine kN ?_ _ | refine kD ?_ | refine kA ?_ _)); refine blk_far ?_ NB609_625.out _; (with_reducible repeat (first | refine kN ?_ _ | refine kD ?_ | refine kA ?_ _)); exact BK609.out) hb); have n6_ := aM (blk_below (g := gb625) (o := .cells #[.int .i64 t618, .int .i64 t619, .bool t620] 33 (0, 0)) (by (with_reducible repeat (first | refine kN ?_ _ | refine kD ?_ | refine kA ?_ _)); refine blk_far ?_ NB625_626.out _; (with_reducible repeat (first | refine kN ?_ _ | refine kD ?_ | refine kA ?_ _)); refine blk_far ?_ NB625_626.out _; (with_reducible repeat (first | refine kN ?_ _ | refine kD ?_ | refine kA ?_ _)); refine blk_far ?_ NB625_626.out _; (with_reducible repeat (first | refine kN ?_ _ | refine kD ?_ | refine kA ?_ _)); refine blk_put (cs := #[.int .i64 t618, .int .i64 t619, .bool false]) ?_ 2 _ rfl; (with_reducible repeat (first | refine kN ?_ _ | refine kD ?_ | refine kA ?_ _)); refine blk_put (cs := #[.int .i64 t618, .int .i64 0, .bool false]) ?_ 1 _ rfl; (with_reducible repeat (first | refine kN ?_ _ | refine kD ?_ | refine kA ?_ _)); refine blk_put (cs := #[.int .i64 0, .int .i64 0, .bool false]) ?_ 0 _ rfl; (with_reducible repeat (first | refine kN ?_ _ | refine kD ?_ | refine kA ?_ _)); exact BK625.out) hb); have n7_ := aM (blk_below (g := gb626) (o := .cells #[.int .i64 t621, .int .i64 t622, .bool t623] 33 (0, 0)) (by (with_reducible repeat (first | refine kN ?_ _ | refine kD ?_ | refine kA ?_ _)); refine blk_put (cs := #[.int .i64 t621, .int .i64 t622, .bool false]) ?_ 2 _ rfl; (with_reducible repeat (first | refine kN ?_ _ | refine kD ?_ | refine kA ?_ _)); refine blk_put (cs := #[.int .i64 t621, .int .i64 0, .bool false]) ?_ 1 _ rfl; (with_reducible repeat (first | refine kN ?_ _ | refine kD ?_ | refine kA ?_ _)); refine blk_put (cs := #[.int .i64 0, .int .i64 0, .bool false]) ?_ 0 _ rfl; (with_reducible repeat (first | refine kN ?_ _ | refine kD ?_ | refine kA ?_ _)); refine blk_far ?_ NB626_625.out _; (with_reducible repeat (first | refine kN ?_ _ | refine kD ?_ | refine kA ?_ _)); refine blk_far ?_ NB626_625.out _; (with_reducible repeat (first | refine kN ?_ _ | refine kD ?_ | refine kA ?_ _)); refine blk_far ?_ NB626_625.out _; (with_reducible repeat (first | refine kN ?_ _ | refine kD ?_ | refine kA ?_ _)); exact BK626.out) hb); have n8_ := aM (below_step (by repeat (first | (with_reducible first | exact HB.out | apply bA | apply bN | apply bD | refine bS ?_ GE597.out | refine bS ?_ GE605.out | refine bS ?_ GE606.out | refine bS ?_ GE609.out | refine bS ?_ GE625.out | refine bS ?_ GE626.out) | exact HB.out)) hb); clear HO614; clear HO617; clear BK597; clear BK605; clear BK606; clear BK609; clear BK625; clear BK626; clear HB; have HO614 := n0_; have HO617 := n1_; have BK597 := n2_; have BK605 := n3_; have BK606 := n4_; have BK609 := n5_; have BK625 := n6_; have BK626 := n7_; have HB := n8_; clear n0_ n1_ n2_ n3_ n4_ n5_ n6_ n7_ n8_; (try clear hb); (try clear hb2); (try clear hk); (try clear hi); have hcz389_0 : w388.cell? ⟨gb597, 0, none⟩ = some (.slice A0_0 l0_0.length c0_0) := (blk_cell BK597.out 0).trans rfl; have hcz389_1 : w388.cell? ⟨gb597, 1, none⟩ = some (.slice A0_1 l0_1.length c0_1) := (blk_cell BK597.out 1).trans rfl; have hfz389_0 := blk_frozen BK597.out 0; have hfz389_1 := blk_frozen BK597.out 1))
          go_ret
          exact ⟨by first | rfl | (simp [errW_none, errW_some] <;> rfl) | (simp [*, errW_none, errW_some] <;> rfl), by repeat (first | (with_reducible first | exact HB.out | apply bA | apply bN | apply bD | refine bS ?_ GE597.out | refine bS ?_ GE605.out | refine bS ?_ GE606.out | refine bS ?_ GE609.out | refine bS ?_ GE625.out | refine bS ?_ GE626.out) | exact HB.out)⟩
        ·
         replace c365 := Bool.eq_false_iff.mpr c365
         subst c365
         have H1 : (none) = some r := by rw [if_neg (show ¬ (false = true) by decide)] at H; exact H
         clear H
         have H := H1
         clear H1
         exact absurd H (by simp)
end Go.Proofs.Ytbmklpcheopgoaa.H

namespace Go.Proofs.YtbmklpcheopgoaaOpen
open Go Go.RowKit Go.ChangeShapes Go.WideShapes Go.Proofs.YtbmklpcheopgoaaW.PrintWords

/-- Whatever reads as data of type t is of kind d, and good. -/
def Opens (P : Program) (t : TypeId) {α : Type} (d : Kd α) (good : α → Prop) : Prop :=
  ∀ {H : Type} (enc : TypeId × Value → H) (w : World) (base : Nat) (spare : Nat → Bool) (held : Bool) (fuel : Nat) (cs : List Value) (x : DataW H × List MemPlace),
    DataW.trod enc P w base spare held fuel t cs = some x → ∃ y, d.K w y cs ∧ good y

/-- A number of its kind. -/
def InK (k : IntKind) (n : Int) : Prop := (Lit.int k n).wf = true
theorem InK.i64 {n : Int} (h : InK .i64 n) : -9223372036854775808 ≤ n ∧ n ≤ 9223372036854775807 := by
  exact bounds_i64 h
theorem InK.u8 {n : Int} (h : InK .u8 n) : 0 ≤ n ∧ n ≤ 255 := by
  exact bounds_u8 h
theorem opens_int {P : Program} {t : TypeId} {k : IntKind} (ht : P.underlying t = some (.int k)) : Opens P t (Kd.int k) (InK k) := by
  intro H enc w base spare held fuel cs x h
  obtain ⟨n, rfl, _, hw⟩ := DataW.trod_int ht h
  exact ⟨n, rfl, hw⟩
theorem opens_bool {P : Program} {t : TypeId} (ht : P.underlying t = some .bool) : Opens P t Kd.bool (fun _ => True) := by
  intro H enc w base spare held fuel cs x h
  obtain ⟨n, rfl, _⟩ := DataW.trod_bool ht h
  exact ⟨n, rfl, trivial⟩
theorem opens_string {P : Program} {t : TypeId} (ht : P.underlying t = some .string) : Opens P t Kd.string (fun s => s.size ≤ maxLen) := by
  intro H enc w base spare held fuel cs x h
  obtain ⟨n, rfl, _, hw⟩ := DataW.trod_string ht h
  exact ⟨n, rfl, hw⟩

theorem cells_get {w : World} {base : Nat} {a : Addr} {n : Nat} {cs : List Value} (h : w.cells? base a n = some cs) : cs.length = n ∧ ∀ i u, cs[i]? = some u → w.cell? (a.add i) = some u := by
  obtain ⟨_, hl, hc⟩ := World.cells?_some h
  refine ⟨hl, fun i u hu => ?_⟩
  have hi : i < n := by rw [← hl]; exact (List.getElem?_eq_some_iff.1 hu).1
  rw [hc i hi, hu]

theorem opens_slice {P : Program} {t e : TypeId} {α : Type} {d : Kd α} {good : α → Prop} (ht : P.underlying t = some (.slice e)) (hs : P.cellsOf e = d.sz) (he : Opens P e d good) : Opens P t (Kd.slice e d) (fun xs => xs.length ≤ 9223372036854775807 ∧ ∀ x ∈ xs, good x) := by
  intro H enc w base spare held fuel cs x h
  rcases Deep.open_slice ht h with ⟨rfl, _⟩ | ⟨a, len, cap, m, n, D, Pl, rfl, _, hl, hm, hmm, _, hel⟩
  · exact ⟨[], ⟨none, 0, rfl, Nat.le_refl _, Kd.C_nil _ _⟩, by simp, fun x hx => by simp at hx⟩
  · have key : ∀ i, i < len → ∃ y cs', d.K w y cs' ∧ good y ∧ cs'.length = d.sz ∧ ∀ j u, cs'[j]? = some u → w.cell? (a.add (i * d.sz + j)) = some u := by
      intro i hi
      obtain ⟨cs', hc, ht'⟩ := hel i (by rw [hmm]; split <;> omega)
      obtain ⟨y, hk, hg⟩ := he enc w base spare held n cs' _ ht'
      obtain ⟨hlen, hcell⟩ := cells_get hc
      rw [hs] at hlen
      refine ⟨y, cs', hk, hg, hlen, fun j u hu => ?_⟩
      have := hcell j u hu
      rwa [Deep.add_add, hs] at this
    have : ∀ k, k ≤ len → ∃ ys : List α, ys.length = k ∧ (∀ x ∈ ys, good x) ∧ ∀ i y, ys[i]? = some y → ∃ cs', cs'.length = d.sz ∧ d.K w y cs' ∧ ∀ j u, cs'[j]? = some u → w.cell? (a.add (i * d.sz + j)) = some u := by
      intro k
      induction k with
      | zero => exact fun _ => ⟨[], rfl, fun x hx => by simp at hx, fun i y h => by simp at h⟩
      | succ k ih =>
        intro hk
        obtain ⟨ys, h1, h2, h3⟩ := ih (by omega)
        obtain ⟨y, cs', q1, q2, q3, q4⟩ := key k (by omega)
        refine ⟨ys ++ [y], by simp [h1], fun x hx => ?_, fun i z hz => ?_⟩
        · rcases List.mem_append.1 hx with hx | hx
          · exact h2 x hx
          · rw [List.mem_singleton.1 hx]; exact q2
        · rcases Nat.lt_or_ge i ys.length with hi | hi
          · rw [List.getElem?_append_left hi] at hz
            exact h3 i z hz
          · have hi' : i = ys.length := by
              have := (List.getElem?_eq_some_iff.1 hz).1
              simp at this
              omega
            subst hi'
            have : y = z := by simpa using hz
            subst this
            rw [h1]
            exact ⟨cs', q3, q1, q4⟩
    obtain ⟨ys, h1, h2, h3⟩ := this len (Nat.le_refl _)
    subst h1
    have hle : ys.length ≤ 9223372036854775807 := by
      unfold maxLen at hm
      omega
    exact ⟨ys, ⟨some a, cap, rfl, hl, rfl, hle, fun _ => ⟨a, rfl, h3⟩⟩, hle, h2⟩

/-- The cells from o on are s of them, and those from o + s on. -/
theorem cutQ (cs : List Value) (o s : Nat) : cs.drop o = (cs.drop o).take s ++ cs.drop (o + s) := by
  rw [← List.drop_drop, List.take_append_drop]
theorem cutQ_last (cs : List Value) (o s : Nat) (h : cs.length = o + s) : cs.drop o = (cs.drop o).take s := by
  rw [List.take_of_length_le]; simp; omega

theorem wide_agg {P : Program} {w : World} {r : Reach} {base : Nat} {t : TypeId} {v : Value} (h : Value.okWide P w r base t v) (hu : (match P.underlying t with | some (.struct _) | some (.array _ _) => true | _ => false) = true) : ∃ cs, v = .agg cs := by
  unfold Value.okWide at h
  split at h
  · obtain ⟨cs, e, _⟩ := h; exact ⟨cs, e⟩
  · obtain ⟨cs, e, _⟩ := h; exact ⟨cs, e⟩
  · rename_i h1 h2
    split at hu
    · rename_i h3; exact absurd h3 (h1 _)
    · rename_i h3; exact absurd h3 (h2 _ _)
    · cases hu
theorem agg_list {cs : Array Value} {l : List Value} (h : (Value.agg cs).cells.toList = l) : cs = l.toArray := by
  have h' : cs.toList = l := h
  rw [← h', Array.toArray_toList]
end Go.Proofs.YtbmklpcheopgoaaOpen

namespace Go.Proofs.Ytbmklpcheopgoaa.Out
open Go Go.RowKit Go.Proofs.Ytbmklpcheopgoaa.H Go.Proofs.YtbmklpcheopgoaaOpen Go.Proofs.YtbmklpcheopgoaaW.PrintWords Go.Proofs.YtbmklpcheopgoaaW.PrintLast Go.Proofs.YtbmklpcheopgoaaW.PrintMore

theorem W_W (x : Int) : wrap64 (wrap64 x) = wrap64 x := by unfold wrap64; omega
theorem W_addl (x y : Int) : wrap64 (wrap64 x + y) = wrap64 (x + y) := by unfold wrap64; omega
theorem W_addr (x y : Int) : wrap64 (x + wrap64 y) = wrap64 (x + y) := by unfold wrap64; omega
theorem W_subl (x y : Int) : wrap64 (wrap64 x - y) = wrap64 (x - y) := by unfold wrap64; omega
theorem W_subr (x y : Int) : wrap64 (x - wrap64 y) = wrap64 (x - y) := by unfold wrap64; omega
theorem W_neg (x : Int) : wrap64 (-(wrap64 x)) = wrap64 (-x) := by unfold wrap64; omega
theorem W_in (x : Int) (h0 : -9223372036854775808 ≤ x) (h1 : x ≤ 9223372036854775807) : wrap64 x = x := by unfold wrap64; omega
theorem W_k (x : Int) : ∃ k, wrap64 x = x + 18446744073709551616 * k := ⟨-((x + 9223372036854775808) / 18446744073709551616), by unfold wrap64; omega⟩
theorem W_M (x k : Int) : wrap64 (x + 18446744073709551616 * k) = wrap64 x := by unfold wrap64; omega
theorem W_mul (x y : Int) : wrap64 (wrap64 x * wrap64 y) = wrap64 (x * y) := by
  obtain ⟨k, hk⟩ := W_k x
  obtain ⟨l, hl⟩ := W_k y
  rw [hk, hl, show (x + 18446744073709551616 * k) * (y + 18446744073709551616 * l) = x * y + 18446744073709551616 * (k * y + x * l + 18446744073709551616 * k * l) by grind, W_M]
theorem W_eq_add {a b c d : Int} (h : wrap64 a = wrap64 b) (h' : wrap64 c = wrap64 d) : wrap64 (a + c) = wrap64 (b + d) := by rw [← W_addl, ← W_addr, h, h', W_addl, W_addr]
theorem W_eq_sub {a b c d : Int} (h : wrap64 a = wrap64 b) (h' : wrap64 c = wrap64 d) : wrap64 (a - c) = wrap64 (b - d) := by rw [← W_subl, ← W_subr, h, h', W_subl, W_subr]
theorem W_eq_mul {a b c d : Int} (h : wrap64 a = wrap64 b) (h' : wrap64 c = wrap64 d) : wrap64 (a * c) = wrap64 (b * d) := by rw [← W_mul, h, h', W_mul]

theorem rdS_mid (l1 l2 : List S33) (p : S33) : rd_T33 (l1 ++ p :: l2) (l1.length : Int) = p := by simp [rd_T33]
theorem set_mid {α : Type} (l1 l2 : List α) (p q : α) : (l1 ++ p :: l2).set l1.length q = l1 ++ q :: l2 := by simp
theorem rdS_get (l : List S33) (i : Nat) (h : i < l.length) : rd_T33 l (i : Int) = l[i] := by simp [rd_T33, h]
theorem rd_get (l : List Int) (i : Nat) (h : i < l.length) : rd l (i : Int) = l[i] := by simp [rd, h]

/-! Right -/
def ptOk (p : S33) : Bool := !(decide (mx p.f0 p.f1 > 16384)) && !(decide (mn p.f0 p.f1 < -16384))
def endsOk : Int → List Int → Int → Bool
  | last, [], n => last == n - 1
  | last, e :: es, n => if e < last + 2 then false else if e ≥ n then false else endsOk e es n
def rightB (pts : List S33) (es : List Int) : Bool := decide (pts.length ≤ 200) && decide (es.length ≤ 40) && (pts.all ptOk && endsOk (-1) es pts.length)
theorem right_l1 (pts : List S33) (es : List Int) (hn : pts.length ≤ 1000000) (he : es.length ≤ 1000000) : ∀ (m k i : Nat) (last : Int), es.length = i + m → m < k → -1 ≤ last → last ≤ 1000000 →
    outline_Right.l1 k last es (es.length : Int) (i : Int) pts es = some (endsOk last (es.drop i) pts.length) := by
  intro m
  induction m with
  | zero =>
    intro k i last h1 h2 h3 h4
    obtain ⟨k, rfl⟩ : ∃ j, k = j + 1 := ⟨k - 1, by omega⟩
    rw [outline_Right.l1, if_neg (by omega), List.drop_of_length_le (by omega)]
    rw [W_in ((pts.length : Int) - 1) (by omega) (by omega)]
    rfl
  | succ m ih =>
    intro k i last h1 h2 h3 h4
    obtain ⟨k, rfl⟩ : ∃ j, k = j + 1 := ⟨k - 1, by omega⟩
    have hi : i < es.length := by omega
    rw [outline_Right.l1, if_pos (by omega), if_pos (by omega), if_pos (by omega), rd_get es i hi, List.drop_eq_getElem_cons hi, endsOk, W_in (last + 2) (by omega) (by omega), W_in ((i : Int) + 1) (by omega) (by omega)]
    by_cases c1 : es[i] < last + 2
    · rw [if_pos c1, if_pos c1]
    · rw [if_neg c1, if_neg c1]
      by_cases c2 : es[i] ≥ (pts.length : Int)
      · rw [if_pos c2, if_pos c2]
      · rw [if_neg c2, if_neg c2]
        exact ih k (i + 1) es[i] (by omega) (by omega) (by omega) (by omega)
theorem right_l0 (pts : List S33) (es : List Int) (hn : pts.length ≤ 1000000) (he : es.length ≤ 1000000) : ∀ (m k i : Nat), pts.length = i + m → m + es.length + 1 < k →
    outline_Right.l0 k pts (pts.length : Int) (i : Int) pts es = some ((pts.drop i).all ptOk && endsOk (-1) es pts.length) := by
  intro m
  induction m with
  | zero =>
    intro k i h1 h2
    obtain ⟨k, rfl⟩ : ∃ j, k = j + 1 := ⟨k - 1, by omega⟩
    rw [outline_Right.l0, if_neg (by omega), List.drop_of_length_le (by omega)]
    have := right_l1 pts es hn he es.length k 0 (-1) (by omega) (by omega) (by omega) (by omega)
    simpa using this
  | succ m ih =>
    intro k i h1 h2
    obtain ⟨k, rfl⟩ : ∃ j, k = j + 1 := ⟨k - 1, by omega⟩
    have hi : i < pts.length := by omega
    rw [outline_Right.l0, if_pos (by omega), if_pos (by omega), if_pos (by omega), rdS_get pts i hi, List.drop_eq_getElem_cons hi, List.all_cons, W_in ((i : Int) + 1) (by omega) (by omega)]
    by_cases c1 : mx pts[i].f0 pts[i].f1 > 16384
    · rw [if_pos c1]; simp [ptOk, c1]
    · rw [if_neg c1]
      by_cases c2 : mn pts[i].f0 pts[i].f1 < -16384
      · rw [if_pos c2]; simp [ptOk, c2]
      · rw [if_neg c2]
        have e : ptOk pts[i] = true := by simp only [ptOk, decide_eq_false c1, decide_eq_false c2]; rfl
        rw [e, Bool.true_and]
        exact ih k (i + 1) (by omega) (by omega)
theorem right_f (pts : List S33) (es : List Int) (k : Nat) (hn : pts.length ≤ 1000000) (he : es.length ≤ 1000000) (hk : pts.length + es.length + 3 ≤ k) : outline_Right.f k pts es = some (rightB pts es) := by
  obtain ⟨k, rfl⟩ : ∃ j, k = j + 1 := ⟨k - 1, by omega⟩
  unfold outline_Right.f rightB
  by_cases h1 : (pts.length : Int) > 200
  · rw [if_pos h1, outline_Right.j0, if_pos rfl, decide_eq_false (show ¬ pts.length ≤ 200 by omega)]; rfl
  · rw [if_neg h1, outline_Right.j0, decide_eq_true (show pts.length ≤ 200 by omega)]
    by_cases h2 : (es.length : Int) > 40
    · rw [if_pos (decide_eq_true h2), decide_eq_false (show ¬ es.length ≤ 40 by omega)]; rfl
    · rw [if_neg (by simpa using h2), decide_eq_true (show es.length ≤ 40 by omega)]
      have := right_l0 pts es hn he pts.length k 0 (by omega) (by omega)
      simpa using this

/-! Moved -/
def mvW (x y : Int) (p : S33) : S33 := ⟨wrap64 (p.f0 + x), wrap64 (p.f1 + y), p.f2⟩
theorem moved_l0 (x y : Int) (es : List Int) : ∀ (l2 l1 : List S33) (k : Nat) (n : Int), n = (l1 ++ l2).length → l2.length < k → l1.length + l2.length ≤ 1000000 → outline_Moved.l0 k x y n (l1.length : Int) (l1 ++ l2) es = some (l1 ++ l2.map (mvW x y), es) := by
  intro l2
  induction l2 with
  | nil =>
    intro l1 k n hn h1 h2
    obtain ⟨k, rfl⟩ : ∃ j, k = j + 1 := ⟨k - 1, by omega⟩
    rw [outline_Moved.l0, if_neg (by subst hn; simp)]
    simp
  | cons p l2 ih =>
    intro l1 k n hn h1 h2
    simp only [List.length_cons] at h1 h2
    obtain ⟨k, rfl⟩ : ∃ j, k = j + 1 := ⟨k - 1, by omega⟩
    rw [outline_Moved.l0, if_pos (by subst hn; simp; omega), if_pos (by omega), if_pos (by simp; omega), Option.bind_some]
    simp only [Int.toNat_natCast, rdS_mid, set_mid, W_in ((l1.length : Int) + 1) (by omega) (by omega)]
    have := ih (l1 ++ [mvW x y p]) k n (by subst hn; simp) (by omega) (by simp; omega)
    simpa [mvW] using this
theorem clone_f (pts : List S33) (es : List Int) (hn : pts.length ≤ 1000000) (he : es.length ≤ 1000000) : outline_clone.f pts es = some (pts, es) := by
  unfold outline_clone.f
  rw [if_pos (by simp; omega), if_pos (by simp; omega)]
  simp
theorem moved_f (pts : List S33) (es : List Int) (x y : Int) (k : Nat) (hn : pts.length ≤ 1000000) (he : es.length ≤ 1000000) (hk : pts.length < k) : outline_Moved.f k pts es x y = some (pts.map (mvW x y), es) := by
  unfold outline_Moved.f
  rw [clone_f pts es hn he, Option.bind_some]
  exact moved_l0 x y es pts [] k _ (by simp) hk (by simpa using hn)
theorem mvW_back (x y : Int) (p : S33) (h0 : wrap64 p.f0 = p.f0) (h1 : wrap64 p.f1 = p.f1) : mvW (wrap64 (-x)) (wrap64 (-y)) (mvW x y p) = p := by
  obtain ⟨a, b, c⟩ := p
  have e0 : wrap64 (wrap64 (a + x) + wrap64 (-x)) = a := by rw [W_addl, W_addr, show a + x + -x = a by omega]; exact h0
  have e1 : wrap64 (wrap64 (b + y) + wrap64 (-y)) = b := by rw [W_addl, W_addr, show b + y + -y = b by omega]; exact h1
  simp only [mvW, e0, e1]

end Go.Proofs.Ytbmklpcheopgoaa.Out

namespace Go.Proofs.Ytbmklpcheopgoaa.Out
open Go Go.RowKit Go.Proofs.Ytbmklpcheopgoaa.H Go.Proofs.YtbmklpcheopgoaaIt Go.Proofs.YtbmklpcheopgoaaOpen Go.Proofs.YtbmklpcheopgoaaW.PrintWords Go.Proofs.YtbmklpcheopgoaaW.PrintLast Go.Proofs.YtbmklpcheopgoaaW.PrintMore

theorem box_flag (pts : List S33) : ∀ k, (boxSt pts k).1.f2 = false ∧ (boxSt pts k).2.f2 = false
  | 0 => ⟨rfl, rfl⟩
  | k + 1 => by
    have ih := box_flag pts k
    rw [boxSt_succ]
    unfold boxStep
    by_cases c : k = 0
    · simp [c]
    · simp [c, ih.1, ih.2]
theorem box_in (pts : List S33) : ∀ k j : Nat, j < k → (boxSt pts k).1.f0 ≤ (rd_T33 pts (j : Int)).f0 ∧ (rd_T33 pts (j : Int)).f0 ≤ (boxSt pts k).2.f0 ∧ (boxSt pts k).1.f1 ≤ (rd_T33 pts (j : Int)).f1 ∧ (rd_T33 pts (j : Int)).f1 ≤ (boxSt pts k).2.f1
  | 0, j, h => by omega
  | k + 1, j, h => by
    rw [boxSt_succ]
    unfold boxStep
    by_cases c : k = 0
    · have : j = 0 := by omega
      subst this; subst c
      simp
    · simp only [c, if_false]
      by_cases e : j = k
      · subst e; omega
      · have ih := box_in pts k j (by omega)
        omega
theorem box_touch (pts : List S33) : ∀ k : Nat, 1 ≤ k → (∃ j : Nat, j < k ∧ (rd_T33 pts (j : Int)).f0 = (boxSt pts k).1.f0) ∧ (∃ j : Nat, j < k ∧ (rd_T33 pts (j : Int)).f0 = (boxSt pts k).2.f0) ∧ (∃ j : Nat, j < k ∧ (rd_T33 pts (j : Int)).f1 = (boxSt pts k).1.f1) ∧ (∃ j : Nat, j < k ∧ (rd_T33 pts (j : Int)).f1 = (boxSt pts k).2.f1)
  | 0, h => by omega
  | k + 1, h => by
    rw [boxSt_succ]
    unfold boxStep
    by_cases c : k = 0
    · subst c
      simp
    · simp only [c, if_false]
      obtain ⟨⟨a, ha, ea⟩, ⟨b, hb, eb⟩, ⟨d, hd, ed⟩, ⟨e, he, ee⟩⟩ := box_touch pts k (by omega)
      refine ⟨?_, ?_, ?_, ?_⟩
      · by_cases q : (boxSt pts k).1.f0 ≤ (rd_T33 pts (k : Int)).f0
        · exact ⟨a, by omega, by omega⟩
        · exact ⟨k, by omega, by omega⟩
      · by_cases q : (rd_T33 pts (k : Int)).f0 ≤ (boxSt pts k).2.f0
        · exact ⟨b, by omega, by omega⟩
        · exact ⟨k, by omega, by omega⟩
      · by_cases q : (boxSt pts k).1.f1 ≤ (rd_T33 pts (k : Int)).f1
        · exact ⟨d, by omega, by omega⟩
        · exact ⟨k, by omega, by omega⟩
      · by_cases q : (rd_T33 pts (k : Int)).f1 ≤ (boxSt pts k).2.f1
        · exact ⟨e, by omega, by omega⟩
        · exact ⟨k, by omega, by omega⟩
theorem box_mv (pts qs : List S33) (x y : Int) : ∀ k : Nat, (∀ j : Nat, j < k → (rd_T33 qs (j : Int)).f0 = (rd_T33 pts (j : Int)).f0 + x ∧ (rd_T33 qs (j : Int)).f1 = (rd_T33 pts (j : Int)).f1 + y) → 1 ≤ k →
    (boxSt qs k).1.f0 = (boxSt pts k).1.f0 + x ∧ (boxSt qs k).1.f1 = (boxSt pts k).1.f1 + y ∧ (boxSt qs k).2.f0 = (boxSt pts k).2.f0 + x ∧ (boxSt qs k).2.f1 = (boxSt pts k).2.f1 + y
  | 0, _, h => by omega
  | k + 1, hj, h => by
    obtain ⟨e1, e2⟩ := hj k (by omega)
    rw [boxSt_succ, boxSt_succ]
    unfold boxStep
    by_cases c : k = 0
    · subst c
      simp only [if_true]
      change (rd_T33 qs 0).f0 = _ at e1
      change (rd_T33 qs 0).f1 = _ at e2
      simp at e1 e2 ⊢
      omega
    · simp only [c, if_false]
      obtain ⟨a, b, d, e⟩ := box_mv pts qs x y k (fun j q => hj j (by omega)) (by omega)
      refine ⟨?_, ?_, ?_, ?_⟩ <;> omega
end Go.Proofs.Ytbmklpcheopgoaa.Out

namespace Go.Proofs.Ytbmklpcheopgoaa.Pure
open Go.RowKit Go.Proofs.Ytbmklpcheopgoaa.H Go.Proofs.YtbmklpcheopgoaaOpen Go.Proofs.YtbmklpcheopgoaaW.PrintWords Go.Proofs.YtbmklpcheopgoaaW.PrintLast
open Go.Proofs.Ytbmklpcheopgoaa.Out Go.Proofs.YtbmklpcheopgoaaIt Go.Proofs.YtbmklpcheopgoaaW.PrintMore
theorem box_f (pts : List S33) (es : List Int) : outline_Box.f pts es = some ((boxSt pts pts.length).1.f0, (boxSt pts pts.length).1.f1, false, (boxSt pts pts.length).2.f0, (boxSt pts pts.length).2.f1, false, decide (0 < pts.length)) := by
  have h := box_flag pts pts.length
  have e : outline_Box.f pts es = some ((boxSt pts pts.length).1.f0, (boxSt pts pts.length).1.f1, (boxSt pts pts.length).1.f2, (boxSt pts pts.length).2.f0, (boxSt pts pts.length).2.f1, (boxSt pts pts.length).2.f2, decide (0 < pts.length)) := rfl
  rw [e, h.1, h.2]
theorem any_succ (pts : List S33) (f : S33 → Bool) (i : Nat) (h : i < pts.length) : (pts.take (i + 1)).any f = ((pts.take i).any f || f pts[i]) := by
  rw [List.take_succ_eq_append_getElem h, List.any_append]
  simp
theorem any_all (pts : List S33) (f : S33 → Bool) (j : Nat) (h : j < pts.length) (e : f pts[j] = true) : (pts.take pts.length).any f = true := by
  rw [List.take_length, List.any_eq_true]
  exact ⟨_, List.getElem_mem h, e⟩
theorem small_of (p : S33) (h : ptOk p = true) : -16384 ≤ p.f0 ∧ p.f0 ≤ 16384 ∧ -16384 ≤ p.f1 ∧ p.f1 ≤ 16384 := by
  simp only [ptOk, Bool.and_eq_true, Bool.not_eq_true', decide_eq_false_iff_not] at h
  obtain ⟨h1, h2⟩ := h
  unfold mx at h1
  unfold mn at h2
  split at h1 <;> split at h2 <;> omega
theorem boxes_l0 (pts : List S33) (es : List Int) (x y : Int) (hn : pts.length ≤ 200) (he : es.length ≤ 40) (hp : ∀ p ∈ pts, ptOk p = true) (hx : -100000 ≤ x ∧ x ≤ 100000) (hy : -100000 ≤ y ∧ y ≤ 100000) : ∀ (m k i : Nat), pts.length = i + m → m + 500 < k →
    fleuronlaw03_OutlineBoxes.l0 k x y (decide (0 < pts.length)) (i : Int) pts es (boxSt pts pts.length).1.f0 (boxSt pts pts.length).1.f1 false (boxSt pts pts.length).2.f0 (boxSt pts pts.length).2.f1 false
      ((pts.take i).any fun p => p.f0 == (boxSt pts pts.length).1.f0) ((pts.take i).any fun p => p.f0 == (boxSt pts pts.length).2.f0) ((pts.take i).any fun p => p.f1 == (boxSt pts pts.length).1.f1) ((pts.take i).any fun p => p.f1 == (boxSt pts pts.length).2.f1) = some true := by
  intro m
  induction m with
  | zero =>
    intro k i h1 h2
    obtain ⟨k, rfl⟩ : ∃ j, k = j + 1 := ⟨k - 1, by omega⟩
    have hi : i = pts.length := by omega
    subst hi
    rw [fleuronlaw03_OutlineBoxes.l0, if_neg (by omega), moved_f pts es x y k (by omega) (by omega) (by omega), Option.bind_some]
    dsimp only
    rw [box_f, Option.bind_some, fleuronlaw03_drawn.f, Option.bind_some, Option.bind_some, List.length_map]
    dsimp only
    by_cases c : 0 < pts.length
    · have hm := box_mv pts (pts.map (mvW x y)) x y pts.length (fun j hj => by
        have q := small_of _ (hp _ (List.getElem_mem hj))
        rw [rdS_get pts j hj, rdS_get _ j (by simpa using hj), List.getElem_map]
        unfold mvW
        dsimp only
        exact ⟨W_in _ (by omega) (by omega), W_in _ (by omega) (by omega)⟩) c
      obtain ⟨⟨a, ha, ea⟩, ⟨b, hb, eb⟩, ⟨d, hd, ed⟩, ⟨e, he, ee⟩⟩ := box_touch pts pts.length c
      rw [rdS_get _ _ ‹_›] at ea eb ed ee
      have qa := small_of _ (hp _ (List.getElem_mem ha))
      have qb := small_of _ (hp _ (List.getElem_mem hb))
      have qd := small_of _ (hp _ (List.getElem_mem hd))
      have qe := small_of _ (hp _ (List.getElem_mem he))
      obtain ⟨m1, m2, m3, m4⟩ := hm
      rw [decide_eq_true c, if_pos rfl, if_pos rfl, if_pos rfl, any_all pts _ a ha (by simpa using ea), any_all pts _ b hb (by simpa using eb), any_all pts _ d hd (by simpa using ed), any_all pts _ e he (by simpa using ee), if_pos (by simp), m1, m2, m3, m4, W_in _ (by omega) (by omega), W_in _ (by omega) (by omega), W_in _ (by omega) (by omega), W_in _ (by omega) (by omega)]
      simp
    · rw [decide_eq_false c, if_neg (by decide), if_pos rfl, if_neg (by decide), show (pts.length : Int) = 0 by omega]
      rfl
  | succ m ih =>
    intro k i h1 h2
    obtain ⟨k, rfl⟩ : ∃ j, k = j + 1 := ⟨k - 1, by omega⟩
    have hi : i < pts.length := by omega
    obtain ⟨b1, b2, b3, b4⟩ := box_in pts pts.length i hi
    have ih := ih k (i + 1) (by omega) (by omega)
    rw [any_succ pts _ i hi, any_succ pts _ i hi, any_succ pts _ i hi, any_succ pts _ i hi, show ((i + 1 : Nat) : Int) = wrap64 ((i : Int) + 1) by rw [W_in _ (by omega) (by omega)]; rfl] at ih
    rw [rdS_get pts i hi] at b1 b2 b3 b4
    rw [fleuronlaw03_OutlineBoxes.l0, if_pos (by omega), if_pos (by omega), rdS_get pts i hi, if_neg (by omega), if_neg (by omega), if_neg (by omega), if_neg (by omega)]
    generalize (pts.take i).any (fun p => p.f0 == (boxSt pts pts.length).1.f0) = s0 at *
    generalize (pts.take i).any (fun p => p.f0 == (boxSt pts pts.length).2.f0) = s1 at *
    generalize (pts.take i).any (fun p => p.f1 == (boxSt pts pts.length).1.f1) = s2 at *
    generalize (pts.take i).any (fun p => p.f1 == (boxSt pts pts.length).2.f1) = s3 at *
    cases s0 <;> cases s1 <;> cases s2 <;> cases s3 <;> (simp only [Bool.true_or, Bool.false_or] at ih; simp only [if_true, if_false, Bool.false_eq_true, eq_self]; exact ih)
theorem OutlineBoxes : ∀ (l0_0 : List (S33)) (l0_1 : List Int) (a1 : Int) (a2 : Int), (l0_0.length ≤ 9223372036854775807 ∧ ∀ x_ ∈ l0_0, (InK .i64 x_.f0 ∧ InK .i64 x_.f1 ∧ True)) ∧ (l0_1.length ≤ 9223372036854775807 ∧ ∀ x_ ∈ l0_1, InK .i64 x_) → InK .i64 a1 → InK .i64 a2 → ∃ k, fleuronlaw03_OutlineBoxes.f k l0_0 l0_1 a1 a2 = some true := by
  intro pts es x y hp hx hy
  by_cases hlen : pts.length ≤ 200 ∧ es.length ≤ 40
  · refine ⟨1001, ?_⟩
    unfold fleuronlaw03_OutlineBoxes.f
    rw [box_f, Option.bind_some, right_f pts es 1001 (by omega) (by omega) (by omega), Option.bind_some]
    dsimp only
    have no : fleuronlaw03_OutlineBoxes.j0 1001 x y (decide (0 < pts.length)) true pts es (boxSt pts pts.length).1.f0 (boxSt pts pts.length).1.f1 false (boxSt pts pts.length).2.f0 (boxSt pts pts.length).2.f1 false = some true := by
      rw [fleuronlaw03_OutlineBoxes.j0, if_pos rfl, fleuronlaw03_drawn.f, Option.bind_some]
    by_cases hr : rightB pts es = true
    · have hr' := hr
      unfold rightB at hr'
      simp only [Bool.and_eq_true, decide_eq_true_eq, List.all_eq_true] at hr'
      rw [if_pos hr]
      by_cases c1 : x > 100000
      · rw [if_pos c1]; exact no
      by_cases c2 : x < -100000
      · rw [if_neg c1, if_pos c2]; exact no
      by_cases c3 : y > 100000
      · rw [if_neg c1, if_neg c2, if_pos c3]; exact no
      rw [if_neg c1, if_neg c2, if_neg c3]
      by_cases c4 : y < -100000
      · rw [decide_eq_true c4]; exact no
      rw [decide_eq_false c4, fleuronlaw03_OutlineBoxes.j0, if_neg (by decide)]
      have := boxes_l0 pts es x y hlen.1 hlen.2 hr'.2.1 (by omega) (by omega) pts.length 1000 0 (by omega) (by omega)
      simpa using this
    · rw [if_neg hr]; exact no
  · refine ⟨1, ?_⟩
    unfold fleuronlaw03_OutlineBoxes.f outline_Right.f
    have e : (if (pts.length : Int) > 200 then outline_Right.j0 1 true pts es else outline_Right.j0 1 (decide ((es.length : Int) > 40)) pts es) = some false := by
      by_cases h1 : (pts.length : Int) > 200
      · rw [if_pos h1]; rfl
      · rw [if_neg h1, decide_eq_true (by omega)]; rfl
    rw [box_f, Option.bind_some, e, Option.bind_some, if_neg (by decide), fleuronlaw03_OutlineBoxes.j0, if_pos rfl, fleuronlaw03_drawn.f, Option.bind_some]

end Go.Proofs.Ytbmklpcheopgoaa.Pure

namespace Go.Proofs.Ytbmklpcheopgoaa.outlineBoxes
open Go.ChangeShapes Go.WideShapes Go.ChangeAt Go.RowKit Go.Proofs.YtbmklpcheopgoaaOpen Go.Proofs.YtbmklpcheopgoaaW.PrintWords Go.Proofs.Ytbmklpcheopgoaa.H
open Go.ChangeMaps (open_string shut_string)
set_option linter.unusedVariables false
theorem own : ownKnob Try.prog.godebug = none := by kernel_rfl
theorem laidOut : laidOutB Try.prog = true := by kernel_rfl
set_option maxRecDepth 100000 in
theorem opens_33 : Opens Try.prog 33 k33 (fun y_ => (InK .i64 y_.f0 ∧ InK .i64 y_.f1 ∧ True)) := by
  intro H enc w base spare held fuel cs x h
  obtain ⟨xs, n, _, rfl, hl, hlen, hf⟩ := DataW.trod_struct Try.underlying33 h
  have hz : Try.prog.cellsOf 33 = 3 := by kernel_rfl
  rw [hz] at hl
  have g0 := hf 0 _ rfl
  have g1 := hf 1 _ rfl
  have g2 := hf 2 _ rfl
  match xs, hlen with
  | [x0, x1, x2], _ =>
    have g0 : DataW.trod enc Try.prog w base spare held n 3 ((cs.drop 0).take 1) = some x0 := g0
    obtain ⟨y0, k0_, q0⟩ := (opens_int Try.underlying3) enc w base spare held n _ _ g0
    have g1 : DataW.trod enc Try.prog w base spare held n 3 ((cs.drop 1).take 1) = some x1 := g1
    obtain ⟨y1, k1_, q1⟩ := (opens_int Try.underlying3) enc w base spare held n _ _ g1
    have g2 : DataW.trod enc Try.prog w base spare held n 4 ((cs.drop 2).take 1) = some x2 := g2
    obtain ⟨y2, k2_, q2⟩ := (opens_bool Try.underlying4) enc w base spare held n _ _ g2
    exact ⟨⟨y0, y1, y2⟩, ⟨_, _, cutQ cs 0 1, k0_, ⟨_, _, cutQ cs 1 1, k1_, (by show (Kd.bool).K w y2 (cs.drop 2); rw [cutQ_last cs 2 1 (by omega)]; exact k2_)⟩⟩, q0, q1, q2⟩

set_option maxRecDepth 100000 in
theorem opens_25 : Opens Try.prog 25 k25 (fun y_ => ((y_.f0.length ≤ 9223372036854775807 ∧ ∀ x_ ∈ y_.f0, (InK .i64 x_.f0 ∧ InK .i64 x_.f1 ∧ True)) ∧ (y_.f1.length ≤ 9223372036854775807 ∧ ∀ x_ ∈ y_.f1, InK .i64 x_))) := by
  intro H enc w base spare held fuel cs x h
  obtain ⟨xs, n, _, rfl, hl, hlen, hf⟩ := DataW.trod_struct Try.underlying25 h
  have hz : Try.prog.cellsOf 25 = 2 := by kernel_rfl
  rw [hz] at hl
  have g0 := hf 0 _ rfl
  have g1 := hf 1 _ rfl
  match xs, hlen with
  | [x0, x1], _ =>
    have g0 : DataW.trod enc Try.prog w base spare held n 22 ((cs.drop 0).take 1) = some x0 := g0
    obtain ⟨y0, k0_, q0⟩ := (opens_slice Try.underlying22 (by kernel_rfl) opens_33) enc w base spare held n _ _ g0
    have g1 : DataW.trod enc Try.prog w base spare held n 23 ((cs.drop 1).take 1) = some x1 := g1
    obtain ⟨y1, k1_, q1⟩ := (opens_slice Try.underlying23 (by kernel_rfl) (opens_int Try.underlying3)) enc w base spare held n _ _ g1
    exact ⟨⟨y0, y1⟩, ⟨_, _, cutQ cs 0 1, k0_, (by show ((Kd.slice 3 (Kd.int .i64))).K w y1 (cs.drop 1); rw [cutQ_last cs 1 1 (by omega)]; exact k1_)⟩, q0, q1⟩

set_option maxRecDepth 100000 in
set_option maxHeartbeats 2000000 in
theorem lifted (os : Os) (started : os.Started) (H : Type) (enc : TypeId × Value → H) :
    ReturnsInHanded {} Try.checked os 7 .any (Rows.outlineBoxesSpec.pre6 enc Try.prog Try.f7 Rows.outlineBoxesRow.domain false) (Rows.outlineBoxesSpec.post enc Try.prog Try.f7 false true false false) := by
  refine returnsInHanded_of_change_sized (C := Try.checked) own started (by kernel_rfl) Try.func7
    (ChangeSpec.witness6 (enc := enc) (C := Try.checked) false ⟨#[], #[.agg #[.slice none 0 0, .slice none 0 0], .int .i64 0, .int .i64 0], []⟩ 8 (by kernel_rfl) (by kernel_rfl) (by kernel_rfl) (by kernel_rfl)) ?_
  intro W base args ds gs before hval0 hW hcnd hsz0 _
  have hval : ∀ (j : Nat) t v, Try.f7.params[j]? = some t → args[j]? = some v → Value.okWide Try.prog W .any base t v := hval0
  have hW' := hW
  obtain ⟨p, q, hA0, hV, rfl, hfz, hnd⟩ := hW
  have hA : DataW.TrodAll enc Try.prog W 0 (fun _ => true) true Try.f7.params.toList args.toList ds p := hA0
  rw [Try.params7] at hA hval
  obtain ⟨v0, vs0, d0, ds0, p0, q0, hargs, rfl, rfl, h0, r0⟩ := trodAll_cons hA
  obtain ⟨v1, vs1, d1, ds1, p1, q1, rfl, rfl, rfl, h1, r1⟩ := trodAll_cons r0
  obtain ⟨v2, vs2, d2, ds2, p2, q2, rfl, rfl, rfl, h2, r2⟩ := trodAll_cons r1
  obtain ⟨rfl, rfl, rfl⟩ := trodAll_nil r2
  obtain rfl : args = #[v0, v1, v2] := by cases args; simp_all
  obtain ⟨rfl, rfl⟩ := trodVars_none hV
  have k0 := h0
  have lt0 : ∀ x ∈ p0, x.block < W.heap.size := by obtain ⟨m, hm⟩ := k0; exact DataW.trod_lt m _ _ _ hm
  obtain ⟨fuel0, hf0⟩ := h0
  obtain ⟨y0, ky0, gy0⟩ := opens_25 enc W 0 (fun _ => true) true fuel0 _ _ hf0
  obtain ⟨cs0, rfl⟩ := wide_agg (hval 0 25 v0 rfl rfl) (by rw [Try.underlying25])
  obtain ⟨A0_0, c0_0, A0_1, c0_1, hc0, l0_0, g0_0, l0_1, g0_1⟩ := k25_open ky0
  obtain rfl := agg_list hc0
  have k1 := h1
  have lt1 : ∀ x ∈ p1, x.block < W.heap.size := by obtain ⟨m, hm⟩ := k1; exact DataW.trod_lt m _ _ _ hm
  obtain ⟨fuel1, hf1⟩ := h1
  obtain ⟨y1, ky1, gy1⟩ := (opens_int Try.underlying3) enc W 0 (fun _ => true) true fuel1 _ _ hf1
  obtain ⟨a1_, rfl, _, _, w1⟩ := open_int Try.underlying3 (hval 1 3 v1 rfl rfl) k1
  obtain rfl : a1_ = y1 := by have e_ : [_] = [_] := ky1; simpa using e_
  have k2 := h2
  have lt2 : ∀ x ∈ p2, x.block < W.heap.size := by obtain ⟨m, hm⟩ := k2; exact DataW.trod_lt m _ _ _ hm
  obtain ⟨fuel2, hf2⟩ := h2
  obtain ⟨y2, ky2, gy2⟩ := (opens_int Try.underlying3) enc W 0 (fun _ => true) true fuel2 _ _ hf2
  obtain ⟨a2_, rfl, _, _, w2⟩ := open_int Try.underlying3 (hval 2 3 v2 rfl rfl) k2
  obtain rfl : a2_ = y2 := by have e_ : [_] = [_] := ky2; simpa using e_
  clear hA0 hval0 hsz0
  obtain ⟨k, hk⟩ := Pure.OutlineBoxes y0.f0 y0.f1 a1_ a2_ gy0 gy1 gy2
  refine (fleuronlaw03_OutlineBoxes.calls k A0_0 c0_0 y0.f0 A0_1 c0_1 y0.f1 a1_ a2_ true W g0_0 l0_0 g0_1 l0_1 hk).mono fun e W' ⟨he, bel⟩ => ?_
  subst he
  exact ⟨_, rfl, _, _, _, [], _, [], hW', trodAll_mk1 (shut_bool Try.underlying4 _), (trodAll_cons_mk (Below.trod laidOut (by kernel_rfl) (of_decide_eq_true (by kernel_rfl)) k0 bel lt0) (trodAll_cons_mk (Below.trod laidOut (by kernel_rfl) (of_decide_eq_true (by kernel_rfl)) k1 bel lt1) (trodAll_cons_mk (Below.trod laidOut (by kernel_rfl) (of_decide_eq_true (by kernel_rfl)) k2 bel lt2) trodAll_mk0))), rfl, bel.frame _, fun h => by cases h⟩
theorem over : Rows.outlineBoxesRow.holds Try.pinned (OpenSpec.ofChange Rows.outlineBoxesSpec) :=
  OpenClaim.holds_of_wide 7 Try.f7 rfl rfl rfl rfl rfl rfl rfl ⟨rfl, rfl, rfl, rfl, rfl⟩ rfl rfl rfl rfl rfl (by kernel_rfl) Try.func7 (by kernel_rfl)
    (of_decide_eq_true (by kernel_rfl)) (by unfold Func.isWrapper; first | (rw [if_pos (by decide +kernel)]; kernel_rfl) | (rw [if_neg (by decide +kernel)]; exact ⟨rfl, rfl⟩))
    (fun os started H enc _ => lifted os started H enc)
theorem proved : Rows.OutlineBoxesSaid := over
end Go.Proofs.Ytbmklpcheopgoaa.outlineBoxes
namespace Go.Proofs.Ytbmklpcheopgoaa
/-- The row, under a short name, for the claim. -/
theorem outlineBoxes_holds : Rows.OutlineBoxesSaid := outlineBoxes.proved
#print axioms outlineBoxes_holds
end Go.Proofs.Ytbmklpcheopgoaa
