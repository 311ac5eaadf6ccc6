/- What the Go functions of this seat compute, as Lean functions, each with the proof that the call answers so; made by a program of this session. -/
import Derived.Test.YtbmklpcheopgoaaHx0
import Derived.Test.YtbmklpcheopgoaaHx2
import Derived.Test.YtbmklpcheopgoaaHx5
import Derived.Test.YtbmklpcheopgoaaHx8
import Derived.Test.YtbmklpcheopgoaaHx12
import Derived.Test.YtbmklpcheopgoaaHx14
import Derived.Test.YtbmklpcheopgoaaHx24
import Derived.Test.YtbmklpcheopgoaaHx26
namespace Go.Proofs.Ytbmklpcheopgoaa.H
open Go.RowKit Go.Proofs.YtbmklpcheopgoaaW.PrintWords Go.Proofs.YtbmklpcheopgoaaW.PrintLast Go.Proofs.YtbmklpcheopgoaaW.PrintMore
attribute [local go_sem] max2_int min2_int max_two min_two max_three min_three max_four min_four   -- for this text's walks alone
set_option linter.unusedVariables false
set_option linter.unusedSimpArgs false

attribute [local go_sem high] eqA52
/-! ### fleuronlaw03_OutlineBack: function 10 -/
mutual
def fleuronlaw03_OutlineBack.l0 : Nat → List (List (S33)) → Bool → Int → List (S33) → List Int → Option (Bool)
  | 0, _, _, _, _, _ => none
  | k + 1, x3, x4, x5, x438000, x438001 => if x5 < (x3.length : Int) then (if 0 ≤ x5 then (if ((rd_L3 x3 x5).length : Int) = 0 then ((fleuronlaw03_drawn.f).bind fun t445 => (if t445 = true then (some (decide (((rd_L3 x3 x5).length : Int) > 0))) else (some false))) else (if 0 < ((rd_L3 x3 x5).length : Int) then (if ((rd_T33 (rd_L3 x3 x5) 0).f2 = true) then (fleuronlaw03_OutlineBack.l0 k x3 x4 (wrap64 (x5 + 1)) x438000 x438001) else ((fleuronlaw03_drawn.f).bind fun t449 => (if t449 = true then (some (decide (((rd_L3 x3 x5).length : Int) > 0))) else (some false)))) else (none))) else (none)) else ((fleuronlaw03_grid.f k x438000 x438001 0 0).bind fun bt451 => ((outline_Reversed.f x438000 x438001).bind fun bt457 => ((fleuronlaw03_grid.f k bt457.1 bt457.2 0 0).bind fun bt463 => ((outline_Lines.f bt451.1 bt451.2 x438001).bind fun t469 => ((outline_Lines.f bt463.1 bt463.2 x438001).bind fun t472 => (if x4 = true then (if (t469.length : Int) = (t472.length : Int) then (fleuronlaw03_OutlineBack.j1 k t469 t472 ((t469.length : Int) != (x438001.length : Int))) else (fleuronlaw03_OutlineBack.j1 k t469 t472 true)) else (fleuronlaw03_OutlineBack.j1 k t469 t472 true)))))))
def fleuronlaw03_OutlineBack.j1 : Nat → List (List (S52)) → List (List (S52)) → Bool → Option (Bool)
  | 0, _, _, _ => none
  | k + 1, x10, x11, x92 => if x92 = true then (some false) else (fleuronlaw03_OutlineBack.l1 k x10 x11 0)
def fleuronlaw03_OutlineBack.l1 : Nat → List (List (S52)) → List (List (S52)) → Int → Option (Bool)
  | 0, _, _, _ => none
  | k + 1, x10, x11, x12 => if x12 < (x10.length : Int) then (if 0 ≤ x12 then (if x12 < (x11.length : Int) then (if ((rd_L9 x11 x12).length : Int) = ((rd_L9 x10 x12).length : Int) then (fleuronlaw03_OutlineBack.l2 k x10 x11 x12 ((rd_L9 x10 x12).length : Int) 0) else (some false)) else (none)) else (none)) else ((fleuronlaw03_drawn.f).bind fun t475 => (some t475))
def fleuronlaw03_OutlineBack.l2 : Nat → List (List (S52)) → List (List (S52)) → Int → Int → Int → Option (Bool)
  | 0, _, _, _, _, _ => none
  | k + 1, x10, x11, x12, x13, x14 => if x14 < x13 then (if 0 ≤ x12 then (if x12 < (x11.length : Int) then (if 0 ≤ x14 then (if x14 < ((rd_L9 x11 x12).length : Int) then (if x12 < (x10.length : Int) then (if x13 = 0 then (none) else (if 0 ≤ (Int.tmod (wrap64 (x13 - x14)) x13) then (if (Int.tmod (wrap64 (x13 - x14)) x13) < ((rd_L9 x10 x12).length : Int) then (if (!(((rd_T52 (rd_L9 x11 x12) x14).f0) == ((rd_T52 (rd_L9 x10 x12) (Int.tmod (wrap64 (x13 - x14)) x13)).f0)) || (!(((rd_T52 (rd_L9 x11 x12) x14).f1) == ((rd_T52 (rd_L9 x10 x12) (Int.tmod (wrap64 (x13 - x14)) x13)).f1)))) = true then (some false) else (fleuronlaw03_OutlineBack.l2 k x10 x11 x12 x13 (wrap64 (x14 + 1)))) else (none)) else (none))) else (none)) else (none)) else (none)) else (none)) else (none)) else (fleuronlaw03_OutlineBack.l1 k x10 x11 (wrap64 (x12 + 1)))
end
def fleuronlaw03_OutlineBack.f (k : Nat) (l0_0 : List (S33)) (l0_1 : List Int) : Option (Bool) := (outline_Right.f k l0_0 l0_1).bind fun t438 => (if t438 = true then ((fleuronlaw03_told.f l0_0 l0_1).bind fun bt440 => (fleuronlaw03_OutlineBack.l0 k bt440.1 bt440.2 0 l0_0 l0_1)) else ((fleuronlaw03_drawn.f).bind fun t439 => (some t439)))
theorem fleuronlaw03_OutlineBack.mono_l : ∀ k, (∀ y0 y1 y2 y3 y4, LeO (fleuronlaw03_OutlineBack.l0 k y0 y1 y2 y3 y4) (fleuronlaw03_OutlineBack.l0 (k + 1) y0 y1 y2 y3 y4)) ∧ (∀ y0 y1 y2, LeO (fleuronlaw03_OutlineBack.j1 k y0 y1 y2) (fleuronlaw03_OutlineBack.j1 (k + 1) y0 y1 y2)) ∧ (∀ y0 y1 y2, LeO (fleuronlaw03_OutlineBack.l1 k y0 y1 y2) (fleuronlaw03_OutlineBack.l1 (k + 1) y0 y1 y2)) ∧ (∀ y0 y1 y2 y3 y4, LeO (fleuronlaw03_OutlineBack.l2 k y0 y1 y2 y3 y4) (fleuronlaw03_OutlineBack.l2 (k + 1) y0 y1 y2 y3 y4))
  | 0 => ⟨fun _ _ _ _ _ r h => by simp [fleuronlaw03_OutlineBack.l0] at h, fun _ _ _ r h => by simp [fleuronlaw03_OutlineBack.j1] at h, fun _ _ _ r h => by simp [fleuronlaw03_OutlineBack.l1] at h, fun _ _ _ _ _ r h => by simp [fleuronlaw03_OutlineBack.l2] at h⟩
  | k + 1 => by
    obtain ⟨ih0, ih1, ih2, ih3⟩ := fleuronlaw03_OutlineBack.mono_l k
    refine ⟨?_, ?_, ?_, ?_⟩
    · intro y0 y1 y2 y3 y4
      unfold fleuronlaw03_OutlineBack.l0
      repeat' first
      | (with_reducible exact ih0 _ _ _ _ _)
      | (with_reducible exact ih1 _ _ _)
      | (with_reducible exact ih2 _ _ _)
      | (with_reducible exact ih3 _ _ _ _ _)
      | (with_reducible exact fleuronlaw03_grid.mono _ _ _ _ _)
      | (with_reducible exact outline_Right.mono _ _ _)
      | (with_reducible exact LeO.refl _)
      | (with_reducible exact LeO.none _)
      | (with_reducible refine LeO.ite ?_ ?_)
      | (with_reducible refine LeO.bind ?_ (fun _ => ?_))
      | exact ih0 _ _ _ _ _
      | exact ih1 _ _ _
      | exact ih2 _ _ _
      | exact ih3 _ _ _ _ _
      | exact fleuronlaw03_grid.mono _ _ _ _ _
      | exact outline_Right.mono _ _ _
      | exact LeO.none _
      | refine LeO.ite ?_ ?_
      | refine LeO.bind ?_ (fun _ => ?_)
    · intro y0 y1 y2
      unfold fleuronlaw03_OutlineBack.j1
      repeat' first
      | (with_reducible exact ih0 _ _ _ _ _)
      | (with_reducible exact ih1 _ _ _)
      | (with_reducible exact ih2 _ _ _)
      | (with_reducible exact ih3 _ _ _ _ _)
      | (with_reducible exact fleuronlaw03_grid.mono _ _ _ _ _)
      | (with_reducible exact outline_Right.mono _ _ _)
      | (with_reducible exact LeO.refl _)
      | (with_reducible exact LeO.none _)
      | (with_reducible refine LeO.ite ?_ ?_)
      | (with_reducible refine LeO.bind ?_ (fun _ => ?_))
      | exact ih0 _ _ _ _ _
      | exact ih1 _ _ _
      | exact ih2 _ _ _
      | exact ih3 _ _ _ _ _
      | exact fleuronlaw03_grid.mono _ _ _ _ _
      | exact outline_Right.mono _ _ _
      | exact LeO.none _
      | refine LeO.ite ?_ ?_
      | refine LeO.bind ?_ (fun _ => ?_)
    · intro y0 y1 y2
      unfold fleuronlaw03_OutlineBack.l1
      repeat' first
      | (with_reducible exact ih0 _ _ _ _ _)
      | (with_reducible exact ih1 _ _ _)
      | (with_reducible exact ih2 _ _ _)
      | (with_reducible exact ih3 _ _ _ _ _)
      | (with_reducible exact fleuronlaw03_grid.mono _ _ _ _ _)
      | (with_reducible exact outline_Right.mono _ _ _)
      | (with_reducible exact LeO.refl _)
      | (with_reducible exact LeO.none _)
      | (with_reducible refine LeO.ite ?_ ?_)
      | (with_reducible refine LeO.bind ?_ (fun _ => ?_))
      | exact ih0 _ _ _ _ _
      | exact ih1 _ _ _
      | exact ih2 _ _ _
      | exact ih3 _ _ _ _ _
      | exact fleuronlaw03_grid.mono _ _ _ _ _
      | exact outline_Right.mono _ _ _
      | exact LeO.none _
      | refine LeO.ite ?_ ?_
      | refine LeO.bind ?_ (fun _ => ?_)
    · intro y0 y1 y2 y3 y4
      unfold fleuronlaw03_OutlineBack.l2
      repeat' first
      | (with_reducible exact ih0 _ _ _ _ _)
      | (with_reducible exact ih1 _ _ _)
      | (with_reducible exact ih2 _ _ _)
      | (with_reducible exact ih3 _ _ _ _ _)
      | (with_reducible exact fleuronlaw03_grid.mono _ _ _ _ _)
      | (with_reducible exact outline_Right.mono _ _ _)
      | (with_reducible exact LeO.refl _)
      | (with_reducible exact LeO.none _)
      | (with_reducible refine LeO.ite ?_ ?_)
      | (with_reducible refine LeO.bind ?_ (fun _ => ?_))
      | exact ih0 _ _ _ _ _
      | exact ih1 _ _ _
      | exact ih2 _ _ _
      | exact ih3 _ _ _ _ _
      | exact fleuronlaw03_grid.mono _ _ _ _ _
      | exact outline_Right.mono _ _ _
      | exact LeO.none _
      | refine LeO.ite ?_ ?_
      | refine LeO.bind ?_ (fun _ => ?_)
theorem fleuronlaw03_OutlineBack.mono : ∀ a0 a1 k, LeO (fleuronlaw03_OutlineBack.f k a0 a1) (fleuronlaw03_OutlineBack.f (k + 1) a0 a1) := by
  intro a0 a1 k
  obtain ⟨ih0, ih1, ih2, ih3⟩ := fleuronlaw03_OutlineBack.mono_l k
  unfold fleuronlaw03_OutlineBack.f
  repeat' first
      | (with_reducible exact ih0 _ _ _ _ _)
      | (with_reducible exact ih1 _ _ _)
      | (with_reducible exact ih2 _ _ _)
      | (with_reducible exact ih3 _ _ _ _ _)
      | (with_reducible exact fleuronlaw03_grid.mono _ _ _ _ _)
      | (with_reducible exact outline_Right.mono _ _ _)
      | (with_reducible exact LeO.refl _)
      | (with_reducible exact LeO.none _)
      | (with_reducible refine LeO.ite ?_ ?_)
      | (with_reducible refine LeO.bind ?_ (fun _ => ?_))
      | exact ih0 _ _ _ _ _
      | exact ih1 _ _ _
      | exact ih2 _ _ _
      | exact ih3 _ _ _ _ _
      | exact fleuronlaw03_grid.mono _ _ _ _ _
      | exact outline_Right.mono _ _ _
      | exact LeO.none _
      | refine LeO.ite ?_ ?_
      | refine LeO.bind ?_ (fun _ => ?_)
set_option maxHeartbeats 8000000 in
set_option maxRecDepth 100000 in
theorem fleuronlaw03_OutlineBack.calls (k : Nat) (A0_0 : Option Addr) (c0_0 : Nat) (l0_0 : List (S33)) (A0_1 : Option Addr) (c0_1 : Nat) (l0_1 : List Int) (r : Bool) (w : World) (hr0_0 : Kd.C k33 w A0_0 l0_0.length l0_0) (hc0_0 : l0_0.length ≤ c0_0) (hr0_1 : Kd.C (Kd.int .i64) w A0_1 l0_1.length l0_1) (hc0_1 : l0_1.length ≤ c0_1) (h : fleuronlaw03_OutlineBack.f k l0_0 l0_1 = some r) :
    Calls Try.prog 10 #[.agg #[.slice A0_0 l0_0.length c0_0, .slice A0_1 l0_1.length c0_1]] w fun e w' => e = .returned (.bool r) ∧ Below w.heap.size w w' := by
  have hu25 := Try.underlying25
  have hu52 := Try.underlying52
  have HR0_0 := Aside0.mk hr0_0
  have HC0_0 := Aside0.mk hc0_0
  clear hr0_0 hc0_0
  have HR0_1 := Aside0.mk hr0_1
  have HC0_1 := Aside0.mk hc0_1
  clear hr0_1 hc0_1
  have HB := Aside0.mk (Below.refl w.heap.size w)
  have H : ((outline_Right.f k l0_0 l0_1).bind fun t438 => (if t438 = true then ((fleuronlaw03_told.f l0_0 l0_1).bind fun bt440 => (fleuronlaw03_OutlineBack.l0 k bt440.1 bt440.2 0 l0_0 l0_1)) else ((fleuronlaw03_drawn.f).bind fun t439 => (some t439)))) = some r := h
  clear h
  replace H := Option.bind_eq_some_iff.mp H
  obtain ⟨t438, A20, H⟩ := H
  replace H : (if t438 = true then ((fleuronlaw03_told.f l0_0 l0_1).bind fun bt440 => (fleuronlaw03_OutlineBack.l0 k bt440.1 bt440.2 0 l0_0 l0_1)) else ((fleuronlaw03_drawn.f).bind fun t439 => (some t439))) = some r := H
  have A2 := Aside0.mk A20
  clear A20
  by_cases c3 : t438 = true
  · subst c3
    have H1 : ((fleuronlaw03_told.f l0_0 l0_1).bind fun bt440 => (fleuronlaw03_OutlineBack.l0 k bt440.1 bt440.2 0 l0_0 l0_1)) = some r := by rw [if_pos rfl] at H; exact H
    clear H
    have H := H1
    clear H1
    replace H := Option.bind_eq_some_iff.mp H
    obtain ⟨⟨t440, t443⟩, A40, H⟩ := H
    replace H : (fleuronlaw03_OutlineBack.l0 k t440 t443 0 l0_0 l0_1) = some r := H
    have A4 := Aside0.mk A40
    clear A40
    have H' := Aside0.mk H
    clear H
    go_enter Try.func10, Try.ntmps10
    go_wp2_with (first | ((with_reducible refine gate_dst (N := 1) rfl ?_); (try (refine gate_guard (by rfl) ?_; dsimp only)); refine box_event ?hg (N := 1) ?hd (cs := #[.slice A0_0 l0_0.length c0_0, .slice A0_1 l0_1.length c0_1]) (t := 25) ?hr ?_; (case hd => rfl); (case hg => rfl); (case hr => first | (go_simp; done) | (go_simp; rfl)); intro gb437 hg w5 hbox hb; have n0_ := Aside0.mk (below_step (by repeat (first | (with_reducible first | exact HB.out | apply below_alloc | apply pw_below_drewN | apply below_drew1) | exact HB.out)) hb); have n1_ := Aside0.mk (hbox); have n2_ := Aside0.mk ((by rw [hg]; exact (below_size (by repeat (first | (with_reducible first | exact HB.out | apply below_alloc | apply pw_below_drewN | apply below_drew1) | exact HB.out))) : w.heap.size ≤ gb437)); have n3_ := Aside0.mk ((by rw [hg]; exact (below_size (by repeat (first | (with_reducible first | exact HB.out | apply below_alloc | apply pw_below_drewN | apply below_drew1) | exact HB.out))) : w.heap.size ≤ gb437)); clear HB; have HB := n0_; have BK437 := n1_; have GW437 := n2_; have GE437 := n3_; clear n0_ n1_ n2_ n3_; clear hb hbox hg; have hcz6_0 : w5.cell? ⟨gb437, 0, none⟩ = some (.slice A0_0 l0_0.length c0_0) := (blk_cell BK437.out 0).trans rfl; have hcz6_1 : w5.cell? ⟨gb437, 1, none⟩ = some (.slice A0_1 l0_1.length c0_1) := (blk_cell BK437.out 1).trans rfl; have hfz6_0 := blk_frozen BK437.out 0; have hfz6_1 := blk_frozen BK437.out 1) | (go_at_call 22; (with_reducible refine (outline_Right.calls k _ _ l0_0 _ _ l0_1 true _ ?side1 ?side2 ?side3 ?side4 A2.out).mono ?_); (case side1 => repeat (first | exact (Kd.C_below HR0_0.out HB.out) | (with_reducible refine Kd.C_alloc ?_ _) | (with_reducible refine Kd.C_drewN ?_ _) | (with_reducible refine Kd.C_drew ?_))); (case side2 => exact HC0_0.out); (case side3 => repeat (first | exact (Kd.C_below HR0_1.out HB.out) | (with_reducible refine Kd.C_alloc ?_ _) | (with_reducible refine Kd.C_drewN ?_ _) | (with_reducible refine Kd.C_drew ?_))); (case side4 => exact HC0_1.out); rintro e w7 ⟨rfl, hb⟩; have n0_ := Aside0.mk (blk_below (g := gb437) (o := .cells #[.slice A0_0 l0_0.length c0_0, .slice A0_1 l0_1.length c0_1] 25 (0, 0)) (by (with_reducible repeat (first | refine blk_drewN ?_ _ | refine blk_drew ?_ | refine blk_alloc ?_ _)); exact BK437.out) hb); have n1_ := Aside0.mk (below_step (by repeat (first | (with_reducible first | exact HB.out | apply below_alloc | apply pw_below_drewN | apply below_drew1 | refine below_set ?_ GE437.out) | exact HB.out)) hb); clear BK437; clear HB; have BK437 := n0_; have HB := n1_; clear n0_ n1_; (try clear hb); (try clear hb2); (try clear hk); (try clear hi); have hcz8_0 : w7.cell? ⟨gb437, 0, none⟩ = some (.slice A0_0 l0_0.length c0_0) := (blk_cell BK437.out 0).trans rfl; have hcz8_1 : w7.cell? ⟨gb437, 1, none⟩ = some (.slice A0_1 l0_1.length c0_1) := (blk_cell BK437.out 1).trans rfl; have hfz8_0 := blk_frozen BK437.out 0; have hfz8_1 := blk_frozen BK437.out 1) | (go_at_call 16; (with_reducible refine (fleuronlaw03_told.calls _ _ l0_0 _ _ l0_1 t440 t443 _ ?side1 ?side2 ?side3 ?side4 A4.out).mono ?_); (case side1 => repeat (first | exact (Kd.C_below HR0_0.out HB.out) | (with_reducible refine Kd.C_alloc ?_ _) | (with_reducible refine Kd.C_drewN ?_ _) | (with_reducible refine Kd.C_drew ?_))); (case side2 => exact HC0_0.out); (case side3 => repeat (first | exact (Kd.C_below HR0_1.out HB.out) | (with_reducible refine Kd.C_alloc ?_ _) | (with_reducible refine Kd.C_drewN ?_ _) | (with_reducible refine Kd.C_drew ?_))); (case side4 => exact HC0_1.out); rintro e w9 ⟨v441, rfl, ho0, hb⟩; have n0_ := Aside0.mk (Kd.S_lower ho0 (below_size (by repeat (first | (with_reducible first | exact HB.out | apply below_alloc | apply pw_below_drewN | apply below_drew1 | refine below_set ?_ GE437.out) | exact HB.out)))); have n1_ := Aside0.mk (blk_below (g := gb437) (o := .cells #[.slice A0_0 l0_0.length c0_0, .slice A0_1 l0_1.length c0_1] 25 (0, 0)) (by (with_reducible repeat (first | refine blk_drewN ?_ _ | refine blk_drew ?_ | refine blk_alloc ?_ _)); exact BK437.out) hb); have n2_ := Aside0.mk (below_step (by repeat (first | (with_reducible first | exact HB.out | apply below_alloc | apply pw_below_drewN | apply below_drew1 | refine below_set ?_ GE437.out) | exact HB.out)) hb); clear BK437; clear HB; have HO442 := n0_; have BK437 := n1_; have HB := n2_; clear n0_ n1_ n2_; (try clear hb); (try clear hb2); (try clear hk); (try clear hi); (try clear ho0)))
    repeat (go_quiet (first | ((with_reducible refine gate_dst (N := 1) rfl ?_); (try (refine gate_guard (by rfl) ?_; dsimp only)); refine box_event ?hg (N := 1) ?hd (cs := #[.slice A0_0 l0_0.length c0_0, .slice A0_1 l0_1.length c0_1]) (t := 25) ?hr ?_; (case hd => rfl); (case hg => rfl); (case hr => first | (go_simp; done) | (go_simp; rfl)); intro gb437 hg w5 hbox hb; have n0_ := Aside0.mk (below_step (by repeat (first | (with_reducible first | exact HB.out | apply below_alloc | apply pw_below_drewN | apply below_drew1) | exact HB.out)) hb); have n1_ := Aside0.mk (hbox); have n2_ := Aside0.mk ((by rw [hg]; exact (below_size (by repeat (first | (with_reducible first | exact HB.out | apply below_alloc | apply pw_below_drewN | apply below_drew1) | exact HB.out))) : w.heap.size ≤ gb437)); have n3_ := Aside0.mk ((by rw [hg]; exact (below_size (by repeat (first | (with_reducible first | exact HB.out | apply below_alloc | apply pw_below_drewN | apply below_drew1) | exact HB.out))) : w.heap.size ≤ gb437)); clear HB; have HB := n0_; have BK437 := n1_; have GW437 := n2_; have GE437 := n3_; clear n0_ n1_ n2_ n3_; clear hb hbox hg; have hcz6_0 : w5.cell? ⟨gb437, 0, none⟩ = some (.slice A0_0 l0_0.length c0_0) := (blk_cell BK437.out 0).trans rfl; have hcz6_1 : w5.cell? ⟨gb437, 1, none⟩ = some (.slice A0_1 l0_1.length c0_1) := (blk_cell BK437.out 1).trans rfl; have hfz6_0 := blk_frozen BK437.out 0; have hfz6_1 := blk_frozen BK437.out 1) | (go_at_call 22; (with_reducible refine (outline_Right.calls k _ _ l0_0 _ _ l0_1 true _ ?side1 ?side2 ?side3 ?side4 A2.out).mono ?_); (case side1 => repeat (first | exact (Kd.C_below HR0_0.out HB.out) | (with_reducible refine Kd.C_alloc ?_ _) | (with_reducible refine Kd.C_drewN ?_ _) | (with_reducible refine Kd.C_drew ?_))); (case side2 => exact HC0_0.out); (case side3 => repeat (first | exact (Kd.C_below HR0_1.out HB.out) | (with_reducible refine Kd.C_alloc ?_ _) | (with_reducible refine Kd.C_drewN ?_ _) | (with_reducible refine Kd.C_drew ?_))); (case side4 => exact HC0_1.out); rintro e w7 ⟨rfl, hb⟩; have n0_ := Aside0.mk (blk_below (g := gb437) (o := .cells #[.slice A0_0 l0_0.length c0_0, .slice A0_1 l0_1.length c0_1] 25 (0, 0)) (by (with_reducible repeat (first | refine blk_drewN ?_ _ | refine blk_drew ?_ | refine blk_alloc ?_ _)); exact BK437.out) hb); have n1_ := Aside0.mk (below_step (by repeat (first | (with_reducible first | exact HB.out | apply below_alloc | apply pw_below_drewN | apply below_drew1 | refine below_set ?_ GE437.out) | exact HB.out)) hb); clear BK437; clear HB; have BK437 := n0_; have HB := n1_; clear n0_ n1_; (try clear hb); (try clear hb2); (try clear hk); (try clear hi); have hcz8_0 : w7.cell? ⟨gb437, 0, none⟩ = some (.slice A0_0 l0_0.length c0_0) := (blk_cell BK437.out 0).trans rfl; have hcz8_1 : w7.cell? ⟨gb437, 1, none⟩ = some (.slice A0_1 l0_1.length c0_1) := (blk_cell BK437.out 1).trans rfl; have hfz8_0 := blk_frozen BK437.out 0; have hfz8_1 := blk_frozen BK437.out 1) | (go_at_call 16; (with_reducible refine (fleuronlaw03_told.calls _ _ l0_0 _ _ l0_1 t440 t443 _ ?side1 ?side2 ?side3 ?side4 A4.out).mono ?_); (case side1 => repeat (first | exact (Kd.C_below HR0_0.out HB.out) | (with_reducible refine Kd.C_alloc ?_ _) | (with_reducible refine Kd.C_drewN ?_ _) | (with_reducible refine Kd.C_drew ?_))); (case side2 => exact HC0_0.out); (case side3 => repeat (first | exact (Kd.C_below HR0_1.out HB.out) | (with_reducible refine Kd.C_alloc ?_ _) | (with_reducible refine Kd.C_drewN ?_ _) | (with_reducible refine Kd.C_drew ?_))); (case side4 => exact HC0_1.out); rintro e w9 ⟨v441, rfl, ho0, hb⟩; have n0_ := Aside0.mk (Kd.S_lower ho0 (below_size (by repeat (first | (with_reducible first | exact HB.out | apply below_alloc | apply pw_below_drewN | apply below_drew1 | refine below_set ?_ GE437.out) | exact HB.out)))); have n1_ := Aside0.mk (blk_below (g := gb437) (o := .cells #[.slice A0_0 l0_0.length c0_0, .slice A0_1 l0_1.length c0_1] 25 (0, 0)) (by (with_reducible repeat (first | refine blk_drewN ?_ _ | refine blk_drew ?_ | refine blk_alloc ?_ _)); exact BK437.out) hb); have n2_ := Aside0.mk (below_step (by repeat (first | (with_reducible first | exact HB.out | apply below_alloc | apply pw_below_drewN | apply below_drew1 | refine below_set ?_ GE437.out) | exact HB.out)) hb); clear BK437; clear HB; have HO442 := n0_; have BK437 := n1_; have HB := n2_; clear n0_ n1_ n2_; (try clear hb); (try clear hb2); (try clear hk); (try clear hi); (try clear ho0))); try go_wp2_with (first | ((with_reducible refine gate_dst (N := 1) rfl ?_); (try (refine gate_guard (by rfl) ?_; dsimp only)); refine box_event ?hg (N := 1) ?hd (cs := #[.slice A0_0 l0_0.length c0_0, .slice A0_1 l0_1.length c0_1]) (t := 25) ?hr ?_; (case hd => rfl); (case hg => rfl); (case hr => first | (go_simp; done) | (go_simp; rfl)); intro gb437 hg w5 hbox hb; have n0_ := Aside0.mk (below_step (by repeat (first | (with_reducible first | exact HB.out | apply below_alloc | apply pw_below_drewN | apply below_drew1) | exact HB.out)) hb); have n1_ := Aside0.mk (hbox); have n2_ := Aside0.mk ((by rw [hg]; exact (below_size (by repeat (first | (with_reducible first | exact HB.out | apply below_alloc | apply pw_below_drewN | apply below_drew1) | exact HB.out))) : w.heap.size ≤ gb437)); have n3_ := Aside0.mk ((by rw [hg]; exact (below_size (by repeat (first | (with_reducible first | exact HB.out | apply below_alloc | apply pw_below_drewN | apply below_drew1) | exact HB.out))) : w.heap.size ≤ gb437)); clear HB; have HB := n0_; have BK437 := n1_; have GW437 := n2_; have GE437 := n3_; clear n0_ n1_ n2_ n3_; clear hb hbox hg; have hcz6_0 : w5.cell? ⟨gb437, 0, none⟩ = some (.slice A0_0 l0_0.length c0_0) := (blk_cell BK437.out 0).trans rfl; have hcz6_1 : w5.cell? ⟨gb437, 1, none⟩ = some (.slice A0_1 l0_1.length c0_1) := (blk_cell BK437.out 1).trans rfl; have hfz6_0 := blk_frozen BK437.out 0; have hfz6_1 := blk_frozen BK437.out 1) | (go_at_call 22; (with_reducible refine (outline_Right.calls k _ _ l0_0 _ _ l0_1 true _ ?side1 ?side2 ?side3 ?side4 A2.out).mono ?_); (case side1 => repeat (first | exact (Kd.C_below HR0_0.out HB.out) | (with_reducible refine Kd.C_alloc ?_ _) | (with_reducible refine Kd.C_drewN ?_ _) | (with_reducible refine Kd.C_drew ?_))); (case side2 => exact HC0_0.out); (case side3 => repeat (first | exact (Kd.C_below HR0_1.out HB.out) | (with_reducible refine Kd.C_alloc ?_ _) | (with_reducible refine Kd.C_drewN ?_ _) | (with_reducible refine Kd.C_drew ?_))); (case side4 => exact HC0_1.out); rintro e w7 ⟨rfl, hb⟩; have n0_ := Aside0.mk (blk_below (g := gb437) (o := .cells #[.slice A0_0 l0_0.length c0_0, .slice A0_1 l0_1.length c0_1] 25 (0, 0)) (by (with_reducible repeat (first | refine blk_drewN ?_ _ | refine blk_drew ?_ | refine blk_alloc ?_ _)); exact BK437.out) hb); have n1_ := Aside0.mk (below_step (by repeat (first | (with_reducible first | exact HB.out | apply below_alloc | apply pw_below_drewN | apply below_drew1 | refine below_set ?_ GE437.out) | exact HB.out)) hb); clear BK437; clear HB; have BK437 := n0_; have HB := n1_; clear n0_ n1_; (try clear hb); (try clear hb2); (try clear hk); (try clear hi); have hcz8_0 : w7.cell? ⟨gb437, 0, none⟩ = some (.slice A0_0 l0_0.length c0_0) := (blk_cell BK437.out 0).trans rfl; have hcz8_1 : w7.cell? ⟨gb437, 1, none⟩ = some (.slice A0_1 l0_1.length c0_1) := (blk_cell BK437.out 1).trans rfl; have hfz8_0 := blk_frozen BK437.out 0; have hfz8_1 := blk_frozen BK437.out 1) | (go_at_call 16; (with_reducible refine (fleuronlaw03_told.calls _ _ l0_0 _ _ l0_1 t440 t443 _ ?side1 ?side2 ?side3 ?side4 A4.out).mono ?_); (case side1 => repeat (first | exact (Kd.C_below HR0_0.out HB.out) | (with_reducible refine Kd.C_alloc ?_ _) | (with_reducible refine Kd.C_drewN ?_ _) | (with_reducible refine Kd.C_drew ?_))); (case side2 => exact HC0_0.out); (case side3 => repeat (first | exact (Kd.C_below HR0_1.out HB.out) | (with_reducible refine Kd.C_alloc ?_ _) | (with_reducible refine Kd.C_drewN ?_ _) | (with_reducible refine Kd.C_drew ?_))); (case side4 => exact HC0_1.out); rintro e w9 ⟨v441, rfl, ho0, hb⟩; have n0_ := Aside0.mk (Kd.S_lower ho0 (below_size (by repeat (first | (with_reducible first | exact HB.out | apply below_alloc | apply pw_below_drewN | apply below_drew1 | refine below_set ?_ GE437.out) | exact HB.out)))); have n1_ := Aside0.mk (blk_below (g := gb437) (o := .cells #[.slice A0_0 l0_0.length c0_0, .slice A0_1 l0_1.length c0_1] 25 (0, 0)) (by (with_reducible repeat (first | refine blk_drewN ?_ _ | refine blk_drew ?_ | refine blk_alloc ?_ _)); exact BK437.out) hb); have n2_ := Aside0.mk (below_step (by repeat (first | (with_reducible first | exact HB.out | apply below_alloc | apply pw_below_drewN | apply below_drew1 | refine below_set ?_ GE437.out) | exact HB.out)) hb); clear BK437; clear HB; have HO442 := n0_; have BK437 := n1_; have HB := n2_; clear n0_ n1_ n2_; (try clear hb); (try clear hb2); (try clear hk); (try clear hi); (try clear ho0))))
    go_loopg [5] k (fun kq v5 w' => ∃ (x5_1 : Int), v5 = .int .i64 x5_1 ∧ Aside0 (fleuronlaw03_OutlineBack.l0 kq t440 t443 x5_1 l0_0 l0_1 = some r) ∧ Aside0 (kq ≤ k) ∧ Aside0 (Kd.S (Kd.slice 33 k33) 22 w' w.heap.size (fun _ => True) v441 t440) ∧ Aside0 (w'.heap[gb437]? = some (.cells #[(.slice A0_0 l0_0.length c0_0), (.slice A0_1 l0_1.length c0_1)] 25 (0, 0))) ∧ Aside0 (Below w.heap.size w w'))
    case atStart => exact ⟨(0), (by first | rfl | (simp; done) | (simp [*]; done)), H', ⟨Nat.le_refl _⟩, ⟨by (with_reducible repeat (first | apply Kd.S_alloc | apply Kd.S_drewN | apply Kd.S_drew)); exact HO442.out⟩, ⟨by (with_reducible repeat (first | refine blk_drewN ?_ _ | refine blk_drew ?_ | refine blk_alloc ?_ _)); exact BK437.out⟩, ⟨by repeat (first | (with_reducible first | exact HB.out | apply below_alloc | apply pw_below_drewN | apply below_drew1 | refine below_set ?_ GE437.out) | exact HB.out)⟩⟩
    case round =>
      clear H'
      try clear c1
      try clear p2
      try clear c3
      try clear hcz6_0
      try clear hcz6_1
      try clear hcz8_0
      try clear hcz8_1
      try clear hfz6_0
      try clear hfz6_1
      try clear hfz8_0
      try clear hfz8_1
      obtain ⟨x5_1, rfl, HA, HK1, HO_3, BK437, HB⟩ := hrel
      cases gk with
      | zero => exact absurd HA.out (by simp [fleuronlaw03_OutlineBack.l0])
      | succ k1 =>
        have H := HA.out
        clear HA
        simp only [fleuronlaw03_OutlineBack.l0] at H
        by_cases c10 : x5_1 < (t440.length : Int)
        · rw [if_pos c10] at H
          have c10b0 : decide (x5_1 < (t440.length : Int)) = true := decide_eq_true c10
          clear c10
          by_cases c11 : 0 ≤ x5_1
          · rw [if_pos c11] at H
            have c11b0 : decide (0 ≤ x5_1) = true := decide_eq_true c11
            clear c11
            by_cases c12 : ((rd_L3 t440 x5_1).length : Int) = 0
            · rw [if_pos c12] at H
              have c12b0 : (((rd_L3 t440 x5_1).length : Int) == 0) = true := beq_iff_eq.mpr c12
              have c12b1 : (((rd_L3 t440 x5_1).length : Int) != 0) = false := bne_eq_false_iff_eq.mpr c12
              clear c12
              replace H := Option.bind_eq_some_iff.mp H
              obtain ⟨t445, A130, H⟩ := H
              replace H : (if t445 = true then (some (decide (((rd_L3 t440 x5_1).length : Int) > 0))) else (some false)) = some r := H
              have A13 := Aside0.mk A130
              clear A130
              by_cases c14 : t445 = true
              · subst c14
                have H1 : (some (decide (((rd_L3 t440 x5_1).length : Int) > 0))) = some r := by rw [if_pos rfl] at H; exact H
                clear H
                have H := H1
                clear H1
                obtain rfl := Option.some.inj H
                obtain ⟨Ao15, co15, eo15⟩ := Kd.S_slice HO_3.out
                subst eo15
                have p444 : 0 ≤ (x5_1 : Int) := of_decide_eq_true (by first | (with_reducible assumption) | assumption)
                have q444 : x5_1 < (t440.length : Int) := of_decide_eq_true (by first | (with_reducible assumption) | assumption)
                obtain ⟨ad444, A444_0, c444_0, e444, hx444_0, hl444_0, hi444_0⟩ := at_L3 (Kd.S_reads' HO_3.out).2.2 x5_1 p444 q444
                cases e444
                obtain ⟨ce444, hce444, hMe444, hcc444⟩ := Kd.S_get HO_3.out [] x5_1 p444 (by first | exact q444 | exact of_decide_eq_true (by first | (with_reducible assumption) | assumption) | (have e_ := (Kd.S_reads' HO_3.out).1; omega))
                obtain ⟨ve444_0, rfl, ge444_0⟩ := hMe444
                have hv444_0 := hcc444 0 _ rfl
                rw [Nat.add_zero, show ((Kd.slice 33 k33)).sz = 1 from rfl, Nat.mul_one] at hv444_0
                replace hv444_0 := Option.some.inj (hv444_0.symm.trans hx444_0)
                rw [hv444_0] at ge444_0
                have HL444_0 := Aside0.mk (show Kd.R k33 33 _ _ _ _ (rd_L3 t440 x5_1) from ge444_0)
                clear hv444_0 ge444_0
                clear hcc444 hce444
                have HR444_0 := Aside0.mk hi444_0
                have HC444_0 := Aside0.mk hl444_0
                clear hi444_0 hl444_0
                replace p444 := eq_true p444
                replace q444 := eq_true q444
                go_wp2_with (first | (go_at_call 21; (with_reducible refine (fleuronlaw03_drawn.calls  true _ A13.out).mono ?_); rintro e w16 ⟨rfl, hb⟩; have n0_ := Aside0.mk (Kd.S_below (by (with_reducible repeat (first | apply Kd.S_alloc | apply Kd.S_drewN | apply Kd.S_drew)); exact HO_3.out) hb); have n1_ := Aside0.mk (Kd.R_below (by (with_reducible repeat (first | apply Kd.R_alloc | apply Kd.R_drewN | apply Kd.R_drew)); exact HL444_0.out) hb); have n2_ := Aside0.mk (blk_below (g := gb437) (o := .cells #[.slice A0_0 l0_0.length c0_0, .slice A0_1 l0_1.length c0_1] 25 (0, 0)) (by (with_reducible repeat (first | refine blk_drewN ?_ _ | refine blk_drew ?_ | refine blk_alloc ?_ _)); exact BK437.out) hb); have n3_ := Aside0.mk (Kd.C_below (by repeat (first | (with_reducible exact HR444_0.out) | (with_reducible refine Kd.C_alloc ?_ _) | (with_reducible refine Kd.C_drewN ?_ _) | (with_reducible refine Kd.C_drew ?_) | exact HR444_0.out)) hb); have n4_ := Aside0.mk (below_step (by repeat (first | (with_reducible first | exact HB.out | apply below_alloc | apply pw_below_drewN | apply below_drew1 | refine below_set ?_ GE437.out) | exact HB.out)) hb); clear HO_3; clear HL444_0; clear BK437; clear HR444_0; clear HB; have HO_3 := n0_; have HL444_0 := n1_; have BK437 := n2_; have HR444_0 := n3_; have HB := n4_; clear n0_ n1_ n2_ n3_ n4_; (try clear hb); (try clear hb2); (try clear hk); (try clear hi); have p446 : 0 ≤ (x5_1 : Int) := of_decide_eq_true (by first | (with_reducible assumption) | assumption); have q446 : x5_1 < (t440.length : Int) := of_decide_eq_true (by first | (with_reducible assumption) | assumption); obtain ⟨ad446, A446_0, c446_0, e446, hx446_0, hl446_0, hi446_0⟩ := at_L3 (Kd.S_reads' HO_3.out).2.2 x5_1 p446 q446; obtain rfl : ad444 = ad446 := (by injection e446); obtain ⟨ce446, hce446, hMe446, hcc446⟩ := Kd.S_get HO_3.out [] x5_1 p446 (by first | exact q446 | exact of_decide_eq_true (by first | (with_reducible assumption) | assumption) | (have e_ := (Kd.S_reads' HO_3.out).1; omega)); obtain ⟨ve446_0, rfl, ge446_0⟩ := hMe446; have hv446_0 := hcc446 0 _ rfl; rw [Nat.add_zero, show ((Kd.slice 33 k33)).sz = 1 from rfl, Nat.mul_one] at hv446_0; replace hv446_0 := Option.some.inj (hv446_0.symm.trans hx446_0); rw [hv446_0] at ge446_0; have HL446_0 := Aside0.mk (show Kd.R k33 33 _ _ _ _ (rd_L3 t440 x5_1) from ge446_0); clear hv446_0 ge446_0; clear hcc446 hce446; have HR446_0 := Aside0.mk hi446_0; have HC446_0 := Aside0.mk hl446_0; clear hi446_0 hl446_0; replace p446 := eq_true p446; replace q446 := eq_true q446))
                repeat (go_quiet (first | (go_at_call 21; (with_reducible refine (fleuronlaw03_drawn.calls  true _ A13.out).mono ?_); rintro e w16 ⟨rfl, hb⟩; have n0_ := Aside0.mk (Kd.S_below (by (with_reducible repeat (first | apply Kd.S_alloc | apply Kd.S_drewN | apply Kd.S_drew)); exact HO_3.out) hb); have n1_ := Aside0.mk (Kd.R_below (by (with_reducible repeat (first | apply Kd.R_alloc | apply Kd.R_drewN | apply Kd.R_drew)); exact HL444_0.out) hb); have n2_ := Aside0.mk (blk_below (g := gb437) (o := .cells #[.slice A0_0 l0_0.length c0_0, .slice A0_1 l0_1.length c0_1] 25 (0, 0)) (by (with_reducible repeat (first | refine blk_drewN ?_ _ | refine blk_drew ?_ | refine blk_alloc ?_ _)); exact BK437.out) hb); have n3_ := Aside0.mk (Kd.C_below (by repeat (first | (with_reducible exact HR444_0.out) | (with_reducible refine Kd.C_alloc ?_ _) | (with_reducible refine Kd.C_drewN ?_ _) | (with_reducible refine Kd.C_drew ?_) | exact HR444_0.out)) hb); have n4_ := Aside0.mk (below_step (by repeat (first | (with_reducible first | exact HB.out | apply below_alloc | apply pw_below_drewN | apply below_drew1 | refine below_set ?_ GE437.out) | exact HB.out)) hb); clear HO_3; clear HL444_0; clear BK437; clear HR444_0; clear HB; have HO_3 := n0_; have HL444_0 := n1_; have BK437 := n2_; have HR444_0 := n3_; have HB := n4_; clear n0_ n1_ n2_ n3_ n4_; (try clear hb); (try clear hb2); (try clear hk); (try clear hi); have p446 : 0 ≤ (x5_1 : Int) := of_decide_eq_true (by first | (with_reducible assumption) | assumption); have q446 : x5_1 < (t440.length : Int) := of_decide_eq_true (by first | (with_reducible assumption) | assumption); obtain ⟨ad446, A446_0, c446_0, e446, hx446_0, hl446_0, hi446_0⟩ := at_L3 (Kd.S_reads' HO_3.out).2.2 x5_1 p446 q446; obtain rfl : ad444 = ad446 := (by injection e446); obtain ⟨ce446, hce446, hMe446, hcc446⟩ := Kd.S_get HO_3.out [] x5_1 p446 (by first | exact q446 | exact of_decide_eq_true (by first | (with_reducible assumption) | assumption) | (have e_ := (Kd.S_reads' HO_3.out).1; omega)); obtain ⟨ve446_0, rfl, ge446_0⟩ := hMe446; have hv446_0 := hcc446 0 _ rfl; rw [Nat.add_zero, show ((Kd.slice 33 k33)).sz = 1 from rfl, Nat.mul_one] at hv446_0; replace hv446_0 := Option.some.inj (hv446_0.symm.trans hx446_0); rw [hv446_0] at ge446_0; have HL446_0 := Aside0.mk (show Kd.R k33 33 _ _ _ _ (rd_L3 t440 x5_1) from ge446_0); clear hv446_0 ge446_0; clear hcc446 hce446; have HR446_0 := Aside0.mk hi446_0; have HC446_0 := Aside0.mk hl446_0; clear hi446_0 hl446_0; replace p446 := eq_true p446; replace q446 := eq_true q446)); try go_wp2_with (first | (go_at_call 21; (with_reducible refine (fleuronlaw03_drawn.calls  true _ A13.out).mono ?_); rintro e w16 ⟨rfl, hb⟩; have n0_ := Aside0.mk (Kd.S_below (by (with_reducible repeat (first | apply Kd.S_alloc | apply Kd.S_drewN | apply Kd.S_drew)); exact HO_3.out) hb); have n1_ := Aside0.mk (Kd.R_below (by (with_reducible repeat (first | apply Kd.R_alloc | apply Kd.R_drewN | apply Kd.R_drew)); exact HL444_0.out) hb); have n2_ := Aside0.mk (blk_below (g := gb437) (o := .cells #[.slice A0_0 l0_0.length c0_0, .slice A0_1 l0_1.length c0_1] 25 (0, 0)) (by (with_reducible repeat (first | refine blk_drewN ?_ _ | refine blk_drew ?_ | refine blk_alloc ?_ _)); exact BK437.out) hb); have n3_ := Aside0.mk (Kd.C_below (by repeat (first | (with_reducible exact HR444_0.out) | (with_reducible refine Kd.C_alloc ?_ _) | (with_reducible refine Kd.C_drewN ?_ _) | (with_reducible refine Kd.C_drew ?_) | exact HR444_0.out)) hb); have n4_ := Aside0.mk (below_step (by repeat (first | (with_reducible first | exact HB.out | apply below_alloc | apply pw_below_drewN | apply below_drew1 | refine below_set ?_ GE437.out) | exact HB.out)) hb); clear HO_3; clear HL444_0; clear BK437; clear HR444_0; clear HB; have HO_3 := n0_; have HL444_0 := n1_; have BK437 := n2_; have HR444_0 := n3_; have HB := n4_; clear n0_ n1_ n2_ n3_ n4_; (try clear hb); (try clear hb2); (try clear hk); (try clear hi); have p446 : 0 ≤ (x5_1 : Int) := of_decide_eq_true (by first | (with_reducible assumption) | assumption); have q446 : x5_1 < (t440.length : Int) := of_decide_eq_true (by first | (with_reducible assumption) | assumption); obtain ⟨ad446, A446_0, c446_0, e446, hx446_0, hl446_0, hi446_0⟩ := at_L3 (Kd.S_reads' HO_3.out).2.2 x5_1 p446 q446; obtain rfl : ad444 = ad446 := (by injection e446); obtain ⟨ce446, hce446, hMe446, hcc446⟩ := Kd.S_get HO_3.out [] x5_1 p446 (by first | exact q446 | exact of_decide_eq_true (by first | (with_reducible assumption) | assumption) | (have e_ := (Kd.S_reads' HO_3.out).1; omega)); obtain ⟨ve446_0, rfl, ge446_0⟩ := hMe446; have hv446_0 := hcc446 0 _ rfl; rw [Nat.add_zero, show ((Kd.slice 33 k33)).sz = 1 from rfl, Nat.mul_one] at hv446_0; replace hv446_0 := Option.some.inj (hv446_0.symm.trans hx446_0); rw [hv446_0] at ge446_0; have HL446_0 := Aside0.mk (show Kd.R k33 33 _ _ _ _ (rd_L3 t440 x5_1) from ge446_0); clear hv446_0 ge446_0; clear hcc446 hce446; have HR446_0 := Aside0.mk hi446_0; have HC446_0 := Aside0.mk hl446_0; clear hi446_0 hl446_0; replace p446 := eq_true p446; replace q446 := eq_true q446)))
                go_ret
                exact ⟨by first | rfl | (simp [errW_none, errW_some] <;> rfl) | (simp [*, errW_none, errW_some] <;> rfl), by repeat (first | (with_reducible first | exact HB.out | apply below_alloc | apply pw_below_drewN | apply below_drew1 | refine below_set ?_ GE437.out) | exact HB.out)⟩
              · replace c14 := Bool.eq_false_iff.mpr c14
                subst c14
                have H1 : (some false) = some r := by rw [if_neg (show ¬ (false = true) by decide)] at H; exact H
                clear H
                have H := H1
                clear H1
                obtain rfl := Option.some.inj H
                obtain ⟨Ao17, co17, eo17⟩ := Kd.S_slice HO_3.out
                subst eo17
                have p444 : 0 ≤ (x5_1 : Int) := of_decide_eq_true (by first | (with_reducible assumption) | assumption)
                have q444 : x5_1 < (t440.length : Int) := of_decide_eq_true (by first | (with_reducible assumption) | assumption)
                obtain ⟨ad444, A444_0, c444_0, e444, hx444_0, hl444_0, hi444_0⟩ := at_L3 (Kd.S_reads' HO_3.out).2.2 x5_1 p444 q444
                cases e444
                obtain ⟨ce444, hce444, hMe444, hcc444⟩ := Kd.S_get HO_3.out [] x5_1 p444 (by first | exact q444 | exact of_decide_eq_true (by first | (with_reducible assumption) | assumption) | (have e_ := (Kd.S_reads' HO_3.out).1; omega))
                obtain ⟨ve444_0, rfl, ge444_0⟩ := hMe444
                have hv444_0 := hcc444 0 _ rfl
                rw [Nat.add_zero, show ((Kd.slice 33 k33)).sz = 1 from rfl, Nat.mul_one] at hv444_0
                replace hv444_0 := Option.some.inj (hv444_0.symm.trans hx444_0)
                rw [hv444_0] at ge444_0
                have HL444_0 := Aside0.mk (show Kd.R k33 33 _ _ _ _ (rd_L3 t440 x5_1) from ge444_0)
                clear hv444_0 ge444_0
                clear hcc444 hce444
                have HR444_0 := Aside0.mk hi444_0
                have HC444_0 := Aside0.mk hl444_0
                clear hi444_0 hl444_0
                replace p444 := eq_true p444
                replace q444 := eq_true q444
                go_wp2_with (first | (go_at_call 21; (with_reducible refine (fleuronlaw03_drawn.calls  false _ A13.out).mono ?_); rintro e w18 ⟨rfl, hb⟩; have n0_ := Aside0.mk (Kd.S_below (by (with_reducible repeat (first | apply Kd.S_alloc | apply Kd.S_drewN | apply Kd.S_drew)); exact HO_3.out) hb); have n1_ := Aside0.mk (Kd.R_below (by (with_reducible repeat (first | apply Kd.R_alloc | apply Kd.R_drewN | apply Kd.R_drew)); exact HL444_0.out) hb); have n2_ := Aside0.mk (blk_below (g := gb437) (o := .cells #[.slice A0_0 l0_0.length c0_0, .slice A0_1 l0_1.length c0_1] 25 (0, 0)) (by (with_reducible repeat (first | refine blk_drewN ?_ _ | refine blk_drew ?_ | refine blk_alloc ?_ _)); exact BK437.out) hb); have n3_ := Aside0.mk (Kd.C_below (by repeat (first | (with_reducible exact HR444_0.out) | (with_reducible refine Kd.C_alloc ?_ _) | (with_reducible refine Kd.C_drewN ?_ _) | (with_reducible refine Kd.C_drew ?_) | exact HR444_0.out)) hb); have n4_ := Aside0.mk (below_step (by repeat (first | (with_reducible first | exact HB.out | apply below_alloc | apply pw_below_drewN | apply below_drew1 | refine below_set ?_ GE437.out) | exact HB.out)) hb); clear HO_3; clear HL444_0; clear BK437; clear HR444_0; clear HB; have HO_3 := n0_; have HL444_0 := n1_; have BK437 := n2_; have HR444_0 := n3_; have HB := n4_; clear n0_ n1_ n2_ n3_ n4_; (try clear hb); (try clear hb2); (try clear hk); (try clear hi)))
                repeat (go_quiet (first | (go_at_call 21; (with_reducible refine (fleuronlaw03_drawn.calls  false _ A13.out).mono ?_); rintro e w18 ⟨rfl, hb⟩; have n0_ := Aside0.mk (Kd.S_below (by (with_reducible repeat (first | apply Kd.S_alloc | apply Kd.S_drewN | apply Kd.S_drew)); exact HO_3.out) hb); have n1_ := Aside0.mk (Kd.R_below (by (with_reducible repeat (first | apply Kd.R_alloc | apply Kd.R_drewN | apply Kd.R_drew)); exact HL444_0.out) hb); have n2_ := Aside0.mk (blk_below (g := gb437) (o := .cells #[.slice A0_0 l0_0.length c0_0, .slice A0_1 l0_1.length c0_1] 25 (0, 0)) (by (with_reducible repeat (first | refine blk_drewN ?_ _ | refine blk_drew ?_ | refine blk_alloc ?_ _)); exact BK437.out) hb); have n3_ := Aside0.mk (Kd.C_below (by repeat (first | (with_reducible exact HR444_0.out) | (with_reducible refine Kd.C_alloc ?_ _) | (with_reducible refine Kd.C_drewN ?_ _) | (with_reducible refine Kd.C_drew ?_) | exact HR444_0.out)) hb); have n4_ := Aside0.mk (below_step (by repeat (first | (with_reducible first | exact HB.out | apply below_alloc | apply pw_below_drewN | apply below_drew1 | refine below_set ?_ GE437.out) | exact HB.out)) hb); clear HO_3; clear HL444_0; clear BK437; clear HR444_0; clear HB; have HO_3 := n0_; have HL444_0 := n1_; have BK437 := n2_; have HR444_0 := n3_; have HB := n4_; clear n0_ n1_ n2_ n3_ n4_; (try clear hb); (try clear hb2); (try clear hk); (try clear hi))); try go_wp2_with (first | (go_at_call 21; (with_reducible refine (fleuronlaw03_drawn.calls  false _ A13.out).mono ?_); rintro e w18 ⟨rfl, hb⟩; have n0_ := Aside0.mk (Kd.S_below (by (with_reducible repeat (first | apply Kd.S_alloc | apply Kd.S_drewN | apply Kd.S_drew)); exact HO_3.out) hb); have n1_ := Aside0.mk (Kd.R_below (by (with_reducible repeat (first | apply Kd.R_alloc | apply Kd.R_drewN | apply Kd.R_drew)); exact HL444_0.out) hb); have n2_ := Aside0.mk (blk_below (g := gb437) (o := .cells #[.slice A0_0 l0_0.length c0_0, .slice A0_1 l0_1.length c0_1] 25 (0, 0)) (by (with_reducible repeat (first | refine blk_drewN ?_ _ | refine blk_drew ?_ | refine blk_alloc ?_ _)); exact BK437.out) hb); have n3_ := Aside0.mk (Kd.C_below (by repeat (first | (with_reducible exact HR444_0.out) | (with_reducible refine Kd.C_alloc ?_ _) | (with_reducible refine Kd.C_drewN ?_ _) | (with_reducible refine Kd.C_drew ?_) | exact HR444_0.out)) hb); have n4_ := Aside0.mk (below_step (by repeat (first | (with_reducible first | exact HB.out | apply below_alloc | apply pw_below_drewN | apply below_drew1 | refine below_set ?_ GE437.out) | exact HB.out)) hb); clear HO_3; clear HL444_0; clear BK437; clear HR444_0; clear HB; have HO_3 := n0_; have HL444_0 := n1_; have BK437 := n2_; have HR444_0 := n3_; have HB := n4_; clear n0_ n1_ n2_ n3_ n4_; (try clear hb); (try clear hb2); (try clear hk); (try clear hi))))
                go_ret
                exact ⟨by first | rfl | (simp [errW_none, errW_some] <;> rfl) | (simp [*, errW_none, errW_some] <;> rfl), by repeat (first | (with_reducible first | exact HB.out | apply below_alloc | apply pw_below_drewN | apply below_drew1 | refine below_set ?_ GE437.out) | exact HB.out)⟩
            · rw [if_neg c12] at H
              have c12b0 : (((rd_L3 t440 x5_1).length : Int) == 0) = false := beq_eq_false_iff_ne.mpr c12
              have c12b1 : (((rd_L3 t440 x5_1).length : Int) != 0) = true := bne_iff_ne.mpr c12
              have c12b2 : ¬ ((rd_L3 t440 x5_1) = []) := fun h_ => c12 (by rw [h_]; rfl)
              by_cases c19 : 0 < ((rd_L3 t440 x5_1).length : Int)
              · rw [if_pos c19] at H
                have c19b0 : decide (0 < ((rd_L3 t440 x5_1).length : Int)) = true := decide_eq_true c19
                have c19b1 : decide (0 < (rd_L3 t440 x5_1).length) = true := decide_eq_true (by omega)
                clear c19
                obtain ⟨bq20, hbq20⟩ : ∃ b_ : Bool, b_ = ((rd_T33 (rd_L3 t440 x5_1) 0).f2) := ⟨_, rfl⟩
                replace H : (if (bq20 = true) then (fleuronlaw03_OutlineBack.l0 k1 t440 t443 (wrap64 (x5_1 + 1)) l0_0 l0_1) else ((fleuronlaw03_drawn.f).bind fun t449 => (if t449 = true then (some (decide (((rd_L3 t440 x5_1).length : Int) > 0))) else (some false)))) = some r := by rw [← hbq20] at H; exact H
                have Nbq20 := Aside0.mk hbq20
                clear hbq20
                by_cases c21 : (bq20 = true)
                · subst c21
                  have H1 : (fleuronlaw03_OutlineBack.l0 k1 t440 t443 (wrap64 (x5_1 + 1)) l0_0 l0_1) = some r := by rw [if_pos rfl] at H; exact H
                  clear H
                  have H := H1
                  clear H1
                  have H' := Aside0.mk H
                  clear H
                  obtain ⟨Ao22, co22, eo22⟩ := Kd.S_slice HO_3.out
                  subst eo22
                  have p444 : 0 ≤ (x5_1 : Int) := of_decide_eq_true (by first | (with_reducible assumption) | assumption)
                  have q444 : x5_1 < (t440.length : Int) := of_decide_eq_true (by first | (with_reducible assumption) | assumption)
                  obtain ⟨ad444, A444_0, c444_0, e444, hx444_0, hl444_0, hi444_0⟩ := at_L3 (Kd.S_reads' HO_3.out).2.2 x5_1 p444 q444
                  cases e444
                  obtain ⟨ce444, hce444, hMe444, hcc444⟩ := Kd.S_get HO_3.out [] x5_1 p444 (by first | exact q444 | exact of_decide_eq_true (by first | (with_reducible assumption) | assumption) | (have e_ := (Kd.S_reads' HO_3.out).1; omega))
                  obtain ⟨ve444_0, rfl, ge444_0⟩ := hMe444
                  have hv444_0 := hcc444 0 _ rfl
                  rw [Nat.add_zero, show ((Kd.slice 33 k33)).sz = 1 from rfl, Nat.mul_one] at hv444_0
                  replace hv444_0 := Option.some.inj (hv444_0.symm.trans hx444_0)
                  rw [hv444_0] at ge444_0
                  have HL444_0 := Aside0.mk (show Kd.R k33 33 _ _ _ _ (rd_L3 t440 x5_1) from ge444_0)
                  clear hv444_0 ge444_0
                  clear hcc444 hce444
                  have HR444_0 := Aside0.mk hi444_0
                  have HC444_0 := Aside0.mk hl444_0
                  clear hi444_0 hl444_0
                  replace p444 := eq_true p444
                  replace q444 := eq_true q444
                  have p447 : 0 ≤ (x5_1 : Int) := of_decide_eq_true (by first | (with_reducible assumption) | assumption)
                  have q447 : x5_1 < (t440.length : Int) := of_decide_eq_true (by first | (with_reducible assumption) | assumption)
                  obtain ⟨ad447, A447_0, c447_0, e447, hx447_0, hl447_0, hi447_0⟩ := at_L3 (Kd.S_reads' HO_3.out).2.2 x5_1 p447 q447
                  obtain rfl : ad444 = ad447 := (by injection e447)
                  obtain ⟨ce447, hce447, hMe447, hcc447⟩ := Kd.S_get HO_3.out [] x5_1 p447 (by first | exact q447 | exact of_decide_eq_true (by first | (with_reducible assumption) | assumption) | (have e_ := (Kd.S_reads' HO_3.out).1; omega))
                  obtain ⟨ve447_0, rfl, ge447_0⟩ := hMe447
                  have hv447_0 := hcc447 0 _ rfl
                  rw [Nat.add_zero, show ((Kd.slice 33 k33)).sz = 1 from rfl, Nat.mul_one] at hv447_0
                  replace hv447_0 := Option.some.inj (hv447_0.symm.trans hx447_0)
                  rw [hv447_0] at ge447_0
                  have HL447_0 := Aside0.mk (show Kd.R k33 33 _ _ _ _ (rd_L3 t440 x5_1) from ge447_0)
                  clear hv447_0 ge447_0
                  clear hcc447 hce447
                  have HR447_0 := Aside0.mk hi447_0
                  have HC447_0 := Aside0.mk hl447_0
                  clear hi447_0 hl447_0
                  replace p447 := eq_true p447
                  replace q447 := eq_true q447
                  have ea_ := Option.some.inj (hx444_0.symm.trans hx447_0)
                  injection ea_ with ea_ en_ ec_
                  subst ea_
                  subst ec_
                  clear en_
                  have p448 : 0 ≤ (0 : Int) := (by omega)
                  have q448 : 0 < ((rd_L3 t440 x5_1).length : Int) := of_decide_eq_true (by first | (with_reducible assumption) | assumption)
                  obtain ⟨ad448, e448, hx448_0, hx448_1, hx448_2⟩ := at_T33 (by repeat (first | (with_reducible exact HR447_0.out) | (with_reducible refine Kd.C_alloc ?_ _) | (with_reducible refine Kd.C_drewN ?_ _) | (with_reducible refine Kd.C_drew ?_) | exact HR447_0.out)) 0 p448 q448
                  (try rw [← Nbq20.out] at hx448_2)
                  cases e448
                  have qi448 : (0 < (rd_L3 t440 x5_1).length) = True := eq_true (by omega)
                  (try rw [show ((0 : Int)).toNat = 0 from rfl] at hx448_0)
                  (try rw [show 0 * 3 = 0 from rfl] at hx448_0)
                  (try rw [Addr.add_zero'] at hx448_0)
                  (try rw [show ((0 : Int)).toNat = 0 from rfl] at hx448_1)
                  (try rw [show 0 * 3 = 0 from rfl] at hx448_1)
                  (try rw [Addr.add_zero'] at hx448_1)
                  (try rw [show ((0 : Int)).toNat = 0 from rfl] at hx448_2)
                  (try rw [show 0 * 3 = 0 from rfl] at hx448_2)
                  (try rw [Addr.add_zero'] at hx448_2)
                  replace p448 := eq_true p448
                  replace q448 := eq_true q448
                  go_wp2
                  repeat (go_quiet (fail); try go_wp2)
                  go_roundg k1
                  case measure => have := HK1.out; omega
                  case rel => exact ⟨(wrap64 (x5_1 + 1)), (by first | rfl | (simp; done) | (simp [*]; done)), H', ⟨by have := HK1.out; omega⟩, ⟨by (with_reducible repeat (first | apply Kd.S_alloc | apply Kd.S_drewN | apply Kd.S_drew)); exact HO_3.out⟩, ⟨by (with_reducible repeat (first | refine blk_drewN ?_ _ | refine blk_drew ?_ | refine blk_alloc ?_ _)); exact BK437.out⟩, ⟨by repeat (first | (with_reducible first | exact HB.out | apply below_alloc | apply pw_below_drewN | apply below_drew1 | refine below_set ?_ GE437.out) | exact HB.out)⟩⟩
                · replace c21 := Bool.eq_false_iff.mpr c21
                  subst c21
                  have H1 : ((fleuronlaw03_drawn.f).bind fun t449 => (if t449 = true then (some (decide (((rd_L3 t440 x5_1).length : Int) > 0))) else (some false))) = some r := by rw [if_neg (show ¬ (false = true) by decide)] at H; exact H
                  clear H
                  have H := H1
                  clear H1
                  replace H := Option.bind_eq_some_iff.mp H
                  obtain ⟨t449, A230, H⟩ := H
                  replace H : (if t449 = true then (some (decide (((rd_L3 t440 x5_1).length : Int) > 0))) else (some false)) = some r := H
                  have A23 := Aside0.mk A230
                  clear A230
                  by_cases c24 : t449 = true
                  · subst c24
                    have H1 : (some (decide (((rd_L3 t440 x5_1).length : Int) > 0))) = some r := by rw [if_pos rfl] at H; exact H
                    clear H
                    have H := H1
                    clear H1
                    obtain rfl := Option.some.inj H
                    obtain ⟨Ao25, co25, eo25⟩ := Kd.S_slice HO_3.out
                    subst eo25
                    have p444 : 0 ≤ (x5_1 : Int) := of_decide_eq_true (by first | (with_reducible assumption) | assumption)
                    have q444 : x5_1 < (t440.length : Int) := of_decide_eq_true (by first | (with_reducible assumption) | assumption)
                    obtain ⟨ad444, A444_0, c444_0, e444, hx444_0, hl444_0, hi444_0⟩ := at_L3 (Kd.S_reads' HO_3.out).2.2 x5_1 p444 q444
                    cases e444
                    obtain ⟨ce444, hce444, hMe444, hcc444⟩ := Kd.S_get HO_3.out [] x5_1 p444 (by first | exact q444 | exact of_decide_eq_true (by first | (with_reducible assumption) | assumption) | (have e_ := (Kd.S_reads' HO_3.out).1; omega))
                    obtain ⟨ve444_0, rfl, ge444_0⟩ := hMe444
                    have hv444_0 := hcc444 0 _ rfl
                    rw [Nat.add_zero, show ((Kd.slice 33 k33)).sz = 1 from rfl, Nat.mul_one] at hv444_0
                    replace hv444_0 := Option.some.inj (hv444_0.symm.trans hx444_0)
                    rw [hv444_0] at ge444_0
                    have HL444_0 := Aside0.mk (show Kd.R k33 33 _ _ _ _ (rd_L3 t440 x5_1) from ge444_0)
                    clear hv444_0 ge444_0
                    clear hcc444 hce444
                    have HR444_0 := Aside0.mk hi444_0
                    have HC444_0 := Aside0.mk hl444_0
                    clear hi444_0 hl444_0
                    replace p444 := eq_true p444
                    replace q444 := eq_true q444
                    have p447 : 0 ≤ (x5_1 : Int) := of_decide_eq_true (by first | (with_reducible assumption) | assumption)
                    have q447 : x5_1 < (t440.length : Int) := of_decide_eq_true (by first | (with_reducible assumption) | assumption)
                    obtain ⟨ad447, A447_0, c447_0, e447, hx447_0, hl447_0, hi447_0⟩ := at_L3 (Kd.S_reads' HO_3.out).2.2 x5_1 p447 q447
                    obtain rfl : ad444 = ad447 := (by injection e447)
                    obtain ⟨ce447, hce447, hMe447, hcc447⟩ := Kd.S_get HO_3.out [] x5_1 p447 (by first | exact q447 | exact of_decide_eq_true (by first | (with_reducible assumption) | assumption) | (have e_ := (Kd.S_reads' HO_3.out).1; omega))
                    obtain ⟨ve447_0, rfl, ge447_0⟩ := hMe447
                    have hv447_0 := hcc447 0 _ rfl
                    rw [Nat.add_zero, show ((Kd.slice 33 k33)).sz = 1 from rfl, Nat.mul_one] at hv447_0
                    replace hv447_0 := Option.some.inj (hv447_0.symm.trans hx447_0)
                    rw [hv447_0] at ge447_0
                    have HL447_0 := Aside0.mk (show Kd.R k33 33 _ _ _ _ (rd_L3 t440 x5_1) from ge447_0)
                    clear hv447_0 ge447_0
                    clear hcc447 hce447
                    have HR447_0 := Aside0.mk hi447_0
                    have HC447_0 := Aside0.mk hl447_0
                    clear hi447_0 hl447_0
                    replace p447 := eq_true p447
                    replace q447 := eq_true q447
                    have ea_ := Option.some.inj (hx444_0.symm.trans hx447_0)
                    injection ea_ with ea_ en_ ec_
                    subst ea_
                    subst ec_
                    clear en_
                    have p448 : 0 ≤ (0 : Int) := (by omega)
                    have q448 : 0 < ((rd_L3 t440 x5_1).length : Int) := of_decide_eq_true (by first | (with_reducible assumption) | assumption)
                    obtain ⟨ad448, e448, hx448_0, hx448_1, hx448_2⟩ := at_T33 (by repeat (first | (with_reducible exact HR447_0.out) | (with_reducible refine Kd.C_alloc ?_ _) | (with_reducible refine Kd.C_drewN ?_ _) | (with_reducible refine Kd.C_drew ?_) | exact HR447_0.out)) 0 p448 q448
                    (try rw [← Nbq20.out] at hx448_2)
                    cases e448
                    have qi448 : (0 < (rd_L3 t440 x5_1).length) = True := eq_true (by omega)
                    (try rw [show ((0 : Int)).toNat = 0 from rfl] at hx448_0)
                    (try rw [show 0 * 3 = 0 from rfl] at hx448_0)
                    (try rw [Addr.add_zero'] at hx448_0)
                    (try rw [show ((0 : Int)).toNat = 0 from rfl] at hx448_1)
                    (try rw [show 0 * 3 = 0 from rfl] at hx448_1)
                    (try rw [Addr.add_zero'] at hx448_1)
                    (try rw [show ((0 : Int)).toNat = 0 from rfl] at hx448_2)
                    (try rw [show 0 * 3 = 0 from rfl] at hx448_2)
                    (try rw [Addr.add_zero'] at hx448_2)
                    replace p448 := eq_true p448
                    replace q448 := eq_true q448
                    go_wp2_with (first | (go_at_call 21; (with_reducible refine (fleuronlaw03_drawn.calls  true _ A23.out).mono ?_); rintro e w26 ⟨rfl, hb⟩; have n0_ := Aside0.mk (Kd.S_below (by (with_reducible repeat (first | apply Kd.S_alloc | apply Kd.S_drewN | apply Kd.S_drew)); exact HO_3.out) hb); have n1_ := Aside0.mk (Kd.R_below (by (with_reducible repeat (first | apply Kd.R_alloc | apply Kd.R_drewN | apply Kd.R_drew)); exact HL444_0.out) hb); have n2_ := Aside0.mk (Kd.R_below (by (with_reducible repeat (first | apply Kd.R_alloc | apply Kd.R_drewN | apply Kd.R_drew)); exact HL447_0.out) hb); have n3_ := Aside0.mk (blk_below (g := gb437) (o := .cells #[.slice A0_0 l0_0.length c0_0, .slice A0_1 l0_1.length c0_1] 25 (0, 0)) (by (with_reducible repeat (first | refine blk_drewN ?_ _ | refine blk_drew ?_ | refine blk_alloc ?_ _)); exact BK437.out) hb); have n4_ := Aside0.mk (Kd.C_below (by repeat (first | (with_reducible exact HR444_0.out) | (with_reducible refine Kd.C_alloc ?_ _) | (with_reducible refine Kd.C_drewN ?_ _) | (with_reducible refine Kd.C_drew ?_) | exact HR444_0.out)) hb); have n5_ := Aside0.mk (Kd.C_below (by repeat (first | (with_reducible exact HR447_0.out) | (with_reducible refine Kd.C_alloc ?_ _) | (with_reducible refine Kd.C_drewN ?_ _) | (with_reducible refine Kd.C_drew ?_) | exact HR447_0.out)) hb); have n6_ := Aside0.mk (below_step (by repeat (first | (with_reducible first | exact HB.out | apply below_alloc | apply pw_below_drewN | apply below_drew1 | refine below_set ?_ GE437.out) | exact HB.out)) hb); clear HO_3; clear HL444_0; clear HL447_0; clear BK437; clear HR444_0; clear HR447_0; clear HB; have HO_3 := n0_; have HL444_0 := n1_; have HL447_0 := n2_; have BK437 := n3_; have HR444_0 := n4_; have HR447_0 := n5_; have HB := n6_; clear n0_ n1_ n2_ n3_ n4_ n5_ n6_; (try clear hb); (try clear hb2); (try clear hk); (try clear hi); have p450 : 0 ≤ (x5_1 : Int) := of_decide_eq_true (by first | (with_reducible assumption) | assumption); have q450 : x5_1 < (t440.length : Int) := of_decide_eq_true (by first | (with_reducible assumption) | assumption); obtain ⟨ad450, A450_0, c450_0, e450, hx450_0, hl450_0, hi450_0⟩ := at_L3 (Kd.S_reads' HO_3.out).2.2 x5_1 p450 q450; obtain rfl : ad444 = ad450 := (by injection e450); obtain ⟨ce450, hce450, hMe450, hcc450⟩ := Kd.S_get HO_3.out [] x5_1 p450 (by first | exact q450 | exact of_decide_eq_true (by first | (with_reducible assumption) | assumption) | (have e_ := (Kd.S_reads' HO_3.out).1; omega)); obtain ⟨ve450_0, rfl, ge450_0⟩ := hMe450; have hv450_0 := hcc450 0 _ rfl; rw [Nat.add_zero, show ((Kd.slice 33 k33)).sz = 1 from rfl, Nat.mul_one] at hv450_0; replace hv450_0 := Option.some.inj (hv450_0.symm.trans hx450_0); rw [hv450_0] at ge450_0; have HL450_0 := Aside0.mk (show Kd.R k33 33 _ _ _ _ (rd_L3 t440 x5_1) from ge450_0); clear hv450_0 ge450_0; clear hcc450 hce450; have HR450_0 := Aside0.mk hi450_0; have HC450_0 := Aside0.mk hl450_0; clear hi450_0 hl450_0; replace p450 := eq_true p450; replace q450 := eq_true q450))
                    repeat (go_quiet (first | (go_at_call 21; (with_reducible refine (fleuronlaw03_drawn.calls  true _ A23.out).mono ?_); rintro e w26 ⟨rfl, hb⟩; have n0_ := Aside0.mk (Kd.S_below (by (with_reducible repeat (first | apply Kd.S_alloc | apply Kd.S_drewN | apply Kd.S_drew)); exact HO_3.out) hb); have n1_ := Aside0.mk (Kd.R_below (by (with_reducible repeat (first | apply Kd.R_alloc | apply Kd.R_drewN | apply Kd.R_drew)); exact HL444_0.out) hb); have n2_ := Aside0.mk (Kd.R_below (by (with_reducible repeat (first | apply Kd.R_alloc | apply Kd.R_drewN | apply Kd.R_drew)); exact HL447_0.out) hb); have n3_ := Aside0.mk (blk_below (g := gb437) (o := .cells #[.slice A0_0 l0_0.length c0_0, .slice A0_1 l0_1.length c0_1] 25 (0, 0)) (by (with_reducible repeat (first | refine blk_drewN ?_ _ | refine blk_drew ?_ | refine blk_alloc ?_ _)); exact BK437.out) hb); have n4_ := Aside0.mk (Kd.C_below (by repeat (first | (with_reducible exact HR444_0.out) | (with_reducible refine Kd.C_alloc ?_ _) | (with_reducible refine Kd.C_drewN ?_ _) | (with_reducible refine Kd.C_drew ?_) | exact HR444_0.out)) hb); have n5_ := Aside0.mk (Kd.C_below (by repeat (first | (with_reducible exact HR447_0.out) | (with_reducible refine Kd.C_alloc ?_ _) | (with_reducible refine Kd.C_drewN ?_ _) | (with_reducible refine Kd.C_drew ?_) | exact HR447_0.out)) hb); have n6_ := Aside0.mk (below_step (by repeat (first | (with_reducible first | exact HB.out | apply below_alloc | apply pw_below_drewN | apply below_drew1 | refine below_set ?_ GE437.out) | exact HB.out)) hb); clear HO_3; clear HL444_0; clear HL447_0; clear BK437; clear HR444_0; clear HR447_0; clear HB; have HO_3 := n0_; have HL444_0 := n1_; have HL447_0 := n2_; have BK437 := n3_; have HR444_0 := n4_; have HR447_0 := n5_; have HB := n6_; clear n0_ n1_ n2_ n3_ n4_ n5_ n6_; (try clear hb); (try clear hb2); (try clear hk); (try clear hi); have p450 : 0 ≤ (x5_1 : Int) := of_decide_eq_true (by first | (with_reducible assumption) | assumption); have q450 : x5_1 < (t440.length : Int) := of_decide_eq_true (by first | (with_reducible assumption) | assumption); obtain ⟨ad450, A450_0, c450_0, e450, hx450_0, hl450_0, hi450_0⟩ := at_L3 (Kd.S_reads' HO_3.out).2.2 x5_1 p450 q450; obtain rfl : ad444 = ad450 := (by injection e450); obtain ⟨ce450, hce450, hMe450, hcc450⟩ := Kd.S_get HO_3.out [] x5_1 p450 (by first | exact q450 | exact of_decide_eq_true (by first | (with_reducible assumption) | assumption) | (have e_ := (Kd.S_reads' HO_3.out).1; omega)); obtain ⟨ve450_0, rfl, ge450_0⟩ := hMe450; have hv450_0 := hcc450 0 _ rfl; rw [Nat.add_zero, show ((Kd.slice 33 k33)).sz = 1 from rfl, Nat.mul_one] at hv450_0; replace hv450_0 := Option.some.inj (hv450_0.symm.trans hx450_0); rw [hv450_0] at ge450_0; have HL450_0 := Aside0.mk (show Kd.R k33 33 _ _ _ _ (rd_L3 t440 x5_1) from ge450_0); clear hv450_0 ge450_0; clear hcc450 hce450; have HR450_0 := Aside0.mk hi450_0; have HC450_0 := Aside0.mk hl450_0; clear hi450_0 hl450_0; replace p450 := eq_true p450; replace q450 := eq_true q450)); try go_wp2_with (first | (go_at_call 21; (with_reducible refine (fleuronlaw03_drawn.calls  true _ A23.out).mono ?_); rintro e w26 ⟨rfl, hb⟩; have n0_ := Aside0.mk (Kd.S_below (by (with_reducible repeat (first | apply Kd.S_alloc | apply Kd.S_drewN | apply Kd.S_drew)); exact HO_3.out) hb); have n1_ := Aside0.mk (Kd.R_below (by (with_reducible repeat (first | apply Kd.R_alloc | apply Kd.R_drewN | apply Kd.R_drew)); exact HL444_0.out) hb); have n2_ := Aside0.mk (Kd.R_below (by (with_reducible repeat (first | apply Kd.R_alloc | apply Kd.R_drewN | apply Kd.R_drew)); exact HL447_0.out) hb); have n3_ := Aside0.mk (blk_below (g := gb437) (o := .cells #[.slice A0_0 l0_0.length c0_0, .slice A0_1 l0_1.length c0_1] 25 (0, 0)) (by (with_reducible repeat (first | refine blk_drewN ?_ _ | refine blk_drew ?_ | refine blk_alloc ?_ _)); exact BK437.out) hb); have n4_ := Aside0.mk (Kd.C_below (by repeat (first | (with_reducible exact HR444_0.out) | (with_reducible refine Kd.C_alloc ?_ _) | (with_reducible refine Kd.C_drewN ?_ _) | (with_reducible refine Kd.C_drew ?_) | exact HR444_0.out)) hb); have n5_ := Aside0.mk (Kd.C_below (by repeat (first | (with_reducible exact HR447_0.out) | (with_reducible refine Kd.C_alloc ?_ _) | (with_reducible refine Kd.C_drewN ?_ _) | (with_reducible refine Kd.C_drew ?_) | exact HR447_0.out)) hb); have n6_ := Aside0.mk (below_step (by repeat (first | (with_reducible first | exact HB.out | apply below_alloc | apply pw_below_drewN | apply below_drew1 | refine below_set ?_ GE437.out) | exact HB.out)) hb); clear HO_3; clear HL444_0; clear HL447_0; clear BK437; clear HR444_0; clear HR447_0; clear HB; have HO_3 := n0_; have HL444_0 := n1_; have HL447_0 := n2_; have BK437 := n3_; have HR444_0 := n4_; have HR447_0 := n5_; have HB := n6_; clear n0_ n1_ n2_ n3_ n4_ n5_ n6_; (try clear hb); (try clear hb2); (try clear hk); (try clear hi); have p450 : 0 ≤ (x5_1 : Int) := of_decide_eq_true (by first | (with_reducible assumption) | assumption); have q450 : x5_1 < (t440.length : Int) := of_decide_eq_true (by first | (with_reducible assumption) | assumption); obtain ⟨ad450, A450_0, c450_0, e450, hx450_0, hl450_0, hi450_0⟩ := at_L3 (Kd.S_reads' HO_3.out).2.2 x5_1 p450 q450; obtain rfl : ad444 = ad450 := (by injection e450); obtain ⟨ce450, hce450, hMe450, hcc450⟩ := Kd.S_get HO_3.out [] x5_1 p450 (by first | exact q450 | exact of_decide_eq_true (by first | (with_reducible assumption) | assumption) | (have e_ := (Kd.S_reads' HO_3.out).1; omega)); obtain ⟨ve450_0, rfl, ge450_0⟩ := hMe450; have hv450_0 := hcc450 0 _ rfl; rw [Nat.add_zero, show ((Kd.slice 33 k33)).sz = 1 from rfl, Nat.mul_one] at hv450_0; replace hv450_0 := Option.some.inj (hv450_0.symm.trans hx450_0); rw [hv450_0] at ge450_0; have HL450_0 := Aside0.mk (show Kd.R k33 33 _ _ _ _ (rd_L3 t440 x5_1) from ge450_0); clear hv450_0 ge450_0; clear hcc450 hce450; have HR450_0 := Aside0.mk hi450_0; have HC450_0 := Aside0.mk hl450_0; clear hi450_0 hl450_0; replace p450 := eq_true p450; replace q450 := eq_true q450)))
                    go_ret
                    exact ⟨by first | rfl | (simp [errW_none, errW_some] <;> rfl) | (simp [*, errW_none, errW_some] <;> rfl), by repeat (first | (with_reducible first | exact HB.out | apply below_alloc | apply pw_below_drewN | apply below_drew1 | refine below_set ?_ GE437.out) | exact HB.out)⟩
                  · replace c24 := Bool.eq_false_iff.mpr c24
                    subst c24
                    have H1 : (some false) = some r := by rw [if_neg (show ¬ (false = true) by decide)] at H; exact H
                    clear H
                    have H := H1
                    clear H1
                    obtain rfl := Option.some.inj H
                    obtain ⟨Ao27, co27, eo27⟩ := Kd.S_slice HO_3.out
                    subst eo27
                    have p444 : 0 ≤ (x5_1 : Int) := of_decide_eq_true (by first | (with_reducible assumption) | assumption)
                    have q444 : x5_1 < (t440.length : Int) := of_decide_eq_true (by first | (with_reducible assumption) | assumption)
                    obtain ⟨ad444, A444_0, c444_0, e444, hx444_0, hl444_0, hi444_0⟩ := at_L3 (Kd.S_reads' HO_3.out).2.2 x5_1 p444 q444
                    cases e444
                    obtain ⟨ce444, hce444, hMe444, hcc444⟩ := Kd.S_get HO_3.out [] x5_1 p444 (by first | exact q444 | exact of_decide_eq_true (by first | (with_reducible assumption) | assumption) | (have e_ := (Kd.S_reads' HO_3.out).1; omega))
                    obtain ⟨ve444_0, rfl, ge444_0⟩ := hMe444
                    have hv444_0 := hcc444 0 _ rfl
                    rw [Nat.add_zero, show ((Kd.slice 33 k33)).sz = 1 from rfl, Nat.mul_one] at hv444_0
                    replace hv444_0 := Option.some.inj (hv444_0.symm.trans hx444_0)
                    rw [hv444_0] at ge444_0
                    have HL444_0 := Aside0.mk (show Kd.R k33 33 _ _ _ _ (rd_L3 t440 x5_1) from ge444_0)
                    clear hv444_0 ge444_0
                    clear hcc444 hce444
                    have HR444_0 := Aside0.mk hi444_0
                    have HC444_0 := Aside0.mk hl444_0
                    clear hi444_0 hl444_0
                    replace p444 := eq_true p444
                    replace q444 := eq_true q444
                    have p447 : 0 ≤ (x5_1 : Int) := of_decide_eq_true (by first | (with_reducible assumption) | assumption)
                    have q447 : x5_1 < (t440.length : Int) := of_decide_eq_true (by first | (with_reducible assumption) | assumption)
                    obtain ⟨ad447, A447_0, c447_0, e447, hx447_0, hl447_0, hi447_0⟩ := at_L3 (Kd.S_reads' HO_3.out).2.2 x5_1 p447 q447
                    obtain rfl : ad444 = ad447 := (by injection e447)
                    obtain ⟨ce447, hce447, hMe447, hcc447⟩ := Kd.S_get HO_3.out [] x5_1 p447 (by first | exact q447 | exact of_decide_eq_true (by first | (with_reducible assumption) | assumption) | (have e_ := (Kd.S_reads' HO_3.out).1; omega))
                    obtain ⟨ve447_0, rfl, ge447_0⟩ := hMe447
                    have hv447_0 := hcc447 0 _ rfl
                    rw [Nat.add_zero, show ((Kd.slice 33 k33)).sz = 1 from rfl, Nat.mul_one] at hv447_0
                    replace hv447_0 := Option.some.inj (hv447_0.symm.trans hx447_0)
                    rw [hv447_0] at ge447_0
                    have HL447_0 := Aside0.mk (show Kd.R k33 33 _ _ _ _ (rd_L3 t440 x5_1) from ge447_0)
                    clear hv447_0 ge447_0
                    clear hcc447 hce447
                    have HR447_0 := Aside0.mk hi447_0
                    have HC447_0 := Aside0.mk hl447_0
                    clear hi447_0 hl447_0
                    replace p447 := eq_true p447
                    replace q447 := eq_true q447
                    have ea_ := Option.some.inj (hx444_0.symm.trans hx447_0)
                    injection ea_ with ea_ en_ ec_
                    subst ea_
                    subst ec_
                    clear en_
                    have p448 : 0 ≤ (0 : Int) := (by omega)
                    have q448 : 0 < ((rd_L3 t440 x5_1).length : Int) := of_decide_eq_true (by first | (with_reducible assumption) | assumption)
                    obtain ⟨ad448, e448, hx448_0, hx448_1, hx448_2⟩ := at_T33 (by repeat (first | (with_reducible exact HR447_0.out) | (with_reducible refine Kd.C_alloc ?_ _) | (with_reducible refine Kd.C_drewN ?_ _) | (with_reducible refine Kd.C_drew ?_) | exact HR447_0.out)) 0 p448 q448
                    (try rw [← Nbq20.out] at hx448_2)
                    cases e448
                    have qi448 : (0 < (rd_L3 t440 x5_1).length) = True := eq_true (by omega)
                    (try rw [show ((0 : Int)).toNat = 0 from rfl] at hx448_0)
                    (try rw [show 0 * 3 = 0 from rfl] at hx448_0)
                    (try rw [Addr.add_zero'] at hx448_0)
                    (try rw [show ((0 : Int)).toNat = 0 from rfl] at hx448_1)
                    (try rw [show 0 * 3 = 0 from rfl] at hx448_1)
                    (try rw [Addr.add_zero'] at hx448_1)
                    (try rw [show ((0 : Int)).toNat = 0 from rfl] at hx448_2)
                    (try rw [show 0 * 3 = 0 from rfl] at hx448_2)
                    (try rw [Addr.add_zero'] at hx448_2)
                    replace p448 := eq_true p448
                    replace q448 := eq_true q448
                    go_wp2_with (first | (go_at_call 21; (with_reducible refine (fleuronlaw03_drawn.calls  false _ A23.out).mono ?_); rintro e w28 ⟨rfl, hb⟩; have n0_ := Aside0.mk (Kd.S_below (by (with_reducible repeat (first | apply Kd.S_alloc | apply Kd.S_drewN | apply Kd.S_drew)); exact HO_3.out) hb); have n1_ := Aside0.mk (Kd.R_below (by (with_reducible repeat (first | apply Kd.R_alloc | apply Kd.R_drewN | apply Kd.R_drew)); exact HL444_0.out) hb); have n2_ := Aside0.mk (Kd.R_below (by (with_reducible repeat (first | apply Kd.R_alloc | apply Kd.R_drewN | apply Kd.R_drew)); exact HL447_0.out) hb); have n3_ := Aside0.mk (blk_below (g := gb437) (o := .cells #[.slice A0_0 l0_0.length c0_0, .slice A0_1 l0_1.length c0_1] 25 (0, 0)) (by (with_reducible repeat (first | refine blk_drewN ?_ _ | refine blk_drew ?_ | refine blk_alloc ?_ _)); exact BK437.out) hb); have n4_ := Aside0.mk (Kd.C_below (by repeat (first | (with_reducible exact HR444_0.out) | (with_reducible refine Kd.C_alloc ?_ _) | (with_reducible refine Kd.C_drewN ?_ _) | (with_reducible refine Kd.C_drew ?_) | exact HR444_0.out)) hb); have n5_ := Aside0.mk (Kd.C_below (by repeat (first | (with_reducible exact HR447_0.out) | (with_reducible refine Kd.C_alloc ?_ _) | (with_reducible refine Kd.C_drewN ?_ _) | (with_reducible refine Kd.C_drew ?_) | exact HR447_0.out)) hb); have n6_ := Aside0.mk (below_step (by repeat (first | (with_reducible first | exact HB.out | apply below_alloc | apply pw_below_drewN | apply below_drew1 | refine below_set ?_ GE437.out) | exact HB.out)) hb); clear HO_3; clear HL444_0; clear HL447_0; clear BK437; clear HR444_0; clear HR447_0; clear HB; have HO_3 := n0_; have HL444_0 := n1_; have HL447_0 := n2_; have BK437 := n3_; have HR444_0 := n4_; have HR447_0 := n5_; have HB := n6_; clear n0_ n1_ n2_ n3_ n4_ n5_ n6_; (try clear hb); (try clear hb2); (try clear hk); (try clear hi)))
                    repeat (go_quiet (first | (go_at_call 21; (with_reducible refine (fleuronlaw03_drawn.calls  false _ A23.out).mono ?_); rintro e w28 ⟨rfl, hb⟩; have n0_ := Aside0.mk (Kd.S_below (by (with_reducible repeat (first | apply Kd.S_alloc | apply Kd.S_drewN | apply Kd.S_drew)); exact HO_3.out) hb); have n1_ := Aside0.mk (Kd.R_below (by (with_reducible repeat (first | apply Kd.R_alloc | apply Kd.R_drewN | apply Kd.R_drew)); exact HL444_0.out) hb); have n2_ := Aside0.mk (Kd.R_below (by (with_reducible repeat (first | apply Kd.R_alloc | apply Kd.R_drewN | apply Kd.R_drew)); exact HL447_0.out) hb); have n3_ := Aside0.mk (blk_below (g := gb437) (o := .cells #[.slice A0_0 l0_0.length c0_0, .slice A0_1 l0_1.length c0_1] 25 (0, 0)) (by (with_reducible repeat (first | refine blk_drewN ?_ _ | refine blk_drew ?_ | refine blk_alloc ?_ _)); exact BK437.out) hb); have n4_ := Aside0.mk (Kd.C_below (by repeat (first | (with_reducible exact HR444_0.out) | (with_reducible refine Kd.C_alloc ?_ _) | (with_reducible refine Kd.C_drewN ?_ _) | (with_reducible refine Kd.C_drew ?_) | exact HR444_0.out)) hb); have n5_ := Aside0.mk (Kd.C_below (by repeat (first | (with_reducible exact HR447_0.out) | (with_reducible refine Kd.C_alloc ?_ _) | (with_reducible refine Kd.C_drewN ?_ _) | (with_reducible refine Kd.C_drew ?_) | exact HR447_0.out)) hb); have n6_ := Aside0.mk (below_step (by repeat (first | (with_reducible first | exact HB.out | apply below_alloc | apply pw_below_drewN | apply below_drew1 | refine below_set ?_ GE437.out) | exact HB.out)) hb); clear HO_3; clear HL444_0; clear HL447_0; clear BK437; clear HR444_0; clear HR447_0; clear HB; have HO_3 := n0_; have HL444_0 := n1_; have HL447_0 := n2_; have BK437 := n3_; have HR444_0 := n4_; have HR447_0 := n5_; have HB := n6_; clear n0_ n1_ n2_ n3_ n4_ n5_ n6_; (try clear hb); (try clear hb2); (try clear hk); (try clear hi))); try go_wp2_with (first | (go_at_call 21; (with_reducible refine (fleuronlaw03_drawn.calls  false _ A23.out).mono ?_); rintro e w28 ⟨rfl, hb⟩; have n0_ := Aside0.mk (Kd.S_below (by (with_reducible repeat (first | apply Kd.S_alloc | apply Kd.S_drewN | apply Kd.S_drew)); exact HO_3.out) hb); have n1_ := Aside0.mk (Kd.R_below (by (with_reducible repeat (first | apply Kd.R_alloc | apply Kd.R_drewN | apply Kd.R_drew)); exact HL444_0.out) hb); have n2_ := Aside0.mk (Kd.R_below (by (with_reducible repeat (first | apply Kd.R_alloc | apply Kd.R_drewN | apply Kd.R_drew)); exact HL447_0.out) hb); have n3_ := Aside0.mk (blk_below (g := gb437) (o := .cells #[.slice A0_0 l0_0.length c0_0, .slice A0_1 l0_1.length c0_1] 25 (0, 0)) (by (with_reducible repeat (first | refine blk_drewN ?_ _ | refine blk_drew ?_ | refine blk_alloc ?_ _)); exact BK437.out) hb); have n4_ := Aside0.mk (Kd.C_below (by repeat (first | (with_reducible exact HR444_0.out) | (with_reducible refine Kd.C_alloc ?_ _) | (with_reducible refine Kd.C_drewN ?_ _) | (with_reducible refine Kd.C_drew ?_) | exact HR444_0.out)) hb); have n5_ := Aside0.mk (Kd.C_below (by repeat (first | (with_reducible exact HR447_0.out) | (with_reducible refine Kd.C_alloc ?_ _) | (with_reducible refine Kd.C_drewN ?_ _) | (with_reducible refine Kd.C_drew ?_) | exact HR447_0.out)) hb); have n6_ := Aside0.mk (below_step (by repeat (first | (with_reducible first | exact HB.out | apply below_alloc | apply pw_below_drewN | apply below_drew1 | refine below_set ?_ GE437.out) | exact HB.out)) hb); clear HO_3; clear HL444_0; clear HL447_0; clear BK437; clear HR444_0; clear HR447_0; clear HB; have HO_3 := n0_; have HL444_0 := n1_; have HL447_0 := n2_; have BK437 := n3_; have HR444_0 := n4_; have HR447_0 := n5_; have HB := n6_; clear n0_ n1_ n2_ n3_ n4_ n5_ n6_; (try clear hb); (try clear hb2); (try clear hk); (try clear hi))))
                    go_ret
                    exact ⟨by first | rfl | (simp [errW_none, errW_some] <;> rfl) | (simp [*, errW_none, errW_some] <;> rfl), by repeat (first | (with_reducible first | exact HB.out | apply below_alloc | apply pw_below_drewN | apply below_drew1 | refine below_set ?_ GE437.out) | exact HB.out)⟩
              · rw [if_neg c19] at H
                exact absurd H (by simp)
          · rw [if_neg c11] at H
            exact absurd H (by simp)
        · rw [if_neg c10] at H
          have c10b0 : decide (x5_1 < (t440.length : Int)) = false := decide_eq_false c10
          clear c10
          replace H := Option.bind_eq_some_iff.mp H
          obtain ⟨⟨t451, t454⟩, A290, H⟩ := H
          replace H : ((outline_Reversed.f l0_0 l0_1).bind fun bt457 => ((fleuronlaw03_grid.f k1 bt457.1 bt457.2 0 0).bind fun bt463 => ((outline_Lines.f t451 t454 l0_1).bind fun t469 => ((outline_Lines.f bt463.1 bt463.2 l0_1).bind fun t472 => (if t443 = true then (if (t469.length : Int) = (t472.length : Int) then (fleuronlaw03_OutlineBack.j1 k1 t469 t472 ((t469.length : Int) != (l0_1.length : Int))) else (fleuronlaw03_OutlineBack.j1 k1 t469 t472 true)) else (fleuronlaw03_OutlineBack.j1 k1 t469 t472 true)))))) = some r := H
          have A29 := Aside0.mk A290
          clear A290
          replace H := Option.bind_eq_some_iff.mp H
          obtain ⟨⟨t457, t460⟩, A300, H⟩ := H
          replace H : ((fleuronlaw03_grid.f k1 t457 t460 0 0).bind fun bt463 => ((outline_Lines.f t451 t454 l0_1).bind fun t469 => ((outline_Lines.f bt463.1 bt463.2 l0_1).bind fun t472 => (if t443 = true then (if (t469.length : Int) = (t472.length : Int) then (fleuronlaw03_OutlineBack.j1 k1 t469 t472 ((t469.length : Int) != (l0_1.length : Int))) else (fleuronlaw03_OutlineBack.j1 k1 t469 t472 true)) else (fleuronlaw03_OutlineBack.j1 k1 t469 t472 true))))) = some r := H
          have A30 := Aside0.mk A300
          clear A300
          replace H := Option.bind_eq_some_iff.mp H
          obtain ⟨⟨t463, t466⟩, A310, H⟩ := H
          replace H : ((outline_Lines.f t451 t454 l0_1).bind fun t469 => ((outline_Lines.f t463 t466 l0_1).bind fun t472 => (if t443 = true then (if (t469.length : Int) = (t472.length : Int) then (fleuronlaw03_OutlineBack.j1 k1 t469 t472 ((t469.length : Int) != (l0_1.length : Int))) else (fleuronlaw03_OutlineBack.j1 k1 t469 t472 true)) else (fleuronlaw03_OutlineBack.j1 k1 t469 t472 true)))) = some r := H
          have A31 := Aside0.mk A310
          clear A310
          replace H := Option.bind_eq_some_iff.mp H
          obtain ⟨t469, A320, H⟩ := H
          replace H : ((outline_Lines.f t463 t466 l0_1).bind fun t472 => (if t443 = true then (if (t469.length : Int) = (t472.length : Int) then (fleuronlaw03_OutlineBack.j1 k1 t469 t472 ((t469.length : Int) != (l0_1.length : Int))) else (fleuronlaw03_OutlineBack.j1 k1 t469 t472 true)) else (fleuronlaw03_OutlineBack.j1 k1 t469 t472 true))) = some r := H
          have A32 := Aside0.mk A320
          clear A320
          replace H := Option.bind_eq_some_iff.mp H
          obtain ⟨t472, A330, H⟩ := H
          replace H : (if t443 = true then (if (t469.length : Int) = (t472.length : Int) then (fleuronlaw03_OutlineBack.j1 k1 t469 t472 ((t469.length : Int) != (l0_1.length : Int))) else (fleuronlaw03_OutlineBack.j1 k1 t469 t472 true)) else (fleuronlaw03_OutlineBack.j1 k1 t469 t472 true)) = some r := H
          have A33 := Aside0.mk A330
          clear A330
          have HC34 := Aside0.mk H
          clear H
          obtain ⟨Ao35, co35, eo35⟩ := Kd.S_slice HO_3.out
          subst eo35
          have hcz36_0 : wr.cell? ⟨gb437, 0, none⟩ = some (.slice A0_0 l0_0.length c0_0) := (blk_cell BK437.out 0).trans rfl
          have hcz36_1 : wr.cell? ⟨gb437, 1, none⟩ = some (.slice A0_1 l0_1.length c0_1) := (blk_cell BK437.out 1).trans rfl
          have hfz36_0 := blk_frozen BK437.out 0
          have hfz36_1 := blk_frozen BK437.out 1
          go_upto_region 13 with (first | (go_at_call 34; (with_reducible refine (fleuronlaw03_grid.calls k1 _ _ l0_0 _ _ l0_1 0 0 t451 t454 _ ?side1 ?side2 ?side3 ?side4 A29.out).mono ?_); (case side1 => repeat (first | exact (Kd.C_below HR0_0.out HB.out) | (with_reducible refine Kd.C_alloc ?_ _) | (with_reducible refine Kd.C_drewN ?_ _) | (with_reducible refine Kd.C_drew ?_))); (case side2 => exact HC0_0.out); (case side3 => repeat (first | exact (Kd.C_below HR0_1.out HB.out) | (with_reducible refine Kd.C_alloc ?_ _) | (with_reducible refine Kd.C_drewN ?_ _) | (with_reducible refine Kd.C_drew ?_))); (case side4 => exact HC0_1.out); rintro e w37 ⟨v452, v455, rfl, ho0, ho1, hb⟩; have n0_ := Aside0.mk (Kd.S_below (by (with_reducible repeat (first | apply Kd.S_alloc | apply Kd.S_drewN | apply Kd.S_drew)); exact HO_3.out) hb); have n1_ := Aside0.mk (Kd.R_lower ho0 (below_size (by repeat (first | (with_reducible first | exact HB.out | apply below_alloc | apply pw_below_drewN | apply below_drew1 | refine below_set ?_ GE437.out) | exact HB.out)))); have n2_ := Aside0.mk (Kd.R_lower ho1 (below_size (by repeat (first | (with_reducible first | exact HB.out | apply below_alloc | apply pw_below_drewN | apply below_drew1 | refine below_set ?_ GE437.out) | exact HB.out)))); have n3_ := Aside0.mk (blk_below (g := gb437) (o := .cells #[.slice A0_0 l0_0.length c0_0, .slice A0_1 l0_1.length c0_1] 25 (0, 0)) (by (with_reducible repeat (first | refine blk_drewN ?_ _ | refine blk_drew ?_ | refine blk_alloc ?_ _)); exact BK437.out) hb); have n4_ := Aside0.mk (below_step (by repeat (first | (with_reducible first | exact HB.out | apply below_alloc | apply pw_below_drewN | apply below_drew1 | refine below_set ?_ GE437.out) | exact HB.out)) hb); clear HO_3; clear BK437; clear HB; have HO_3 := n0_; have HO453 := n1_; have HO456 := n2_; have BK437 := n3_; have HB := n4_; clear n0_ n1_ n2_ n3_ n4_; (try clear hb); (try clear hb2); (try clear hk); (try clear hi); (try clear ho0); (try clear ho1); have hcz38_0 : w37.cell? ⟨gb437, 0, none⟩ = some (.slice A0_0 l0_0.length c0_0) := (blk_cell BK437.out 0).trans rfl; have hcz38_1 : w37.cell? ⟨gb437, 1, none⟩ = some (.slice A0_1 l0_1.length c0_1) := (blk_cell BK437.out 1).trans rfl; have hfz38_0 := blk_frozen BK437.out 0; have hfz38_1 := blk_frozen BK437.out 1) | (go_at_call 29; (with_reducible refine (outline_Reversed.calls _ _ l0_0 _ _ l0_1 t457 t460 _ ?side1 ?side2 ?side3 ?side4 A30.out).mono ?_); (case side1 => repeat (first | exact (Kd.C_below HR0_0.out HB.out) | (with_reducible refine Kd.C_alloc ?_ _) | (with_reducible refine Kd.C_drewN ?_ _) | (with_reducible refine Kd.C_drew ?_))); (case side2 => exact HC0_0.out); (case side3 => repeat (first | exact (Kd.C_below HR0_1.out HB.out) | (with_reducible refine Kd.C_alloc ?_ _) | (with_reducible refine Kd.C_drewN ?_ _) | (with_reducible refine Kd.C_drew ?_))); (case side4 => exact HC0_1.out); rintro e w39 ⟨v458, v461, rfl, ho0, ho1, hb⟩; have n0_ := Aside0.mk (Kd.S_elder' (by (with_reducible repeat (first | apply Kd.S_alloc | apply Kd.S_drewN | apply Kd.S_drew)); exact HO_3.out) (Kd.R_base ho0) hb); have n1_ := Aside0.mk (Kd.R_below (by (with_reducible repeat (first | apply Kd.R_alloc | apply Kd.R_drewN | apply Kd.R_drew)); exact HO453.out) hb); have n2_ := Aside0.mk (Kd.R_below (by (with_reducible repeat (first | apply Kd.R_alloc | apply Kd.R_drewN | apply Kd.R_drew)); exact HO456.out) hb); have n3_ := Aside0.mk (Kd.R_lower ho0 (below_size (by repeat (first | (with_reducible first | exact HB.out | apply below_alloc | apply pw_below_drewN | apply below_drew1 | refine below_set ?_ GE437.out) | exact HB.out)))); have n4_ := Aside0.mk (Kd.R_lower ho1 (below_size (by repeat (first | (with_reducible first | exact HB.out | apply below_alloc | apply pw_below_drewN | apply below_drew1 | refine below_set ?_ GE437.out) | exact HB.out)))); have n5_ := Aside0.mk (blk_below (g := gb437) (o := .cells #[.slice A0_0 l0_0.length c0_0, .slice A0_1 l0_1.length c0_1] 25 (0, 0)) (by (with_reducible repeat (first | refine blk_drewN ?_ _ | refine blk_drew ?_ | refine blk_alloc ?_ _)); exact BK437.out) hb); have n6_ := Aside0.mk (below_step (by repeat (first | (with_reducible first | exact HB.out | apply below_alloc | apply pw_below_drewN | apply below_drew1 | refine below_set ?_ GE437.out) | exact HB.out)) hb); clear HO_3; clear HO453; clear HO456; clear BK437; clear HB; have HO_3 := n0_; have HO453 := n1_; have HO456 := n2_; have HO459 := n3_; have HO462 := n4_; have BK437 := n5_; have HB := n6_; clear n0_ n1_ n2_ n3_ n4_ n5_ n6_; (try clear hb); (try clear hb2); (try clear hk); (try clear hi); (try clear ho0); (try clear ho1); obtain ⟨Ao40, co40, eo40⟩ := Kd.R_slice HO459.out; subst eo40; obtain ⟨Ao41, co41, eo41⟩ := Kd.R_slice HO462.out; subst eo41) | (go_at_call 34; (with_reducible refine (fleuronlaw03_grid.calls k1 _ _ t457 _ _ t460 0 0 t463 t466 _ ?side1 ?side2 ?side3 ?side4 A31.out).mono ?_); (case side1 => repeat (first | exact (Kd.R_reads' HO459.out).2.2 | (with_reducible refine Kd.C_alloc ?_ _) | (with_reducible refine Kd.C_drewN ?_ _) | (with_reducible refine Kd.C_drew ?_))); (case side2 => exact (Kd.R_reads' HO459.out).2.1); (case side3 => repeat (first | exact (Kd.R_reads' HO462.out).2.2 | (with_reducible refine Kd.C_alloc ?_ _) | (with_reducible refine Kd.C_drewN ?_ _) | (with_reducible refine Kd.C_drew ?_))); (case side4 => exact (Kd.R_reads' HO462.out).2.1); rintro e w42 ⟨v464, v467, rfl, ho0, ho1, hb⟩; have n0_ := Aside0.mk (Kd.S_below (by (with_reducible repeat (first | apply Kd.S_alloc | apply Kd.S_drewN | apply Kd.S_drew)); exact HO_3.out) hb); have n1_ := Aside0.mk (Kd.R_elder' (by (with_reducible repeat (first | apply Kd.R_alloc | apply Kd.R_drewN | apply Kd.R_drew)); exact HO453.out) (Kd.R_base ho0) hb); have n2_ := Aside0.mk (Kd.R_elder' (by (with_reducible repeat (first | apply Kd.R_alloc | apply Kd.R_drewN | apply Kd.R_drew)); exact HO456.out) (Kd.R_base ho1) hb); have n3_ := Aside0.mk (Kd.R_below (by (with_reducible repeat (first | apply Kd.R_alloc | apply Kd.R_drewN | apply Kd.R_drew)); exact HO459.out) hb); have n4_ := Aside0.mk (Kd.R_below (by (with_reducible repeat (first | apply Kd.R_alloc | apply Kd.R_drewN | apply Kd.R_drew)); exact HO462.out) hb); have n5_ := Aside0.mk (Kd.R_lower (Kd.R_new' ho0 (Kd.R_lt (by (with_reducible repeat (first | apply Kd.R_alloc | apply Kd.R_drewN | apply Kd.R_drew)); exact HO453.out))) (below_size (by repeat (first | (with_reducible first | exact HB.out | apply below_alloc | apply pw_below_drewN | apply below_drew1 | refine below_set ?_ GE437.out) | exact HB.out)))); have n6_ := Aside0.mk (Kd.R_lower (Kd.R_new' ho1 (Kd.R_lt (by (with_reducible repeat (first | apply Kd.R_alloc | apply Kd.R_drewN | apply Kd.R_drew)); exact HO456.out))) (below_size (by repeat (first | (with_reducible first | exact HB.out | apply below_alloc | apply pw_below_drewN | apply below_drew1 | refine below_set ?_ GE437.out) | exact HB.out)))); have n7_ := Aside0.mk (blk_below (g := gb437) (o := .cells #[.slice A0_0 l0_0.length c0_0, .slice A0_1 l0_1.length c0_1] 25 (0, 0)) (by (with_reducible repeat (first | refine blk_drewN ?_ _ | refine blk_drew ?_ | refine blk_alloc ?_ _)); exact BK437.out) hb); have n8_ := Aside0.mk (below_step (by repeat (first | (with_reducible first | exact HB.out | apply below_alloc | apply pw_below_drewN | apply below_drew1 | refine below_set ?_ GE437.out) | exact HB.out)) hb); clear HO_3; clear HO453; clear HO456; clear HO459; clear HO462; clear BK437; clear HB; have HO_3 := n0_; have HO453 := n1_; have HO456 := n2_; have HO459 := n3_; have HO462 := n4_; have HO465 := n5_; have HO468 := n6_; have BK437 := n7_; have HB := n8_; clear n0_ n1_ n2_ n3_ n4_ n5_ n6_ n7_ n8_; (try clear hb); (try clear hb2); (try clear hk); (try clear hi); (try clear ho0); (try clear ho1); have hcz43_0 : w42.cell? ⟨gb437, 0, none⟩ = some (.slice A0_0 l0_0.length c0_0) := (blk_cell BK437.out 0).trans rfl; have hcz43_1 : w42.cell? ⟨gb437, 1, none⟩ = some (.slice A0_1 l0_1.length c0_1) := (blk_cell BK437.out 1).trans rfl; have hfz43_0 := blk_frozen BK437.out 0; have hfz43_1 := blk_frozen BK437.out 1; obtain ⟨Ao44, co44, eo44⟩ := Kd.R_slice HO453.out; subst eo44; obtain ⟨Ao45, co45, eo45⟩ := Kd.R_slice HO456.out; subst eo45) | (go_at_call 32; (with_reducible refine (outline_Lines.calls _ _ t451 _ _ t454 _ _ l0_1 t469 _ ?side1 ?side2 ?side3 ?side4 ?side5 ?side6 A32.out).mono ?_); (case side1 => repeat (first | exact (Kd.R_reads' HO453.out).2.2 | (with_reducible refine Kd.C_alloc ?_ _) | (with_reducible refine Kd.C_drewN ?_ _) | (with_reducible refine Kd.C_drew ?_))); (case side2 => exact (Kd.R_reads' HO453.out).2.1); (case side3 => repeat (first | exact (Kd.R_reads' HO456.out).2.2 | (with_reducible refine Kd.C_alloc ?_ _) | (with_reducible refine Kd.C_drewN ?_ _) | (with_reducible refine Kd.C_drew ?_))); (case side4 => exact (Kd.R_reads' HO456.out).2.1); (case side5 => repeat (first | exact (Kd.C_below HR0_1.out HB.out) | (with_reducible refine Kd.C_alloc ?_ _) | (with_reducible refine Kd.C_drewN ?_ _) | (with_reducible refine Kd.C_drew ?_))); (case side6 => exact HC0_1.out); rintro e w46 ⟨v470, rfl, ho0, hb⟩; have n0_ := Aside0.mk (Kd.S_below (by (with_reducible repeat (first | apply Kd.S_alloc | apply Kd.S_drewN | apply Kd.S_drew)); exact HO_3.out) hb); have n1_ := Aside0.mk (Kd.R_below (by (with_reducible repeat (first | apply Kd.R_alloc | apply Kd.R_drewN | apply Kd.R_drew)); exact HO453.out) hb); have n2_ := Aside0.mk (Kd.R_below (by (with_reducible repeat (first | apply Kd.R_alloc | apply Kd.R_drewN | apply Kd.R_drew)); exact HO456.out) hb); have n3_ := Aside0.mk (Kd.R_below (by (with_reducible repeat (first | apply Kd.R_alloc | apply Kd.R_drewN | apply Kd.R_drew)); exact HO459.out) hb); have n4_ := Aside0.mk (Kd.R_below (by (with_reducible repeat (first | apply Kd.R_alloc | apply Kd.R_drewN | apply Kd.R_drew)); exact HO462.out) hb); have n5_ := Aside0.mk (Kd.R_below (by (with_reducible repeat (first | apply Kd.R_alloc | apply Kd.R_drewN | apply Kd.R_drew)); exact HO465.out) hb); have n6_ := Aside0.mk (Kd.R_below (by (with_reducible repeat (first | apply Kd.R_alloc | apply Kd.R_drewN | apply Kd.R_drew)); exact HO468.out) hb); have n7_ := Aside0.mk (Kd.S_lower (Kd.S_new' (Kd.S_new' ho0 (Kd.R_lt (by (with_reducible repeat (first | apply Kd.R_alloc | apply Kd.R_drewN | apply Kd.R_drew)); exact HO453.out))) (Kd.R_lt (by (with_reducible repeat (first | apply Kd.R_alloc | apply Kd.R_drewN | apply Kd.R_drew)); exact HO465.out))) (below_size (by repeat (first | (with_reducible first | exact HB.out | apply below_alloc | apply pw_below_drewN | apply below_drew1 | refine below_set ?_ GE437.out) | exact HB.out)))); have n8_ := Aside0.mk (blk_below (g := gb437) (o := .cells #[.slice A0_0 l0_0.length c0_0, .slice A0_1 l0_1.length c0_1] 25 (0, 0)) (by (with_reducible repeat (first | refine blk_drewN ?_ _ | refine blk_drew ?_ | refine blk_alloc ?_ _)); exact BK437.out) hb); have n9_ := Aside0.mk (below_step (by repeat (first | (with_reducible first | exact HB.out | apply below_alloc | apply pw_below_drewN | apply below_drew1 | refine below_set ?_ GE437.out) | exact HB.out)) hb); clear HO_3; clear HO453; clear HO456; clear HO459; clear HO462; clear HO465; clear HO468; clear BK437; clear HB; have HO_3 := n0_; have HO453 := n1_; have HO456 := n2_; have HO459 := n3_; have HO462 := n4_; have HO465 := n5_; have HO468 := n6_; have HO471 := n7_; have BK437 := n8_; have HB := n9_; clear n0_ n1_ n2_ n3_ n4_ n5_ n6_ n7_ n8_ n9_; (try clear hb); (try clear hb2); (try clear hk); (try clear hi); (try clear ho0); have hcz47_0 : w46.cell? ⟨gb437, 0, none⟩ = some (.slice A0_0 l0_0.length c0_0) := (blk_cell BK437.out 0).trans rfl; have hcz47_1 : w46.cell? ⟨gb437, 1, none⟩ = some (.slice A0_1 l0_1.length c0_1) := (blk_cell BK437.out 1).trans rfl; have hfz47_0 := blk_frozen BK437.out 0; have hfz47_1 := blk_frozen BK437.out 1; obtain ⟨Ao48, co48, eo48⟩ := Kd.R_slice HO465.out; subst eo48; obtain ⟨Ao49, co49, eo49⟩ := Kd.R_slice HO468.out; subst eo49) | (go_at_call 32; (with_reducible refine (outline_Lines.calls _ _ t463 _ _ t466 _ _ l0_1 t472 _ ?side1 ?side2 ?side3 ?side4 ?side5 ?side6 A33.out).mono ?_); (case side1 => repeat (first | exact (Kd.R_reads' HO465.out).2.2 | (with_reducible refine Kd.C_alloc ?_ _) | (with_reducible refine Kd.C_drewN ?_ _) | (with_reducible refine Kd.C_drew ?_))); (case side2 => exact (Kd.R_reads' HO465.out).2.1); (case side3 => repeat (first | exact (Kd.R_reads' HO468.out).2.2 | (with_reducible refine Kd.C_alloc ?_ _) | (with_reducible refine Kd.C_drewN ?_ _) | (with_reducible refine Kd.C_drew ?_))); (case side4 => exact (Kd.R_reads' HO468.out).2.1); (case side5 => repeat (first | exact (Kd.C_below HR0_1.out HB.out) | (with_reducible refine Kd.C_alloc ?_ _) | (with_reducible refine Kd.C_drewN ?_ _) | (with_reducible refine Kd.C_drew ?_))); (case side6 => exact HC0_1.out); rintro e w50 ⟨v473, rfl, ho0, hb⟩; have n0_ := Aside0.mk (Kd.S_below (by (with_reducible repeat (first | apply Kd.S_alloc | apply Kd.S_drewN | apply Kd.S_drew)); exact HO_3.out) hb); have n1_ := Aside0.mk (Kd.R_below (by (with_reducible repeat (first | apply Kd.R_alloc | apply Kd.R_drewN | apply Kd.R_drew)); exact HO453.out) hb); have n2_ := Aside0.mk (Kd.R_below (by (with_reducible repeat (first | apply Kd.R_alloc | apply Kd.R_drewN | apply Kd.R_drew)); exact HO456.out) hb); have n3_ := Aside0.mk (Kd.R_below (by (with_reducible repeat (first | apply Kd.R_alloc | apply Kd.R_drewN | apply Kd.R_drew)); exact HO459.out) hb); have n4_ := Aside0.mk (Kd.R_below (by (with_reducible repeat (first | apply Kd.R_alloc | apply Kd.R_drewN | apply Kd.R_drew)); exact HO462.out) hb); have n5_ := Aside0.mk (Kd.R_below (by (with_reducible repeat (first | apply Kd.R_alloc | apply Kd.R_drewN | apply Kd.R_drew)); exact HO465.out) hb); have n6_ := Aside0.mk (Kd.R_below (by (with_reducible repeat (first | apply Kd.R_alloc | apply Kd.R_drewN | apply Kd.R_drew)); exact HO468.out) hb); have n7_ := Aside0.mk (Kd.S_elder' (by (with_reducible repeat (first | apply Kd.S_alloc | apply Kd.S_drewN | apply Kd.S_drew)); exact HO471.out) (Kd.S_base ho0) hb); have n8_ := Aside0.mk (Kd.S_lower (Kd.S_new' (Kd.S_new' (Kd.S_new' ho0 (Kd.R_lt (by (with_reducible repeat (first | apply Kd.R_alloc | apply Kd.R_drewN | apply Kd.R_drew)); exact HO453.out))) (Kd.R_lt (by (with_reducible repeat (first | apply Kd.R_alloc | apply Kd.R_drewN | apply Kd.R_drew)); exact HO465.out))) (Kd.S_lt (by (with_reducible repeat (first | apply Kd.S_alloc | apply Kd.S_drewN | apply Kd.S_drew)); exact HO471.out))) (below_size (by repeat (first | (with_reducible first | exact HB.out | apply below_alloc | apply pw_below_drewN | apply below_drew1 | refine below_set ?_ GE437.out) | exact HB.out)))); have n9_ := Aside0.mk (blk_below (g := gb437) (o := .cells #[.slice A0_0 l0_0.length c0_0, .slice A0_1 l0_1.length c0_1] 25 (0, 0)) (by (with_reducible repeat (first | refine blk_drewN ?_ _ | refine blk_drew ?_ | refine blk_alloc ?_ _)); exact BK437.out) hb); have n10_ := Aside0.mk (below_step (by repeat (first | (with_reducible first | exact HB.out | apply below_alloc | apply pw_below_drewN | apply below_drew1 | refine below_set ?_ GE437.out) | exact HB.out)) hb); clear HO_3; clear HO453; clear HO456; clear HO459; clear HO462; clear HO465; clear HO468; clear HO471; clear BK437; clear HB; have HO_3 := n0_; have HO453 := n1_; have HO456 := n2_; have HO459 := n3_; have HO462 := n4_; have HO465 := n5_; have HO468 := n6_; have HO471 := n7_; have HO474 := n8_; have BK437 := n9_; have HB := n10_; clear n0_ n1_ n2_ n3_ n4_ n5_ n6_ n7_ n8_ n9_ n10_; (try clear hb); (try clear hb2); (try clear hk); (try clear hi); (try clear ho0)))
          repeat (go_quiet (first | (go_at_call 34; (with_reducible refine (fleuronlaw03_grid.calls k1 _ _ l0_0 _ _ l0_1 0 0 t451 t454 _ ?side1 ?side2 ?side3 ?side4 A29.out).mono ?_); (case side1 => repeat (first | exact (Kd.C_below HR0_0.out HB.out) | (with_reducible refine Kd.C_alloc ?_ _) | (with_reducible refine Kd.C_drewN ?_ _) | (with_reducible refine Kd.C_drew ?_))); (case side2 => exact HC0_0.out); (case side3 => repeat (first | exact (Kd.C_below HR0_1.out HB.out) | (with_reducible refine Kd.C_alloc ?_ _) | (with_reducible refine Kd.C_drewN ?_ _) | (with_reducible refine Kd.C_drew ?_))); (case side4 => exact HC0_1.out); rintro e w37 ⟨v452, v455, rfl, ho0, ho1, hb⟩; have n0_ := Aside0.mk (Kd.S_below (by (with_reducible repeat (first | apply Kd.S_alloc | apply Kd.S_drewN | apply Kd.S_drew)); exact HO_3.out) hb); have n1_ := Aside0.mk (Kd.R_lower ho0 (below_size (by repeat (first | (with_reducible first | exact HB.out | apply below_alloc | apply pw_below_drewN | apply below_drew1 | refine below_set ?_ GE437.out) | exact HB.out)))); have n2_ := Aside0.mk (Kd.R_lower ho1 (below_size (by repeat (first | (with_reducible first | exact HB.out | apply below_alloc | apply pw_below_drewN | apply below_drew1 | refine below_set ?_ GE437.out) | exact HB.out)))); have n3_ := Aside0.mk (blk_below (g := gb437) (o := .cells #[.slice A0_0 l0_0.length c0_0, .slice A0_1 l0_1.length c0_1] 25 (0, 0)) (by (with_reducible repeat (first | refine blk_drewN ?_ _ | refine blk_drew ?_ | refine blk_alloc ?_ _)); exact BK437.out) hb); have n4_ := Aside0.mk (below_step (by repeat (first | (with_reducible first | exact HB.out | apply below_alloc | apply pw_below_drewN | apply below_drew1 | refine below_set ?_ GE437.out) | exact HB.out)) hb); clear HO_3; clear BK437; clear HB; have HO_3 := n0_; have HO453 := n1_; have HO456 := n2_; have BK437 := n3_; have HB := n4_; clear n0_ n1_ n2_ n3_ n4_; (try clear hb); (try clear hb2); (try clear hk); (try clear hi); (try clear ho0); (try clear ho1); have hcz38_0 : w37.cell? ⟨gb437, 0, none⟩ = some (.slice A0_0 l0_0.length c0_0) := (blk_cell BK437.out 0).trans rfl; have hcz38_1 : w37.cell? ⟨gb437, 1, none⟩ = some (.slice A0_1 l0_1.length c0_1) := (blk_cell BK437.out 1).trans rfl; have hfz38_0 := blk_frozen BK437.out 0; have hfz38_1 := blk_frozen BK437.out 1) | (go_at_call 29; (with_reducible refine (outline_Reversed.calls _ _ l0_0 _ _ l0_1 t457 t460 _ ?side1 ?side2 ?side3 ?side4 A30.out).mono ?_); (case side1 => repeat (first | exact (Kd.C_below HR0_0.out HB.out) | (with_reducible refine Kd.C_alloc ?_ _) | (with_reducible refine Kd.C_drewN ?_ _) | (with_reducible refine Kd.C_drew ?_))); (case side2 => exact HC0_0.out); (case side3 => repeat (first | exact (Kd.C_below HR0_1.out HB.out) | (with_reducible refine Kd.C_alloc ?_ _) | (with_reducible refine Kd.C_drewN ?_ _) | (with_reducible refine Kd.C_drew ?_))); (case side4 => exact HC0_1.out); rintro e w39 ⟨v458, v461, rfl, ho0, ho1, hb⟩; have n0_ := Aside0.mk (Kd.S_elder' (by (with_reducible repeat (first | apply Kd.S_alloc | apply Kd.S_drewN | apply Kd.S_drew)); exact HO_3.out) (Kd.R_base ho0) hb); have n1_ := Aside0.mk (Kd.R_below (by (with_reducible repeat (first | apply Kd.R_alloc | apply Kd.R_drewN | apply Kd.R_drew)); exact HO453.out) hb); have n2_ := Aside0.mk (Kd.R_below (by (with_reducible repeat (first | apply Kd.R_alloc | apply Kd.R_drewN | apply Kd.R_drew)); exact HO456.out) hb); have n3_ := Aside0.mk (Kd.R_lower ho0 (below_size (by repeat (first | (with_reducible first | exact HB.out | apply below_alloc | apply pw_below_drewN | apply below_drew1 | refine below_set ?_ GE437.out) | exact HB.out)))); have n4_ := Aside0.mk (Kd.R_lower ho1 (below_size (by repeat (first | (with_reducible first | exact HB.out | apply below_alloc | apply pw_below_drewN | apply below_drew1 | refine below_set ?_ GE437.out) | exact HB.out)))); have n5_ := Aside0.mk (blk_below (g := gb437) (o := .cells #[.slice A0_0 l0_0.length c0_0, .slice A0_1 l0_1.length c0_1] 25 (0, 0)) (by (with_reducible repeat (first | refine blk_drewN ?_ _ | refine blk_drew ?_ | refine blk_alloc ?_ _)); exact BK437.out) hb); have n6_ := Aside0.mk (below_step (by repeat (first | (with_reducible first | exact HB.out | apply below_alloc | apply pw_below_drewN | apply below_drew1 | refine below_set ?_ GE437.out) | exact HB.out)) hb); clear HO_3; clear HO453; clear HO456; clear BK437; clear HB; have HO_3 := n0_; have HO453 := n1_; have HO456 := n2_; have HO459 := n3_; have HO462 := n4_; have BK437 := n5_; have HB := n6_; clear n0_ n1_ n2_ n3_ n4_ n5_ n6_; (try clear hb); (try clear hb2); (try clear hk); (try clear hi); (try clear ho0); (try clear ho1); obtain ⟨Ao40, co40, eo40⟩ := Kd.R_slice HO459.out; subst eo40; obtain ⟨Ao41, co41, eo41⟩ := Kd.R_slice HO462.out; subst eo41) | (go_at_call 34; (with_reducible refine (fleuronlaw03_grid.calls k1 _ _ t457 _ _ t460 0 0 t463 t466 _ ?side1 ?side2 ?side3 ?side4 A31.out).mono ?_); (case side1 => repeat (first | exact (Kd.R_reads' HO459.out).2.2 | (with_reducible refine Kd.C_alloc ?_ _) | (with_reducible refine Kd.C_drewN ?_ _) | (with_reducible refine Kd.C_drew ?_))); (case side2 => exact (Kd.R_reads' HO459.out).2.1); (case side3 => repeat (first | exact (Kd.R_reads' HO462.out).2.2 | (with_reducible refine Kd.C_alloc ?_ _) | (with_reducible refine Kd.C_drewN ?_ _) | (with_reducible refine Kd.C_drew ?_))); (case side4 => exact (Kd.R_reads' HO462.out).2.1); rintro e w42 ⟨v464, v467, rfl, ho0, ho1, hb⟩; have n0_ := Aside0.mk (Kd.S_below (by (with_reducible repeat (first | apply Kd.S_alloc | apply Kd.S_drewN | apply Kd.S_drew)); exact HO_3.out) hb); have n1_ := Aside0.mk (Kd.R_elder' (by (with_reducible repeat (first | apply Kd.R_alloc | apply Kd.R_drewN | apply Kd.R_drew)); exact HO453.out) (Kd.R_base ho0) hb); have n2_ := Aside0.mk (Kd.R_elder' (by (with_reducible repeat (first | apply Kd.R_alloc | apply Kd.R_drewN | apply Kd.R_drew)); exact HO456.out) (Kd.R_base ho1) hb); have n3_ := Aside0.mk (Kd.R_below (by (with_reducible repeat (first | apply Kd.R_alloc | apply Kd.R_drewN | apply Kd.R_drew)); exact HO459.out) hb); have n4_ := Aside0.mk (Kd.R_below (by (with_reducible repeat (first | apply Kd.R_alloc | apply Kd.R_drewN | apply Kd.R_drew)); exact HO462.out) hb); have n5_ := Aside0.mk (Kd.R_lower (Kd.R_new' ho0 (Kd.R_lt (by (with_reducible repeat (first | apply Kd.R_alloc | apply Kd.R_drewN | apply Kd.R_drew)); exact HO453.out))) (below_size (by repeat (first | (with_reducible first | exact HB.out | apply below_alloc | apply pw_below_drewN | apply below_drew1 | refine below_set ?_ GE437.out) | exact HB.out)))); have n6_ := Aside0.mk (Kd.R_lower (Kd.R_new' ho1 (Kd.R_lt (by (with_reducible repeat (first | apply Kd.R_alloc | apply Kd.R_drewN | apply Kd.R_drew)); exact HO456.out))) (below_size (by repeat (first | (with_reducible first | exact HB.out | apply below_alloc | apply pw_below_drewN | apply below_drew1 | refine below_set ?_ GE437.out) | exact HB.out)))); have n7_ := Aside0.mk (blk_below (g := gb437) (o := .cells #[.slice A0_0 l0_0.length c0_0, .slice A0_1 l0_1.length c0_1] 25 (0, 0)) (by (with_reducible repeat (first | refine blk_drewN ?_ _ | refine blk_drew ?_ | refine blk_alloc ?_ _)); exact BK437.out) hb); have n8_ := Aside0.mk (below_step (by repeat (first | (with_reducible first | exact HB.out | apply below_alloc | apply pw_below_drewN | apply below_drew1 | refine below_set ?_ GE437.out) | exact HB.out)) hb); clear HO_3; clear HO453; clear HO456; clear HO459; clear HO462; clear BK437; clear HB; have HO_3 := n0_; have HO453 := n1_; have HO456 := n2_; have HO459 := n3_; have HO462 := n4_; have HO465 := n5_; have HO468 := n6_; have BK437 := n7_; have HB := n8_; clear n0_ n1_ n2_ n3_ n4_ n5_ n6_ n7_ n8_; (try clear hb); (try clear hb2); (try clear hk); (try clear hi); (try clear ho0); (try clear ho1); have hcz43_0 : w42.cell? ⟨gb437, 0, none⟩ = some (.slice A0_0 l0_0.length c0_0) := (blk_cell BK437.out 0).trans rfl; have hcz43_1 : w42.cell? ⟨gb437, 1, none⟩ = some (.slice A0_1 l0_1.length c0_1) := (blk_cell BK437.out 1).trans rfl; have hfz43_0 := blk_frozen BK437.out 0; have hfz43_1 := blk_frozen BK437.out 1; obtain ⟨Ao44, co44, eo44⟩ := Kd.R_slice HO453.out; subst eo44; obtain ⟨Ao45, co45, eo45⟩ := Kd.R_slice HO456.out; subst eo45) | (go_at_call 32; (with_reducible refine (outline_Lines.calls _ _ t451 _ _ t454 _ _ l0_1 t469 _ ?side1 ?side2 ?side3 ?side4 ?side5 ?side6 A32.out).mono ?_); (case side1 => repeat (first | exact (Kd.R_reads' HO453.out).2.2 | (with_reducible refine Kd.C_alloc ?_ _) | (with_reducible refine Kd.C_drewN ?_ _) | (with_reducible refine Kd.C_drew ?_))); (case side2 => exact (Kd.R_reads' HO453.out).2.1); (case side3 => repeat (first | exact (Kd.R_reads' HO456.out).2.2 | (with_reducible refine Kd.C_alloc ?_ _) | (with_reducible refine Kd.C_drewN ?_ _) | (with_reducible refine Kd.C_drew ?_))); (case side4 => exact (Kd.R_reads' HO456.out).2.1); (case side5 => repeat (first | exact (Kd.C_below HR0_1.out HB.out) | (with_reducible refine Kd.C_alloc ?_ _) | (with_reducible refine Kd.C_drewN ?_ _) | (with_reducible refine Kd.C_drew ?_))); (case side6 => exact HC0_1.out); rintro e w46 ⟨v470, rfl, ho0, hb⟩; have n0_ := Aside0.mk (Kd.S_below (by (with_reducible repeat (first | apply Kd.S_alloc | apply Kd.S_drewN | apply Kd.S_drew)); exact HO_3.out) hb); have n1_ := Aside0.mk (Kd.R_below (by (with_reducible repeat (first | apply Kd.R_alloc | apply Kd.R_drewN | apply Kd.R_drew)); exact HO453.out) hb); have n2_ := Aside0.mk (Kd.R_below (by (with_reducible repeat (first | apply Kd.R_alloc | apply Kd.R_drewN | apply Kd.R_drew)); exact HO456.out) hb); have n3_ := Aside0.mk (Kd.R_below (by (with_reducible repeat (first | apply Kd.R_alloc | apply Kd.R_drewN | apply Kd.R_drew)); exact HO459.out) hb); have n4_ := Aside0.mk (Kd.R_below (by (with_reducible repeat (first | apply Kd.R_alloc | apply Kd.R_drewN | apply Kd.R_drew)); exact HO462.out) hb); have n5_ := Aside0.mk (Kd.R_below (by (with_reducible repeat (first | apply Kd.R_alloc | apply Kd.R_drewN | apply Kd.R_drew)); exact HO465.out) hb); have n6_ := Aside0.mk (Kd.R_below (by (with_reducible repeat (first | apply Kd.R_alloc | apply Kd.R_drewN | apply Kd.R_drew)); exact HO468.out) hb); have n7_ := Aside0.mk (Kd.S_lower (Kd.S_new' (Kd.S_new' ho0 (Kd.R_lt (by (with_reducible repeat (first | apply Kd.R_alloc | apply Kd.R_drewN | apply Kd.R_drew)); exact HO453.out))) (Kd.R_lt (by (with_reducible repeat (first | apply Kd.R_alloc | apply Kd.R_drewN | apply Kd.R_drew)); exact HO465.out))) (below_size (by repeat (first | (with_reducible first | exact HB.out | apply below_alloc | apply pw_below_drewN | apply below_drew1 | refine below_set ?_ GE437.out) | exact HB.out)))); have n8_ := Aside0.mk (blk_below (g := gb437) (o := .cells #[.slice A0_0 l0_0.length c0_0, .slice A0_1 l0_1.length c0_1] 25 (0, 0)) (by (with_reducible repeat (first | refine blk_drewN ?_ _ | refine blk_drew ?_ | refine blk_alloc ?_ _)); exact BK437.out) hb); have n9_ := Aside0.mk (below_step (by repeat (first | (with_reducible first | exact HB.out | apply below_alloc | apply pw_below_drewN | apply below_drew1 | refine below_set ?_ GE437.out) | exact HB.out)) hb); clear HO_3; clear HO453; clear HO456; clear HO459; clear HO462; clear HO465; clear HO468; clear BK437; clear HB; have HO_3 := n0_; have HO453 := n1_; have HO456 := n2_; have HO459 := n3_; have HO462 := n4_; have HO465 := n5_; have HO468 := n6_; have HO471 := n7_; have BK437 := n8_; have HB := n9_; clear n0_ n1_ n2_ n3_ n4_ n5_ n6_ n7_ n8_ n9_; (try clear hb); (try clear hb2); (try clear hk); (try clear hi); (try clear ho0); have hcz47_0 : w46.cell? ⟨gb437, 0, none⟩ = some (.slice A0_0 l0_0.length c0_0) := (blk_cell BK437.out 0).trans rfl; have hcz47_1 : w46.cell? ⟨gb437, 1, none⟩ = some (.slice A0_1 l0_1.length c0_1) := (blk_cell BK437.out 1).trans rfl; have hfz47_0 := blk_frozen BK437.out 0; have hfz47_1 := blk_frozen BK437.out 1; obtain ⟨Ao48, co48, eo48⟩ := Kd.R_slice HO465.out; subst eo48; obtain ⟨Ao49, co49, eo49⟩ := Kd.R_slice HO468.out; subst eo49) | (go_at_call 32; (with_reducible refine (outline_Lines.calls _ _ t463 _ _ t466 _ _ l0_1 t472 _ ?side1 ?side2 ?side3 ?side4 ?side5 ?side6 A33.out).mono ?_); (case side1 => repeat (first | exact (Kd.R_reads' HO465.out).2.2 | (with_reducible refine Kd.C_alloc ?_ _) | (with_reducible refine Kd.C_drewN ?_ _) | (with_reducible refine Kd.C_drew ?_))); (case side2 => exact (Kd.R_reads' HO465.out).2.1); (case side3 => repeat (first | exact (Kd.R_reads' HO468.out).2.2 | (with_reducible refine Kd.C_alloc ?_ _) | (with_reducible refine Kd.C_drewN ?_ _) | (with_reducible refine Kd.C_drew ?_))); (case side4 => exact (Kd.R_reads' HO468.out).2.1); (case side5 => repeat (first | exact (Kd.C_below HR0_1.out HB.out) | (with_reducible refine Kd.C_alloc ?_ _) | (with_reducible refine Kd.C_drewN ?_ _) | (with_reducible refine Kd.C_drew ?_))); (case side6 => exact HC0_1.out); rintro e w50 ⟨v473, rfl, ho0, hb⟩; have n0_ := Aside0.mk (Kd.S_below (by (with_reducible repeat (first | apply Kd.S_alloc | apply Kd.S_drewN | apply Kd.S_drew)); exact HO_3.out) hb); have n1_ := Aside0.mk (Kd.R_below (by (with_reducible repeat (first | apply Kd.R_alloc | apply Kd.R_drewN | apply Kd.R_drew)); exact HO453.out) hb); have n2_ := Aside0.mk (Kd.R_below (by (with_reducible repeat (first | apply Kd.R_alloc | apply Kd.R_drewN | apply Kd.R_drew)); exact HO456.out) hb); have n3_ := Aside0.mk (Kd.R_below (by (with_reducible repeat (first | apply Kd.R_alloc | apply Kd.R_drewN | apply Kd.R_drew)); exact HO459.out) hb); have n4_ := Aside0.mk (Kd.R_below (by (with_reducible repeat (first | apply Kd.R_alloc | apply Kd.R_drewN | apply Kd.R_drew)); exact HO462.out) hb); have n5_ := Aside0.mk (Kd.R_below (by (with_reducible repeat (first | apply Kd.R_alloc | apply Kd.R_drewN | apply Kd.R_drew)); exact HO465.out) hb); have n6_ := Aside0.mk (Kd.R_below (by (with_reducible repeat (first | apply Kd.R_alloc | apply Kd.R_drewN | apply Kd.R_drew)); exact HO468.out) hb); have n7_ := Aside0.mk (Kd.S_elder' (by (with_reducible repeat (first | apply Kd.S_alloc | apply Kd.S_drewN | apply Kd.S_drew)); exact HO471.out) (Kd.S_base ho0) hb); have n8_ := Aside0.mk (Kd.S_lower (Kd.S_new' (Kd.S_new' (Kd.S_new' ho0 (Kd.R_lt (by (with_reducible repeat (first | apply Kd.R_alloc | apply Kd.R_drewN | apply Kd.R_drew)); exact HO453.out))) (Kd.R_lt (by (with_reducible repeat (first | apply Kd.R_alloc | apply Kd.R_drewN | apply Kd.R_drew)); exact HO465.out))) (Kd.S_lt (by (with_reducible repeat (first | apply Kd.S_alloc | apply Kd.S_drewN | apply Kd.S_drew)); exact HO471.out))) (below_size (by repeat (first | (with_reducible first | exact HB.out | apply below_alloc | apply pw_below_drewN | apply below_drew1 | refine below_set ?_ GE437.out) | exact HB.out)))); have n9_ := Aside0.mk (blk_below (g := gb437) (o := .cells #[.slice A0_0 l0_0.length c0_0, .slice A0_1 l0_1.length c0_1] 25 (0, 0)) (by (with_reducible repeat (first | refine blk_drewN ?_ _ | refine blk_drew ?_ | refine blk_alloc ?_ _)); exact BK437.out) hb); have n10_ := Aside0.mk (below_step (by repeat (first | (with_reducible first | exact HB.out | apply below_alloc | apply pw_below_drewN | apply below_drew1 | refine below_set ?_ GE437.out) | exact HB.out)) hb); clear HO_3; clear HO453; clear HO456; clear HO459; clear HO462; clear HO465; clear HO468; clear HO471; clear BK437; clear HB; have HO_3 := n0_; have HO453 := n1_; have HO456 := n2_; have HO459 := n3_; have HO462 := n4_; have HO465 := n5_; have HO468 := n6_; have HO471 := n7_; have HO474 := n8_; have BK437 := n9_; have HB := n10_; clear n0_ n1_ n2_ n3_ n4_ n5_ n6_ n7_ n8_ n9_ n10_; (try clear hb); (try clear hb2); (try clear hk); (try clear hi); (try clear ho0))); go_upto_region 13 with (first | (go_at_call 34; (with_reducible refine (fleuronlaw03_grid.calls k1 _ _ l0_0 _ _ l0_1 0 0 t451 t454 _ ?side1 ?side2 ?side3 ?side4 A29.out).mono ?_); (case side1 => repeat (first | exact (Kd.C_below HR0_0.out HB.out) | (with_reducible refine Kd.C_alloc ?_ _) | (with_reducible refine Kd.C_drewN ?_ _) | (with_reducible refine Kd.C_drew ?_))); (case side2 => exact HC0_0.out); (case side3 => repeat (first | exact (Kd.C_below HR0_1.out HB.out) | (with_reducible refine Kd.C_alloc ?_ _) | (with_reducible refine Kd.C_drewN ?_ _) | (with_reducible refine Kd.C_drew ?_))); (case side4 => exact HC0_1.out); rintro e w37 ⟨v452, v455, rfl, ho0, ho1, hb⟩; have n0_ := Aside0.mk (Kd.S_below (by (with_reducible repeat (first | apply Kd.S_alloc | apply Kd.S_drewN | apply Kd.S_drew)); exact HO_3.out) hb); have n1_ := Aside0.mk (Kd.R_lower ho0 (below_size (by repeat (first | (with_reducible first | exact HB.out | apply below_alloc | apply pw_below_drewN | apply below_drew1 | refine below_set ?_ GE437.out) | exact HB.out)))); have n2_ := Aside0.mk (Kd.R_lower ho1 (below_size (by repeat (first | (with_reducible first | exact HB.out | apply below_alloc | apply pw_below_drewN | apply below_drew1 | refine below_set ?_ GE437.out) | exact HB.out)))); have n3_ := Aside0.mk (blk_below (g := gb437) (o := .cells #[.slice A0_0 l0_0.length c0_0, .slice A0_1 l0_1.length c0_1] 25 (0, 0)) (by (with_reducible repeat (first | refine blk_drewN ?_ _ | refine blk_drew ?_ | refine blk_alloc ?_ _)); exact BK437.out) hb); have n4_ := Aside0.mk (below_step (by repeat (first | (with_reducible first | exact HB.out | apply below_alloc | apply pw_below_drewN | apply below_drew1 | refine below_set ?_ GE437.out) | exact HB.out)) hb); clear HO_3; clear BK437; clear HB; have HO_3 := n0_; have HO453 := n1_; have HO456 := n2_; have BK437 := n3_; have HB := n4_; clear n0_ n1_ n2_ n3_ n4_; (try clear hb); (try clear hb2); (try clear hk); (try clear hi); (try clear ho0); (try clear ho1); have hcz38_0 : w37.cell? ⟨gb437, 0, none⟩ = some (.slice A0_0 l0_0.length c0_0) := (blk_cell BK437.out 0).trans rfl; have hcz38_1 : w37.cell? ⟨gb437, 1, none⟩ = some (.slice A0_1 l0_1.length c0_1) := (blk_cell BK437.out 1).trans rfl; have hfz38_0 := blk_frozen BK437.out 0; have hfz38_1 := blk_frozen BK437.out 1) | (go_at_call 29; (with_reducible refine (outline_Reversed.calls _ _ l0_0 _ _ l0_1 t457 t460 _ ?side1 ?side2 ?side3 ?side4 A30.out).mono ?_); (case side1 => repeat (first | exact (Kd.C_below HR0_0.out HB.out) | (with_reducible refine Kd.C_alloc ?_ _) | (with_reducible refine Kd.C_drewN ?_ _) | (with_reducible refine Kd.C_drew ?_))); (case side2 => exact HC0_0.out); (case side3 => repeat (first | exact (Kd.C_below HR0_1.out HB.out) | (with_reducible refine Kd.C_alloc ?_ _) | (with_reducible refine Kd.C_drewN ?_ _) | (with_reducible refine Kd.C_drew ?_))); (case side4 => exact HC0_1.out); rintro e w39 ⟨v458, v461, rfl, ho0, ho1, hb⟩; have n0_ := Aside0.mk (Kd.S_elder' (by (with_reducible repeat (first | apply Kd.S_alloc | apply Kd.S_drewN | apply Kd.S_drew)); exact HO_3.out) (Kd.R_base ho0) hb); have n1_ := Aside0.mk (Kd.R_below (by (with_reducible repeat (first | apply Kd.R_alloc | apply Kd.R_drewN | apply Kd.R_drew)); exact HO453.out) hb); have n2_ := Aside0.mk (Kd.R_below (by (with_reducible repeat (first | apply Kd.R_alloc | apply Kd.R_drewN | apply Kd.R_drew)); exact HO456.out) hb); have n3_ := Aside0.mk (Kd.R_lower ho0 (below_size (by repeat (first | (with_reducible first | exact HB.out | apply below_alloc | apply pw_below_drewN | apply below_drew1 | refine below_set ?_ GE437.out) | exact HB.out)))); have n4_ := Aside0.mk (Kd.R_lower ho1 (below_size (by repeat (first | (with_reducible first | exact HB.out | apply below_alloc | apply pw_below_drewN | apply below_drew1 | refine below_set ?_ GE437.out) | exact HB.out)))); have n5_ := Aside0.mk (blk_below (g := gb437) (o := .cells #[.slice A0_0 l0_0.length c0_0, .slice A0_1 l0_1.length c0_1] 25 (0, 0)) (by (with_reducible repeat (first | refine blk_drewN ?_ _ | refine blk_drew ?_ | refine blk_alloc ?_ _)); exact BK437.out) hb); have n6_ := Aside0.mk (below_step (by repeat (first | (with_reducible first | exact HB.out | apply below_alloc | apply pw_below_drewN | apply below_drew1 | refine below_set ?_ GE437.out) | exact HB.out)) hb); clear HO_3; clear HO453; clear HO456; clear BK437; clear HB; have HO_3 := n0_; have HO453 := n1_; have HO456 := n2_; have HO459 := n3_; have HO462 := n4_; have BK437 := n5_; have HB := n6_; clear n0_ n1_ n2_ n3_ n4_ n5_ n6_; (try clear hb); (try clear hb2); (try clear hk); (try clear hi); (try clear ho0); (try clear ho1); obtain ⟨Ao40, co40, eo40⟩ := Kd.R_slice HO459.out; subst eo40; obtain ⟨Ao41, co41, eo41⟩ := Kd.R_slice HO462.out; subst eo41) | (go_at_call 34; (with_reducible refine (fleuronlaw03_grid.calls k1 _ _ t457 _ _ t460 0 0 t463 t466 _ ?side1 ?side2 ?side3 ?side4 A31.out).mono ?_); (case side1 => repeat (first | exact (Kd.R_reads' HO459.out).2.2 | (with_reducible refine Kd.C_alloc ?_ _) | (with_reducible refine Kd.C_drewN ?_ _) | (with_reducible refine Kd.C_drew ?_))); (case side2 => exact (Kd.R_reads' HO459.out).2.1); (case side3 => repeat (first | exact (Kd.R_reads' HO462.out).2.2 | (with_reducible refine Kd.C_alloc ?_ _) | (with_reducible refine Kd.C_drewN ?_ _) | (with_reducible refine Kd.C_drew ?_))); (case side4 => exact (Kd.R_reads' HO462.out).2.1); rintro e w42 ⟨v464, v467, rfl, ho0, ho1, hb⟩; have n0_ := Aside0.mk (Kd.S_below (by (with_reducible repeat (first | apply Kd.S_alloc | apply Kd.S_drewN | apply Kd.S_drew)); exact HO_3.out) hb); have n1_ := Aside0.mk (Kd.R_elder' (by (with_reducible repeat (first | apply Kd.R_alloc | apply Kd.R_drewN | apply Kd.R_drew)); exact HO453.out) (Kd.R_base ho0) hb); have n2_ := Aside0.mk (Kd.R_elder' (by (with_reducible repeat (first | apply Kd.R_alloc | apply Kd.R_drewN | apply Kd.R_drew)); exact HO456.out) (Kd.R_base ho1) hb); have n3_ := Aside0.mk (Kd.R_below (by (with_reducible repeat (first | apply Kd.R_alloc | apply Kd.R_drewN | apply Kd.R_drew)); exact HO459.out) hb); have n4_ := Aside0.mk (Kd.R_below (by (with_reducible repeat (first | apply Kd.R_alloc | apply Kd.R_drewN | apply Kd.R_drew)); exact HO462.out) hb); have n5_ := Aside0.mk (Kd.R_lower (Kd.R_new' ho0 (Kd.R_lt (by (with_reducible repeat (first | apply Kd.R_alloc | apply Kd.R_drewN | apply Kd.R_drew)); exact HO453.out))) (below_size (by repeat (first | (with_reducible first | exact HB.out | apply below_alloc | apply pw_below_drewN | apply below_drew1 | refine below_set ?_ GE437.out) | exact HB.out)))); have n6_ := Aside0.mk (Kd.R_lower (Kd.R_new' ho1 (Kd.R_lt (by (with_reducible repeat (first | apply Kd.R_alloc | apply Kd.R_drewN | apply Kd.R_drew)); exact HO456.out))) (below_size (by repeat (first | (with_reducible first | exact HB.out | apply below_alloc | apply pw_below_drewN | apply below_drew1 | refine below_set ?_ GE437.out) | exact HB.out)))); have n7_ := Aside0.mk (blk_below (g := gb437) (o := .cells #[.slice A0_0 l0_0.length c0_0, .slice A0_1 l0_1.length c0_1] 25 (0, 0)) (by (with_reducible repeat (first | refine blk_drewN ?_ _ | refine blk_drew ?_ | refine blk_alloc ?_ _)); exact BK437.out) hb); have n8_ := Aside0.mk (below_step (by repeat (first | (with_reducible first | exact HB.out | apply below_alloc | apply pw_below_drewN | apply below_drew1 | refine below_set ?_ GE437.out) | exact HB.out)) hb); clear HO_3; clear HO453; clear HO456; clear HO459; clear HO462; clear BK437; clear HB; have HO_3 := n0_; have HO453 := n1_; have HO456 := n2_; have HO459 := n3_; have HO462 := n4_; have HO465 := n5_; have HO468 := n6_; have BK437 := n7_; have HB := n8_; clear n0_ n1_ n2_ n3_ n4_ n5_ n6_ n7_ n8_; (try clear hb); (try clear hb2); (try clear hk); (try clear hi); (try clear ho0); (try clear ho1); have hcz43_0 : w42.cell? ⟨gb437, 0, none⟩ = some (.slice A0_0 l0_0.length c0_0) := (blk_cell BK437.out 0).trans rfl; have hcz43_1 : w42.cell? ⟨gb437, 1, none⟩ = some (.slice A0_1 l0_1.length c0_1) := (blk_cell BK437.out 1).trans rfl; have hfz43_0 := blk_frozen BK437.out 0; have hfz43_1 := blk_frozen BK437.out 1; obtain ⟨Ao44, co44, eo44⟩ := Kd.R_slice HO453.out; subst eo44; obtain ⟨Ao45, co45, eo45⟩ := Kd.R_slice HO456.out; subst eo45) | (go_at_call 32; (with_reducible refine (outline_Lines.calls _ _ t451 _ _ t454 _ _ l0_1 t469 _ ?side1 ?side2 ?side3 ?side4 ?side5 ?side6 A32.out).mono ?_); (case side1 => repeat (first | exact (Kd.R_reads' HO453.out).2.2 | (with_reducible refine Kd.C_alloc ?_ _) | (with_reducible refine Kd.C_drewN ?_ _) | (with_reducible refine Kd.C_drew ?_))); (case side2 => exact (Kd.R_reads' HO453.out).2.1); (case side3 => repeat (first | exact (Kd.R_reads' HO456.out).2.2 | (with_reducible refine Kd.C_alloc ?_ _) | (with_reducible refine Kd.C_drewN ?_ _) | (with_reducible refine Kd.C_drew ?_))); (case side4 => exact (Kd.R_reads' HO456.out).2.1); (case side5 => repeat (first | exact (Kd.C_below HR0_1.out HB.out) | (with_reducible refine Kd.C_alloc ?_ _) | (with_reducible refine Kd.C_drewN ?_ _) | (with_reducible refine Kd.C_drew ?_))); (case side6 => exact HC0_1.out); rintro e w46 ⟨v470, rfl, ho0, hb⟩; have n0_ := Aside0.mk (Kd.S_below (by (with_reducible repeat (first | apply Kd.S_alloc | apply Kd.S_drewN | apply Kd.S_drew)); exact HO_3.out) hb); have n1_ := Aside0.mk (Kd.R_below (by (with_reducible repeat (first | apply Kd.R_alloc | apply Kd.R_drewN | apply Kd.R_drew)); exact HO453.out) hb); have n2_ := Aside0.mk (Kd.R_below (by (with_reducible repeat (first | apply Kd.R_alloc | apply Kd.R_drewN | apply Kd.R_drew)); exact HO456.out) hb); have n3_ := Aside0.mk (Kd.R_below (by (with_reducible repeat (first | apply Kd.R_alloc | apply Kd.R_drewN | apply Kd.R_drew)); exact HO459.out) hb); have n4_ := Aside0.mk (Kd.R_below (by (with_reducible repeat (first | apply Kd.R_alloc | apply Kd.R_drewN | apply Kd.R_drew)); exact HO462.out) hb); have n5_ := Aside0.mk (Kd.R_below (by (with_reducible repeat (first | apply Kd.R_alloc | apply Kd.R_drewN | apply Kd.R_drew)); exact HO465.out) hb); have n6_ := Aside0.mk (Kd.R_below (by (with_reducible repeat (first | apply Kd.R_alloc | apply Kd.R_drewN | apply Kd.R_drew)); exact HO468.out) hb); have n7_ := Aside0.mk (Kd.S_lower (Kd.S_new' (Kd.S_new' ho0 (Kd.R_lt (by (with_reducible repeat (first | apply Kd.R_alloc | apply Kd.R_drewN | apply Kd.R_drew)); exact HO453.out))) (Kd.R_lt (by (with_reducible repeat (first | apply Kd.R_alloc | apply Kd.R_drewN | apply Kd.R_drew)); exact HO465.out))) (below_size (by repeat (first | (with_reducible first | exact HB.out | apply below_alloc | apply pw_below_drewN | apply below_drew1 | refine below_set ?_ GE437.out) | exact HB.out)))); have n8_ := Aside0.mk (blk_below (g := gb437) (o := .cells #[.slice A0_0 l0_0.length c0_0, .slice A0_1 l0_1.length c0_1] 25 (0, 0)) (by (with_reducible repeat (first | refine blk_drewN ?_ _ | refine blk_drew ?_ | refine blk_alloc ?_ _)); exact BK437.out) hb); have n9_ := Aside0.mk (below_step (by repeat (first | (with_reducible first | exact HB.out | apply below_alloc | apply pw_below_drewN | apply below_drew1 | refine below_set ?_ GE437.out) | exact HB.out)) hb); clear HO_3; clear HO453; clear HO456; clear HO459; clear HO462; clear HO465; clear HO468; clear BK437; clear HB; have HO_3 := n0_; have HO453 := n1_; have HO456 := n2_; have HO459 := n3_; have HO462 := n4_; have HO465 := n5_; have HO468 := n6_; have HO471 := n7_; have BK437 := n8_; have HB := n9_; clear n0_ n1_ n2_ n3_ n4_ n5_ n6_ n7_ n8_ n9_; (try clear hb); (try clear hb2); (try clear hk); (try clear hi); (try clear ho0); have hcz47_0 : w46.cell? ⟨gb437, 0, none⟩ = some (.slice A0_0 l0_0.length c0_0) := (blk_cell BK437.out 0).trans rfl; have hcz47_1 : w46.cell? ⟨gb437, 1, none⟩ = some (.slice A0_1 l0_1.length c0_1) := (blk_cell BK437.out 1).trans rfl; have hfz47_0 := blk_frozen BK437.out 0; have hfz47_1 := blk_frozen BK437.out 1; obtain ⟨Ao48, co48, eo48⟩ := Kd.R_slice HO465.out; subst eo48; obtain ⟨Ao49, co49, eo49⟩ := Kd.R_slice HO468.out; subst eo49) | (go_at_call 32; (with_reducible refine (outline_Lines.calls _ _ t463 _ _ t466 _ _ l0_1 t472 _ ?side1 ?side2 ?side3 ?side4 ?side5 ?side6 A33.out).mono ?_); (case side1 => repeat (first | exact (Kd.R_reads' HO465.out).2.2 | (with_reducible refine Kd.C_alloc ?_ _) | (with_reducible refine Kd.C_drewN ?_ _) | (with_reducible refine Kd.C_drew ?_))); (case side2 => exact (Kd.R_reads' HO465.out).2.1); (case side3 => repeat (first | exact (Kd.R_reads' HO468.out).2.2 | (with_reducible refine Kd.C_alloc ?_ _) | (with_reducible refine Kd.C_drewN ?_ _) | (with_reducible refine Kd.C_drew ?_))); (case side4 => exact (Kd.R_reads' HO468.out).2.1); (case side5 => repeat (first | exact (Kd.C_below HR0_1.out HB.out) | (with_reducible refine Kd.C_alloc ?_ _) | (with_reducible refine Kd.C_drewN ?_ _) | (with_reducible refine Kd.C_drew ?_))); (case side6 => exact HC0_1.out); rintro e w50 ⟨v473, rfl, ho0, hb⟩; have n0_ := Aside0.mk (Kd.S_below (by (with_reducible repeat (first | apply Kd.S_alloc | apply Kd.S_drewN | apply Kd.S_drew)); exact HO_3.out) hb); have n1_ := Aside0.mk (Kd.R_below (by (with_reducible repeat (first | apply Kd.R_alloc | apply Kd.R_drewN | apply Kd.R_drew)); exact HO453.out) hb); have n2_ := Aside0.mk (Kd.R_below (by (with_reducible repeat (first | apply Kd.R_alloc | apply Kd.R_drewN | apply Kd.R_drew)); exact HO456.out) hb); have n3_ := Aside0.mk (Kd.R_below (by (with_reducible repeat (first | apply Kd.R_alloc | apply Kd.R_drewN | apply Kd.R_drew)); exact HO459.out) hb); have n4_ := Aside0.mk (Kd.R_below (by (with_reducible repeat (first | apply Kd.R_alloc | apply Kd.R_drewN | apply Kd.R_drew)); exact HO462.out) hb); have n5_ := Aside0.mk (Kd.R_below (by (with_reducible repeat (first | apply Kd.R_alloc | apply Kd.R_drewN | apply Kd.R_drew)); exact HO465.out) hb); have n6_ := Aside0.mk (Kd.R_below (by (with_reducible repeat (first | apply Kd.R_alloc | apply Kd.R_drewN | apply Kd.R_drew)); exact HO468.out) hb); have n7_ := Aside0.mk (Kd.S_elder' (by (with_reducible repeat (first | apply Kd.S_alloc | apply Kd.S_drewN | apply Kd.S_drew)); exact HO471.out) (Kd.S_base ho0) hb); have n8_ := Aside0.mk (Kd.S_lower (Kd.S_new' (Kd.S_new' (Kd.S_new' ho0 (Kd.R_lt (by (with_reducible repeat (first | apply Kd.R_alloc | apply Kd.R_drewN | apply Kd.R_drew)); exact HO453.out))) (Kd.R_lt (by (with_reducible repeat (first | apply Kd.R_alloc | apply Kd.R_drewN | apply Kd.R_drew)); exact HO465.out))) (Kd.S_lt (by (with_reducible repeat (first | apply Kd.S_alloc | apply Kd.S_drewN | apply Kd.S_drew)); exact HO471.out))) (below_size (by repeat (first | (with_reducible first | exact HB.out | apply below_alloc | apply pw_below_drewN | apply below_drew1 | refine below_set ?_ GE437.out) | exact HB.out)))); have n9_ := Aside0.mk (blk_below (g := gb437) (o := .cells #[.slice A0_0 l0_0.length c0_0, .slice A0_1 l0_1.length c0_1] 25 (0, 0)) (by (with_reducible repeat (first | refine blk_drewN ?_ _ | refine blk_drew ?_ | refine blk_alloc ?_ _)); exact BK437.out) hb); have n10_ := Aside0.mk (below_step (by repeat (first | (with_reducible first | exact HB.out | apply below_alloc | apply pw_below_drewN | apply below_drew1 | refine below_set ?_ GE437.out) | exact HB.out)) hb); clear HO_3; clear HO453; clear HO456; clear HO459; clear HO462; clear HO465; clear HO468; clear HO471; clear BK437; clear HB; have HO_3 := n0_; have HO453 := n1_; have HO456 := n2_; have HO459 := n3_; have HO462 := n4_; have HO465 := n5_; have HO468 := n6_; have HO471 := n7_; have HO474 := n8_; have BK437 := n9_; have HB := n10_; clear n0_ n1_ n2_ n3_ n4_ n5_ n6_ n7_ n8_ n9_ n10_; (try clear hb); (try clear hb2); (try clear hk); (try clear hi); (try clear ho0))))
          (try simp only [Act.put, List.setIfInBounds_toArray, List.set_cons_zero, List.set_cons_succ])
          go_cut [92] (fun v92 wc => ∃ (kq : Nat) (x92_33 : Bool), v92 = .bool x92_33 ∧ Aside0 (fleuronlaw03_OutlineBack.j1 kq t469 t472 x92_33 = some r) ∧ Aside0 (kq ≤ k1) ∧ Aside0 (Kd.S (Kd.slice 52 k52) 42 wc w.heap.size (fun k_ => some k_ ≠ (v473 : Value).ownBlock) v470 t469) ∧ Aside0 (Kd.S (Kd.slice 52 k52) 42 wc w.heap.size (fun k_ => some k_ ≠ (v470 : Value).ownBlock) v473 t472) ∧ Aside0 (wc.heap[gb437]? = some (.cells #[(.slice A0_0 l0_0.length c0_0), (.slice A0_1 l0_1.length c0_1)] 25 (0, 0))) ∧ Aside0 (Below w.heap.size w wc))
          case first =>
            have H := HC34.out
            clear HC34
            by_cases c51 : t443 = true
            · subst c51
              have H1 : (if (t469.length : Int) = (t472.length : Int) then (fleuronlaw03_OutlineBack.j1 k1 t469 t472 ((t469.length : Int) != (l0_1.length : Int))) else (fleuronlaw03_OutlineBack.j1 k1 t469 t472 true)) = some r := by rw [if_pos rfl] at H; exact H
              clear H
              have H := H1
              clear H1
              by_cases c52 : (t469.length : Int) = (t472.length : Int)
              · rw [if_pos c52] at H
                have c52b0 : ((t469.length : Int) == (t472.length : Int)) = true := beq_iff_eq.mpr c52
                have c52b1 : ((t469.length : Int) != (t472.length : Int)) = false := bne_eq_false_iff_eq.mpr c52
                have c52b2 : (t469.length == t472.length) = true := by first | simpa using c52 | (simp at c52 ⊢; omega)
                clear c52
                (first | rw [c52b0] | (simp only [i64_w, i32_w]; rw [c52b0]) | skip)
                have H' := Aside0.mk H
                clear H
                obtain ⟨Ao53, co53, eo53⟩ := Kd.S_slice HO471.out
                subst eo53
                obtain ⟨Ao54, co54, eo54⟩ := Kd.S_slice HO474.out
                subst eo54
                have hcz55_0 : w50.cell? ⟨gb437, 0, none⟩ = some (.slice A0_0 l0_0.length c0_0) := (blk_cell BK437.out 0).trans rfl
                have hcz55_1 : w50.cell? ⟨gb437, 1, none⟩ = some (.slice A0_1 l0_1.length c0_1) := (blk_cell BK437.out 1).trans rfl
                have hfz55_0 := blk_frozen BK437.out 0
                have hfz55_1 := blk_frozen BK437.out 1
                go_wp2
                repeat (go_quiet (fail); try go_wp2)
                go_meet
                case rel => exact ⟨_, (((t469.length : Int) != (l0_1.length : Int))), (by first | rfl | (simp; done) | (simp [*]; done)), H', ⟨by have := HK1.out; first | omega | exact Nat.le_refl _⟩, ⟨by (with_reducible repeat (first | apply Kd.S_alloc | apply Kd.S_drewN | apply Kd.S_drew)); exact Kd.S_mono HO471.out (fun _ hk => hk.2)⟩, ⟨by (with_reducible repeat (first | apply Kd.S_alloc | apply Kd.S_drewN | apply Kd.S_drew)); exact Kd.S_mono HO474.out (fun _ hk => hk.2)⟩, ⟨by (with_reducible repeat (first | refine blk_drewN ?_ _ | refine blk_drew ?_ | refine blk_alloc ?_ _)); exact BK437.out⟩, ⟨by repeat (first | (with_reducible first | exact HB.out | apply below_alloc | apply pw_below_drewN | apply below_drew1 | refine below_set ?_ GE437.out) | exact HB.out)⟩⟩
              · rw [if_neg c52] at H
                have c52b0 : ((t469.length : Int) == (t472.length : Int)) = false := beq_eq_false_iff_ne.mpr c52
                have c52b1 : ((t469.length : Int) != (t472.length : Int)) = true := bne_iff_ne.mpr c52
                have c52b2 : (t469.length == t472.length) = false := by first | simpa using c52 | (simp at c52 ⊢; omega)
                (first | rw [c52b0] | (simp only [i64_w, i32_w]; rw [c52b0]) | skip)
                have H' := Aside0.mk H
                clear H
                obtain ⟨Ao56, co56, eo56⟩ := Kd.S_slice HO471.out
                subst eo56
                obtain ⟨Ao57, co57, eo57⟩ := Kd.S_slice HO474.out
                subst eo57
                go_wp2
                repeat (go_quiet (fail); try go_wp2)
                go_meet
                case rel => exact ⟨_, (true), (by first | rfl | (simp; done) | (simp [*]; done)), H', ⟨by have := HK1.out; first | omega | exact Nat.le_refl _⟩, ⟨by (with_reducible repeat (first | apply Kd.S_alloc | apply Kd.S_drewN | apply Kd.S_drew)); exact Kd.S_mono HO471.out (fun _ hk => hk.2)⟩, ⟨by (with_reducible repeat (first | apply Kd.S_alloc | apply Kd.S_drewN | apply Kd.S_drew)); exact Kd.S_mono HO474.out (fun _ hk => hk.2)⟩, ⟨by (with_reducible repeat (first | refine blk_drewN ?_ _ | refine blk_drew ?_ | refine blk_alloc ?_ _)); exact BK437.out⟩, ⟨by repeat (first | (with_reducible first | exact HB.out | apply below_alloc | apply pw_below_drewN | apply below_drew1 | refine below_set ?_ GE437.out) | exact HB.out)⟩⟩
            · replace c51 := Bool.eq_false_iff.mpr c51
              subst c51
              have H1 : (fleuronlaw03_OutlineBack.j1 k1 t469 t472 true) = some r := by rw [if_neg (show ¬ (false = true) by decide)] at H; exact H
              clear H
              have H := H1
              clear H1
              have H' := Aside0.mk H
              clear H
              go_wp2
              repeat (go_quiet (fail); try go_wp2)
              go_meet
              case rel => exact ⟨_, (true), (by first | rfl | (simp; done) | (simp [*]; done)), H', ⟨by have := HK1.out; first | omega | exact Nat.le_refl _⟩, ⟨by (with_reducible repeat (first | apply Kd.S_alloc | apply Kd.S_drewN | apply Kd.S_drew)); exact Kd.S_mono HO471.out (fun _ hk => hk.2)⟩, ⟨by (with_reducible repeat (first | apply Kd.S_alloc | apply Kd.S_drewN | apply Kd.S_drew)); exact Kd.S_mono HO474.out (fun _ hk => hk.2)⟩, ⟨by (with_reducible repeat (first | refine blk_drewN ?_ _ | refine blk_drew ?_ | refine blk_alloc ?_ _)); exact BK437.out⟩, ⟨by repeat (first | (with_reducible first | exact HB.out | apply below_alloc | apply pw_below_drewN | apply below_drew1 | refine below_set ?_ GE437.out) | exact HB.out)⟩⟩
          case rest =>
            clear HC34
            try clear c1
            try clear c2
            try clear p2
            try clear q2
            try clear c3
            try clear c4
            try clear p4
            try clear q4
            try clear hx4
            try clear qi4
            try clear c5
            try clear p6
            try clear c10
            try clear c10b0
            try clear c11
            try clear c11b0
            try clear c12
            try clear c12b0
            try clear c12b1
            try clear c12b2
            try clear c14
            try clear c19
            try clear c19b0
            try clear c19b1
            try clear q20
            try clear c21
            try clear c24
            try clear c44
            try clear p44
            try clear q44
            try clear hx44
            try clear qi44
            try clear c45
            try clear p45
            try clear q45
            try clear hx45
            try clear c51
            try clear c52
            try clear c52b0
            try clear c52b1
            try clear c52b2
            try clear hcz36_0
            try clear hcz36_1
            try clear hcz38_0
            try clear hcz38_1
            try clear hcz43_0
            try clear hcz43_1
            try clear hcz47_0
            try clear hcz47_1
            try clear hcz55_0
            try clear hcz55_1
            try clear hcz6_0
            try clear hcz6_1
            try clear hcz8_0
            try clear hcz8_1
            try clear hfz36_0
            try clear hfz36_1
            try clear hfz38_0
            try clear hfz38_1
            try clear hfz43_0
            try clear hfz43_1
            try clear hfz47_0
            try clear hfz47_1
            try clear hfz55_0
            try clear hfz55_1
            try clear hfz6_0
            try clear hfz6_1
            try clear hfz8_0
            try clear hfz8_1
            try clear hx444_0
            try clear hx446_0
            try clear hx447_0
            try clear hx448_0
            try clear hx448_1
            try clear hx448_2
            try clear hx450_0
            try clear p2
            try clear p444
            try clear p446
            try clear p447
            try clear p448
            try clear p450
            try clear q444
            try clear q446
            try clear q447
            try clear q448
            try clear q450
            obtain ⟨kq, x92_33, rfl, HA, HJ33, HO_10, HO_11, BK437, HB⟩ := hcut
            cases kq with
            | zero => exact absurd HA.out (by simp [fleuronlaw03_OutlineBack.j1])
            | succ kj33 =>
              have H := HA.out
              clear HA
              simp only [fleuronlaw03_OutlineBack.j1] at H
              by_cases c58 : x92_33 = true
              · subst c58
                have H1 : (some false) = some r := by rw [if_pos rfl] at H; exact H
                clear H
                have H := H1
                clear H1
                obtain rfl := Option.some.inj H
                go_wp2
                repeat (go_quiet (fail); try go_wp2)
                go_ret
                exact ⟨by first | rfl | (simp [errW_none, errW_some] <;> rfl) | (simp [*, errW_none, errW_some] <;> rfl), by repeat (first | (with_reducible first | exact HB.out | apply below_alloc | apply pw_below_drewN | apply below_drew1 | refine below_set ?_ GE437.out) | exact HB.out)⟩
              · replace c58 := Bool.eq_false_iff.mpr c58
                subst c58
                have H1 : (fleuronlaw03_OutlineBack.l1 kj33 t469 t472 0) = some r := by rw [if_neg (show ¬ (false = true) by decide)] at H; exact H
                clear H
                have H := H1
                clear H1
                have H' := Aside0.mk H
                clear H
                go_wp2
                repeat (go_quiet (fail); try go_wp2)
                go_loopg [12] kj33 (fun kq v12 w' => ∃ (x12_3 : Int), v12 = .int .i64 x12_3 ∧ Aside0 (fleuronlaw03_OutlineBack.l1 kq t469 t472 x12_3 = some r) ∧ Aside0 (kq ≤ kj33) ∧ Aside0 (Kd.S (Kd.slice 52 k52) 42 w' w.heap.size (fun k_ => some k_ ≠ (v473 : Value).ownBlock) v470 t469) ∧ Aside0 (Kd.S (Kd.slice 52 k52) 42 w' w.heap.size (fun k_ => some k_ ≠ (v470 : Value).ownBlock) v473 t472) ∧ Aside0 (w'.heap[gb437]? = some (.cells #[(.slice A0_0 l0_0.length c0_0), (.slice A0_1 l0_1.length c0_1)] 25 (0, 0))) ∧ Aside0 (Below w.heap.size w w'))
                case atStart => exact ⟨(0), (by first | rfl | (simp; done) | (simp [*]; done)), H', ⟨Nat.le_refl _⟩, ⟨by (with_reducible repeat (first | apply Kd.S_alloc | apply Kd.S_drewN | apply Kd.S_drew)); exact HO_10.out⟩, ⟨by (with_reducible repeat (first | apply Kd.S_alloc | apply Kd.S_drewN | apply Kd.S_drew)); exact HO_11.out⟩, ⟨by (with_reducible repeat (first | refine blk_drewN ?_ _ | refine blk_drew ?_ | refine blk_alloc ?_ _)); exact BK437.out⟩, ⟨by repeat (first | (with_reducible first | exact HB.out | apply below_alloc | apply pw_below_drewN | apply below_drew1 | refine below_set ?_ GE437.out) | exact HB.out)⟩⟩
                case round =>
                  clear H'
                  try clear c1
                  try clear c2
                  try clear p2
                  try clear q2
                  try clear c3
                  try clear c4
                  try clear p4
                  try clear q4
                  try clear hx4
                  try clear qi4
                  try clear c5
                  try clear p6
                  try clear c10
                  try clear c10b0
                  try clear c11
                  try clear c11b0
                  try clear c12
                  try clear c12b0
                  try clear c12b1
                  try clear c12b2
                  try clear c14
                  try clear c19
                  try clear c19b0
                  try clear c19b1
                  try clear q20
                  try clear c21
                  try clear c24
                  try clear c44
                  try clear p44
                  try clear q44
                  try clear hx44
                  try clear qi44
                  try clear c45
                  try clear p45
                  try clear q45
                  try clear hx45
                  try clear c51
                  try clear c52
                  try clear c52b0
                  try clear c52b1
                  try clear c52b2
                  try clear c58
                  try clear hcz36_0
                  try clear hcz36_1
                  try clear hcz38_0
                  try clear hcz38_1
                  try clear hcz43_0
                  try clear hcz43_1
                  try clear hcz47_0
                  try clear hcz47_1
                  try clear hcz55_0
                  try clear hcz55_1
                  try clear hcz6_0
                  try clear hcz6_1
                  try clear hcz8_0
                  try clear hcz8_1
                  try clear hfz36_0
                  try clear hfz36_1
                  try clear hfz38_0
                  try clear hfz38_1
                  try clear hfz43_0
                  try clear hfz43_1
                  try clear hfz47_0
                  try clear hfz47_1
                  try clear hfz55_0
                  try clear hfz55_1
                  try clear hfz6_0
                  try clear hfz6_1
                  try clear hfz8_0
                  try clear hfz8_1
                  try clear hx444_0
                  try clear hx446_0
                  try clear hx447_0
                  try clear hx448_0
                  try clear hx448_1
                  try clear hx448_2
                  try clear hx450_0
                  try clear p2
                  try clear p4
                  try clear p44
                  try clear p444
                  try clear p446
                  try clear p447
                  try clear p448
                  try clear p45
                  try clear p450
                  try clear p6
                  try clear q2
                  try clear q20
                  try clear q4
                  try clear q44
                  try clear q444
                  try clear q446
                  try clear q447
                  try clear q448
                  try clear q45
                  try clear q450
                  obtain ⟨x12_3, rfl, HA, HK3, HO_10, HO_11, BK437, HB⟩ := hrel
                  cases gk with
                  | zero => exact absurd HA.out (by simp [fleuronlaw03_OutlineBack.l1])
                  | succ k3 =>
                    have H := HA.out
                    clear HA
                    simp only [fleuronlaw03_OutlineBack.l1] at H
                    by_cases c59 : x12_3 < (t469.length : Int)
                    · rw [if_pos c59] at H
                      have c59b0 : decide (x12_3 < (t469.length : Int)) = true := decide_eq_true c59
                      clear c59
                      by_cases c60 : 0 ≤ x12_3
                      · rw [if_pos c60] at H
                        have c60b0 : decide (0 ≤ x12_3) = true := decide_eq_true c60
                        clear c60
                        by_cases c61 : x12_3 < (t472.length : Int)
                        · rw [if_pos c61] at H
                          have c61b0 : decide (x12_3 < (t472.length : Int)) = true := decide_eq_true c61
                          clear c61
                          by_cases c62 : ((rd_L9 t472 x12_3).length : Int) = ((rd_L9 t469 x12_3).length : Int)
                          · rw [if_pos c62] at H
                            have c62b0 : (((rd_L9 t472 x12_3).length : Int) == ((rd_L9 t469 x12_3).length : Int)) = true := beq_iff_eq.mpr c62
                            have c62b1 : (((rd_L9 t472 x12_3).length : Int) != ((rd_L9 t469 x12_3).length : Int)) = false := bne_eq_false_iff_eq.mpr c62
                            have c62b2 : ((rd_L9 t472 x12_3).length == (rd_L9 t469 x12_3).length) = true := by first | simpa using c62 | (simp at c62 ⊢; omega)
                            clear c62
                            have H' := Aside0.mk H
                            clear H
                            obtain ⟨Ao63, co63, eo63⟩ := Kd.S_slice HO_10.out
                            subst eo63
                            have p476 : 0 ≤ (x12_3 : Int) := of_decide_eq_true (by first | (with_reducible assumption) | assumption)
                            have q476 : x12_3 < (t469.length : Int) := of_decide_eq_true (by first | (with_reducible assumption) | assumption)
                            obtain ⟨ad476, A476_0, c476_0, e476, hx476_0, hl476_0, hi476_0⟩ := at_L9 (Kd.S_reads' HO_10.out).2.2 x12_3 p476 q476
                            cases e476
                            obtain ⟨ce476, hce476, hMe476, hcc476⟩ := Kd.S_get HO_10.out [] x12_3 p476 (by first | exact q476 | exact of_decide_eq_true (by first | (with_reducible assumption) | assumption) | (have e_ := (Kd.S_reads' HO_10.out).1; omega))
                            obtain ⟨ve476_0, rfl, ge476_0⟩ := hMe476
                            have hv476_0 := hcc476 0 _ rfl
                            rw [Nat.add_zero, show ((Kd.slice 52 k52)).sz = 1 from rfl, Nat.mul_one] at hv476_0
                            replace hv476_0 := Option.some.inj (hv476_0.symm.trans hx476_0)
                            rw [hv476_0] at ge476_0
                            have HL476_0 := Aside0.mk (show Kd.R k52 52 _ _ _ _ (rd_L9 t469 x12_3) from ge476_0)
                            clear hv476_0 ge476_0
                            clear hcc476 hce476
                            have HR476_0 := Aside0.mk hi476_0
                            have HC476_0 := Aside0.mk hl476_0
                            clear hi476_0 hl476_0
                            replace p476 := eq_true p476
                            replace q476 := eq_true q476
                            obtain ⟨Ao64, co64, eo64⟩ := Kd.S_slice HO_11.out
                            subst eo64
                            have p477 : 0 ≤ (x12_3 : Int) := of_decide_eq_true (by first | (with_reducible assumption) | assumption)
                            have q477 : x12_3 < (t472.length : Int) := of_decide_eq_true (by first | (with_reducible assumption) | assumption)
                            obtain ⟨ad477, A477_0, c477_0, e477, hx477_0, hl477_0, hi477_0⟩ := at_L9 (Kd.S_reads' HO_11.out).2.2 x12_3 p477 q477
                            cases e477
                            obtain ⟨ce477, hce477, hMe477, hcc477⟩ := Kd.S_get HO_11.out [] x12_3 p477 (by first | exact q477 | exact of_decide_eq_true (by first | (with_reducible assumption) | assumption) | (have e_ := (Kd.S_reads' HO_11.out).1; omega))
                            obtain ⟨ve477_0, rfl, ge477_0⟩ := hMe477
                            have hv477_0 := hcc477 0 _ rfl
                            rw [Nat.add_zero, show ((Kd.slice 52 k52)).sz = 1 from rfl, Nat.mul_one] at hv477_0
                            replace hv477_0 := Option.some.inj (hv477_0.symm.trans hx477_0)
                            rw [hv477_0] at ge477_0
                            have HL477_0 := Aside0.mk (show Kd.R k52 52 _ _ _ _ (rd_L9 t472 x12_3) from ge477_0)
                            clear hv477_0 ge477_0
                            clear hcc477 hce477
                            have HR477_0 := Aside0.mk hi477_0
                            have HC477_0 := Aside0.mk hl477_0
                            clear hi477_0 hl477_0
                            replace p477 := eq_true p477
                            replace q477 := eq_true q477
                            go_wp2
                            repeat (go_quiet (fail); try go_wp2)
                            go_loopg [14] k3 (fun kq v14 w' => ∃ (x14_4 : Int), v14 = .int .i64 x14_4 ∧ Aside0 (fleuronlaw03_OutlineBack.l2 kq t469 t472 x12_3 ((rd_L9 t469 x12_3).length : Int) x14_4 = some r) ∧ Aside0 (kq ≤ k3) ∧ Aside0 (Kd.S (Kd.slice 52 k52) 42 w' w.heap.size (fun k_ => some k_ ≠ ((.slice (some ad477) t472.length co64) : Value).ownBlock) (.slice (some ad476) t469.length co63) t469) ∧ Aside0 (Kd.S (Kd.slice 52 k52) 42 w' w.heap.size (fun k_ => some k_ ≠ ((.slice (some ad476) t469.length co63) : Value).ownBlock) (.slice (some ad477) t472.length co64) t472) ∧ Aside0 (w'.heap[gb437]? = some (.cells #[(.slice A0_0 l0_0.length c0_0), (.slice A0_1 l0_1.length c0_1)] 25 (0, 0))) ∧ Aside0 (Kd.C k52 w' A476_0 (rd_L9 t469 x12_3).length (rd_L9 t469 x12_3)) ∧ Aside0 (Kd.C k52 w' A477_0 (rd_L9 t472 x12_3).length (rd_L9 t472 x12_3)) ∧ Aside0 (Below w.heap.size w w'))
                            case atStart => exact ⟨(0), (by first | rfl | (simp; done) | (simp [*]; done)), H', ⟨Nat.le_refl _⟩, ⟨by (with_reducible repeat (first | apply Kd.S_alloc | apply Kd.S_drewN | apply Kd.S_drew)); exact HO_10.out⟩, ⟨by (with_reducible repeat (first | apply Kd.S_alloc | apply Kd.S_drewN | apply Kd.S_drew)); exact HO_11.out⟩, ⟨by (with_reducible repeat (first | refine blk_drewN ?_ _ | refine blk_drew ?_ | refine blk_alloc ?_ _)); exact BK437.out⟩, ⟨by repeat (first | (with_reducible exact HR476_0.out) | (with_reducible refine Kd.C_alloc ?_ _) | (with_reducible refine Kd.C_drewN ?_ _) | (with_reducible refine Kd.C_drew ?_) | exact HR476_0.out)⟩, ⟨by repeat (first | (with_reducible exact HR477_0.out) | (with_reducible refine Kd.C_alloc ?_ _) | (with_reducible refine Kd.C_drewN ?_ _) | (with_reducible refine Kd.C_drew ?_) | exact HR477_0.out)⟩, ⟨by repeat (first | (with_reducible first | exact HB.out | apply below_alloc | apply pw_below_drewN | apply below_drew1 | refine below_set ?_ GE437.out) | exact HB.out)⟩⟩
                            case round =>
                              clear H'
                              try clear c1
                              try clear c2
                              try clear p2
                              try clear q2
                              try clear c3
                              try clear c4
                              try clear p4
                              try clear q4
                              try clear hx4
                              try clear qi4
                              try clear c5
                              try clear c6
                              try clear p6
                              try clear c10
                              try clear c10b0
                              try clear c11
                              try clear c11b0
                              try clear c12
                              try clear c12b0
                              try clear c12b1
                              try clear c12b2
                              try clear c14
                              try clear c19
                              try clear c19b0
                              try clear c19b1
                              try clear q20
                              try clear c21
                              try clear c24
                              try clear c44
                              try clear p44
                              try clear q44
                              try clear hx44
                              try clear qi44
                              try clear c45
                              try clear p45
                              try clear q45
                              try clear hx45
                              try clear c47
                              try clear p47
                              try clear q47
                              try clear hx47
                              try clear c51
                              try clear c52
                              try clear c52b0
                              try clear c52b1
                              try clear c52b2
                              try clear c58
                              try clear c59
                              try clear c59b0
                              try clear c60
                              try clear c60b0
                              try clear c61
                              try clear c61b0
                              try clear c62
                              try clear c62b0
                              try clear c62b1
                              try clear c62b2
                              try clear p64
                              try clear hcz36_0
                              try clear hcz36_1
                              try clear hcz38_0
                              try clear hcz38_1
                              try clear hcz43_0
                              try clear hcz43_1
                              try clear hcz47_0
                              try clear hcz47_1
                              try clear hcz55_0
                              try clear hcz55_1
                              try clear hcz6_0
                              try clear hcz6_1
                              try clear hcz8_0
                              try clear hcz8_1
                              try clear hfz36_0
                              try clear hfz36_1
                              try clear hfz38_0
                              try clear hfz38_1
                              try clear hfz43_0
                              try clear hfz43_1
                              try clear hfz47_0
                              try clear hfz47_1
                              try clear hfz55_0
                              try clear hfz55_1
                              try clear hfz6_0
                              try clear hfz6_1
                              try clear hfz8_0
                              try clear hfz8_1
                              try clear hx444_0
                              try clear hx446_0
                              try clear hx447_0
                              try clear hx448_0
                              try clear hx448_1
                              try clear hx448_2
                              try clear hx450_0
                              try clear hx476_0
                              try clear hx477_0
                              try clear p2
                              try clear p4
                              try clear p44
                              try clear p444
                              try clear p446
                              try clear p447
                              try clear p448
                              try clear p45
                              try clear p450
                              try clear p476
                              try clear p477
                              try clear p6
                              try clear q2
                              try clear q20
                              try clear q4
                              try clear q44
                              try clear q444
                              try clear q446
                              try clear q447
                              try clear q448
                              try clear q45
                              try clear q450
                              try clear q476
                              try clear q477
                              obtain ⟨x14_4, rfl, HA, HK4, HO_10, HO_11, BK437, HR476_0, HR477_0, HB⟩ := hrel
                              cases gk with
                              | zero => exact absurd HA.out (by simp [fleuronlaw03_OutlineBack.l2])
                              | succ k4 =>
                                have H := HA.out
                                clear HA
                                simp only [fleuronlaw03_OutlineBack.l2] at H
                                by_cases c65 : x14_4 < ((rd_L9 t469 x12_3).length : Int)
                                · rw [if_pos c65] at H
                                  have c65b0 : decide (x14_4 < ((rd_L9 t469 x12_3).length : Int)) = true := decide_eq_true c65
                                  clear c65
                                  by_cases c66 : 0 ≤ x12_3
                                  · rw [if_pos c66] at H
                                    have c66b0 : decide (0 ≤ x12_3) = true := decide_eq_true c66
                                    clear c66
                                    by_cases c67 : x12_3 < (t472.length : Int)
                                    · rw [if_pos c67] at H
                                      have c67b0 : decide (x12_3 < (t472.length : Int)) = true := decide_eq_true c67
                                      clear c67
                                      by_cases c68 : 0 ≤ x14_4
                                      · rw [if_pos c68] at H
                                        have c68b0 : decide (0 ≤ x14_4) = true := decide_eq_true c68
                                        clear c68
                                        by_cases c69 : x14_4 < ((rd_L9 t472 x12_3).length : Int)
                                        · rw [if_pos c69] at H
                                          have c69b0 : decide (x14_4 < ((rd_L9 t472 x12_3).length : Int)) = true := decide_eq_true c69
                                          clear c69
                                          by_cases c70 : x12_3 < (t469.length : Int)
                                          · rw [if_pos c70] at H
                                            have c70b0 : decide (x12_3 < (t469.length : Int)) = true := decide_eq_true c70
                                            clear c70
                                            by_cases c71 : ((rd_L9 t469 x12_3).length : Int) = 0
                                            · rw [if_pos c71] at H
                                              exact absurd H (by simp)
                                            · rw [if_neg c71] at H
                                              have c71b0 : (((rd_L9 t469 x12_3).length : Int) == 0) = false := beq_eq_false_iff_ne.mpr c71
                                              have c71b1 : (((rd_L9 t469 x12_3).length : Int) != 0) = true := bne_iff_ne.mpr c71
                                              have c71b2 : ¬ ((rd_L9 t469 x12_3) = []) := fun h_ => c71 (by rw [h_]; rfl)
                                              obtain ⟨ji72, hji72⟩ : ∃ j_ : Int, (Int.tmod (wrap64 (((rd_L9 t469 x12_3).length : Int) - x14_4)) ((rd_L9 t469 x12_3).length : Int)) = j_ := ⟨_, rfl⟩
                                              replace H : (if 0 ≤ (ji72) then (if (ji72) < ((rd_L9 t469 x12_3).length : Int) then (if (!(((rd_T52 (rd_L9 t472 x12_3) x14_4).f0) == ((rd_T52 (rd_L9 t469 x12_3) (ji72)).f0)) || (!(((rd_T52 (rd_L9 t472 x12_3) x14_4).f1) == ((rd_T52 (rd_L9 t469 x12_3) (ji72)).f1)))) = true then (some false) else (fleuronlaw03_OutlineBack.l2 k4 t469 t472 x12_3 ((rd_L9 t469 x12_3).length : Int) (wrap64 (x14_4 + 1)))) else (none)) else (none)) = some r := by first | (rw [hji72] at H; exact H) | (simp only [hji72] at H ⊢; exact H)
                                              by_cases c73 : 0 ≤ (ji72)
                                              · rw [if_pos c73] at H
                                                have c73b0 : decide (0 ≤ (ji72)) = true := decide_eq_true c73
                                                clear c73
                                                by_cases c74 : (ji72) < ((rd_L9 t469 x12_3).length : Int)
                                                · rw [if_pos c74] at H
                                                  have c74b0 : decide ((ji72) < ((rd_L9 t469 x12_3).length : Int)) = true := decide_eq_true c74
                                                  clear c74
                                                  by_cases c75 : (!(((rd_T52 (rd_L9 t472 x12_3) x14_4).f0) == ((rd_T52 (rd_L9 t469 x12_3) (ji72)).f0)) || (!(((rd_T52 (rd_L9 t472 x12_3) x14_4).f1) == ((rd_T52 (rd_L9 t469 x12_3) (ji72)).f1)))) = true
                                                  · rw [if_pos c75] at H
                                                    have c75b0 : (!(((rd_T52 (rd_L9 t472 x12_3) x14_4).f0) == ((rd_T52 (rd_L9 t469 x12_3) (ji72)).f0)) || (!(((rd_T52 (rd_L9 t472 x12_3) x14_4).f1) == ((rd_T52 (rd_L9 t469 x12_3) (ji72)).f1)))) = true := c75
                                                    clear c75
                                                    obtain rfl := Option.some.inj H
                                                    have p478 : 0 ≤ (x12_3 : Int) := of_decide_eq_true (by first | (with_reducible assumption) | assumption)
                                                    have q478 : x12_3 < (t472.length : Int) := of_decide_eq_true (by first | (with_reducible assumption) | assumption)
                                                    obtain ⟨ad478, A478_0, c478_0, e478, hx478_0, hl478_0, hi478_0⟩ := at_L9 (Kd.S_reads' HO_11.out).2.2 x12_3 p478 q478
                                                    obtain rfl : ad477 = ad478 := (by injection e478)
                                                    obtain ⟨ce478, hce478, hMe478, hcc478⟩ := Kd.S_get HO_11.out [] x12_3 p478 (by first | exact q478 | exact of_decide_eq_true (by first | (with_reducible assumption) | assumption) | (have e_ := (Kd.S_reads' HO_11.out).1; omega))
                                                    obtain ⟨ve478_0, rfl, ge478_0⟩ := hMe478
                                                    have hv478_0 := hcc478 0 _ rfl
                                                    rw [Nat.add_zero, show ((Kd.slice 52 k52)).sz = 1 from rfl, Nat.mul_one] at hv478_0
                                                    replace hv478_0 := Option.some.inj (hv478_0.symm.trans hx478_0)
                                                    rw [hv478_0] at ge478_0
                                                    have HL478_0 := Aside0.mk (show Kd.R k52 52 _ _ _ _ (rd_L9 t472 x12_3) from ge478_0)
                                                    clear hv478_0 ge478_0
                                                    clear hcc478 hce478
                                                    have HR478_0 := Aside0.mk hi478_0
                                                    have HC478_0 := Aside0.mk hl478_0
                                                    clear hi478_0 hl478_0
                                                    replace p478 := eq_true p478
                                                    replace q478 := eq_true q478
                                                    have p479 : 0 ≤ (x14_4 : Int) := of_decide_eq_true (by first | (with_reducible assumption) | assumption)
                                                    have q479 : x14_4 < ((rd_L9 t472 x12_3).length : Int) := of_decide_eq_true (by first | (with_reducible assumption) | assumption)
                                                    obtain ⟨ad479, e479, hx479_0, hx479_1⟩ := at_T52 (by repeat (first | (with_reducible exact HR478_0.out) | (with_reducible refine Kd.C_alloc ?_ _) | (with_reducible refine Kd.C_drewN ?_ _) | (with_reducible refine Kd.C_drew ?_) | exact HR478_0.out)) x14_4 p479 q479
                                                    cases e479
                                                    replace p479 := eq_true p479
                                                    replace q479 := eq_true q479
                                                    have p480 : 0 ≤ (x12_3 : Int) := of_decide_eq_true (by first | (with_reducible assumption) | assumption)
                                                    have q480 : x12_3 < (t469.length : Int) := of_decide_eq_true (by first | (with_reducible assumption) | assumption)
                                                    obtain ⟨ad480, A480_0, c480_0, e480, hx480_0, hl480_0, hi480_0⟩ := at_L9 (Kd.S_reads' HO_10.out).2.2 x12_3 p480 q480
                                                    obtain rfl : ad476 = ad480 := (by injection e480)
                                                    obtain ⟨ce480, hce480, hMe480, hcc480⟩ := Kd.S_get HO_10.out [] x12_3 p480 (by first | exact q480 | exact of_decide_eq_true (by first | (with_reducible assumption) | assumption) | (have e_ := (Kd.S_reads' HO_10.out).1; omega))
                                                    obtain ⟨ve480_0, rfl, ge480_0⟩ := hMe480
                                                    have hv480_0 := hcc480 0 _ rfl
                                                    rw [Nat.add_zero, show ((Kd.slice 52 k52)).sz = 1 from rfl, Nat.mul_one] at hv480_0
                                                    replace hv480_0 := Option.some.inj (hv480_0.symm.trans hx480_0)
                                                    rw [hv480_0] at ge480_0
                                                    have HL480_0 := Aside0.mk (show Kd.R k52 52 _ _ _ _ (rd_L9 t469 x12_3) from ge480_0)
                                                    clear hv480_0 ge480_0
                                                    clear hcc480 hce480
                                                    have HR480_0 := Aside0.mk hi480_0
                                                    have HC480_0 := Aside0.mk hl480_0
                                                    clear hi480_0 hl480_0
                                                    replace p480 := eq_true p480
                                                    replace q480 := eq_true q480
                                                    have p481 : 0 ≤ ((ji72) : Int) := of_decide_eq_true (by first | (with_reducible assumption) | assumption)
                                                    have q481 : (ji72) < ((rd_L9 t469 x12_3).length : Int) := of_decide_eq_true (by first | (with_reducible assumption) | assumption)
                                                    obtain ⟨ad481, e481, hx481_0, hx481_1⟩ := at_T52 (by repeat (first | (with_reducible exact HR480_0.out) | (with_reducible refine Kd.C_alloc ?_ _) | (with_reducible refine Kd.C_drewN ?_ _) | (with_reducible refine Kd.C_drew ?_) | exact HR480_0.out)) (ji72) p481 q481
                                                    cases e481
                                                    replace p481 := eq_true p481
                                                    replace q481 := eq_true q481
                                                    go_wp2
                                                    repeat (go_quiet (fail); try go_wp2)
                                                    go_ret
                                                    exact ⟨by first | rfl | (simp [errW_none, errW_some] <;> rfl) | (simp only [← hji72]; first | rfl | (simp [errW_none, errW_some] <;> rfl)) | (simp [*, errW_none, errW_some] <;> rfl), by repeat (first | (with_reducible first | exact HB.out | apply below_alloc | apply pw_below_drewN | apply below_drew1 | refine below_set ?_ GE437.out) | exact HB.out)⟩
                                                  · rw [if_neg c75] at H
                                                    have c75b0 : (!(((rd_T52 (rd_L9 t472 x12_3) x14_4).f0) == ((rd_T52 (rd_L9 t469 x12_3) (ji72)).f0)) || (!(((rd_T52 (rd_L9 t472 x12_3) x14_4).f1) == ((rd_T52 (rd_L9 t469 x12_3) (ji72)).f1)))) = false := by simpa using c75
                                                    clear c75
                                                    have H' := Aside0.mk H
                                                    clear H
                                                    have p478 : 0 ≤ (x12_3 : Int) := of_decide_eq_true (by first | (with_reducible assumption) | assumption)
                                                    have q478 : x12_3 < (t472.length : Int) := of_decide_eq_true (by first | (with_reducible assumption) | assumption)
                                                    obtain ⟨ad478, A478_0, c478_0, e478, hx478_0, hl478_0, hi478_0⟩ := at_L9 (Kd.S_reads' HO_11.out).2.2 x12_3 p478 q478
                                                    obtain rfl : ad477 = ad478 := (by injection e478)
                                                    obtain ⟨ce478, hce478, hMe478, hcc478⟩ := Kd.S_get HO_11.out [] x12_3 p478 (by first | exact q478 | exact of_decide_eq_true (by first | (with_reducible assumption) | assumption) | (have e_ := (Kd.S_reads' HO_11.out).1; omega))
                                                    obtain ⟨ve478_0, rfl, ge478_0⟩ := hMe478
                                                    have hv478_0 := hcc478 0 _ rfl
                                                    rw [Nat.add_zero, show ((Kd.slice 52 k52)).sz = 1 from rfl, Nat.mul_one] at hv478_0
                                                    replace hv478_0 := Option.some.inj (hv478_0.symm.trans hx478_0)
                                                    rw [hv478_0] at ge478_0
                                                    have HL478_0 := Aside0.mk (show Kd.R k52 52 _ _ _ _ (rd_L9 t472 x12_3) from ge478_0)
                                                    clear hv478_0 ge478_0
                                                    clear hcc478 hce478
                                                    have HR478_0 := Aside0.mk hi478_0
                                                    have HC478_0 := Aside0.mk hl478_0
                                                    clear hi478_0 hl478_0
                                                    replace p478 := eq_true p478
                                                    replace q478 := eq_true q478
                                                    have p479 : 0 ≤ (x14_4 : Int) := of_decide_eq_true (by first | (with_reducible assumption) | assumption)
                                                    have q479 : x14_4 < ((rd_L9 t472 x12_3).length : Int) := of_decide_eq_true (by first | (with_reducible assumption) | assumption)
                                                    obtain ⟨ad479, e479, hx479_0, hx479_1⟩ := at_T52 (by repeat (first | (with_reducible exact HR478_0.out) | (with_reducible refine Kd.C_alloc ?_ _) | (with_reducible refine Kd.C_drewN ?_ _) | (with_reducible refine Kd.C_drew ?_) | exact HR478_0.out)) x14_4 p479 q479
                                                    cases e479
                                                    replace p479 := eq_true p479
                                                    replace q479 := eq_true q479
                                                    have p480 : 0 ≤ (x12_3 : Int) := of_decide_eq_true (by first | (with_reducible assumption) | assumption)
                                                    have q480 : x12_3 < (t469.length : Int) := of_decide_eq_true (by first | (with_reducible assumption) | assumption)
                                                    obtain ⟨ad480, A480_0, c480_0, e480, hx480_0, hl480_0, hi480_0⟩ := at_L9 (Kd.S_reads' HO_10.out).2.2 x12_3 p480 q480
                                                    obtain rfl : ad476 = ad480 := (by injection e480)
                                                    obtain ⟨ce480, hce480, hMe480, hcc480⟩ := Kd.S_get HO_10.out [] x12_3 p480 (by first | exact q480 | exact of_decide_eq_true (by first | (with_reducible assumption) | assumption) | (have e_ := (Kd.S_reads' HO_10.out).1; omega))
                                                    obtain ⟨ve480_0, rfl, ge480_0⟩ := hMe480
                                                    have hv480_0 := hcc480 0 _ rfl
                                                    rw [Nat.add_zero, show ((Kd.slice 52 k52)).sz = 1 from rfl, Nat.mul_one] at hv480_0
                                                    replace hv480_0 := Option.some.inj (hv480_0.symm.trans hx480_0)
                                                    rw [hv480_0] at ge480_0
                                                    have HL480_0 := Aside0.mk (show Kd.R k52 52 _ _ _ _ (rd_L9 t469 x12_3) from ge480_0)
                                                    clear hv480_0 ge480_0
                                                    clear hcc480 hce480
                                                    have HR480_0 := Aside0.mk hi480_0
                                                    have HC480_0 := Aside0.mk hl480_0
                                                    clear hi480_0 hl480_0
                                                    replace p480 := eq_true p480
                                                    replace q480 := eq_true q480
                                                    have p481 : 0 ≤ ((ji72) : Int) := of_decide_eq_true (by first | (with_reducible assumption) | assumption)
                                                    have q481 : (ji72) < ((rd_L9 t469 x12_3).length : Int) := of_decide_eq_true (by first | (with_reducible assumption) | assumption)
                                                    obtain ⟨ad481, e481, hx481_0, hx481_1⟩ := at_T52 (by repeat (first | (with_reducible exact HR480_0.out) | (with_reducible refine Kd.C_alloc ?_ _) | (with_reducible refine Kd.C_drewN ?_ _) | (with_reducible refine Kd.C_drew ?_) | exact HR480_0.out)) (ji72) p481 q481
                                                    cases e481
                                                    replace p481 := eq_true p481
                                                    replace q481 := eq_true q481
                                                    go_wp2
                                                    repeat (go_quiet (fail); try go_wp2)
                                                    go_roundg k4
                                                    case measure => have := HK1.out; have := HJ33.out; have := HK3.out; have := HK4.out; omega
                                                    case rel => exact ⟨(wrap64 (x14_4 + 1)), (by first | rfl | (simp; done) | (simp [*]; done)), H', ⟨by have := HK1.out; have := HJ33.out; have := HK3.out; have := HK4.out; omega⟩, ⟨by (with_reducible repeat (first | apply Kd.S_alloc | apply Kd.S_drewN | apply Kd.S_drew)); exact HO_10.out⟩, ⟨by (with_reducible repeat (first | apply Kd.S_alloc | apply Kd.S_drewN | apply Kd.S_drew)); exact HO_11.out⟩, ⟨by (with_reducible repeat (first | refine blk_drewN ?_ _ | refine blk_drew ?_ | refine blk_alloc ?_ _)); exact BK437.out⟩, ⟨by repeat (first | (with_reducible exact HR476_0.out) | (with_reducible refine Kd.C_alloc ?_ _) | (with_reducible refine Kd.C_drewN ?_ _) | (with_reducible refine Kd.C_drew ?_) | exact HR476_0.out)⟩, ⟨by repeat (first | (with_reducible exact HR477_0.out) | (with_reducible refine Kd.C_alloc ?_ _) | (with_reducible refine Kd.C_drewN ?_ _) | (with_reducible refine Kd.C_drew ?_) | exact HR477_0.out)⟩, ⟨by repeat (first | (with_reducible first | exact HB.out | apply below_alloc | apply pw_below_drewN | apply below_drew1 | refine below_set ?_ GE437.out) | exact HB.out)⟩⟩
                                                · rw [if_neg c74] at H
                                                  exact absurd H (by simp)
                                              · rw [if_neg c73] at H
                                                exact absurd H (by simp)
                                          · rw [if_neg c70] at H
                                            exact absurd H (by simp)
                                        · rw [if_neg c69] at H
                                          exact absurd H (by simp)
                                      · rw [if_neg c68] at H
                                        exact absurd H (by simp)
                                    · rw [if_neg c67] at H
                                      exact absurd H (by simp)
                                  · rw [if_neg c66] at H
                                    exact absurd H (by simp)
                                · rw [if_neg c65] at H
                                  have c65b0 : decide (x14_4 < ((rd_L9 t469 x12_3).length : Int)) = false := decide_eq_false c65
                                  clear c65
                                  have H' := Aside0.mk H
                                  clear H
                                  go_wp2
                                  repeat (go_quiet (fail); try go_wp2)
                                  go_roundg k4
                                  case measure => have := HK1.out; have := HJ33.out; have := HK3.out; have := HK4.out; omega
                                  case rel => exact ⟨(wrap64 (x12_3 + 1)), (by first | rfl | (simp; done) | (simp [*]; done)), H', ⟨by have := HK1.out; have := HJ33.out; have := HK3.out; have := HK4.out; omega⟩, ⟨by (with_reducible repeat (first | apply Kd.S_alloc | apply Kd.S_drewN | apply Kd.S_drew)); exact HO_10.out⟩, ⟨by (with_reducible repeat (first | apply Kd.S_alloc | apply Kd.S_drewN | apply Kd.S_drew)); exact HO_11.out⟩, ⟨by (with_reducible repeat (first | refine blk_drewN ?_ _ | refine blk_drew ?_ | refine blk_alloc ?_ _)); exact BK437.out⟩, ⟨by repeat (first | (with_reducible first | exact HB.out | apply below_alloc | apply pw_below_drewN | apply below_drew1 | refine below_set ?_ GE437.out) | exact HB.out)⟩⟩
                          · rw [if_neg c62] at H
                            have c62b0 : (((rd_L9 t472 x12_3).length : Int) == ((rd_L9 t469 x12_3).length : Int)) = false := beq_eq_false_iff_ne.mpr c62
                            have c62b1 : (((rd_L9 t472 x12_3).length : Int) != ((rd_L9 t469 x12_3).length : Int)) = true := bne_iff_ne.mpr c62
                            have c62b2 : ((rd_L9 t472 x12_3).length == (rd_L9 t469 x12_3).length) = false := by first | simpa using c62 | (simp at c62 ⊢; omega)
                            obtain rfl := Option.some.inj H
                            obtain ⟨Ao76, co76, eo76⟩ := Kd.S_slice HO_10.out
                            subst eo76
                            have p476 : 0 ≤ (x12_3 : Int) := of_decide_eq_true (by first | (with_reducible assumption) | assumption)
                            have q476 : x12_3 < (t469.length : Int) := of_decide_eq_true (by first | (with_reducible assumption) | assumption)
                            obtain ⟨ad476, A476_0, c476_0, e476, hx476_0, hl476_0, hi476_0⟩ := at_L9 (Kd.S_reads' HO_10.out).2.2 x12_3 p476 q476
                            cases e476
                            obtain ⟨ce476, hce476, hMe476, hcc476⟩ := Kd.S_get HO_10.out [] x12_3 p476 (by first | exact q476 | exact of_decide_eq_true (by first | (with_reducible assumption) | assumption) | (have e_ := (Kd.S_reads' HO_10.out).1; omega))
                            obtain ⟨ve476_0, rfl, ge476_0⟩ := hMe476
                            have hv476_0 := hcc476 0 _ rfl
                            rw [Nat.add_zero, show ((Kd.slice 52 k52)).sz = 1 from rfl, Nat.mul_one] at hv476_0
                            replace hv476_0 := Option.some.inj (hv476_0.symm.trans hx476_0)
                            rw [hv476_0] at ge476_0
                            have HL476_0 := Aside0.mk (show Kd.R k52 52 _ _ _ _ (rd_L9 t469 x12_3) from ge476_0)
                            clear hv476_0 ge476_0
                            clear hcc476 hce476
                            have HR476_0 := Aside0.mk hi476_0
                            have HC476_0 := Aside0.mk hl476_0
                            clear hi476_0 hl476_0
                            replace p476 := eq_true p476
                            replace q476 := eq_true q476
                            obtain ⟨Ao77, co77, eo77⟩ := Kd.S_slice HO_11.out
                            subst eo77
                            have p477 : 0 ≤ (x12_3 : Int) := of_decide_eq_true (by first | (with_reducible assumption) | assumption)
                            have q477 : x12_3 < (t472.length : Int) := of_decide_eq_true (by first | (with_reducible assumption) | assumption)
                            obtain ⟨ad477, A477_0, c477_0, e477, hx477_0, hl477_0, hi477_0⟩ := at_L9 (Kd.S_reads' HO_11.out).2.2 x12_3 p477 q477
                            cases e477
                            obtain ⟨ce477, hce477, hMe477, hcc477⟩ := Kd.S_get HO_11.out [] x12_3 p477 (by first | exact q477 | exact of_decide_eq_true (by first | (with_reducible assumption) | assumption) | (have e_ := (Kd.S_reads' HO_11.out).1; omega))
                            obtain ⟨ve477_0, rfl, ge477_0⟩ := hMe477
                            have hv477_0 := hcc477 0 _ rfl
                            rw [Nat.add_zero, show ((Kd.slice 52 k52)).sz = 1 from rfl, Nat.mul_one] at hv477_0
                            replace hv477_0 := Option.some.inj (hv477_0.symm.trans hx477_0)
                            rw [hv477_0] at ge477_0
                            have HL477_0 := Aside0.mk (show Kd.R k52 52 _ _ _ _ (rd_L9 t472 x12_3) from ge477_0)
                            clear hv477_0 ge477_0
                            clear hcc477 hce477
                            have HR477_0 := Aside0.mk hi477_0
                            have HC477_0 := Aside0.mk hl477_0
                            clear hi477_0 hl477_0
                            replace p477 := eq_true p477
                            replace q477 := eq_true q477
                            go_wp2
                            repeat (go_quiet (fail); try go_wp2)
                            go_ret
                            exact ⟨by first | rfl | (simp [errW_none, errW_some] <;> rfl) | (simp [*, errW_none, errW_some] <;> rfl), by repeat (first | (with_reducible first | exact HB.out | apply below_alloc | apply pw_below_drewN | apply below_drew1 | refine below_set ?_ GE437.out) | exact HB.out)⟩
                        · rw [if_neg c61] at H
                          exact absurd H (by simp)
                      · rw [if_neg c60] at H
                        exact absurd H (by simp)
                    · rw [if_neg c59] at H
                      have c59b0 : decide (x12_3 < (t469.length : Int)) = false := decide_eq_false c59
                      clear c59
                      replace H := Option.bind_eq_some_iff.mp H
                      obtain ⟨t475, A780, H⟩ := H
                      replace H : (some t475) = some r := H
                      have A78 := Aside0.mk A780
                      clear A780
                      obtain rfl := Option.some.inj H
                      obtain ⟨Ao79, co79, eo79⟩ := Kd.S_slice HO_10.out
                      subst eo79
                      go_wp2_with (first | (go_at_call 21; (with_reducible refine (fleuronlaw03_drawn.calls  t475 _ A78.out).mono ?_); rintro e w80 ⟨rfl, hb⟩; have n0_ := Aside0.mk (Kd.S_below (by (with_reducible repeat (first | apply Kd.S_alloc | apply Kd.S_drewN | apply Kd.S_drew)); exact HO_10.out) hb); have n1_ := Aside0.mk (Kd.S_below (by (with_reducible repeat (first | apply Kd.S_alloc | apply Kd.S_drewN | apply Kd.S_drew)); exact HO_11.out) hb); have n2_ := Aside0.mk (blk_below (g := gb437) (o := .cells #[.slice A0_0 l0_0.length c0_0, .slice A0_1 l0_1.length c0_1] 25 (0, 0)) (by (with_reducible repeat (first | refine blk_drewN ?_ _ | refine blk_drew ?_ | refine blk_alloc ?_ _)); exact BK437.out) hb); have n3_ := Aside0.mk (below_step (by repeat (first | (with_reducible first | exact HB.out | apply below_alloc | apply pw_below_drewN | apply below_drew1 | refine below_set ?_ GE437.out) | exact HB.out)) hb); clear HO_10; clear HO_11; clear BK437; clear HB; have HO_10 := n0_; have HO_11 := n1_; have BK437 := n2_; have HB := n3_; clear n0_ n1_ n2_ n3_; (try clear hb); (try clear hb2); (try clear hk); (try clear hi)))
                      repeat (go_quiet (first | (go_at_call 21; (with_reducible refine (fleuronlaw03_drawn.calls  t475 _ A78.out).mono ?_); rintro e w80 ⟨rfl, hb⟩; have n0_ := Aside0.mk (Kd.S_below (by (with_reducible repeat (first | apply Kd.S_alloc | apply Kd.S_drewN | apply Kd.S_drew)); exact HO_10.out) hb); have n1_ := Aside0.mk (Kd.S_below (by (with_reducible repeat (first | apply Kd.S_alloc | apply Kd.S_drewN | apply Kd.S_drew)); exact HO_11.out) hb); have n2_ := Aside0.mk (blk_below (g := gb437) (o := .cells #[.slice A0_0 l0_0.length c0_0, .slice A0_1 l0_1.length c0_1] 25 (0, 0)) (by (with_reducible repeat (first | refine blk_drewN ?_ _ | refine blk_drew ?_ | refine blk_alloc ?_ _)); exact BK437.out) hb); have n3_ := Aside0.mk (below_step (by repeat (first | (with_reducible first | exact HB.out | apply below_alloc | apply pw_below_drewN | apply below_drew1 | refine below_set ?_ GE437.out) | exact HB.out)) hb); clear HO_10; clear HO_11; clear BK437; clear HB; have HO_10 := n0_; have HO_11 := n1_; have BK437 := n2_; have HB := n3_; clear n0_ n1_ n2_ n3_; (try clear hb); (try clear hb2); (try clear hk); (try clear hi))); try go_wp2_with (first | (go_at_call 21; (with_reducible refine (fleuronlaw03_drawn.calls  t475 _ A78.out).mono ?_); rintro e w80 ⟨rfl, hb⟩; have n0_ := Aside0.mk (Kd.S_below (by (with_reducible repeat (first | apply Kd.S_alloc | apply Kd.S_drewN | apply Kd.S_drew)); exact HO_10.out) hb); have n1_ := Aside0.mk (Kd.S_below (by (with_reducible repeat (first | apply Kd.S_alloc | apply Kd.S_drewN | apply Kd.S_drew)); exact HO_11.out) hb); have n2_ := Aside0.mk (blk_below (g := gb437) (o := .cells #[.slice A0_0 l0_0.length c0_0, .slice A0_1 l0_1.length c0_1] 25 (0, 0)) (by (with_reducible repeat (first | refine blk_drewN ?_ _ | refine blk_drew ?_ | refine blk_alloc ?_ _)); exact BK437.out) hb); have n3_ := Aside0.mk (below_step (by repeat (first | (with_reducible first | exact HB.out | apply below_alloc | apply pw_below_drewN | apply below_drew1 | refine below_set ?_ GE437.out) | exact HB.out)) hb); clear HO_10; clear HO_11; clear BK437; clear HB; have HO_10 := n0_; have HO_11 := n1_; have BK437 := n2_; have HB := n3_; clear n0_ n1_ n2_ n3_; (try clear hb); (try clear hb2); (try clear hk); (try clear hi))))
                      go_ret
                      exact ⟨by first | rfl | (simp [errW_none, errW_some] <;> rfl) | (simp [*, errW_none, errW_some] <;> rfl), by repeat (first | (with_reducible first | exact HB.out | apply below_alloc | apply pw_below_drewN | apply below_drew1 | refine below_set ?_ GE437.out) | exact HB.out)⟩
  · replace c3 := Bool.eq_false_iff.mpr c3
    subst c3
    have H1 : ((fleuronlaw03_drawn.f).bind fun t439 => (some t439)) = some r := by rw [if_neg (show ¬ (false = true) by decide)] at H; exact H
    clear H
    have H := H1
    clear H1
    replace H := Option.bind_eq_some_iff.mp H
    obtain ⟨t439, A810, H⟩ := H
    replace H : (some t439) = some r := H
    have A81 := Aside0.mk A810
    clear A810
    obtain rfl := Option.some.inj H
    go_enter Try.func10, Try.ntmps10
    go_wp2_with (first | ((with_reducible refine gate_dst (N := 1) rfl ?_); (try (refine gate_guard (by rfl) ?_; dsimp only)); refine box_event ?hg (N := 1) ?hd (cs := #[.slice A0_0 l0_0.length c0_0, .slice A0_1 l0_1.length c0_1]) (t := 25) ?hr ?_; (case hd => rfl); (case hg => rfl); (case hr => first | (go_simp; done) | (go_simp; rfl)); intro gb437 hg w82 hbox hb; have n0_ := Aside0.mk (below_step (by repeat (first | (with_reducible first | exact HB.out | apply below_alloc | apply pw_below_drewN | apply below_drew1) | exact HB.out)) hb); have n1_ := Aside0.mk (hbox); have n2_ := Aside0.mk ((by rw [hg]; exact (below_size (by repeat (first | (with_reducible first | exact HB.out | apply below_alloc | apply pw_below_drewN | apply below_drew1) | exact HB.out))) : w.heap.size ≤ gb437)); have n3_ := Aside0.mk ((by rw [hg]; exact (below_size (by repeat (first | (with_reducible first | exact HB.out | apply below_alloc | apply pw_below_drewN | apply below_drew1) | exact HB.out))) : w.heap.size ≤ gb437)); clear HB; have HB := n0_; have BK437 := n1_; have GW437 := n2_; have GE437 := n3_; clear n0_ n1_ n2_ n3_; clear hb hbox hg; have hcz83_0 : w82.cell? ⟨gb437, 0, none⟩ = some (.slice A0_0 l0_0.length c0_0) := (blk_cell BK437.out 0).trans rfl; have hcz83_1 : w82.cell? ⟨gb437, 1, none⟩ = some (.slice A0_1 l0_1.length c0_1) := (blk_cell BK437.out 1).trans rfl; have hfz83_0 := blk_frozen BK437.out 0; have hfz83_1 := blk_frozen BK437.out 1) | (go_at_call 22; (with_reducible refine (outline_Right.calls k _ _ l0_0 _ _ l0_1 false _ ?side1 ?side2 ?side3 ?side4 A2.out).mono ?_); (case side1 => repeat (first | exact (Kd.C_below HR0_0.out HB.out) | (with_reducible refine Kd.C_alloc ?_ _) | (with_reducible refine Kd.C_drewN ?_ _) | (with_reducible refine Kd.C_drew ?_))); (case side2 => exact HC0_0.out); (case side3 => repeat (first | exact (Kd.C_below HR0_1.out HB.out) | (with_reducible refine Kd.C_alloc ?_ _) | (with_reducible refine Kd.C_drewN ?_ _) | (with_reducible refine Kd.C_drew ?_))); (case side4 => exact HC0_1.out); rintro e w84 ⟨rfl, hb⟩; have n0_ := Aside0.mk (blk_below (g := gb437) (o := .cells #[.slice A0_0 l0_0.length c0_0, .slice A0_1 l0_1.length c0_1] 25 (0, 0)) (by (with_reducible repeat (first | refine blk_drewN ?_ _ | refine blk_drew ?_ | refine blk_alloc ?_ _)); exact BK437.out) hb); have n1_ := Aside0.mk (below_step (by repeat (first | (with_reducible first | exact HB.out | apply below_alloc | apply pw_below_drewN | apply below_drew1 | refine below_set ?_ GE437.out) | exact HB.out)) hb); clear BK437; clear HB; have BK437 := n0_; have HB := n1_; clear n0_ n1_; (try clear hb); (try clear hb2); (try clear hk); (try clear hi)) | (go_at_call 21; (with_reducible refine (fleuronlaw03_drawn.calls  t439 _ A81.out).mono ?_); rintro e w85 ⟨rfl, hb⟩; have n0_ := Aside0.mk (blk_below (g := gb437) (o := .cells #[.slice A0_0 l0_0.length c0_0, .slice A0_1 l0_1.length c0_1] 25 (0, 0)) (by (with_reducible repeat (first | refine blk_drewN ?_ _ | refine blk_drew ?_ | refine blk_alloc ?_ _)); exact BK437.out) hb); have n1_ := Aside0.mk (below_step (by repeat (first | (with_reducible first | exact HB.out | apply below_alloc | apply pw_below_drewN | apply below_drew1 | refine below_set ?_ GE437.out) | exact HB.out)) hb); clear BK437; clear HB; have BK437 := n0_; have HB := n1_; clear n0_ n1_; (try clear hb); (try clear hb2); (try clear hk); (try clear hi)))
    repeat (go_quiet (first | ((with_reducible refine gate_dst (N := 1) rfl ?_); (try (refine gate_guard (by rfl) ?_; dsimp only)); refine box_event ?hg (N := 1) ?hd (cs := #[.slice A0_0 l0_0.length c0_0, .slice A0_1 l0_1.length c0_1]) (t := 25) ?hr ?_; (case hd => rfl); (case hg => rfl); (case hr => first | (go_simp; done) | (go_simp; rfl)); intro gb437 hg w82 hbox hb; have n0_ := Aside0.mk (below_step (by repeat (first | (with_reducible first | exact HB.out | apply below_alloc | apply pw_below_drewN | apply below_drew1) | exact HB.out)) hb); have n1_ := Aside0.mk (hbox); have n2_ := Aside0.mk ((by rw [hg]; exact (below_size (by repeat (first | (with_reducible first | exact HB.out | apply below_alloc | apply pw_below_drewN | apply below_drew1) | exact HB.out))) : w.heap.size ≤ gb437)); have n3_ := Aside0.mk ((by rw [hg]; exact (below_size (by repeat (first | (with_reducible first | exact HB.out | apply below_alloc | apply pw_below_drewN | apply below_drew1) | exact HB.out))) : w.heap.size ≤ gb437)); clear HB; have HB := n0_; have BK437 := n1_; have GW437 := n2_; have GE437 := n3_; clear n0_ n1_ n2_ n3_; clear hb hbox hg; have hcz83_0 : w82.cell? ⟨gb437, 0, none⟩ = some (.slice A0_0 l0_0.length c0_0) := (blk_cell BK437.out 0).trans rfl; have hcz83_1 : w82.cell? ⟨gb437, 1, none⟩ = some (.slice A0_1 l0_1.length c0_1) := (blk_cell BK437.out 1).trans rfl; have hfz83_0 := blk_frozen BK437.out 0; have hfz83_1 := blk_frozen BK437.out 1) | (go_at_call 22; (with_reducible refine (outline_Right.calls k _ _ l0_0 _ _ l0_1 false _ ?side1 ?side2 ?side3 ?side4 A2.out).mono ?_); (case side1 => repeat (first | exact (Kd.C_below HR0_0.out HB.out) | (with_reducible refine Kd.C_alloc ?_ _) | (with_reducible refine Kd.C_drewN ?_ _) | (with_reducible refine Kd.C_drew ?_))); (case side2 => exact HC0_0.out); (case side3 => repeat (first | exact (Kd.C_below HR0_1.out HB.out) | (with_reducible refine Kd.C_alloc ?_ _) | (with_reducible refine Kd.C_drewN ?_ _) | (with_reducible refine Kd.C_drew ?_))); (case side4 => exact HC0_1.out); rintro e w84 ⟨rfl, hb⟩; have n0_ := Aside0.mk (blk_below (g := gb437) (o := .cells #[.slice A0_0 l0_0.length c0_0, .slice A0_1 l0_1.length c0_1] 25 (0, 0)) (by (with_reducible repeat (first | refine blk_drewN ?_ _ | refine blk_drew ?_ | refine blk_alloc ?_ _)); exact BK437.out) hb); have n1_ := Aside0.mk (below_step (by repeat (first | (with_reducible first | exact HB.out | apply below_alloc | apply pw_below_drewN | apply below_drew1 | refine below_set ?_ GE437.out) | exact HB.out)) hb); clear BK437; clear HB; have BK437 := n0_; have HB := n1_; clear n0_ n1_; (try clear hb); (try clear hb2); (try clear hk); (try clear hi)) | (go_at_call 21; (with_reducible refine (fleuronlaw03_drawn.calls  t439 _ A81.out).mono ?_); rintro e w85 ⟨rfl, hb⟩; have n0_ := Aside0.mk (blk_below (g := gb437) (o := .cells #[.slice A0_0 l0_0.length c0_0, .slice A0_1 l0_1.length c0_1] 25 (0, 0)) (by (with_reducible repeat (first | refine blk_drewN ?_ _ | refine blk_drew ?_ | refine blk_alloc ?_ _)); exact BK437.out) hb); have n1_ := Aside0.mk (below_step (by repeat (first | (with_reducible first | exact HB.out | apply below_alloc | apply pw_below_drewN | apply below_drew1 | refine below_set ?_ GE437.out) | exact HB.out)) hb); clear BK437; clear HB; have BK437 := n0_; have HB := n1_; clear n0_ n1_; (try clear hb); (try clear hb2); (try clear hk); (try clear hi))); try go_wp2_with (first | ((with_reducible refine gate_dst (N := 1) rfl ?_); (try (refine gate_guard (by rfl) ?_; dsimp only)); refine box_event ?hg (N := 1) ?hd (cs := #[.slice A0_0 l0_0.length c0_0, .slice A0_1 l0_1.length c0_1]) (t := 25) ?hr ?_; (case hd => rfl); (case hg => rfl); (case hr => first | (go_simp; done) | (go_simp; rfl)); intro gb437 hg w82 hbox hb; have n0_ := Aside0.mk (below_step (by repeat (first | (with_reducible first | exact HB.out | apply below_alloc | apply pw_below_drewN | apply below_drew1) | exact HB.out)) hb); have n1_ := Aside0.mk (hbox); have n2_ := Aside0.mk ((by rw [hg]; exact (below_size (by repeat (first | (with_reducible first | exact HB.out | apply below_alloc | apply pw_below_drewN | apply below_drew1) | exact HB.out))) : w.heap.size ≤ gb437)); have n3_ := Aside0.mk ((by rw [hg]; exact (below_size (by repeat (first | (with_reducible first | exact HB.out | apply below_alloc | apply pw_below_drewN | apply below_drew1) | exact HB.out))) : w.heap.size ≤ gb437)); clear HB; have HB := n0_; have BK437 := n1_; have GW437 := n2_; have GE437 := n3_; clear n0_ n1_ n2_ n3_; clear hb hbox hg; have hcz83_0 : w82.cell? ⟨gb437, 0, none⟩ = some (.slice A0_0 l0_0.length c0_0) := (blk_cell BK437.out 0).trans rfl; have hcz83_1 : w82.cell? ⟨gb437, 1, none⟩ = some (.slice A0_1 l0_1.length c0_1) := (blk_cell BK437.out 1).trans rfl; have hfz83_0 := blk_frozen BK437.out 0; have hfz83_1 := blk_frozen BK437.out 1) | (go_at_call 22; (with_reducible refine (outline_Right.calls k _ _ l0_0 _ _ l0_1 false _ ?side1 ?side2 ?side3 ?side4 A2.out).mono ?_); (case side1 => repeat (first | exact (Kd.C_below HR0_0.out HB.out) | (with_reducible refine Kd.C_alloc ?_ _) | (with_reducible refine Kd.C_drewN ?_ _) | (with_reducible refine Kd.C_drew ?_))); (case side2 => exact HC0_0.out); (case side3 => repeat (first | exact (Kd.C_below HR0_1.out HB.out) | (with_reducible refine Kd.C_alloc ?_ _) | (with_reducible refine Kd.C_drewN ?_ _) | (with_reducible refine Kd.C_drew ?_))); (case side4 => exact HC0_1.out); rintro e w84 ⟨rfl, hb⟩; have n0_ := Aside0.mk (blk_below (g := gb437) (o := .cells #[.slice A0_0 l0_0.length c0_0, .slice A0_1 l0_1.length c0_1] 25 (0, 0)) (by (with_reducible repeat (first | refine blk_drewN ?_ _ | refine blk_drew ?_ | refine blk_alloc ?_ _)); exact BK437.out) hb); have n1_ := Aside0.mk (below_step (by repeat (first | (with_reducible first | exact HB.out | apply below_alloc | apply pw_below_drewN | apply below_drew1 | refine below_set ?_ GE437.out) | exact HB.out)) hb); clear BK437; clear HB; have BK437 := n0_; have HB := n1_; clear n0_ n1_; (try clear hb); (try clear hb2); (try clear hk); (try clear hi)) | (go_at_call 21; (with_reducible refine (fleuronlaw03_drawn.calls  t439 _ A81.out).mono ?_); rintro e w85 ⟨rfl, hb⟩; have n0_ := Aside0.mk (blk_below (g := gb437) (o := .cells #[.slice A0_0 l0_0.length c0_0, .slice A0_1 l0_1.length c0_1] 25 (0, 0)) (by (with_reducible repeat (first | refine blk_drewN ?_ _ | refine blk_drew ?_ | refine blk_alloc ?_ _)); exact BK437.out) hb); have n1_ := Aside0.mk (below_step (by repeat (first | (with_reducible first | exact HB.out | apply below_alloc | apply pw_below_drewN | apply below_drew1 | refine below_set ?_ GE437.out) | exact HB.out)) hb); clear BK437; clear HB; have BK437 := n0_; have HB := n1_; clear n0_ n1_; (try clear hb); (try clear hb2); (try clear hk); (try clear hi))))
    go_ret
    exact ⟨by first | rfl | (simp [errW_none, errW_some] <;> rfl) | (simp [*, errW_none, errW_some] <;> rfl), by repeat (first | (with_reducible first | exact HB.out | apply below_alloc | apply pw_below_drewN | apply below_drew1 | refine below_set ?_ GE437.out) | exact HB.out)⟩

end Go.Proofs.Ytbmklpcheopgoaa.H
