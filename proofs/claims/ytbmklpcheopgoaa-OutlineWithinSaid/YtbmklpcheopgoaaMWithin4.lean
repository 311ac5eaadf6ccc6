/- Texts of this session, one behind the other, for the statement OutlineWithin: what its functions compute, plain facts, and (last) its row. No condition besides those stated. -/
import Derived.Test.YtbmklpcheopgoaaMWithin1
import Derived.Test.YtbmklpcheopgoaaMWithin2
import Derived.Test.YtbmklpcheopgoaaMWithin3
import Derived.Test.YtbmklpcheopgoaaWWords
import Derived.ChangeArms
import Derived.Deep.Slices
import Derived.OpenShut
import Derived.DataReads
set_option linter.unusedVariables false
set_option linter.unusedSimpArgs false
namespace Go.Proofs.Ytbmklpcheopgoaa.H
open Go.RowKit Go.Proofs.YtbmklpcheopgoaaW.PrintWords Go.Proofs.YtbmklpcheopgoaaW.PrintLast Go.Proofs.YtbmklpcheopgoaaW.PrintMore
attribute [local go_sem] max2_int min2_int max_two min_two max_three min_three max_four min_four   -- for this text's walks alone
set_option linter.unusedVariables false
set_option linter.unusedSimpArgs false

/-! ### fleuronlaw03_OutlineWithin: function 9 -/
mutual
def fleuronlaw03_OutlineWithin.j0 : Nat → List (List (S52)) → List (List (S33)) → Bool → Option (Bool)
 | 0, _, _, _ => none
 | k + 1, x5, x6, x50 => if x50 = true then (none) else (fleuronlaw03_OutlineWithin.l0 k x5 x6 0)
def fleuronlaw03_OutlineWithin.l0 : Nat → List (List (S52)) → List (List (S33)) → Int → Option (Bool)
 | 0, _, _, _ => none
 | k + 1, x5, x6, x8 => if x8 < (x5.length : Int) then (fleuronlaw03_OutlineWithin.l1 k x5 x6 x8 0 0) else ((fleuronlaw03_drawn.f).bind fun t492 => (some t492))
def fleuronlaw03_OutlineWithin.l1 : Nat → List (List (S52)) → List (List (S33)) → Int → Int → Int → Option (Bool)
 | 0, _, _, _, _, _ => none
 | k + 1, x5, x6, x8, x9, x10 => if 0 ≤ x8 then (if x8 < (x6.length : Int) then (if x10 < ((rd_L3 x6 x8).length : Int) then (if 0 ≤ x10 then (if ((rd_T33 (rd_L3 x6 x8) x10).f2 = true) then (if ((rd_L3 x6 x8).length : Int) = 0 then (none) else (if 0 ≤ (Int.tmod (wrap64 (x10 + 1)) ((rd_L3 x6 x8).length : Int)) then (if (Int.tmod (wrap64 (x10 + 1)) ((rd_L3 x6 x8).length : Int)) < ((rd_L3 x6 x8).length : Int) then (if (rd_T33 (rd_L3 x6 x8) (Int.tmod (wrap64 (x10 + 1)) ((rd_L3 x6 x8).length : Int))).f2 = true then (fleuronlaw03_OutlineWithin.l1 k x5 x6 x8 (wrap64 (x9 + 1)) (wrap64 (x10 + 1))) else (fleuronlaw03_OutlineWithin.l1 k x5 x6 x8 x9 (wrap64 (x10 + 1)))) else (none)) else (none))) else (fleuronlaw03_OutlineWithin.l1 k x5 x6 x8 (wrap64 (x9 + 8)) (wrap64 (x10 + 1)))) else (none)) else ((outline_Box.f (rd_L3 x6 x8) ([] : List Int)).bind fun bt500 => (if x8 < (x5.length : Int) then (if x9 = ((rd_L11 x5 x8).length : Int) then (fleuronlaw03_OutlineWithin.j3 k x5 x6 x8 (!bt500.2.2.2.2.2.2) bt500.1 bt500.2.1 bt500.2.2.1 bt500.2.2.2.1 bt500.2.2.2.2.1 bt500.2.2.2.2.2.1) else (fleuronlaw03_OutlineWithin.j3 k x5 x6 x8 true bt500.1 bt500.2.1 bt500.2.2.1 bt500.2.2.2.1 bt500.2.2.2.2.1 bt500.2.2.2.2.2.1)) else (none)))) else (none)) else (none)
def fleuronlaw03_OutlineWithin.j3 : Nat → List (List (S52)) → List (List (S33)) → Int → Bool → Int → Int → Bool → Int → Int → Bool → Option (Bool)
 | 0, _, _, _, _, _, _, _, _, _, _ => none
 | k + 1, x5, x6, x8, x114, x508000, x508001, x508002, x509000, x509001, x509002 => if x114 = true then (none) else (fleuronlaw03_OutlineWithin.l2 k x5 x6 x8 0 x508000 x508001 x508002 x509000 x509001 x509002)
def fleuronlaw03_OutlineWithin.l2 : Nat → List (List (S52)) → List (List (S33)) → Int → Int → Int → Int → Bool → Int → Int → Bool → Option (Bool)
 | 0, _, _, _, _, _, _, _, _, _, _ => none
 | k + 1, x5, x6, x8, x14, x508000, x508001, x508002, x509000, x509001, x509002 => if 0 ≤ x8 then (if x8 < (x5.length : Int) then (if x14 < ((rd_L11 x5 x8).length : Int) then (if 0 ≤ x14 then (if ((rd_T52 (rd_L11 x5 x8) x14).f0) < x508000 then (none) else (if ((rd_T52 (rd_L11 x5 x8) x14).f0) > x509000 then (none) else (if ((rd_T52 (rd_L11 x5 x8) x14).f1) < x508001 then (none) else (if ((rd_T52 (rd_L11 x5 x8) x14).f1) > x509001 then (none) else (fleuronlaw03_OutlineWithin.l2 k x5 x6 x8 (wrap64 (x14 + 1)) x508000 x508001 x508002 x509000 x509001 x509002))))) else (none)) else (fleuronlaw03_OutlineWithin.l0 k x5 x6 (wrap64 (x8 + 1)))) else (none)) else (none)
end
def fleuronlaw03_OutlineWithin.f (k : Nat) (l0_0 : List (S33)) (l0_1 : List Int) : Option (Bool) := (outline_Right.f k l0_0 l0_1).bind fun t477 => (if t477 = true then ((fleuronlaw03_grid.f k l0_0 l0_1 0 0).bind fun bt479 => ((outline_Lines.f bt479.1 bt479.2 l0_1).bind fun t485 => ((fleuronlaw03_told.f l0_0 l0_1).bind fun bt488 => (if bt488.2 = true then (if (t485.length : Int) = (bt488.1.length : Int) then (fleuronlaw03_OutlineWithin.j0 k t485 bt488.1 ((bt488.1.length : Int) != (l0_1.length : Int))) else (fleuronlaw03_OutlineWithin.j0 k t485 bt488.1 true)) else (fleuronlaw03_OutlineWithin.j0 k t485 bt488.1 true))))) else ((fleuronlaw03_drawn.f).bind fun t478 => (some t478)))
theorem fleuronlaw03_OutlineWithin.mono_l : ∀ k, (∀ y0 y1 y2, LeO (fleuronlaw03_OutlineWithin.j0 k y0 y1 y2) (fleuronlaw03_OutlineWithin.j0 (k + 1) y0 y1 y2)) ∧ (∀ y0 y1 y2, LeO (fleuronlaw03_OutlineWithin.l0 k y0 y1 y2) (fleuronlaw03_OutlineWithin.l0 (k + 1) y0 y1 y2)) ∧ (∀ y0 y1 y2 y3 y4, LeO (fleuronlaw03_OutlineWithin.l1 k y0 y1 y2 y3 y4) (fleuronlaw03_OutlineWithin.l1 (k + 1) y0 y1 y2 y3 y4)) ∧ (∀ y0 y1 y2 y3 y4 y5 y6 y7 y8 y9, LeO (fleuronlaw03_OutlineWithin.j3 k y0 y1 y2 y3 y4 y5 y6 y7 y8 y9) (fleuronlaw03_OutlineWithin.j3 (k + 1) y0 y1 y2 y3 y4 y5 y6 y7 y8 y9)) ∧ (∀ y0 y1 y2 y3 y4 y5 y6 y7 y8 y9, LeO (fleuronlaw03_OutlineWithin.l2 k y0 y1 y2 y3 y4 y5 y6 y7 y8 y9) (fleuronlaw03_OutlineWithin.l2 (k + 1) y0 y1 y2 y3 y4 y5 y6 y7 y8 y9))
 | 0 => ⟨fun _ _ _ r h => by simp [fleuronlaw03_OutlineWithin.j0] at h, fun _ _ _ r h => by simp [fleuronlaw03_OutlineWithin.l0] at h, fun _ _ _ _ _ r h => by simp [fleuronlaw03_OutlineWithin.l1] at h, fun _ _ _ _ _ _ _ _ _ _ r h => by simp [fleuronlaw03_OutlineWithin.j3] at h, fun _ _ _ _ _ _ _ _ _ _ r h => by simp [fleuronlaw03_OutlineWithin.l2] at h⟩
 | k + 1 => by
  obtain ⟨ih0, ih1, ih2, ih3, ih4⟩ := fleuronlaw03_OutlineWithin.mono_l k
  refine ⟨?_, ?_, ?_, ?_, ?_⟩
  ·
   intro y0 y1 y2
   unfold fleuronlaw03_OutlineWithin.j0
   repeat' first
   | (with_reducible exact ih0 _ _ _)
   | (with_reducible exact ih1 _ _ _)
   | (with_reducible exact ih2 _ _ _ _ _)
   | (with_reducible exact ih3 _ _ _ _ _ _ _ _ _ _)
   | (with_reducible exact ih4 _ _ _ _ _ _ _ _ _ _)
   | (with_reducible exact fleuronlaw03_grid.mono _ _ _ _ _)
   | (with_reducible exact outline_Right.mono _ _ _)
   | (with_reducible exact LeO.refl _)
   | (with_reducible exact LeO.none _)
   | (with_reducible refine LeO.ite ?_ ?_)
   | (with_reducible refine LeO.bind ?_ (fun _ => ?_))
   | exact ih0 _ _ _
   | exact ih1 _ _ _
   | exact ih2 _ _ _ _ _
   | exact ih3 _ _ _ _ _ _ _ _ _ _
   | exact ih4 _ _ _ _ _ _ _ _ _ _
   | exact fleuronlaw03_grid.mono _ _ _ _ _
   | exact outline_Right.mono _ _ _
   | exact LeO.none _
   | refine LeO.ite ?_ ?_
   | refine LeO.bind ?_ (fun _ => ?_)
  ·
   intro y0 y1 y2
   unfold fleuronlaw03_OutlineWithin.l0
   repeat' first
   | (with_reducible exact ih0 _ _ _)
   | (with_reducible exact ih1 _ _ _)
   | (with_reducible exact ih2 _ _ _ _ _)
   | (with_reducible exact ih3 _ _ _ _ _ _ _ _ _ _)
   | (with_reducible exact ih4 _ _ _ _ _ _ _ _ _ _)
   | (with_reducible exact fleuronlaw03_grid.mono _ _ _ _ _)
   | (with_reducible exact outline_Right.mono _ _ _)
   | (with_reducible exact LeO.refl _)
   | (with_reducible exact LeO.none _)
   | (with_reducible refine LeO.ite ?_ ?_)
   | (with_reducible refine LeO.bind ?_ (fun _ => ?_))
   | exact ih0 _ _ _
   | exact ih1 _ _ _
   | exact ih2 _ _ _ _ _
   | exact ih3 _ _ _ _ _ _ _ _ _ _
   | exact ih4 _ _ _ _ _ _ _ _ _ _
   | exact fleuronlaw03_grid.mono _ _ _ _ _
   | exact outline_Right.mono _ _ _
   | exact LeO.none _
   | refine LeO.ite ?_ ?_
   | refine LeO.bind ?_ (fun _ => ?_)
  ·
   intro y0 y1 y2 y3 y4
   unfold fleuronlaw03_OutlineWithin.l1
   repeat' first
   | (with_reducible exact ih0 _ _ _)
   | (with_reducible exact ih1 _ _ _)
   | (with_reducible exact ih2 _ _ _ _ _)
   | (with_reducible exact ih3 _ _ _ _ _ _ _ _ _ _)
   | (with_reducible exact ih4 _ _ _ _ _ _ _ _ _ _)
   | (with_reducible exact fleuronlaw03_grid.mono _ _ _ _ _)
   | (with_reducible exact outline_Right.mono _ _ _)
   | (with_reducible exact LeO.refl _)
   | (with_reducible exact LeO.none _)
   | (with_reducible refine LeO.ite ?_ ?_)
   | (with_reducible refine LeO.bind ?_ (fun _ => ?_))
   | exact ih0 _ _ _
   | exact ih1 _ _ _
   | exact ih2 _ _ _ _ _
   | exact ih3 _ _ _ _ _ _ _ _ _ _
   | exact ih4 _ _ _ _ _ _ _ _ _ _
   | exact fleuronlaw03_grid.mono _ _ _ _ _
   | exact outline_Right.mono _ _ _
   | exact LeO.none _
   | refine LeO.ite ?_ ?_
   | refine LeO.bind ?_ (fun _ => ?_)
  ·
   intro y0 y1 y2 y3 y4 y5 y6 y7 y8 y9
   unfold fleuronlaw03_OutlineWithin.j3
   repeat' first
   | (with_reducible exact ih0 _ _ _)
   | (with_reducible exact ih1 _ _ _)
   | (with_reducible exact ih2 _ _ _ _ _)
   | (with_reducible exact ih3 _ _ _ _ _ _ _ _ _ _)
   | (with_reducible exact ih4 _ _ _ _ _ _ _ _ _ _)
   | (with_reducible exact fleuronlaw03_grid.mono _ _ _ _ _)
   | (with_reducible exact outline_Right.mono _ _ _)
   | (with_reducible exact LeO.refl _)
   | (with_reducible exact LeO.none _)
   | (with_reducible refine LeO.ite ?_ ?_)
   | (with_reducible refine LeO.bind ?_ (fun _ => ?_))
   | exact ih0 _ _ _
   | exact ih1 _ _ _
   | exact ih2 _ _ _ _ _
   | exact ih3 _ _ _ _ _ _ _ _ _ _
   | exact ih4 _ _ _ _ _ _ _ _ _ _
   | exact fleuronlaw03_grid.mono _ _ _ _ _
   | exact outline_Right.mono _ _ _
   | exact LeO.none _
   | refine LeO.ite ?_ ?_
   | refine LeO.bind ?_ (fun _ => ?_)
  ·
   intro y0 y1 y2 y3 y4 y5 y6 y7 y8 y9
   unfold fleuronlaw03_OutlineWithin.l2
   repeat' first
   | (with_reducible exact ih0 _ _ _)
   | (with_reducible exact ih1 _ _ _)
   | (with_reducible exact ih2 _ _ _ _ _)
   | (with_reducible exact ih3 _ _ _ _ _ _ _ _ _ _)
   | (with_reducible exact ih4 _ _ _ _ _ _ _ _ _ _)
   | (with_reducible exact fleuronlaw03_grid.mono _ _ _ _ _)
   | (with_reducible exact outline_Right.mono _ _ _)
   | (with_reducible exact LeO.refl _)
   | (with_reducible exact LeO.none _)
   | (with_reducible refine LeO.ite ?_ ?_)
   | (with_reducible refine LeO.bind ?_ (fun _ => ?_))
   | exact ih0 _ _ _
   | exact ih1 _ _ _
   | exact ih2 _ _ _ _ _
   | exact ih3 _ _ _ _ _ _ _ _ _ _
   | exact ih4 _ _ _ _ _ _ _ _ _ _
   | exact fleuronlaw03_grid.mono _ _ _ _ _
   | exact outline_Right.mono _ _ _
   | exact LeO.none _
   | refine LeO.ite ?_ ?_
   | refine LeO.bind ?_ (fun _ => ?_)
theorem fleuronlaw03_OutlineWithin.mono : ∀ a0 a1 k, LeO (fleuronlaw03_OutlineWithin.f k a0 a1) (fleuronlaw03_OutlineWithin.f (k + 1) a0 a1) := by
 intro a0 a1 k
 obtain ⟨ih0, ih1, ih2, ih3, ih4⟩ := fleuronlaw03_OutlineWithin.mono_l k
 unfold fleuronlaw03_OutlineWithin.f
 repeat' first
   | (with_reducible exact ih0 _ _ _)
   | (with_reducible exact ih1 _ _ _)
   | (with_reducible exact ih2 _ _ _ _ _)
   | (with_reducible exact ih3 _ _ _ _ _ _ _ _ _ _)
   | (with_reducible exact ih4 _ _ _ _ _ _ _ _ _ _)
   | (with_reducible exact fleuronlaw03_grid.mono _ _ _ _ _)
   | (with_reducible exact outline_Right.mono _ _ _)
   | (with_reducible exact LeO.refl _)
   | (with_reducible exact LeO.none _)
   | (with_reducible refine LeO.ite ?_ ?_)
   | (with_reducible refine LeO.bind ?_ (fun _ => ?_))
   | exact ih0 _ _ _
   | exact ih1 _ _ _
   | exact ih2 _ _ _ _ _
   | exact ih3 _ _ _ _ _ _ _ _ _ _
   | exact ih4 _ _ _ _ _ _ _ _ _ _
   | exact fleuronlaw03_grid.mono _ _ _ _ _
   | exact outline_Right.mono _ _ _
   | exact LeO.none _
   | refine LeO.ite ?_ ?_
   | refine LeO.bind ?_ (fun _ => ?_)
set_option maxHeartbeats 8000000 in
set_option maxRecDepth 100000 in
theorem fleuronlaw03_OutlineWithin.calls (k : Nat) (A0_0 : Option Addr) (c0_0 : Nat) (l0_0 : List (S33)) (A0_1 : Option Addr) (c0_1 : Nat) (l0_1 : List Int) (r : Bool) (w : World) (hr0_0 : Kd.C k33 w A0_0 l0_0.length l0_0) (hc0_0 : l0_0.length ≤ c0_0) (hr0_1 : Kd.C (Kd.int .i64) w A0_1 l0_1.length l0_1) (hc0_1 : l0_1.length ≤ c0_1) (h : fleuronlaw03_OutlineWithin.f k l0_0 l0_1 = some r) :
  Calls Try.prog 9 #[.agg #[.slice A0_0 l0_0.length c0_0, .slice A0_1 l0_1.length c0_1]] w fun e w' => e = .returned (.bool r) ∧ Below w.heap.size w w' := by
 have hu25 := Try.underlying25
 have hu33 := Try.underlying33
 have HR0_0 := aM hr0_0
 have HC0_0 := aM hc0_0
 clear hr0_0 hc0_0
 have HR0_1 := aM hr0_1
 have HC0_1 := aM hc0_1
 clear hr0_1 hc0_1
 have HB := aM (Below.refl w.heap.size w)
 have H : ((outline_Right.f k l0_0 l0_1).bind fun t477 => (if t477 = true then ((fleuronlaw03_grid.f k l0_0 l0_1 0 0).bind fun bt479 => ((outline_Lines.f bt479.1 bt479.2 l0_1).bind fun t485 => ((fleuronlaw03_told.f l0_0 l0_1).bind fun bt488 => (if bt488.2 = true then (if (t485.length : Int) = (bt488.1.length : Int) then (fleuronlaw03_OutlineWithin.j0 k t485 bt488.1 ((bt488.1.length : Int) != (l0_1.length : Int))) else (fleuronlaw03_OutlineWithin.j0 k t485 bt488.1 true)) else (fleuronlaw03_OutlineWithin.j0 k t485 bt488.1 true))))) else ((fleuronlaw03_drawn.f).bind fun t478 => (some t478)))) = some r := h
 clear h
 replace H := Option.bind_eq_some_iff.mp H
 obtain ⟨t477, A20, H⟩ := H
 replace H : (if t477 = true then ((fleuronlaw03_grid.f k l0_0 l0_1 0 0).bind fun bt479 => ((outline_Lines.f bt479.1 bt479.2 l0_1).bind fun t485 => ((fleuronlaw03_told.f l0_0 l0_1).bind fun bt488 => (if bt488.2 = true then (if (t485.length : Int) = (bt488.1.length : Int) then (fleuronlaw03_OutlineWithin.j0 k t485 bt488.1 ((bt488.1.length : Int) != (l0_1.length : Int))) else (fleuronlaw03_OutlineWithin.j0 k t485 bt488.1 true)) else (fleuronlaw03_OutlineWithin.j0 k t485 bt488.1 true))))) else ((fleuronlaw03_drawn.f).bind fun t478 => (some t478))) = some r := H
 have A2 := aM A20
 clear A20
 by_cases c3 : t477 = true
 ·
  subst c3
  have H1 : ((fleuronlaw03_grid.f k l0_0 l0_1 0 0).bind fun bt479 => ((outline_Lines.f bt479.1 bt479.2 l0_1).bind fun t485 => ((fleuronlaw03_told.f l0_0 l0_1).bind fun bt488 => (if bt488.2 = true then (if (t485.length : Int) = (bt488.1.length : Int) then (fleuronlaw03_OutlineWithin.j0 k t485 bt488.1 ((bt488.1.length : Int) != (l0_1.length : Int))) else (fleuronlaw03_OutlineWithin.j0 k t485 bt488.1 true)) else (fleuronlaw03_OutlineWithin.j0 k t485 bt488.1 true))))) = some r := by rw [if_pos rfl] at H; exact H
  clear H
  have H := H1
  clear H1
  replace H := Option.bind_eq_some_iff.mp H
  obtain ⟨⟨t479, t482⟩, A40, H⟩ := H
  replace H : ((outline_Lines.f t479 t482 l0_1).bind fun t485 => ((fleuronlaw03_told.f l0_0 l0_1).bind fun bt488 => (if bt488.2 = true then (if (t485.length : Int) = (bt488.1.length : Int) then (fleuronlaw03_OutlineWithin.j0 k t485 bt488.1 ((bt488.1.length : Int) != (l0_1.length : Int))) else (fleuronlaw03_OutlineWithin.j0 k t485 bt488.1 true)) else (fleuronlaw03_OutlineWithin.j0 k t485 bt488.1 true)))) = some r := H
  have A4 := aM A40
  clear A40
  replace H := Option.bind_eq_some_iff.mp H
  obtain ⟨t485, A50, H⟩ := H
  replace H : ((fleuronlaw03_told.f l0_0 l0_1).bind fun bt488 => (if bt488.2 = true then (if (t485.length : Int) = (bt488.1.length : Int) then (fleuronlaw03_OutlineWithin.j0 k t485 bt488.1 ((bt488.1.length : Int) != (l0_1.length : Int))) else (fleuronlaw03_OutlineWithin.j0 k t485 bt488.1 true)) else (fleuronlaw03_OutlineWithin.j0 k t485 bt488.1 true))) = some r := H
  have A5 := aM A50
  clear A50
  replace H := Option.bind_eq_some_iff.mp H
  obtain ⟨⟨t488, t491⟩, A60, H⟩ := H
  replace H : (if t491 = true then (if (t485.length : Int) = (t488.length : Int) then (fleuronlaw03_OutlineWithin.j0 k t485 t488 ((t488.length : Int) != (l0_1.length : Int))) else (fleuronlaw03_OutlineWithin.j0 k t485 t488 true)) else (fleuronlaw03_OutlineWithin.j0 k t485 t488 true)) = some r := H
  have A6 := aM A60
  clear A60
  have HC7 := aM H
  clear H
  go_enter Try.func9, Try.ntmps9
  go_upto_region 6 with (first | ((with_reducible refine gate_dst (N := 1) rfl ?_); (try (refine gate_guard (by rfl) ?_; dsimp only)); refine box_event ?hg (N := 1) ?hd (cs := #[.slice A0_0 l0_0.length c0_0, .slice A0_1 l0_1.length c0_1]) (t := 25) ?hr ?_; (case hd => rfl); (case hg => rfl); (case hr => first | (go_simp; done) | (go_simp; rfl)); intro gb476 hg w8 hbox hb; have n0_ := aM (below_step (by repeat (first | (with_reducible first | exact HB.out | apply bA | apply bN | apply bD) | exact HB.out)) hb); have n1_ := aM (hbox); have n2_ := aM ((by rw [hg]; exact (below_size (by repeat (first | (with_reducible first | exact HB.out | apply bA | apply bN | apply bD) | exact HB.out))) : w.heap.size ≤ gb476)); have n3_ := aM ((by rw [hg]; exact (below_size (by repeat (first | (with_reducible first | exact HB.out | apply bA | apply bN | apply bD) | exact HB.out))) : w.heap.size ≤ gb476)); clear HB; have HB := n0_; have BK476 := n1_; have GW476 := n2_; have GE476 := n3_; clear n0_ n1_ n2_ n3_; clear hb hbox hg; have hcz9_0 : w8.cell? ⟨gb476, 0, none⟩ = some (.slice A0_0 l0_0.length c0_0) := (blk_cell BK476.out 0).trans rfl; have hcz9_1 : w8.cell? ⟨gb476, 1, none⟩ = some (.slice A0_1 l0_1.length c0_1) := (blk_cell BK476.out 1).trans rfl; have hfz9_0 := blk_frozen BK476.out 0; have hfz9_1 := blk_frozen BK476.out 1) | (go_at_call 22; (with_reducible refine (outline_Right.calls k _ _ l0_0 _ _ l0_1 true _ ?side1 ?side2 ?side3 ?side4 A2.out).mono ?_); (case side1 => repeat (first | exact (Kd.C_below HR0_0.out HB.out) | (with_reducible refine Kd.C_alloc ?_ _) | (with_reducible refine Kd.C_drewN ?_ _) | (with_reducible refine Kd.C_drew ?_))); (case side2 => exact HC0_0.out); (case side3 => repeat (first | exact (Kd.C_below HR0_1.out HB.out) | (with_reducible refine Kd.C_alloc ?_ _) | (with_reducible refine Kd.C_drewN ?_ _) | (with_reducible refine Kd.C_drew ?_))); (case side4 => exact HC0_1.out); rintro e w10 ⟨rfl, hb⟩; have n0_ := aM (blk_below (g := gb476) (o := .cells #[.slice A0_0 l0_0.length c0_0, .slice A0_1 l0_1.length c0_1] 25 (0, 0)) (by (with_reducible repeat (first | refine kN ?_ _ | refine kD ?_ | refine kA ?_ _)); exact BK476.out) hb); have n1_ := aM (below_step (by repeat (first | (with_reducible first | exact HB.out | apply bA | apply bN | apply bD | refine bS ?_ GE476.out) | exact HB.out)) hb); clear BK476; clear HB; have BK476 := n0_; have HB := n1_; clear n0_ n1_; (try clear hb); (try clear hb2); (try clear hk); (try clear hi); have hcz11_0 : w10.cell? ⟨gb476, 0, none⟩ = some (.slice A0_0 l0_0.length c0_0) := (blk_cell BK476.out 0).trans rfl; have hcz11_1 : w10.cell? ⟨gb476, 1, none⟩ = some (.slice A0_1 l0_1.length c0_1) := (blk_cell BK476.out 1).trans rfl; have hfz11_0 := blk_frozen BK476.out 0; have hfz11_1 := blk_frozen BK476.out 1) | (go_at_call 34; (with_reducible refine (fleuronlaw03_grid.calls k _ _ l0_0 _ _ l0_1 0 0 t479 t482 _ ?side1 ?side2 ?side3 ?side4 A4.out).mono ?_); (case side1 => repeat (first | exact (Kd.C_below HR0_0.out HB.out) | (with_reducible refine Kd.C_alloc ?_ _) | (with_reducible refine Kd.C_drewN ?_ _) | (with_reducible refine Kd.C_drew ?_))); (case side2 => exact HC0_0.out); (case side3 => repeat (first | exact (Kd.C_below HR0_1.out HB.out) | (with_reducible refine Kd.C_alloc ?_ _) | (with_reducible refine Kd.C_drewN ?_ _) | (with_reducible refine Kd.C_drew ?_))); (case side4 => exact HC0_1.out); rintro e w12 ⟨v480, v483, rfl, ho0, ho1, hb⟩; have n0_ := aM (Kd.R_lower ho0 (below_size (by repeat (first | (with_reducible first | exact HB.out | apply bA | apply bN | apply bD | refine bS ?_ GE476.out) | exact HB.out)))); have n1_ := aM (Kd.R_lower ho1 (below_size (by repeat (first | (with_reducible first | exact HB.out | apply bA | apply bN | apply bD | refine bS ?_ GE476.out) | exact HB.out)))); have n2_ := aM (blk_below (g := gb476) (o := .cells #[.slice A0_0 l0_0.length c0_0, .slice A0_1 l0_1.length c0_1] 25 (0, 0)) (by (with_reducible repeat (first | refine kN ?_ _ | refine kD ?_ | refine kA ?_ _)); exact BK476.out) hb); have n3_ := aM (below_step (by repeat (first | (with_reducible first | exact HB.out | apply bA | apply bN | apply bD | refine bS ?_ GE476.out) | exact HB.out)) hb); clear BK476; clear HB; have HO481 := n0_; have HO484 := n1_; have BK476 := n2_; have HB := n3_; clear n0_ n1_ n2_ n3_; (try clear hb); (try clear hb2); (try clear hk); (try clear hi); (try clear ho0); (try clear ho1); have hcz13_0 : w12.cell? ⟨gb476, 0, none⟩ = some (.slice A0_0 l0_0.length c0_0) := (blk_cell BK476.out 0).trans rfl; have hcz13_1 : w12.cell? ⟨gb476, 1, none⟩ = some (.slice A0_1 l0_1.length c0_1) := (blk_cell BK476.out 1).trans rfl; have hfz13_0 := blk_frozen BK476.out 0; have hfz13_1 := blk_frozen BK476.out 1; obtain ⟨Ao14, co14, eo14⟩ := Kd.R_slice HO481.out; subst eo14; obtain ⟨Ao15, co15, eo15⟩ := Kd.R_slice HO484.out; subst eo15) | (go_at_call 32; (with_reducible refine (outline_Lines.calls _ _ t479 _ _ t482 _ _ l0_1 t485 _ ?side1 ?side2 ?side3 ?side4 ?side5 ?side6 A5.out).mono ?_); (case side1 => repeat (first | exact (Kd.R_reads' HO481.out).2.2 | (with_reducible refine Kd.C_alloc ?_ _) | (with_reducible refine Kd.C_drewN ?_ _) | (with_reducible refine Kd.C_drew ?_))); (case side2 => exact (Kd.R_reads' HO481.out).2.1); (case side3 => repeat (first | exact (Kd.R_reads' HO484.out).2.2 | (with_reducible refine Kd.C_alloc ?_ _) | (with_reducible refine Kd.C_drewN ?_ _) | (with_reducible refine Kd.C_drew ?_))); (case side4 => exact (Kd.R_reads' HO484.out).2.1); (case side5 => repeat (first | exact (Kd.C_below HR0_1.out HB.out) | (with_reducible refine Kd.C_alloc ?_ _) | (with_reducible refine Kd.C_drewN ?_ _) | (with_reducible refine Kd.C_drew ?_))); (case side6 => exact HC0_1.out); rintro e w16 ⟨v486, rfl, ho0, hb⟩; have n0_ := aM (Kd.R_below (by (with_reducible repeat (first | apply Kd.R_alloc | apply Kd.R_drewN | apply Kd.R_drew)); exact HO481.out) hb); have n1_ := aM (Kd.R_below (by (with_reducible repeat (first | apply Kd.R_alloc | apply Kd.R_drewN | apply Kd.R_drew)); exact HO484.out) hb); have n2_ := aM (Kd.S_lower (Kd.S_new' ho0 (Kd.R_lt (by (with_reducible repeat (first | apply Kd.R_alloc | apply Kd.R_drewN | apply Kd.R_drew)); exact HO481.out))) (below_size (by repeat (first | (with_reducible first | exact HB.out | apply bA | apply bN | apply bD | refine bS ?_ GE476.out) | exact HB.out)))); have n3_ := aM (blk_below (g := gb476) (o := .cells #[.slice A0_0 l0_0.length c0_0, .slice A0_1 l0_1.length c0_1] 25 (0, 0)) (by (with_reducible repeat (first | refine kN ?_ _ | refine kD ?_ | refine kA ?_ _)); exact BK476.out) hb); have n4_ := aM (below_step (by repeat (first | (with_reducible first | exact HB.out | apply bA | apply bN | apply bD | refine bS ?_ GE476.out) | exact HB.out)) hb); clear HO481; clear HO484; clear BK476; clear HB; have HO481 := n0_; have HO484 := n1_; have HO487 := n2_; have BK476 := n3_; have HB := n4_; clear n0_ n1_ n2_ n3_ n4_; (try clear hb); (try clear hb2); (try clear hk); (try clear hi); (try clear ho0); have hcz17_0 : w16.cell? ⟨gb476, 0, none⟩ = some (.slice A0_0 l0_0.length c0_0) := (blk_cell BK476.out 0).trans rfl; have hcz17_1 : w16.cell? ⟨gb476, 1, none⟩ = some (.slice A0_1 l0_1.length c0_1) := (blk_cell BK476.out 1).trans rfl; have hfz17_0 := blk_frozen BK476.out 0; have hfz17_1 := blk_frozen BK476.out 1) | (go_at_call 16; (with_reducible refine (fleuronlaw03_told.calls _ _ l0_0 _ _ l0_1 t488 t491 _ ?side1 ?side2 ?side3 ?side4 A6.out).mono ?_); (case side1 => repeat (first | exact (Kd.C_below HR0_0.out HB.out) | (with_reducible refine Kd.C_alloc ?_ _) | (with_reducible refine Kd.C_drewN ?_ _) | (with_reducible refine Kd.C_drew ?_))); (case side2 => exact HC0_0.out); (case side3 => repeat (first | exact (Kd.C_below HR0_1.out HB.out) | (with_reducible refine Kd.C_alloc ?_ _) | (with_reducible refine Kd.C_drewN ?_ _) | (with_reducible refine Kd.C_drew ?_))); (case side4 => exact HC0_1.out); rintro e w18 ⟨v489, rfl, ho0, hb⟩; have n0_ := aM (Kd.R_below (by (with_reducible repeat (first | apply Kd.R_alloc | apply Kd.R_drewN | apply Kd.R_drew)); exact HO481.out) hb); have n1_ := aM (Kd.R_below (by (with_reducible repeat (first | apply Kd.R_alloc | apply Kd.R_drewN | apply Kd.R_drew)); exact HO484.out) hb); have n2_ := aM (Kd.S_below (by (with_reducible repeat (first | apply Kd.S_alloc | apply Kd.S_drewN | apply Kd.S_drew)); exact HO487.out) hb); have n3_ := aM (Kd.S_lower ho0 (below_size (by repeat (first | (with_reducible first | exact HB.out | apply bA | apply bN | apply bD | refine bS ?_ GE476.out) | exact HB.out)))); have n4_ := aM (blk_below (g := gb476) (o := .cells #[.slice A0_0 l0_0.length c0_0, .slice A0_1 l0_1.length c0_1] 25 (0, 0)) (by (with_reducible repeat (first | refine kN ?_ _ | refine kD ?_ | refine kA ?_ _)); exact BK476.out) hb); have n5_ := aM (below_step (by repeat (first | (with_reducible first | exact HB.out | apply bA | apply bN | apply bD | refine bS ?_ GE476.out) | exact HB.out)) hb); clear HO481; clear HO484; clear HO487; clear BK476; clear HB; have HO481 := n0_; have HO484 := n1_; have HO487 := n2_; have HO490 := n3_; have BK476 := n4_; have HB := n5_; clear n0_ n1_ n2_ n3_ n4_ n5_; (try clear hb); (try clear hb2); (try clear hk); (try clear hi); (try clear ho0)))
  repeat (go_quiet (first | ((with_reducible refine gate_dst (N := 1) rfl ?_); (try (refine gate_guard (by rfl) ?_; dsimp only)); refine box_event ?hg (N := 1) ?hd (cs := #[.slice A0_0 l0_0.length c0_0, .slice A0_1 l0_1.length c0_1]) (t := 25) ?hr ?_; (case hd => rfl); (case hg => rfl); (case hr => first | (go_simp; done) | (go_simp; rfl)); intro gb476 hg w8 hbox hb; have n0_ := aM (below_step (by repeat (first | (with_reducible first | exact HB.out | apply bA | apply bN | apply bD) | exact HB.out)) hb); have n1_ := aM (hbox); have n2_ := aM ((by rw [hg]; exact (below_size (by repeat (first | (with_reducible first | exact HB.out | apply bA | apply bN | apply bD) | exact HB.out))) : w.heap.size ≤ gb476)); have n3_ := aM ((by rw [hg]; exact (below_size (by repeat (first | (with_reducible first | exact HB.out | apply bA | apply bN | apply bD) | exact HB.out))) : w.heap.size ≤ gb476)); clear HB; have HB := n0_; have BK476 := n1_; have GW476 := n2_; have GE476 := n3_; clear n0_ n1_ n2_ n3_; clear hb hbox hg; have hcz9_0 : w8.cell? ⟨gb476, 0, none⟩ = some (.slice A0_0 l0_0.length c0_0) := (blk_cell BK476.out 0).trans rfl; have hcz9_1 : w8.cell? ⟨gb476, 1, none⟩ = some (.slice A0_1 l0_1.length c0_1) := (blk_cell BK476.out 1).trans rfl; have hfz9_0 := blk_frozen BK476.out 0; have hfz9_1 := blk_frozen BK476.out 1) | (go_at_call 22; (with_reducible refine (outline_Right.calls k _ _ l0_0 _ _ l0_1 true _ ?side1 ?side2 ?side3 ?side4 A2.out).mono ?_); (case side1 => repeat (first | exact (Kd.C_below HR0_0.out HB.out) | (with_reducible refine Kd.C_alloc ?_ _) | (with_reducible refine Kd.C_drewN ?_ _) | (with_reducible refine Kd.C_drew ?_))); (case side2 => exact HC0_0.out); (case side3 => repeat (first | exact (Kd.C_below HR0_1.out HB.out) | (with_reducible refine Kd.C_alloc ?_ _) | (with_reducible refine Kd.C_drewN ?_ _) | (with_reducible refine Kd.C_drew ?_))); (case side4 => exact HC0_1.out); rintro e w10 ⟨rfl, hb⟩; have n0_ := aM (blk_below (g := gb476) (o := .cells #[.slice A0_0 l0_0.length c0_0, .slice A0_1 l0_1.length c0_1] 25 (0, 0)) (by (with_reducible repeat (first | refine kN ?_ _ | refine kD ?_ | refine kA ?_ _)); exact BK476.out) hb); have n1_ := aM (below_step (by repeat (first | (with_reducible first | exact HB.out | apply bA | apply bN | apply bD | refine bS ?_ GE476.out) | exact HB.out)) hb); clear BK476; clear HB; have BK476 := n0_; have HB := n1_; clear n0_ n1_; (try clear hb); (try clear hb2); (try clear hk); (try clear hi); have hcz11_0 : w10.cell? ⟨gb476, 0, none⟩ = some (.slice A0_0 l0_0.length c0_0) := (blk_cell BK476.out 0).trans rfl; have hcz11_1 : w10.cell? ⟨gb476, 1, none⟩ = some (.slice A0_1 l0_1.length c0_1) := (blk_cell BK476.out 1).trans rfl; have hfz11_0 := blk_frozen BK476.out 0; have hfz11_1 := blk_frozen BK476.out 1) | (go_at_call 34; (with_reducible refine (fleuronlaw03_grid.calls k _ _ l0_0 _ _ l0_1 0 0 t479 t482 _ ?side1 ?side2 ?side3 ?side4 A4.out).mono ?_); (case side1 => repeat (first | exact (Kd.C_below HR0_0.out HB.out) | (with_reducible refine Kd.C_alloc ?_ _) | (with_reducible refine Kd.C_drewN ?_ _) | (with_reducible refine Kd.C_drew ?_))); (case side2 => exact HC0_0.out); (case side3 => repeat (first | exact (Kd.C_below HR0_1.out HB.out) | (with_reducible refine Kd.C_alloc ?_ _) | (with_reducible refine Kd.C_drewN ?_ _) | (with_reducible refine Kd.C_drew ?_))); (case side4 => exact HC0_1.out); rintro e w12 ⟨v480, v483, rfl, ho0, ho1, hb⟩; have n0_ := aM (Kd.R_lower ho0 (below_size (by repeat (first | (with_reducible first | exact HB.out | apply bA | apply bN | apply bD | refine bS ?_ GE476.out) | exact HB.out)))); have n1_ := aM (Kd.R_lower ho1 (below_size (by repeat (first | (with_reducible first | exact HB.out | apply bA | apply bN | apply bD | refine bS ?_ GE476.out) | exact HB.out)))); have n2_ := aM (blk_below (g := gb476) (o := .cells #[.slice A0_0 l0_0.length c0_0, .slice A0_1 l0_1.length c0_1] 25 (0, 0)) (by (with_reducible repeat (first | refine kN ?_ _ | refine kD ?_ | refine kA ?_ _)); exact BK476.out) hb); have n3_ := aM (below_step (by repeat (first | (with_reducible first | exact HB.out | apply bA | apply bN | apply bD | refine bS ?_ GE476.out) | exact HB.out)) hb); clear BK476; clear HB; have HO481 := n0_; have HO484 := n1_; have BK476 := n2_; have HB := n3_; clear n0_ n1_ n2_ n3_; (try clear hb); (try clear hb2); (try clear hk); (try clear hi); (try clear ho0); (try clear ho1); have hcz13_0 : w12.cell? ⟨gb476, 0, none⟩ = some (.slice A0_0 l0_0.length c0_0) := (blk_cell BK476.out 0).trans rfl; have hcz13_1 : w12.cell? ⟨gb476, 1, none⟩ = some (.slice A0_1 l0_1.length c0_1) := (blk_cell BK476.out 1).trans rfl; have hfz13_0 := blk_frozen BK476.out 0; have hfz13_1 := blk_frozen BK476.out 1; obtain ⟨Ao14, co14, eo14⟩ := Kd.R_slice HO481.out; subst eo14; obtain ⟨Ao15, co15, eo15⟩ := Kd.R_slice HO484.out; subst eo15) | (go_at_call 32; (with_reducible refine (outline_Lines.calls _ _ t479 _ _ t482 _ _ l0_1 t485 _ ?side1 ?side2 ?side3 ?side4 ?side5 ?side6 A5.out).mono ?_); (case side1 => repeat (first | exact (Kd.R_reads' HO481.out).2.2 | (with_reducible refine Kd.C_alloc ?_ _) | (with_reducible refine Kd.C_drewN ?_ _) | (with_reducible refine Kd.C_drew ?_))); (case side2 => exact (Kd.R_reads' HO481.out).2.1); (case side3 => repeat (first | exact (Kd.R_reads' HO484.out).2.2 | (with_reducible refine Kd.C_alloc ?_ _) | (with_reducible refine Kd.C_drewN ?_ _) | (with_reducible refine Kd.C_drew ?_))); (case side4 => exact (Kd.R_reads' HO484.out).2.1); (case side5 => repeat (first | exact (Kd.C_below HR0_1.out HB.out) | (with_reducible refine Kd.C_alloc ?_ _) | (with_reducible refine Kd.C_drewN ?_ _) | (with_reducible refine Kd.C_drew ?_))); (case side6 => exact HC0_1.out); rintro e w16 ⟨v486, rfl, ho0, hb⟩; have n0_ := aM (Kd.R_below (by (with_reducible repeat (first | apply Kd.R_alloc | apply Kd.R_drewN | apply Kd.R_drew)); exact HO481.out) hb); have n1_ := aM (Kd.R_below (by (with_reducible repeat (first | apply Kd.R_alloc | apply Kd.R_drewN | apply Kd.R_drew)); exact HO484.out) hb); have n2_ := aM (Kd.S_lower (Kd.S_new' ho0 (Kd.R_lt (by (with_reducible repeat (first | apply Kd.R_alloc | apply Kd.R_drewN | apply Kd.R_drew)); exact HO481.out))) (below_size (by repeat (first | (with_reducible first | exact HB.out | apply bA | apply bN | apply bD | refine bS ?_ GE476.out) | exact HB.out)))); have n3_ := aM (blk_below (g := gb476) (o := .cells #[.slice A0_0 l0_0.length c0_0, .slice A0_1 l0_1.length c0_1] 25 (0, 0)) (by (with_reducible repeat (first | refine kN ?_ _ | refine kD ?_ | refine kA ?_ _)); exact BK476.out) hb); have n4_ := aM (below_step (by repeat (first | (with_reducible first | exact HB.out | apply bA | apply bN | apply bD | refine bS ?_ GE476.out) | exact HB.out)) hb); clear HO481; clear HO484; clear BK476; clear HB; have HO481 := n0_; have HO484 := n1_; have HO487 := n2_; have BK476 := n3_; have HB := n4_; clear n0_ n1_ n2_ n3_ n4_; (try clear hb); (try clear hb2); (try clear hk); (try clear hi); (try clear ho0); have hcz17_0 : w16.cell? ⟨gb476, 0, none⟩ = some (.slice A0_0 l0_0.length c0_0) := (blk_cell BK476.out 0).trans rfl; have hcz17_1 : w16.cell? ⟨gb476, 1, none⟩ = some (.slice A0_1 l0_1.length c0_1) := (blk_cell BK476.out 1).trans rfl; have hfz17_0 := blk_frozen BK476.out 0; have hfz17_1 := blk_frozen BK476.out 1) | (go_at_call 16; (with_reducible refine (fleuronlaw03_told.calls _ _ l0_0 _ _ l0_1 t488 t491 _ ?side1 ?side2 ?side3 ?side4 A6.out).mono ?_); (case side1 => repeat (first | exact (Kd.C_below HR0_0.out HB.out) | (with_reducible refine Kd.C_alloc ?_ _) | (with_reducible refine Kd.C_drewN ?_ _) | (with_reducible refine Kd.C_drew ?_))); (case side2 => exact HC0_0.out); (case side3 => repeat (first | exact (Kd.C_below HR0_1.out HB.out) | (with_reducible refine Kd.C_alloc ?_ _) | (with_reducible refine Kd.C_drewN ?_ _) | (with_reducible refine Kd.C_drew ?_))); (case side4 => exact HC0_1.out); rintro e w18 ⟨v489, rfl, ho0, hb⟩; have n0_ := aM (Kd.R_below (by (with_reducible repeat (first | apply Kd.R_alloc | apply Kd.R_drewN | apply Kd.R_drew)); exact HO481.out) hb); have n1_ := aM (Kd.R_below (by (with_reducible repeat (first | apply Kd.R_alloc | apply Kd.R_drewN | apply Kd.R_drew)); exact HO484.out) hb); have n2_ := aM (Kd.S_below (by (with_reducible repeat (first | apply Kd.S_alloc | apply Kd.S_drewN | apply Kd.S_drew)); exact HO487.out) hb); have n3_ := aM (Kd.S_lower ho0 (below_size (by repeat (first | (with_reducible first | exact HB.out | apply bA | apply bN | apply bD | refine bS ?_ GE476.out) | exact HB.out)))); have n4_ := aM (blk_below (g := gb476) (o := .cells #[.slice A0_0 l0_0.length c0_0, .slice A0_1 l0_1.length c0_1] 25 (0, 0)) (by (with_reducible repeat (first | refine kN ?_ _ | refine kD ?_ | refine kA ?_ _)); exact BK476.out) hb); have n5_ := aM (below_step (by repeat (first | (with_reducible first | exact HB.out | apply bA | apply bN | apply bD | refine bS ?_ GE476.out) | exact HB.out)) hb); clear HO481; clear HO484; clear HO487; clear BK476; clear HB; have HO481 := n0_; have HO484 := n1_; have HO487 := n2_; have HO490 := n3_; have BK476 := n4_; have HB := n5_; clear n0_ n1_ n2_ n3_ n4_ n5_; (try clear hb); (try clear hb2); (try clear hk); (try clear hi); (try clear ho0))); go_upto_region 6 with (first | ((with_reducible refine gate_dst (N := 1) rfl ?_); (try (refine gate_guard (by rfl) ?_; dsimp only)); refine box_event ?hg (N := 1) ?hd (cs := #[.slice A0_0 l0_0.length c0_0, .slice A0_1 l0_1.length c0_1]) (t := 25) ?hr ?_; (case hd => rfl); (case hg => rfl); (case hr => first | (go_simp; done) | (go_simp; rfl)); intro gb476 hg w8 hbox hb; have n0_ := aM (below_step (by repeat (first | (with_reducible first | exact HB.out | apply bA | apply bN | apply bD) | exact HB.out)) hb); have n1_ := aM (hbox); have n2_ := aM ((by rw [hg]; exact (below_size (by repeat (first | (with_reducible first | exact HB.out | apply bA | apply bN | apply bD) | exact HB.out))) : w.heap.size ≤ gb476)); have n3_ := aM ((by rw [hg]; exact (below_size (by repeat (first | (with_reducible first | exact HB.out | apply bA | apply bN | apply bD) | exact HB.out))) : w.heap.size ≤ gb476)); clear HB; have HB := n0_; have BK476 := n1_; have GW476 := n2_; have GE476 := n3_; clear n0_ n1_ n2_ n3_; clear hb hbox hg; have hcz9_0 : w8.cell? ⟨gb476, 0, none⟩ = some (.slice A0_0 l0_0.length c0_0) := (blk_cell BK476.out 0).trans rfl; have hcz9_1 : w8.cell? ⟨gb476, 1, none⟩ = some (.slice A0_1 l0_1.length c0_1) := (blk_cell BK476.out 1).trans rfl; have hfz9_0 := blk_frozen BK476.out 0; have hfz9_1 := blk_frozen BK476.out 1) | (go_at_call 22; (with_reducible refine (outline_Right.calls k _ _ l0_0 _ _ l0_1 true _ ?side1 ?side2 ?side3 ?side4 A2.out).mono ?_); (case side1 => repeat (first | exact (Kd.C_below HR0_0.out HB.out) | (with_reducible refine Kd.C_alloc ?_ _) | (with_reducible refine Kd.C_drewN ?_ _) | (with_reducible refine Kd.C_drew ?_))); (case side2 => exact HC0_0.out); (case side3 => repeat (first | exact (Kd.C_below HR0_1.out HB.out) | (with_reducible refine Kd.C_alloc ?_ _) | (with_reducible refine Kd.C_drewN ?_ _) | (with_reducible refine Kd.C_drew ?_))); (case side4 => exact HC0_1.out); rintro e w10 ⟨rfl, hb⟩; have n0_ := aM (blk_below (g := gb476) (o := .cells #[.slice A0_0 l0_0.length c0_0, .slice A0_1 l0_1.length c0_1] 25 (0, 0)) (by (with_reducible repeat (first | refine kN ?_ _ | refine kD ?_ | refine kA ?_ _)); exact BK476.out) hb); have n1_ := aM (below_step (by repeat (first | (with_reducible first | exact HB.out | apply bA | apply bN | apply bD | refine bS ?_ GE476.out) | exact HB.out)) hb); clear BK476; clear HB; have BK476 := n0_; have HB := n1_; clear n0_ n1_; (try clear hb); (try clear hb2); (try clear hk); (try clear hi); have hcz11_0 : w10.cell? ⟨gb476, 0, none⟩ = some (.slice A0_0 l0_0.length c0_0) := (blk_cell BK476.out 0).trans rfl; have hcz11_1 : w10.cell? ⟨gb476, 1, none⟩ = some (.slice A0_1 l0_1.length c0_1) := (blk_cell BK476.out 1).trans rfl; have hfz11_0 := blk_frozen BK476.out 0; have hfz11_1 := blk_frozen BK476.out 1) | (go_at_call 34; (with_reducible refine (fleuronlaw03_grid.calls k _ _ l0_0 _ _ l0_1 0 0 t479 t482 _ ?side1 ?side2 ?side3 ?side4 A4.out).mono ?_); (case side1 => repeat (first | exact (Kd.C_below HR0_0.out HB.out) | (with_reducible refine Kd.C_alloc ?_ _) | (with_reducible refine Kd.C_drewN ?_ _) | (with_reducible refine Kd.C_drew ?_))); (case side2 => exact HC0_0.out); (case side3 => repeat (first | exact (Kd.C_below HR0_1.out HB.out) | (with_reducible refine Kd.C_alloc ?_ _) | (with_reducible refine Kd.C_drewN ?_ _) | (with_reducible refine Kd.C_drew ?_))); (case side4 => exact HC0_1.out); rintro e w12 ⟨v480, v483, rfl, ho0, ho1, hb⟩; have n0_ := aM (Kd.R_lower ho0 (below_size (by repeat (first | (with_reducible first | exact HB.out | apply bA | apply bN | apply bD | refine bS ?_ GE476.out) | exact HB.out)))); have n1_ := aM (Kd.R_lower ho1 (below_size (by repeat (first | (with_reducible first | exact HB.out | apply bA | apply bN | apply bD | refine bS ?_ GE476.out) | exact HB.out)))); have n2_ := aM (blk_below (g := gb476) (o := .cells #[.slice A0_0 l0_0.length c0_0, .slice A0_1 l0_1.length c0_1] 25 (0, 0)) (by (with_reducible repeat (first | refine kN ?_ _ | refine kD ?_ | refine kA ?_ _)); exact BK476.out) hb); have n3_ := aM (below_step (by repeat (first | (with_reducible first | exact HB.out | apply bA | apply bN | apply bD | refine bS ?_ GE476.out) | exact HB.out)) hb); clear BK476; clear HB; have HO481 := n0_; have HO484 := n1_; have BK476 := n2_; have HB := n3_; clear n0_ n1_ n2_ n3_; (try clear hb); (try clear hb2); (try clear hk); (try clear hi); (try clear ho0); (try clear ho1); have hcz13_0 : w12.cell? ⟨gb476, 0, none⟩ = some (.slice A0_0 l0_0.length c0_0) := (blk_cell BK476.out 0).trans rfl; have hcz13_1 : w12.cell? ⟨gb476, 1, none⟩ = some (.slice A0_1 l0_1.length c0_1) := (blk_cell BK476.out 1).trans rfl; have hfz13_0 := blk_frozen BK476.out 0; have hfz13_1 := blk_frozen BK476.out 1; obtain ⟨Ao14, co14, eo14⟩ := Kd.R_slice HO481.out; subst eo14; obtain ⟨Ao15, co15, eo15⟩ := Kd.R_slice HO484.out; subst eo15) | (go_at_call 32; (with_reducible refine (outline_Lines.calls _ _ t479 _ _ t482 _ _ l0_1 t485 _ ?side1 ?side2 ?side3 ?side4 ?side5 ?side6 A5.out).mono ?_); (case side1 => repeat (first | exact (Kd.R_reads' HO481.out).2.2 | (with_reducible refine Kd.C_alloc ?_ _) | (with_reducible refine Kd.C_drewN ?_ _) | (with_reducible refine Kd.C_drew ?_))); (case side2 => exact (Kd.R_reads' HO481.out).2.1); (case side3 => repeat (first | exact (Kd.R_reads' HO484.out).2.2 | (with_reducible refine Kd.C_alloc ?_ _) | (with_reducible refine Kd.C_drewN ?_ _) | (with_reducible refine Kd.C_drew ?_))); (case side4 => exact (Kd.R_reads' HO484.out).2.1); (case side5 => repeat (first | exact (Kd.C_below HR0_1.out HB.out) | (with_reducible refine Kd.C_alloc ?_ _) | (with_reducible refine Kd.C_drewN ?_ _) | (with_reducible refine Kd.C_drew ?_))); (case side6 => exact HC0_1.out); rintro e w16 ⟨v486, rfl, ho0, hb⟩; have n0_ := aM (Kd.R_below (by (with_reducible repeat (first | apply Kd.R_alloc | apply Kd.R_drewN | apply Kd.R_drew)); exact HO481.out) hb); have n1_ := aM (Kd.R_below (by (with_reducible repeat (first | apply Kd.R_alloc | apply Kd.R_drewN | apply Kd.R_drew)); exact HO484.out) hb); have n2_ := aM (Kd.S_lower (Kd.S_new' ho0 (Kd.R_lt (by (with_reducible repeat (first | apply Kd.R_alloc | apply Kd.R_drewN | apply Kd.R_drew)); exact HO481.out))) (below_size (by repeat (first | (with_reducible first | exact HB.out | apply bA | apply bN | apply bD | refine bS ?_ GE476.out) | exact HB.out)))); have n3_ := aM (blk_below (g := gb476) (o := .cells #[.slice A0_0 l0_0.length c0_0, .slice A0_1 l0_1.length c0_1] 25 (0, 0)) (by (with_reducible repeat (first | refine kN ?_ _ | refine kD ?_ | refine kA ?_ _)); exact BK476.out) hb); have n4_ := aM (below_step (by repeat (first | (with_reducible first | exact HB.out | apply bA | apply bN | apply bD | refine bS ?_ GE476.out) | exact HB.out)) hb); clear HO481; clear HO484; clear BK476; clear HB; have HO481 := n0_; have HO484 := n1_; have HO487 := n2_; have BK476 := n3_; have HB := n4_; clear n0_ n1_ n2_ n3_ n4_; (try clear hb); (try clear hb2); (try clear hk); (try clear hi); (try clear ho0); have hcz17_0 : w16.cell? ⟨gb476, 0, none⟩ = some (.slice A0_0 l0_0.length c0_0) := (blk_cell BK476.out 0).trans rfl; have hcz17_1 : w16.cell? ⟨gb476, 1, none⟩ = some (.slice A0_1 l0_1.length c0_1) := (blk_cell BK476.out 1).trans rfl; have hfz17_0 := blk_frozen BK476.out 0; have hfz17_1 := blk_frozen BK476.out 1) | (go_at_call 16; (with_reducible refine (fleuronlaw03_told.calls _ _ l0_0 _ _ l0_1 t488 t491 _ ?side1 ?side2 ?side3 ?side4 A6.out).mono ?_); (case side1 => repeat (first | exact (Kd.C_below HR0_0.out HB.out) | (with_reducible refine Kd.C_alloc ?_ _) | (with_reducible refine Kd.C_drewN ?_ _) | (with_reducible refine Kd.C_drew ?_))); (case side2 => exact HC0_0.out); (case side3 => repeat (first | exact (Kd.C_below HR0_1.out HB.out) | (with_reducible refine Kd.C_alloc ?_ _) | (with_reducible refine Kd.C_drewN ?_ _) | (with_reducible refine Kd.C_drew ?_))); (case side4 => exact HC0_1.out); rintro e w18 ⟨v489, rfl, ho0, hb⟩; have n0_ := aM (Kd.R_below (by (with_reducible repeat (first | apply Kd.R_alloc | apply Kd.R_drewN | apply Kd.R_drew)); exact HO481.out) hb); have n1_ := aM (Kd.R_below (by (with_reducible repeat (first | apply Kd.R_alloc | apply Kd.R_drewN | apply Kd.R_drew)); exact HO484.out) hb); have n2_ := aM (Kd.S_below (by (with_reducible repeat (first | apply Kd.S_alloc | apply Kd.S_drewN | apply Kd.S_drew)); exact HO487.out) hb); have n3_ := aM (Kd.S_lower ho0 (below_size (by repeat (first | (with_reducible first | exact HB.out | apply bA | apply bN | apply bD | refine bS ?_ GE476.out) | exact HB.out)))); have n4_ := aM (blk_below (g := gb476) (o := .cells #[.slice A0_0 l0_0.length c0_0, .slice A0_1 l0_1.length c0_1] 25 (0, 0)) (by (with_reducible repeat (first | refine kN ?_ _ | refine kD ?_ | refine kA ?_ _)); exact BK476.out) hb); have n5_ := aM (below_step (by repeat (first | (with_reducible first | exact HB.out | apply bA | apply bN | apply bD | refine bS ?_ GE476.out) | exact HB.out)) hb); clear HO481; clear HO484; clear HO487; clear BK476; clear HB; have HO481 := n0_; have HO484 := n1_; have HO487 := n2_; have HO490 := n3_; have BK476 := n4_; have HB := n5_; clear n0_ n1_ n2_ n3_ n4_ n5_; (try clear hb); (try clear hb2); (try clear hk); (try clear hi); (try clear ho0))))
  (try simp only [Act.put, List.setIfInBounds_toArray, List.set_cons_zero, List.set_cons_succ])
  go_cut [50] (fun v50 wc => ∃ (kq : Nat) (x50_6 : Bool), v50 = .bool x50_6 ∧ Aside0 (fleuronlaw03_OutlineWithin.j0 kq t485 t488 x50_6 = some r) ∧ Aside0 (kq ≤ k) ∧ Aside0 (Kd.S (Kd.slice 52 k52) 42 wc w.heap.size (fun _ => True) v486 t485) ∧ Aside0 (Kd.S (Kd.slice 33 k33) 22 wc w.heap.size (fun _ => True) v489 t488) ∧ Aside0 (wc.heap[gb476]? = some (.cells #[(.slice A0_0 l0_0.length c0_0), (.slice A0_1 l0_1.length c0_1)] 25 (0, 0))) ∧ Aside0 (Below w.heap.size w wc))
  case first =>
   have H := HC7.out
   clear HC7
   by_cases c19 : t491 = true
   ·
    subst c19
    have H1 : (if (t485.length : Int) = (t488.length : Int) then (fleuronlaw03_OutlineWithin.j0 k t485 t488 ((t488.length : Int) != (l0_1.length : Int))) else (fleuronlaw03_OutlineWithin.j0 k t485 t488 true)) = some r := by rw [if_pos rfl] at H; exact H
    clear H
    have H := H1
    clear H1
    by_cases c20 : (t485.length : Int) = (t488.length : Int)
    ·
     rw [if_pos c20] at H
     have c20b0 : ((t485.length : Int) == (t488.length : Int)) = true := beq_iff_eq.mpr c20
     have c20b1 : ((t485.length : Int) != (t488.length : Int)) = false := bne_eq_false_iff_eq.mpr c20
     have c20b2 : (t485.length == t488.length) = true := by first | simpa using c20 | (simp at c20 ⊢; omega)
     clear c20
     (first | rw [c20b0] | (simp only [i64_w, i32_w]; rw [c20b0]) | skip)
     have H' := aM H
     clear H
     obtain ⟨Ao21, co21, eo21⟩ := Kd.S_slice HO487.out
     subst eo21
     obtain ⟨Ao22, co22, eo22⟩ := Kd.S_slice HO490.out
     subst eo22
     have hcz23_0 : w18.cell? ⟨gb476, 0, none⟩ = some (.slice A0_0 l0_0.length c0_0) := (blk_cell BK476.out 0).trans rfl
     have hcz23_1 : w18.cell? ⟨gb476, 1, none⟩ = some (.slice A0_1 l0_1.length c0_1) := (blk_cell BK476.out 1).trans rfl
     have hfz23_0 := blk_frozen BK476.out 0
     have hfz23_1 := blk_frozen BK476.out 1
     go_wp2
     repeat (go_quiet (fail); try go_wp2)
     go_meet
     case rel => exact ⟨_, (((t488.length : Int) != (l0_1.length : Int))), (by first | rfl | (simp; done) | (simp [*]; done)), H', ⟨by first | omega | exact Nat.le_refl _⟩, ⟨by (with_reducible repeat (first | apply Kd.S_alloc | apply Kd.S_drewN | apply Kd.S_drew)); exact Kd.S_mono HO487.out (fun _ hk => trivial)⟩, ⟨by (with_reducible repeat (first | apply Kd.S_alloc | apply Kd.S_drewN | apply Kd.S_drew)); exact HO490.out⟩, ⟨by (with_reducible repeat (first | refine kN ?_ _ | refine kD ?_ | refine kA ?_ _)); exact BK476.out⟩, ⟨by repeat (first | (with_reducible first | exact HB.out | apply bA | apply bN | apply bD | refine bS ?_ GE476.out) | exact HB.out)⟩⟩
    ·
     rw [if_neg c20] at H
     have c20b0 : ((t485.length : Int) == (t488.length : Int)) = false := beq_eq_false_iff_ne.mpr c20
     have c20b1 : ((t485.length : Int) != (t488.length : Int)) = true := bne_iff_ne.mpr c20
     have c20b2 : (t485.length == t488.length) = false := by first | simpa using c20 | (simp at c20 ⊢; omega)
     (first | rw [c20b0] | (simp only [i64_w, i32_w]; rw [c20b0]) | skip)
     have H' := aM H
     clear H
     obtain ⟨Ao24, co24, eo24⟩ := Kd.S_slice HO487.out
     subst eo24
     obtain ⟨Ao25, co25, eo25⟩ := Kd.S_slice HO490.out
     subst eo25
     go_wp2
     repeat (go_quiet (fail); try go_wp2)
     go_meet
     case rel => exact ⟨_, (true), (by first | rfl | (simp; done) | (simp [*]; done)), H', ⟨by first | omega | exact Nat.le_refl _⟩, ⟨by (with_reducible repeat (first | apply Kd.S_alloc | apply Kd.S_drewN | apply Kd.S_drew)); exact Kd.S_mono HO487.out (fun _ hk => trivial)⟩, ⟨by (with_reducible repeat (first | apply Kd.S_alloc | apply Kd.S_drewN | apply Kd.S_drew)); exact HO490.out⟩, ⟨by (with_reducible repeat (first | refine kN ?_ _ | refine kD ?_ | refine kA ?_ _)); exact BK476.out⟩, ⟨by repeat (first | (with_reducible first | exact HB.out | apply bA | apply bN | apply bD | refine bS ?_ GE476.out) | exact HB.out)⟩⟩
   ·
    replace c19 := Bool.eq_false_iff.mpr c19
    subst c19
    have H1 : (fleuronlaw03_OutlineWithin.j0 k t485 t488 true) = some r := by rw [if_neg (show ¬ (false = true) by decide)] at H; exact H
    clear H
    have H := H1
    clear H1
    have H' := aM H
    clear H
    go_wp2
    repeat (go_quiet (fail); try go_wp2)
    go_meet
    case rel => exact ⟨_, (true), (by first | rfl | (simp; done) | (simp [*]; done)), H', ⟨by first | omega | exact Nat.le_refl _⟩, ⟨by (with_reducible repeat (first | apply Kd.S_alloc | apply Kd.S_drewN | apply Kd.S_drew)); exact Kd.S_mono HO487.out (fun _ hk => trivial)⟩, ⟨by (with_reducible repeat (first | apply Kd.S_alloc | apply Kd.S_drewN | apply Kd.S_drew)); exact HO490.out⟩, ⟨by (with_reducible repeat (first | refine kN ?_ _ | refine kD ?_ | refine kA ?_ _)); exact BK476.out⟩, ⟨by repeat (first | (with_reducible first | exact HB.out | apply bA | apply bN | apply bD | refine bS ?_ GE476.out) | exact HB.out)⟩⟩
  case rest =>
   clear HC7
   try clear c1
   try clear c2
   try clear p2
   try clear c3
   try clear c9
   try clear c19
   try clear c20
   try clear c20b0
   try clear c20b1
   try clear c20b2
   try clear hcz11_0
   try clear hcz11_1
   try clear hcz13_0
   try clear hcz13_1
   try clear hcz17_0
   try clear hcz17_1
   try clear hcz23_0
   try clear hcz23_1
   try clear hcz9_0
   try clear hcz9_1
   try clear hfz11_0
   try clear hfz11_1
   try clear hfz13_0
   try clear hfz13_1
   try clear hfz17_0
   try clear hfz17_1
   try clear hfz23_0
   try clear hfz23_1
   try clear hfz9_0
   try clear hfz9_1
   obtain ⟨kq, x50_6, rfl, HA, HJ6, HO_5, HO_6, BK476, HB⟩ := hcut
   cases kq with
   | zero => exact absurd HA.out (by simp [fleuronlaw03_OutlineWithin.j0])
   | succ kj6 =>
    have H := HA.out
    clear HA
    simp only [fleuronlaw03_OutlineWithin.j0] at H
    by_cases c26 : x50_6 = true
    ·
     subst c26
     have H1 : (none) = some r := by rw [if_pos rfl] at H; exact H
     clear H
     have H := H1
     clear H1
     exact absurd H (by simp)
    ·
     replace c26 := Bool.eq_false_iff.mpr c26
     subst c26
     have H1 : (fleuronlaw03_OutlineWithin.l0 kj6 t485 t488 0) = some r := by rw [if_neg (show ¬ (false = true) by decide)] at H; exact H
     clear H
     have H := H1
     clear H1
     have H' := aM H
     clear H
     go_wp2
     repeat (go_quiet (fail); try go_wp2)
     go_loopg [8] kj6 (fun kq v8 w' => ∃ (x8_2 : Int), v8 = .int .i64 x8_2 ∧ Aside0 (fleuronlaw03_OutlineWithin.l0 kq t485 t488 x8_2 = some r) ∧ Aside0 (kq ≤ kj6) ∧ Aside0 (Kd.S (Kd.slice 52 k52) 42 w' w.heap.size (fun _ => True) v486 t485) ∧ Aside0 (Kd.S (Kd.slice 33 k33) 22 w' w.heap.size (fun _ => True) v489 t488) ∧ Aside0 (w'.heap[gb476]? = some (.cells #[(.slice A0_0 l0_0.length c0_0), (.slice A0_1 l0_1.length c0_1)] 25 (0, 0))) ∧ Aside0 (Below w.heap.size w w'))
     case atStart => exact ⟨(0), (by first | rfl | (simp; done) | (simp [*]; done)), H', ⟨Nat.le_refl _⟩, ⟨by (with_reducible repeat (first | apply Kd.S_alloc | apply Kd.S_drewN | apply Kd.S_drew)); exact HO_5.out⟩, ⟨by (with_reducible repeat (first | apply Kd.S_alloc | apply Kd.S_drewN | apply Kd.S_drew)); exact HO_6.out⟩, ⟨by (with_reducible repeat (first | refine kN ?_ _ | refine kD ?_ | refine kA ?_ _)); exact BK476.out⟩, ⟨by repeat (first | (with_reducible first | exact HB.out | apply bA | apply bN | apply bD | refine bS ?_ GE476.out) | exact HB.out)⟩⟩
     case round =>
      clear H'
      try clear c1
      try clear c2
      try clear p2
      try clear c3
      try clear c9
      try clear c19
      try clear c20
      try clear c20b0
      try clear c20b1
      try clear c20b2
      try clear c26
      try clear hcz11_0
      try clear hcz11_1
      try clear hcz13_0
      try clear hcz13_1
      try clear hcz17_0
      try clear hcz17_1
      try clear hcz23_0
      try clear hcz23_1
      try clear hcz9_0
      try clear hcz9_1
      try clear hfz11_0
      try clear hfz11_1
      try clear hfz13_0
      try clear hfz13_1
      try clear hfz17_0
      try clear hfz17_1
      try clear hfz23_0
      try clear hfz23_1
      try clear hfz9_0
      try clear hfz9_1
      try clear p2
      obtain ⟨x8_2, rfl, HA, HK2, HO_5, HO_6, BK476, HB⟩ := hrel
      cases gk with
      | zero => exact absurd HA.out (by simp [fleuronlaw03_OutlineWithin.l0])
      | succ k2 =>
       have H := HA.out
       clear HA
       simp only [fleuronlaw03_OutlineWithin.l0] at H
       by_cases c27 : x8_2 < (t485.length : Int)
       ·
        rw [if_pos c27] at H
        have c27b0 : decide (x8_2 < (t485.length : Int)) = true := decide_eq_true c27
        clear c27
        have H' := aM H
        clear H
        obtain ⟨Ao28, co28, eo28⟩ := Kd.S_slice HO_5.out
        subst eo28
        go_wp2
        repeat (go_quiet (fail); try go_wp2)
        go_loopg [9, 10] k2 (fun kq v9 v10 w' => ∃ (x9_3 : Int) (x10_3 : Int), v9 = .int .i64 x9_3 ∧ v10 = .int .i64 x10_3 ∧ Aside0 (fleuronlaw03_OutlineWithin.l1 kq t485 t488 x8_2 x9_3 x10_3 = some r) ∧ Aside0 (kq ≤ k2) ∧ Aside0 (Kd.S (Kd.slice 52 k52) 42 w' w.heap.size (fun _ => True) (.slice Ao28 t485.length co28) t485) ∧ Aside0 (Kd.S (Kd.slice 33 k33) 22 w' w.heap.size (fun _ => True) v489 t488) ∧ Aside0 (w'.heap[gb476]? = some (.cells #[(.slice A0_0 l0_0.length c0_0), (.slice A0_1 l0_1.length c0_1)] 25 (0, 0))) ∧ Aside0 (Below w.heap.size w w'))
        case atStart => exact ⟨(0), (0), (by first | rfl | (simp; done) | (simp [*]; done)), (by first | rfl | (simp; done) | (simp [*]; done)), H', ⟨Nat.le_refl _⟩, ⟨by (with_reducible repeat (first | apply Kd.S_alloc | apply Kd.S_drewN | apply Kd.S_drew)); exact HO_5.out⟩, ⟨by (with_reducible repeat (first | apply Kd.S_alloc | apply Kd.S_drewN | apply Kd.S_drew)); exact HO_6.out⟩, ⟨by (with_reducible repeat (first | refine kN ?_ _ | refine kD ?_ | refine kA ?_ _)); exact BK476.out⟩, ⟨by repeat (first | (with_reducible first | exact HB.out | apply bA | apply bN | apply bD | refine bS ?_ GE476.out) | exact HB.out)⟩⟩
        case round =>
         clear H'
         try clear c1
         try clear c2
         try clear p2
         try clear c3
         try clear c9
         try clear c19
         try clear c20
         try clear c20b0
         try clear c20b1
         try clear c20b2
         try clear c26
         try clear c27
         try clear c27b0
         try clear hcz11_0
         try clear hcz11_1
         try clear hcz13_0
         try clear hcz13_1
         try clear hcz17_0
         try clear hcz17_1
         try clear hcz23_0
         try clear hcz23_1
         try clear hcz9_0
         try clear hcz9_1
         try clear hfz11_0
         try clear hfz11_1
         try clear hfz13_0
         try clear hfz13_1
         try clear hfz17_0
         try clear hfz17_1
         try clear hfz23_0
         try clear hfz23_1
         try clear hfz9_0
         try clear hfz9_1
         try clear p2
         obtain ⟨x9_3, x10_3, rfl, rfl, HA, HK3, HO_5, HO_6, BK476, HB⟩ := hrel
         cases gk with
         | zero => exact absurd HA.out (by simp [fleuronlaw03_OutlineWithin.l1])
         | succ k3 =>
          have H := HA.out
          clear HA
          simp only [fleuronlaw03_OutlineWithin.l1] at H
          by_cases c29 : 0 ≤ x8_2
          ·
           rw [if_pos c29] at H
           have c29b0 : decide (0 ≤ x8_2) = true := decide_eq_true c29
           clear c29
           by_cases c30 : x8_2 < (t488.length : Int)
           ·
            rw [if_pos c30] at H
            have c30b0 : decide (x8_2 < (t488.length : Int)) = true := decide_eq_true c30
            clear c30
            by_cases c31 : x10_3 < ((rd_L3 t488 x8_2).length : Int)
            ·
             rw [if_pos c31] at H
             have c31b0 : decide (x10_3 < ((rd_L3 t488 x8_2).length : Int)) = true := decide_eq_true c31
             clear c31
             by_cases c32 : 0 ≤ x10_3
             ·
              rw [if_pos c32] at H
              have c32b0 : decide (0 ≤ x10_3) = true := decide_eq_true c32
              clear c32
              obtain ⟨bq33, hbq33⟩ : ∃ b_ : Bool, b_ = ((rd_T33 (rd_L3 t488 x8_2) x10_3).f2) := ⟨_, rfl⟩
              replace H : (if (bq33 = true) then (if ((rd_L3 t488 x8_2).length : Int) = 0 then (none) else (if 0 ≤ (Int.tmod (wrap64 (x10_3 + 1)) ((rd_L3 t488 x8_2).length : Int)) then (if (Int.tmod (wrap64 (x10_3 + 1)) ((rd_L3 t488 x8_2).length : Int)) < ((rd_L3 t488 x8_2).length : Int) then (if (rd_T33 (rd_L3 t488 x8_2) (Int.tmod (wrap64 (x10_3 + 1)) ((rd_L3 t488 x8_2).length : Int))).f2 = true then (fleuronlaw03_OutlineWithin.l1 k3 t485 t488 x8_2 (wrap64 (x9_3 + 1)) (wrap64 (x10_3 + 1))) else (fleuronlaw03_OutlineWithin.l1 k3 t485 t488 x8_2 x9_3 (wrap64 (x10_3 + 1)))) else (none)) else (none))) else (fleuronlaw03_OutlineWithin.l1 k3 t485 t488 x8_2 (wrap64 (x9_3 + 8)) (wrap64 (x10_3 + 1)))) = some r := by rw [← hbq33] at H; exact H
              have Nbq33 := aM hbq33
              clear hbq33
              by_cases c34 : (bq33 = true)
              ·
               subst c34
               have H1 : (if ((rd_L3 t488 x8_2).length : Int) = 0 then (none) else (if 0 ≤ (Int.tmod (wrap64 (x10_3 + 1)) ((rd_L3 t488 x8_2).length : Int)) then (if (Int.tmod (wrap64 (x10_3 + 1)) ((rd_L3 t488 x8_2).length : Int)) < ((rd_L3 t488 x8_2).length : Int) then (if (rd_T33 (rd_L3 t488 x8_2) (Int.tmod (wrap64 (x10_3 + 1)) ((rd_L3 t488 x8_2).length : Int))).f2 = true then (fleuronlaw03_OutlineWithin.l1 k3 t485 t488 x8_2 (wrap64 (x9_3 + 1)) (wrap64 (x10_3 + 1))) else (fleuronlaw03_OutlineWithin.l1 k3 t485 t488 x8_2 x9_3 (wrap64 (x10_3 + 1)))) else (none)) else (none))) = some r := by rw [if_pos rfl] at H; exact H
               clear H
               have H := H1
               clear H1
               by_cases c35 : ((rd_L3 t488 x8_2).length : Int) = 0
               ·
                rw [if_pos c35] at H
                exact absurd H (by simp)
               ·
                rw [if_neg c35] at H
                have c35b0 : (((rd_L3 t488 x8_2).length : Int) == 0) = false := beq_eq_false_iff_ne.mpr c35
                have c35b1 : (((rd_L3 t488 x8_2).length : Int) != 0) = true := bne_iff_ne.mpr c35
                have c35b2 : ¬ ((rd_L3 t488 x8_2) = []) := fun h_ => c35 (by rw [h_]; rfl)
                obtain ⟨ji36, hji36⟩ : ∃ j_ : Int, (Int.tmod (wrap64 (x10_3 + 1)) ((rd_L3 t488 x8_2).length : Int)) = j_ := ⟨_, rfl⟩
                replace H : (if 0 ≤ (ji36) then (if (ji36) < ((rd_L3 t488 x8_2).length : Int) then (if (rd_T33 (rd_L3 t488 x8_2) (ji36)).f2 = true then (fleuronlaw03_OutlineWithin.l1 k3 t485 t488 x8_2 (wrap64 (x9_3 + 1)) (wrap64 (x10_3 + 1))) else (fleuronlaw03_OutlineWithin.l1 k3 t485 t488 x8_2 x9_3 (wrap64 (x10_3 + 1)))) else (none)) else (none)) = some r := by first | (rw [hji36] at H; exact H) | (simp only [hji36] at H ⊢; exact H)
                by_cases c37 : 0 ≤ (ji36)
                ·
                 rw [if_pos c37] at H
                 have c37b0 : decide (0 ≤ (ji36)) = true := decide_eq_true c37
                 clear c37
                 by_cases c38 : (ji36) < ((rd_L3 t488 x8_2).length : Int)
                 ·
                  rw [if_pos c38] at H
                  have c38b0 : decide ((ji36) < ((rd_L3 t488 x8_2).length : Int)) = true := decide_eq_true c38
                  clear c38
                  obtain ⟨bq39, hbq39⟩ : ∃ b_ : Bool, b_ = ((rd_T33 (rd_L3 t488 x8_2) (ji36)).f2) := ⟨_, rfl⟩
                  replace H : (if bq39 = true then (fleuronlaw03_OutlineWithin.l1 k3 t485 t488 x8_2 (wrap64 (x9_3 + 1)) (wrap64 (x10_3 + 1))) else (fleuronlaw03_OutlineWithin.l1 k3 t485 t488 x8_2 x9_3 (wrap64 (x10_3 + 1)))) = some r := by rw [← hbq39] at H; exact H
                  have Nbq39 := aM hbq39
                  clear hbq39
                  by_cases c40 : bq39 = true
                  ·
                   subst c40
                   have H1 : (fleuronlaw03_OutlineWithin.l1 k3 t485 t488 x8_2 (wrap64 (x9_3 + 1)) (wrap64 (x10_3 + 1))) = some r := by rw [if_pos rfl] at H; exact H
                   clear H
                   have H := H1
                   clear H1
                   have H' := aM H
                   clear H
                   obtain ⟨Ao41, co41, eo41⟩ := Kd.S_slice HO_6.out
                   subst eo41
                   have p493 : 0 ≤ (x8_2 : Int) := of_decide_eq_true (by assumption)
                   have q493 : x8_2 < (t488.length : Int) := of_decide_eq_true (by assumption)
                   obtain ⟨ad493, A493_0, c493_0, e493, hx493_0, hl493_0, hi493_0⟩ := at_L3 (Kd.S_reads' HO_6.out).2.2 x8_2 p493 q493
                   cases e493
                   obtain ⟨ce493, hce493, hMe493, hcc493⟩ := Kd.S_get HO_6.out [] x8_2 p493 (by first | exact q493 | exact of_decide_eq_true (by assumption) | (have e_ := (Kd.S_reads' HO_6.out).1; omega))
                   obtain ⟨ve493_0, rfl, ge493_0⟩ := hMe493
                   have hv493_0 := hcc493 0 _ rfl
                   rw [Nat.add_zero, show ((Kd.slice 33 k33)).sz = 1 from rfl, Nat.mul_one] at hv493_0
                   replace hv493_0 := Option.some.inj (hv493_0.symm.trans hx493_0)
                   rw [hv493_0] at ge493_0
                   have HL493_0 := aM (show Kd.R k33 33 _ _ _ _ (rd_L3 t488 x8_2) from ge493_0)
                   clear hv493_0 ge493_0
                   clear hcc493 hce493
                   have HR493_0 := aM hi493_0
                   have HC493_0 := aM hl493_0
                   clear hi493_0 hl493_0
                   replace p493 := eq_true p493
                   replace q493 := eq_true q493
                   have p494 : 0 ≤ (x8_2 : Int) := of_decide_eq_true (by assumption)
                   have q494 : x8_2 < (t488.length : Int) := of_decide_eq_true (by assumption)
                   obtain ⟨ad494, A494_0, c494_0, e494, hx494_0, hl494_0, hi494_0⟩ := at_L3 (Kd.S_reads' HO_6.out).2.2 x8_2 p494 q494
                   obtain rfl : ad493 = ad494 := (by injection e494)
                   obtain ⟨ce494, hce494, hMe494, hcc494⟩ := Kd.S_get HO_6.out [] x8_2 p494 (by first | exact q494 | exact of_decide_eq_true (by assumption) | (have e_ := (Kd.S_reads' HO_6.out).1; omega))
                   obtain ⟨ve494_0, rfl, ge494_0⟩ := hMe494
                   have hv494_0 := hcc494 0 _ rfl
                   rw [Nat.add_zero, show ((Kd.slice 33 k33)).sz = 1 from rfl, Nat.mul_one] at hv494_0
                   replace hv494_0 := Option.some.inj (hv494_0.symm.trans hx494_0)
                   rw [hv494_0] at ge494_0
                   have HL494_0 := aM (show Kd.R k33 33 _ _ _ _ (rd_L3 t488 x8_2) from ge494_0)
                   clear hv494_0 ge494_0
                   clear hcc494 hce494
                   have HR494_0 := aM hi494_0
                   have HC494_0 := aM hl494_0
                   clear hi494_0 hl494_0
                   replace p494 := eq_true p494
                   replace q494 := eq_true q494
                   have ea_ := Option.some.inj (hx493_0.symm.trans hx494_0)
                   injection ea_ with ea_ en_ ec_
                   subst ea_
                   subst ec_
                   clear en_
                   have p495 : 0 ≤ (x10_3 : Int) := of_decide_eq_true (by assumption)
                   have q495 : x10_3 < ((rd_L3 t488 x8_2).length : Int) := of_decide_eq_true (by assumption)
                   obtain ⟨ad495, e495, hx495_0, hx495_1, hx495_2⟩ := at_T33 (by repeat (first | (with_reducible exact HR494_0.out) | (with_reducible refine Kd.C_alloc ?_ _) | (with_reducible refine Kd.C_drewN ?_ _) | (with_reducible refine Kd.C_drew ?_) | exact HR494_0.out)) x10_3 p495 q495
                   (try rw [← Nbq33.out] at hx495_2)
                   (try rw [← Nbq39.out] at hx495_2)
                   cases e495
                   replace p495 := eq_true p495
                   replace q495 := eq_true q495
                   have p496 : 0 ≤ (x8_2 : Int) := of_decide_eq_true (by assumption)
                   have q496 : x8_2 < (t488.length : Int) := of_decide_eq_true (by assumption)
                   obtain ⟨ad496, A496_0, c496_0, e496, hx496_0, hl496_0, hi496_0⟩ := at_L3 (Kd.S_reads' HO_6.out).2.2 x8_2 p496 q496
                   obtain rfl : ad493 = ad496 := (by injection e496)
                   obtain ⟨ce496, hce496, hMe496, hcc496⟩ := Kd.S_get HO_6.out [] x8_2 p496 (by first | exact q496 | exact of_decide_eq_true (by assumption) | (have e_ := (Kd.S_reads' HO_6.out).1; omega))
                   obtain ⟨ve496_0, rfl, ge496_0⟩ := hMe496
                   have hv496_0 := hcc496 0 _ rfl
                   rw [Nat.add_zero, show ((Kd.slice 33 k33)).sz = 1 from rfl, Nat.mul_one] at hv496_0
                   replace hv496_0 := Option.some.inj (hv496_0.symm.trans hx496_0)
                   rw [hv496_0] at ge496_0
                   have HL496_0 := aM (show Kd.R k33 33 _ _ _ _ (rd_L3 t488 x8_2) from ge496_0)
                   clear hv496_0 ge496_0
                   clear hcc496 hce496
                   have HR496_0 := aM hi496_0
                   have HC496_0 := aM hl496_0
                   clear hi496_0 hl496_0
                   replace p496 := eq_true p496
                   replace q496 := eq_true q496
                   have ea_ := Option.some.inj (hx493_0.symm.trans hx496_0)
                   injection ea_ with ea_ en_ ec_
                   subst ea_
                   subst ec_
                   clear en_
                   have p497 : 0 ≤ (x8_2 : Int) := of_decide_eq_true (by assumption)
                   have q497 : x8_2 < (t488.length : Int) := of_decide_eq_true (by assumption)
                   obtain ⟨ad497, A497_0, c497_0, e497, hx497_0, hl497_0, hi497_0⟩ := at_L3 (Kd.S_reads' HO_6.out).2.2 x8_2 p497 q497
                   obtain rfl : ad493 = ad497 := (by injection e497)
                   obtain ⟨ce497, hce497, hMe497, hcc497⟩ := Kd.S_get HO_6.out [] x8_2 p497 (by first | exact q497 | exact of_decide_eq_true (by assumption) | (have e_ := (Kd.S_reads' HO_6.out).1; omega))
                   obtain ⟨ve497_0, rfl, ge497_0⟩ := hMe497
                   have hv497_0 := hcc497 0 _ rfl
                   rw [Nat.add_zero, show ((Kd.slice 33 k33)).sz = 1 from rfl, Nat.mul_one] at hv497_0
                   replace hv497_0 := Option.some.inj (hv497_0.symm.trans hx497_0)
                   rw [hv497_0] at ge497_0
                   have HL497_0 := aM (show Kd.R k33 33 _ _ _ _ (rd_L3 t488 x8_2) from ge497_0)
                   clear hv497_0 ge497_0
                   clear hcc497 hce497
                   have HR497_0 := aM hi497_0
                   have HC497_0 := aM hl497_0
                   clear hi497_0 hl497_0
                   replace p497 := eq_true p497
                   replace q497 := eq_true q497
                   have ea_ := Option.some.inj (hx493_0.symm.trans hx497_0)
                   injection ea_ with ea_ en_ ec_
                   subst ea_
                   subst ec_
                   clear en_
                   have p498 : 0 ≤ ((ji36) : Int) := of_decide_eq_true (by assumption)
                   have q498 : (ji36) < ((rd_L3 t488 x8_2).length : Int) := of_decide_eq_true (by assumption)
                   obtain ⟨ad498, e498, hx498_0, hx498_1, hx498_2⟩ := at_T33 (by repeat (first | (with_reducible exact HR496_0.out) | (with_reducible refine Kd.C_alloc ?_ _) | (with_reducible refine Kd.C_drewN ?_ _) | (with_reducible refine Kd.C_drew ?_) | exact HR496_0.out)) (ji36) p498 q498
                   (try rw [← Nbq33.out] at hx498_2)
                   (try rw [← Nbq39.out] at hx498_2)
                   cases e498
                   replace p498 := eq_true p498
                   replace q498 := eq_true q498
                   go_wp2
                   repeat (go_quiet (fail); try go_wp2)
                   go_roundg k3
                   case measure => have := HJ6.out; have := HK2.out; have := HK3.out; omega
                   case rel => exact ⟨(wrap64 (x9_3 + 1)), (wrap64 (x10_3 + 1)), (by first | rfl | (simp; done) | (simp [*]; done)), (by first | rfl | (simp; done) | (simp [*]; done)), H', ⟨by have := HJ6.out; have := HK2.out; have := HK3.out; omega⟩, ⟨by (with_reducible repeat (first | apply Kd.S_alloc | apply Kd.S_drewN | apply Kd.S_drew)); exact HO_5.out⟩, ⟨by (with_reducible repeat (first | apply Kd.S_alloc | apply Kd.S_drewN | apply Kd.S_drew)); exact HO_6.out⟩, ⟨by (with_reducible repeat (first | refine kN ?_ _ | refine kD ?_ | refine kA ?_ _)); exact BK476.out⟩, ⟨by repeat (first | (with_reducible first | exact HB.out | apply bA | apply bN | apply bD | refine bS ?_ GE476.out) | exact HB.out)⟩⟩
                  ·
                   replace c40 := Bool.eq_false_iff.mpr c40
                   subst c40
                   have H1 : (fleuronlaw03_OutlineWithin.l1 k3 t485 t488 x8_2 x9_3 (wrap64 (x10_3 + 1))) = some r := by rw [if_neg (show ¬ (false = true) by decide)] at H; exact H
                   clear H
                   have H := H1
                   clear H1
                   have H' := aM H
                   clear H
                   obtain ⟨Ao42, co42, eo42⟩ := Kd.S_slice HO_6.out
                   subst eo42
                   have p493 : 0 ≤ (x8_2 : Int) := of_decide_eq_true (by assumption)
                   have q493 : x8_2 < (t488.length : Int) := of_decide_eq_true (by assumption)
                   obtain ⟨ad493, A493_0, c493_0, e493, hx493_0, hl493_0, hi493_0⟩ := at_L3 (Kd.S_reads' HO_6.out).2.2 x8_2 p493 q493
                   cases e493
                   obtain ⟨ce493, hce493, hMe493, hcc493⟩ := Kd.S_get HO_6.out [] x8_2 p493 (by first | exact q493 | exact of_decide_eq_true (by assumption) | (have e_ := (Kd.S_reads' HO_6.out).1; omega))
                   obtain ⟨ve493_0, rfl, ge493_0⟩ := hMe493
                   have hv493_0 := hcc493 0 _ rfl
                   rw [Nat.add_zero, show ((Kd.slice 33 k33)).sz = 1 from rfl, Nat.mul_one] at hv493_0
                   replace hv493_0 := Option.some.inj (hv493_0.symm.trans hx493_0)
                   rw [hv493_0] at ge493_0
                   have HL493_0 := aM (show Kd.R k33 33 _ _ _ _ (rd_L3 t488 x8_2) from ge493_0)
                   clear hv493_0 ge493_0
                   clear hcc493 hce493
                   have HR493_0 := aM hi493_0
                   have HC493_0 := aM hl493_0
                   clear hi493_0 hl493_0
                   replace p493 := eq_true p493
                   replace q493 := eq_true q493
                   have p494 : 0 ≤ (x8_2 : Int) := of_decide_eq_true (by assumption)
                   have q494 : x8_2 < (t488.length : Int) := of_decide_eq_true (by assumption)
                   obtain ⟨ad494, A494_0, c494_0, e494, hx494_0, hl494_0, hi494_0⟩ := at_L3 (Kd.S_reads' HO_6.out).2.2 x8_2 p494 q494
                   obtain rfl : ad493 = ad494 := (by injection e494)
                   obtain ⟨ce494, hce494, hMe494, hcc494⟩ := Kd.S_get HO_6.out [] x8_2 p494 (by first | exact q494 | exact of_decide_eq_true (by assumption) | (have e_ := (Kd.S_reads' HO_6.out).1; omega))
                   obtain ⟨ve494_0, rfl, ge494_0⟩ := hMe494
                   have hv494_0 := hcc494 0 _ rfl
                   rw [Nat.add_zero, show ((Kd.slice 33 k33)).sz = 1 from rfl, Nat.mul_one] at hv494_0
                   replace hv494_0 := Option.some.inj (hv494_0.symm.trans hx494_0)
                   rw [hv494_0] at ge494_0
                   have HL494_0 := aM (show Kd.R k33 33 _ _ _ _ (rd_L3 t488 x8_2) from ge494_0)
                   clear hv494_0 ge494_0
                   clear hcc494 hce494
                   have HR494_0 := aM hi494_0
                   have HC494_0 := aM hl494_0
                   clear hi494_0 hl494_0
                   replace p494 := eq_true p494
                   replace q494 := eq_true q494
                   have ea_ := Option.some.inj (hx493_0.symm.trans hx494_0)
                   injection ea_ with ea_ en_ ec_
                   subst ea_
                   subst ec_
                   clear en_
                   have p495 : 0 ≤ (x10_3 : Int) := of_decide_eq_true (by assumption)
                   have q495 : x10_3 < ((rd_L3 t488 x8_2).length : Int) := of_decide_eq_true (by assumption)
                   obtain ⟨ad495, e495, hx495_0, hx495_1, hx495_2⟩ := at_T33 (by repeat (first | (with_reducible exact HR494_0.out) | (with_reducible refine Kd.C_alloc ?_ _) | (with_reducible refine Kd.C_drewN ?_ _) | (with_reducible refine Kd.C_drew ?_) | exact HR494_0.out)) x10_3 p495 q495
                   (try rw [← Nbq33.out] at hx495_2)
                   (try rw [← Nbq39.out] at hx495_2)
                   cases e495
                   replace p495 := eq_true p495
                   replace q495 := eq_true q495
                   have p496 : 0 ≤ (x8_2 : Int) := of_decide_eq_true (by assumption)
                   have q496 : x8_2 < (t488.length : Int) := of_decide_eq_true (by assumption)
                   obtain ⟨ad496, A496_0, c496_0, e496, hx496_0, hl496_0, hi496_0⟩ := at_L3 (Kd.S_reads' HO_6.out).2.2 x8_2 p496 q496
                   obtain rfl : ad493 = ad496 := (by injection e496)
                   obtain ⟨ce496, hce496, hMe496, hcc496⟩ := Kd.S_get HO_6.out [] x8_2 p496 (by first | exact q496 | exact of_decide_eq_true (by assumption) | (have e_ := (Kd.S_reads' HO_6.out).1; omega))
                   obtain ⟨ve496_0, rfl, ge496_0⟩ := hMe496
                   have hv496_0 := hcc496 0 _ rfl
                   rw [Nat.add_zero, show ((Kd.slice 33 k33)).sz = 1 from rfl, Nat.mul_one] at hv496_0
                   replace hv496_0 := Option.some.inj (hv496_0.symm.trans hx496_0)
                   rw [hv496_0] at ge496_0
                   have HL496_0 := aM (show Kd.R k33 33 _ _ _ _ (rd_L3 t488 x8_2) from ge496_0)
                   clear hv496_0 ge496_0
                   clear hcc496 hce496
                   have HR496_0 := aM hi496_0
                   have HC496_0 := aM hl496_0
                   clear hi496_0 hl496_0
                   replace p496 := eq_true p496
                   replace q496 := eq_true q496
                   have ea_ := Option.some.inj (hx493_0.symm.trans hx496_0)
                   injection ea_ with ea_ en_ ec_
                   subst ea_
                   subst ec_
                   clear en_
                   have p497 : 0 ≤ (x8_2 : Int) := of_decide_eq_true (by assumption)
                   have q497 : x8_2 < (t488.length : Int) := of_decide_eq_true (by assumption)
                   obtain ⟨ad497, A497_0, c497_0, e497, hx497_0, hl497_0, hi497_0⟩ := at_L3 (Kd.S_reads' HO_6.out).2.2 x8_2 p497 q497
                   obtain rfl : ad493 = ad497 := (by injection e497)
                   obtain ⟨ce497, hce497, hMe497, hcc497⟩ := Kd.S_get HO_6.out [] x8_2 p497 (by first | exact q497 | exact of_decide_eq_true (by assumption) | (have e_ := (Kd.S_reads' HO_6.out).1; omega))
                   obtain ⟨ve497_0, rfl, ge497_0⟩ := hMe497
                   have hv497_0 := hcc497 0 _ rfl
                   rw [Nat.add_zero, show ((Kd.slice 33 k33)).sz = 1 from rfl, Nat.mul_one] at hv497_0
                   replace hv497_0 := Option.some.inj (hv497_0.symm.trans hx497_0)
                   rw [hv497_0] at ge497_0
                   have HL497_0 := aM (show Kd.R k33 33 _ _ _ _ (rd_L3 t488 x8_2) from ge497_0)
                   clear hv497_0 ge497_0
                   clear hcc497 hce497
                   have HR497_0 := aM hi497_0
                   have HC497_0 := aM hl497_0
                   clear hi497_0 hl497_0
                   replace p497 := eq_true p497
                   replace q497 := eq_true q497
                   have ea_ := Option.some.inj (hx493_0.symm.trans hx497_0)
                   injection ea_ with ea_ en_ ec_
                   subst ea_
                   subst ec_
                   clear en_
                   have p498 : 0 ≤ ((ji36) : Int) := of_decide_eq_true (by assumption)
                   have q498 : (ji36) < ((rd_L3 t488 x8_2).length : Int) := of_decide_eq_true (by assumption)
                   obtain ⟨ad498, e498, hx498_0, hx498_1, hx498_2⟩ := at_T33 (by repeat (first | (with_reducible exact HR496_0.out) | (with_reducible refine Kd.C_alloc ?_ _) | (with_reducible refine Kd.C_drewN ?_ _) | (with_reducible refine Kd.C_drew ?_) | exact HR496_0.out)) (ji36) p498 q498
                   (try rw [← Nbq33.out] at hx498_2)
                   (try rw [← Nbq39.out] at hx498_2)
                   cases e498
                   replace p498 := eq_true p498
                   replace q498 := eq_true q498
                   go_wp2
                   repeat (go_quiet (fail); try go_wp2)
                   go_roundg k3
                   case measure => have := HJ6.out; have := HK2.out; have := HK3.out; omega
                   case rel => exact ⟨(x9_3), (wrap64 (x10_3 + 1)), (by first | rfl | (simp; done) | (simp [*]; done)), (by first | rfl | (simp; done) | (simp [*]; done)), H', ⟨by have := HJ6.out; have := HK2.out; have := HK3.out; omega⟩, ⟨by (with_reducible repeat (first | apply Kd.S_alloc | apply Kd.S_drewN | apply Kd.S_drew)); exact HO_5.out⟩, ⟨by (with_reducible repeat (first | apply Kd.S_alloc | apply Kd.S_drewN | apply Kd.S_drew)); exact HO_6.out⟩, ⟨by (with_reducible repeat (first | refine kN ?_ _ | refine kD ?_ | refine kA ?_ _)); exact BK476.out⟩, ⟨by repeat (first | (with_reducible first | exact HB.out | apply bA | apply bN | apply bD | refine bS ?_ GE476.out) | exact HB.out)⟩⟩
                 ·
                  rw [if_neg c38] at H
                  exact absurd H (by simp)
                ·
                 rw [if_neg c37] at H
                 exact absurd H (by simp)
              ·
               replace c34 := Bool.eq_false_iff.mpr c34
               subst c34
               have H1 : (fleuronlaw03_OutlineWithin.l1 k3 t485 t488 x8_2 (wrap64 (x9_3 + 8)) (wrap64 (x10_3 + 1))) = some r := by rw [if_neg (show ¬ (false = true) by decide)] at H; exact H
               clear H
               have H := H1
               clear H1
               have H' := aM H
               clear H
               obtain ⟨Ao43, co43, eo43⟩ := Kd.S_slice HO_6.out
               subst eo43
               have p493 : 0 ≤ (x8_2 : Int) := of_decide_eq_true (by assumption)
               have q493 : x8_2 < (t488.length : Int) := of_decide_eq_true (by assumption)
               obtain ⟨ad493, A493_0, c493_0, e493, hx493_0, hl493_0, hi493_0⟩ := at_L3 (Kd.S_reads' HO_6.out).2.2 x8_2 p493 q493
               cases e493
               obtain ⟨ce493, hce493, hMe493, hcc493⟩ := Kd.S_get HO_6.out [] x8_2 p493 (by first | exact q493 | exact of_decide_eq_true (by assumption) | (have e_ := (Kd.S_reads' HO_6.out).1; omega))
               obtain ⟨ve493_0, rfl, ge493_0⟩ := hMe493
               have hv493_0 := hcc493 0 _ rfl
               rw [Nat.add_zero, show ((Kd.slice 33 k33)).sz = 1 from rfl, Nat.mul_one] at hv493_0
               replace hv493_0 := Option.some.inj (hv493_0.symm.trans hx493_0)
               rw [hv493_0] at ge493_0
               have HL493_0 := aM (show Kd.R k33 33 _ _ _ _ (rd_L3 t488 x8_2) from ge493_0)
               clear hv493_0 ge493_0
               clear hcc493 hce493
               have HR493_0 := aM hi493_0
               have HC493_0 := aM hl493_0
               clear hi493_0 hl493_0
               replace p493 := eq_true p493
               replace q493 := eq_true q493
               have p494 : 0 ≤ (x8_2 : Int) := of_decide_eq_true (by assumption)
               have q494 : x8_2 < (t488.length : Int) := of_decide_eq_true (by assumption)
               obtain ⟨ad494, A494_0, c494_0, e494, hx494_0, hl494_0, hi494_0⟩ := at_L3 (Kd.S_reads' HO_6.out).2.2 x8_2 p494 q494
               obtain rfl : ad493 = ad494 := (by injection e494)
               obtain ⟨ce494, hce494, hMe494, hcc494⟩ := Kd.S_get HO_6.out [] x8_2 p494 (by first | exact q494 | exact of_decide_eq_true (by assumption) | (have e_ := (Kd.S_reads' HO_6.out).1; omega))
               obtain ⟨ve494_0, rfl, ge494_0⟩ := hMe494
               have hv494_0 := hcc494 0 _ rfl
               rw [Nat.add_zero, show ((Kd.slice 33 k33)).sz = 1 from rfl, Nat.mul_one] at hv494_0
               replace hv494_0 := Option.some.inj (hv494_0.symm.trans hx494_0)
               rw [hv494_0] at ge494_0
               have HL494_0 := aM (show Kd.R k33 33 _ _ _ _ (rd_L3 t488 x8_2) from ge494_0)
               clear hv494_0 ge494_0
               clear hcc494 hce494
               have HR494_0 := aM hi494_0
               have HC494_0 := aM hl494_0
               clear hi494_0 hl494_0
               replace p494 := eq_true p494
               replace q494 := eq_true q494
               have ea_ := Option.some.inj (hx493_0.symm.trans hx494_0)
               injection ea_ with ea_ en_ ec_
               subst ea_
               subst ec_
               clear en_
               have p495 : 0 ≤ (x10_3 : Int) := of_decide_eq_true (by assumption)
               have q495 : x10_3 < ((rd_L3 t488 x8_2).length : Int) := of_decide_eq_true (by assumption)
               obtain ⟨ad495, e495, hx495_0, hx495_1, hx495_2⟩ := at_T33 (by repeat (first | (with_reducible exact HR494_0.out) | (with_reducible refine Kd.C_alloc ?_ _) | (with_reducible refine Kd.C_drewN ?_ _) | (with_reducible refine Kd.C_drew ?_) | exact HR494_0.out)) x10_3 p495 q495
               (try rw [← Nbq33.out] at hx495_2)
               cases e495
               replace p495 := eq_true p495
               replace q495 := eq_true q495
               go_wp2
               repeat (go_quiet (fail); try go_wp2)
               go_roundg k3
               case measure => have := HJ6.out; have := HK2.out; have := HK3.out; omega
               case rel => exact ⟨(wrap64 (x9_3 + 8)), (wrap64 (x10_3 + 1)), (by first | rfl | (simp; done) | (simp [*]; done)), (by first | rfl | (simp; done) | (simp [*]; done)), H', ⟨by have := HJ6.out; have := HK2.out; have := HK3.out; omega⟩, ⟨by (with_reducible repeat (first | apply Kd.S_alloc | apply Kd.S_drewN | apply Kd.S_drew)); exact HO_5.out⟩, ⟨by (with_reducible repeat (first | apply Kd.S_alloc | apply Kd.S_drewN | apply Kd.S_drew)); exact HO_6.out⟩, ⟨by (with_reducible repeat (first | refine kN ?_ _ | refine kD ?_ | refine kA ?_ _)); exact BK476.out⟩, ⟨by repeat (first | (with_reducible first | exact HB.out | apply bA | apply bN | apply bD | refine bS ?_ GE476.out) | exact HB.out)⟩⟩
             ·
              rw [if_neg c32] at H
              exact absurd H (by simp)
            ·
             rw [if_neg c31] at H
             have c31b0 : decide (x10_3 < ((rd_L3 t488 x8_2).length : Int)) = false := decide_eq_false c31
             clear c31
             replace H := Option.bind_eq_some_iff.mp H
             obtain ⟨⟨t500, t501, t502, t503, t504, t505, t506⟩, A440, H⟩ := H
             replace H : (if x8_2 < (t485.length : Int) then (if x9_3 = ((rd_L11 t485 x8_2).length : Int) then (fleuronlaw03_OutlineWithin.j3 k3 t485 t488 x8_2 (!t506) t500 t501 t502 t503 t504 t505) else (fleuronlaw03_OutlineWithin.j3 k3 t485 t488 x8_2 true t500 t501 t502 t503 t504 t505)) else (none)) = some r := H
             have A44 := aM A440
             clear A440
             have HC45 := aM H
             clear H
             obtain ⟨Ao46, co46, eo46⟩ := Kd.S_slice HO_6.out
             subst eo46
             have p493 : 0 ≤ (x8_2 : Int) := of_decide_eq_true (by assumption)
             have q493 : x8_2 < (t488.length : Int) := of_decide_eq_true (by assumption)
             obtain ⟨ad493, A493_0, c493_0, e493, hx493_0, hl493_0, hi493_0⟩ := at_L3 (Kd.S_reads' HO_6.out).2.2 x8_2 p493 q493
             cases e493
             obtain ⟨ce493, hce493, hMe493, hcc493⟩ := Kd.S_get HO_6.out [] x8_2 p493 (by first | exact q493 | exact of_decide_eq_true (by assumption) | (have e_ := (Kd.S_reads' HO_6.out).1; omega))
             obtain ⟨ve493_0, rfl, ge493_0⟩ := hMe493
             have hv493_0 := hcc493 0 _ rfl
             rw [Nat.add_zero, show ((Kd.slice 33 k33)).sz = 1 from rfl, Nat.mul_one] at hv493_0
             replace hv493_0 := Option.some.inj (hv493_0.symm.trans hx493_0)
             rw [hv493_0] at ge493_0
             have HL493_0 := aM (show Kd.R k33 33 _ _ _ _ (rd_L3 t488 x8_2) from ge493_0)
             clear hv493_0 ge493_0
             clear hcc493 hce493
             have HR493_0 := aM hi493_0
             have HC493_0 := aM hl493_0
             clear hi493_0 hl493_0
             replace p493 := eq_true p493
             replace q493 := eq_true q493
             have p499 : 0 ≤ (x8_2 : Int) := of_decide_eq_true (by assumption)
             have q499 : x8_2 < (t488.length : Int) := of_decide_eq_true (by assumption)
             obtain ⟨ad499, A499_0, c499_0, e499, hx499_0, hl499_0, hi499_0⟩ := at_L3 (Kd.S_reads' HO_6.out).2.2 x8_2 p499 q499
             obtain rfl : ad493 = ad499 := (by injection e499)
             obtain ⟨ce499, hce499, hMe499, hcc499⟩ := Kd.S_get HO_6.out [] x8_2 p499 (by first | exact q499 | exact of_decide_eq_true (by assumption) | (have e_ := (Kd.S_reads' HO_6.out).1; omega))
             obtain ⟨ve499_0, rfl, ge499_0⟩ := hMe499
             have hv499_0 := hcc499 0 _ rfl
             rw [Nat.add_zero, show ((Kd.slice 33 k33)).sz = 1 from rfl, Nat.mul_one] at hv499_0
             replace hv499_0 := Option.some.inj (hv499_0.symm.trans hx499_0)
             rw [hv499_0] at ge499_0
             have HL499_0 := aM (show Kd.R k33 33 _ _ _ _ (rd_L3 t488 x8_2) from ge499_0)
             clear hv499_0 ge499_0
             clear hcc499 hce499
             have HR499_0 := aM hi499_0
             have HC499_0 := aM hl499_0
             clear hi499_0 hl499_0
             replace p499 := eq_true p499
             replace q499 := eq_true q499
             have ea_ := Option.some.inj (hx493_0.symm.trans hx499_0)
             injection ea_ with ea_ en_ ec_
             subst ea_
             subst ec_
             clear en_
             go_upto_region 20 with (first | (go_at_call 19; (refine (outline_Box.calls _ _ (rd_L3 t488 x8_2) _ _ ([] : List Int) t500 t501 t502 t503 t504 t505 t506 _ ?side1 ?side2 ?side3 ?side4 A44.out).mono ?_); (case side1 => repeat (first | exact (by repeat (first | (with_reducible exact HR499_0.out) | (with_reducible refine Kd.C_alloc ?_ _) | (with_reducible refine Kd.C_drewN ?_ _) | (with_reducible refine Kd.C_drew ?_) | exact HR499_0.out)) | (with_reducible refine Kd.C_alloc ?_ _) | (with_reducible refine Kd.C_drewN ?_ _) | (with_reducible refine Kd.C_drew ?_))); (case side2 => exact HC499_0.out); (case side3 => exact Kd.C_nil _ _); (case side4 => exact Nat.le_refl _); rintro e w47 ⟨rfl, hb⟩; have n0_ := aM (Kd.S_below (by (with_reducible repeat (first | apply Kd.S_alloc | apply Kd.S_drewN | apply Kd.S_drew)); exact HO_5.out) hb); have n1_ := aM (Kd.S_below (by (with_reducible repeat (first | apply Kd.S_alloc | apply Kd.S_drewN | apply Kd.S_drew)); exact HO_6.out) hb); have n2_ := aM (Kd.R_below (by (with_reducible repeat (first | apply Kd.R_alloc | apply Kd.R_drewN | apply Kd.R_drew)); exact HL493_0.out) hb); have n3_ := aM (Kd.R_below (by (with_reducible repeat (first | apply Kd.R_alloc | apply Kd.R_drewN | apply Kd.R_drew)); exact HL499_0.out) hb); have n4_ := aM (blk_below (g := gb476) (o := .cells #[.slice A0_0 l0_0.length c0_0, .slice A0_1 l0_1.length c0_1] 25 (0, 0)) (by (with_reducible repeat (first | refine kN ?_ _ | refine kD ?_ | refine kA ?_ _)); exact BK476.out) hb); have n5_ := aM (Kd.C_below (by repeat (first | (with_reducible exact HR493_0.out) | (with_reducible refine Kd.C_alloc ?_ _) | (with_reducible refine Kd.C_drewN ?_ _) | (with_reducible refine Kd.C_drew ?_) | exact HR493_0.out)) hb); have n6_ := aM (Kd.C_below (by repeat (first | (with_reducible exact HR499_0.out) | (with_reducible refine Kd.C_alloc ?_ _) | (with_reducible refine Kd.C_drewN ?_ _) | (with_reducible refine Kd.C_drew ?_) | exact HR499_0.out)) hb); have n7_ := aM (below_step (by repeat (first | (with_reducible first | exact HB.out | apply bA | apply bN | apply bD | refine bS ?_ GE476.out) | exact HB.out)) hb); clear HO_5; clear HO_6; clear HL493_0; clear HL499_0; clear BK476; clear HR493_0; clear HR499_0; clear HB; have HO_5 := n0_; have HO_6 := n1_; have HL493_0 := n2_; have HL499_0 := n3_; have BK476 := n4_; have HR493_0 := n5_; have HR499_0 := n6_; have HB := n7_; clear n0_ n1_ n2_ n3_ n4_ n5_ n6_ n7_; (try clear hb); (try clear hb2); (try clear hk); (try clear hi)) | ((with_reducible refine gate_dst (N := 11) rfl ?_); (try (refine gate_guard (by rfl) ?_; dsimp only)); refine box_event ?hg (N := 11) ?hd (cs := #[.int .i64 0, .int .i64 0, .bool false]) (t := 33) ?hr ?_; (case hd => rfl); (case hg => rfl); (case hr => first | (go_simp; done) | (go_simp; rfl)); intro gb507 hg w48 hbox hb; have n0_ := aM (Kd.S_below (by (with_reducible repeat (first | apply Kd.S_alloc | apply Kd.S_drewN | apply Kd.S_drew)); exact HO_5.out) hb); have n1_ := aM (Kd.S_below (Kd.S_elderB (by (with_reducible repeat (first | apply Kd.S_alloc | apply Kd.S_drewN | apply Kd.S_drew)); exact HO_6.out) gb507 (Nat.le_of_eq hg.symm)) hb); have n2_ := aM (Kd.R_below (Kd.R_elderB (by (with_reducible repeat (first | apply Kd.R_alloc | apply Kd.R_drewN | apply Kd.R_drew)); exact HL493_0.out) gb507 (Nat.le_of_eq hg.symm)) hb); have n3_ := aM (Kd.R_below (Kd.R_elderB (by (with_reducible repeat (first | apply Kd.R_alloc | apply Kd.R_drewN | apply Kd.R_drew)); exact HL499_0.out) gb507 (Nat.le_of_eq hg.symm)) hb); have n4_ := aM (blk_below (g := gb476) (o := .cells #[.slice A0_0 l0_0.length c0_0, .slice A0_1 l0_1.length c0_1] 25 (0, 0)) (by (with_reducible repeat (first | refine kN ?_ _ | refine kD ?_ | refine kA ?_ _)); exact BK476.out) hb); have n5_ := aM (Kd.C_below (by repeat (first | (with_reducible exact HR493_0.out) | (with_reducible refine Kd.C_alloc ?_ _) | (with_reducible refine Kd.C_drewN ?_ _) | (with_reducible refine Kd.C_drew ?_) | exact HR493_0.out)) hb); have n6_ := aM (Kd.C_below (by repeat (first | (with_reducible exact HR499_0.out) | (with_reducible refine Kd.C_alloc ?_ _) | (with_reducible refine Kd.C_drewN ?_ _) | (with_reducible refine Kd.C_drew ?_) | exact HR499_0.out)) hb); have n7_ := aM (below_step (by repeat (first | (with_reducible first | exact HB.out | apply bA | apply bN | apply bD | refine bS ?_ GE476.out) | exact HB.out)) hb); have n8_ := aM (hbox); have n9_ := aM ((by rw [hg]; exact (below_size (by repeat (first | (with_reducible first | exact HB.out | apply bA | apply bN | apply bD | refine bS ?_ GE476.out) | exact HB.out))) : w.heap.size ≤ gb507)); have n10_ := aM ((by rw [hg]; exact (below_size (by repeat (first | (with_reducible first | exact HB.out | apply bA | apply bN | apply bD | refine bS ?_ GE476.out) | exact HB.out))) : w.heap.size ≤ gb507)); have n11_ := aM ((by rw [hg]; exact Nat.ne_of_lt (blk_lt (g := gb476) (o := .cells #[.slice A0_0 l0_0.length c0_0, .slice A0_1 l0_1.length c0_1] 25 (0, 0)) (by (with_reducible repeat (first | refine kN ?_ _ | refine kD ?_ | refine kA ?_ _)); exact BK476.out)) : gb476 ≠ gb507)); have n12_ := aM ((by rw [hg]; exact Nat.ne_of_gt (blk_lt (g := gb476) (o := .cells #[.slice A0_0 l0_0.length c0_0, .slice A0_1 l0_1.length c0_1] 25 (0, 0)) (by (with_reducible repeat (first | refine kN ?_ _ | refine kD ?_ | refine kA ?_ _)); exact BK476.out)) : gb507 ≠ gb476)); clear HO_5; clear HO_6; clear HL493_0; clear HL499_0; clear BK476; clear HR493_0; clear HR499_0; clear HB; have HO_5 := n0_; have HO_6 := n1_; have HL493_0 := n2_; have HL499_0 := n3_; have BK476 := n4_; have HR493_0 := n5_; have HR499_0 := n6_; have HB := n7_; have BK507 := n8_; have GW507 := n9_; have GE507 := n10_; have NB476_507 := n11_; have NB507_476 := n12_; clear n0_ n1_ n2_ n3_ n4_ n5_ n6_ n7_ n8_ n9_ n10_ n11_ n12_; clear hb hbox hg) | ((with_reducible refine gate_dst (N := 12) rfl ?_); (try (refine gate_guard (by rfl) ?_; dsimp only)); refine box_event ?hg (N := 12) ?hd (cs := #[.int .i64 0, .int .i64 0, .bool false]) (t := 33) ?hr ?_; (case hd => rfl); (case hg => rfl); (case hr => first | (go_simp; done) | (go_simp; rfl)); intro gb508 hg w49 hbox hb; have n0_ := aM (Kd.S_below (by (with_reducible repeat (first | apply Kd.S_alloc | apply Kd.S_drewN | apply Kd.S_drew)); exact HO_5.out) hb); have n1_ := aM (Kd.S_below (Kd.S_elderB (by (with_reducible repeat (first | apply Kd.S_alloc | apply Kd.S_drewN | apply Kd.S_drew)); exact HO_6.out) gb508 (Nat.le_of_eq hg.symm)) hb); have n2_ := aM (Kd.R_below (Kd.R_elderB (by (with_reducible repeat (first | apply Kd.R_alloc | apply Kd.R_drewN | apply Kd.R_drew)); exact HL493_0.out) gb508 (Nat.le_of_eq hg.symm)) hb); have n3_ := aM (Kd.R_below (Kd.R_elderB (by (with_reducible repeat (first | apply Kd.R_alloc | apply Kd.R_drewN | apply Kd.R_drew)); exact HL499_0.out) gb508 (Nat.le_of_eq hg.symm)) hb); have n4_ := aM (blk_below (g := gb476) (o := .cells #[.slice A0_0 l0_0.length c0_0, .slice A0_1 l0_1.length c0_1] 25 (0, 0)) (by (with_reducible repeat (first | refine kN ?_ _ | refine kD ?_ | refine kA ?_ _)); exact BK476.out) hb); have n5_ := aM (Kd.C_below (by repeat (first | (with_reducible exact HR493_0.out) | (with_reducible refine Kd.C_alloc ?_ _) | (with_reducible refine Kd.C_drewN ?_ _) | (with_reducible refine Kd.C_drew ?_) | exact HR493_0.out)) hb); have n6_ := aM (Kd.C_below (by repeat (first | (with_reducible exact HR499_0.out) | (with_reducible refine Kd.C_alloc ?_ _) | (with_reducible refine Kd.C_drewN ?_ _) | (with_reducible refine Kd.C_drew ?_) | exact HR499_0.out)) hb); have n7_ := aM (blk_below (g := gb507) (o := .cells #[.int .i64 0, .int .i64 0, .bool false] 33 (0, 0)) (by (with_reducible repeat (first | refine kN ?_ _ | refine kD ?_ | refine kA ?_ _)); exact BK507.out) hb); have n8_ := aM (below_step (by repeat (first | (with_reducible first | exact HB.out | apply bA | apply bN | apply bD | refine bS ?_ GE476.out | refine bS ?_ GE507.out) | exact HB.out)) hb); have n9_ := aM (hbox); have n10_ := aM ((by rw [hg]; exact (below_size (by repeat (first | (with_reducible first | exact HB.out | apply bA | apply bN | apply bD | refine bS ?_ GE476.out | refine bS ?_ GE507.out) | exact HB.out))) : w.heap.size ≤ gb508)); have n11_ := aM ((by rw [hg]; exact (below_size (by repeat (first | (with_reducible first | exact HB.out | apply bA | apply bN | apply bD | refine bS ?_ GE476.out | refine bS ?_ GE507.out) | exact HB.out))) : w.heap.size ≤ gb508)); have n12_ := aM ((by rw [hg]; exact Nat.ne_of_lt (blk_lt (g := gb476) (o := .cells #[.slice A0_0 l0_0.length c0_0, .slice A0_1 l0_1.length c0_1] 25 (0, 0)) (by (with_reducible repeat (first | refine kN ?_ _ | refine kD ?_ | refine kA ?_ _)); exact BK476.out)) : gb476 ≠ gb508)); have n13_ := aM ((by rw [hg]; exact Nat.ne_of_gt (blk_lt (g := gb476) (o := .cells #[.slice A0_0 l0_0.length c0_0, .slice A0_1 l0_1.length c0_1] 25 (0, 0)) (by (with_reducible repeat (first | refine kN ?_ _ | refine kD ?_ | refine kA ?_ _)); exact BK476.out)) : gb508 ≠ gb476)); have n14_ := aM ((by rw [hg]; exact Nat.ne_of_lt (blk_lt (g := gb507) (o := .cells #[.int .i64 0, .int .i64 0, .bool false] 33 (0, 0)) (by (with_reducible repeat (first | refine kN ?_ _ | refine kD ?_ | refine kA ?_ _)); exact BK507.out)) : gb507 ≠ gb508)); have n15_ := aM ((by rw [hg]; exact Nat.ne_of_gt (blk_lt (g := gb507) (o := .cells #[.int .i64 0, .int .i64 0, .bool false] 33 (0, 0)) (by (with_reducible repeat (first | refine kN ?_ _ | refine kD ?_ | refine kA ?_ _)); exact BK507.out)) : gb508 ≠ gb507)); clear HO_5; clear HO_6; clear HL493_0; clear HL499_0; clear BK476; clear HR493_0; clear HR499_0; clear BK507; clear HB; have HO_5 := n0_; have HO_6 := n1_; have HL493_0 := n2_; have HL499_0 := n3_; have BK476 := n4_; have HR493_0 := n5_; have HR499_0 := n6_; have BK507 := n7_; have HB := n8_; have BK508 := n9_; have GW508 := n10_; have GE508 := n11_; have NB476_508 := n12_; have NB508_476 := n13_; have NB507_508 := n14_; have NB508_507 := n15_; clear n0_ n1_ n2_ n3_ n4_ n5_ n6_ n7_ n8_ n9_ n10_ n11_ n12_ n13_ n14_ n15_; clear hb hbox hg; have hnb50 := NB507_476.out; have hnc50 := NB476_507.out; have hnb51 := NB507_508.out; have hnc51 := NB508_507.out; have hcz52_0 : w49.cell? ⟨gb507, 0, none⟩ = some (.int .i64 0) := (blk_cell BK507.out 0).trans rfl; have hcz52_1 : w49.cell? ⟨gb507, 1, none⟩ = some (.int .i64 0) := (blk_cell BK507.out 1).trans rfl; have hcz52_2 : w49.cell? ⟨gb507, 2, none⟩ = some (.bool false) := (blk_cell BK507.out 2).trans rfl; have hfz52_0 := blk_frozen BK507.out 0; have hfz52_1 := blk_frozen BK507.out 1; have hfz52_2 := blk_frozen BK507.out 2; have hnb53 := NB508_476.out; have hnc53 := NB476_508.out; have hcz54_0 : w49.cell? ⟨gb508, 0, none⟩ = some (.int .i64 0) := (blk_cell BK508.out 0).trans rfl; have hcz54_1 : w49.cell? ⟨gb508, 1, none⟩ = some (.int .i64 0) := (blk_cell BK508.out 1).trans rfl; have hcz54_2 : w49.cell? ⟨gb508, 2, none⟩ = some (.bool false) := (blk_cell BK508.out 2).trans rfl; have hfz54_0 := blk_frozen BK508.out 0; have hfz54_1 := blk_frozen BK508.out 1; have hfz54_2 := blk_frozen BK508.out 2))
             repeat (go_quiet (first | (go_at_call 19; (refine (outline_Box.calls _ _ (rd_L3 t488 x8_2) _ _ ([] : List Int) t500 t501 t502 t503 t504 t505 t506 _ ?side1 ?side2 ?side3 ?side4 A44.out).mono ?_); (case side1 => repeat (first | exact (by repeat (first | (with_reducible exact HR499_0.out) | (with_reducible refine Kd.C_alloc ?_ _) | (with_reducible refine Kd.C_drewN ?_ _) | (with_reducible refine Kd.C_drew ?_) | exact HR499_0.out)) | (with_reducible refine Kd.C_alloc ?_ _) | (with_reducible refine Kd.C_drewN ?_ _) | (with_reducible refine Kd.C_drew ?_))); (case side2 => exact HC499_0.out); (case side3 => exact Kd.C_nil _ _); (case side4 => exact Nat.le_refl _); rintro e w47 ⟨rfl, hb⟩; have n0_ := aM (Kd.S_below (by (with_reducible repeat (first | apply Kd.S_alloc | apply Kd.S_drewN | apply Kd.S_drew)); exact HO_5.out) hb); have n1_ := aM (Kd.S_below (by (with_reducible repeat (first | apply Kd.S_alloc | apply Kd.S_drewN | apply Kd.S_drew)); exact HO_6.out) hb); have n2_ := aM (Kd.R_below (by (with_reducible repeat (first | apply Kd.R_alloc | apply Kd.R_drewN | apply Kd.R_drew)); exact HL493_0.out) hb); have n3_ := aM (Kd.R_below (by (with_reducible repeat (first | apply Kd.R_alloc | apply Kd.R_drewN | apply Kd.R_drew)); exact HL499_0.out) hb); have n4_ := aM (blk_below (g := gb476) (o := .cells #[.slice A0_0 l0_0.length c0_0, .slice A0_1 l0_1.length c0_1] 25 (0, 0)) (by (with_reducible repeat (first | refine kN ?_ _ | refine kD ?_ | refine kA ?_ _)); exact BK476.out) hb); have n5_ := aM (Kd.C_below (by repeat (first | (with_reducible exact HR493_0.out) | (with_reducible refine Kd.C_alloc ?_ _) | (with_reducible refine Kd.C_drewN ?_ _) | (with_reducible refine Kd.C_drew ?_) | exact HR493_0.out)) hb); have n6_ := aM (Kd.C_below (by repeat (first | (with_reducible exact HR499_0.out) | (with_reducible refine Kd.C_alloc ?_ _) | (with_reducible refine Kd.C_drewN ?_ _) | (with_reducible refine Kd.C_drew ?_) | exact HR499_0.out)) hb); have n7_ := aM (below_step (by repeat (first | (with_reducible first | exact HB.out | apply bA | apply bN | apply bD | refine bS ?_ GE476.out) | exact HB.out)) hb); clear HO_5; clear HO_6; clear HL493_0; clear HL499_0; clear BK476; clear HR493_0; clear HR499_0; clear HB; have HO_5 := n0_; have HO_6 := n1_; have HL493_0 := n2_; have HL499_0 := n3_; have BK476 := n4_; have HR493_0 := n5_; have HR499_0 := n6_; have HB := n7_; clear n0_ n1_ n2_ n3_ n4_ n5_ n6_ n7_; (try clear hb); (try clear hb2); (try clear hk); (try clear hi)) | ((with_reducible refine gate_dst (N := 11) rfl ?_); (try (refine gate_guard (by rfl) ?_; dsimp only)); refine box_event ?hg (N := 11) ?hd (cs := #[.int .i64 0, .int .i64 0, .bool false]) (t := 33) ?hr ?_; (case hd => rfl); (case hg => rfl); (case hr => first | (go_simp; done) | (go_simp; rfl)); intro gb507 hg w48 hbox hb; have n0_ := aM (Kd.S_below (by (with_reducible repeat (first | apply Kd.S_alloc | apply Kd.S_drewN | apply Kd.S_drew)); exact HO_5.out) hb); have n1_ := aM (Kd.S_below (Kd.S_elderB (by (with_reducible repeat (first | apply Kd.S_alloc | apply Kd.S_drewN | apply Kd.S_drew)); exact HO_6.out) gb507 (Nat.le_of_eq hg.symm)) hb); have n2_ := aM (Kd.R_below (Kd.R_elderB (by (with_reducible repeat (first | apply Kd.R_alloc | apply Kd.R_drewN | apply Kd.R_drew)); exact HL493_0.out) gb507 (Nat.le_of_eq hg.symm)) hb); have n3_ := aM (Kd.R_below (Kd.R_elderB (by (with_reducible repeat (first | apply Kd.R_alloc | apply Kd.R_drewN | apply Kd.R_drew)); exact HL499_0.out) gb507 (Nat.le_of_eq hg.symm)) hb); have n4_ := aM (blk_below (g := gb476) (o := .cells #[.slice A0_0 l0_0.length c0_0, .slice A0_1 l0_1.length c0_1] 25 (0, 0)) (by (with_reducible repeat (first | refine kN ?_ _ | refine kD ?_ | refine kA ?_ _)); exact BK476.out) hb); have n5_ := aM (Kd.C_below (by repeat (first | (with_reducible exact HR493_0.out) | (with_reducible refine Kd.C_alloc ?_ _) | (with_reducible refine Kd.C_drewN ?_ _) | (with_reducible refine Kd.C_drew ?_) | exact HR493_0.out)) hb); have n6_ := aM (Kd.C_below (by repeat (first | (with_reducible exact HR499_0.out) | (with_reducible refine Kd.C_alloc ?_ _) | (with_reducible refine Kd.C_drewN ?_ _) | (with_reducible refine Kd.C_drew ?_) | exact HR499_0.out)) hb); have n7_ := aM (below_step (by repeat (first | (with_reducible first | exact HB.out | apply bA | apply bN | apply bD | refine bS ?_ GE476.out) | exact HB.out)) hb); have n8_ := aM (hbox); have n9_ := aM ((by rw [hg]; exact (below_size (by repeat (first | (with_reducible first | exact HB.out | apply bA | apply bN | apply bD | refine bS ?_ GE476.out) | exact HB.out))) : w.heap.size ≤ gb507)); have n10_ := aM ((by rw [hg]; exact (below_size (by repeat (first | (with_reducible first | exact HB.out | apply bA | apply bN | apply bD | refine bS ?_ GE476.out) | exact HB.out))) : w.heap.size ≤ gb507)); have n11_ := aM ((by rw [hg]; exact Nat.ne_of_lt (blk_lt (g := gb476) (o := .cells #[.slice A0_0 l0_0.length c0_0, .slice A0_1 l0_1.length c0_1] 25 (0, 0)) (by (with_reducible repeat (first | refine kN ?_ _ | refine kD ?_ | refine kA ?_ _)); exact BK476.out)) : gb476 ≠ gb507)); have n12_ := aM ((by rw [hg]; exact Nat.ne_of_gt (blk_lt (g := gb476) (o := .cells #[.slice A0_0 l0_0.length c0_0, .slice A0_1 l0_1.length c0_1] 25 (0, 0)) (by (with_reducible repeat (first | refine kN ?_ _ | refine kD ?_ | refine kA ?_ _)); exact BK476.out)) : gb507 ≠ gb476)); clear HO_5; clear HO_6; clear HL493_0; clear HL499_0; clear BK476; clear HR493_0; clear HR499_0; clear HB; have HO_5 := n0_; have HO_6 := n1_; have HL493_0 := n2_; have HL499_0 := n3_; have BK476 := n4_; have HR493_0 := n5_; have HR499_0 := n6_; have HB := n7_; have BK507 := n8_; have GW507 := n9_; have GE507 := n10_; have NB476_507 := n11_; have NB507_476 := n12_; clear n0_ n1_ n2_ n3_ n4_ n5_ n6_ n7_ n8_ n9_ n10_ n11_ n12_; clear hb hbox hg) | ((with_reducible refine gate_dst (N := 12) rfl ?_); (try (refine gate_guard (by rfl) ?_; dsimp only)); refine box_event ?hg (N := 12) ?hd (cs := #[.int .i64 0, .int .i64 0, .bool false]) (t := 33) ?hr ?_; (case hd => rfl); (case hg => rfl); (case hr => first | (go_simp; done) | (go_simp; rfl)); intro gb508 hg w49 hbox hb; have n0_ := aM (Kd.S_below (by (with_reducible repeat (first | apply Kd.S_alloc | apply Kd.S_drewN | apply Kd.S_drew)); exact HO_5.out) hb); have n1_ := aM (Kd.S_below (Kd.S_elderB (by (with_reducible repeat (first | apply Kd.S_alloc | apply Kd.S_drewN | apply Kd.S_drew)); exact HO_6.out) gb508 (Nat.le_of_eq hg.symm)) hb); have n2_ := aM (Kd.R_below (Kd.R_elderB (by (with_reducible repeat (first | apply Kd.R_alloc | apply Kd.R_drewN | apply Kd.R_drew)); exact HL493_0.out) gb508 (Nat.le_of_eq hg.symm)) hb); have n3_ := aM (Kd.R_below (Kd.R_elderB (by (with_reducible repeat (first | apply Kd.R_alloc | apply Kd.R_drewN | apply Kd.R_drew)); exact HL499_0.out) gb508 (Nat.le_of_eq hg.symm)) hb); have n4_ := aM (blk_below (g := gb476) (o := .cells #[.slice A0_0 l0_0.length c0_0, .slice A0_1 l0_1.length c0_1] 25 (0, 0)) (by (with_reducible repeat (first | refine kN ?_ _ | refine kD ?_ | refine kA ?_ _)); exact BK476.out) hb); have n5_ := aM (Kd.C_below (by repeat (first | (with_reducible exact HR493_0.out) | (with_reducible refine Kd.C_alloc ?_ _) | (with_reducible refine Kd.C_drewN ?_ _) | (with_reducible refine Kd.C_drew ?_) | exact HR493_0.out)) hb); have n6_ := aM (Kd.C_below (by repeat (first | (with_reducible exact HR499_0.out) | (with_reducible refine Kd.C_alloc ?_ _) | (with_reducible refine Kd.C_drewN ?_ _) | (with_reducible refine Kd.C_drew ?_) | exact HR499_0.out)) hb); have n7_ := aM (blk_below (g := gb507) (o := .cells #[.int .i64 0, .int .i64 0, .bool false] 33 (0, 0)) (by (with_reducible repeat (first | refine kN ?_ _ | refine kD ?_ | refine kA ?_ _)); exact BK507.out) hb); have n8_ := aM (below_step (by repeat (first | (with_reducible first | exact HB.out | apply bA | apply bN | apply bD | refine bS ?_ GE476.out | refine bS ?_ GE507.out) | exact HB.out)) hb); have n9_ := aM (hbox); have n10_ := aM ((by rw [hg]; exact (below_size (by repeat (first | (with_reducible first | exact HB.out | apply bA | apply bN | apply bD | refine bS ?_ GE476.out | refine bS ?_ GE507.out) | exact HB.out))) : w.heap.size ≤ gb508)); have n11_ := aM ((by rw [hg]; exact (below_size (by repeat (first | (with_reducible first | exact HB.out | apply bA | apply bN | apply bD | refine bS ?_ GE476.out | refine bS ?_ GE507.out) | exact HB.out))) : w.heap.size ≤ gb508)); have n12_ := aM ((by rw [hg]; exact Nat.ne_of_lt (blk_lt (g := gb476) (o := .cells #[.slice A0_0 l0_0.length c0_0, .slice A0_1 l0_1.length c0_1] 25 (0, 0)) (by (with_reducible repeat (first | refine kN ?_ _ | refine kD ?_ | refine kA ?_ _)); exact BK476.out)) : gb476 ≠ gb508)); have n13_ := aM ((by rw [hg]; exact Nat.ne_of_gt (blk_lt (g := gb476) (o := .cells #[.slice A0_0 l0_0.length c0_0, .slice A0_1 l0_1.length c0_1] 25 (0, 0)) (by (with_reducible repeat (first | refine kN ?_ _ | refine kD ?_ | refine kA ?_ _)); exact BK476.out)) : gb508 ≠ gb476)); have n14_ := aM ((by rw [hg]; exact Nat.ne_of_lt (blk_lt (g := gb507) (o := .cells #[.int .i64 0, .int .i64 0, .bool false] 33 (0, 0)) (by (with_reducible repeat (first | refine kN ?_ _ | refine kD ?_ | refine kA ?_ _)); exact BK507.out)) : gb507 ≠ gb508)); have n15_ := aM ((by rw [hg]; exact Nat.ne_of_gt (blk_lt (g := gb507) (o := .cells #[.int .i64 0, .int .i64 0, .bool false] 33 (0, 0)) (by (with_reducible repeat (first | refine kN ?_ _ | refine kD ?_ | refine kA ?_ _)); exact BK507.out)) : gb508 ≠ gb507)); clear HO_5; clear HO_6; clear HL493_0; clear HL499_0; clear BK476; clear HR493_0; clear HR499_0; clear BK507; clear HB; have HO_5 := n0_; have HO_6 := n1_; have HL493_0 := n2_; have HL499_0 := n3_; have BK476 := n4_; have HR493_0 := n5_; have HR499_0 := n6_; have BK507 := n7_; have HB := n8_; have BK508 := n9_; have GW508 := n10_; have GE508 := n11_; have NB476_508 := n12_; have NB508_476 := n13_; have NB507_508 := n14_; have NB508_507 := n15_; clear n0_ n1_ n2_ n3_ n4_ n5_ n6_ n7_ n8_ n9_ n10_ n11_ n12_ n13_ n14_ n15_; clear hb hbox hg; have hnb50 := NB507_476.out; have hnc50 := NB476_507.out; have hnb51 := NB507_508.out; have hnc51 := NB508_507.out; have hcz52_0 : w49.cell? ⟨gb507, 0, none⟩ = some (.int .i64 0) := (blk_cell BK507.out 0).trans rfl; have hcz52_1 : w49.cell? ⟨gb507, 1, none⟩ = some (.int .i64 0) := (blk_cell BK507.out 1).trans rfl; have hcz52_2 : w49.cell? ⟨gb507, 2, none⟩ = some (.bool false) := (blk_cell BK507.out 2).trans rfl; have hfz52_0 := blk_frozen BK507.out 0; have hfz52_1 := blk_frozen BK507.out 1; have hfz52_2 := blk_frozen BK507.out 2; have hnb53 := NB508_476.out; have hnc53 := NB476_508.out; have hcz54_0 : w49.cell? ⟨gb508, 0, none⟩ = some (.int .i64 0) := (blk_cell BK508.out 0).trans rfl; have hcz54_1 : w49.cell? ⟨gb508, 1, none⟩ = some (.int .i64 0) := (blk_cell BK508.out 1).trans rfl; have hcz54_2 : w49.cell? ⟨gb508, 2, none⟩ = some (.bool false) := (blk_cell BK508.out 2).trans rfl; have hfz54_0 := blk_frozen BK508.out 0; have hfz54_1 := blk_frozen BK508.out 1; have hfz54_2 := blk_frozen BK508.out 2)); go_upto_region 20 with (first | (go_at_call 19; (refine (outline_Box.calls _ _ (rd_L3 t488 x8_2) _ _ ([] : List Int) t500 t501 t502 t503 t504 t505 t506 _ ?side1 ?side2 ?side3 ?side4 A44.out).mono ?_); (case side1 => repeat (first | exact (by repeat (first | (with_reducible exact HR499_0.out) | (with_reducible refine Kd.C_alloc ?_ _) | (with_reducible refine Kd.C_drewN ?_ _) | (with_reducible refine Kd.C_drew ?_) | exact HR499_0.out)) | (with_reducible refine Kd.C_alloc ?_ _) | (with_reducible refine Kd.C_drewN ?_ _) | (with_reducible refine Kd.C_drew ?_))); (case side2 => exact HC499_0.out); (case side3 => exact Kd.C_nil _ _); (case side4 => exact Nat.le_refl _); rintro e w47 ⟨rfl, hb⟩; have n0_ := aM (Kd.S_below (by (with_reducible repeat (first | apply Kd.S_alloc | apply Kd.S_drewN | apply Kd.S_drew)); exact HO_5.out) hb); have n1_ := aM (Kd.S_below (by (with_reducible repeat (first | apply Kd.S_alloc | apply Kd.S_drewN | apply Kd.S_drew)); exact HO_6.out) hb); have n2_ := aM (Kd.R_below (by (with_reducible repeat (first | apply Kd.R_alloc | apply Kd.R_drewN | apply Kd.R_drew)); exact HL493_0.out) hb); have n3_ := aM (Kd.R_below (by (with_reducible repeat (first | apply Kd.R_alloc | apply Kd.R_drewN | apply Kd.R_drew)); exact HL499_0.out) hb); have n4_ := aM (blk_below (g := gb476) (o := .cells #[.slice A0_0 l0_0.length c0_0, .slice A0_1 l0_1.length c0_1] 25 (0, 0)) (by (with_reducible repeat (first | refine kN ?_ _ | refine kD ?_ | refine kA ?_ _)); exact BK476.out) hb); have n5_ := aM (Kd.C_below (by repeat (first | (with_reducible exact HR493_0.out) | (with_reducible refine Kd.C_alloc ?_ _) | (with_reducible refine Kd.C_drewN ?_ _) | (with_reducible refine Kd.C_drew ?_) | exact HR493_0.out)) hb); have n6_ := aM (Kd.C_below (by repeat (first | (with_reducible exact HR499_0.out) | (with_reducible refine Kd.C_alloc ?_ _) | (with_reducible refine Kd.C_drewN ?_ _) | (with_reducible refine Kd.C_drew ?_) | exact HR499_0.out)) hb); have n7_ := aM (below_step (by repeat (first | (with_reducible first | exact HB.out | apply bA | apply bN | apply bD | refine bS ?_ GE476.out) | exact HB.out)) hb); clear HO_5; clear HO_6; clear HL493_0; clear HL499_0; clear BK476; clear HR493_0; clear HR499_0; clear HB; have HO_5 := n0_; have HO_6 := n1_; have HL493_0 := n2_; have HL499_0 := n3_; have BK476 := n4_; have HR493_0 := n5_; have HR499_0 := n6_; have HB := n7_; clear n0_ n1_ n2_ n3_ n4_ n5_ n6_ n7_; (try clear hb); (try clear hb2); (try clear hk); (try clear hi)) | ((with_reducible refine gate_dst (N := 11) rfl ?_); (try (refine gate_guard (by rfl) ?_; dsimp only)); refine box_event ?hg (N := 11) ?hd (cs := #[.int .i64 0, .int .i64 0, .bool false]) (t := 33) ?hr ?_; (case hd => rfl); (case hg => rfl); (case hr => first | (go_simp; done) | (go_simp; rfl)); intro gb507 hg w48 hbox hb; have n0_ := aM (Kd.S_below (by (with_reducible repeat (first | apply Kd.S_alloc | apply Kd.S_drewN | apply Kd.S_drew)); exact HO_5.out) hb); have n1_ := aM (Kd.S_below (Kd.S_elderB (by (with_reducible repeat (first | apply Kd.S_alloc | apply Kd.S_drewN | apply Kd.S_drew)); exact HO_6.out) gb507 (Nat.le_of_eq hg.symm)) hb); have n2_ := aM (Kd.R_below (Kd.R_elderB (by (with_reducible repeat (first | apply Kd.R_alloc | apply Kd.R_drewN | apply Kd.R_drew)); exact HL493_0.out) gb507 (Nat.le_of_eq hg.symm)) hb); have n3_ := aM (Kd.R_below (Kd.R_elderB (by (with_reducible repeat (first | apply Kd.R_alloc | apply Kd.R_drewN | apply Kd.R_drew)); exact HL499_0.out) gb507 (Nat.le_of_eq hg.symm)) hb); have n4_ := aM (blk_below (g := gb476) (o := .cells #[.slice A0_0 l0_0.length c0_0, .slice A0_1 l0_1.length c0_1] 25 (0, 0)) (by (with_reducible repeat (first | refine kN ?_ _ | refine kD ?_ | refine kA ?_ _)); exact BK476.out) hb); have n5_ := aM (Kd.C_below (by repeat (first | (with_reducible exact HR493_0.out) | (with_reducible refine Kd.C_alloc ?_ _) | (with_reducible refine Kd.C_drewN ?_ _) | (with_reducible refine Kd.C_drew ?_) | exact HR493_0.out)) hb); have n6_ := aM (Kd.C_below (by repeat (first | (with_reducible exact HR499_0.out) | (with_reducible refine Kd.C_alloc ?_ _) | (with_reducible refine Kd.C_drewN ?_ _) | (with_reducible refine Kd.C_drew ?_) | exact HR499_0.out)) hb); have n7_ := aM (below_step (by repeat (first | (with_reducible first | exact HB.out | apply bA | apply bN | apply bD | refine bS ?_ GE476.out) | exact HB.out)) hb); have n8_ := aM (hbox); have n9_ := aM ((by rw [hg]; exact (below_size (by repeat (first | (with_reducible first | exact HB.out | apply bA | apply bN | apply bD | refine bS ?_ GE476.out) | exact HB.out))) : w.heap.size ≤ gb507)); have n10_ := aM ((by rw [hg]; exact (below_size (by repeat (first | (with_reducible first | exact HB.out | apply bA | apply bN | apply bD | refine bS ?_ GE476.out) | exact HB.out))) : w.heap.size ≤ gb507)); have n11_ := aM ((by rw [hg]; exact Nat.ne_of_lt (blk_lt (g := gb476) (o := .cells #[.slice A0_0 l0_0.length c0_0, .slice A0_1 l0_1.length c0_1] 25 (0, 0)) (by (with_reducible repeat (first | refine kN ?_ _ | refine kD ?_ | refine kA ?_ _)); exact BK476.out)) : gb476 ≠ gb507)); have n12_ := aM ((by rw [hg]; exact Nat.ne_of_gt (blk_lt (g := gb476) (o := .cells #[.slice A0_0 l0_0.length c0_0, .slice A0_1 l0_1.length c0_1] 25 (0, 0)) (by (with_reducible repeat (first | refine kN ?_ _ | refine kD ?_ | refine kA ?_ _)); exact BK476.out)) : gb507 ≠ gb476)); clear HO_5; clear HO_6; clear HL493_0; clear HL499_0; clear BK476; clear HR493_0; clear HR499_0; clear HB; have HO_5 := n0_; have HO_6 := n1_; have HL493_0 := n2_; have HL499_0 := n3_; have BK476 := n4_; have HR493_0 := n5_; have HR499_0 := n6_; have HB := n7_; have BK507 := n8_; have GW507 := n9_; have GE507 := n10_; have NB476_507 := n11_; have NB507_476 := n12_; clear n0_ n1_ n2_ n3_ n4_ n5_ n6_ n7_ n8_ n9_ n10_ n11_ n12_; clear hb hbox hg) | ((with_reducible refine gate_dst (N := 12) rfl ?_); (try (refine gate_guard (by rfl) ?_; dsimp only)); refine box_event ?hg (N := 12) ?hd (cs := #[.int .i64 0, .int .i64 0, .bool false]) (t := 33) ?hr ?_; (case hd => rfl); (case hg => rfl); (case hr => first | (go_simp; done) | (go_simp; rfl)); intro gb508 hg w49 hbox hb; have n0_ := aM (Kd.S_below (by (with_reducible repeat (first | apply Kd.S_alloc | apply Kd.S_drewN | apply Kd.S_drew)); exact HO_5.out) hb); have n1_ := aM (Kd.S_below (Kd.S_elderB (by (with_reducible repeat (first | apply Kd.S_alloc | apply Kd.S_drewN | apply Kd.S_drew)); exact HO_6.out) gb508 (Nat.le_of_eq hg.symm)) hb); have n2_ := aM (Kd.R_below (Kd.R_elderB (by (with_reducible repeat (first | apply Kd.R_alloc | apply Kd.R_drewN | apply Kd.R_drew)); exact HL493_0.out) gb508 (Nat.le_of_eq hg.symm)) hb); have n3_ := aM (Kd.R_below (Kd.R_elderB (by (with_reducible repeat (first | apply Kd.R_alloc | apply Kd.R_drewN | apply Kd.R_drew)); exact HL499_0.out) gb508 (Nat.le_of_eq hg.symm)) hb); have n4_ := aM (blk_below (g := gb476) (o := .cells #[.slice A0_0 l0_0.length c0_0, .slice A0_1 l0_1.length c0_1] 25 (0, 0)) (by (with_reducible repeat (first | refine kN ?_ _ | refine kD ?_ | refine kA ?_ _)); exact BK476.out) hb); have n5_ := aM (Kd.C_below (by repeat (first | (with_reducible exact HR493_0.out) | (with_reducible refine Kd.C_alloc ?_ _) | (with_reducible refine Kd.C_drewN ?_ _) | (with_reducible refine Kd.C_drew ?_) | exact HR493_0.out)) hb); have n6_ := aM (Kd.C_below (by repeat (first | (with_reducible exact HR499_0.out) | (with_reducible refine Kd.C_alloc ?_ _) | (with_reducible refine Kd.C_drewN ?_ _) | (with_reducible refine Kd.C_drew ?_) | exact HR499_0.out)) hb); have n7_ := aM (blk_below (g := gb507) (o := .cells #[.int .i64 0, .int .i64 0, .bool false] 33 (0, 0)) (by (with_reducible repeat (first | refine kN ?_ _ | refine kD ?_ | refine kA ?_ _)); exact BK507.out) hb); have n8_ := aM (below_step (by repeat (first | (with_reducible first | exact HB.out | apply bA | apply bN | apply bD | refine bS ?_ GE476.out | refine bS ?_ GE507.out) | exact HB.out)) hb); have n9_ := aM (hbox); have n10_ := aM ((by rw [hg]; exact (below_size (by repeat (first | (with_reducible first | exact HB.out | apply bA | apply bN | apply bD | refine bS ?_ GE476.out | refine bS ?_ GE507.out) | exact HB.out))) : w.heap.size ≤ gb508)); have n11_ := aM ((by rw [hg]; exact (below_size (by repeat (first | (with_reducible first | exact HB.out | apply bA | apply bN | apply bD | refine bS ?_ GE476.out | refine bS ?_ GE507.out) | exact HB.out))) : w.heap.size ≤ gb508)); have n12_ := aM ((by rw [hg]; exact Nat.ne_of_lt (blk_lt (g := gb476) (o := .cells #[.slice A0_0 l0_0.length c0_0, .slice A0_1 l0_1.length c0_1] 25 (0, 0)) (by (with_reducible repeat (first | refine kN ?_ _ | refine kD ?_ | refine kA ?_ _)); exact BK476.out)) : gb476 ≠ gb508)); have n13_ := aM ((by rw [hg]; exact Nat.ne_of_gt (blk_lt (g := gb476) (o := .cells #[.slice A0_0 l0_0.length c0_0, .slice A0_1 l0_1.length c0_1] 25 (0, 0)) (by (with_reducible repeat (first | refine kN ?_ _ | refine kD ?_ | refine kA ?_ _)); exact BK476.out)) : gb508 ≠ gb476)); have n14_ := aM ((by rw [hg]; exact Nat.ne_of_lt (blk_lt (g := gb507) (o := .cells #[.int .i64 0, .int .i64 0, .bool false] 33 (0, 0)) (by (with_reducible repeat (first | refine kN ?_ _ | refine kD ?_ | refine kA ?_ _)); exact BK507.out)) : gb507 ≠ gb508)); have n15_ := aM ((by rw [hg]; exact Nat.ne_of_gt (blk_lt (g := gb507) (o := .cells #[.int .i64 0, .int .i64 0, .bool false] 33 (0, 0)) (by (with_reducible repeat (first | refine kN ?_ _ | refine kD ?_ | refine kA ?_ _)); exact BK507.out)) : gb508 ≠ gb507)); clear HO_5; clear HO_6; clear HL493_0; clear HL499_0; clear BK476; clear HR493_0; clear HR499_0; clear BK507; clear HB; have HO_5 := n0_; have HO_6 := n1_; have HL493_0 := n2_; have HL499_0 := n3_; have BK476 := n4_; have HR493_0 := n5_; have HR499_0 := n6_; have BK507 := n7_; have HB := n8_; have BK508 := n9_; have GW508 := n10_; have GE508 := n11_; have NB476_508 := n12_; have NB508_476 := n13_; have NB507_508 := n14_; have NB508_507 := n15_; clear n0_ n1_ n2_ n3_ n4_ n5_ n6_ n7_ n8_ n9_ n10_ n11_ n12_ n13_ n14_ n15_; clear hb hbox hg; have hnb50 := NB507_476.out; have hnc50 := NB476_507.out; have hnb51 := NB507_508.out; have hnc51 := NB508_507.out; have hcz52_0 : w49.cell? ⟨gb507, 0, none⟩ = some (.int .i64 0) := (blk_cell BK507.out 0).trans rfl; have hcz52_1 : w49.cell? ⟨gb507, 1, none⟩ = some (.int .i64 0) := (blk_cell BK507.out 1).trans rfl; have hcz52_2 : w49.cell? ⟨gb507, 2, none⟩ = some (.bool false) := (blk_cell BK507.out 2).trans rfl; have hfz52_0 := blk_frozen BK507.out 0; have hfz52_1 := blk_frozen BK507.out 1; have hfz52_2 := blk_frozen BK507.out 2; have hnb53 := NB508_476.out; have hnc53 := NB476_508.out; have hcz54_0 : w49.cell? ⟨gb508, 0, none⟩ = some (.int .i64 0) := (blk_cell BK508.out 0).trans rfl; have hcz54_1 : w49.cell? ⟨gb508, 1, none⟩ = some (.int .i64 0) := (blk_cell BK508.out 1).trans rfl; have hcz54_2 : w49.cell? ⟨gb508, 2, none⟩ = some (.bool false) := (blk_cell BK508.out 2).trans rfl; have hfz54_0 := blk_frozen BK508.out 0; have hfz54_1 := blk_frozen BK508.out 1; have hfz54_2 := blk_frozen BK508.out 2)))
             (try simp only [Act.put, List.setIfInBounds_toArray, List.set_cons_zero, List.set_cons_succ])
             go_cut [114] (fun v114 wc => ∃ (kq : Nat) (x114_44 : Bool), v114 = .bool x114_44 ∧ Aside0 (fleuronlaw03_OutlineWithin.j3 kq t485 t488 x8_2 x114_44 t500 t501 t502 t503 t504 t505 = some r) ∧ Aside0 (kq ≤ k3) ∧ Aside0 (Kd.S (Kd.slice 52 k52) 42 wc w.heap.size (fun _ => True) (.slice Ao28 t485.length co28) t485) ∧ Aside0 (Kd.S (Kd.slice 33 k33) 22 wc w.heap.size (fun k_ => k_ ≠ gb507 ∧ k_ ≠ gb508) (.slice (some ad493) t488.length co46) t488) ∧ Aside0 (wc.heap[gb476]? = some (.cells #[(.slice A0_0 l0_0.length c0_0), (.slice A0_1 l0_1.length c0_1)] 25 (0, 0))) ∧ Aside0 (wc.heap[gb507]? = some (.cells #[.int .i64 t500, .int .i64 t501, .bool t502] 33 (0, 0))) ∧ Aside0 (wc.heap[gb508]? = some (.cells #[.int .i64 t503, .int .i64 t504, .bool t505] 33 (0, 0))) ∧ Aside0 (Kd.C k33 wc A493_0 (rd_L3 t488 x8_2).length (rd_L3 t488 x8_2)) ∧ Aside0 (Kd.C k33 wc A493_0 (rd_L3 t488 x8_2).length (rd_L3 t488 x8_2)) ∧ Aside0 (Below w.heap.size w wc))
             case first =>
              have H := HC45.out
              clear HC45
              by_cases c55 : x8_2 < (t485.length : Int)
              ·
               rw [if_pos c55] at H
               have c55b0 : decide (x8_2 < (t485.length : Int)) = true := decide_eq_true c55
               clear c55
               (first | rw [c55b0] | (simp only [i64_w, i32_w]; rw [c55b0]) | skip)
               by_cases c56 : x9_3 = ((rd_L11 t485 x8_2).length : Int)
               ·
                rw [if_pos c56] at H
                have c56b0 : (x9_3 == ((rd_L11 t485 x8_2).length : Int)) = true := beq_iff_eq.mpr c56
                have c56b1 : (x9_3 != ((rd_L11 t485 x8_2).length : Int)) = false := bne_eq_false_iff_eq.mpr c56
                clear c56
                have H' := aM H
                clear H
                have p509 : 0 ≤ (x8_2 : Int) := of_decide_eq_true (by assumption)
                have q509 : x8_2 < (t485.length : Int) := of_decide_eq_true (by assumption)
                obtain ⟨ad509, A509_0, c509_0, e509, hx509_0, hl509_0, hi509_0⟩ := at_L11 (Kd.S_reads' HO_5.out).2.2 x8_2 p509 q509
                cases e509
                have hn509_0 : ad509.block ≠ gb507 := Kd.own_blk (Kd.S_ne HO_5.out BK507.out (by decide))
                have hn509_1 : ad509.block ≠ gb507 := Kd.own_blk (Kd.S_ne HO_5.out BK507.out (by decide))
                have hn509_2 : ad509.block ≠ gb507 := Kd.own_blk (Kd.S_ne HO_5.out BK507.out (by decide))
                have hn509_3 : ad509.block ≠ gb508 := Kd.own_blk (Kd.S_ne HO_5.out BK508.out (by decide))
                have hn509_4 : ad509.block ≠ gb508 := Kd.own_blk (Kd.S_ne HO_5.out BK508.out (by decide))
                have hn509_5 : ad509.block ≠ gb508 := Kd.own_blk (Kd.S_ne HO_5.out BK508.out (by decide))
                have HR509_0 := aM hi509_0
                have HC509_0 := aM hl509_0
                clear hi509_0 hl509_0
                replace hx509_0 := (cell_far (p := ⟨gb507, 0, none⟩) (by first | (rw [add_block]; exact hn509_0) | (show (Addr.add _ _).block ≠ _; rw [add_block]; exact hn509_0) | exact hn509_0) (.int .i64 t500)).trans hx509_0
                replace hx509_0 := (cell_far (p := ⟨gb507, 1, none⟩) (by first | (rw [add_block]; exact hn509_1) | (show (Addr.add _ _).block ≠ _; rw [add_block]; exact hn509_1) | exact hn509_1) (.int .i64 t501)).trans hx509_0
                replace hx509_0 := (cell_far (p := ⟨gb507, 2, none⟩) (by first | (rw [add_block]; exact hn509_2) | (show (Addr.add _ _).block ≠ _; rw [add_block]; exact hn509_2) | exact hn509_2) (.bool t502)).trans hx509_0
                replace hx509_0 := (cell_far (p := ⟨gb508, 0, none⟩) (by first | (rw [add_block]; exact hn509_3) | (show (Addr.add _ _).block ≠ _; rw [add_block]; exact hn509_3) | exact hn509_3) (.int .i64 t503)).trans hx509_0
                replace hx509_0 := (cell_far (p := ⟨gb508, 1, none⟩) (by first | (rw [add_block]; exact hn509_4) | (show (Addr.add _ _).block ≠ _; rw [add_block]; exact hn509_4) | exact hn509_4) (.int .i64 t504)).trans hx509_0
                replace hx509_0 := (cell_far (p := ⟨gb508, 2, none⟩) (by first | (rw [add_block]; exact hn509_5) | (show (Addr.add _ _).block ≠ _; rw [add_block]; exact hn509_5) | exact hn509_5) (.bool t505)).trans hx509_0
                clear hn509_0
                clear hn509_1
                clear hn509_2
                clear hn509_3
                clear hn509_4
                clear hn509_5
                replace p509 := eq_true p509
                replace q509 := eq_true q509
                go_wp2
                repeat (go_quiet (fail); try go_wp2)
                go_meet
                case rel => exact ⟨_, (!t506), (by first | rfl | (simp; done) | (simp [*]; done)), H', ⟨by have := HJ6.out; have := HK2.out; have := HK3.out; first | omega | exact Nat.le_refl _⟩, ⟨by (with_reducible repeat (first | apply Kd.S_alloc | apply Kd.S_drewN | apply Kd.S_drew)); exact Kd.S_mono (Kd.S_far (p := ⟨gb508, 2, none⟩) (Kd.S_far (p := ⟨gb508, 1, none⟩) (Kd.S_far (p := ⟨gb508, 0, none⟩) (Kd.S_far (p := ⟨gb507, 2, none⟩) (Kd.S_far (p := ⟨gb507, 1, none⟩) (Kd.S_far (p := ⟨gb507, 0, none⟩) (Kd.S_types (Kd.S_types HO_5.out BK507.out (by decide)) BK508.out (by decide)) (fun _ hk => hk.1.2) (.int .i64 t500)) (fun _ hk => hk.1.2) (.int .i64 t501)) (fun _ hk => hk.1.2) (.bool t502)) (fun _ hk => hk.2) (.int .i64 t503)) (fun _ hk => hk.2) (.int .i64 t504)) (fun _ hk => hk.2) (.bool t505)) (fun _ hk => trivial)⟩, ⟨by (with_reducible repeat (first | apply Kd.S_alloc | apply Kd.S_drewN | apply Kd.S_drew)); exact Kd.S_mono (Kd.S_far (p := ⟨gb508, 2, none⟩) (Kd.S_far (p := ⟨gb508, 1, none⟩) (Kd.S_far (p := ⟨gb508, 0, none⟩) (Kd.S_far (p := ⟨gb507, 2, none⟩) (Kd.S_far (p := ⟨gb507, 1, none⟩) (Kd.S_far (p := ⟨gb507, 0, none⟩) (Kd.S_mono (Kd.S_mono HO_6.out (fun k_ hk => (⟨hk, hk.1.2⟩ : _ ∧ k_ ≠ gb507))) (fun k_ hk => (⟨hk, hk.1.2⟩ : _ ∧ k_ ≠ gb508))) (fun _ hk => hk.1.2) (.int .i64 t500)) (fun _ hk => hk.1.2) (.int .i64 t501)) (fun _ hk => hk.1.2) (.bool t502)) (fun _ hk => hk.2) (.int .i64 t503)) (fun _ hk => hk.2) (.int .i64 t504)) (fun _ hk => hk.2) (.bool t505)) (fun _ hk => ⟨hk.1.1.1.2, hk.1.1.2⟩)⟩, ⟨by (with_reducible repeat (first | refine kN ?_ _ | refine kD ?_ | refine kA ?_ _)); refine blk_far ?_ NB476_508.out _; (with_reducible repeat (first | refine kN ?_ _ | refine kD ?_ | refine kA ?_ _)); refine blk_far ?_ NB476_508.out _; (with_reducible repeat (first | refine kN ?_ _ | refine kD ?_ | refine kA ?_ _)); refine blk_far ?_ NB476_508.out _; (with_reducible repeat (first | refine kN ?_ _ | refine kD ?_ | refine kA ?_ _)); refine blk_far ?_ NB476_507.out _; (with_reducible repeat (first | refine kN ?_ _ | refine kD ?_ | refine kA ?_ _)); refine blk_far ?_ NB476_507.out _; (with_reducible repeat (first | refine kN ?_ _ | refine kD ?_ | refine kA ?_ _)); refine blk_far ?_ NB476_507.out _; (with_reducible repeat (first | refine kN ?_ _ | refine kD ?_ | refine kA ?_ _)); exact BK476.out⟩, ⟨by (with_reducible repeat (first | refine kN ?_ _ | refine kD ?_ | refine kA ?_ _)); refine blk_far ?_ NB507_508.out _; (with_reducible repeat (first | refine kN ?_ _ | refine kD ?_ | refine kA ?_ _)); refine blk_far ?_ NB507_508.out _; (with_reducible repeat (first | refine kN ?_ _ | refine kD ?_ | refine kA ?_ _)); refine blk_far ?_ NB507_508.out _; (with_reducible repeat (first | refine kN ?_ _ | refine kD ?_ | refine kA ?_ _)); refine blk_put (cs := #[.int .i64 t500, .int .i64 t501, .bool false]) ?_ 2 _ rfl; (with_reducible repeat (first | refine kN ?_ _ | refine kD ?_ | refine kA ?_ _)); refine blk_put (cs := #[.int .i64 t500, .int .i64 0, .bool false]) ?_ 1 _ rfl; (with_reducible repeat (first | refine kN ?_ _ | refine kD ?_ | refine kA ?_ _)); refine blk_put (cs := #[.int .i64 0, .int .i64 0, .bool false]) ?_ 0 _ rfl; (with_reducible repeat (first | refine kN ?_ _ | refine kD ?_ | refine kA ?_ _)); exact BK507.out⟩, ⟨by (with_reducible repeat (first | refine kN ?_ _ | refine kD ?_ | refine kA ?_ _)); refine blk_put (cs := #[.int .i64 t503, .int .i64 t504, .bool false]) ?_ 2 _ rfl; (with_reducible repeat (first | refine kN ?_ _ | refine kD ?_ | refine kA ?_ _)); refine blk_put (cs := #[.int .i64 t503, .int .i64 0, .bool false]) ?_ 1 _ rfl; (with_reducible repeat (first | refine kN ?_ _ | refine kD ?_ | refine kA ?_ _)); refine blk_put (cs := #[.int .i64 0, .int .i64 0, .bool false]) ?_ 0 _ rfl; (with_reducible repeat (first | refine kN ?_ _ | refine kD ?_ | refine kA ?_ _)); refine blk_far ?_ NB508_507.out _; (with_reducible repeat (first | refine kN ?_ _ | refine kD ?_ | refine kA ?_ _)); refine blk_far ?_ NB508_507.out _; (with_reducible repeat (first | refine kN ?_ _ | refine kD ?_ | refine kA ?_ _)); refine blk_far ?_ NB508_507.out _; (with_reducible repeat (first | refine kN ?_ _ | refine kD ?_ | refine kA ?_ _)); exact BK508.out⟩, ⟨(Kd.R_reads' (by (with_reducible repeat (first | apply Kd.R_alloc | apply Kd.R_drewN | apply Kd.R_drew)); exact (Kd.R_mono (Kd.R_mono (Kd.R_far (p := ⟨gb508, 2, none⟩) (Kd.R_far (p := ⟨gb508, 1, none⟩) (Kd.R_far (p := ⟨gb508, 0, none⟩) (Kd.R_far (p := ⟨gb507, 2, none⟩) (Kd.R_far (p := ⟨gb507, 1, none⟩) (Kd.R_far (p := ⟨gb507, 0, none⟩) (Kd.R_mono (Kd.R_mono HL493_0.out (fun k_ hk => (⟨hk, hk.1.2⟩ : _ ∧ k_ ≠ gb507))) (fun k_ hk => (⟨hk, hk.1.2⟩ : _ ∧ k_ ≠ gb508))) (fun _ hk => hk.1.2) (.int .i64 t500)) (fun _ hk => hk.1.2) (.int .i64 t501)) (fun _ hk => hk.1.2) (.bool t502)) (fun _ hk => hk.2) (.int .i64 t503)) (fun _ hk => hk.2) (.int .i64 t504)) (fun _ hk => hk.2) (.bool t505)) (fun _ h_ => h_.1)) (fun _ h_ => h_.1)))).2.2⟩, ⟨(Kd.R_reads' (by (with_reducible repeat (first | apply Kd.R_alloc | apply Kd.R_drewN | apply Kd.R_drew)); exact (Kd.R_mono (Kd.R_mono (Kd.R_far (p := ⟨gb508, 2, none⟩) (Kd.R_far (p := ⟨gb508, 1, none⟩) (Kd.R_far (p := ⟨gb508, 0, none⟩) (Kd.R_far (p := ⟨gb507, 2, none⟩) (Kd.R_far (p := ⟨gb507, 1, none⟩) (Kd.R_far (p := ⟨gb507, 0, none⟩) (Kd.R_mono (Kd.R_mono HL499_0.out (fun k_ hk => (⟨hk, hk.1.2⟩ : _ ∧ k_ ≠ gb507))) (fun k_ hk => (⟨hk, hk.1.2⟩ : _ ∧ k_ ≠ gb508))) (fun _ hk => hk.1.2) (.int .i64 t500)) (fun _ hk => hk.1.2) (.int .i64 t501)) (fun _ hk => hk.1.2) (.bool t502)) (fun _ hk => hk.2) (.int .i64 t503)) (fun _ hk => hk.2) (.int .i64 t504)) (fun _ hk => hk.2) (.bool t505)) (fun _ h_ => h_.1)) (fun _ h_ => h_.1)))).2.2⟩, ⟨by repeat (first | (with_reducible first | exact HB.out | apply bA | apply bN | apply bD | refine bS ?_ GE476.out | refine bS ?_ GE507.out | refine bS ?_ GE508.out) | exact HB.out)⟩⟩
               ·
                rw [if_neg c56] at H
                have c56b0 : (x9_3 == ((rd_L11 t485 x8_2).length : Int)) = false := beq_eq_false_iff_ne.mpr c56
                have c56b1 : (x9_3 != ((rd_L11 t485 x8_2).length : Int)) = true := bne_iff_ne.mpr c56
                have H' := aM H
                clear H
                have p509 : 0 ≤ (x8_2 : Int) := of_decide_eq_true (by assumption)
                have q509 : x8_2 < (t485.length : Int) := of_decide_eq_true (by assumption)
                obtain ⟨ad509, A509_0, c509_0, e509, hx509_0, hl509_0, hi509_0⟩ := at_L11 (Kd.S_reads' HO_5.out).2.2 x8_2 p509 q509
                cases e509
                have hn509_0 : ad509.block ≠ gb507 := Kd.own_blk (Kd.S_ne HO_5.out BK507.out (by decide))
                have hn509_1 : ad509.block ≠ gb507 := Kd.own_blk (Kd.S_ne HO_5.out BK507.out (by decide))
                have hn509_2 : ad509.block ≠ gb507 := Kd.own_blk (Kd.S_ne HO_5.out BK507.out (by decide))
                have hn509_3 : ad509.block ≠ gb508 := Kd.own_blk (Kd.S_ne HO_5.out BK508.out (by decide))
                have hn509_4 : ad509.block ≠ gb508 := Kd.own_blk (Kd.S_ne HO_5.out BK508.out (by decide))
                have hn509_5 : ad509.block ≠ gb508 := Kd.own_blk (Kd.S_ne HO_5.out BK508.out (by decide))
                have HR509_0 := aM hi509_0
                have HC509_0 := aM hl509_0
                clear hi509_0 hl509_0
                replace hx509_0 := (cell_far (p := ⟨gb507, 0, none⟩) (by first | (rw [add_block]; exact hn509_0) | (show (Addr.add _ _).block ≠ _; rw [add_block]; exact hn509_0) | exact hn509_0) (.int .i64 t500)).trans hx509_0
                replace hx509_0 := (cell_far (p := ⟨gb507, 1, none⟩) (by first | (rw [add_block]; exact hn509_1) | (show (Addr.add _ _).block ≠ _; rw [add_block]; exact hn509_1) | exact hn509_1) (.int .i64 t501)).trans hx509_0
                replace hx509_0 := (cell_far (p := ⟨gb507, 2, none⟩) (by first | (rw [add_block]; exact hn509_2) | (show (Addr.add _ _).block ≠ _; rw [add_block]; exact hn509_2) | exact hn509_2) (.bool t502)).trans hx509_0
                replace hx509_0 := (cell_far (p := ⟨gb508, 0, none⟩) (by first | (rw [add_block]; exact hn509_3) | (show (Addr.add _ _).block ≠ _; rw [add_block]; exact hn509_3) | exact hn509_3) (.int .i64 t503)).trans hx509_0
                replace hx509_0 := (cell_far (p := ⟨gb508, 1, none⟩) (by first | (rw [add_block]; exact hn509_4) | (show (Addr.add _ _).block ≠ _; rw [add_block]; exact hn509_4) | exact hn509_4) (.int .i64 t504)).trans hx509_0
                replace hx509_0 := (cell_far (p := ⟨gb508, 2, none⟩) (by first | (rw [add_block]; exact hn509_5) | (show (Addr.add _ _).block ≠ _; rw [add_block]; exact hn509_5) | exact hn509_5) (.bool t505)).trans hx509_0
                clear hn509_0
                clear hn509_1
                clear hn509_2
                clear hn509_3
                clear hn509_4
                clear hn509_5
                replace p509 := eq_true p509
                replace q509 := eq_true q509
                go_wp2
                repeat (go_quiet (fail); try go_wp2)
                go_meet
                case rel => exact ⟨_, (true), (by first | rfl | (simp; done) | (simp [*]; done)), H', ⟨by have := HJ6.out; have := HK2.out; have := HK3.out; first | omega | exact Nat.le_refl _⟩, ⟨by (with_reducible repeat (first | apply Kd.S_alloc | apply Kd.S_drewN | apply Kd.S_drew)); exact Kd.S_mono (Kd.S_far (p := ⟨gb508, 2, none⟩) (Kd.S_far (p := ⟨gb508, 1, none⟩) (Kd.S_far (p := ⟨gb508, 0, none⟩) (Kd.S_far (p := ⟨gb507, 2, none⟩) (Kd.S_far (p := ⟨gb507, 1, none⟩) (Kd.S_far (p := ⟨gb507, 0, none⟩) (Kd.S_types (Kd.S_types HO_5.out BK507.out (by decide)) BK508.out (by decide)) (fun _ hk => hk.1.2) (.int .i64 t500)) (fun _ hk => hk.1.2) (.int .i64 t501)) (fun _ hk => hk.1.2) (.bool t502)) (fun _ hk => hk.2) (.int .i64 t503)) (fun _ hk => hk.2) (.int .i64 t504)) (fun _ hk => hk.2) (.bool t505)) (fun _ hk => trivial)⟩, ⟨by (with_reducible repeat (first | apply Kd.S_alloc | apply Kd.S_drewN | apply Kd.S_drew)); exact Kd.S_mono (Kd.S_far (p := ⟨gb508, 2, none⟩) (Kd.S_far (p := ⟨gb508, 1, none⟩) (Kd.S_far (p := ⟨gb508, 0, none⟩) (Kd.S_far (p := ⟨gb507, 2, none⟩) (Kd.S_far (p := ⟨gb507, 1, none⟩) (Kd.S_far (p := ⟨gb507, 0, none⟩) (Kd.S_mono (Kd.S_mono HO_6.out (fun k_ hk => (⟨hk, hk.1.2⟩ : _ ∧ k_ ≠ gb507))) (fun k_ hk => (⟨hk, hk.1.2⟩ : _ ∧ k_ ≠ gb508))) (fun _ hk => hk.1.2) (.int .i64 t500)) (fun _ hk => hk.1.2) (.int .i64 t501)) (fun _ hk => hk.1.2) (.bool t502)) (fun _ hk => hk.2) (.int .i64 t503)) (fun _ hk => hk.2) (.int .i64 t504)) (fun _ hk => hk.2) (.bool t505)) (fun _ hk => ⟨hk.1.1.1.2, hk.1.1.2⟩)⟩, ⟨by (with_reducible repeat (first | refine kN ?_ _ | refine kD ?_ | refine kA ?_ _)); refine blk_far ?_ NB476_508.out _; (with_reducible repeat (first | refine kN ?_ _ | refine kD ?_ | refine kA ?_ _)); refine blk_far ?_ NB476_508.out _; (with_reducible repeat (first | refine kN ?_ _ | refine kD ?_ | refine kA ?_ _)); refine blk_far ?_ NB476_508.out _; (with_reducible repeat (first | refine kN ?_ _ | refine kD ?_ | refine kA ?_ _)); refine blk_far ?_ NB476_507.out _; (with_reducible repeat (first | refine kN ?_ _ | refine kD ?_ | refine kA ?_ _)); refine blk_far ?_ NB476_507.out _; (with_reducible repeat (first | refine kN ?_ _ | refine kD ?_ | refine kA ?_ _)); refine blk_far ?_ NB476_507.out _; (with_reducible repeat (first | refine kN ?_ _ | refine kD ?_ | refine kA ?_ _)); exact BK476.out⟩, ⟨by (with_reducible repeat (first | refine kN ?_ _ | refine kD ?_ | refine kA ?_ _)); refine blk_far ?_ NB507_508.out _; (with_reducible repeat (first | refine kN ?_ _ | refine kD ?_ | refine kA ?_ _)); refine blk_far ?_ NB507_508.out _; (with_reducible repeat (first | refine kN ?_ _ | refine kD ?_ | refine kA ?_ _)); refine blk_far ?_ NB507_508.out _; (with_reducible repeat (first | refine kN ?_ _ | refine kD ?_ | refine kA ?_ _)); refine blk_put (cs := #[.int .i64 t500, .int .i64 t501, .bool false]) ?_ 2 _ rfl; (with_reducible repeat (first | refine kN ?_ _ | refine kD ?_ | refine kA ?_ _)); refine blk_put (cs := #[.int .i64 t500, .int .i64 0, .bool false]) ?_ 1 _ rfl; (with_reducible repeat (first | refine kN ?_ _ | refine kD ?_ | refine kA ?_ _)); refine blk_put (cs := #[.int .i64 0, .int .i64 0, .bool false]) ?_ 0 _ rfl; (with_reducible repeat (first | refine kN ?_ _ | refine kD ?_ | refine kA ?_ _)); exact BK507.out⟩, ⟨by (with_reducible repeat (first | refine kN ?_ _ | refine kD ?_ | refine kA ?_ _)); refine blk_put (cs := #[.int .i64 t503, .int .i64 t504, .bool false]) ?_ 2 _ rfl; (with_reducible repeat (first | refine kN ?_ _ | refine kD ?_ | refine kA ?_ _)); refine blk_put (cs := #[.int .i64 t503, .int .i64 0, .bool false]) ?_ 1 _ rfl; (with_reducible repeat (first | refine kN ?_ _ | refine kD ?_ | refine kA ?_ _)); refine blk_put (cs := #[.int .i64 0, .int .i64 0, .bool false]) ?_ 0 _ rfl; (with_reducible repeat (first | refine kN ?_ _ | refine kD ?_ | refine kA ?_ _)); refine blk_far ?_ NB508_507.out _; (with_reducible repeat (first | refine kN ?_ _ | refine kD ?_ | refine kA ?_ _)); refine blk_far ?_ NB508_507.out _; (with_reducible repeat (first | refine kN ?_ _ | refine kD ?_ | refine kA ?_ _)); refine blk_far ?_ NB508_507.out _; (with_reducible repeat (first | refine kN ?_ _ | refine kD ?_ | refine kA ?_ _)); exact BK508.out⟩, ⟨(Kd.R_reads' (by (with_reducible repeat (first | apply Kd.R_alloc | apply Kd.R_drewN | apply Kd.R_drew)); exact (Kd.R_mono (Kd.R_mono (Kd.R_far (p := ⟨gb508, 2, none⟩) (Kd.R_far (p := ⟨gb508, 1, none⟩) (Kd.R_far (p := ⟨gb508, 0, none⟩) (Kd.R_far (p := ⟨gb507, 2, none⟩) (Kd.R_far (p := ⟨gb507, 1, none⟩) (Kd.R_far (p := ⟨gb507, 0, none⟩) (Kd.R_mono (Kd.R_mono HL493_0.out (fun k_ hk => (⟨hk, hk.1.2⟩ : _ ∧ k_ ≠ gb507))) (fun k_ hk => (⟨hk, hk.1.2⟩ : _ ∧ k_ ≠ gb508))) (fun _ hk => hk.1.2) (.int .i64 t500)) (fun _ hk => hk.1.2) (.int .i64 t501)) (fun _ hk => hk.1.2) (.bool t502)) (fun _ hk => hk.2) (.int .i64 t503)) (fun _ hk => hk.2) (.int .i64 t504)) (fun _ hk => hk.2) (.bool t505)) (fun _ h_ => h_.1)) (fun _ h_ => h_.1)))).2.2⟩, ⟨(Kd.R_reads' (by (with_reducible repeat (first | apply Kd.R_alloc | apply Kd.R_drewN | apply Kd.R_drew)); exact (Kd.R_mono (Kd.R_mono (Kd.R_far (p := ⟨gb508, 2, none⟩) (Kd.R_far (p := ⟨gb508, 1, none⟩) (Kd.R_far (p := ⟨gb508, 0, none⟩) (Kd.R_far (p := ⟨gb507, 2, none⟩) (Kd.R_far (p := ⟨gb507, 1, none⟩) (Kd.R_far (p := ⟨gb507, 0, none⟩) (Kd.R_mono (Kd.R_mono HL499_0.out (fun k_ hk => (⟨hk, hk.1.2⟩ : _ ∧ k_ ≠ gb507))) (fun k_ hk => (⟨hk, hk.1.2⟩ : _ ∧ k_ ≠ gb508))) (fun _ hk => hk.1.2) (.int .i64 t500)) (fun _ hk => hk.1.2) (.int .i64 t501)) (fun _ hk => hk.1.2) (.bool t502)) (fun _ hk => hk.2) (.int .i64 t503)) (fun _ hk => hk.2) (.int .i64 t504)) (fun _ hk => hk.2) (.bool t505)) (fun _ h_ => h_.1)) (fun _ h_ => h_.1)))).2.2⟩, ⟨by repeat (first | (with_reducible first | exact HB.out | apply bA | apply bN | apply bD | refine bS ?_ GE476.out | refine bS ?_ GE507.out | refine bS ?_ GE508.out) | exact HB.out)⟩⟩
              ·
               rw [if_neg c55] at H
               exact absurd H (by simp)
             case rest =>
              clear HC45
              try clear c1
              try clear c2
              try clear p2
              try clear c3
              try clear q3
              try clear c4
              try clear p4
              try clear q4
              try clear hx4
              try clear c5
              try clear p5
              try clear q5
              try clear hx5
              try clear p6
              try clear c9
              try clear c19
              try clear c20
              try clear c20b0
              try clear c20b1
              try clear c20b2
              try clear c26
              try clear c27
              try clear c27b0
              try clear c29
              try clear c29b0
              try clear c30
              try clear c30b0
              try clear c31
              try clear c31b0
              try clear c32
              try clear c32b0
              try clear q33
              try clear c34
              try clear c35
              try clear c35b0
              try clear c35b1
              try clear c35b2
              try clear c37
              try clear c37b0
              try clear c38
              try clear c38b0
              try clear q39
              try clear c40
              try clear c49
              try clear p49
              try clear q49
              try clear hx49
              try clear c50
              try clear p50
              try clear q50
              try clear hx50
              try clear c51
              try clear c53
              try clear c55
              try clear c55b0
              try clear c56
              try clear c56b0
              try clear c56b1
              try clear hcz11_0
              try clear hcz11_1
              try clear hcz13_0
              try clear hcz13_1
              try clear hcz17_0
              try clear hcz17_1
              try clear hcz23_0
              try clear hcz23_1
              try clear hcz52_0
              try clear hcz52_1
              try clear hcz52_2
              try clear hcz54_0
              try clear hcz54_1
              try clear hcz54_2
              try clear hcz9_0
              try clear hcz9_1
              try clear hfz11_0
              try clear hfz11_1
              try clear hfz13_0
              try clear hfz13_1
              try clear hfz17_0
              try clear hfz17_1
              try clear hfz23_0
              try clear hfz23_1
              try clear hfz52_0
              try clear hfz52_1
              try clear hfz52_2
              try clear hfz54_0
              try clear hfz54_1
              try clear hfz54_2
              try clear hfz9_0
              try clear hfz9_1
              try clear hx493_0
              try clear hx494_0
              try clear hx495_0
              try clear hx495_1
              try clear hx495_2
              try clear hx496_0
              try clear hx497_0
              try clear hx498_0
              try clear hx498_1
              try clear hx498_2
              try clear hx499_0
              try clear hx509_0
              try clear p2
              try clear p493
              try clear p494
              try clear p495
              try clear p496
              try clear p497
              try clear p498
              try clear p499
              try clear p509
              try clear q493
              try clear q494
              try clear q495
              try clear q496
              try clear q497
              try clear q498
              try clear q499
              try clear q509
              obtain ⟨kq, x114_44, rfl, HA, HJ44, HO_5, HO_6, BK476, BK507, BK508, HR493_0, HR499_0, HB⟩ := hcut
              cases kq with
              | zero => exact absurd HA.out (by simp [fleuronlaw03_OutlineWithin.j3])
              | succ kj44 =>
               have H := HA.out
               clear HA
               simp only [fleuronlaw03_OutlineWithin.j3] at H
               by_cases c57 : x114_44 = true
               ·
                subst c57
                have H1 : (none) = some r := by rw [if_pos rfl] at H; exact H
                clear H
                have H := H1
                clear H1
                exact absurd H (by simp)
               ·
                replace c57 := Bool.eq_false_iff.mpr c57
                subst c57
                have H1 : (fleuronlaw03_OutlineWithin.l2 kj44 t485 t488 x8_2 0 t500 t501 t502 t503 t504 t505) = some r := by rw [if_neg (show ¬ (false = true) by decide)] at H; exact H
                clear H
                have H := H1
                clear H1
                have H' := aM H
                clear H
                go_wp2
                repeat (go_quiet (fail); try go_wp2)
                go_loopg [14] kj44 (fun kq v14 w' => ∃ (x14_5 : Int), v14 = .int .i64 x14_5 ∧ Aside0 (fleuronlaw03_OutlineWithin.l2 kq t485 t488 x8_2 x14_5 t500 t501 t502 t503 t504 t505 = some r) ∧ Aside0 (kq ≤ kj44) ∧ Aside0 (Kd.S (Kd.slice 52 k52) 42 w' w.heap.size (fun _ => True) (.slice Ao28 t485.length co28) t485) ∧ Aside0 (Kd.S (Kd.slice 33 k33) 22 w' w.heap.size (fun k_ => k_ ≠ gb507 ∧ k_ ≠ gb508) (.slice (some ad493) t488.length co46) t488) ∧ Aside0 (w'.heap[gb476]? = some (.cells #[(.slice A0_0 l0_0.length c0_0), (.slice A0_1 l0_1.length c0_1)] 25 (0, 0))) ∧ Aside0 (w'.heap[gb507]? = some (.cells #[.int .i64 t500, .int .i64 t501, .bool t502] 33 (0, 0))) ∧ Aside0 (w'.heap[gb508]? = some (.cells #[.int .i64 t503, .int .i64 t504, .bool t505] 33 (0, 0))) ∧ Aside0 (Kd.C k33 w' A493_0 (rd_L3 t488 x8_2).length (rd_L3 t488 x8_2)) ∧ Aside0 (Kd.C k33 w' A493_0 (rd_L3 t488 x8_2).length (rd_L3 t488 x8_2)) ∧ Aside0 (Below w.heap.size w w'))
                case atStart => exact ⟨(0), (by first | rfl | (simp; done) | (simp [*]; done)), H', ⟨Nat.le_refl _⟩, ⟨by (with_reducible repeat (first | apply Kd.S_alloc | apply Kd.S_drewN | apply Kd.S_drew)); exact HO_5.out⟩, ⟨by (with_reducible repeat (first | apply Kd.S_alloc | apply Kd.S_drewN | apply Kd.S_drew)); exact HO_6.out⟩, ⟨by (with_reducible repeat (first | refine kN ?_ _ | refine kD ?_ | refine kA ?_ _)); exact BK476.out⟩, ⟨by (with_reducible repeat (first | refine kN ?_ _ | refine kD ?_ | refine kA ?_ _)); exact BK507.out⟩, ⟨by (with_reducible repeat (first | refine kN ?_ _ | refine kD ?_ | refine kA ?_ _)); exact BK508.out⟩, ⟨by repeat (first | (with_reducible exact HR493_0.out) | (with_reducible refine Kd.C_alloc ?_ _) | (with_reducible refine Kd.C_drewN ?_ _) | (with_reducible refine Kd.C_drew ?_) | exact HR493_0.out)⟩, ⟨by repeat (first | (with_reducible exact HR499_0.out) | (with_reducible refine Kd.C_alloc ?_ _) | (with_reducible refine Kd.C_drewN ?_ _) | (with_reducible refine Kd.C_drew ?_) | exact HR499_0.out)⟩, ⟨by repeat (first | (with_reducible first | exact HB.out | apply bA | apply bN | apply bD | refine bS ?_ GE476.out | refine bS ?_ GE507.out | refine bS ?_ GE508.out) | exact HB.out)⟩⟩
                case round =>
                 clear H'
                 try clear c1
                 try clear c2
                 try clear p2
                 try clear c3
                 try clear q3
                 try clear c4
                 try clear p4
                 try clear q4
                 try clear hx4
                 try clear c5
                 try clear p5
                 try clear q5
                 try clear hx5
                 try clear p6
                 try clear c9
                 try clear c19
                 try clear c20
                 try clear c20b0
                 try clear c20b1
                 try clear c20b2
                 try clear c26
                 try clear c27
                 try clear c27b0
                 try clear c29
                 try clear c29b0
                 try clear c30
                 try clear c30b0
                 try clear c31
                 try clear c31b0
                 try clear c32
                 try clear c32b0
                 try clear q33
                 try clear c34
                 try clear c35
                 try clear c35b0
                 try clear c35b1
                 try clear c35b2
                 try clear c37
                 try clear c37b0
                 try clear c38
                 try clear c38b0
                 try clear q39
                 try clear c40
                 try clear c49
                 try clear p49
                 try clear q49
                 try clear hx49
                 try clear c50
                 try clear p50
                 try clear q50
                 try clear hx50
                 try clear c51
                 try clear c53
                 try clear c55
                 try clear c55b0
                 try clear c56
                 try clear c56b0
                 try clear c56b1
                 try clear c57
                 try clear hcz11_0
                 try clear hcz11_1
                 try clear hcz13_0
                 try clear hcz13_1
                 try clear hcz17_0
                 try clear hcz17_1
                 try clear hcz23_0
                 try clear hcz23_1
                 try clear hcz52_0
                 try clear hcz52_1
                 try clear hcz52_2
                 try clear hcz54_0
                 try clear hcz54_1
                 try clear hcz54_2
                 try clear hcz9_0
                 try clear hcz9_1
                 try clear hfz11_0
                 try clear hfz11_1
                 try clear hfz13_0
                 try clear hfz13_1
                 try clear hfz17_0
                 try clear hfz17_1
                 try clear hfz23_0
                 try clear hfz23_1
                 try clear hfz52_0
                 try clear hfz52_1
                 try clear hfz52_2
                 try clear hfz54_0
                 try clear hfz54_1
                 try clear hfz54_2
                 try clear hfz9_0
                 try clear hfz9_1
                 try clear hx493_0
                 try clear hx494_0
                 try clear hx495_0
                 try clear hx495_1
                 try clear hx495_2
                 try clear hx496_0
                 try clear hx497_0
                 try clear hx498_0
                 try clear hx498_1
                 try clear hx498_2
                 try clear hx499_0
                 try clear hx509_0
                 try clear p2
                 try clear p4
                 try clear p49
                 try clear p493
                 try clear p494
                 try clear p495
                 try clear p496
                 try clear p497
                 try clear p498
                 try clear p499
                 try clear p5
                 try clear p50
                 try clear p509
                 try clear p6
                 try clear q3
                 try clear q33
                 try clear q39
                 try clear q4
                 try clear q49
                 try clear q493
                 try clear q494
                 try clear q495
                 try clear q496
                 try clear q497
                 try clear q498
                 try clear q499
                 try clear q5
                 try clear q50
                 try clear q509
                 obtain ⟨x14_5, rfl, HA, HK5, HO_5, HO_6, BK476, BK507, BK508, HR493_0, HR499_0, HB⟩ := hrel
                 cases gk with
                 | zero => exact absurd HA.out (by simp [fleuronlaw03_OutlineWithin.l2])
                 | succ k5 =>
                  have H := HA.out
                  clear HA
                  simp only [fleuronlaw03_OutlineWithin.l2] at H
                  by_cases c58 : 0 ≤ x8_2
                  ·
                   rw [if_pos c58] at H
                   have c58b0 : decide (0 ≤ x8_2) = true := decide_eq_true c58
                   clear c58
                   by_cases c59 : x8_2 < (t485.length : Int)
                   ·
                    rw [if_pos c59] at H
                    have c59b0 : decide (x8_2 < (t485.length : Int)) = true := decide_eq_true c59
                    clear c59
                    by_cases c60 : x14_5 < ((rd_L11 t485 x8_2).length : Int)
                    ·
                     rw [if_pos c60] at H
                     have c60b0 : decide (x14_5 < ((rd_L11 t485 x8_2).length : Int)) = true := decide_eq_true c60
                     clear c60
                     by_cases c61 : 0 ≤ x14_5
                     ·
                      rw [if_pos c61] at H
                      have c61b0 : decide (0 ≤ x14_5) = true := decide_eq_true c61
                      clear c61
                      by_cases c62 : ((rd_T52 (rd_L11 t485 x8_2) x14_5).f0) < t500
                      ·
                       rw [if_pos c62] at H
                       exact absurd H (by simp)
                      ·
                       rw [if_neg c62] at H
                       have c62b0 : decide (((rd_T52 (rd_L11 t485 x8_2) x14_5).f0) < t500) = false := decide_eq_false c62
                       clear c62
                       by_cases c63 : ((rd_T52 (rd_L11 t485 x8_2) x14_5).f0) > t503
                       ·
                        rw [if_pos c63] at H
                        exact absurd H (by simp)
                       ·
                        rw [if_neg c63] at H
                        have c63b0 : decide (t503 < ((rd_T52 (rd_L11 t485 x8_2) x14_5).f0)) = false := decide_eq_false c63
                        clear c63
                        by_cases c64 : ((rd_T52 (rd_L11 t485 x8_2) x14_5).f1) < t501
                        ·
                         rw [if_pos c64] at H
                         exact absurd H (by simp)
                        ·
                         rw [if_neg c64] at H
                         have c64b0 : decide (((rd_T52 (rd_L11 t485 x8_2) x14_5).f1) < t501) = false := decide_eq_false c64
                         clear c64
                         by_cases c65 : ((rd_T52 (rd_L11 t485 x8_2) x14_5).f1) > t504
                         ·
                          rw [if_pos c65] at H
                          exact absurd H (by simp)
                         ·
                          rw [if_neg c65] at H
                          have c65b0 : decide (t504 < ((rd_T52 (rd_L11 t485 x8_2) x14_5).f1)) = false := decide_eq_false c65
                          clear c65
                          have H' := aM H
                          clear H
                          have p510 : 0 ≤ (x8_2 : Int) := of_decide_eq_true (by assumption)
                          have q510 : x8_2 < (t485.length : Int) := of_decide_eq_true (by assumption)
                          obtain ⟨ad510, A510_0, c510_0, e510, hx510_0, hl510_0, hi510_0⟩ := at_L11 (Kd.S_reads' HO_5.out).2.2 x8_2 p510 q510
                          cases e510
                          obtain ⟨ce510, hce510, hMe510, hcc510⟩ := Kd.S_get HO_5.out [] x8_2 p510 (by first | exact q510 | exact of_decide_eq_true (by assumption) | (have e_ := (Kd.S_reads' HO_5.out).1; omega))
                          obtain ⟨ve510_0, rfl, ge510_0⟩ := hMe510
                          have hv510_0 := hcc510 0 _ rfl
                          rw [Nat.add_zero, show ((Kd.slice 52 k52)).sz = 1 from rfl, Nat.mul_one] at hv510_0
                          replace hv510_0 := Option.some.inj (hv510_0.symm.trans hx510_0)
                          rw [hv510_0] at ge510_0
                          have HL510_0 := aM (show Kd.R k52 52 _ _ _ _ (rd_L11 t485 x8_2) from ge510_0)
                          clear hv510_0 ge510_0
                          clear hcc510 hce510
                          have HR510_0 := aM hi510_0
                          have HC510_0 := aM hl510_0
                          clear hi510_0 hl510_0
                          replace p510 := eq_true p510
                          replace q510 := eq_true q510
                          have p511 : 0 ≤ (x8_2 : Int) := of_decide_eq_true (by assumption)
                          have q511 : x8_2 < (t485.length : Int) := of_decide_eq_true (by assumption)
                          obtain ⟨ad511, A511_0, c511_0, e511, hx511_0, hl511_0, hi511_0⟩ := at_L11 (Kd.S_reads' HO_5.out).2.2 x8_2 p511 q511
                          obtain rfl : ad510 = ad511 := (by injection e511)
                          obtain ⟨ce511, hce511, hMe511, hcc511⟩ := Kd.S_get HO_5.out [] x8_2 p511 (by first | exact q511 | exact of_decide_eq_true (by assumption) | (have e_ := (Kd.S_reads' HO_5.out).1; omega))
                          obtain ⟨ve511_0, rfl, ge511_0⟩ := hMe511
                          have hv511_0 := hcc511 0 _ rfl
                          rw [Nat.add_zero, show ((Kd.slice 52 k52)).sz = 1 from rfl, Nat.mul_one] at hv511_0
                          replace hv511_0 := Option.some.inj (hv511_0.symm.trans hx511_0)
                          rw [hv511_0] at ge511_0
                          have HL511_0 := aM (show Kd.R k52 52 _ _ _ _ (rd_L11 t485 x8_2) from ge511_0)
                          clear hv511_0 ge511_0
                          clear hcc511 hce511
                          have HR511_0 := aM hi511_0
                          have HC511_0 := aM hl511_0
                          clear hi511_0 hl511_0
                          replace p511 := eq_true p511
                          replace q511 := eq_true q511
                          have ea_ := Option.some.inj (hx510_0.symm.trans hx511_0)
                          injection ea_ with ea_ en_ ec_
                          subst ea_
                          subst ec_
                          clear en_
                          have p512 : 0 ≤ (x14_5 : Int) := of_decide_eq_true (by assumption)
                          have q512 : x14_5 < ((rd_L11 t485 x8_2).length : Int) := of_decide_eq_true (by assumption)
                          obtain ⟨ad512, e512, hx512_0, hx512_1⟩ := at_T52 (by repeat (first | (with_reducible exact HR511_0.out) | (with_reducible refine Kd.C_alloc ?_ _) | (with_reducible refine Kd.C_drewN ?_ _) | (with_reducible refine Kd.C_drew ?_) | exact HR511_0.out)) x14_5 p512 q512
                          cases e512
                          replace p512 := eq_true p512
                          replace q512 := eq_true q512
                          have hnb66 := NB507_476.out
                          have hnc66 := NB476_507.out
                          have hnb67 := NB507_508.out
                          have hnc67 := NB508_507.out
                          have hcz68_0 : wr.cell? ⟨gb507, 0, none⟩ = some (.int .i64 t500) := (blk_cell BK507.out 0).trans rfl
                          have hcz68_1 : wr.cell? ⟨gb507, 1, none⟩ = some (.int .i64 t501) := (blk_cell BK507.out 1).trans rfl
                          have hcz68_2 : wr.cell? ⟨gb507, 2, none⟩ = some (.bool t502) := (blk_cell BK507.out 2).trans rfl
                          have hfz68_0 := blk_frozen BK507.out 0
                          have hfz68_1 := blk_frozen BK507.out 1
                          have hfz68_2 := blk_frozen BK507.out 2
                          have p513 : 0 ≤ (x8_2 : Int) := of_decide_eq_true (by assumption)
                          have q513 : x8_2 < (t485.length : Int) := of_decide_eq_true (by assumption)
                          obtain ⟨ad513, A513_0, c513_0, e513, hx513_0, hl513_0, hi513_0⟩ := at_L11 (Kd.S_reads' HO_5.out).2.2 x8_2 p513 q513
                          obtain rfl : ad510 = ad513 := (by injection e513)
                          obtain ⟨ce513, hce513, hMe513, hcc513⟩ := Kd.S_get HO_5.out [] x8_2 p513 (by first | exact q513 | exact of_decide_eq_true (by assumption) | (have e_ := (Kd.S_reads' HO_5.out).1; omega))
                          obtain ⟨ve513_0, rfl, ge513_0⟩ := hMe513
                          have hv513_0 := hcc513 0 _ rfl
                          rw [Nat.add_zero, show ((Kd.slice 52 k52)).sz = 1 from rfl, Nat.mul_one] at hv513_0
                          replace hv513_0 := Option.some.inj (hv513_0.symm.trans hx513_0)
                          rw [hv513_0] at ge513_0
                          have HL513_0 := aM (show Kd.R k52 52 _ _ _ _ (rd_L11 t485 x8_2) from ge513_0)
                          clear hv513_0 ge513_0
                          clear hcc513 hce513
                          have HR513_0 := aM hi513_0
                          have HC513_0 := aM hl513_0
                          clear hi513_0 hl513_0
                          replace p513 := eq_true p513
                          replace q513 := eq_true q513
                          have ea_ := Option.some.inj (hx510_0.symm.trans hx513_0)
                          injection ea_ with ea_ en_ ec_
                          subst ea_
                          subst ec_
                          clear en_
                          have p514 : 0 ≤ (x14_5 : Int) := of_decide_eq_true (by assumption)
                          have q514 : x14_5 < ((rd_L11 t485 x8_2).length : Int) := of_decide_eq_true (by assumption)
                          obtain ⟨ad514, e514, hx514_0, hx514_1⟩ := at_T52 (by repeat (first | (with_reducible exact HR513_0.out) | (with_reducible refine Kd.C_alloc ?_ _) | (with_reducible refine Kd.C_drewN ?_ _) | (with_reducible refine Kd.C_drew ?_) | exact HR513_0.out)) x14_5 p514 q514
                          cases e514
                          replace p514 := eq_true p514
                          replace q514 := eq_true q514
                          have hnb69 := NB508_476.out
                          have hnc69 := NB476_508.out
                          have hcz70_0 : wr.cell? ⟨gb508, 0, none⟩ = some (.int .i64 t503) := (blk_cell BK508.out 0).trans rfl
                          have hcz70_1 : wr.cell? ⟨gb508, 1, none⟩ = some (.int .i64 t504) := (blk_cell BK508.out 1).trans rfl
                          have hcz70_2 : wr.cell? ⟨gb508, 2, none⟩ = some (.bool t505) := (blk_cell BK508.out 2).trans rfl
                          have hfz70_0 := blk_frozen BK508.out 0
                          have hfz70_1 := blk_frozen BK508.out 1
                          have hfz70_2 := blk_frozen BK508.out 2
                          have p515 : 0 ≤ (x8_2 : Int) := of_decide_eq_true (by assumption)
                          have q515 : x8_2 < (t485.length : Int) := of_decide_eq_true (by assumption)
                          obtain ⟨ad515, A515_0, c515_0, e515, hx515_0, hl515_0, hi515_0⟩ := at_L11 (Kd.S_reads' HO_5.out).2.2 x8_2 p515 q515
                          obtain rfl : ad510 = ad515 := (by injection e515)
                          obtain ⟨ce515, hce515, hMe515, hcc515⟩ := Kd.S_get HO_5.out [] x8_2 p515 (by first | exact q515 | exact of_decide_eq_true (by assumption) | (have e_ := (Kd.S_reads' HO_5.out).1; omega))
                          obtain ⟨ve515_0, rfl, ge515_0⟩ := hMe515
                          have hv515_0 := hcc515 0 _ rfl
                          rw [Nat.add_zero, show ((Kd.slice 52 k52)).sz = 1 from rfl, Nat.mul_one] at hv515_0
                          replace hv515_0 := Option.some.inj (hv515_0.symm.trans hx515_0)
                          rw [hv515_0] at ge515_0
                          have HL515_0 := aM (show Kd.R k52 52 _ _ _ _ (rd_L11 t485 x8_2) from ge515_0)
                          clear hv515_0 ge515_0
                          clear hcc515 hce515
                          have HR515_0 := aM hi515_0
                          have HC515_0 := aM hl515_0
                          clear hi515_0 hl515_0
                          replace p515 := eq_true p515
                          replace q515 := eq_true q515
                          have ea_ := Option.some.inj (hx510_0.symm.trans hx515_0)
                          injection ea_ with ea_ en_ ec_
                          subst ea_
                          subst ec_
                          clear en_
                          have p516 : 0 ≤ (x14_5 : Int) := of_decide_eq_true (by assumption)
                          have q516 : x14_5 < ((rd_L11 t485 x8_2).length : Int) := of_decide_eq_true (by assumption)
                          obtain ⟨ad516, e516, hx516_0, hx516_1⟩ := at_T52 (by repeat (first | (with_reducible exact HR515_0.out) | (with_reducible refine Kd.C_alloc ?_ _) | (with_reducible refine Kd.C_drewN ?_ _) | (with_reducible refine Kd.C_drew ?_) | exact HR515_0.out)) x14_5 p516 q516
                          cases e516
                          replace p516 := eq_true p516
                          replace q516 := eq_true q516
                          have p517 : 0 ≤ (x8_2 : Int) := of_decide_eq_true (by assumption)
                          have q517 : x8_2 < (t485.length : Int) := of_decide_eq_true (by assumption)
                          obtain ⟨ad517, A517_0, c517_0, e517, hx517_0, hl517_0, hi517_0⟩ := at_L11 (Kd.S_reads' HO_5.out).2.2 x8_2 p517 q517
                          obtain rfl : ad510 = ad517 := (by injection e517)
                          obtain ⟨ce517, hce517, hMe517, hcc517⟩ := Kd.S_get HO_5.out [] x8_2 p517 (by first | exact q517 | exact of_decide_eq_true (by assumption) | (have e_ := (Kd.S_reads' HO_5.out).1; omega))
                          obtain ⟨ve517_0, rfl, ge517_0⟩ := hMe517
                          have hv517_0 := hcc517 0 _ rfl
                          rw [Nat.add_zero, show ((Kd.slice 52 k52)).sz = 1 from rfl, Nat.mul_one] at hv517_0
                          replace hv517_0 := Option.some.inj (hv517_0.symm.trans hx517_0)
                          rw [hv517_0] at ge517_0
                          have HL517_0 := aM (show Kd.R k52 52 _ _ _ _ (rd_L11 t485 x8_2) from ge517_0)
                          clear hv517_0 ge517_0
                          clear hcc517 hce517
                          have HR517_0 := aM hi517_0
                          have HC517_0 := aM hl517_0
                          clear hi517_0 hl517_0
                          replace p517 := eq_true p517
                          replace q517 := eq_true q517
                          have ea_ := Option.some.inj (hx510_0.symm.trans hx517_0)
                          injection ea_ with ea_ en_ ec_
                          subst ea_
                          subst ec_
                          clear en_
                          have p518 : 0 ≤ (x14_5 : Int) := of_decide_eq_true (by assumption)
                          have q518 : x14_5 < ((rd_L11 t485 x8_2).length : Int) := of_decide_eq_true (by assumption)
                          obtain ⟨ad518, e518, hx518_0, hx518_1⟩ := at_T52 (by repeat (first | (with_reducible exact HR517_0.out) | (with_reducible refine Kd.C_alloc ?_ _) | (with_reducible refine Kd.C_drewN ?_ _) | (with_reducible refine Kd.C_drew ?_) | exact HR517_0.out)) x14_5 p518 q518
                          cases e518
                          replace p518 := eq_true p518
                          replace q518 := eq_true q518
                          go_wp2
                          repeat (go_quiet (fail); try go_wp2)
                          go_roundg k5
                          case measure => have := HJ6.out; have := HK2.out; have := HK3.out; have := HJ44.out; have := HK5.out; omega
                          case rel => exact ⟨(wrap64 (x14_5 + 1)), (by first | rfl | (simp; done) | (simp [*]; done)), H', ⟨by have := HJ6.out; have := HK2.out; have := HK3.out; have := HJ44.out; have := HK5.out; omega⟩, ⟨by (with_reducible repeat (first | apply Kd.S_alloc | apply Kd.S_drewN | apply Kd.S_drew)); exact HO_5.out⟩, ⟨by (with_reducible repeat (first | apply Kd.S_alloc | apply Kd.S_drewN | apply Kd.S_drew)); exact HO_6.out⟩, ⟨by (with_reducible repeat (first | refine kN ?_ _ | refine kD ?_ | refine kA ?_ _)); exact BK476.out⟩, ⟨by (with_reducible repeat (first | refine kN ?_ _ | refine kD ?_ | refine kA ?_ _)); exact BK507.out⟩, ⟨by (with_reducible repeat (first | refine kN ?_ _ | refine kD ?_ | refine kA ?_ _)); exact BK508.out⟩, ⟨by repeat (first | (with_reducible exact HR493_0.out) | (with_reducible refine Kd.C_alloc ?_ _) | (with_reducible refine Kd.C_drewN ?_ _) | (with_reducible refine Kd.C_drew ?_) | exact HR493_0.out)⟩, ⟨by repeat (first | (with_reducible exact HR499_0.out) | (with_reducible refine Kd.C_alloc ?_ _) | (with_reducible refine Kd.C_drewN ?_ _) | (with_reducible refine Kd.C_drew ?_) | exact HR499_0.out)⟩, ⟨by repeat (first | (with_reducible first | exact HB.out | apply bA | apply bN | apply bD | refine bS ?_ GE476.out | refine bS ?_ GE507.out | refine bS ?_ GE508.out) | exact HB.out)⟩⟩
                     ·
                      rw [if_neg c61] at H
                      exact absurd H (by simp)
                    ·
                     rw [if_neg c60] at H
                     have c60b0 : decide (x14_5 < ((rd_L11 t485 x8_2).length : Int)) = false := decide_eq_false c60
                     clear c60
                     have H' := aM H
                     clear H
                     have p510 : 0 ≤ (x8_2 : Int) := of_decide_eq_true (by assumption)
                     have q510 : x8_2 < (t485.length : Int) := of_decide_eq_true (by assumption)
                     obtain ⟨ad510, A510_0, c510_0, e510, hx510_0, hl510_0, hi510_0⟩ := at_L11 (Kd.S_reads' HO_5.out).2.2 x8_2 p510 q510
                     cases e510
                     obtain ⟨ce510, hce510, hMe510, hcc510⟩ := Kd.S_get HO_5.out [] x8_2 p510 (by first | exact q510 | exact of_decide_eq_true (by assumption) | (have e_ := (Kd.S_reads' HO_5.out).1; omega))
                     obtain ⟨ve510_0, rfl, ge510_0⟩ := hMe510
                     have hv510_0 := hcc510 0 _ rfl
                     rw [Nat.add_zero, show ((Kd.slice 52 k52)).sz = 1 from rfl, Nat.mul_one] at hv510_0
                     replace hv510_0 := Option.some.inj (hv510_0.symm.trans hx510_0)
                     rw [hv510_0] at ge510_0
                     have HL510_0 := aM (show Kd.R k52 52 _ _ _ _ (rd_L11 t485 x8_2) from ge510_0)
                     clear hv510_0 ge510_0
                     clear hcc510 hce510
                     have HR510_0 := aM hi510_0
                     have HC510_0 := aM hl510_0
                     clear hi510_0 hl510_0
                     replace p510 := eq_true p510
                     replace q510 := eq_true q510
                     go_wp2
                     repeat (go_quiet (fail); try go_wp2)
                     go_roundg k5
                     case measure => have := HJ6.out; have := HK2.out; have := HK3.out; have := HJ44.out; have := HK5.out; omega
                     case rel => exact ⟨(wrap64 (x8_2 + 1)), (by first | rfl | (simp; done) | (simp [*]; done)), H', ⟨by have := HJ6.out; have := HK2.out; have := HK3.out; have := HJ44.out; have := HK5.out; omega⟩, ⟨by (with_reducible repeat (first | apply Kd.S_alloc | apply Kd.S_drewN | apply Kd.S_drew)); exact HO_5.out⟩, ⟨by (with_reducible repeat (first | apply Kd.S_alloc | apply Kd.S_drewN | apply Kd.S_drew)); exact Kd.S_mono HO_6.out (fun _ hk => trivial)⟩, ⟨by (with_reducible repeat (first | refine kN ?_ _ | refine kD ?_ | refine kA ?_ _)); exact BK476.out⟩, ⟨by repeat (first | (with_reducible first | exact HB.out | apply bA | apply bN | apply bD | refine bS ?_ GE476.out | refine bS ?_ GE507.out | refine bS ?_ GE508.out) | exact HB.out)⟩⟩
                   ·
                    rw [if_neg c59] at H
                    exact absurd H (by simp)
                  ·
                   rw [if_neg c58] at H
                   exact absurd H (by simp)
           ·
            rw [if_neg c30] at H
            exact absurd H (by simp)
          ·
           rw [if_neg c29] at H
           exact absurd H (by simp)
       ·
        rw [if_neg c27] at H
        have c27b0 : decide (x8_2 < (t485.length : Int)) = false := decide_eq_false c27
        clear c27
        replace H := Option.bind_eq_some_iff.mp H
        obtain ⟨t492, A710, H⟩ := H
        replace H : (some t492) = some r := H
        have A71 := aM A710
        clear A710
        obtain rfl := Option.some.inj H
        obtain ⟨Ao72, co72, eo72⟩ := Kd.S_slice HO_5.out
        subst eo72
        go_wp2_with (first | (go_at_call 21; (with_reducible refine (fleuronlaw03_drawn.calls  t492 _ A71.out).mono ?_); rintro e w73 ⟨rfl, hb⟩; have n0_ := aM (Kd.S_below (by (with_reducible repeat (first | apply Kd.S_alloc | apply Kd.S_drewN | apply Kd.S_drew)); exact HO_5.out) hb); have n1_ := aM (Kd.S_below (by (with_reducible repeat (first | apply Kd.S_alloc | apply Kd.S_drewN | apply Kd.S_drew)); exact HO_6.out) hb); have n2_ := aM (blk_below (g := gb476) (o := .cells #[.slice A0_0 l0_0.length c0_0, .slice A0_1 l0_1.length c0_1] 25 (0, 0)) (by (with_reducible repeat (first | refine kN ?_ _ | refine kD ?_ | refine kA ?_ _)); exact BK476.out) hb); have n3_ := aM (below_step (by repeat (first | (with_reducible first | exact HB.out | apply bA | apply bN | apply bD | refine bS ?_ GE476.out) | exact HB.out)) hb); clear HO_5; clear HO_6; clear BK476; clear HB; have HO_5 := n0_; have HO_6 := n1_; have BK476 := n2_; have HB := n3_; clear n0_ n1_ n2_ n3_; (try clear hb); (try clear hb2); (try clear hk); (try clear hi)))
        repeat (go_quiet (first | (go_at_call 21; (with_reducible refine (fleuronlaw03_drawn.calls  t492 _ A71.out).mono ?_); rintro e w73 ⟨rfl, hb⟩; have n0_ := aM (Kd.S_below (by (with_reducible repeat (first | apply Kd.S_alloc | apply Kd.S_drewN | apply Kd.S_drew)); exact HO_5.out) hb); have n1_ := aM (Kd.S_below (by (with_reducible repeat (first | apply Kd.S_alloc | apply Kd.S_drewN | apply Kd.S_drew)); exact HO_6.out) hb); have n2_ := aM (blk_below (g := gb476) (o := .cells #[.slice A0_0 l0_0.length c0_0, .slice A0_1 l0_1.length c0_1] 25 (0, 0)) (by (with_reducible repeat (first | refine kN ?_ _ | refine kD ?_ | refine kA ?_ _)); exact BK476.out) hb); have n3_ := aM (below_step (by repeat (first | (with_reducible first | exact HB.out | apply bA | apply bN | apply bD | refine bS ?_ GE476.out) | exact HB.out)) hb); clear HO_5; clear HO_6; clear BK476; clear HB; have HO_5 := n0_; have HO_6 := n1_; have BK476 := n2_; have HB := n3_; clear n0_ n1_ n2_ n3_; (try clear hb); (try clear hb2); (try clear hk); (try clear hi))); try go_wp2_with (first | (go_at_call 21; (with_reducible refine (fleuronlaw03_drawn.calls  t492 _ A71.out).mono ?_); rintro e w73 ⟨rfl, hb⟩; have n0_ := aM (Kd.S_below (by (with_reducible repeat (first | apply Kd.S_alloc | apply Kd.S_drewN | apply Kd.S_drew)); exact HO_5.out) hb); have n1_ := aM (Kd.S_below (by (with_reducible repeat (first | apply Kd.S_alloc | apply Kd.S_drewN | apply Kd.S_drew)); exact HO_6.out) hb); have n2_ := aM (blk_below (g := gb476) (o := .cells #[.slice A0_0 l0_0.length c0_0, .slice A0_1 l0_1.length c0_1] 25 (0, 0)) (by (with_reducible repeat (first | refine kN ?_ _ | refine kD ?_ | refine kA ?_ _)); exact BK476.out) hb); have n3_ := aM (below_step (by repeat (first | (with_reducible first | exact HB.out | apply bA | apply bN | apply bD | refine bS ?_ GE476.out) | exact HB.out)) hb); clear HO_5; clear HO_6; clear BK476; clear HB; have HO_5 := n0_; have HO_6 := n1_; have BK476 := n2_; have HB := n3_; clear n0_ n1_ n2_ n3_; (try clear hb); (try clear hb2); (try clear hk); (try clear hi))))
        go_ret
        exact ⟨by first | rfl | (simp [errW_none, errW_some] <;> rfl) | (simp [*, errW_none, errW_some] <;> rfl), by repeat (first | (with_reducible first | exact HB.out | apply bA | apply bN | apply bD | refine bS ?_ GE476.out) | exact HB.out)⟩
 ·
  replace c3 := Bool.eq_false_iff.mpr c3
  subst c3
  have H1 : ((fleuronlaw03_drawn.f).bind fun t478 => (some t478)) = some r := by rw [if_neg (show ¬ (false = true) by decide)] at H; exact H
  clear H
  have H := H1
  clear H1
  replace H := Option.bind_eq_some_iff.mp H
  obtain ⟨t478, A740, H⟩ := H
  replace H : (some t478) = some r := H
  have A74 := aM A740
  clear A740
  obtain rfl := Option.some.inj H
  go_enter Try.func9, Try.ntmps9
  go_wp2_with (first | ((with_reducible refine gate_dst (N := 1) rfl ?_); (try (refine gate_guard (by rfl) ?_; dsimp only)); refine box_event ?hg (N := 1) ?hd (cs := #[.slice A0_0 l0_0.length c0_0, .slice A0_1 l0_1.length c0_1]) (t := 25) ?hr ?_; (case hd => rfl); (case hg => rfl); (case hr => first | (go_simp; done) | (go_simp; rfl)); intro gb476 hg w75 hbox hb; have n0_ := aM (below_step (by repeat (first | (with_reducible first | exact HB.out | apply bA | apply bN | apply bD) | exact HB.out)) hb); have n1_ := aM (hbox); have n2_ := aM ((by rw [hg]; exact (below_size (by repeat (first | (with_reducible first | exact HB.out | apply bA | apply bN | apply bD) | exact HB.out))) : w.heap.size ≤ gb476)); have n3_ := aM ((by rw [hg]; exact (below_size (by repeat (first | (with_reducible first | exact HB.out | apply bA | apply bN | apply bD) | exact HB.out))) : w.heap.size ≤ gb476)); clear HB; have HB := n0_; have BK476 := n1_; have GW476 := n2_; have GE476 := n3_; clear n0_ n1_ n2_ n3_; clear hb hbox hg; have hcz76_0 : w75.cell? ⟨gb476, 0, none⟩ = some (.slice A0_0 l0_0.length c0_0) := (blk_cell BK476.out 0).trans rfl; have hcz76_1 : w75.cell? ⟨gb476, 1, none⟩ = some (.slice A0_1 l0_1.length c0_1) := (blk_cell BK476.out 1).trans rfl; have hfz76_0 := blk_frozen BK476.out 0; have hfz76_1 := blk_frozen BK476.out 1) | (go_at_call 22; (with_reducible refine (outline_Right.calls k _ _ l0_0 _ _ l0_1 false _ ?side1 ?side2 ?side3 ?side4 A2.out).mono ?_); (case side1 => repeat (first | exact (Kd.C_below HR0_0.out HB.out) | (with_reducible refine Kd.C_alloc ?_ _) | (with_reducible refine Kd.C_drewN ?_ _) | (with_reducible refine Kd.C_drew ?_))); (case side2 => exact HC0_0.out); (case side3 => repeat (first | exact (Kd.C_below HR0_1.out HB.out) | (with_reducible refine Kd.C_alloc ?_ _) | (with_reducible refine Kd.C_drewN ?_ _) | (with_reducible refine Kd.C_drew ?_))); (case side4 => exact HC0_1.out); rintro e w77 ⟨rfl, hb⟩; have n0_ := aM (blk_below (g := gb476) (o := .cells #[.slice A0_0 l0_0.length c0_0, .slice A0_1 l0_1.length c0_1] 25 (0, 0)) (by (with_reducible repeat (first | refine kN ?_ _ | refine kD ?_ | refine kA ?_ _)); exact BK476.out) hb); have n1_ := aM (below_step (by repeat (first | (with_reducible first | exact HB.out | apply bA | apply bN | apply bD | refine bS ?_ GE476.out) | exact HB.out)) hb); clear BK476; clear HB; have BK476 := n0_; have HB := n1_; clear n0_ n1_; (try clear hb); (try clear hb2); (try clear hk); (try clear hi)) | (go_at_call 21; (with_reducible refine (fleuronlaw03_drawn.calls  t478 _ A74.out).mono ?_); rintro e w78 ⟨rfl, hb⟩; have n0_ := aM (blk_below (g := gb476) (o := .cells #[.slice A0_0 l0_0.length c0_0, .slice A0_1 l0_1.length c0_1] 25 (0, 0)) (by (with_reducible repeat (first | refine kN ?_ _ | refine kD ?_ | refine kA ?_ _)); exact BK476.out) hb); have n1_ := aM (below_step (by repeat (first | (with_reducible first | exact HB.out | apply bA | apply bN | apply bD | refine bS ?_ GE476.out) | exact HB.out)) hb); clear BK476; clear HB; have BK476 := n0_; have HB := n1_; clear n0_ n1_; (try clear hb); (try clear hb2); (try clear hk); (try clear hi)))
  repeat (go_quiet (first | ((with_reducible refine gate_dst (N := 1) rfl ?_); (try (refine gate_guard (by rfl) ?_; dsimp only)); refine box_event ?hg (N := 1) ?hd (cs := #[.slice A0_0 l0_0.length c0_0, .slice A0_1 l0_1.length c0_1]) (t := 25) ?hr ?_; (case hd => rfl); (case hg => rfl); (case hr => first | (go_simp; done) | (go_simp; rfl)); intro gb476 hg w75 hbox hb; have n0_ := aM (below_step (by repeat (first | (with_reducible first | exact HB.out | apply bA | apply bN | apply bD) | exact HB.out)) hb); have n1_ := aM (hbox); have n2_ := aM ((by rw [hg]; exact (below_size (by repeat (first | (with_reducible first | exact HB.out | apply bA | apply bN | apply bD) | exact HB.out))) : w.heap.size ≤ gb476)); have n3_ := aM ((by rw [hg]; exact (below_size (by repeat (first | (with_reducible first | exact HB.out | apply bA | apply bN | apply bD) | exact HB.out))) : w.heap.size ≤ gb476)); clear HB; have HB := n0_; have BK476 := n1_; have GW476 := n2_; have GE476 := n3_; clear n0_ n1_ n2_ n3_; clear hb hbox hg; have hcz76_0 : w75.cell? ⟨gb476, 0, none⟩ = some (.slice A0_0 l0_0.length c0_0) := (blk_cell BK476.out 0).trans rfl; have hcz76_1 : w75.cell? ⟨gb476, 1, none⟩ = some (.slice A0_1 l0_1.length c0_1) := (blk_cell BK476.out 1).trans rfl; have hfz76_0 := blk_frozen BK476.out 0; have hfz76_1 := blk_frozen BK476.out 1) | (go_at_call 22; (with_reducible refine (outline_Right.calls k _ _ l0_0 _ _ l0_1 false _ ?side1 ?side2 ?side3 ?side4 A2.out).mono ?_); (case side1 => repeat (first | exact (Kd.C_below HR0_0.out HB.out) | (with_reducible refine Kd.C_alloc ?_ _) | (with_reducible refine Kd.C_drewN ?_ _) | (with_reducible refine Kd.C_drew ?_))); (case side2 => exact HC0_0.out); (case side3 => repeat (first | exact (Kd.C_below HR0_1.out HB.out) | (with_reducible refine Kd.C_alloc ?_ _) | (with_reducible refine Kd.C_drewN ?_ _) | (with_reducible refine Kd.C_drew ?_))); (case side4 => exact HC0_1.out); rintro e w77 ⟨rfl, hb⟩; have n0_ := aM (blk_below (g := gb476) (o := .cells #[.slice A0_0 l0_0.length c0_0, .slice A0_1 l0_1.length c0_1] 25 (0, 0)) (by (with_reducible repeat (first | refine kN ?_ _ | refine kD ?_ | refine kA ?_ _)); exact BK476.out) hb); have n1_ := aM (below_step (by repeat (first | (with_reducible first | exact HB.out | apply bA | apply bN | apply bD | refine bS ?_ GE476.out) | exact HB.out)) hb); clear BK476; clear HB; have BK476 := n0_; have HB := n1_; clear n0_ n1_; (try clear hb); (try clear hb2); (try clear hk); (try clear hi)) | (go_at_call 21; (with_reducible refine (fleuronlaw03_drawn.calls  t478 _ A74.out).mono ?_); rintro e w78 ⟨rfl, hb⟩; have n0_ := aM (blk_below (g := gb476) (o := .cells #[.slice A0_0 l0_0.length c0_0, .slice A0_1 l0_1.length c0_1] 25 (0, 0)) (by (with_reducible repeat (first | refine kN ?_ _ | refine kD ?_ | refine kA ?_ _)); exact BK476.out) hb); have n1_ := aM (below_step (by repeat (first | (with_reducible first | exact HB.out | apply bA | apply bN | apply bD | refine bS ?_ GE476.out) | exact HB.out)) hb); clear BK476; clear HB; have BK476 := n0_; have HB := n1_; clear n0_ n1_; (try clear hb); (try clear hb2); (try clear hk); (try clear hi))); try go_wp2_with (first | ((with_reducible refine gate_dst (N := 1) rfl ?_); (try (refine gate_guard (by rfl) ?_; dsimp only)); refine box_event ?hg (N := 1) ?hd (cs := #[.slice A0_0 l0_0.length c0_0, .slice A0_1 l0_1.length c0_1]) (t := 25) ?hr ?_; (case hd => rfl); (case hg => rfl); (case hr => first | (go_simp; done) | (go_simp; rfl)); intro gb476 hg w75 hbox hb; have n0_ := aM (below_step (by repeat (first | (with_reducible first | exact HB.out | apply bA | apply bN | apply bD) | exact HB.out)) hb); have n1_ := aM (hbox); have n2_ := aM ((by rw [hg]; exact (below_size (by repeat (first | (with_reducible first | exact HB.out | apply bA | apply bN | apply bD) | exact HB.out))) : w.heap.size ≤ gb476)); have n3_ := aM ((by rw [hg]; exact (below_size (by repeat (first | (with_reducible first | exact HB.out | apply bA | apply bN | apply bD) | exact HB.out))) : w.heap.size ≤ gb476)); clear HB; have HB := n0_; have BK476 := n1_; have GW476 := n2_; have GE476 := n3_; clear n0_ n1_ n2_ n3_; clear hb hbox hg; have hcz76_0 : w75.cell? ⟨gb476, 0, none⟩ = some (.slice A0_0 l0_0.length c0_0) := (blk_cell BK476.out 0).trans rfl; have hcz76_1 : w75.cell? ⟨gb476, 1, none⟩ = some (.slice A0_1 l0_1.length c0_1) := (blk_cell BK476.out 1).trans rfl; have hfz76_0 := blk_frozen BK476.out 0; have hfz76_1 := blk_frozen BK476.out 1) | (go_at_call 22; (with_reducible refine (outline_Right.calls k _ _ l0_0 _ _ l0_1 false _ ?side1 ?side2 ?side3 ?side4 A2.out).mono ?_); (case side1 => repeat (first | exact (Kd.C_below HR0_0.out HB.out) | (with_reducible refine Kd.C_alloc ?_ _) | (with_reducible refine Kd.C_drewN ?_ _) | (with_reducible refine Kd.C_drew ?_))); (case side2 => exact HC0_0.out); (case side3 => repeat (first | exact (Kd.C_below HR0_1.out HB.out) | (with_reducible refine Kd.C_alloc ?_ _) | (with_reducible refine Kd.C_drewN ?_ _) | (with_reducible refine Kd.C_drew ?_))); (case side4 => exact HC0_1.out); rintro e w77 ⟨rfl, hb⟩; have n0_ := aM (blk_below (g := gb476) (o := .cells #[.slice A0_0 l0_0.length c0_0, .slice A0_1 l0_1.length c0_1] 25 (0, 0)) (by (with_reducible repeat (first | refine kN ?_ _ | refine kD ?_ | refine kA ?_ _)); exact BK476.out) hb); have n1_ := aM (below_step (by repeat (first | (with_reducible first | exact HB.out | apply bA | apply bN | apply bD | refine bS ?_ GE476.out) | exact HB.out)) hb); clear BK476; clear HB; have BK476 := n0_; have HB := n1_; clear n0_ n1_; (try clear hb); (try clear hb2); (try clear hk); (try clear hi)) | (go_at_call 21; (with_reducible refine (fleuronlaw03_drawn.calls  t478 _ A74.out).mono ?_); rintro e w78 ⟨rfl, hb⟩; have n0_ := aM (blk_below (g := gb476) (o := .cells #[.slice A0_0 l0_0.length c0_0, .slice A0_1 l0_1.length c0_1] 25 (0, 0)) (by (with_reducible repeat (first | refine kN ?_ _ | refine kD ?_ | refine kA ?_ _)); exact BK476.out) hb); have n1_ := aM (below_step (by repeat (first | (with_reducible first | exact HB.out | apply bA | apply bN | apply bD | refine bS ?_ GE476.out) | exact HB.out)) hb); clear BK476; clear HB; have BK476 := n0_; have HB := n1_; clear n0_ n1_; (try clear hb); (try clear hb2); (try clear hk); (try clear hi))))
  go_ret
  exact ⟨by first | rfl | (simp [errW_none, errW_some] <;> rfl) | (simp [*, errW_none, errW_some] <;> rfl), by repeat (first | (with_reducible first | exact HB.out | apply bA | apply bN | apply bD | refine bS ?_ GE476.out) | exact HB.out)⟩

end Go.Proofs.Ytbmklpcheopgoaa.H

namespace Go.Proofs.YtbmklpcheopgoaaOpen
open Go Go.RowKit Go.ChangeShapes Go.WideShapes Go.Proofs.YtbmklpcheopgoaaW.PrintWords

/-- Whatever reads as data of type t is of kind d, and good. -/
def Opens (P : Program) (t : TypeId) {α : Type} (d : Kd α) (good : α → Prop) : Prop :=
  ∀ {H : Type} (enc : TypeId × Value → H) (w : World) (base : Nat) (spare : Nat → Bool) (held : Bool) (fuel : Nat) (cs : List Value) (x : DataW H × List MemPlace),
    DataW.trod enc P w base spare held fuel t cs = some x → ∃ y, d.K w y cs ∧ good y

/-- A number of its kind. -/
def InK (k : IntKind) (n : Int) : Prop := (Lit.int k n).wf = true
theorem InK.i64 {n : Int} (h : InK .i64 n) : -9223372036854775808 ≤ n ∧ n ≤ 9223372036854775807 := by
  exact bounds_i64 h
theorem InK.u8 {n : Int} (h : InK .u8 n) : 0 ≤ n ∧ n ≤ 255 := by
  exact bounds_u8 h
theorem opens_int {P : Program} {t : TypeId} {k : IntKind} (ht : P.underlying t = some (.int k)) : Opens P t (Kd.int k) (InK k) := by
  intro H enc w base spare held fuel cs x h
  obtain ⟨n, rfl, _, hw⟩ := DataW.trod_int ht h
  exact ⟨n, rfl, hw⟩
theorem opens_bool {P : Program} {t : TypeId} (ht : P.underlying t = some .bool) : Opens P t Kd.bool (fun _ => True) := by
  intro H enc w base spare held fuel cs x h
  obtain ⟨n, rfl, _⟩ := DataW.trod_bool ht h
  exact ⟨n, rfl, trivial⟩
theorem opens_string {P : Program} {t : TypeId} (ht : P.underlying t = some .string) : Opens P t Kd.string (fun s => s.size ≤ maxLen) := by
  intro H enc w base spare held fuel cs x h
  obtain ⟨n, rfl, _, hw⟩ := DataW.trod_string ht h
  exact ⟨n, rfl, hw⟩

theorem cells_get {w : World} {base : Nat} {a : Addr} {n : Nat} {cs : List Value} (h : w.cells? base a n = some cs) : cs.length = n ∧ ∀ i u, cs[i]? = some u → w.cell? (a.add i) = some u := by
  obtain ⟨_, hl, hc⟩ := World.cells?_some h
  refine ⟨hl, fun i u hu => ?_⟩
  have hi : i < n := by rw [← hl]; exact (List.getElem?_eq_some_iff.1 hu).1
  rw [hc i hi, hu]

theorem opens_slice {P : Program} {t e : TypeId} {α : Type} {d : Kd α} {good : α → Prop} (ht : P.underlying t = some (.slice e)) (hs : P.cellsOf e = d.sz) (he : Opens P e d good) : Opens P t (Kd.slice e d) (fun xs => xs.length ≤ 9223372036854775807 ∧ ∀ x ∈ xs, good x) := by
  intro H enc w base spare held fuel cs x h
  rcases Deep.open_slice ht h with ⟨rfl, _⟩ | ⟨a, len, cap, m, n, D, Pl, rfl, _, hl, hm, hmm, _, hel⟩
  · exact ⟨[], ⟨none, 0, rfl, Nat.le_refl _, Kd.C_nil _ _⟩, by simp, fun x hx => by simp at hx⟩
  · have key : ∀ i, i < len → ∃ y cs', d.K w y cs' ∧ good y ∧ cs'.length = d.sz ∧ ∀ j u, cs'[j]? = some u → w.cell? (a.add (i * d.sz + j)) = some u := by
      intro i hi
      obtain ⟨cs', hc, ht'⟩ := hel i (by rw [hmm]; split <;> omega)
      obtain ⟨y, hk, hg⟩ := he enc w base spare held n cs' _ ht'
      obtain ⟨hlen, hcell⟩ := cells_get hc
      rw [hs] at hlen
      refine ⟨y, cs', hk, hg, hlen, fun j u hu => ?_⟩
      have := hcell j u hu
      rwa [Deep.add_add, hs] at this
    have : ∀ k, k ≤ len → ∃ ys : List α, ys.length = k ∧ (∀ x ∈ ys, good x) ∧ ∀ i y, ys[i]? = some y → ∃ cs', cs'.length = d.sz ∧ d.K w y cs' ∧ ∀ j u, cs'[j]? = some u → w.cell? (a.add (i * d.sz + j)) = some u := by
      intro k
      induction k with
      | zero => exact fun _ => ⟨[], rfl, fun x hx => by simp at hx, fun i y h => by simp at h⟩
      | succ k ih =>
        intro hk
        obtain ⟨ys, h1, h2, h3⟩ := ih (by omega)
        obtain ⟨y, cs', q1, q2, q3, q4⟩ := key k (by omega)
        refine ⟨ys ++ [y], by simp [h1], fun x hx => ?_, fun i z hz => ?_⟩
        · rcases List.mem_append.1 hx with hx | hx
          · exact h2 x hx
          · rw [List.mem_singleton.1 hx]; exact q2
        · rcases Nat.lt_or_ge i ys.length with hi | hi
          · rw [List.getElem?_append_left hi] at hz
            exact h3 i z hz
          · have hi' : i = ys.length := by
              have := (List.getElem?_eq_some_iff.1 hz).1
              simp at this
              omega
            subst hi'
            have : y = z := by simpa using hz
            subst this
            rw [h1]
            exact ⟨cs', q3, q1, q4⟩
    obtain ⟨ys, h1, h2, h3⟩ := this len (Nat.le_refl _)
    subst h1
    have hle : ys.length ≤ 9223372036854775807 := by
      unfold maxLen at hm
      omega
    exact ⟨ys, ⟨some a, cap, rfl, hl, rfl, hle, fun _ => ⟨a, rfl, h3⟩⟩, hle, h2⟩

/-- The cells from o on are s of them, and those from o + s on. -/
theorem cutQ (cs : List Value) (o s : Nat) : cs.drop o = (cs.drop o).take s ++ cs.drop (o + s) := by
  rw [← List.drop_drop, List.take_append_drop]
theorem cutQ_last (cs : List Value) (o s : Nat) (h : cs.length = o + s) : cs.drop o = (cs.drop o).take s := by
  rw [List.take_of_length_le]; simp; omega

theorem wide_agg {P : Program} {w : World} {r : Reach} {base : Nat} {t : TypeId} {v : Value} (h : Value.okWide P w r base t v) (hu : (match P.underlying t with | some (.struct _) | some (.array _ _) => true | _ => false) = true) : ∃ cs, v = .agg cs := by
  unfold Value.okWide at h
  split at h
  · obtain ⟨cs, e, _⟩ := h; exact ⟨cs, e⟩
  · obtain ⟨cs, e, _⟩ := h; exact ⟨cs, e⟩
  · rename_i h1 h2
    split at hu
    · rename_i h3; exact absurd h3 (h1 _)
    · rename_i h3; exact absurd h3 (h2 _ _)
    · cases hu
theorem agg_list {cs : Array Value} {l : List Value} (h : (Value.agg cs).cells.toList = l) : cs = l.toArray := by
  have h' : cs.toList = l := h
  rw [← h', Array.toArray_toList]
end Go.Proofs.YtbmklpcheopgoaaOpen

namespace Go.Proofs.Ytbmklpcheopgoaa.Out
open Go Go.RowKit Go.Proofs.Ytbmklpcheopgoaa.H Go.Proofs.YtbmklpcheopgoaaOpen Go.Proofs.YtbmklpcheopgoaaW.PrintWords Go.Proofs.YtbmklpcheopgoaaW.PrintLast Go.Proofs.YtbmklpcheopgoaaW.PrintMore

theorem W_W (x : Int) : wrap64 (wrap64 x) = wrap64 x := by unfold wrap64; omega
theorem W_addl (x y : Int) : wrap64 (wrap64 x + y) = wrap64 (x + y) := by unfold wrap64; omega
theorem W_addr (x y : Int) : wrap64 (x + wrap64 y) = wrap64 (x + y) := by unfold wrap64; omega
theorem W_subl (x y : Int) : wrap64 (wrap64 x - y) = wrap64 (x - y) := by unfold wrap64; omega
theorem W_subr (x y : Int) : wrap64 (x - wrap64 y) = wrap64 (x - y) := by unfold wrap64; omega
theorem W_neg (x : Int) : wrap64 (-(wrap64 x)) = wrap64 (-x) := by unfold wrap64; omega
theorem W_in (x : Int) (h0 : -9223372036854775808 ≤ x) (h1 : x ≤ 9223372036854775807) : wrap64 x = x := by unfold wrap64; omega
theorem W_k (x : Int) : ∃ k, wrap64 x = x + 18446744073709551616 * k := ⟨-((x + 9223372036854775808) / 18446744073709551616), by unfold wrap64; omega⟩
theorem W_M (x k : Int) : wrap64 (x + 18446744073709551616 * k) = wrap64 x := by unfold wrap64; omega
theorem W_mul (x y : Int) : wrap64 (wrap64 x * wrap64 y) = wrap64 (x * y) := by
  obtain ⟨k, hk⟩ := W_k x
  obtain ⟨l, hl⟩ := W_k y
  rw [hk, hl, show (x + 18446744073709551616 * k) * (y + 18446744073709551616 * l) = x * y + 18446744073709551616 * (k * y + x * l + 18446744073709551616 * k * l) by grind, W_M]
theorem W_eq_add {a b c d : Int} (h : wrap64 a = wrap64 b) (h' : wrap64 c = wrap64 d) : wrap64 (a + c) = wrap64 (b + d) := by rw [← W_addl, ← W_addr, h, h', W_addl, W_addr]
theorem W_eq_sub {a b c d : Int} (h : wrap64 a = wrap64 b) (h' : wrap64 c = wrap64 d) : wrap64 (a - c) = wrap64 (b - d) := by rw [← W_subl, ← W_subr, h, h', W_subl, W_subr]
theorem W_eq_mul {a b c d : Int} (h : wrap64 a = wrap64 b) (h' : wrap64 c = wrap64 d) : wrap64 (a * c) = wrap64 (b * d) := by rw [← W_mul, h, h', W_mul]

theorem rdS_mid (l1 l2 : List S33) (p : S33) : rd_T33 (l1 ++ p :: l2) (l1.length : Int) = p := by simp [rd_T33]
theorem set_mid {α : Type} (l1 l2 : List α) (p q : α) : (l1 ++ p :: l2).set l1.length q = l1 ++ q :: l2 := by simp
theorem rdS_get (l : List S33) (i : Nat) (h : i < l.length) : rd_T33 l (i : Int) = l[i] := by simp [rd_T33, h]
theorem rd_get (l : List Int) (i : Nat) (h : i < l.length) : rd l (i : Int) = l[i] := by simp [rd, h]

/-! Right -/
def ptOk (p : S33) : Bool := !(decide (mx p.f0 p.f1 > 16384)) && !(decide (mn p.f0 p.f1 < -16384))
def endsOk : Int → List Int → Int → Bool
  | last, [], n => last == n - 1
  | last, e :: es, n => if e < last + 2 then false else if e ≥ n then false else endsOk e es n
def rightB (pts : List S33) (es : List Int) : Bool := decide (pts.length ≤ 200) && decide (es.length ≤ 40) && (pts.all ptOk && endsOk (-1) es pts.length)
theorem right_l1 (pts : List S33) (es : List Int) (hn : pts.length ≤ 1000000) (he : es.length ≤ 1000000) : ∀ (m k i : Nat) (last : Int), es.length = i + m → m < k → -1 ≤ last → last ≤ 1000000 →
    outline_Right.l1 k last es (es.length : Int) (i : Int) pts es = some (endsOk last (es.drop i) pts.length) := by
  intro m
  induction m with
  | zero =>
    intro k i last h1 h2 h3 h4
    obtain ⟨k, rfl⟩ : ∃ j, k = j + 1 := ⟨k - 1, by omega⟩
    rw [outline_Right.l1, if_neg (by omega), List.drop_of_length_le (by omega)]
    rw [W_in ((pts.length : Int) - 1) (by omega) (by omega)]
    rfl
  | succ m ih =>
    intro k i last h1 h2 h3 h4
    obtain ⟨k, rfl⟩ : ∃ j, k = j + 1 := ⟨k - 1, by omega⟩
    have hi : i < es.length := by omega
    rw [outline_Right.l1, if_pos (by omega), if_pos (by omega), if_pos (by omega), rd_get es i hi, List.drop_eq_getElem_cons hi, endsOk, W_in (last + 2) (by omega) (by omega), W_in ((i : Int) + 1) (by omega) (by omega)]
    by_cases c1 : es[i] < last + 2
    · rw [if_pos c1, if_pos c1]
    · rw [if_neg c1, if_neg c1]
      by_cases c2 : es[i] ≥ (pts.length : Int)
      · rw [if_pos c2, if_pos c2]
      · rw [if_neg c2, if_neg c2]
        exact ih k (i + 1) es[i] (by omega) (by omega) (by omega) (by omega)
theorem right_l0 (pts : List S33) (es : List Int) (hn : pts.length ≤ 1000000) (he : es.length ≤ 1000000) : ∀ (m k i : Nat), pts.length = i + m → m + es.length + 1 < k →
    outline_Right.l0 k pts (pts.length : Int) (i : Int) pts es = some ((pts.drop i).all ptOk && endsOk (-1) es pts.length) := by
  intro m
  induction m with
  | zero =>
    intro k i h1 h2
    obtain ⟨k, rfl⟩ : ∃ j, k = j + 1 := ⟨k - 1, by omega⟩
    rw [outline_Right.l0, if_neg (by omega), List.drop_of_length_le (by omega)]
    have := right_l1 pts es hn he es.length k 0 (-1) (by omega) (by omega) (by omega) (by omega)
    simpa using this
  | succ m ih =>
    intro k i h1 h2
    obtain ⟨k, rfl⟩ : ∃ j, k = j + 1 := ⟨k - 1, by omega⟩
    have hi : i < pts.length := by omega
    rw [outline_Right.l0, if_pos (by omega), if_pos (by omega), if_pos (by omega), rdS_get pts i hi, List.drop_eq_getElem_cons hi, List.all_cons, W_in ((i : Int) + 1) (by omega) (by omega)]
    by_cases c1 : mx pts[i].f0 pts[i].f1 > 16384
    · rw [if_pos c1]; simp [ptOk, c1]
    · rw [if_neg c1]
      by_cases c2 : mn pts[i].f0 pts[i].f1 < -16384
      · rw [if_pos c2]; simp [ptOk, c2]
      · rw [if_neg c2]
        have e : ptOk pts[i] = true := by simp only [ptOk, decide_eq_false c1, decide_eq_false c2]; rfl
        rw [e, Bool.true_and]
        exact ih k (i + 1) (by omega) (by omega)
theorem right_f (pts : List S33) (es : List Int) (k : Nat) (hn : pts.length ≤ 1000000) (he : es.length ≤ 1000000) (hk : pts.length + es.length + 3 ≤ k) : outline_Right.f k pts es = some (rightB pts es) := by
  obtain ⟨k, rfl⟩ : ∃ j, k = j + 1 := ⟨k - 1, by omega⟩
  unfold outline_Right.f rightB
  by_cases h1 : (pts.length : Int) > 200
  · rw [if_pos h1, outline_Right.j0, if_pos rfl, decide_eq_false (show ¬ pts.length ≤ 200 by omega)]; rfl
  · rw [if_neg h1, outline_Right.j0, decide_eq_true (show pts.length ≤ 200 by omega)]
    by_cases h2 : (es.length : Int) > 40
    · rw [if_pos (decide_eq_true h2), decide_eq_false (show ¬ es.length ≤ 40 by omega)]; rfl
    · rw [if_neg (by simpa using h2), decide_eq_true (show es.length ≤ 40 by omega)]
      have := right_l0 pts es hn he pts.length k 0 (by omega) (by omega)
      simpa using this

/-! Moved -/
def mvW (x y : Int) (p : S33) : S33 := ⟨wrap64 (p.f0 + x), wrap64 (p.f1 + y), p.f2⟩
theorem moved_l0 (x y : Int) (es : List Int) : ∀ (l2 l1 : List S33) (k : Nat) (n : Int), n = (l1 ++ l2).length → l2.length < k → l1.length + l2.length ≤ 1000000 → outline_Moved.l0 k x y n (l1.length : Int) (l1 ++ l2) es = some (l1 ++ l2.map (mvW x y), es) := by
  intro l2
  induction l2 with
  | nil =>
    intro l1 k n hn h1 h2
    obtain ⟨k, rfl⟩ : ∃ j, k = j + 1 := ⟨k - 1, by omega⟩
    rw [outline_Moved.l0, if_neg (by subst hn; simp)]
    simp
  | cons p l2 ih =>
    intro l1 k n hn h1 h2
    simp only [List.length_cons] at h1 h2
    obtain ⟨k, rfl⟩ : ∃ j, k = j + 1 := ⟨k - 1, by omega⟩
    rw [outline_Moved.l0, if_pos (by subst hn; simp; omega), if_pos (by omega), if_pos (by simp; omega), Option.bind_some]
    simp only [Int.toNat_natCast, rdS_mid, set_mid, W_in ((l1.length : Int) + 1) (by omega) (by omega)]
    have := ih (l1 ++ [mvW x y p]) k n (by subst hn; simp) (by omega) (by simp; omega)
    simpa [mvW] using this
theorem clone_f (pts : List S33) (es : List Int) (hn : pts.length ≤ 1000000) (he : es.length ≤ 1000000) : outline_clone.f pts es = some (pts, es) := by
  unfold outline_clone.f
  rw [if_pos (by simp; omega), if_pos (by simp; omega)]
  simp
theorem moved_f (pts : List S33) (es : List Int) (x y : Int) (k : Nat) (hn : pts.length ≤ 1000000) (he : es.length ≤ 1000000) (hk : pts.length < k) : outline_Moved.f k pts es x y = some (pts.map (mvW x y), es) := by
  unfold outline_Moved.f
  rw [clone_f pts es hn he, Option.bind_some]
  exact moved_l0 x y es pts [] k _ (by simp) hk (by simpa using hn)
theorem mvW_back (x y : Int) (p : S33) (h0 : wrap64 p.f0 = p.f0) (h1 : wrap64 p.f1 = p.f1) : mvW (wrap64 (-x)) (wrap64 (-y)) (mvW x y p) = p := by
  obtain ⟨a, b, c⟩ := p
  have e0 : wrap64 (wrap64 (a + x) + wrap64 (-x)) = a := by rw [W_addl, W_addr, show a + x + -x = a by omega]; exact h0
  have e1 : wrap64 (wrap64 (b + y) + wrap64 (-y)) = b := by rw [W_addl, W_addr, show b + y + -y = b by omega]; exact h1
  simp only [mvW, e0, e1]

end Go.Proofs.Ytbmklpcheopgoaa.Out

namespace Go.Proofs.Ytbmklpcheopgoaa.Out
open Go Go.RowKit Go.Proofs.Ytbmklpcheopgoaa.H Go.Proofs.YtbmklpcheopgoaaIt Go.Proofs.YtbmklpcheopgoaaW.PrintWords

theorem contour_len (pts : List S33) (c : Int × Int) (h : c.2.toNat ≤ pts.length) : (contourOf pts c).length = c.2.toNat - c.1.toNat := by
  unfold contourOf
  rw [List.length_take, List.length_drop]; omega
theorem cut_mem (es : List Int) (n : Nat) (c : Int × Int) (h : c ∈ cutsL es n) : 0 ≤ c.1 ∧ c.1 < c.2 ∧ c.2 ≤ n := by
  obtain ⟨k, hk⟩ := List.mem_iff_getElem?.1 h
  exact cutsF_mem es n 0 k c hk
theorem cutsF_len : ∀ (es : List Int) (n b : Int), (cutsF b es n).length ≤ es.length
  | [], _, _ => by simp [cutsF]
  | e :: es, n, b => by
    unfold cutsF
    split
    · simp
    · have := cutsF_len es n (e + 1)
      simp only [List.length_cons]
      omega
end Go.Proofs.Ytbmklpcheopgoaa.Out

namespace Go.Proofs.Ytbmklpcheopgoaa.Out
open Go Go.RowKit Go.Proofs.Ytbmklpcheopgoaa.H Go.Proofs.YtbmklpcheopgoaaIt Go.Proofs.YtbmklpcheopgoaaOpen Go.Proofs.YtbmklpcheopgoaaW.PrintWords Go.Proofs.YtbmklpcheopgoaaW.PrintLast Go.Proofs.YtbmklpcheopgoaaW.PrintMore

/-! grid -/
def gP (x y : Int) (p : S33) : S52 := ⟨wrap64 (p.f0 + x), wrap64 (p.f1 + y)⟩
theorem grid_l0 (pts : List S33) (es : List Int) (x y : Int) (hn : pts.length ≤ 1000000) : ∀ (m k i : Nat) (a : List S52) (b : List Bool), pts.length = i + m → m < k → a.length = i → b.length = i → fleuronlaw03_grid.l0 k x y a b (i : Int) pts es = some (a ++ (pts.drop i).map (gP x y), b ++ (pts.drop i).map (·.f2)) := by
  intro m
  induction m with
  | zero =>
    intro k i a b h1 h2 h3 h4
    obtain ⟨k, rfl⟩ : ∃ j, k = j + 1 := ⟨k - 1, by omega⟩
    rw [fleuronlaw03_grid.l0, if_neg (by omega), List.drop_of_length_le (by omega)]
    simp
  | succ m ih =>
    intro k i a b h1 h2 h3 h4
    obtain ⟨k, rfl⟩ : ∃ j, k = j + 1 := ⟨k - 1, by omega⟩
    have hi : i < pts.length := by omega
    rw [fleuronlaw03_grid.l0, if_pos (by omega), if_pos (by omega), if_pos (by omega), if_pos (by omega), rdS_get pts i hi, W_in ((i : Int) + 1) (by omega) (by omega)]
    have := ih k (i + 1) (a ++ [gP x y pts[i]]) (b ++ [pts[i].f2]) (by omega) (by omega) (by simp; omega) (by simp; omega)
    rw [List.drop_eq_getElem_cons hi, List.map_cons, List.map_cons]
    rw [List.append_assoc, List.append_assoc] at this
    exact this
theorem grid_f (pts : List S33) (es : List Int) (x y : Int) (k : Nat) (hn : pts.length ≤ 1000000) (hk : pts.length < k) : fleuronlaw03_grid.f k pts es x y = some (pts.map (gP x y), pts.map (·.f2)) := by
  unfold fleuronlaw03_grid.f
  have := grid_l0 pts es x y hn pts.length k 0 [] [] (by omega) hk rfl rfl
  simpa using this

/-! cuts of an outline that may be -/
theorem ends_cuts : ∀ (es : List Int) (last n : Int), endsOk last es n = true → (cutsF (last + 1) es n).length = es.length
  | [], _, _, _ => rfl
  | e :: es, last, n, h => by
    unfold endsOk at h
    by_cases h1 : e < last + 2
    · rw [if_pos h1] at h; cases h
    · rw [if_neg h1] at h
      by_cases h2 : e ≥ n
      · rw [if_pos h2] at h; cases h
      · rw [if_neg h2] at h
        unfold cutsF
        rw [if_neg (by omega), List.length_cons, List.length_cons, ends_cuts es e n h]
theorem rightB_iff (pts : List S33) (es : List Int) (h : rightB pts es = true) : pts.length ≤ 200 ∧ es.length ≤ 40 ∧ (∀ p ∈ pts, ptOk p = true) ∧ endsOk (-1) es pts.length = true := by
  simpa [rightB, Bool.and_eq_true, List.all_eq_true, and_assoc] using h
theorem right_cuts (pts : List S33) (es : List Int) (h : rightB pts es = true) : (cutsL es pts.length).length = es.length := ends_cuts es (-1) pts.length (rightB_iff pts es h).2.2.2
theorem ptOk_le (p : S33) (h : ptOk p = true) : -16384 ≤ p.f0 ∧ p.f0 ≤ 16384 ∧ -16384 ≤ p.f1 ∧ p.f1 ≤ 16384 := by
  simp only [ptOk, Bool.and_eq_true, Bool.not_eq_true', decide_eq_false_iff_not] at h
  obtain ⟨h1, h2⟩ := h
  unfold mx at h1
  unfold mn at h2
  split at h1 <;> split at h2 <;> omega
theorem gP_small (p : S33) (x y : Int) (h : ptOk p = true) (hx : -1000000 ≤ x ∧ x ≤ 1000000) (hy : -1000000 ≤ y ∧ y ≤ 1000000) : gP x y p = ⟨p.f0 + x, p.f1 + y⟩ := by
  have := ptOk_le p h
  unfold gP
  rw [W_in _ (by omega) (by omega), W_in _ (by omega) (by omega)]

/-! lengths -/
theorem rowGo_len (l : List S101) : ∀ (f i : Nat) (out : List S52), (rowGo l f i out).length ≤ out.length + 8 * f
  | 0, i, out => by simp [rowGo]
  | f + 1, i, out => by
    unfold rowGo
    split
    · split
      · have := rowGo_len l f (i + 1) (out ++ [(rd_T101 l ((i + 1) % l.length : Nat)).f0])
        simp at this ⊢
        omega
      · have := rowGo_len l f (i + 2) (out ++ curveK l i 8)
        rw [List.length_append, curveK_len] at this
        omega
    · omega
theorem rowL_len (l : List S101) : (rowL l).length ≤ 8 * l.length + 1 := by
  unfold rowL rowAll
  have := rowGo_len l l.length 0 [(rd_T101 l (0 : Nat)).f0]
  simp at this ⊢
  omega
theorem contourLines_len (pts : List S52) (on : List Bool) (s t : Nat) : (contourLines pts on s t).length ≤ 16 * (t - s) + 1 := by
  unfold contourLines
  have h1 := rowL_len (ringFin (ringSt ((pts.drop s).take (t - s)) ((on.drop s).take (t - s)) (t - s)))
  rw [ringFin_len] at h1
  have h2 := ringSt_len ((pts.drop s).take (t - s)) ((on.drop s).take (t - s)) (t - s)
  omega

/-! Lines, told, SamePts -/
def linesA (pts : List S52) (on : List Bool) (es : List Int) : List (List S52) := (cutsL es pts.length).map fun c => contourLines pts on c.1.toNat c.2.toNat
theorem lines_f (pts : List S52) (on : List Bool) (es : List Int) (hn : pts.length ≤ 1000000) (he : es.length ≤ 1000000) (ho : on.length = pts.length) : outline_Lines.f pts on es = some (linesA pts on es) := by
  unfold outline_Lines.f
  rw [if_pos ho, if_pos ⟨hn, he⟩]
  unfold linesK linesA
  rw [List.take_length]
theorem linesA_len (pts : List S52) (on : List Bool) (es : List Int) : (linesA pts on es).length = (cutsL es pts.length).length := by simp [linesA]
theorem rdP_get (l : List S52) (i : Nat) (h : i < l.length) : rd_T52 l (i : Int) = l[i] := by simp [rd_T52, h]
theorem samePts_l0 (a : List S52) (hn : a.length ≤ 1000000) : ∀ (m k i : Nat), a.length = i + m → m < k → fleuronref03_SamePts.l0 k a a (i : Int) = some true := by
  intro m
  induction m with
  | zero =>
    intro k i h1 h2
    obtain ⟨k, rfl⟩ : ∃ j, k = j + 1 := ⟨k - 1, by omega⟩
    rw [fleuronref03_SamePts.l0, if_neg (by omega)]
  | succ m ih =>
    intro k i h1 h2
    obtain ⟨k, rfl⟩ : ∃ j, k = j + 1 := ⟨k - 1, by omega⟩
    rw [fleuronref03_SamePts.l0, if_pos (by omega), if_pos (by omega), if_pos (by omega), W_in ((i : Int) + 1) (by omega) (by omega)]
    simp only [BEq.rfl, Bool.not_true, Bool.or_self, Bool.false_eq_true, if_false]
    exact ih k (i + 1) (by omega) (by omega)
theorem samePts_f (a : List S52) (k : Nat) (hn : a.length ≤ 1000000) (hk : a.length < k) : fleuronref03_SamePts.f k a a = some true := by
  unfold fleuronref03_SamePts.f
  rw [if_pos rfl]
  exact samePts_l0 a hn a.length k 0 (by omega) hk
end Go.Proofs.Ytbmklpcheopgoaa.Out

namespace Go.Proofs.Ytbmklpcheopgoaa.Out
open Go Go.RowKit Go.Proofs.Ytbmklpcheopgoaa.H Go.Proofs.YtbmklpcheopgoaaIt Go.Proofs.YtbmklpcheopgoaaOpen Go.Proofs.YtbmklpcheopgoaaW.PrintWords Go.Proofs.YtbmklpcheopgoaaW.PrintLast Go.Proofs.YtbmklpcheopgoaaW.PrintMore

def shP (x y : Int) (p : S52) : S52 := ⟨p.f0 + x, p.f1 + y⟩
def shT (x y : Int) (t : S101) : S101 := ⟨shP x y t.f0, t.f1⟩
def inB (a b c d : Int) (p : S52) : Prop := a ≤ p.f0 ∧ p.f0 ≤ b ∧ c ≤ p.f1 ∧ p.f1 ≤ d
def big (a b : Int) : Prop := -16384 ≤ a ∧ b ≤ 16384
theorem rdP_map (f : S52 → S52) (l : List S52) (i : Nat) (h : i < l.length) : rd_T52 (l.map f) (i : Int) = f (rd_T52 l i) := by simp [rd_T52, h]
theorem rdT_map (f : S101 → S101) (l : List S101) (i : Nat) (h : i < l.length) : rd_T101 (l.map f) (i : Int) = f (rd_T101 l i) := by simp [rd_T101, h]
theorem rdP_mem (l : List S52) (i : Nat) (h : i < l.length) : rd_T52 l (i : Int) ∈ l := by rw [rdP_get l i h]; exact List.getElem_mem h
theorem rdT_mem (l : List S101) (i : Nat) (h : i < l.length) : rd_T101 l (i : Int) ∈ l := by simp [rd_T101, h]

/-! the ring -/
theorem mid_sh (p q x : Int) (hp : -16384 ≤ p ∧ p ≤ 16384) (hq : -16384 ≤ q ∧ q ≤ 16384) (hx : -1000000 ≤ x ∧ x ≤ 1000000) : wrap64 (p + x + (q + x)) / 2 = wrap64 (p + q) / 2 + x := by
  rw [W_in _ (by omega) (by omega), W_in _ (by omega) (by omega)]; omega
section
variable {x y : Int} (hx : -1000000 ≤ x ∧ x ≤ 1000000) (hy : -1000000 ≤ y ∧ y ≤ 1000000)
include hx hy
theorem ringStep_sh (pts : List S52) (on : List Bool) (hp : ∀ p ∈ pts, inB (-16384) 16384 (-16384) 16384 p) (st : List S101 × Int) (i : Nat) (hi : i < pts.length) :
    ringStep (pts.map (shP x y)) on (st.1.map (shT x y), st.2) i = ((ringStep pts on st i).1.map (shT x y), (ringStep pts on st i).2) := by
  have hb : (i + (pts.length - 1)) % pts.length < pts.length := Nat.mod_lt _ (by omega)
  have h1 := hp _ (rdP_mem pts i hi)
  have h2 := hp _ (rdP_mem pts _ hb)
  unfold ringStep
  dsimp only
  rw [List.length_map, rdP_map _ _ _ hi, rdP_map _ _ _ hb]
  generalize rd_T52 pts ((i + (pts.length - 1)) % pts.length : Nat) = q at *
  generalize rd_T52 pts (i : Nat) = p at *
  have e1 := mid_sh p.f0 q.f0 x ⟨h1.1, h1.2.1⟩ ⟨h2.1, h2.2.1⟩ hx
  have e2 := mid_sh p.f1 q.f1 y ⟨h1.2.2.1, h1.2.2.2⟩ ⟨h2.2.2.1, h2.2.2.2⟩ hy
  by_cases hc : rdOf false on (i : Nat) = false ∧ rdOf false on ((i + (pts.length - 1)) % pts.length : Nat) = false
  · rw [if_pos hc, if_pos hc]
    simp [shT, shP, e1, e2]
  · rw [if_neg hc, if_neg hc]
    simp [shT]
theorem ring_sh (pts : List S52) (on : List Bool) (hp : ∀ p ∈ pts, inB (-16384) 16384 (-16384) 16384 p) : ∀ k, k ≤ pts.length → ringSt (pts.map (shP x y)) on k = ((ringSt pts on k).1.map (shT x y), (ringSt pts on k).2)
  | 0, _ => rfl
  | k + 1, h => by rw [ringSt_succ, ringSt_succ, ring_sh pts on hp k (by omega), ringStep_sh hx hy pts on hp _ k (by omega)]
end
theorem ringFin_map (f : S101 → S101) (l : List S101) (s : Int) : ringFin (l.map f, s) = (ringFin (l, s)).map f := by simp [ringFin]
theorem ring_in {a b c d : Int} (ha : big a b) (hc : big c d) (pts : List S52) (on : List Bool) (hp : ∀ p ∈ pts, inB a b c d p) : ∀ k, k ≤ pts.length → ∀ t ∈ (ringSt pts on k).1, inB a b c d t.f0
  | 0, _, t, h => by simp [ringSt] at h
  | k + 1, hk, t, h => by
    have hb : (k + (pts.length - 1)) % pts.length < pts.length := Nat.mod_lt _ (by omega)
    have h1 := hp _ (rdP_mem pts k (by omega))
    have h2 := hp _ (rdP_mem pts _ hb)
    have ih := ring_in ha hc pts on hp k (by omega)
    rw [ringSt_succ] at h
    unfold ringStep at h
    dsimp only at h
    generalize rd_T52 pts ((k + (pts.length - 1)) % pts.length : Nat) = q at *
    generalize rd_T52 pts (k : Nat) = p at *
    obtain ⟨a1, a2, a3, a4⟩ := h1
    obtain ⟨b1, b2, b3, b4⟩ := h2
    obtain ⟨ha1, ha2⟩ := ha
    obtain ⟨hc1, hc2⟩ := hc
    have hm : inB a b c d ⟨wrap64 (p.f0 + q.f0) / 2, wrap64 (p.f1 + q.f1) / 2⟩ := by
      unfold inB
      rw [W_in _ (by omega) (by omega), W_in _ (by omega) (by omega)]
      dsimp only
      omega
    split at h
    · simp only [List.mem_append, List.mem_singleton] at h
      rcases h with (h | rfl) | rfl
      · exact ih t h
      · exact hm
      · exact ⟨a1, a2, a3, a4⟩
    · simp only [List.mem_append, List.mem_singleton] at h
      rcases h with h | rfl
      · exact ih t h
      · exact ⟨a1, a2, a3, a4⟩
theorem ringFin_mem (st : List S101 × Int) (t : S101) (h : t ∈ ringFin st) : t ∈ st.1 := by
  unfold ringFin at h
  rcases List.mem_append.1 h with h | h
  · exact List.mem_of_mem_drop h
  · exact List.mem_of_mem_take h
theorem ringSt_pos (pts : List S52) (on : List Bool) (k : Nat) (h : 0 < k) : 0 < (ringFin (ringSt pts on k)).length := by rw [ringFin_len]; have := ringSt_ge pts on k; omega

/-! the curve -/
theorem at_1 (a c b : Int) (ha : -4000000 ≤ a ∧ a ≤ 4000000) (hc : -4000000 ≤ c ∧ c ≤ 4000000) (hb : -4000000 ≤ b ∧ b ≤ 4000000) : atV ((1 : Nat) : Int) a c b = (49 * a + 14 * c + 1 * b + 32) / 64 := by
  simp only [atV, outline_at.f, Option.getD_some]
  rw [show wrap64 (8 - ((1 : Nat) : Int)) = 7 by unfold wrap64; omega, show wrap64 ((7 : Int) * 7) = 49 by unfold wrap64; omega, show wrap64 (2 * ((1 : Nat) : Int)) = 2 by unfold wrap64; omega, show wrap64 ((2 : Int) * 7) = 14 by unfold wrap64; omega, show wrap64 (((1 : Nat) : Int) * ((1 : Nat) : Int)) = 1 by unfold wrap64; omega]
  rw [W_in (49 * a) (by omega) (by omega), W_in (14 * c) (by omega) (by omega), W_in (1 * b) (by omega) (by omega), W_in (49 * a + 14 * c) (by omega) (by omega), W_in (49 * a + 14 * c + 1 * b) (by omega) (by omega), W_in (49 * a + 14 * c + 1 * b + 32) (by omega) (by omega)]
theorem at_2 (a c b : Int) (ha : -4000000 ≤ a ∧ a ≤ 4000000) (hc : -4000000 ≤ c ∧ c ≤ 4000000) (hb : -4000000 ≤ b ∧ b ≤ 4000000) : atV ((2 : Nat) : Int) a c b = (36 * a + 24 * c + 4 * b + 32) / 64 := by
  simp only [atV, outline_at.f, Option.getD_some]
  rw [show wrap64 (8 - ((2 : Nat) : Int)) = 6 by unfold wrap64; omega, show wrap64 ((6 : Int) * 6) = 36 by unfold wrap64; omega, show wrap64 (2 * ((2 : Nat) : Int)) = 4 by unfold wrap64; omega, show wrap64 ((4 : Int) * 6) = 24 by unfold wrap64; omega, show wrap64 (((2 : Nat) : Int) * ((2 : Nat) : Int)) = 4 by unfold wrap64; omega]
  rw [W_in (36 * a) (by omega) (by omega), W_in (24 * c) (by omega) (by omega), W_in (4 * b) (by omega) (by omega), W_in (36 * a + 24 * c) (by omega) (by omega), W_in (36 * a + 24 * c + 4 * b) (by omega) (by omega), W_in (36 * a + 24 * c + 4 * b + 32) (by omega) (by omega)]
theorem at_3 (a c b : Int) (ha : -4000000 ≤ a ∧ a ≤ 4000000) (hc : -4000000 ≤ c ∧ c ≤ 4000000) (hb : -4000000 ≤ b ∧ b ≤ 4000000) : atV ((3 : Nat) : Int) a c b = (25 * a + 30 * c + 9 * b + 32) / 64 := by
  simp only [atV, outline_at.f, Option.getD_some]
  rw [show wrap64 (8 - ((3 : Nat) : Int)) = 5 by unfold wrap64; omega, show wrap64 ((5 : Int) * 5) = 25 by unfold wrap64; omega, show wrap64 (2 * ((3 : Nat) : Int)) = 6 by unfold wrap64; omega, show wrap64 ((6 : Int) * 5) = 30 by unfold wrap64; omega, show wrap64 (((3 : Nat) : Int) * ((3 : Nat) : Int)) = 9 by unfold wrap64; omega]
  rw [W_in (25 * a) (by omega) (by omega), W_in (30 * c) (by omega) (by omega), W_in (9 * b) (by omega) (by omega), W_in (25 * a + 30 * c) (by omega) (by omega), W_in (25 * a + 30 * c + 9 * b) (by omega) (by omega), W_in (25 * a + 30 * c + 9 * b + 32) (by omega) (by omega)]
theorem at_4 (a c b : Int) (ha : -4000000 ≤ a ∧ a ≤ 4000000) (hc : -4000000 ≤ c ∧ c ≤ 4000000) (hb : -4000000 ≤ b ∧ b ≤ 4000000) : atV ((4 : Nat) : Int) a c b = (16 * a + 32 * c + 16 * b + 32) / 64 := by
  simp only [atV, outline_at.f, Option.getD_some]
  rw [show wrap64 (8 - ((4 : Nat) : Int)) = 4 by unfold wrap64; omega, show wrap64 ((4 : Int) * 4) = 16 by unfold wrap64; omega, show wrap64 (2 * ((4 : Nat) : Int)) = 8 by unfold wrap64; omega, show wrap64 ((8 : Int) * 4) = 32 by unfold wrap64; omega, show wrap64 (((4 : Nat) : Int) * ((4 : Nat) : Int)) = 16 by unfold wrap64; omega]
  rw [W_in (16 * a) (by omega) (by omega), W_in (32 * c) (by omega) (by omega), W_in (16 * b) (by omega) (by omega), W_in (16 * a + 32 * c) (by omega) (by omega), W_in (16 * a + 32 * c + 16 * b) (by omega) (by omega), W_in (16 * a + 32 * c + 16 * b + 32) (by omega) (by omega)]
theorem at_5 (a c b : Int) (ha : -4000000 ≤ a ∧ a ≤ 4000000) (hc : -4000000 ≤ c ∧ c ≤ 4000000) (hb : -4000000 ≤ b ∧ b ≤ 4000000) : atV ((5 : Nat) : Int) a c b = (9 * a + 30 * c + 25 * b + 32) / 64 := by
  simp only [atV, outline_at.f, Option.getD_some]
  rw [show wrap64 (8 - ((5 : Nat) : Int)) = 3 by unfold wrap64; omega, show wrap64 ((3 : Int) * 3) = 9 by unfold wrap64; omega, show wrap64 (2 * ((5 : Nat) : Int)) = 10 by unfold wrap64; omega, show wrap64 ((10 : Int) * 3) = 30 by unfold wrap64; omega, show wrap64 (((5 : Nat) : Int) * ((5 : Nat) : Int)) = 25 by unfold wrap64; omega]
  rw [W_in (9 * a) (by omega) (by omega), W_in (30 * c) (by omega) (by omega), W_in (25 * b) (by omega) (by omega), W_in (9 * a + 30 * c) (by omega) (by omega), W_in (9 * a + 30 * c + 25 * b) (by omega) (by omega), W_in (9 * a + 30 * c + 25 * b + 32) (by omega) (by omega)]
theorem at_6 (a c b : Int) (ha : -4000000 ≤ a ∧ a ≤ 4000000) (hc : -4000000 ≤ c ∧ c ≤ 4000000) (hb : -4000000 ≤ b ∧ b ≤ 4000000) : atV ((6 : Nat) : Int) a c b = (4 * a + 24 * c + 36 * b + 32) / 64 := by
  simp only [atV, outline_at.f, Option.getD_some]
  rw [show wrap64 (8 - ((6 : Nat) : Int)) = 2 by unfold wrap64; omega, show wrap64 ((2 : Int) * 2) = 4 by unfold wrap64; omega, show wrap64 (2 * ((6 : Nat) : Int)) = 12 by unfold wrap64; omega, show wrap64 ((12 : Int) * 2) = 24 by unfold wrap64; omega, show wrap64 (((6 : Nat) : Int) * ((6 : Nat) : Int)) = 36 by unfold wrap64; omega]
  rw [W_in (4 * a) (by omega) (by omega), W_in (24 * c) (by omega) (by omega), W_in (36 * b) (by omega) (by omega), W_in (4 * a + 24 * c) (by omega) (by omega), W_in (4 * a + 24 * c + 36 * b) (by omega) (by omega), W_in (4 * a + 24 * c + 36 * b + 32) (by omega) (by omega)]
theorem at_7 (a c b : Int) (ha : -4000000 ≤ a ∧ a ≤ 4000000) (hc : -4000000 ≤ c ∧ c ≤ 4000000) (hb : -4000000 ≤ b ∧ b ≤ 4000000) : atV ((7 : Nat) : Int) a c b = (1 * a + 14 * c + 49 * b + 32) / 64 := by
  simp only [atV, outline_at.f, Option.getD_some]
  rw [show wrap64 (8 - ((7 : Nat) : Int)) = 1 by unfold wrap64; omega, show wrap64 ((1 : Int) * 1) = 1 by unfold wrap64; omega, show wrap64 (2 * ((7 : Nat) : Int)) = 14 by unfold wrap64; omega, show wrap64 ((14 : Int) * 1) = 14 by unfold wrap64; omega, show wrap64 (((7 : Nat) : Int) * ((7 : Nat) : Int)) = 49 by unfold wrap64; omega]
  rw [W_in (1 * a) (by omega) (by omega), W_in (14 * c) (by omega) (by omega), W_in (49 * b) (by omega) (by omega), W_in (1 * a + 14 * c) (by omega) (by omega), W_in (1 * a + 14 * c + 49 * b) (by omega) (by omega), W_in (1 * a + 14 * c + 49 * b + 32) (by omega) (by omega)]
theorem at_8 (a c b : Int) (ha : -4000000 ≤ a ∧ a ≤ 4000000) (hc : -4000000 ≤ c ∧ c ≤ 4000000) (hb : -4000000 ≤ b ∧ b ≤ 4000000) : atV ((8 : Nat) : Int) a c b = (0 * a + 0 * c + 64 * b + 32) / 64 := by
  simp only [atV, outline_at.f, Option.getD_some]
  rw [show wrap64 (8 - ((8 : Nat) : Int)) = 0 by unfold wrap64; omega, show wrap64 ((0 : Int) * 0) = 0 by unfold wrap64; omega, show wrap64 (2 * ((8 : Nat) : Int)) = 16 by unfold wrap64; omega, show wrap64 ((16 : Int) * 0) = 0 by unfold wrap64; omega, show wrap64 (((8 : Nat) : Int) * ((8 : Nat) : Int)) = 64 by unfold wrap64; omega]
  rw [W_in (0 * a) (by omega) (by omega), W_in (0 * c) (by omega) (by omega), W_in (64 * b) (by omega) (by omega), W_in (0 * a + 0 * c) (by omega) (by omega), W_in (0 * a + 0 * c + 64 * b) (by omega) (by omega), W_in (0 * a + 0 * c + 64 * b + 32) (by omega) (by omega)]
theorem at_sh (j : Nat) (h1 : 1 ≤ j) (h8 : j ≤ 8) (a c b x : Int) (ha : -16384 ≤ a ∧ a ≤ 16384) (hc : -16384 ≤ c ∧ c ≤ 16384) (hb : -16384 ≤ b ∧ b ≤ 16384) (hx : -1000000 ≤ x ∧ x ≤ 1000000) : atV (j : Int) (a + x) (c + x) (b + x) = atV (j : Int) a c b + x := by
  rcases (show j = 1 ∨ j = 2 ∨ j = 3 ∨ j = 4 ∨ j = 5 ∨ j = 6 ∨ j = 7 ∨ j = 8 by omega) with rfl | rfl | rfl | rfl | rfl | rfl | rfl | rfl
  · rw [at_1 _ _ _ (by omega) (by omega) (by omega), at_1 _ _ _ (by omega) (by omega) (by omega)]; omega
  · rw [at_2 _ _ _ (by omega) (by omega) (by omega), at_2 _ _ _ (by omega) (by omega) (by omega)]; omega
  · rw [at_3 _ _ _ (by omega) (by omega) (by omega), at_3 _ _ _ (by omega) (by omega) (by omega)]; omega
  · rw [at_4 _ _ _ (by omega) (by omega) (by omega), at_4 _ _ _ (by omega) (by omega) (by omega)]; omega
  · rw [at_5 _ _ _ (by omega) (by omega) (by omega), at_5 _ _ _ (by omega) (by omega) (by omega)]; omega
  · rw [at_6 _ _ _ (by omega) (by omega) (by omega), at_6 _ _ _ (by omega) (by omega) (by omega)]; omega
  · rw [at_7 _ _ _ (by omega) (by omega) (by omega), at_7 _ _ _ (by omega) (by omega) (by omega)]; omega
  · rw [at_8 _ _ _ (by omega) (by omega) (by omega), at_8 _ _ _ (by omega) (by omega) (by omega)]; omega
theorem at_in (j : Nat) (h1 : 1 ≤ j) (h8 : j ≤ 8) (a c b l h : Int) (hl : big l h) (ha : l ≤ a ∧ a ≤ h) (hc : l ≤ c ∧ c ≤ h) (hb : l ≤ b ∧ b ≤ h) : l ≤ atV (j : Int) a c b ∧ atV (j : Int) a c b ≤ h := by
  obtain ⟨l1, l2⟩ := hl
  rcases (show j = 1 ∨ j = 2 ∨ j = 3 ∨ j = 4 ∨ j = 5 ∨ j = 6 ∨ j = 7 ∨ j = 8 by omega) with rfl | rfl | rfl | rfl | rfl | rfl | rfl | rfl
  · rw [at_1 _ _ _ (by omega) (by omega) (by omega)]; omega
  · rw [at_2 _ _ _ (by omega) (by omega) (by omega)]; omega
  · rw [at_3 _ _ _ (by omega) (by omega) (by omega)]; omega
  · rw [at_4 _ _ _ (by omega) (by omega) (by omega)]; omega
  · rw [at_5 _ _ _ (by omega) (by omega) (by omega)]; omega
  · rw [at_6 _ _ _ (by omega) (by omega) (by omega)]; omega
  · rw [at_7 _ _ _ (by omega) (by omega) (by omega)]; omega
  · rw [at_8 _ _ _ (by omega) (by omega) (by omega)]; omega

/-! the row -/
theorem curveAt_sh {x y : Int} (hx : -1000000 ≤ x ∧ x ≤ 1000000) (hy : -1000000 ≤ y ∧ y ≤ 1000000) (l : List S101) (hl : ∀ t ∈ l, inB (-16384) 16384 (-16384) 16384 t.f0) (i j : Nat) (hi : i < l.length) (h1 : 1 ≤ j) (h8 : j ≤ 8) : curveAt (l.map (shT x y)) i j = shP x y (curveAt l i j) := by
  have m1 : (i + 1) % l.length < l.length := Nat.mod_lt _ (by omega)
  have m2 : (i + 2) % l.length < l.length := Nat.mod_lt _ (by omega)
  unfold curveAt
  dsimp only
  rw [List.length_map, rdT_map _ _ _ hi, rdT_map _ _ _ m1, rdT_map _ _ _ m2]
  have a0 := hl _ (rdT_mem l i hi)
  have a1 := hl _ (rdT_mem l _ m1)
  have a2 := hl _ (rdT_mem l _ m2)
  simp only [shT, shP]
  rw [at_sh j h1 h8 _ _ _ x ⟨a0.1, a0.2.1⟩ ⟨a1.1, a1.2.1⟩ ⟨a2.1, a2.2.1⟩ hx, at_sh j h1 h8 _ _ _ y ⟨a0.2.2.1, a0.2.2.2⟩ ⟨a1.2.2.1, a1.2.2.2⟩ ⟨a2.2.2.1, a2.2.2.2⟩ hy]
theorem curveAt_in {a b c d : Int} (ha : big a b) (hc : big c d) (l : List S101) (hl : ∀ t ∈ l, inB a b c d t.f0) (i j : Nat) (hi : i < l.length) (h1 : 1 ≤ j) (h8 : j ≤ 8) : inB a b c d (curveAt l i j) := by
  have m1 : (i + 1) % l.length < l.length := Nat.mod_lt _ (by omega)
  have m2 : (i + 2) % l.length < l.length := Nat.mod_lt _ (by omega)
  have a0 := hl _ (rdT_mem l i hi)
  have a1 := hl _ (rdT_mem l _ m1)
  have a2 := hl _ (rdT_mem l _ m2)
  have e1 := at_in j h1 h8 _ _ _ a b ha ⟨a0.1, a0.2.1⟩ ⟨a1.1, a1.2.1⟩ ⟨a2.1, a2.2.1⟩
  have e2 := at_in j h1 h8 _ _ _ c d hc ⟨a0.2.2.1, a0.2.2.2⟩ ⟨a1.2.2.1, a1.2.2.2⟩ ⟨a2.2.2.1, a2.2.2.2⟩
  exact ⟨e1.1, e1.2, e2.1, e2.2⟩
theorem curveK_sh {x y : Int} (hx : -1000000 ≤ x ∧ x ≤ 1000000) (hy : -1000000 ≤ y ∧ y ≤ 1000000) (l : List S101) (hl : ∀ t ∈ l, inB (-16384) 16384 (-16384) 16384 t.f0) (i : Nat) (hi : i < l.length) : curveK (l.map (shT x y)) i 8 = (curveK l i 8).map (shP x y) := by
  unfold curveK
  rw [List.map_map]
  refine List.map_congr_left fun j hj => ?_
  have hj := List.mem_range.1 hj
  exact curveAt_sh hx hy l hl i (1 + j) hi (by omega) (by omega)
theorem rowGo_sh {x y : Int} (hx : -1000000 ≤ x ∧ x ≤ 1000000) (hy : -1000000 ≤ y ∧ y ≤ 1000000) (l : List S101) (hl : ∀ t ∈ l, inB (-16384) 16384 (-16384) 16384 t.f0) : ∀ (f i : Nat) (out : List S52), rowGo (l.map (shT x y)) f i (out.map (shP x y)) = (rowGo l f i out).map (shP x y)
  | 0, _, _ => rfl
  | f + 1, i, out => by
    unfold rowGo
    rw [List.length_map]
    by_cases hi : i < l.length
    · have m1 : (i + 1) % l.length < l.length := Nat.mod_lt _ (by omega)
      rw [if_pos hi, if_pos hi, rdT_map _ _ _ m1]
      by_cases hc : (rd_T101 l ((i + 1) % l.length : Nat)).f1 = true
      · rw [if_pos hc, if_pos (show (shT x y (rd_T101 l ((i + 1) % l.length : Nat))).f1 = true from hc), ← rowGo_sh hx hy l hl f (i + 1)]
        simp [shT]
      · rw [if_neg hc, if_neg (show ¬ (shT x y (rd_T101 l ((i + 1) % l.length : Nat))).f1 = true from hc), ← rowGo_sh hx hy l hl f (i + 2), curveK_sh hx hy l hl i hi, List.map_append]
    · rw [if_neg hi, if_neg hi]
theorem rowL_sh {x y : Int} (hx : -1000000 ≤ x ∧ x ≤ 1000000) (hy : -1000000 ≤ y ∧ y ≤ 1000000) (l : List S101) (hl : ∀ t ∈ l, inB (-16384) 16384 (-16384) 16384 t.f0) (h0 : 0 < l.length) : rowL (l.map (shT x y)) = (rowL l).map (shP x y) := by
  have e : rowAll (l.map (shT x y)) = (rowAll l).map (shP x y) := by
    unfold rowAll
    rw [rdT_map _ _ 0 h0, List.length_map]
    exact rowGo_sh hx hy l hl l.length 0 [(rd_T101 l (0 : Nat)).f0]
  unfold rowL
  rw [e, List.length_map, List.map_take]
theorem rowGo_in {a b c d : Int} (ha : big a b) (hc : big c d) (l : List S101) (hl : ∀ t ∈ l, inB a b c d t.f0) : ∀ (f i : Nat) (out : List S52), (∀ p ∈ out, inB a b c d p) → ∀ p ∈ rowGo l f i out, inB a b c d p
  | 0, _, _, ho, p, h => ho p h
  | f + 1, i, out, ho, p, h => by
    unfold rowGo at h
    by_cases hi : i < l.length
    · have m1 : (i + 1) % l.length < l.length := Nat.mod_lt _ (by omega)
      rw [if_pos hi] at h
      split at h
      · refine rowGo_in ha hc l hl f (i + 1) _ (fun q hq => ?_) p h
        rcases List.mem_append.1 hq with hq | hq
        · exact ho q hq
        · rw [List.mem_singleton.1 hq]; exact hl _ (rdT_mem l _ m1)
      · refine rowGo_in ha hc l hl f (i + 2) _ (fun q hq => ?_) p h
        rcases List.mem_append.1 hq with hq | hq
        · exact ho q hq
        · unfold curveK at hq
          obtain ⟨j, hj, rfl⟩ := List.mem_map.1 hq
          have hj := List.mem_range.1 hj
          exact curveAt_in ha hc l hl i (1 + j) hi (by omega) (by omega)
    · rw [if_neg hi] at h; exact ho p h
theorem rowL_in {a b c d : Int} (ha : big a b) (hc : big c d) (l : List S101) (hl : ∀ t ∈ l, inB a b c d t.f0) (h0 : 0 < l.length) (p : S52) (h : p ∈ rowL l) : inB a b c d p := by
  unfold rowL rowAll at h
  refine rowGo_in ha hc l hl l.length 0 _ (fun q hq => ?_) p (List.mem_of_mem_take h)
  rw [List.mem_singleton.1 hq]
  exact hl _ (rdT_mem l 0 h0)

/-! the lines -/
theorem contourLines_sh {x y : Int} (hx : -1000000 ≤ x ∧ x ≤ 1000000) (hy : -1000000 ≤ y ∧ y ≤ 1000000) (pts : List S52) (on : List Bool) (hp : ∀ p ∈ pts, inB (-16384) 16384 (-16384) 16384 p) (s t : Nat) (hst : s < t) (ht : t ≤ pts.length) : contourLines (pts.map (shP x y)) on s t = (contourLines pts on s t).map (shP x y) := by
  unfold contourLines
  have hp' : ∀ p ∈ (pts.drop s).take (t - s), inB (-16384) 16384 (-16384) 16384 p := fun p h => hp p (List.mem_of_mem_drop (List.mem_of_mem_take h))
  have hl : t - s ≤ ((pts.drop s).take (t - s)).length := by simp; omega
  rw [← List.map_drop, ← List.map_take, ring_sh hx hy _ _ hp' _ hl, ringFin_map]
  refine rowL_sh hx hy _ (fun q hq => ring_in ⟨by omega, by omega⟩ ⟨by omega, by omega⟩ _ _ hp' _ hl q (ringFin_mem _ _ hq)) (ringSt_pos _ _ _ (by omega))
theorem contourLines_in {a b c d : Int} (ha : big a b) (hc : big c d) (pts : List S52) (on : List Bool) (s t : Nat) (hst : s < t) (ht : t ≤ pts.length) (hp : ∀ p ∈ (pts.drop s).take (t - s), inB a b c d p) (p : S52) (h : p ∈ contourLines pts on s t) : inB a b c d p := by
  unfold contourLines at h
  have hl : t - s ≤ ((pts.drop s).take (t - s)).length := by simp; omega
  exact rowL_in ha hc _ (fun q hq => ring_in ha hc _ _ hp _ hl q (ringFin_mem _ _ hq)) (ringSt_pos _ _ _ (by omega)) p h
theorem linesA_sh {x y : Int} (hx : -1000000 ≤ x ∧ x ≤ 1000000) (hy : -1000000 ≤ y ∧ y ≤ 1000000) (pts : List S52) (on : List Bool) (es : List Int) (hp : ∀ p ∈ pts, inB (-16384) 16384 (-16384) 16384 p) : linesA (pts.map (shP x y)) on es = (linesA pts on es).map (·.map (shP x y)) := by
  unfold linesA
  rw [List.length_map, List.map_map]
  refine List.map_congr_left fun c hc => ?_
  obtain ⟨m1, m2, m3⟩ := cut_mem es pts.length c hc
  exact contourLines_sh hx hy pts on hp _ _ (by omega) (by omega)
theorem linesA_in (pts : List S52) (on : List Bool) (es : List Int) (hp : ∀ p ∈ pts, inB (-16384) 16384 (-16384) 16384 p) (l : List S52) (hl : l ∈ linesA pts on es) (p : S52) (h : p ∈ l) : inB (-16384) 16384 (-16384) 16384 p := by
  unfold linesA at hl
  obtain ⟨c, hc, rfl⟩ := List.mem_map.1 hl
  obtain ⟨m1, m2, m3⟩ := cut_mem es pts.length c hc
  exact contourLines_in ⟨by omega, by omega⟩ ⟨by omega, by omega⟩ pts on _ _ (by omega) (by omega) (fun q hq => hp q (List.mem_of_mem_drop (List.mem_of_mem_take hq))) p h
theorem linesA_le (pts : List S52) (on : List Bool) (es : List Int) (hn : pts.length ≤ 200) (l : List S52) (hl : l ∈ linesA pts on es) : l.length ≤ 4000 := by
  unfold linesA at hl
  obtain ⟨c, hc, rfl⟩ := List.mem_map.1 hl
  obtain ⟨m1, m2, m3⟩ := cut_mem es pts.length c hc
  have := contourLines_len pts on c.1.toNat c.2.toNat
  omega
theorem rdL_get (L : List (List S52)) (i : Nat) (h : i < L.length) : rd_L11 L (i : Int) = L[i] := by simp [rd_L11, h]
end Go.Proofs.Ytbmklpcheopgoaa.Out

namespace Go.Proofs.Ytbmklpcheopgoaa.Out
open Go Go.RowKit Go.Proofs.Ytbmklpcheopgoaa.H Go.Proofs.YtbmklpcheopgoaaIt Go.Proofs.YtbmklpcheopgoaaOpen Go.Proofs.YtbmklpcheopgoaaW.PrintWords Go.Proofs.YtbmklpcheopgoaaW.PrintLast Go.Proofs.YtbmklpcheopgoaaW.PrintMore

/-! lines for two points that follow one another, round about -/
def cost (a b : Bool) : Nat := if a = false then 8 else if b = true then 1 else 0
def costR (f : Bool) : List Bool → Nat
  | [] => 0
  | [a] => cost a f
  | a :: b :: r => cost a b + costR f (b :: r)
def noOff (f : Bool) : List Bool → Prop
  | [] => True
  | [a] => a = true ∨ f = true
  | a :: b :: r => (a = true ∨ b = true) ∧ noOff f (b :: r)
theorem costR_cut (f y : Bool) (ys : List Bool) : ∀ xs : List Bool, costR f (xs ++ y :: ys) = costR y xs + costR f (y :: ys)
  | [] => by simp [costR]
  | [a] => rfl
  | a :: b :: r => by
    show cost a b + costR f ((b :: r) ++ y :: ys) = cost a b + costR y (b :: r) + costR f (y :: ys)
    rw [costR_cut f y ys (b :: r)]; omega
theorem noOff_cut (f y : Bool) (ys : List Bool) : ∀ xs : List Bool, noOff f (xs ++ y :: ys) ↔ noOff y xs ∧ noOff f (y :: ys)
  | [] => by simp [noOff]
  | [a] => by show (_ ∧ _) ↔ _; simp [noOff]
  | a :: b :: r => by
    show ((a = true ∨ b = true) ∧ noOff f ((b :: r) ++ y :: ys)) ↔ ((a = true ∨ b = true) ∧ noOff y (b :: r)) ∧ noOff f (y :: ys)
    rw [noOff_cut f y ys (b :: r), and_assoc]
/-- The flags of a ring, as it is made: a point between two that are off. -/
def ringFl : Bool → List Bool → List Bool
  | _, [] => []
  | p, b :: r => (if b = false ∧ p = false then [true, b] else [b]) ++ ringFl b r
def headF (p b : Bool) : Bool := if b = false ∧ p = false then true else b
theorem ringFl_head (p b : Bool) (r : List Bool) : ∃ t, ringFl p (b :: r) = headF p b :: t := by
  unfold ringFl headF
  by_cases h : b = false ∧ p = false
  · rw [if_pos h, if_pos h]; exact ⟨_, rfl⟩
  · rw [if_neg h, if_neg h]; exact ⟨_, rfl⟩
theorem cost_head (p b : Bool) : cost p (headF p b) = cost p b := by cases p <;> cases b <;> rfl
def lastF : Bool → List Bool → Bool
  | p, [] => p
  | _, b :: r => lastF b r
theorem costR_ring (f b0 : Bool) : ∀ (r : List Bool) (p b : Bool), cost (lastF b r) f = cost (lastF b r) b0 → costR f (ringFl p (b :: r)) = costR b0 (b :: r)
  | [], p, b, h => by
    have h : cost b f = cost b b0 := h
    unfold ringFl
    by_cases c : b = false ∧ p = false
    · rw [if_pos c]; obtain ⟨rfl, rfl⟩ := c; simp [ringFl, costR, cost]
    · rw [if_neg c]; simpa [ringFl, costR] using h
  | c :: r, p, b, h => by
    have ih := costR_ring f b0 r b c h
    obtain ⟨t, ht⟩ := ringFl_head b c r
    have e1 : costR f (b :: ringFl b (c :: r)) = cost b c + costR b0 (c :: r) := by
      rw [ht] at ih ⊢
      show cost b (headF b c) + costR f (headF b c :: t) = _
      rw [cost_head, ih]
    rw [ringFl]
    by_cases d : b = false ∧ p = false
    · rw [if_pos d]
      obtain ⟨rfl, rfl⟩ := d
      show cost true false + costR f (false :: ringFl false (c :: r)) = _
      rw [e1]
      show 0 + (cost false c + costR b0 (c :: r)) = _
      rw [Nat.zero_add]; rfl
    · rw [if_neg d]
      show costR f (b :: ringFl b (c :: r)) = _
      rw [e1]; rfl
theorem noOff_ring (f : Bool) : ∀ (r : List Bool) (p b : Bool), (lastF b r = true ∨ f = true) → noOff f (ringFl p (b :: r))
  | [], p, b, h => by
    have h : b = true ∨ f = true := h
    unfold ringFl
    by_cases c : b = false ∧ p = false
    · rw [if_pos c]; obtain ⟨rfl, rfl⟩ := c; simpa [ringFl, noOff] using h
    · rw [if_neg c]; simpa [ringFl, noOff] using h
  | c :: r, p, b, h => by
    have ih := noOff_ring f r b c h
    obtain ⟨t, ht⟩ := ringFl_head b c r
    have e1 : noOff f (b :: ringFl b (c :: r)) := by
      rw [ht] at ih ⊢
      refine ⟨?_, ih⟩
      unfold headF
      cases b <;> cases c <;> simp
    rw [ringFl]
    by_cases d : b = false ∧ p = false
    · rw [if_pos d]
      exact ⟨.inl rfl, e1⟩
    · rw [if_neg d]
      exact e1

/-! the ring that the program makes -/
theorem rdB_get (l : List Bool) (i : Nat) (h : i < l.length) : rdOf false l (i : Int) = l[i] := by simp [rdOf, h]
theorem ring_flags (pts : List S52) (on : List Bool) (hl : on.length = pts.length) : ∀ (l2 l1 : List Bool), on = l1 ++ l2 → (ringSt pts on on.length).1.map (·.f1) = (ringSt pts on l1.length).1.map (·.f1) ++ ringFl (rdOf false on ((l1.length + (pts.length - 1)) % pts.length : Nat)) l2
  | [], l1, h => by rw [show on.length = l1.length by rw [h]; simp]; simp [ringFl]
  | b :: l2, l1, h => by
    have hlt : l1.length < on.length := by rw [h]; simp
    have hb : rdOf false on (l1.length : Nat) = b := by rw [rdB_get on _ hlt]; simp [h]
    have hn : ((l1 ++ [b]).length + (pts.length - 1)) % pts.length = l1.length := by
      rw [List.length_append, List.length_singleton, show l1.length + 1 + (pts.length - 1) = l1.length + pts.length by omega, Nat.add_mod_right, Nat.mod_eq_of_lt (by omega)]
    have ih := ring_flags pts on hl l2 (l1 ++ [b]) (by rw [h]; simp)
    rw [hn, hb] at ih
    rw [ih, List.length_append, List.length_singleton, ringSt_succ, ringFl]
    unfold ringStep
    dsimp only
    rw [hb]
    by_cases c : b = false ∧ rdOf false on ((l1.length + (pts.length - 1)) % pts.length : Nat) = false
    · rw [if_pos c, if_pos c]; simp
    · rw [if_neg c, if_neg c]; simp
theorem ring_start (pts : List S52) (on : List Bool) : ∀ k, (0 ≤ (ringSt pts on k).2 → ((ringSt pts on k).1.map (·.f1))[(ringSt pts on k).2.toNat]? = some true) ∧ ((ringSt pts on k).2 < 0 → ∀ i : Nat, i < k → rdOf false on (i : Int) = false)
  | 0 => ⟨fun h => by simp [ringSt] at h, fun _ i h => by omega⟩
  | k + 1 => by
    obtain ⟨h1, h2⟩ := ring_start pts on k
    rw [ringSt_succ]
    generalize ringSt pts on k = st at *
    obtain ⟨l, s⟩ := st
    unfold ringStep
    dsimp only at h1 h2 ⊢
    generalize hq : (if rdOf false on (k : Nat) = false ∧ rdOf false on ((k + (pts.length - 1)) % pts.length : Nat) = false then l ++ [⟨⟨wrap64 ((rd_T52 pts (k : Nat)).f0 + (rd_T52 pts ((k + (pts.length - 1)) % pts.length : Nat)).f0) / 2, wrap64 ((rd_T52 pts (k : Nat)).f1 + (rd_T52 pts ((k + (pts.length - 1)) % pts.length : Nat)).f1) / 2⟩, true⟩] else l) = q
    have hpre : ∃ u, q = l ++ u := by
      rw [← hq]
      split
      · exact ⟨_, rfl⟩
      · exact ⟨[], by simp⟩
    obtain ⟨u, rfl⟩ := hpre
    by_cases c : rdOf false on (k : Nat) = true ∧ s < 0
    · rw [if_pos c]
      refine ⟨fun _ => ?_, fun h => by omega⟩
      rw [Int.toNat_natCast]
      rw [List.map_append, List.getElem?_append_right (by simp), List.length_map, Nat.sub_self]
      simp [c.1]
    · rw [if_neg c]
      refine ⟨fun h => ?_, fun h i hi => ?_⟩
      · have g := h1 h
        have g1 := (List.getElem?_eq_some_iff.1 g).1
        rw [List.append_assoc, List.map_append, List.getElem?_append_left g1]
        exact g
      · by_cases e : i = k
        · subst e
          cases hh : rdOf false on (i : Nat) with
          | false => rfl
          | true => exact absurd ⟨hh, h⟩ c
        · exact h2 h i (by omega)
/-- What the ring, turned so that it begins on the curve, is like: its flags cost what the contour's do. -/
theorem ringFin_flags (pts : List S52) (on : List Bool) (hl : on.length = pts.length) (h0 : 0 < on.length) :
    ∃ t, (ringFin (ringSt pts on on.length)).map (·.f1) = true :: t ∧ noOff true (true :: t) ∧ costR true (true :: t) = costR (rdOf false on 0) on := by
  obtain ⟨b, r, rfl⟩ : ∃ b r, on = b :: r := by cases on with | nil => simp at h0 | cons b r => exact ⟨b, r, rfl⟩
  have hfl := ring_flags pts (b :: r) hl (b :: r) [] rfl
  have hlast : rdOf false (b :: r) ((([] : List Bool).length + (pts.length - 1)) % pts.length : Nat) = lastF b r := by
    rw [List.length_nil, Nat.zero_add, Nat.mod_eq_of_lt (by simp at hl; omega), ← hl, List.length_cons, Nat.add_sub_cancel, rdB_get _ _ (by simp)]
    have : ∀ (r : List Bool) (b : Bool), (b :: r)[r.length]? = some (lastF b r) := by
      intro r
      induction r with
      | nil => intro b; rfl
      | cons c r ih => intro b; simpa [lastF] using ih c
    have h := this r b
    rw [List.getElem?_eq_getElem (by simp)] at h
    simpa using h
  rw [hlast] at hfl
  have hb0 : rdOf false (b :: r) 0 = b := rfl
  rw [hb0]
  simp only [List.length_nil, ringSt, List.range_zero, List.foldl_nil, List.map_nil, List.nil_append] at hfl
  obtain ⟨h1, h2⟩ := ring_start pts (b :: r) (b :: r).length
  change (ringSt pts (b :: r) (b :: r).length).1.map (·.f1) = ringFl (lastF b r) (b :: r) at hfl
  generalize ringSt pts (b :: r) (b :: r).length = st at *
  obtain ⟨l, s⟩ := st
  dsimp only at h1 h2 hfl
  obtain ⟨t, ht⟩ := ringFl_head (lastF b r) b r
  have hc := costR_ring (headF (lastF b r) b) b r (lastF b r) b (cost_head _ _)
  have hno := noOff_ring (headF (lastF b r) b) r (lastF b r) b (by unfold headF; cases lastF b r <;> cases b <;> simp)
  by_cases hs : 0 ≤ s
  · have g := h1 hs
    obtain ⟨n, rfl⟩ : ∃ n : Nat, s = n := ⟨s.toNat, by omega⟩
    rw [Int.toNat_natCast] at g
    obtain ⟨g1, g2⟩ := List.getElem?_eq_some_iff.1 g
    rw [ringFin_nat]
    have hd : (l.map (·.f1)).drop n = true :: (l.map (·.f1)).drop (n + 1) := by rw [List.drop_eq_getElem_cons g1, g2]
    have hcut : ringFl (lastF b r) (b :: r) = (l.map (·.f1)).take n ++ true :: (l.map (·.f1)).drop (n + 1) := by rw [← hd, List.take_append_drop, hfl]
    refine ⟨(l.map (·.f1)).drop (n + 1) ++ (l.map (·.f1)).take n, by rw [List.map_append, List.map_drop, List.map_take, hd]; rfl, ?_⟩
    rw [hcut] at hc hno
    have hhead : n = 0 ∨ ∃ u, (l.map (·.f1)).take n = headF (lastF b r) b :: u := by
      by_cases hn : n = 0
      · exact .inl hn
      · right
        rw [ht] at hfl
        cases n with
        | zero => exact absurd rfl hn
        | succ n => rw [hfl]; exact ⟨_, rfl⟩
    rcases hhead with rfl | ⟨u, hu⟩
    · have e : headF (lastF b r) b = true := by
        rw [hfl, ht] at hd
        simpa using hd
      simp only [List.take_zero, List.nil_append] at hc hno
      rw [e] at hc hno
      rw [List.take_zero, List.append_nil]
      exact ⟨hno, hc⟩
    · rw [hu] at hc hno ⊢
      rw [costR_cut] at hc
      rw [noOff_cut] at hno
      rw [← List.cons_append, costR_cut, noOff_cut]
      exact ⟨⟨hno.2, hno.1⟩, by omega⟩
  · have hz : ∀ i : Nat, i < (b :: r).length → rdOf false (b :: r) (i : Int) = false := h2 (by omega)
    have e0 : b = false := hz 0 (by simp)
    have e1 : lastF b r = false := by rw [← hlast]; exact hz _ (Nat.lt_of_lt_of_eq (Nat.mod_lt _ (by simp at hl; omega)) hl.symm)
    have e : headF (lastF b r) b = true := by unfold headF; rw [e1, e0]; rfl
    rw [ringFin_neg _ _ (by omega), hfl, ht]
    rw [ht] at hc hno
    rw [e] at hc hno ⊢
    exact ⟨t, rfl, hno, hc⟩

/-! the row's length -/
theorem rdT_f1 (l : List S101) (i : Nat) (h : i < l.length) : (rd_T101 l (i : Int)).f1 = (l.map (·.f1))[i]'(by simpa using h) := by simp [rd_T101, h]
theorem rowGo_cost (l : List S101) (h0 : (l.map (·.f1))[0]? = some true) : ∀ (f i : Nat) (out : List S52), l.length ≤ i + f → (∀ b r, (l.map (·.f1)).drop i = b :: r → b = true) → noOff true ((l.map (·.f1)).drop i) →
    (rowGo l f i out).length = out.length + costR true ((l.map (·.f1)).drop i)
  | 0, i, out, h, _, _ => by rw [List.drop_of_length_le (by simp; omega)]; rfl
  | f + 1, i, out, h, hon, hno => by
    unfold rowGo
    have hL : (l.map (·.f1)).length = l.length := by simp
    by_cases hi : i < l.length
    · have m1 : (i + 1) % l.length < l.length := Nat.mod_lt _ (by omega)
      have hd := List.drop_eq_getElem_cons (show i < (l.map (·.f1)).length by omega)
      have ha : (l.map (·.f1))[i] = true := hon _ _ hd
      rw [ha] at hd
      rw [if_pos hi, rdT_f1 l _ m1]
      by_cases hlast : i + 1 = l.length
      · have e0 : (i + 1) % l.length = 0 := by rw [hlast]; exact Nat.mod_self _
        have e1 : (l.map (·.f1))[(i + 1) % l.length]'(by rw [hL]; exact m1) = true := by
          have := h0
          rw [List.getElem?_eq_getElem (by omega)] at this
          simp only [e0]
          simpa using this
        have e2 : (l.map (·.f1)).drop (i + 1) = [] := List.drop_of_length_le (by omega)
        rw [if_pos e1, rowGo_cost l h0 f (i + 1) _ (by omega) (fun b r hbr => by rw [e2] at hbr; cases hbr) (by rw [e2]; trivial), e2, hd, e2]
        simp [costR, cost]
      · have e0 : (i + 1) % l.length = i + 1 := Nat.mod_eq_of_lt (by omega)
        have hd1 := List.drop_eq_getElem_cons (show i + 1 < (l.map (·.f1)).length by omega)
        have hno1 : noOff true ((l.map (·.f1)).drop (i + 1)) := by rw [hd, hd1] at hno; rw [hd1]; exact hno.2
        simp only [e0]
        by_cases hc : (l.map (·.f1))[i + 1]'(by omega) = true
        · rw [if_pos hc, rowGo_cost l h0 f (i + 1) _ (by omega) (fun b r hbr => by rw [hd1] at hbr; injection hbr with q1 q2; rw [← q1]; exact hc) hno1, hd]
          rw [hd1, hc]
          simp [costR, cost]
          omega
        · have hcf : (l.map (·.f1))[i + 1]'(by omega) = false := by simpa using hc
          rw [if_neg hc]
          rw [hcf] at hd1
          have hno2 : noOff true ((l.map (·.f1)).drop (i + 2)) := by
            rw [hd1] at hno1
            cases hr : (l.map (·.f1)).drop (i + 1 + 1) with
            | nil => trivial
            | cons x y => rw [hr] at hno1; exact hno1.2
          have hon2 : ∀ b r, (l.map (·.f1)).drop (i + 2) = b :: r → b = true := by
            intro x y hxy
            rw [hd1, show i + 1 + 1 = i + 2 from rfl, hxy] at hno1
            have := hno1.1
            simpa using this
          rw [rowGo_cost l h0 f (i + 2) _ (by omega) hon2 hno2, hd, hd1, show i + 1 + 1 = i + 2 from rfl, List.length_append, curveK_len]
          cases hr : (l.map (·.f1)).drop (i + 2) with
          | nil => simp [costR, cost]
          | cons x y => simp [costR, cost]; omega
    · rw [if_neg hi, List.drop_of_length_le (by simp; omega)]; rfl
theorem rowL_cost (l : List S101) (t : List Bool) (h : l.map (·.f1) = true :: t) (hno : noOff true (true :: t)) : (rowL l).length = costR true (true :: t) := by
  unfold rowL
  have e : (rowAll l).length = 1 + costR true (true :: t) := by
    unfold rowAll
    rw [rowGo_cost l (by rw [h]; rfl) l.length 0 _ (by omega) (fun b r hbr => by rw [List.drop_zero, h] at hbr; injection hbr with q; exact q.symm) (by rw [List.drop_zero, h]; exact hno), List.drop_zero, h]
    rfl
  rw [List.length_take, e]; omega
theorem contourLines_cost (pts : List S52) (on : List Bool) (s t : Nat) (hst : s < t) (ht : t ≤ pts.length) (hl : on.length = pts.length) : (contourLines pts on s t).length = costR (rdOf false ((on.drop s).take (t - s)) 0) ((on.drop s).take (t - s)) := by
  unfold contourLines
  have e : ((on.drop s).take (t - s)).length = t - s := by rw [List.length_take, List.length_drop]; omega
  obtain ⟨u, h1, h2, h3⟩ := ringFin_flags ((pts.drop s).take (t - s)) ((on.drop s).take (t - s)) (by rw [e, List.length_take, List.length_drop]; omega) (by omega)
  rw [e] at h1
  rw [rowL_cost _ u h1 h2, h3]

/-! the box -/
theorem boxSt_in (pts : List S33) (hp : ∀ p ∈ pts, -16384 ≤ p.f0 ∧ p.f0 ≤ 16384 ∧ -16384 ≤ p.f1 ∧ p.f1 ≤ 16384) : ∀ k, k + 1 ≤ pts.length →
    big (boxSt pts (k + 1)).1.f0 (boxSt pts (k + 1)).2.f0 ∧ big (boxSt pts (k + 1)).1.f1 (boxSt pts (k + 1)).2.f1 ∧
    ∀ i : Nat, i ≤ k → (boxSt pts (k + 1)).1.f0 ≤ (rd_T33 pts i).f0 ∧ (rd_T33 pts i).f0 ≤ (boxSt pts (k + 1)).2.f0 ∧ (boxSt pts (k + 1)).1.f1 ≤ (rd_T33 pts i).f1 ∧ (rd_T33 pts i).f1 ≤ (boxSt pts (k + 1)).2.f1 := by
  intro k
  induction k with
  | zero =>
    intro h
    have hh := hp _ (List.getElem_mem (show 0 < pts.length by omega))
    rw [boxSt_succ]
    unfold boxStep
    rw [if_pos rfl]
    rw [rdS_get pts 0 (by omega)]
    dsimp only
    simp only [Int.min_self, Int.max_self]
    refine ⟨⟨hh.1, hh.2.1⟩, ⟨hh.2.2.1, hh.2.2.2⟩, fun i hi => ?_⟩
    obtain rfl : i = 0 := by omega
    rw [rdS_get pts 0 (by omega)]
    omega
  | succ k ih =>
    intro h
    obtain ⟨⟨g1, g2⟩, ⟨g3, g4⟩, g5⟩ := ih (by omega)
    have hh := hp _ (List.getElem_mem (show k + 1 < pts.length by omega))
    rw [boxSt_succ]
    unfold boxStep
    rw [if_neg (by omega)]
    dsimp only
    rw [rdS_get pts (k + 1) (by omega)]
    generalize boxSt pts (k + 1) = st at *
    refine ⟨⟨by omega, by omega⟩, ⟨by omega, by omega⟩, fun i hi => ?_⟩
    by_cases e : i = k + 1
    · subst e
      rw [rdS_get pts (k + 1) (by omega)]
      omega
    · have := g5 i (by omega)
      omega
end Go.Proofs.Ytbmklpcheopgoaa.Out
