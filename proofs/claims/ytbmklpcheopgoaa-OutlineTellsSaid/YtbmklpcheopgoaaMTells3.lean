/- Texts of this session, one behind the other, for the statement OutlineTells: what its functions compute, plain facts, and (last) its row. No condition besides those stated. -/
import Derived.Test.YtbmklpcheopgoaaMTells1
import Derived.WalkKit
import Derived.Lib.Hide
import Derived.WalkSpells
import Derived.Test.YtbmklpcheopgoaaWLast
set_option linter.unusedVariables false
set_option linter.unusedSimpArgs false
namespace Go.Proofs.Ytbmklpcheopgoaa.H
open Go.RowKit Go.Proofs.YtbmklpcheopgoaaW.PrintWords Go.Proofs.YtbmklpcheopgoaaW.PrintLast Go.Proofs.YtbmklpcheopgoaaW.PrintMore
attribute [local go_sem] max2_int min2_int max_two min_two max_three min_three max_four min_four
set_option linter.unusedVariables false
set_option linter.unusedSimpArgs false
mutual
def outline_Right.j0 : Nat → Bool → List (S33) → List Int → Option (Bool)
 | 0, _, _, _ => none
 | k + 1, x17, x144000, x144001 => if x17 = true then (some false) else (outline_Right.l0 k x144000 (x144000.length : Int) 0 x144000 x144001)
def outline_Right.l0 : Nat → List (S33) → Int → Int → List (S33) → List Int → Option (Bool)
 | 0, _, _, _, _, _ => none
 | k + 1, x19, x20, x21, x144000, x144001 => if x21 < x20 then (if 0 ≤ x21 then (if x21 < (x19.length : Int) then (if (mx ((rd_T33 x19 x21).f0) ((rd_T33 x19 x21).f1)) > 16384 then (some false) else (if (mn ((rd_T33 x19 x21).f0) ((rd_T33 x19 x21).f1)) < (-16384) then (some false) else (outline_Right.l0 k x19 x20 (wrap64 (x21 + 1)) x144000 x144001))) else (none)) else (none)) else (outline_Right.l1 k (-1) x144001 (x144001.length : Int) 0 x144000 x144001)
def outline_Right.l1 : Nat → Int → List Int → Int → Int → List (S33) → List Int → Option (Bool)
 | 0, _, _, _, _, _, _ => none
 | k + 1, x5, x41, x42, x43, x144000, x144001 => if x43 < x42 then (if 0 ≤ x43 then (if x43 < (x41.length : Int) then (if (rd x41 x43) < (wrap64 (x5 + 2)) then (some false) else (if (rd x41 x43) ≥ (x144000.length : Int) then (some false) else (outline_Right.l1 k (rd x41 x43) x41 x42 (wrap64 (x43 + 1)) x144000 x144001))) else (none)) else (none)) else (some (x5 == (wrap64 ((x144000.length : Int) - 1))))
end
def outline_Right.f (k : Nat) (l0_0 : List (S33)) (l0_1 : List Int) : Option (Bool) := if (l0_0.length : Int) > 200 then (outline_Right.j0 k true l0_0 l0_1) else (outline_Right.j0 k (decide ((l0_1.length : Int) > 40)) l0_0 l0_1)
theorem outline_Right.mono_l : ∀ k, (∀ y0 y1 y2, LeO (outline_Right.j0 k y0 y1 y2) (outline_Right.j0 (k + 1) y0 y1 y2)) ∧ (∀ y0 y1 y2 y3 y4, LeO (outline_Right.l0 k y0 y1 y2 y3 y4) (outline_Right.l0 (k + 1) y0 y1 y2 y3 y4)) ∧ (∀ y0 y1 y2 y3 y4 y5, LeO (outline_Right.l1 k y0 y1 y2 y3 y4 y5) (outline_Right.l1 (k + 1) y0 y1 y2 y3 y4 y5))
 | 0 => ⟨fun _ _ _ r h => by simp [outline_Right.j0] at h, fun _ _ _ _ _ r h => by simp [outline_Right.l0] at h, fun _ _ _ _ _ _ r h => by simp [outline_Right.l1] at h⟩
 | k + 1 => by
  obtain ⟨ih0, ih1, ih2⟩ := outline_Right.mono_l k
  refine ⟨?_, ?_, ?_⟩
  ·
   intro y0 y1 y2
   unfold outline_Right.j0
   repeat' first
   | (with_reducible exact ih0 _ _ _)
   | (with_reducible exact ih1 _ _ _ _ _)
   | (with_reducible exact ih2 _ _ _ _ _ _)
   | (with_reducible exact LeO.refl _)
   | (with_reducible exact LeO.none _)
   | (with_reducible refine LeO.ite ?_ ?_)
   | (with_reducible refine LeO.bind ?_ (fun _ => ?_))
   | exact ih0 _ _ _
   | exact ih1 _ _ _ _ _
   | exact ih2 _ _ _ _ _ _
   | exact LeO.none _
   | refine LeO.ite ?_ ?_
   | refine LeO.bind ?_ (fun _ => ?_)
  ·
   intro y0 y1 y2 y3 y4
   unfold outline_Right.l0
   repeat' first
   | (with_reducible exact ih0 _ _ _)
   | (with_reducible exact ih1 _ _ _ _ _)
   | (with_reducible exact ih2 _ _ _ _ _ _)
   | (with_reducible exact LeO.refl _)
   | (with_reducible exact LeO.none _)
   | (with_reducible refine LeO.ite ?_ ?_)
   | (with_reducible refine LeO.bind ?_ (fun _ => ?_))
   | exact ih0 _ _ _
   | exact ih1 _ _ _ _ _
   | exact ih2 _ _ _ _ _ _
   | exact LeO.none _
   | refine LeO.ite ?_ ?_
   | refine LeO.bind ?_ (fun _ => ?_)
  ·
   intro y0 y1 y2 y3 y4 y5
   unfold outline_Right.l1
   repeat' first
   | (with_reducible exact ih0 _ _ _)
   | (with_reducible exact ih1 _ _ _ _ _)
   | (with_reducible exact ih2 _ _ _ _ _ _)
   | (with_reducible exact LeO.refl _)
   | (with_reducible exact LeO.none _)
   | (with_reducible refine LeO.ite ?_ ?_)
   | (with_reducible refine LeO.bind ?_ (fun _ => ?_))
   | exact ih0 _ _ _
   | exact ih1 _ _ _ _ _
   | exact ih2 _ _ _ _ _ _
   | exact LeO.none _
   | refine LeO.ite ?_ ?_
   | refine LeO.bind ?_ (fun _ => ?_)
theorem outline_Right.mono : ∀ a0 a1 k, LeO (outline_Right.f k a0 a1) (outline_Right.f (k + 1) a0 a1) := by
 intro a0 a1 k
 obtain ⟨ih0, ih1, ih2⟩ := outline_Right.mono_l k
 unfold outline_Right.f
 repeat' first
   | (with_reducible exact ih0 _ _ _)
   | (with_reducible exact ih1 _ _ _ _ _)
   | (with_reducible exact ih2 _ _ _ _ _ _)
   | (with_reducible exact LeO.refl _)
   | (with_reducible exact LeO.none _)
   | (with_reducible refine LeO.ite ?_ ?_)
   | (with_reducible refine LeO.bind ?_ (fun _ => ?_))
   | exact ih0 _ _ _
   | exact ih1 _ _ _ _ _
   | exact ih2 _ _ _ _ _ _
   | exact LeO.none _
   | refine LeO.ite ?_ ?_
   | refine LeO.bind ?_ (fun _ => ?_)
set_option maxHeartbeats 8000000 in
set_option maxRecDepth 100000 in
theorem outline_Right.calls (k : Nat) (A0_0 : Option Addr) (c0_0 : Nat) (l0_0 : List (S33)) (A0_1 : Option Addr) (c0_1 : Nat) (l0_1 : List Int) (r : Bool) (w : World) (hr0_0 : Kd.C k33 w A0_0 l0_0.length l0_0) (hc0_0 : l0_0.length ≤ c0_0) (hr0_1 : Kd.C (Kd.int .i64) w A0_1 l0_1.length l0_1) (hc0_1 : l0_1.length ≤ c0_1) (h : outline_Right.f k l0_0 l0_1 = some r) :
  Calls Try.prog 22 #[.agg #[.slice A0_0 l0_0.length c0_0, .slice A0_1 l0_1.length c0_1]] w fun e w' => e = .returned (.bool r) ∧ Below w.heap.size w w' := by
 have hu25 := Try.underlying25
 have hu33 := Try.underlying33
 have HR0_0 := aM hr0_0
 have HC0_0 := aM hc0_0
 clear hr0_0 hc0_0
 have HR0_1 := aM hr0_1
 have HC0_1 := aM hc0_1
 clear hr0_1 hc0_1
 have HB := aM (Below.refl w.heap.size w)
 have H : (if (l0_0.length : Int) > 200 then (outline_Right.j0 k true l0_0 l0_1) else (outline_Right.j0 k (decide ((l0_1.length : Int) > 40)) l0_0 l0_1)) = some r := h
 clear h
 have HC2 := aM H
 clear H
 go_enter Try.func22, Try.ntmps22
 go_upto_region 1 with (first | ((with_reducible refine gate_dst (N := 1) rfl ?_); (try (refine gate_guard (by rfl) ?_; dsimp only)); refine box_event ?hg (N := 1) ?hd (cs := #[.slice A0_0 l0_0.length c0_0, .slice A0_1 l0_1.length c0_1]) (t := 25) ?hr ?_; (case hd => rfl); (case hg => rfl); (case hr => first | (go_simp; done) | (go_simp; rfl)); intro gb143 hg w3 hbox hb; have n0_ := aM (below_step (by repeat (first | (with_reducible first | exact HB.out | apply bA | apply bN | apply bD) | exact HB.out)) hb); have n1_ := aM (hbox); have n2_ := aM ((by rw [hg]; exact (below_size (by repeat (first | (with_reducible first | exact HB.out | apply bA | apply bN | apply bD) | exact HB.out))) : w.heap.size ≤ gb143)); have n3_ := aM ((by rw [hg]; exact (below_size (by repeat (first | (with_reducible first | exact HB.out | apply bA | apply bN | apply bD) | exact HB.out))) : w.heap.size ≤ gb143)); clear HB; have HB := n0_; have BK143 := n1_; have GW143 := n2_; have GE143 := n3_; clear n0_ n1_ n2_ n3_; clear hb hbox hg))
 (try simp only [Act.put, List.setIfInBounds_toArray, List.set_cons_zero, List.set_cons_succ])
 go_cut [17] (fun v17 wc => ∃ (kq : Nat) (x17_1 : Bool), v17 = .bool x17_1 ∧ Aside0 (outline_Right.j0 kq x17_1 l0_0 l0_1 = some r) ∧ Aside0 (kq ≤ k) ∧ Aside0 (wc.heap[gb143]? = some (.cells #[(.slice A0_0 l0_0.length c0_0), (.slice A0_1 l0_1.length c0_1)] 25 (0, 0))) ∧ Aside0 (Below w.heap.size w wc))
 case first =>
  have H := HC2.out
  clear HC2
  by_cases c4 : (l0_0.length : Int) > 200
  ·
   rw [if_pos c4] at H
   have c4b0 : decide (200 < (l0_0.length : Int)) = true := decide_eq_true c4
   have c4b1 : decide (200 < l0_0.length) = true := decide_eq_true (by omega)
   clear c4
   (first | rw [c4b0] | (simp only [i64_w, i32_w]; rw [c4b0]) | skip)
   have H' := aM H
   clear H
   have hcz5_0 : w3.cell? ⟨gb143, 0, none⟩ = some (.slice A0_0 l0_0.length c0_0) := (blk_cell BK143.out 0).trans rfl
   have hcz5_1 : w3.cell? ⟨gb143, 1, none⟩ = some (.slice A0_1 l0_1.length c0_1) := (blk_cell BK143.out 1).trans rfl
   have hfz5_0 := blk_frozen BK143.out 0
   have hfz5_1 := blk_frozen BK143.out 1
   go_wp2
   go_meet
   case rel => exact ⟨_, (true), (by first | rfl | (simp; done) | (simp [*]; done)), H', ⟨by first | omega | exact Nat.le_refl _⟩, ⟨by (with_reducible repeat (first | refine kN ?_ _ | refine kD ?_ | refine kA ?_ _)); exact BK143.out⟩, ⟨by repeat (first | (with_reducible first | exact HB.out | apply bA | apply bN | apply bD | refine bS ?_ GE143.out) | exact HB.out)⟩⟩
  ·
   rw [if_neg c4] at H
   have c4b0 : decide (200 < (l0_0.length : Int)) = false := decide_eq_false c4
   have c4b1 : decide (200 < l0_0.length) = false := decide_eq_false (by omega)
   clear c4
   (first | rw [c4b0] | (simp only [i64_w, i32_w]; rw [c4b0]) | skip)
   have H' := aM H
   clear H
   have hcz6_0 : w3.cell? ⟨gb143, 0, none⟩ = some (.slice A0_0 l0_0.length c0_0) := (blk_cell BK143.out 0).trans rfl
   have hcz6_1 : w3.cell? ⟨gb143, 1, none⟩ = some (.slice A0_1 l0_1.length c0_1) := (blk_cell BK143.out 1).trans rfl
   have hfz6_0 := blk_frozen BK143.out 0
   have hfz6_1 := blk_frozen BK143.out 1
   go_wp2
   go_meet
   case rel => exact ⟨_, (decide ((l0_1.length : Int) > 40)), (by first | rfl | (simp; done) | (simp [*]; done)), H', ⟨by first | omega | exact Nat.le_refl _⟩, ⟨by (with_reducible repeat (first | refine kN ?_ _ | refine kD ?_ | refine kA ?_ _)); exact BK143.out⟩, ⟨by repeat (first | (with_reducible first | exact HB.out | apply bA | apply bN | apply bD | refine bS ?_ GE143.out) | exact HB.out)⟩⟩
 case rest =>
  clear HC2
  try clear c2
  try clear p2
  try clear c4
  try clear c4b0
  try clear c4b1
  try clear hcz5_0
  try clear hcz5_1
  try clear hcz6_0
  try clear hcz6_1
  try clear hfz5_0
  try clear hfz5_1
  try clear hfz6_0
  try clear hfz6_1
  obtain ⟨kq, x17_1, rfl, HA, HJ1, BK143, HB⟩ := hcut
  cases kq with
  | zero => exact absurd HA.out (by simp [outline_Right.j0])
  | succ kj1 =>
   have H := HA.out
   clear HA
   simp only [outline_Right.j0] at H
   by_cases c7 : x17_1 = true
   ·
    subst c7
    have H1 : (some false) = some r := by rw [if_pos rfl] at H; exact H
    clear H
    have H := H1
    clear H1
    obtain rfl := Option.some.inj H
    go_wp2
    go_ret
    exact ⟨by first | rfl | (simp [errW_none, errW_some] <;> rfl) | (simp [*, errW_none, errW_some] <;> rfl), by repeat (first | (with_reducible first | exact HB.out | apply bA | apply bN | apply bD | refine bS ?_ GE143.out) | exact HB.out)⟩
   ·
    replace c7 := Bool.eq_false_iff.mpr c7
    subst c7
    have H1 : (outline_Right.l0 kj1 l0_0 (l0_0.length : Int) 0 l0_0 l0_1) = some r := by rw [if_neg (show ¬ (false = true) by decide)] at H; exact H
    clear H
    have H := H1
    clear H1
    have H' := aM H
    clear H
    have hcz8_0 : wc.cell? ⟨gb143, 0, none⟩ = some (.slice A0_0 l0_0.length c0_0) := (blk_cell BK143.out 0).trans rfl
    have hcz8_1 : wc.cell? ⟨gb143, 1, none⟩ = some (.slice A0_1 l0_1.length c0_1) := (blk_cell BK143.out 1).trans rfl
    have hfz8_0 := blk_frozen BK143.out 0
    have hfz8_1 := blk_frozen BK143.out 1
    go_wp2
    go_loopg [21] kj1 (fun kq v21 w' => ∃ (x21_2 : Int), v21 = .int .i64 x21_2 ∧ Aside0 (outline_Right.l0 kq l0_0 (l0_0.length : Int) x21_2 l0_0 l0_1 = some r) ∧ Aside0 (kq ≤ kj1) ∧ Aside0 (w'.heap[gb143]? = some (.cells #[(.slice A0_0 l0_0.length c0_0), (.slice A0_1 l0_1.length c0_1)] 25 (0, 0))) ∧ Aside0 (Below w.heap.size w w'))
    case atStart => exact ⟨(0), (by first | rfl | (simp; done) | (simp [*]; done)), H', ⟨Nat.le_refl _⟩, ⟨by (with_reducible repeat (first | refine kN ?_ _ | refine kD ?_ | refine kA ?_ _)); exact BK143.out⟩, ⟨by repeat (first | (with_reducible first | exact HB.out | apply bA | apply bN | apply bD | refine bS ?_ GE143.out) | exact HB.out)⟩⟩
    case round =>
     clear H'
     try clear c2
     try clear p2
     try clear c4
     try clear c4b0
     try clear c4b1
     try clear c7
     try clear hcz5_0
     try clear hcz5_1
     try clear hcz6_0
     try clear hcz6_1
     try clear hcz8_0
     try clear hcz8_1
     try clear hfz5_0
     try clear hfz5_1
     try clear hfz6_0
     try clear hfz6_1
     try clear hfz8_0
     try clear hfz8_1
     try clear p2
     obtain ⟨x21_2, rfl, HA, HK2, BK143, HB⟩ := hrel
     cases gk with
     | zero => exact absurd HA.out (by simp [outline_Right.l0])
     | succ k2 =>
      have H := HA.out
      clear HA
      simp only [outline_Right.l0] at H
      by_cases c9 : x21_2 < (l0_0.length : Int)
      ·
       rw [if_pos c9] at H
       have c9b0 : decide (x21_2 < (l0_0.length : Int)) = true := decide_eq_true c9
       clear c9
       by_cases c10 : 0 ≤ x21_2
       ·
        rw [if_pos c10] at H
        have c10b0 : decide (0 ≤ x21_2) = true := decide_eq_true c10
        clear c10
        by_cases c11 : x21_2 < (l0_0.length : Int)
        ·
         rw [if_pos c11] at H
         have c11b0 : decide (x21_2 < (l0_0.length : Int)) = true := decide_eq_true c11
         clear c11
         obtain ⟨ji12, hji12⟩ : ∃ j_ : Int, (mx ((rd_T33 l0_0 x21_2).f0) ((rd_T33 l0_0 x21_2).f1)) = j_ := ⟨_, rfl⟩
         replace H : (if (ji12) > 16384 then (some false) else (if (mn ((rd_T33 l0_0 x21_2).f0) ((rd_T33 l0_0 x21_2).f1)) < (-16384) then (some false) else (outline_Right.l0 k2 l0_0 (l0_0.length : Int) (wrap64 (x21_2 + 1)) l0_0 l0_1))) = some r := by first | (rw [hji12] at H; exact H) | (simp only [hji12] at H ⊢; exact H)
         have hji12_ : (if ((rd_T33 l0_0 x21_2).f0) < ((rd_T33 l0_0 x21_2).f1) then ((rd_T33 l0_0 x21_2).f1) else ((rd_T33 l0_0 x21_2).f0)) = ji12 := hji12
         by_cases c13 : (ji12) > 16384
         ·
          rw [if_pos c13] at H
          have c13b0 : decide (16384 < (ji12)) = true := decide_eq_true c13
          clear c13
          obtain rfl := Option.some.inj H
          have p144 : 0 ≤ (x21_2 : Int) := dT (by assumption)
          have q144 : x21_2 < (l0_0.length : Int) := dT (by assumption)
          obtain ⟨ad144, e144, hx144_0, hx144_1, hx144_2⟩ := at_T33 HR0_0.out x21_2 p144 q144
          cases e144
          replace hx144_0 := (HB.out.cell (World.block_lt_of_cell? w _ hx144_0)).trans hx144_0
          replace hx144_1 := (HB.out.cell (World.block_lt_of_cell? w _ hx144_1)).trans hx144_1
          replace hx144_2 := (HB.out.cell (World.block_lt_of_cell? w _ hx144_2)).trans hx144_2
          replace p144 := eq_true p144
          replace q144 := eq_true q144
          go_wp2_with (first | ((with_reducible refine gate_dst (N := 4) rfl ?_); (try (refine gate_guard (by rfl) ?_; dsimp only)); refine box_event ?hg (N := 4) ?hd (cs := #[.int .i64 0, .int .i64 0, .bool false]) (t := 33) ?hr ?_; (case hd => rfl); (case hg => rfl); (case hr => first | (go_simp; done) | (go_simp; rfl)); intro gb145 hg w14 hbox hb; have n0_ := aM (blk_below (g := gb143) (o := .cells #[.slice (some ad144) l0_0.length c0_0, .slice A0_1 l0_1.length c0_1] 25 (0, 0)) (by (with_reducible repeat (first | refine kN ?_ _ | refine kD ?_ | refine kA ?_ _)); exact BK143.out) hb); have n1_ := aM (below_step (by repeat (first | (with_reducible first | exact HB.out | apply bA | apply bN | apply bD | refine bS ?_ GE143.out) | exact HB.out)) hb); have n2_ := aM (hbox); have n3_ := aM ((by rw [hg]; exact (below_size (by repeat (first | (with_reducible first | exact HB.out | apply bA | apply bN | apply bD | refine bS ?_ GE143.out) | exact HB.out))) : w.heap.size ≤ gb145)); have n4_ := aM ((by rw [hg]; exact (below_size (by repeat (first | (with_reducible first | exact HB.out | apply bA | apply bN | apply bD | refine bS ?_ GE143.out) | exact HB.out))) : w.heap.size ≤ gb145)); have n5_ := aM ((by rw [hg]; exact Nat.ne_of_lt (blk_lt (g := gb143) (o := .cells #[.slice (some ad144) l0_0.length c0_0, .slice A0_1 l0_1.length c0_1] 25 (0, 0)) (by (with_reducible repeat (first | refine kN ?_ _ | refine kD ?_ | refine kA ?_ _)); exact BK143.out)) : gb143 ≠ gb145)); have n6_ := aM ((by rw [hg]; exact Nat.ne_of_gt (blk_lt (g := gb143) (o := .cells #[.slice (some ad144) l0_0.length c0_0, .slice A0_1 l0_1.length c0_1] 25 (0, 0)) (by (with_reducible repeat (first | refine kN ?_ _ | refine kD ?_ | refine kA ?_ _)); exact BK143.out)) : gb145 ≠ gb143)); clear BK143; clear HB; have BK143 := n0_; have HB := n1_; have BK145 := n2_; have GW145 := n3_; have GE145 := n4_; have NB143_145 := n5_; have NB145_143 := n6_; clear n0_ n1_ n2_ n3_ n4_ n5_ n6_; clear hb hbox hg; have hnb15 := NB145_143.out; have hnc15 := NB143_145.out; have hcz16_0 : w14.cell? ⟨gb145, 0, none⟩ = some (.int .i64 0) := (blk_cell BK145.out 0).trans rfl; have hcz16_1 : w14.cell? ⟨gb145, 1, none⟩ = some (.int .i64 0) := (blk_cell BK145.out 1).trans rfl; have hcz16_2 : w14.cell? ⟨gb145, 2, none⟩ = some (.bool false) := (blk_cell BK145.out 2).trans rfl; have hfz16_0 := blk_frozen BK145.out 0; have hfz16_1 := blk_frozen BK145.out 1; have hfz16_2 := blk_frozen BK145.out 2))
          go_ret
          exact ⟨by first | rfl | (simp [errW_none, errW_some] <;> rfl) | (simp only [← hji12]; first | rfl | (simp [errW_none, errW_some] <;> rfl)) | (simp [*, errW_none, errW_some] <;> rfl), by repeat (first | (with_reducible first | exact HB.out | apply bA | apply bN | apply bD | refine bS ?_ GE143.out | refine bS ?_ GE145.out) | exact HB.out)⟩
         ·
          rw [if_neg c13] at H
          have c13b0 : decide (16384 < (ji12)) = false := decide_eq_false c13
          clear c13
          obtain ⟨ji17, hji17⟩ : ∃ j_ : Int, (mn ((rd_T33 l0_0 x21_2).f0) ((rd_T33 l0_0 x21_2).f1)) = j_ := ⟨_, rfl⟩
          replace H : (if (ji17) < (-16384) then (some false) else (outline_Right.l0 k2 l0_0 (l0_0.length : Int) (wrap64 (x21_2 + 1)) l0_0 l0_1)) = some r := by first | (rw [hji17] at H; exact H) | (simp only [hji17] at H ⊢; exact H)
          have hji17_ : (if ((rd_T33 l0_0 x21_2).f1) < ((rd_T33 l0_0 x21_2).f0) then ((rd_T33 l0_0 x21_2).f1) else ((rd_T33 l0_0 x21_2).f0)) = ji17 := hji17
          by_cases c18 : (ji17) < (-16384)
          ·
           rw [if_pos c18] at H
           have c18b0 : decide ((ji17) < (-16384)) = true := decide_eq_true c18
           clear c18
           obtain rfl := Option.some.inj H
           have p144 : 0 ≤ (x21_2 : Int) := dT (by assumption)
           have q144 : x21_2 < (l0_0.length : Int) := dT (by assumption)
           obtain ⟨ad144, e144, hx144_0, hx144_1, hx144_2⟩ := at_T33 HR0_0.out x21_2 p144 q144
           cases e144
           replace hx144_0 := (HB.out.cell (World.block_lt_of_cell? w _ hx144_0)).trans hx144_0
           replace hx144_1 := (HB.out.cell (World.block_lt_of_cell? w _ hx144_1)).trans hx144_1
           replace hx144_2 := (HB.out.cell (World.block_lt_of_cell? w _ hx144_2)).trans hx144_2
           replace p144 := eq_true p144
           replace q144 := eq_true q144
           go_wp2_with (first | ((with_reducible refine gate_dst (N := 4) rfl ?_); (try (refine gate_guard (by rfl) ?_; dsimp only)); refine box_event ?hg (N := 4) ?hd (cs := #[.int .i64 0, .int .i64 0, .bool false]) (t := 33) ?hr ?_; (case hd => rfl); (case hg => rfl); (case hr => first | (go_simp; done) | (go_simp; rfl)); intro gb145 hg w19 hbox hb; have n0_ := aM (blk_below (g := gb143) (o := .cells #[.slice (some ad144) l0_0.length c0_0, .slice A0_1 l0_1.length c0_1] 25 (0, 0)) (by (with_reducible repeat (first | refine kN ?_ _ | refine kD ?_ | refine kA ?_ _)); exact BK143.out) hb); have n1_ := aM (below_step (by repeat (first | (with_reducible first | exact HB.out | apply bA | apply bN | apply bD | refine bS ?_ GE143.out) | exact HB.out)) hb); have n2_ := aM (hbox); have n3_ := aM ((by rw [hg]; exact (below_size (by repeat (first | (with_reducible first | exact HB.out | apply bA | apply bN | apply bD | refine bS ?_ GE143.out) | exact HB.out))) : w.heap.size ≤ gb145)); have n4_ := aM ((by rw [hg]; exact (below_size (by repeat (first | (with_reducible first | exact HB.out | apply bA | apply bN | apply bD | refine bS ?_ GE143.out) | exact HB.out))) : w.heap.size ≤ gb145)); have n5_ := aM ((by rw [hg]; exact Nat.ne_of_lt (blk_lt (g := gb143) (o := .cells #[.slice (some ad144) l0_0.length c0_0, .slice A0_1 l0_1.length c0_1] 25 (0, 0)) (by (with_reducible repeat (first | refine kN ?_ _ | refine kD ?_ | refine kA ?_ _)); exact BK143.out)) : gb143 ≠ gb145)); have n6_ := aM ((by rw [hg]; exact Nat.ne_of_gt (blk_lt (g := gb143) (o := .cells #[.slice (some ad144) l0_0.length c0_0, .slice A0_1 l0_1.length c0_1] 25 (0, 0)) (by (with_reducible repeat (first | refine kN ?_ _ | refine kD ?_ | refine kA ?_ _)); exact BK143.out)) : gb145 ≠ gb143)); clear BK143; clear HB; have BK143 := n0_; have HB := n1_; have BK145 := n2_; have GW145 := n3_; have GE145 := n4_; have NB143_145 := n5_; have NB145_143 := n6_; clear n0_ n1_ n2_ n3_ n4_ n5_ n6_; clear hb hbox hg; have hnb20 := NB145_143.out; have hnc20 := NB143_145.out; have hcz21_0 : w19.cell? ⟨gb145, 0, none⟩ = some (.int .i64 0) := (blk_cell BK145.out 0).trans rfl; have hcz21_1 : w19.cell? ⟨gb145, 1, none⟩ = some (.int .i64 0) := (blk_cell BK145.out 1).trans rfl; have hcz21_2 : w19.cell? ⟨gb145, 2, none⟩ = some (.bool false) := (blk_cell BK145.out 2).trans rfl; have hfz21_0 := blk_frozen BK145.out 0; have hfz21_1 := blk_frozen BK145.out 1; have hfz21_2 := blk_frozen BK145.out 2))
           go_ret
           exact ⟨by first | rfl | (simp [errW_none, errW_some] <;> rfl) | (simp only [← hji12, ← hji17]; first | rfl | (simp [errW_none, errW_some] <;> rfl)) | (simp [*, errW_none, errW_some] <;> rfl), by repeat (first | (with_reducible first | exact HB.out | apply bA | apply bN | apply bD | refine bS ?_ GE143.out | refine bS ?_ GE145.out) | exact HB.out)⟩
          ·
           rw [if_neg c18] at H
           have c18b0 : decide ((ji17) < (-16384)) = false := decide_eq_false c18
           clear c18
           have H' := aM H
           clear H
           have p144 : 0 ≤ (x21_2 : Int) := dT (by assumption)
           have q144 : x21_2 < (l0_0.length : Int) := dT (by assumption)
           obtain ⟨ad144, e144, hx144_0, hx144_1, hx144_2⟩ := at_T33 HR0_0.out x21_2 p144 q144
           cases e144
           replace hx144_0 := (HB.out.cell (World.block_lt_of_cell? w _ hx144_0)).trans hx144_0
           replace hx144_1 := (HB.out.cell (World.block_lt_of_cell? w _ hx144_1)).trans hx144_1
           replace hx144_2 := (HB.out.cell (World.block_lt_of_cell? w _ hx144_2)).trans hx144_2
           replace p144 := eq_true p144
           replace q144 := eq_true q144
           go_wp2_with (first | ((with_reducible refine gate_dst (N := 4) rfl ?_); (try (refine gate_guard (by rfl) ?_; dsimp only)); refine box_event ?hg (N := 4) ?hd (cs := #[.int .i64 0, .int .i64 0, .bool false]) (t := 33) ?hr ?_; (case hd => rfl); (case hg => rfl); (case hr => first | (go_simp; done) | (go_simp; rfl)); intro gb145 hg w22 hbox hb; have n0_ := aM (blk_below (g := gb143) (o := .cells #[.slice (some ad144) l0_0.length c0_0, .slice A0_1 l0_1.length c0_1] 25 (0, 0)) (by (with_reducible repeat (first | refine kN ?_ _ | refine kD ?_ | refine kA ?_ _)); exact BK143.out) hb); have n1_ := aM (below_step (by repeat (first | (with_reducible first | exact HB.out | apply bA | apply bN | apply bD | refine bS ?_ GE143.out) | exact HB.out)) hb); have n2_ := aM (hbox); have n3_ := aM ((by rw [hg]; exact (below_size (by repeat (first | (with_reducible first | exact HB.out | apply bA | apply bN | apply bD | refine bS ?_ GE143.out) | exact HB.out))) : w.heap.size ≤ gb145)); have n4_ := aM ((by rw [hg]; exact (below_size (by repeat (first | (with_reducible first | exact HB.out | apply bA | apply bN | apply bD | refine bS ?_ GE143.out) | exact HB.out))) : w.heap.size ≤ gb145)); have n5_ := aM ((by rw [hg]; exact Nat.ne_of_lt (blk_lt (g := gb143) (o := .cells #[.slice (some ad144) l0_0.length c0_0, .slice A0_1 l0_1.length c0_1] 25 (0, 0)) (by (with_reducible repeat (first | refine kN ?_ _ | refine kD ?_ | refine kA ?_ _)); exact BK143.out)) : gb143 ≠ gb145)); have n6_ := aM ((by rw [hg]; exact Nat.ne_of_gt (blk_lt (g := gb143) (o := .cells #[.slice (some ad144) l0_0.length c0_0, .slice A0_1 l0_1.length c0_1] 25 (0, 0)) (by (with_reducible repeat (first | refine kN ?_ _ | refine kD ?_ | refine kA ?_ _)); exact BK143.out)) : gb145 ≠ gb143)); clear BK143; clear HB; have BK143 := n0_; have HB := n1_; have BK145 := n2_; have GW145 := n3_; have GE145 := n4_; have NB143_145 := n5_; have NB145_143 := n6_; clear n0_ n1_ n2_ n3_ n4_ n5_ n6_; clear hb hbox hg; have hnb23 := NB145_143.out; have hnc23 := NB143_145.out; have hcz24_0 : w22.cell? ⟨gb145, 0, none⟩ = some (.int .i64 0) := (blk_cell BK145.out 0).trans rfl; have hcz24_1 : w22.cell? ⟨gb145, 1, none⟩ = some (.int .i64 0) := (blk_cell BK145.out 1).trans rfl; have hcz24_2 : w22.cell? ⟨gb145, 2, none⟩ = some (.bool false) := (blk_cell BK145.out 2).trans rfl; have hfz24_0 := blk_frozen BK145.out 0; have hfz24_1 := blk_frozen BK145.out 1; have hfz24_2 := blk_frozen BK145.out 2))
           go_roundg k2
           case measure => have := HJ1.out; have := HK2.out; omega
           case rel => exact ⟨(wrap64 (x21_2 + 1)), (by first | rfl | (simp; done) | (simp [*]; done)), H', ⟨by have := HJ1.out; have := HK2.out; omega⟩, ⟨by (with_reducible repeat (first | refine kN ?_ _ | refine kD ?_ | refine kA ?_ _)); refine blk_far ?_ NB143_145.out _; (with_reducible repeat (first | refine kN ?_ _ | refine kD ?_ | refine kA ?_ _)); refine blk_far ?_ NB143_145.out _; (with_reducible repeat (first | refine kN ?_ _ | refine kD ?_ | refine kA ?_ _)); refine blk_far ?_ NB143_145.out _; (with_reducible repeat (first | refine kN ?_ _ | refine kD ?_ | refine kA ?_ _)); exact BK143.out⟩, ⟨by repeat (first | (with_reducible first | exact HB.out | apply bA | apply bN | apply bD | refine bS ?_ GE143.out | refine bS ?_ GE145.out) | exact HB.out)⟩⟩
        ·
         rw [if_neg c11] at H
         exact absurd H (by simp)
       ·
        rw [if_neg c10] at H
        exact absurd H (by simp)
      ·
       rw [if_neg c9] at H
       have c9b0 : decide (x21_2 < (l0_0.length : Int)) = false := decide_eq_false c9
       clear c9
       have H' := aM H
       clear H
       have hcz25_0 : wr.cell? ⟨gb143, 0, none⟩ = some (.slice A0_0 l0_0.length c0_0) := (blk_cell BK143.out 0).trans rfl
       have hcz25_1 : wr.cell? ⟨gb143, 1, none⟩ = some (.slice A0_1 l0_1.length c0_1) := (blk_cell BK143.out 1).trans rfl
       have hfz25_0 := blk_frozen BK143.out 0
       have hfz25_1 := blk_frozen BK143.out 1
       go_wp2
       go_loopg [5, 43] k2 (fun kq v5 v43 w' => ∃ (x5_3 : Int) (x43_3 : Int), v5 = .int .i64 x5_3 ∧ v43 = .int .i64 x43_3 ∧ Aside0 (outline_Right.l1 kq x5_3 l0_1 (l0_1.length : Int) x43_3 l0_0 l0_1 = some r) ∧ Aside0 (kq ≤ k2) ∧ Aside0 (w'.heap[gb143]? = some (.cells #[(.slice A0_0 l0_0.length c0_0), (.slice A0_1 l0_1.length c0_1)] 25 (0, 0))) ∧ Aside0 (Below w.heap.size w w'))
       case atStart => exact ⟨((-1)), (0), (by first | rfl | (simp; done) | (simp [*]; done)), (by first | rfl | (simp; done) | (simp [*]; done)), H', ⟨Nat.le_refl _⟩, ⟨by (with_reducible repeat (first | refine kN ?_ _ | refine kD ?_ | refine kA ?_ _)); exact BK143.out⟩, ⟨by repeat (first | (with_reducible first | exact HB.out | apply bA | apply bN | apply bD | refine bS ?_ GE143.out) | exact HB.out)⟩⟩
       case round =>
        clear H'
        try clear c1
        try clear p1
        try clear q1
        try clear hx1
        try clear c2
        try clear p2
        try clear c4
        try clear c4b0
        try clear c4b1
        try clear p6
        try clear c7
        try clear c9
        try clear c9b0
        try clear c10
        try clear c10b0
        try clear c11
        try clear c11b0
        try clear c13
        try clear c13b0
        try clear p14
        try clear q14
        try clear hx14
        try clear c15
        try clear c18
        try clear c18b0
        try clear c20
        try clear c22
        try clear c23
        try clear hcz16_0
        try clear hcz16_1
        try clear hcz16_2
        try clear hcz21_0
        try clear hcz21_1
        try clear hcz21_2
        try clear hcz24_0
        try clear hcz24_1
        try clear hcz24_2
        try clear hcz25_0
        try clear hcz25_1
        try clear hcz5_0
        try clear hcz5_1
        try clear hcz6_0
        try clear hcz6_1
        try clear hcz8_0
        try clear hcz8_1
        try clear hfz16_0
        try clear hfz16_1
        try clear hfz16_2
        try clear hfz21_0
        try clear hfz21_1
        try clear hfz21_2
        try clear hfz24_0
        try clear hfz24_1
        try clear hfz24_2
        try clear hfz25_0
        try clear hfz25_1
        try clear hfz5_0
        try clear hfz5_1
        try clear hfz6_0
        try clear hfz6_1
        try clear hfz8_0
        try clear hfz8_1
        try clear hx144_0
        try clear hx144_1
        try clear hx144_2
        try clear p144
        try clear p2
        try clear q144
        obtain ⟨x5_3, x43_3, rfl, rfl, HA, HK3, BK143, HB⟩ := hrel
        cases gk with
        | zero => exact absurd HA.out (by simp [outline_Right.l1])
        | succ k3 =>
         have H := HA.out
         clear HA
         simp only [outline_Right.l1] at H
         by_cases c26 : x43_3 < (l0_1.length : Int)
         ·
          rw [if_pos c26] at H
          have c26b0 : decide (x43_3 < (l0_1.length : Int)) = true := decide_eq_true c26
          clear c26
          by_cases c27 : 0 ≤ x43_3
          ·
           rw [if_pos c27] at H
           have c27b0 : decide (0 ≤ x43_3) = true := decide_eq_true c27
           clear c27
           by_cases c28 : x43_3 < (l0_1.length : Int)
           ·
            rw [if_pos c28] at H
            have c28b0 : decide (x43_3 < (l0_1.length : Int)) = true := decide_eq_true c28
            clear c28
            by_cases c29 : (rd l0_1 x43_3) < (wrap64 (x5_3 + 2))
            ·
             rw [if_pos c29] at H
             have c29b0 : decide ((rd l0_1 x43_3) < (wrap64 (x5_3 + 2))) = true := decide_eq_true c29
             clear c29
             obtain rfl := Option.some.inj H
             have p146 : 0 ≤ (x43_3 : Int) := dT (by assumption)
             have q146 : x43_3 < (l0_1.length : Int) := dT (by assumption)
             obtain ⟨ad146, e146, hx146_0⟩ := Kd.at_int HR0_1.out x43_3 p146 q146
             cases e146
             replace hx146_0 := (HB.out.cell (World.block_lt_of_cell? w _ hx146_0)).trans hx146_0
             replace p146 := eq_true p146
             replace q146 := eq_true q146
             go_wp2
             go_ret
             exact ⟨by first | rfl | (simp [errW_none, errW_some] <;> rfl) | (simp [*, errW_none, errW_some] <;> rfl), by repeat (first | (with_reducible first | exact HB.out | apply bA | apply bN | apply bD | refine bS ?_ GE143.out) | exact HB.out)⟩
            ·
             rw [if_neg c29] at H
             have c29b0 : decide ((rd l0_1 x43_3) < (wrap64 (x5_3 + 2))) = false := decide_eq_false c29
             clear c29
             by_cases c30 : (rd l0_1 x43_3) ≥ (l0_0.length : Int)
             ·
              rw [if_pos c30] at H
              have c30b0 : decide ((l0_0.length : Int) ≤ (rd l0_1 x43_3)) = true := decide_eq_true c30
              clear c30
              obtain rfl := Option.some.inj H
              have p146 : 0 ≤ (x43_3 : Int) := dT (by assumption)
              have q146 : x43_3 < (l0_1.length : Int) := dT (by assumption)
              obtain ⟨ad146, e146, hx146_0⟩ := Kd.at_int HR0_1.out x43_3 p146 q146
              cases e146
              replace hx146_0 := (HB.out.cell (World.block_lt_of_cell? w _ hx146_0)).trans hx146_0
              replace p146 := eq_true p146
              replace q146 := eq_true q146
              have hcz31_0 : wr.cell? ⟨gb143, 0, none⟩ = some (.slice A0_0 l0_0.length c0_0) := (blk_cell BK143.out 0).trans rfl
              have hcz31_1 : wr.cell? ⟨gb143, 1, none⟩ = some (.slice (some ad146) l0_1.length c0_1) := (blk_cell BK143.out 1).trans rfl
              have hfz31_0 := blk_frozen BK143.out 0
              have hfz31_1 := blk_frozen BK143.out 1
              go_wp2
              go_ret
              exact ⟨by first | rfl | (simp [errW_none, errW_some] <;> rfl) | (simp [*, errW_none, errW_some] <;> rfl), by repeat (first | (with_reducible first | exact HB.out | apply bA | apply bN | apply bD | refine bS ?_ GE143.out) | exact HB.out)⟩
             ·
              rw [if_neg c30] at H
              have c30b0 : decide ((l0_0.length : Int) ≤ (rd l0_1 x43_3)) = false := decide_eq_false c30
              clear c30
              have H' := aM H
              clear H
              have p146 : 0 ≤ (x43_3 : Int) := dT (by assumption)
              have q146 : x43_3 < (l0_1.length : Int) := dT (by assumption)
              obtain ⟨ad146, e146, hx146_0⟩ := Kd.at_int HR0_1.out x43_3 p146 q146
              cases e146
              replace hx146_0 := (HB.out.cell (World.block_lt_of_cell? w _ hx146_0)).trans hx146_0
              replace p146 := eq_true p146
              replace q146 := eq_true q146
              have hcz32_0 : wr.cell? ⟨gb143, 0, none⟩ = some (.slice A0_0 l0_0.length c0_0) := (blk_cell BK143.out 0).trans rfl
              have hcz32_1 : wr.cell? ⟨gb143, 1, none⟩ = some (.slice (some ad146) l0_1.length c0_1) := (blk_cell BK143.out 1).trans rfl
              have hfz32_0 := blk_frozen BK143.out 0
              have hfz32_1 := blk_frozen BK143.out 1
              go_wp2
              go_roundg k3
              case measure => have := HJ1.out; have := HK2.out; have := HK3.out; omega
              case rel => exact ⟨(rd l0_1 x43_3), (wrap64 (x43_3 + 1)), (by first | rfl | (simp; done) | (simp [*]; done)), (by first | rfl | (simp; done) | (simp [*]; done)), H', ⟨by have := HJ1.out; have := HK2.out; have := HK3.out; omega⟩, ⟨by (with_reducible repeat (first | refine kN ?_ _ | refine kD ?_ | refine kA ?_ _)); exact BK143.out⟩, ⟨by repeat (first | (with_reducible first | exact HB.out | apply bA | apply bN | apply bD | refine bS ?_ GE143.out) | exact HB.out)⟩⟩
           ·
            rw [if_neg c28] at H
            exact absurd H (by simp)
          ·
           rw [if_neg c27] at H
           exact absurd H (by simp)
         ·
          rw [if_neg c26] at H
          have c26b0 : decide (x43_3 < (l0_1.length : Int)) = false := decide_eq_false c26
          clear c26
          obtain rfl := Option.some.inj H
          have hcz33_0 : wr.cell? ⟨gb143, 0, none⟩ = some (.slice A0_0 l0_0.length c0_0) := (blk_cell BK143.out 0).trans rfl
          have hcz33_1 : wr.cell? ⟨gb143, 1, none⟩ = some (.slice A0_1 l0_1.length c0_1) := (blk_cell BK143.out 1).trans rfl
          have hfz33_0 := blk_frozen BK143.out 0
          have hfz33_1 := blk_frozen BK143.out 1
          go_wp2
          go_ret
          exact ⟨by first | rfl | (simp [errW_none, errW_some] <;> rfl) | (simp [*, errW_none, errW_some] <;> rfl), by repeat (first | (with_reducible first | exact HB.out | apply bA | apply bN | apply bD | refine bS ?_ GE143.out) | exact HB.out)⟩
end Go.Proofs.Ytbmklpcheopgoaa.H

namespace Go.Proofs.Ytbmklpcheopgoaa.H
open Go.RowKit Go.Proofs.YtbmklpcheopgoaaW.PrintWords Go.Proofs.YtbmklpcheopgoaaW.PrintLast Go.Proofs.YtbmklpcheopgoaaW.PrintMore
attribute [local go_sem] max2_int min2_int max_two min_two max_three min_three max_four min_four
set_option linter.unusedVariables false
set_option linter.unusedSimpArgs false
open Go.Proofs.YtbmklpcheopgoaaOps Go.Proofs.YtbmklpcheopgoaaIt Go.Proofs.YtbmklpcheopgoaaBlks Go.Shelf
attribute [local go_sem] Oper.semAt_some wide_depth wide_fn World.cell?_alloc_some
def areaStep (st : Int × S33) (b : S33) : Int × S33 := (wrap64 (st.1 + wrap64 (wrap64 (st.2.f0 * b.f1) - wrap64 (b.f0 * st.2.f1))), b)
def areaK (c : List S33) (n : Int) (k : Nat) : Int × S33 := (List.range k).foldl (fun st (j : Nat) => areaStep st (rd_T33 c (j : Int))) (n, rd_T33 c (c.length - 1))
def areaRow (c : List S33) (n : Int) : Int := (areaK c n c.length).1
def areaL (pts : List S33) (es : List Int) (k : Nat) : Int := ((cutsL es pts.length).take k).foldl (fun n c => areaRow (contourOf pts c) n) 0
theorem areaK_succ (c : List S33) (n : Int) (k : Nat) : areaK c n (k + 1) = areaStep (areaK c n k) (rd_T33 c k) := by simp [areaK, List.range_succ]
def areaPt (p : S33) : Obj := .cells #[.int .i64 p.f0, .int .i64 p.f1, .bool p.f2] 33 (0, 0)
set_option maxRecDepth 100000 in
set_option maxHeartbeats 4000000 in
theorem area_calls (A0 A1 : Option Addr) (c0 c1 : Nat) (pts : List S33) (es : List Int) (w : World) (hp : Kd.C k33 w A0 pts.length pts) (hc0 : pts.length ≤ c0) (hes : (Kd.int .i64).C w A1 es.length es) (hlim : pts.length ≤ 1000000) :
  Calls Try.prog 24 #[.agg #[.slice A0 pts.length c0, .slice A1 es.length c1]] w fun e w' => e = .returned (.int .i64 (areaL pts es (cutsL es pts.length).length)) ∧ Below w.heap.size w w' := by
 have hu := Try.underlying25
 have hu2 := Try.underlying33
 refine (callsIn_wide (n := 0)).1 (callsIn_of_wp_marks Try.func24 rfl trivial ?_ rfl)
 simp only [Try.ntmps24, List.size_toArray, List.length_cons, List.length_nil, Nat.reduceAdd, Nat.reduceSub, Array.replicate_succ, Array.replicate_zero, List.push_toArray, List.append_toArray, List.nil_append, List.cons_append]
 gi_wp2
 refine CallsIn.mono (contours_calls 0 _ _ _ _ _ _ _) ?_
 rintro e w' ⟨rfl, rfl⟩
 gi_wp2
 generalize hV : World.alloc (World.alloc (World.alloc w _) _) _ = V
 have hVs : V.heap.size = w.heap.size + 1 + 1 + 1 := by rw [← hV]; simp
 have hbV : Below w.heap.size w V := by rw [← hV]; exact (((Below.refl _ w).alloc (Nat.le_refl _) _).alloc (by simp) _).alloc (by simp; omega) _
 have hn1 : V.heap[w.heap.size + 1]? = some (.cells #[.int .i64 0] 3 (0, 0)) := by
  rw [← hV]; refine kA ?_ _; have := blk_new (w.alloc (.cells #[.slice A0 pts.length c0, .slice A1 es.length c1] 25)) (.cells #[.int .i64 0] 3); rwa [World.size_alloc] at this
 have hq1 : V.heap[w.heap.size + 1 + 1]? = some (.cells #[.slice A0 pts.length c0, .slice A1 es.length c1] 25 (0, 0)) := by
  rw [← hV]; have := blk_new ((w.alloc (.cells #[.slice A0 pts.length c0, .slice A1 es.length c1] 25)).alloc (.cells #[.int .i64 0] 3)) (.cells #[.slice A0 pts.length c0, .slice A1 es.length c1] 25); rwa [World.size_alloc, World.size_alloc] at this
 have hit := contours_it V (w.heap.size + 1 + 1) A0 A1 c0 c1 pts es hq1 (Kd.C_below hp hbV) (Kd.C_below hes hbV) hc0 hlim
 have hwV : w.heap.size + 1 < V.heap.size := by omega
 refine range_outer hit (by rfl) (fun args w => by simp [go_sem])
  (fun k own V' => (own (w.heap.size + 1) ∧ ∀ b, own b → w.heap.size ≤ b) ∧ V'.heap[w.heap.size + 1]? = some (.cells #[.int .i64 (areaL pts es k)] 3 (0, 0)) ∧ Below w.heap.size w V')
  (fun c k own V' => False)
  (fun b => b = w.heap.size + 1) ?_ ?_ ?_ ?_ ?_
  (fun k own a' V' => ∃ (c : Int × Int) (A : Option Addr) (cap : Nat), (cutsL es pts.length)[k]? = some c ∧ a' = ⟨#[.agg #[.slice A0 pts.length c0, .slice A1 es.length c1], .pointer (some ⟨w.heap.size, 0, none⟩), .int .i64 0, .pointer (some ⟨w.heap.size + 1, 0, none⟩), undef, .slice A (contourOf pts c).length cap, undef, undef, undef, .agg #[.slice A0 pts.length c0, .slice A1 es.length c1], .func (.func 54) #[] #[.pointer (some ⟨w.heap.size + 1 + 1, 0, none⟩)], .int .i64 k, .slice A (contourOf pts c).length cap, undef, undef, undef, undef, undef, undef, undef, undef, undef, undef, undef, undef, undef, undef, undef, undef, undef, undef, undef, undef, undef, undef, undef, undef, undef, undef, undef, undef], []⟩ ∧ (contourOf pts c).length ≤ cap ∧ Kd.C k33 V' A (contourOf pts c).length (contourOf pts c)) ?_ ?_ ?_ ?_ ?_
 ·
  rintro k own V1 V2 ⟨⟨h1, h2⟩, h3, h4⟩ hc
  exact ⟨⟨h1, h2⟩, hc.heap h3 (fun h => by omega), h4.trans (hc.below (Nat.le_trans (by omega) h4.size) (fun i hi h => by omega))⟩
 ·
  rintro c k own V1 V2 h hc
  exact h
 ·
  rintro k W args ⟨c, A, cap, _, rfl, _⟩
  rfl
 ·
  rintro b rfl
  refine ⟨by omega, fun hr => ?_⟩
  rcases hr with ⟨h0, ad, rfl, hr⟩ | ⟨h0, ad, rfl, hr⟩ | hr
  ·
   obtain ⟨ad', e, hx, _⟩ := at_T33 hp 0 (by omega) (by omega)
   cases e
   have := World.block_lt_of_cell? w _ hx
   rw [add_block] at this
   omega
  ·
   obtain ⟨ad', e, hx⟩ := Kd.at_int hes 0 (by omega) (by omega)
   cases e
   have := World.block_lt_of_cell? w _ hx
   rw [add_block] at this
   omega
  ·
   omega
 ·
  exact ⟨⟨rfl, fun b h => by omega⟩, hn1, hbV⟩
 ·
  rintro lc k own a' V1 o o' hlc ⟨c, A, cap, hk, ha, hc, hC⟩ ho hcells
  refine ⟨c, A, cap, hk, ha, hc, hC.1, hC.2.1, fun hn => ?_⟩
  obtain ⟨ad, e, hx⟩ := hC.2.2 hn
  refine ⟨ad, e, fun i x hi => ?_⟩
  obtain ⟨cs, q1, q2, q3⟩ := hx i x hi
  refine ⟨cs, q1, flat_point _ _ _ _ q2, fun j u hu => ?_⟩
  have hcell := q3 j u hu
  refine Eq.trans (World.cell?_of_block (World.putObj_heap_other ?_)) hcell
  intro hl
  unfold World.cell? at hcell
  rw [hl] at hcell
  rw [ho] at hcell
  cases o <;> simp_all [Obj.isCells]
 ·
  rintro lc n k own args V1 hlc ⟨⟨h1, h2⟩, h3, h4⟩ how hlt hno hk ⟨c, A, cap, hkc, rfl, hcap, hC, _⟩ _
  gi_wp2
  exact ⟨own, GrowG.refl _ _ _, how, Chg.refl _ _, ⟨⟨h1, h2⟩, h3, h4⟩, c, A, cap, hkc, rfl, hcap, hC⟩
 ·
  rintro lc n k own a' V1 hlc ⟨⟨h1, h2⟩, h3, h4⟩ how ⟨rl, hrl⟩ hno hk ⟨c, A, cap, hkc, rfl, hcap, hC⟩
  obtain ⟨m1, m2, m3⟩ := cutsF_mem es pts.length 0 k c hkc
  have hlenc : (contourOf pts c).length = c.2.toNat - c.1.toNat := by simp [contourOf]; omega
  have hpos : 0 < (contourOf pts c).length := by omega
  obtain ⟨ad, e0, x0, x1, x2⟩ := at_T33 hC (((contourOf pts c).length : Int) - 1) (by omega) (by omega)
  subst e0
  have hsub : areaL pts es (k + 1) = areaRow (contourOf pts c) (areaL pts es k) := by
   simp [areaL, List.take_add_one, hkc]
  have hidx : (((contourOf pts c).length : Int) - 1).toNat = (contourOf pts c).length - 1 := by omega
  rw [hidx] at x0 x1 x2
  clear hlenc hidx m1 m2 m3
  generalize hrow : contourOf pts c = row at *
  have HROW := Lib.hid hrow
  have hmx := Kd.C_max hC
  clear hrow
  have hB0 : Blks [(w.heap.size + 1, .cells #[.int .i64 (areaL pts es k)] 3 (0, 0))] V1 := (Blks.nil V1).add h3 (by simp)
  have hadw : ad.block ≠ w.heap.size + 1 := by
   intro hh
   rw [add_block, hh] at x2
   rw [hB0.cell 0 rfl] at x2
   simp at x2
  have hHB := Lib.hid hB0
  clear hB0
  have hn := blk_cell h3 0
  have hnf := blk_frozen h3 0
  simp at hn
  gi_wp2
  have hB1 := hHB.out.alloc (areaPt (rd_T33 row (row.length - 1)))
  have hadV : ad.block < V1.heap.size := by have := World.block_lt_of_cell? V1 _ x0; rwa [add_block] at this
  clear hn hnf x0 x1 x2
  gi_loopw [8, 21] (fun _ v21 wr => ∃ i : Nat, i ≤ row.length ∧ v21 = .int .i64 i ∧ Aside0 (Blks [(V1.heap.size, areaPt (areaK row (areaL pts es k) i).2), (w.heap.size + 1, .cells #[.int .i64 (areaK row (areaL pts es k) i).1] 3 (0, 0))] wr ∧ Chg (fun b => b = w.heap.size + 1) V1 wr))
   (fun _ v21 _ => row.length - (intOf v21).toNat)
  case atStart => exact ⟨0, by omega, rfl, ⟨hB1, (Chg.refl _ _).alloc _⟩⟩
  case round =>
   obtain ⟨i, hi, rfl, ⟨hB, hC1⟩⟩ := hrel
   by_cases hlt : i < row.length
   ·
    obtain ⟨ad', e1, y0, y1, y2⟩ := at_T33 hC (i : Int) (by omega) (by omega)
    cases e1
    simp only [Int.toNat_natCast] at y0 y1 y2
    replace y0 := (hC1.cell (by rw [add_block]; exact hadV) (by rw [add_block]; exact hadw)).trans y0
    replace y1 := (hC1.cell (by rw [add_block]; exact hadV) (by rw [add_block]; exact hadw)).trans y1
    replace y2 := (hC1.cell (by rw [add_block]; exact hadV) (by rw [add_block]; exact hadw)).trans y2
    have hst := Lib.hid (areaK_succ row (areaL pts es k) i)
    have g0 := hB.cell 0 rfl 0
    have g1 := hB.cell 0 rfl 1
    have g2 := hB.cell 0 rfl 2
    have g3 := hB.cell 1 rfl 0
    have f0 := hB.free 0 rfl 0
    have f1 := hB.free 0 rfl 1
    have f2 := hB.free 0 rfl 2
    have f3 := hB.free 1 rfl 0
    simp at g0 g1 g2 g3
    have q1 := (hB.lt (w.heap.size + 1) (by simp))
    have q2 := (hB.lt V1.heap.size (by simp))
    have q3 : ¬ (V1.heap.size = w.heap.size + 1) := by have := hB.nd; simpa using this
    have q4 : ¬ (w.heap.size + 1 = V1.heap.size) := fun h => q3 h.symm
    have q5 : ¬ (w.heap.size + 1 = wr.heap.size) := by omega
    have q6 : ¬ (V1.heap.size = wr.heap.size) := by omega
    have q7 : ¬ (wr.heap.size = w.heap.size + 1) := by omega
    have q8 : ¬ (wr.heap.size = V1.heap.size) := by omega
    have HBB := Lib.hid hB
    have HCC := Lib.hid hC1
    clear hB hC1
    gi_wp2
    refine ⟨⟨i + 1, by omega, by simp, ⟨?_, ?_⟩⟩, by simp [intOf]; omega⟩
    ·
     rw [hst.out]
     exact (((((HBB.out.set 1 rfl 0 _).set 0 rfl 0 _).set 0 rfl 1 _).set 0 rfl 2 _).alloc _).tail
    ·
     exact ((((HCC.out.setCell (p := ⟨w.heap.size + 1, 0, none⟩) (fun _ => rfl) _).setCell (p := ⟨V1.heap.size, 0, none⟩) (fun h => absurd h (Nat.lt_irrefl _)) _).setCell (p := ⟨V1.heap.size, 1, none⟩) (fun h => absurd h (Nat.lt_irrefl _)) _).setCell (p := ⟨V1.heap.size, 2, none⟩) (fun h => absurd h (Nat.lt_irrefl _)) _).alloc _
   ·
    obtain rfl : i = row.length := by omega
    gi_wp2
    exact ⟨own, Grow.refl _ _, fun b h => hC1.lt (how b h), hC1.mono (fun b _ hb => by subst hb; exact h1), ⟨h1, h2⟩, by rw [hsub]; exact hB.blk 1 rfl, h4.trans (hC1.below (B := w.heap.size) h4.size (fun i hi h => by omega))⟩
 ·
  rintro D own V1 hD how hnD ⟨⟨h1, h2⟩, h3, h4⟩ hdef
  have hc := blk_cell h3 0
  simp at hc
  gi_wp2
  refine leaves_collected hdef fun V2 hc => ⟨.int .i64 (areaL pts es (cutsL es pts.length).length), by simp [results, Try.f24, go_sem], rfl, h4.trans (hc.below (Nat.le_trans (Nat.le_refl _) h4.size) (fun i hi h => by omega))⟩
 ·
  rintro D c k own V1 _ _ _ _ h
  exact h.elim
def outline_Area.f (l0_0 : List S33) (l0_1 : List Int) : Option Int :=
 if l0_0.length ≤ 1000000 then some (areaL l0_0 l0_1 (cutsL l0_1 l0_0.length).length) else none
theorem outline_Area.calls (A0_0 : Option Addr) (c0_0 : Nat) (l0_0 : List (S33)) (A0_1 : Option Addr) (c0_1 : Nat) (l0_1 : List Int) (r : Int) (w : World) (hr0_0 : Kd.C k33 w A0_0 l0_0.length l0_0) (hc0_0 : l0_0.length ≤ c0_0) (hr0_1 : Kd.C (Kd.int .i64) w A0_1 l0_1.length l0_1) (hc0_1 : l0_1.length ≤ c0_1) (h : outline_Area.f l0_0 l0_1 = some r) :
  Calls Try.prog 24 #[.agg #[.slice A0_0 l0_0.length c0_0, .slice A0_1 l0_1.length c0_1]] w fun e w' => e = .returned (.int .i64 r) ∧ Below w.heap.size w w' := by
 unfold outline_Area.f at h
 split at h
 ·
  rename_i hl
  simp only [Option.some.injEq] at h
  subst h
  exact area_calls A0_0 A0_1 c0_0 c0_1 l0_0 l0_1 w hr0_0 hc0_0 hr0_1 hl
 ·
  cases h
end Go.Proofs.Ytbmklpcheopgoaa.H

namespace Go.Proofs.Ytbmklpcheopgoaa.H
open Go.RowKit Go.Proofs.YtbmklpcheopgoaaW.PrintWords Go.Proofs.YtbmklpcheopgoaaW.PrintLast Go.Proofs.YtbmklpcheopgoaaW.PrintMore
attribute [local go_sem] max2_int min2_int max_two min_two max_three min_three max_four min_four
set_option linter.unusedVariables false
set_option linter.unusedSimpArgs false
def outline_clone.f (l0_0 : List (S33)) (l0_1 : List Int) : Option ((List (S33)) × List Int) := if ([] : List (S33)).length + l0_0.length < 5864062014805 then (if ([] : List Int).length + l0_1.length < 17592186044416 then (some ((([] : List (S33)) ++ l0_0), (([] : List Int) ++ l0_1))) else (none)) else (none)
def outline_clone.T1 : Bool × List (List Nat × List Nat) := (true, [([], []), ([0], [0]), ([1], [1]), ([], []), ([3], [3]), ([4, 2], [4]), ([2, 5], [2, 5]), ([6, 5, 0, 1, 2, 3, 4, 5, 6], [6])])
def outline_clone.B1 : List Nat := [0, 1, 3, 0, 8, 31, 63, 127]
theorem outline_clone.tab1 : rtab .any (opsOf Try.f45 1) = outline_clone.T1 := by kernel_rfl
theorem outline_clone.bits1 : waitsOk outline_clone.T1.2 outline_clone.B1 = true := by kernel_rfl
set_option maxHeartbeats 8000000 in
set_option maxRecDepth 100000 in
theorem outline_clone.calls (A0_0 : Option Addr) (c0_0 : Nat) (l0_0 : List (S33)) (A0_1 : Option Addr) (c0_1 : Nat) (l0_1 : List Int) (r1 : List (S33)) (r2 : List Int) (w : World) (hr0_0 : Kd.C k33 w A0_0 l0_0.length l0_0) (hc0_0 : l0_0.length ≤ c0_0) (hr0_1 : Kd.C (Kd.int .i64) w A0_1 l0_1.length l0_1) (hc0_1 : l0_1.length ≤ c0_1) (h : outline_clone.f l0_0 l0_1 = some (r1, r2)) :
  Calls Try.prog 45 #[.agg #[.slice A0_0 l0_0.length c0_0, .slice A0_1 l0_1.length c0_1]] w fun e w' => ∃ v0_ v1_ : Value, e = .returned (.agg #[v0_, v1_]) ∧ Kd.R k33 33 w' w.heap.size (fun _ => True) v0_ r1 ∧ Kd.R (Kd.int .i64) 3 w' w.heap.size (fun _ => True) v1_ r2 ∧ Below w.heap.size w w' := by
 have hu25 := Try.underlying25
 have HR0_0 := aM hr0_0
 have HC0_0 := aM hc0_0
 clear hr0_0 hc0_0
 have HR0_1 := aM hr0_1
 have HC0_1 := aM hc0_1
 clear hr0_1 hc0_1
 have HB := aM (Below.refl w.heap.size w)
 have H : (if ([] : List (S33)).length + l0_0.length < 5864062014805 then (if ([] : List Int).length + l0_1.length < 17592186044416 then (some ((([] : List (S33)) ++ l0_0), (([] : List Int) ++ l0_1))) else (none)) else (none)) = some (r1, r2) := h
 clear h
 by_cases c2 : ([] : List (S33)).length + l0_0.length < 5864062014805
 ·
  rw [if_pos c2] at H
  have LMc2 := aM c2
  clear c2
  obtain ⟨y149, hy149⟩ : ∃ y_ : List (S33), y_ = (([] : List (S33)) ++ l0_0) := ⟨_, rfl⟩
  replace H : (if ([] : List Int).length + l0_1.length < 17592186044416 then (some (y149, (([] : List Int) ++ l0_1))) else (none)) = some (r1, r2) := by first | (rw [hy149]; with_reducible exact H) | (have H2_ := (Option.bind_some _ _).symm.trans H; rw [hy149]; with_reducible exact H2_) | (have H2_ := (Option.bind_some _ _).symm.trans H; with_reducible exact H2_) | with_reducible exact H | (rw [hy149]; exact H) | exact H
  have Ny149 := aM hy149
  clear hy149
  by_cases c3 : ([] : List Int).length + l0_1.length < 17592186044416
  ·
   rw [if_pos c3] at H
   have LMc3 := aM c3
   clear c3
   obtain ⟨y152, hy152⟩ : ∃ y_ : List Int, y_ = (([] : List Int) ++ l0_1) := ⟨_, rfl⟩
   replace H : (some (y149, y152)) = some (r1, r2) := by first | (rw [hy152]; with_reducible exact H) | (have H2_ := (Option.bind_some _ _).symm.trans H; rw [hy152]; with_reducible exact H2_) | (have H2_ := (Option.bind_some _ _).symm.trans H; with_reducible exact H2_) | with_reducible exact H | (rw [hy152]; exact H) | exact H
   have Ny152 := aM hy152
   clear hy152
   simp only [Option.some.injEq, Prod.mk.injEq] at H
   obtain ⟨rfl, rfl⟩ := H
   go_enter Try.func45, Try.ntmps45
   try go_wp2_with (first | ((with_reducible refine gate_dst (N := 1) rfl ?_); refine box_event ?hg (N := 1) ?hd (cs := #[.slice A0_0 l0_0.length c0_0, .slice A0_1 l0_1.length c0_1]) (t := 25) ?hr ?_; (case hd => rfl); (case hg => rfl); (case hr => first | (go_simp; done) | (go_simp; rfl)); intro gb147 hg w4 hbox hb; have n0_ := aM (below_step (by repeat (first | (with_reducible first | exact HB.out | apply bA | apply bN | apply bD) | exact HB.out)) hb); have n1_ := aM (hbox); have n2_ := aM ((by rw [hg]; exact (below_size (by repeat (first | (with_reducible first | exact HB.out | apply bA | apply bN | apply bD) | exact HB.out))) : w.heap.size ≤ gb147)); have n3_ := aM ((by rw [hg]; exact (below_size (by repeat (first | (with_reducible first | exact HB.out | apply bA | apply bN | apply bD) | exact HB.out))) : w.heap.size ≤ gb147)); clear HB; have HB := n0_; have BK147 := n1_; have GW147 := n2_; have GE147 := n3_; clear n0_ n1_ n2_ n3_; clear hb hbox hg) | ((with_reducible refine gate_dst (N := 2) rfl ?_); refine box_event ?hg (N := 2) ?hd (cs := #[.slice none 0 0, .slice none 0 0]) (t := 25) ?hr ?_; (case hd => rfl); (case hg => rfl); (case hr => first | (go_simp; done) | (go_simp; rfl)); intro gb148 hg w5 hbox hb; have n0_ := aM (blk_below (g := gb147) (o := .cells #[.slice A0_0 l0_0.length c0_0, .slice A0_1 l0_1.length c0_1] 25 (0, 0)) (by (with_reducible repeat (first | refine kN ?_ _ | refine kD ?_ | refine kA ?_ _)); exact BK147.out) hb); have n1_ := aM (below_step (by repeat (first | (with_reducible first | exact HB.out | apply bA | apply bN | apply bD | refine bS ?_ GE147.out) | exact HB.out)) hb); have n2_ := aM (hbox); have n3_ := aM ((by rw [hg]; exact (below_size (by repeat (first | (with_reducible first | exact HB.out | apply bA | apply bN | apply bD | refine bS ?_ GE147.out) | exact HB.out))) : w.heap.size ≤ gb148)); have n4_ := aM ((by rw [hg]; exact (below_size (by repeat (first | (with_reducible first | exact HB.out | apply bA | apply bN | apply bD | refine bS ?_ GE147.out) | exact HB.out))) : w.heap.size ≤ gb148)); have n5_ := aM ((by rw [hg]; exact Nat.ne_of_lt (blk_lt (g := gb147) (o := .cells #[.slice A0_0 l0_0.length c0_0, .slice A0_1 l0_1.length c0_1] 25 (0, 0)) (by (with_reducible repeat (first | refine kN ?_ _ | refine kD ?_ | refine kA ?_ _)); exact BK147.out)) : gb147 ≠ gb148)); have n6_ := aM ((by rw [hg]; exact Nat.ne_of_gt (blk_lt (g := gb147) (o := .cells #[.slice A0_0 l0_0.length c0_0, .slice A0_1 l0_1.length c0_1] 25 (0, 0)) (by (with_reducible repeat (first | refine kN ?_ _ | refine kD ?_ | refine kA ?_ _)); exact BK147.out)) : gb148 ≠ gb147)); clear BK147; clear HB; have BK147 := n0_; have HB := n1_; have BK148 := n2_; have GW148 := n3_; have GE148 := n4_; have NB147_148 := n5_; have NB148_147 := n6_; clear n0_ n1_ n2_ n3_ n4_ n5_ n6_; clear hb hbox hg))
   have n0_ := aM (kD BK147.out)
   have n1_ := aM (kD BK148.out)
   have n2_ := aM (bD HB.out)
   clear BK147
   clear BK148
   clear HB
   have BK147 := n0_
   have BK148 := n1_
   have HB := n2_
   clear n0_ n1_ n2_
   refine start_ (n := 8) (S := fun w' => w'.cell? ⟨gb147, 0, none⟩ = some (.slice A0_0 l0_0.length c0_0) ∧ w'.cell? ⟨gb147, 1, none⟩ = some (.slice A0_1 l0_1.length c0_1)) (ds := []) #[false, false, false, false, false, false, false, false] (by kernel_rfl) rfl rfl ⟨(blk_cell BK147.out 0).trans rfl, (blk_cell BK147.out 1).trans rfl⟩ (fun hHeld => ?_); refine with_tabW outline_clone.tab1 outline_clone.bits1 (fun HT_ HW_ => ?_)
   generalize w5.drew = w6 at BK147 BK148 HB hHeld ⊢
   refine pure_ (i := 0) (N := some 3) (v := ?_) (a' := ?_) #[true, false, false, false, false, false, false, false] rfl rfl (any_of HT_.out (by kernel_rfl)) (fun _ _ _ h => h) (Or.inl ⟨by rfl, ?_⟩) ?_ ?_
   rotate_left
   ·
    intro w'
    go_simp
    with_reducible rfl
   rotate_left
   ·
    simp only [Act.put, List.setIfInBounds_toArray, List.set_cons_zero, List.set_cons_succ, i64_w, i32_w]
    rfl
   refine pure_ (i := 3) (N := some 6) (v := ?_) (a' := ?_) #[true, false, false, true, false, false, false, false] rfl rfl (any_of HT_.out (by kernel_rfl)) (fun _ _ _ h => h) (Or.inl ⟨by rfl, ?_⟩) ?_ ?_
   rotate_left
   ·
    intro w'
    go_simp
    with_reducible rfl
   rotate_left
   ·
    simp only [Act.put, List.setIfInBounds_toArray, List.set_cons_zero, List.set_cons_succ, i64_w, i32_w]
    rfl
   refine take_ (i := 1) (N := some 4) (v := ?_) (a' := ?_) #[true, true, false, true, false, false, false, false] rfl rfl (take_ofW HT_.out HW_.out (by kernel_rfl)) (fun _ _ _ h => h) (Or.inl ⟨by rfl, ?_⟩) hHeld ?_ ?_
   rotate_left
   ·
    rintro w' ⟨s0, s1⟩
    go_simp
    with_reducible rfl
   rotate_left
   ·
    simp only [Act.put, List.setIfInBounds_toArray, List.set_cons_zero, List.set_cons_succ, i64_w, i32_w]
    rfl
   refine take_ (i := 4) (N := some 7) (v := ?_) (a' := ?_) #[true, true, false, true, true, false, false, false] rfl rfl (take_ofW HT_.out HW_.out (by kernel_rfl)) (fun _ _ _ h => h) (Or.inl ⟨by rfl, ?_⟩) hHeld ?_ ?_
   rotate_left
   ·
    rintro w' ⟨s0, s1⟩
    go_simp
    with_reducible rfl
   rotate_left
   ·
    simp only [Act.put, List.setIfInBounds_toArray, List.set_cons_zero, List.set_cons_succ, i64_w, i32_w]
    rfl
   refine one_ (i := 2) (N := some 5) #[true, true, true, true, true, false, false, false] rfl rfl (one_of HT_.out (by kernel_rfl)) (by decide) (fun K hK => ?_)
   refine Kd.R_append_rows_step k33 (w0 := w) w.heap.size (by rfl) (.const (.slice none 0 0)) (.tmp 4) 22 33 (.agg #[(.int .i64 0), (.int .i64 0), (.bool false)]) 24 rfl Try.underlying22 info33 rfl (by decide) (by omega) (.slice none 0 0) ([] : List (S33)) l0_0 _ _ _ (fun _ => True) (fun _ => False) rfl rfl ?aO ?aR (fun _ _ h => h) (fun _ h => h.elim) ?aF ?aB ?aS ?aL ?_
   (case aR => repeat (first | exact (Kd.C_below HR0_0.out HB.out) | (with_reducible refine Kd.C_alloc ?_ _) | (with_reducible refine Kd.C_drewN ?_ _) | (with_reducible refine Kd.C_drew ?_)))
   (case aB => exact (by repeat (first | (with_reducible first | exact HB.out | apply bA | apply bN | apply bD | refine bS ?_ GE147.out | refine bS ?_ GE148.out) | exact HB.out)))
   (case aF => exact (fun _ _ => trivial))
   (case aO => exact ((Kd.R_nil _ _ _ _ (fun _ => True))))
   (case aS => exact (below_size (by repeat (first | (with_reducible first | exact HB.out | apply bA | apply bN | apply bD | refine bS ?_ GE147.out | refine bS ?_ GE148.out) | exact HB.out))))
   (case aL => have := LMc2.out; omega)
   intro v150 w7 ho hb hg hat
   rw [← Ny149.out] at ho
   have n0_ := aM (blk_grown (g := gb147) (o := .cells #[.slice A0_0 l0_0.length c0_0, .slice A0_1 l0_1.length c0_1] 25 (0, 0)) (by (with_reducible repeat (first | refine kN ?_ _ | refine kD ?_ | refine kA ?_ _)); exact BK147.out) hg (by simp [Value.ownBlock]))
   have n1_ := aM (blk_grown (g := gb148) (o := .cells #[.slice none 0 0, .slice none 0 0] 25 (0, 0)) (by (with_reducible repeat (first | refine kN ?_ _ | refine kD ?_ | refine kA ?_ _)); exact BK148.out) hg (by simp [Value.ownBlock]))
   have n2_ := aM (hb)
   have n3_ := aM (ho)
   clear BK147
   clear BK148
   clear HB
   have BK147 := n0_
   have BK148 := n1_
   have HB := n2_
   have HO151 := n3_
   clear n0_ n1_ n2_ n3_
   clear ho hb hg hat
   refine hK.out _ _ ⟨(blk_cell BK147.out 0).trans rfl, (blk_cell BK147.out 1).trans rfl⟩ (fun hHeld => ?_)
   clear hK K
   refine norm_ (a' := ?_) ?_ ?_
   rotate_left
   ·
    show Act.put _ (some 5) _ = _
    simp only [Act.put, List.setIfInBounds_toArray, List.set_cons_zero, List.set_cons_succ, i64_w, i32_w]
    rfl
   refine one_ (i := 5) (N := some 8) #[true, true, true, true, true, true, false, false] rfl rfl (one_of HT_.out (by kernel_rfl)) (by decide) (fun K hK => ?_)
   refine Kd.R_append_rows_step (Kd.int .i64) (w0 := w) w.heap.size (by rfl) (.const (.slice none 0 0)) (.tmp 7) 23 3 (.int .i64 0) 8 rfl Try.underlying23 info3 rfl (by decide) (by omega) (.slice none 0 0) ([] : List Int) l0_1 _ _ _ (fun _ => True) (fun _ => False) rfl rfl ?aO ?aR (fun _ _ h => h) (fun _ h => h.elim) ?aF ?aB ?aS ?aL ?_
   (case aR => repeat (first | exact (Kd.C_below HR0_1.out HB.out) | (with_reducible refine Kd.C_alloc ?_ _) | (with_reducible refine Kd.C_drewN ?_ _) | (with_reducible refine Kd.C_drew ?_)))
   (case aB => exact (by repeat (first | (with_reducible first | exact HB.out | apply bA | apply bN | apply bD | refine bS ?_ GE147.out | refine bS ?_ GE148.out) | exact HB.out)))
   (case aF => exact (fun _ _ => trivial))
   (case aO => exact ((Kd.R_nil _ _ _ _ (fun _ => True))))
   (case aS => exact (below_size (by repeat (first | (with_reducible first | exact HB.out | apply bA | apply bN | apply bD | refine bS ?_ GE147.out | refine bS ?_ GE148.out) | exact HB.out))))
   (case aL => have := LMc3.out; omega)
   intro v153 w8 ho hb hg hat
   rw [← Ny152.out] at ho
   have n0_ := aM (blk_grown (g := gb147) (o := .cells #[.slice A0_0 l0_0.length c0_0, .slice A0_1 l0_1.length c0_1] 25 (0, 0)) (by (with_reducible repeat (first | refine kN ?_ _ | refine kD ?_ | refine kA ?_ _)); exact BK147.out) hg (by simp [Value.ownBlock]))
   have n1_ := aM (blk_grown (g := gb148) (o := .cells #[.slice none 0 0, .slice none 0 0] 25 (0, 0)) (by (with_reducible repeat (first | refine kN ?_ _ | refine kD ?_ | refine kA ?_ _)); exact BK148.out) hg (by simp [Value.ownBlock]))
   have n2_ := aM (Kd.R_grown (by (with_reducible repeat (first | apply Kd.R_alloc | apply Kd.R_drewN | apply Kd.R_drew)); exact HO151.out) hg (fun _ _ => by simp [Value.ownBlock]))
   have n3_ := aM (hb)
   have n4_ := aM (ho)
   clear BK147
   clear BK148
   clear HO151
   clear HB
   have BK147 := n0_
   have BK148 := n1_
   have HO151 := n2_
   have HB := n3_
   have HO154 := n4_
   clear n0_ n1_ n2_ n3_ n4_
   clear ho hb hg hat
   obtain ⟨Ao9, co9, eo9⟩ := Kd.R_slice HO154.out
   (first | subst eo9 | (injection eo9 with f1_ f2_ f3_; have f4_ := f1_.symm; have f5_ := f3_.symm; clear f1_ f2_ f3_; subst f4_; subst f5_))
   obtain ⟨Ao10, co10, eo10⟩ := Kd.R_slice HO151.out
   (first | subst eo10 | (injection eo10 with f1_ f2_ f3_; have f4_ := f1_.symm; have f5_ := f3_.symm; clear f1_ f2_ f3_; subst f4_; subst f5_))
   refine hK.out _ _ ⟨(blk_cell BK147.out 0).trans rfl, (blk_cell BK147.out 1).trans rfl⟩ (fun hHeld => ?_)
   clear hK K
   refine norm_ (a' := ?_) ?_ ?_
   rotate_left
   ·
    show Act.put _ (some 8) _ = _
    simp only [Act.put, List.setIfInBounds_toArray, List.set_cons_zero, List.set_cons_succ, i64_w, i32_w]
    rfl
   refine pure_ (i := 6) (N := some 9) (v := ?_) (a' := ?_) #[true, true, true, true, true, true, true, false] rfl rfl (any_of HT_.out (by kernel_rfl)) (fun _ _ _ h => h) (Or.inl ⟨by rfl, ?_⟩) ?_ ?_
   rotate_left
   ·
    intro w'
    go_simp
    with_reducible rfl
   rotate_left
   ·
    simp only [Act.put, List.setIfInBounds_toArray, List.set_cons_zero, List.set_cons_succ, i64_w, i32_w]
    rfl
   refine one_ (i := 7) (N := none) #[true, true, true, true, true, true, true, true] rfl rfl (one_of HT_.out (by kernel_rfl)) (by decide) (fun K hK => ?_)
   have hs11 : w8.cell? ⟨gb148, 0, none⟩ = some (.slice none 0 0) := (blk_cell BK148.out 0).trans rfl
   have hfs11 := blk_frozen BK148.out 0
   have hns11_0 := NB147_148.out
   have hms11_0 := NB148_147.out
   have hs12 : w8.cell? ⟨gb148, 1, none⟩ = some (.slice none 0 0) := (blk_cell BK148.out 1).trans rfl
   have hfs12 := blk_frozen BK148.out 1
   have hns12_0 := NB147_148.out
   have hms12_0 := NB148_147.out
   refine skip_ (w1 := ?_) (by rfl) rfl ?_ ?_
   rotate_left
   ·
    go_simp
    rfl
   refine hK.out _ _ ⟨((cell_far (p := ⟨gb148, _, none⟩) NB147_148.out _).trans (((cell_far (p := ⟨gb148, _, none⟩) NB147_148.out _).trans (hHeld.1)))), ((cell_far (p := ⟨gb148, _, none⟩) NB147_148.out _).trans (((cell_far (p := ⟨gb148, _, none⟩) NB147_148.out _).trans (hHeld.2))))⟩ (fun hHeld => ?_)
   clear hK K
   refine done_ (done_of HT_.out (by kernel_rfl)) ?_
   try go_wp2
   refine bodyPost_ret (results_cell_row rfl _ _ gb148 25 #[.slice Ao10 y149.length co10, .slice Ao9 y152.length co9] (0, 0) _ rfl (by (with_reducible repeat (first | refine kN ?_ _ | refine kD ?_ | refine kA ?_ _)); refine blk_put (cs := #[.slice Ao10 y149.length co10, .slice none 0 0]) ?_ 1 _ rfl; (with_reducible repeat (first | refine kN ?_ _ | refine kD ?_ | refine kA ?_ _)); refine blk_put (cs := #[.slice none 0 0, .slice none 0 0]) ?_ 0 _ rfl; (with_reducible repeat (first | refine kN ?_ _ | refine kD ?_ | refine kA ?_ _)); exact BK148.out) Try.underlying25 rfl (by kernel_rfl)) rfl ?_
   exact ⟨_, _, by first | rfl | (simp [errW_none, errW_some] <;> rfl) | (simp [*, errW_none, errW_some] <;> rfl), by (with_reducible repeat (first | apply Kd.R_alloc | apply Kd.R_drewN | apply Kd.R_drew)); exact Kd.R_mono (Kd.R_far (p := ⟨gb148, 1, none⟩) (Kd.R_far (p := ⟨gb148, 0, none⟩) (Kd.R_types HO151.out BK148.out (by decide)) (fun _ hk => hk.2) (.slice Ao10 y149.length co10)) (fun _ hk => hk.2) (.slice Ao9 y152.length co9)) (fun _ hk => trivial), by (with_reducible repeat (first | apply Kd.R_alloc | apply Kd.R_drewN | apply Kd.R_drew)); exact Kd.R_mono (Kd.R_far (p := ⟨gb148, 1, none⟩) (Kd.R_far (p := ⟨gb148, 0, none⟩) (Kd.R_types HO154.out BK148.out (by decide)) (fun _ hk => hk.2) (.slice Ao10 y149.length co10)) (fun _ hk => hk.2) (.slice Ao9 y152.length co9)) (fun _ hk => trivial), by repeat (first | (with_reducible first | exact HB.out | apply bA | apply bN | apply bD | refine bS ?_ GE147.out | refine bS ?_ GE148.out) | exact HB.out)⟩
  ·
   rw [if_neg c3] at H
   exact absurd H (by simp)
 ·
  rw [if_neg c2] at H
  exact absurd H (by simp)
def outline_Moved.l0 : Nat → Int → Int → Int → Int → List (S33) → List Int → Option ((List (S33)) × List Int)
 | 0, _, _, _, _, _, _ => none
 | k + 1, x1, x2, x13, x14, x164000, x164001 => if x14 < x13 then (if 0 ≤ x14 then (if x14 < (x164000.length : Int) then ((some (x164000.set (x14 : Int).toNat (⟨wrap64 (((rd_T33 x164000 x14).f0) + x1), (rd_T33 x164000 x14).f1, (rd_T33 x164000 x14).f2⟩ : S33) : List (S33))).bind fun y165 => (outline_Moved.l0 k x1 x2 x13 (wrap64 (x14 + 1)) (y165.set (x14 : Int).toNat (⟨(rd_T33 y165 x14).f0, wrap64 (((rd_T33 y165 x14).f1) + x2), (rd_T33 y165 x14).f2⟩ : S33)) x164001)) else (none)) else (none)) else (some (x164000, x164001))
def outline_Moved.f (k : Nat) (l0_0 : List (S33)) (l0_1 : List Int) (a1 : Int) (a2 : Int) : Option ((List (S33)) × List Int) := (outline_clone.f l0_0 l0_1).bind fun bt157 => (outline_Moved.l0 k a1 a2 (bt157.1.length : Int) 0 bt157.1 bt157.2)
theorem outline_Moved.mono_l : ∀ k, (∀ y0 y1 y2 y3 y4 y5, LeO (outline_Moved.l0 k y0 y1 y2 y3 y4 y5) (outline_Moved.l0 (k + 1) y0 y1 y2 y3 y4 y5))
 | 0 => fun _ _ _ _ _ _ r h => by simp [outline_Moved.l0] at h
 | k + 1 => by
  have ih0 := outline_Moved.mono_l k
  ·
   intro y0 y1 y2 y3 y4 y5
   unfold outline_Moved.l0
   repeat' first
   | (with_reducible exact ih0 _ _ _ _ _ _)
   | (with_reducible exact LeO.refl _)
   | (with_reducible exact LeO.none _)
   | (with_reducible refine LeO.ite ?_ ?_)
   | (with_reducible refine LeO.bind ?_ (fun _ => ?_))
   | exact ih0 _ _ _ _ _ _
   | exact LeO.none _
   | refine LeO.ite ?_ ?_
   | refine LeO.bind ?_ (fun _ => ?_)
theorem outline_Moved.mono : ∀ a0 a1 a2 a3 k, LeO (outline_Moved.f k a0 a1 a2 a3) (outline_Moved.f (k + 1) a0 a1 a2 a3) := by
 intro a0 a1 a2 a3 k
 have ih0 := outline_Moved.mono_l k
 unfold outline_Moved.f
 repeat' first
   | (with_reducible exact ih0 _ _ _ _ _ _)
   | (with_reducible exact LeO.refl _)
   | (with_reducible exact LeO.none _)
   | (with_reducible refine LeO.ite ?_ ?_)
   | (with_reducible refine LeO.bind ?_ (fun _ => ?_))
   | exact ih0 _ _ _ _ _ _
   | exact LeO.none _
   | refine LeO.ite ?_ ?_
   | refine LeO.bind ?_ (fun _ => ?_)
set_option maxHeartbeats 8000000 in
set_option maxRecDepth 100000 in
theorem outline_Moved.calls (k : Nat) (A0_0 : Option Addr) (c0_0 : Nat) (l0_0 : List (S33)) (A0_1 : Option Addr) (c0_1 : Nat) (l0_1 : List Int) (a1 : Int) (a2 : Int) (r1 : List (S33)) (r2 : List Int) (w : World) (hr0_0 : Kd.C k33 w A0_0 l0_0.length l0_0) (hc0_0 : l0_0.length ≤ c0_0) (hr0_1 : Kd.C (Kd.int .i64) w A0_1 l0_1.length l0_1) (hc0_1 : l0_1.length ≤ c0_1) (h : outline_Moved.f k l0_0 l0_1 a1 a2 = some (r1, r2)) :
  Calls Try.prog 27 #[.agg #[.slice A0_0 l0_0.length c0_0, .slice A0_1 l0_1.length c0_1], .int .i64 a1, .int .i64 a2] w fun e w' => ∃ v0_ v1_ : Value, e = .returned (.agg #[v0_, v1_]) ∧ Kd.R k33 33 w' w.heap.size (fun _ => True) v0_ r1 ∧ Kd.R (Kd.int .i64) 3 w' w.heap.size (fun _ => True) v1_ r2 ∧ Below w.heap.size w w' := by
 have hu25 := Try.underlying25
 have HR0_0 := aM hr0_0
 have HC0_0 := aM hc0_0
 clear hr0_0 hc0_0
 have HR0_1 := aM hr0_1
 have HC0_1 := aM hc0_1
 clear hr0_1 hc0_1
 have HB := aM (Below.refl w.heap.size w)
 have H : ((outline_clone.f l0_0 l0_1).bind fun bt157 => (outline_Moved.l0 k a1 a2 (bt157.1.length : Int) 0 bt157.1 bt157.2)) = some (r1, r2) := h
 clear h
 replace H := Option.bind_eq_some_iff.mp H
 obtain ⟨⟨t157, t160⟩, A40, H⟩ := H
 replace H : (outline_Moved.l0 k a1 a2 (t157.length : Int) 0 t157 t160) = some (r1, r2) := H
 have A4 := aM A40
 clear A40
 have H' := aM H
 clear H
 go_enter Try.func27, Try.ntmps27
 go_wp2_with (first | ((with_reducible refine gate_dst (N := 3) rfl ?_); refine box_event ?hg (N := 3) ?hd (cs := #[.slice A0_0 l0_0.length c0_0, .slice A0_1 l0_1.length c0_1]) (t := 25) ?hr ?_; (case hd => rfl); (case hg => rfl); (case hr => first | (go_simp; done) | (go_simp; rfl)); intro gb155 hg w5 hbox hb; have n0_ := aM (below_step (by repeat (first | (with_reducible first | exact HB.out | apply bA | apply bN | apply bD) | exact HB.out)) hb); have n1_ := aM (hbox); have n2_ := aM ((by rw [hg]; exact (below_size (by repeat (first | (with_reducible first | exact HB.out | apply bA | apply bN | apply bD) | exact HB.out))) : w.heap.size ≤ gb155)); have n3_ := aM ((by rw [hg]; exact (below_size (by repeat (first | (with_reducible first | exact HB.out | apply bA | apply bN | apply bD) | exact HB.out))) : w.heap.size ≤ gb155)); clear HB; have HB := n0_; have BK155 := n1_; have GW155 := n2_; have GE155 := n3_; clear n0_ n1_ n2_ n3_; clear hb hbox hg) | ((with_reducible refine gate_dst (N := 6) rfl ?_); refine box_event ?hg (N := 6) ?hd (cs := #[.slice none 0 0, .slice none 0 0]) (t := 25) ?hr ?_; (case hd => rfl); (case hg => rfl); (case hr => first | (go_simp; done) | (go_simp; rfl)); intro gb156 hg w6 hbox hb; have n0_ := aM (blk_below (g := gb155) (o := .cells #[.slice A0_0 l0_0.length c0_0, .slice A0_1 l0_1.length c0_1] 25 (0, 0)) (by (with_reducible repeat (first | refine kN ?_ _ | refine kD ?_ | refine kA ?_ _)); exact BK155.out) hb); have n1_ := aM (below_step (by repeat (first | (with_reducible first | exact HB.out | apply bA | apply bN | apply bD | refine bS ?_ GE155.out) | exact HB.out)) hb); have n2_ := aM (hbox); have n3_ := aM ((by rw [hg]; exact (below_size (by repeat (first | (with_reducible first | exact HB.out | apply bA | apply bN | apply bD | refine bS ?_ GE155.out) | exact HB.out))) : w.heap.size ≤ gb156)); have n4_ := aM ((by rw [hg]; exact (below_size (by repeat (first | (with_reducible first | exact HB.out | apply bA | apply bN | apply bD | refine bS ?_ GE155.out) | exact HB.out))) : w.heap.size ≤ gb156)); have n5_ := aM ((by rw [hg]; exact Nat.ne_of_lt (blk_lt (g := gb155) (o := .cells #[.slice A0_0 l0_0.length c0_0, .slice A0_1 l0_1.length c0_1] 25 (0, 0)) (by (with_reducible repeat (first | refine kN ?_ _ | refine kD ?_ | refine kA ?_ _)); exact BK155.out)) : gb155 ≠ gb156)); have n6_ := aM ((by rw [hg]; exact Nat.ne_of_gt (blk_lt (g := gb155) (o := .cells #[.slice A0_0 l0_0.length c0_0, .slice A0_1 l0_1.length c0_1] 25 (0, 0)) (by (with_reducible repeat (first | refine kN ?_ _ | refine kD ?_ | refine kA ?_ _)); exact BK155.out)) : gb156 ≠ gb155)); clear BK155; clear HB; have BK155 := n0_; have HB := n1_; have BK156 := n2_; have GW156 := n3_; have GE156 := n4_; have NB155_156 := n5_; have NB156_155 := n6_; clear n0_ n1_ n2_ n3_ n4_ n5_ n6_; clear hb hbox hg; have hnb7 := NB155_156.out; have hnc7 := NB156_155.out; have hcz8_0 : w6.cell? ⟨gb155, 0, none⟩ = some (.slice A0_0 l0_0.length c0_0) := (blk_cell BK155.out 0).trans rfl; have hcz8_1 : w6.cell? ⟨gb155, 1, none⟩ = some (.slice A0_1 l0_1.length c0_1) := (blk_cell BK155.out 1).trans rfl; have hfz8_0 := blk_frozen BK155.out 0; have hfz8_1 := blk_frozen BK155.out 1) | ((with_reducible refine gate_callee (f := 45) rfl ?_); refine goesL_ (some 10) rfl rfl Try.func45 (by kernel_rfl) rfl #[.agg #[.slice A0_0 l0_0.length c0_0, .slice A0_1 l0_1.length c0_1]] rfl (by (try simp only [List.map_toArray, List.map_cons, List.map_nil]); first | done | rfl | (simp only [List.length_drop, List.length_take]; rfl)) ?_; (with_reducible refine (outline_clone.calls _ _ l0_0 _ _ l0_1 t157 t160 _ ?side1 ?side2 ?side3 ?side4 A4.out).mono ?_); (case side1 => repeat (first | exact (Kd.C_below HR0_0.out HB.out) | (with_reducible refine Kd.C_alloc ?_ _) | (with_reducible refine Kd.C_drewN ?_ _) | (with_reducible refine Kd.C_drew ?_))); (case side2 => exact HC0_0.out); (case side3 => repeat (first | exact (Kd.C_below HR0_1.out HB.out) | (with_reducible refine Kd.C_alloc ?_ _) | (with_reducible refine Kd.C_drewN ?_ _) | (with_reducible refine Kd.C_drew ?_))); (case side4 => exact HC0_1.out); rintro e w9 ⟨v158, v161, rfl, ho0, ho1, hb⟩; refine ⟨_, rfl, ?_⟩; have n0_ := aM (Kd.R_lower ho0 (below_size (by repeat (first | (with_reducible first | exact HB.out | apply bA | apply bN | apply bD | refine bS ?_ GE155.out | refine bS ?_ GE156.out) | exact HB.out)))); have n1_ := aM (Kd.R_lower ho1 (below_size (by repeat (first | (with_reducible first | exact HB.out | apply bA | apply bN | apply bD | refine bS ?_ GE155.out | refine bS ?_ GE156.out) | exact HB.out)))); have n2_ := aM (blk_below (g := gb155) (o := .cells #[.slice A0_0 l0_0.length c0_0, .slice A0_1 l0_1.length c0_1] 25 (0, 0)) (by (with_reducible repeat (first | refine kN ?_ _ | refine kD ?_ | refine kA ?_ _)); exact BK155.out) hb); have n3_ := aM (blk_below (g := gb156) (o := .cells #[.slice none 0 0, .slice none 0 0] 25 (0, 0)) (by (with_reducible repeat (first | refine kN ?_ _ | refine kD ?_ | refine kA ?_ _)); exact BK156.out) hb); have n4_ := aM (below_step (by repeat (first | (with_reducible first | exact HB.out | apply bA | apply bN | apply bD | refine bS ?_ GE155.out | refine bS ?_ GE156.out) | exact HB.out)) hb); clear BK155; clear BK156; clear HB; have HO159 := n0_; have HO162 := n1_; have BK155 := n2_; have BK156 := n3_; have HB := n4_; clear n0_ n1_ n2_ n3_ n4_; (try clear hb); (try clear hb2); (try clear hk); (try clear hi); (try clear ho0); (try clear ho1)) | ((with_reducible refine gate_dst (N := 7) rfl ?_); refine box_event ?hg (N := 7) ?hd (cs := #[.slice none 0 0, .slice none 0 0]) (t := 25) ?hr ?_; (case hd => rfl); (case hg => rfl); (case hr => first | (go_simp; done) | (go_simp; rfl)); intro gb163 hg w10 hbox hb; have n0_ := aM (Kd.R_below (by (with_reducible repeat (first | apply Kd.R_alloc | apply Kd.R_drewN | apply Kd.R_drew)); exact HO159.out) hb); have n1_ := aM (Kd.R_below (by (with_reducible repeat (first | apply Kd.R_alloc | apply Kd.R_drewN | apply Kd.R_drew)); exact HO162.out) hb); have n2_ := aM (blk_below (g := gb155) (o := .cells #[.slice A0_0 l0_0.length c0_0, .slice A0_1 l0_1.length c0_1] 25 (0, 0)) (by (with_reducible repeat (first | refine kN ?_ _ | refine kD ?_ | refine kA ?_ _)); exact BK155.out) hb); have n3_ := aM (blk_below (g := gb156) (o := .cells #[.slice none 0 0, .slice none 0 0] 25 (0, 0)) (by (with_reducible repeat (first | refine kN ?_ _ | refine kD ?_ | refine kA ?_ _)); exact BK156.out) hb); have n4_ := aM (below_step (by repeat (first | (with_reducible first | exact HB.out | apply bA | apply bN | apply bD | refine bS ?_ GE155.out | refine bS ?_ GE156.out) | exact HB.out)) hb); have n5_ := aM (hbox); have n6_ := aM ((by rw [hg]; exact (below_size (by repeat (first | (with_reducible first | exact HB.out | apply bA | apply bN | apply bD | refine bS ?_ GE155.out | refine bS ?_ GE156.out) | exact HB.out))) : w.heap.size ≤ gb163)); have n7_ := aM ((by rw [hg]; exact (below_size (by repeat (first | (with_reducible first | exact HB.out | apply bA | apply bN | apply bD | refine bS ?_ GE155.out | refine bS ?_ GE156.out) | exact HB.out))) : w.heap.size ≤ gb163)); have n8_ := aM ((by rw [hg]; exact Nat.ne_of_lt (blk_lt (g := gb155) (o := .cells #[.slice A0_0 l0_0.length c0_0, .slice A0_1 l0_1.length c0_1] 25 (0, 0)) (by (with_reducible repeat (first | refine kN ?_ _ | refine kD ?_ | refine kA ?_ _)); exact BK155.out)) : gb155 ≠ gb163)); have n9_ := aM ((by rw [hg]; exact Nat.ne_of_gt (blk_lt (g := gb155) (o := .cells #[.slice A0_0 l0_0.length c0_0, .slice A0_1 l0_1.length c0_1] 25 (0, 0)) (by (with_reducible repeat (first | refine kN ?_ _ | refine kD ?_ | refine kA ?_ _)); exact BK155.out)) : gb163 ≠ gb155)); have n10_ := aM ((by rw [hg]; exact Nat.ne_of_lt (blk_lt (g := gb156) (o := .cells #[.slice none 0 0, .slice none 0 0] 25 (0, 0)) (by (with_reducible repeat (first | refine kN ?_ _ | refine kD ?_ | refine kA ?_ _)); exact BK156.out)) : gb156 ≠ gb163)); have n11_ := aM ((by rw [hg]; exact Nat.ne_of_gt (blk_lt (g := gb156) (o := .cells #[.slice none 0 0, .slice none 0 0] 25 (0, 0)) (by (with_reducible repeat (first | refine kN ?_ _ | refine kD ?_ | refine kA ?_ _)); exact BK156.out)) : gb163 ≠ gb156)); clear HO159; clear HO162; clear BK155; clear BK156; clear HB; have HO159 := n0_; have HO162 := n1_; have BK155 := n2_; have BK156 := n3_; have HB := n4_; have BK163 := n5_; have GW163 := n6_; have GE163 := n7_; have NB155_163 := n8_; have NB163_155 := n9_; have NB156_163 := n10_; have NB163_156 := n11_; clear n0_ n1_ n2_ n3_ n4_ n5_ n6_ n7_ n8_ n9_ n10_ n11_; clear hb hbox hg; obtain ⟨Ao11, co11, eo11⟩ := Kd.R_slice HO159.out; subst eo11; have hnb12 := NB163_155.out; have hnc12 := NB155_163.out; have hnb13 := NB163_156.out; have hnc13 := NB156_163.out; have hcz14_0 : w10.cell? ⟨gb163, 0, none⟩ = some (.slice none 0 0) := (blk_cell BK163.out 0).trans rfl; have hcz14_1 : w10.cell? ⟨gb163, 1, none⟩ = some (.slice none 0 0) := (blk_cell BK163.out 1).trans rfl; have hfz14_0 := blk_frozen BK163.out 0; have hfz14_1 := blk_frozen BK163.out 1; obtain ⟨Ao15, co15, eo15⟩ := Kd.R_slice HO162.out; subst eo15))
 go_loopg [14] k (fun kq v14 w' => ∃ (x14_1 : Int) (x164000_1 : List (S33)) (u164000 : Value), v14 = .int .i64 x14_1 ∧ Aside0 (outline_Moved.l0 kq a1 a2 (t157.length : Int) x14_1 x164000_1 t160 = some (r1, r2)) ∧ Aside0 (kq ≤ k) ∧ Aside0 (Kd.R k33 33 w' w.heap.size (fun _ => True) u164000 x164000_1) ∧ Aside0 (Kd.R (Kd.int .i64) 3 w' w.heap.size (fun _ => True) (.slice Ao15 t160.length co15) t160) ∧ Aside0 (w'.heap[gb155]? = some (.cells #[(.slice A0_0 l0_0.length c0_0), (.slice A0_1 l0_1.length c0_1)] 25 (0, 0))) ∧ Aside0 (w'.heap[gb156]? = some (.cells #[(.slice none 0 0), (.slice none 0 0)] 25 (0, 0))) ∧ Aside0 (w'.heap[gb163]? = some (.cells #[u164000, (.slice Ao15 t160.length co15)] 25 (0, 0))) ∧ Aside0 (Below w.heap.size w w'))
 case atStart => exact ⟨(0), (t157), (.slice Ao11 t157.length co11), (by first | rfl | (simp; done) | (simp [*]; done)), H', ⟨Nat.le_refl _⟩, ⟨by (with_reducible repeat (first | apply Kd.R_alloc | apply Kd.R_drewN | apply Kd.R_drew)); exact Kd.R_mono (Kd.R_far (p := ⟨gb163, 1, none⟩) (Kd.R_far (p := ⟨gb163, 0, none⟩) (Kd.R_types HO159.out BK163.out (by decide)) (fun _ hk => hk.2) (.slice Ao11 t157.length co11)) (fun _ hk => hk.2) (.slice Ao15 t160.length co15)) (fun _ hk => trivial)⟩, ⟨by (with_reducible repeat (first | apply Kd.R_alloc | apply Kd.R_drewN | apply Kd.R_drew)); exact Kd.R_mono (Kd.R_far (p := ⟨gb163, 1, none⟩) (Kd.R_far (p := ⟨gb163, 0, none⟩) (Kd.R_types HO162.out BK163.out (by decide)) (fun _ hk => hk.2) (.slice Ao11 t157.length co11)) (fun _ hk => hk.2) (.slice Ao15 t160.length co15)) (fun _ hk => trivial)⟩, ⟨by (with_reducible repeat (first | refine kN ?_ _ | refine kD ?_ | refine kA ?_ _)); refine blk_far ?_ NB155_163.out _; (with_reducible repeat (first | refine kN ?_ _ | refine kD ?_ | refine kA ?_ _)); refine blk_far ?_ NB155_163.out _; (with_reducible repeat (first | refine kN ?_ _ | refine kD ?_ | refine kA ?_ _)); exact BK155.out⟩, ⟨by (with_reducible repeat (first | refine kN ?_ _ | refine kD ?_ | refine kA ?_ _)); refine blk_far ?_ NB156_163.out _; (with_reducible repeat (first | refine kN ?_ _ | refine kD ?_ | refine kA ?_ _)); refine blk_far ?_ NB156_163.out _; (with_reducible repeat (first | refine kN ?_ _ | refine kD ?_ | refine kA ?_ _)); exact BK156.out⟩, ⟨by (with_reducible repeat (first | refine kN ?_ _ | refine kD ?_ | refine kA ?_ _)); refine blk_put (cs := #[.slice Ao11 t157.length co11, .slice none 0 0]) ?_ 1 _ rfl; (with_reducible repeat (first | refine kN ?_ _ | refine kD ?_ | refine kA ?_ _)); refine blk_put (cs := #[.slice none 0 0, .slice none 0 0]) ?_ 0 _ rfl; (with_reducible repeat (first | refine kN ?_ _ | refine kD ?_ | refine kA ?_ _)); exact BK163.out⟩, ⟨by repeat (first | (with_reducible first | exact HB.out | apply bA | apply bN | apply bD | refine bS ?_ GE155.out | refine bS ?_ GE156.out | refine bS ?_ GE163.out) | exact HB.out)⟩⟩
 case round =>
  clear H'
  try clear c1
  try clear c2
  try clear p2
  try clear c4
  try clear c7
  try clear c12
  try clear c13
  try clear hcz14_0
  try clear hcz14_1
  try clear hcz8_0
  try clear hcz8_1
  try clear hfz14_0
  try clear hfz14_1
  try clear hfz8_0
  try clear hfz8_1
  obtain ⟨x14_1, x164000_1, u164000, rfl, HA, HK1, HO_164000, HO_164001, BK155, BK156, BK163, HB⟩ := hrel
  cases gk with
  | zero => exact absurd HA.out (by simp [outline_Moved.l0])
  | succ k1 =>
   have H := HA.out
   clear HA
   simp only [outline_Moved.l0] at H
   by_cases c16 : x14_1 < (t157.length : Int)
   ·
    rw [if_pos c16] at H
    have c16b0 : decide (x14_1 < (t157.length : Int)) = true := decide_eq_true c16
    clear c16
    by_cases c17 : 0 ≤ x14_1
    ·
     rw [if_pos c17] at H
     have c17b0 : decide (0 ≤ x14_1) = true := decide_eq_true c17
     clear c17
     by_cases c18 : x14_1 < (x164000_1.length : Int)
     ·
      rw [if_pos c18] at H
      have c18b0 : decide (x14_1 < (x164000_1.length : Int)) = true := decide_eq_true c18
      clear c18
      obtain ⟨y165, hy165⟩ : ∃ y_ : List (S33), y_ = (x164000_1.set (x14_1 : Int).toNat (⟨wrap64 (((rd_T33 x164000_1 x14_1).f0) + a1), (rd_T33 x164000_1 x14_1).f1, (rd_T33 x164000_1 x14_1).f2⟩ : S33)) := ⟨_, rfl⟩
      replace H : (outline_Moved.l0 k1 a1 a2 (t157.length : Int) (wrap64 (x14_1 + 1)) (y165.set (x14_1 : Int).toNat (⟨(rd_T33 y165 x14_1).f0, wrap64 (((rd_T33 y165 x14_1).f1) + a2), (rd_T33 y165 x14_1).f2⟩ : S33)) t160) = some (r1, r2) := by first | (rw [hy165]; with_reducible exact H) | (have H2_ := (Option.bind_some _ _).symm.trans H; rw [hy165]; with_reducible exact H2_) | (have H2_ := (Option.bind_some _ _).symm.trans H; with_reducible exact H2_) | with_reducible exact H | (rw [hy165]; exact H) | exact H
      have Ny165 := aM hy165
      clear hy165
      obtain ⟨y167, hy167⟩ : ∃ y_ : List (S33), y_ = (y165.set (x14_1 : Int).toNat (⟨(rd_T33 y165 x14_1).f0, wrap64 (((rd_T33 y165 x14_1).f1) + a2), (rd_T33 y165 x14_1).f2⟩ : S33)) := ⟨_, rfl⟩
      replace H : (outline_Moved.l0 k1 a1 a2 (t157.length : Int) (wrap64 (x14_1 + 1)) y167 t160) = some (r1, r2) := by first | (rw [hy167]; with_reducible exact H) | (have H2_ := (Option.bind_some _ _).symm.trans H; rw [hy167]; with_reducible exact H2_) | (have H2_ := (Option.bind_some _ _).symm.trans H; with_reducible exact H2_) | with_reducible exact H | (rw [hy167]; exact H) | exact H
      have Ny167 := aM hy167
      clear hy167
      have H' := aM H
      clear H
      have hnb21 := NB163_155.out
      have hnc21 := NB155_163.out
      have hnb22 := NB163_156.out
      have hnc22 := NB156_163.out
      have hcz23_0 : wr.cell? ⟨gb163, 0, none⟩ = some (u164000) := (blk_cell BK163.out 0).trans rfl
      have hcz23_1 : wr.cell? ⟨gb163, 1, none⟩ = some (.slice Ao15 t160.length co15) := (blk_cell BK163.out 1).trans rfl
      have hfz23_0 := blk_frozen BK163.out 0
      have hfz23_1 := blk_frozen BK163.out 1
      obtain ⟨Ao24, co24, eo24⟩ := Kd.R_slice HO_164000.out
      subst eo24
      have p164 : 0 ≤ (x14_1 : Int) := dT (by assumption)
      have q164 : x14_1 < (x164000_1.length : Int) := dT (by assumption)
      obtain ⟨ad164, e164, hx164_0, hx164_1, hx164_2⟩ := at_T33 (Kd.R_reads' HO_164000.out).2.2 x14_1 p164 q164
      cases e164
      replace p164 := eq_true p164
      replace q164 := eq_true q164
      have p19 : 0 ≤ (x14_1 : Int) := dT (by assumption)
      have q19 : (x14_1 : Int) < ((x164000_1.length : Int) : Int) := dT (by assumption)
      obtain ⟨go19, co19, eo19, gb19, gl19, cl19, HG19⟩ := Kd.R_form HO_164000.out (by omega)
      (first | cases eo19 | (injection eo19 with ea_ en_ ec_; (first | subst ea_ | (injection ea_ with ea_; subst ea_)); subst ec_; clear en_))
      have GB19 := aM gb19
      have GG19 := aM HG19
      clear gb19 gl19 HG19
      (first | simp only [add_plain] at hx164_0 | skip)
      (first | simp only [add_plain] at hx164_1 | skip)
      (first | simp only [add_plain] at hx164_2 | skip)
      obtain ⟨ce19, hcl19, hM19, hcc19, hfr19⟩ := Kd.R_elem HO_164000.out z33 (x14_1 : Int) p19 q19
      obtain rfl := k33_openM hM19
      have hx19_0 : wr.cell? ⟨go19, (x14_1 : Int).toNat * 3, none⟩ = some (.int .i64 ((rd_T33 x164000_1 x14_1).f0)) := hcc19 0 _ rfl
      have hx19_1 : wr.cell? ⟨go19, (x14_1 : Int).toNat * 3 + 1, none⟩ = some (.int .i64 ((rd_T33 x164000_1 x14_1).f1)) := hcc19 1 _ rfl
      have hx19_2 : wr.cell? ⟨go19, (x14_1 : Int).toNat * 3 + 2, none⟩ = some (.bool ((rd_T33 x164000_1 x14_1).f2)) := hcc19 2 _ rfl
      have hf19_0 : wr.frozen? ⟨go19, (x14_1 : Int).toNat * 3, none⟩ = false := hfr19 0
      have hf19_1 : wr.frozen? ⟨go19, (x14_1 : Int).toNat * 3 + 1, none⟩ = false := hfr19 1
      have hf19_2 : wr.frozen? ⟨go19, (x14_1 : Int).toNat * 3 + 2, none⟩ = false := hfr19 2
      clear hcl19 hcc19 hfr19 hM19
      replace p19 := eq_true p19
      replace q19 := eq_true q19
      have HX25 := aM (show Kd.R k33 33 wr w.heap.size (fun _ => True) (.slice (some ⟨go19, 0, none⟩) x164000_1.length co24) x164000_1 from (by (with_reducible repeat (first | apply Kd.R_alloc | apply Kd.R_drewN | apply Kd.R_drew)); exact HO_164000.out))
      obtain ⟨ce25, hcl25, hM25, hcc25, hfr25⟩ := Kd.R_elem HX25.out z33 (x14_1 : Int) (dT (by assumption)) (by have h_ : (x14_1 : Int) < ((x164000_1.length : Int) : Int) := dT (by assumption); first | exact h_ | (have e_ := (Kd.R_reads' HO_164000.out).1; omega) | simpa using h_)
      obtain rfl := k33_openM hM25
      have HP25 := Kd.R_seg HX25.out (x14_1 : Int) (dT (by assumption)) (by have h_ : (x14_1 : Int) < ((x164000_1.length : Int) : Int) := dT (by assumption); first | exact h_ | (have e_ := (Kd.R_reads' HO_164000.out).1; omega) | simpa using h_) (seg := [.int .i64 (wrap64 (((rd_T33 x164000_1 x14_1).f0) + a1))]) (j := 0) hcl25 hcc25 (show 1 ≤ 3 from by decide) (x' := (⟨wrap64 (((rd_T33 x164000_1 x14_1).f0) + a1), (rd_T33 x164000_1 x14_1).f1, (rd_T33 x164000_1 x14_1).f2⟩ : S33)) (k33_mkM _ _ _ (⟨wrap64 (((rd_T33 x164000_1 x14_1).f0) + a1), (rd_T33 x164000_1 x14_1).f1, (rd_T33 x164000_1 x14_1).f2⟩ : S33) ) (fun _ hk => hk)
      have hx25_0 := hcc25 0 _ rfl
      (try simp only [show (k33).sz = 3 from rfl, Nat.mul_one, Nat.add_zero] at hx25_0)
      have hf25_0 := hfr25 0
      (try simp only [show (k33).sz = 3 from rfl, Nat.mul_one, Nat.add_zero] at hf25_0)
      clear hcl25 hcc25 hfr25 hM25
      go_wp2_with (first | ((with_reducible refine gate_store (t := 3) (p := 26) rfl ?_); refine store_event (t := 3) (p := 26) (v := ?vo_w26) (w1 := (wr.setCell ⟨go19, (x14_1 : Int).toNat * 3, none⟩ (.int .i64 (wrap64 (((rd_T33 x164000_1 x14_1).f0) + a1))))) ?hg ?ho ?hn ?hr ?_; (case ho => rfl); (case hg => rfl); (case hn => rfl); (case hr => first | (go_simp; done) | (go_simp; rfl)); intro w26 hw; have hg : wr.grownBy w26 (some go19) := (by rw [hw]; exact HP25.2); have hp_ : Kd.R k33 33 w26 w.heap.size (fun _ => True) (.slice (some ⟨go19, 0, none⟩) x164000_1.length co24) y165 := (by rw [hw, Ny165.out]; exact HP25.1); clear HP25; have n0_ := aM (hp_); have n1_ := aM (Kd.R_over' (v := (.slice (some ⟨go19, 0, none⟩) x164000_1.length co24)) (by (with_reducible repeat (first | apply Kd.R_alloc | apply Kd.R_drewN | apply Kd.R_drew)); exact HO_164001.out) (Kd.R_typed HO_164000.out) (by decide) hg); have n2_ := aM (blk_grown (g := gb155) (o := .cells #[.slice A0_0 l0_0.length c0_0, .slice A0_1 l0_1.length c0_1] 25 (0, 0)) (by (with_reducible repeat (first | refine kN ?_ _ | refine kD ?_ | refine kA ?_ _)); exact BK155.out) hg (Kd.R_ne HO_164000.out BK155.out (by decide))); have n3_ := aM (blk_grown (g := gb156) (o := .cells #[.slice none 0 0, .slice none 0 0] 25 (0, 0)) (by (with_reducible repeat (first | refine kN ?_ _ | refine kD ?_ | refine kA ?_ _)); exact BK156.out) hg (Kd.R_ne HO_164000.out BK156.out (by decide))); have n4_ := aM (blk_grown (g := gb163) (o := .cells #[.slice (some ⟨go19, 0, none⟩) x164000_1.length co24, .slice Ao15 t160.length co15] 25 (0, 0)) (by (with_reducible repeat (first | refine kN ?_ _ | refine kD ?_ | refine kA ?_ _)); exact BK163.out) hg (Kd.R_ne HO_164000.out BK163.out (by decide))); have n5_ := aM ((by rw [hw]; exact bS (HB.out) GB19.out : Below w.heap.size w w26)); clear HO_164000; clear HO_164001; clear BK155; clear BK156; clear BK163; clear HB; have HO_164000 := n0_; have HO_164001 := n1_; have BK155 := n2_; have BK156 := n3_; have BK163 := n4_; have HB := n5_; clear n0_ n1_ n2_ n3_ n4_ n5_; clear hg hw hp_; have hcz27_0 : w26.cell? ⟨gb163, 0, none⟩ = some (.slice (some ⟨go19, 0, none⟩) x164000_1.length co24) := (blk_cell BK163.out 0).trans rfl; have hcz27_1 : w26.cell? ⟨gb163, 1, none⟩ = some (.slice Ao15 t160.length co15) := (blk_cell BK163.out 1).trans rfl; have hfz27_0 := blk_frozen BK163.out 0; have hfz27_1 := blk_frozen BK163.out 1; have p166 : 0 ≤ (x14_1 : Int) := dT (by assumption); have q166 : x14_1 < (y165.length : Int) := (by have h_ : (x14_1 : Int) < ((x164000_1.length : Int) : Int) := dT (by assumption); first | (have e_ := (Kd.R_reads' HO_164000.out).1; omega) | simpa only [Ny165.out, List.length_set] using h_); have ql166 : ((x14_1 : Int) < ((x164000_1.length : Int) : Int)) = True := eq_true (dT (by assumption)); obtain ⟨ad166, e166, hx166_0, hx166_1, hx166_2⟩ := at_T33 (Kd.R_reads' HO_164000.out).2.2 x14_1 p166 q166; obtain rfl : (⟨go19, 0, none⟩ : Addr) = ad166 := (by injection e166); (first | simp only [add_plain] at hx166_0 | simp only [add_at] at hx166_0 | simp only [Addr.add, Nat.zero_add] at hx166_0 | skip); (first | simp only [add_plain] at hx166_1 | simp only [add_at] at hx166_1 | simp only [Addr.add, Nat.zero_add] at hx166_1 | skip); (first | simp only [add_plain] at hx166_2 | simp only [add_at] at hx166_2 | simp only [Addr.add, Nat.zero_add] at hx166_2 | skip); replace p166 := eq_true p166; replace q166 := eq_true q166; have p20 : 0 ≤ (x14_1 : Int) := dT (by assumption); have q20 : (x14_1 : Int) < ((x164000_1.length : Int) : Int) := dT (by assumption); obtain ⟨ce20, hcl20, hM20, hcc20, hfr20⟩ := Kd.R_elem HO_164000.out z33 (x14_1 : Int) p20 q20; obtain rfl := k33_openM hM20; have hx20_0 : w26.cell? ⟨go19, (x14_1 : Int).toNat * 3, none⟩ = some (.int .i64 ((rd_T33 y165 x14_1).f0)) := hcc20 0 _ rfl; have hx20_1 : w26.cell? ⟨go19, (x14_1 : Int).toNat * 3 + 1, none⟩ = some (.int .i64 ((rd_T33 y165 x14_1).f1)) := hcc20 1 _ rfl; have hx20_2 : w26.cell? ⟨go19, (x14_1 : Int).toNat * 3 + 2, none⟩ = some (.bool ((rd_T33 y165 x14_1).f2)) := hcc20 2 _ rfl; have hf20_0 : w26.frozen? ⟨go19, (x14_1 : Int).toNat * 3, none⟩ = false := hfr20 0; have hf20_1 : w26.frozen? ⟨go19, (x14_1 : Int).toNat * 3 + 1, none⟩ = false := hfr20 1; have hf20_2 : w26.frozen? ⟨go19, (x14_1 : Int).toNat * 3 + 2, none⟩ = false := hfr20 2; clear hcl20 hcc20 hfr20 hM20; replace p20 := eq_true p20; replace q20 := eq_true q20; have HX28 := aM (show Kd.R k33 33 w26 w.heap.size (fun _ => True) (.slice (some ⟨go19, 0, none⟩) x164000_1.length co24) y165 from (by (with_reducible repeat (first | apply Kd.R_alloc | apply Kd.R_drewN | apply Kd.R_drew)); exact HO_164000.out)); obtain ⟨ce28, hcl28, hM28, hcc28, hfr28⟩ := Kd.R_elem HX28.out z33 (x14_1 : Int) (dT (by assumption)) (by have h_ : (x14_1 : Int) < ((x164000_1.length : Int) : Int) := dT (by assumption); first | exact h_ | (have e_ := (Kd.R_reads' HO_164000.out).1; omega) | simpa using h_); obtain rfl := k33_openM hM28; have HP28 := Kd.R_seg HX28.out (x14_1 : Int) (dT (by assumption)) (by have h_ : (x14_1 : Int) < ((x164000_1.length : Int) : Int) := dT (by assumption); first | exact h_ | (have e_ := (Kd.R_reads' HO_164000.out).1; omega) | simpa using h_) (seg := [.int .i64 (wrap64 (((rd_T33 y165 x14_1).f1) + a2))]) (j := 1) hcl28 hcc28 (show 2 ≤ 3 from by decide) (x' := (⟨(rd_T33 y165 x14_1).f0, wrap64 (((rd_T33 y165 x14_1).f1) + a2), (rd_T33 y165 x14_1).f2⟩ : S33)) (k33_mkM _ _ _ (⟨(rd_T33 y165 x14_1).f0, wrap64 (((rd_T33 y165 x14_1).f1) + a2), (rd_T33 y165 x14_1).f2⟩ : S33) ) (fun _ hk => hk); have hx28_1 := hcc28 1 _ rfl; (try simp only [show (k33).sz = 3 from rfl, Nat.mul_one, Nat.add_zero] at hx28_1); have hf28_1 := hfr28 1; (try simp only [show (k33).sz = 3 from rfl, Nat.mul_one, Nat.add_zero] at hf28_1); clear hcl28 hcc28 hfr28 hM28) | ((with_reducible refine gate_store (t := 3) (p := 36) rfl ?_); refine store_event (t := 3) (p := 36) (v := ?vo_w29) (w1 := (w26.setCell ⟨go19, (x14_1 : Int).toNat * 3 + 1, none⟩ (.int .i64 (wrap64 (((rd_T33 y165 x14_1).f1) + a2))))) ?hg ?ho ?hn ?hr ?_; (case ho => rfl); (case hg => rfl); (case hn => rfl); (case hr => first | (go_simp; done) | (go_simp; rfl)); intro w29 hw; have hg : w26.grownBy w29 (some go19) := (by rw [hw]; exact HP28.2); have hp_ : Kd.R k33 33 w29 w.heap.size (fun _ => True) (.slice (some ⟨go19, 0, none⟩) x164000_1.length co24) y167 := (by rw [hw, Ny167.out]; exact HP28.1); clear HP28; have n0_ := aM (hp_); have n1_ := aM (Kd.R_over' (v := (.slice (some ⟨go19, 0, none⟩) x164000_1.length co24)) (by (with_reducible repeat (first | apply Kd.R_alloc | apply Kd.R_drewN | apply Kd.R_drew)); exact HO_164001.out) (Kd.R_typed HO_164000.out) (by decide) hg); have n2_ := aM (blk_grown (g := gb155) (o := .cells #[.slice A0_0 l0_0.length c0_0, .slice A0_1 l0_1.length c0_1] 25 (0, 0)) (by (with_reducible repeat (first | refine kN ?_ _ | refine kD ?_ | refine kA ?_ _)); exact BK155.out) hg (Kd.R_ne HO_164000.out BK155.out (by decide))); have n3_ := aM (blk_grown (g := gb156) (o := .cells #[.slice none 0 0, .slice none 0 0] 25 (0, 0)) (by (with_reducible repeat (first | refine kN ?_ _ | refine kD ?_ | refine kA ?_ _)); exact BK156.out) hg (Kd.R_ne HO_164000.out BK156.out (by decide))); have n4_ := aM (blk_grown (g := gb163) (o := .cells #[.slice (some ⟨go19, 0, none⟩) x164000_1.length co24, .slice Ao15 t160.length co15] 25 (0, 0)) (by (with_reducible repeat (first | refine kN ?_ _ | refine kD ?_ | refine kA ?_ _)); exact BK163.out) hg (Kd.R_ne HO_164000.out BK163.out (by decide))); have n5_ := aM ((by rw [hw]; exact bS (HB.out) GB19.out : Below w.heap.size w w29)); clear HO_164000; clear HO_164001; clear BK155; clear BK156; clear BK163; clear HB; have HO_164000 := n0_; have HO_164001 := n1_; have BK155 := n2_; have BK156 := n3_; have BK163 := n4_; have HB := n5_; clear n0_ n1_ n2_ n3_ n4_ n5_; clear hg hw hp_))
      go_roundg k1
      case measure => have := HK1.out; omega
      case rel => exact ⟨(wrap64 (x14_1 + 1)), (y167), (.slice (some ⟨go19, 0, none⟩) x164000_1.length co24), (by first | rfl | (simp; done) | (simp [*]; done)), H', ⟨by have := HK1.out; omega⟩, ⟨by (with_reducible repeat (first | apply Kd.R_alloc | apply Kd.R_drewN | apply Kd.R_drew)); exact HO_164000.out⟩, ⟨by (with_reducible repeat (first | apply Kd.R_alloc | apply Kd.R_drewN | apply Kd.R_drew)); exact HO_164001.out⟩, ⟨by (with_reducible repeat (first | refine kN ?_ _ | refine kD ?_ | refine kA ?_ _)); exact BK155.out⟩, ⟨by (with_reducible repeat (first | refine kN ?_ _ | refine kD ?_ | refine kA ?_ _)); exact BK156.out⟩, ⟨by (with_reducible repeat (first | refine kN ?_ _ | refine kD ?_ | refine kA ?_ _)); exact BK163.out⟩, ⟨by repeat (first | (with_reducible first | exact HB.out | apply bA | apply bN | apply bD | refine bS ?_ GE155.out | refine bS ?_ GE156.out | refine bS ?_ GE163.out) | exact HB.out)⟩⟩
     ·
      rw [if_neg c18] at H
      exact absurd H (by simp)
    ·
     rw [if_neg c17] at H
     exact absurd H (by simp)
   ·
    rw [if_neg c16] at H
    have c16b0 : decide (x14_1 < (t157.length : Int)) = false := decide_eq_false c16
    clear c16
    simp only [Option.some.injEq, Prod.mk.injEq] at H
    obtain ⟨rfl, rfl⟩ := H
    have hnb30 := NB163_155.out
    have hnc30 := NB155_163.out
    have hnb31 := NB163_156.out
    have hnc31 := NB156_163.out
    have hcz32_0 : wr.cell? ⟨gb163, 0, none⟩ = some (u164000) := (blk_cell BK163.out 0).trans rfl
    have hcz32_1 : wr.cell? ⟨gb163, 1, none⟩ = some (.slice Ao15 t160.length co15) := (blk_cell BK163.out 1).trans rfl
    have hfz32_0 := blk_frozen BK163.out 0
    have hfz32_1 := blk_frozen BK163.out 1
    obtain ⟨Ao33, co33, eo33⟩ := Kd.R_slice HO_164000.out
    subst eo33
    have hnb34 := NB156_155.out
    have hnc34 := NB155_156.out
    have hcz35_0 : wr.cell? ⟨gb156, 0, none⟩ = some (.slice none 0 0) := (blk_cell BK156.out 0).trans rfl
    have hcz35_1 : wr.cell? ⟨gb156, 1, none⟩ = some (.slice none 0 0) := (blk_cell BK156.out 1).trans rfl
    have hfz35_0 := blk_frozen BK156.out 0
    have hfz35_1 := blk_frozen BK156.out 1
    go_wp2
    refine bodyPost_ret (results_cell_row rfl _ _ gb156 25 #[.slice Ao33 x164000_1.length co33, .slice Ao15 t160.length co15] (0, 0) _ rfl (by (with_reducible repeat (first | refine kN ?_ _ | refine kD ?_ | refine kA ?_ _)); refine blk_put (cs := #[.slice Ao33 x164000_1.length co33, .slice none 0 0]) ?_ 1 _ rfl; (with_reducible repeat (first | refine kN ?_ _ | refine kD ?_ | refine kA ?_ _)); refine blk_put (cs := #[.slice none 0 0, .slice none 0 0]) ?_ 0 _ rfl; (with_reducible repeat (first | refine kN ?_ _ | refine kD ?_ | refine kA ?_ _)); exact BK156.out) Try.underlying25 rfl (by kernel_rfl)) rfl ?_
    exact ⟨_, _, by first | rfl | (simp [errW_none, errW_some] <;> rfl) | (simp [*, errW_none, errW_some] <;> rfl), by (with_reducible repeat (first | apply Kd.R_alloc | apply Kd.R_drewN | apply Kd.R_drew)); exact Kd.R_mono (Kd.R_far (p := ⟨gb156, 1, none⟩) (Kd.R_far (p := ⟨gb156, 0, none⟩) (Kd.R_types HO_164000.out BK156.out (by decide)) (fun _ hk => hk.2) (.slice Ao33 x164000_1.length co33)) (fun _ hk => hk.2) (.slice Ao15 t160.length co15)) (fun _ hk => trivial), by (with_reducible repeat (first | apply Kd.R_alloc | apply Kd.R_drewN | apply Kd.R_drew)); exact Kd.R_mono (Kd.R_far (p := ⟨gb156, 1, none⟩) (Kd.R_far (p := ⟨gb156, 0, none⟩) (Kd.R_types HO_164001.out BK156.out (by decide)) (fun _ hk => hk.2) (.slice Ao33 x164000_1.length co33)) (fun _ hk => hk.2) (.slice Ao15 t160.length co15)) (fun _ hk => trivial), by repeat (first | (with_reducible first | exact HB.out | apply bA | apply bN | apply bD | refine bS ?_ GE155.out | refine bS ?_ GE156.out | refine bS ?_ GE163.out) | exact HB.out)⟩
-- NOT PRINTED: function 47 (outline_cuts)
end Go.Proofs.Ytbmklpcheopgoaa.H

namespace Go.Proofs.Ytbmklpcheopgoaa.H
open Go.RowKit Go.Proofs.YtbmklpcheopgoaaW.PrintWords Go.Proofs.YtbmklpcheopgoaaW.PrintLast Go.Proofs.YtbmklpcheopgoaaW.PrintMore
attribute [local go_sem] max2_int min2_int max_two min_two max_three min_three max_four min_four
set_option linter.unusedVariables false
set_option linter.unusedSimpArgs false
open Go.Proofs.YtbmklpcheopgoaaOps Go.Proofs.YtbmklpcheopgoaaIt Go.Proofs.YtbmklpcheopgoaaBlks Go.Proofs.YtbmklpcheopgoaaFlat Go.Shelf
attribute [local go_sem] Oper.semAt_some wide_depth wide_fn World.cell?_alloc_some
theorem flat_pt : Flat k33 := fun _ _ _ _ _ _ _ _ h => by rw [k33_openM h]; exact k33_mkM _ _ _ _
theorem info_pt : (Try.prog.info? 33).map (·.size) = some (Kd.sz k33) := by kernel_rfl
def swapAt (l : List S33) (a b : Nat) : List S33 := (l.set a (rd_T33 l (b : Nat))).set b (rd_T33 l (a : Nat))
def revK (l : List S33) (s t : Nat) (m : Nat) : List S33 := (List.range m).foldl (fun l j => swapAt l (s + (1 + j)) (s + (t - s - 1 - j))) l
def revC (l : List S33) (c : Int × Int) : List S33 := revK l c.1.toNat c.2.toNat ((c.2.toNat - c.1.toNat - 1) / 2)
def revL (pts : List S33) (es : List Int) (k : Nat) : List S33 := ((cutsL es pts.length).take k).foldl revC pts
theorem revK_succ (l : List S33) (s t m : Nat) : revK l s t (m + 1) = swapAt (revK l s t m) (s + (1 + m)) (s + (t - s - 1 - m)) := by simp [revK, List.range_succ]
theorem swapAt_len (l : List S33) (a b : Nat) : (swapAt l a b).length = l.length := by simp [swapAt]
theorem revK_len (l : List S33) (s t m : Nat) : (revK l s t m).length = l.length := by
 induction m with
 | zero => simp [revK]
 | succ m ih => rw [revK_succ, swapAt_len, ih]
theorem revL_len (pts : List S33) (es : List Int) (k : Nat) : (revL pts es k).length = pts.length := by
 unfold revL
 generalize (cutsL es pts.length).take k = cs
 suffices h : ∀ (cs : List (Int × Int)) (l : List S33), (cs.foldl revC l).length = l.length from h cs pts
 intro cs
 induction cs with
 | nil => intro l; rfl
 | cons c cs ih => intro l; rw [List.foldl_cons, ih]; exact revK_len _ _ _ _
theorem run_indexAddr_pt {o : Oper} {ρ : Operand → Value} {x y : Operand} {W : World} {g s n c i : Nat} {j : Nat} (ho : o.op = .indexAddr 22 x y) (hx : ρ x = .slice (some ⟨g, s * 3, none⟩) n c) (hy : ρ y = .int .i64 (i : Int)) (hi : i < n) (hj : j = s + i) :
  (execOp ρ o).run Try.prog W = .ok (.value (.pointer (some ⟨g, j * 3, none⟩))) W := by
 subst hj
 have hu := Try.underlying22
 have e : (s + i) * 3 = s * 3 + i * 3 := by omega
 unfold execOp
 simp only [ho, hx, hy]
 simp [go_sem, hu, hi, e]
theorem run_load_pt {o : Oper} {ρ : Operand → Value} {x : Operand} {W : World} {g q : Nat} {p : S33} (ho : o.op = .load 33 x) (hx : ρ x = .pointer (some ⟨g, q * 3, none⟩)) (h0 : W.cell? ⟨g, q * 3 + 0, none⟩ = some (.int .i64 p.f0)) (h1 : W.cell? ⟨g, q * 3 + 1, none⟩ = some (.int .i64 p.f1)) (h2 : W.cell? ⟨g, q * 3 + 2, none⟩ = some (.bool p.f2)) :
  (execOp ρ o).run Try.prog W = .ok (.value (.agg #[.int .i64 p.f0, .int .i64 p.f1, .bool p.f2])) W := by
 have hu := Try.underlying33
 unfold execOp
 simp only [ho, hx]
 rw [Nat.add_zero] at h0
 simp [go_sem, hu, h0, h1, h2]
set_option maxRecDepth 100000 in
set_option maxHeartbeats 4000000 in
theorem reversed_calls (A0 A1 : Option Addr) (c0 c1 : Nat) (pts : List S33) (es : List Int) (w : World) (hp : Kd.C k33 w A0 pts.length pts) (hc0 : pts.length ≤ c0) (hes : (Kd.int .i64).C w A1 es.length es) (hc1 : es.length ≤ c1) (hlim : pts.length ≤ 1000000) (hlime : es.length ≤ 1000000) :
  Calls Try.prog 29 #[.agg #[.slice A0 pts.length c0, .slice A1 es.length c1]] w fun e w' => ∃ v0 v1 : Value, e = .returned (.agg #[v0, v1]) ∧ Kd.R k33 33 w' w.heap.size (fun _ => True) v0 (revL pts es (cutsL es pts.length).length) ∧ Kd.R (Kd.int .i64) 3 w' w.heap.size (fun _ => True) v1 es ∧ Below w.heap.size w w' := by
 have hu := Try.underlying25
 have hu2 := Try.underlying33
 have hcl : outline_clone.f pts es = some (pts, es) := by
  unfold outline_clone.f
  rw [if_pos (by simp; omega), if_pos (by simp; omega)]
  simp
 refine (callsIn_wide (n := 0)).1 (callsIn_of_wp_marks Try.func29 rfl trivial ?_ rfl)
 simp only [Try.ntmps29, List.size_toArray, List.length_cons, List.length_nil, Nat.reduceAdd, Nat.reduceSub, Array.replicate_succ, Array.replicate_zero, List.push_toArray, List.append_toArray, List.nil_append, List.cons_append]
 gi_wp2
 generalize hV0 : World.alloc (World.alloc w _) _ = V0
 have hbV0 : Below w.heap.size w V0 := by rw [← hV0]; exact ((Below.refl _ w).alloc (Nat.le_refl _) _).alloc (by simp) _
 have hB0 : Blks [(w.heap.size + 1, .cells #[.slice none 0 0, .slice none 0 0] 25 (0, 0)), (w.heap.size, .cells #[.slice A0 pts.length c0, .slice A1 es.length c1] 25 (0, 0))] V0 := by rw [← hV0]; exact ((Blks.nil w).alloc _).alloc_at _ (by simp)
 have hs0 : V0.heap.size = w.heap.size + 1 + 1 := by rw [← hV0]; simp
 clear hV0
 refine CallsIn.mono (callsIn_wide.2 (outline_clone.calls A0 c0 pts A1 c1 es pts es V0 (Kd.C_below hp hbV0) hc0 (Kd.C_below hes hbV0) hc1 hcl)) ?_
 rintro e V1 ⟨v0, v1, rfl, hR0, hR1, hbV1⟩
 obtain ⟨Ap, cp, rfl⟩ := Kd.R_slice hR0
 obtain ⟨Ae, ce, rfl⟩ := Kd.R_slice hR1
 gi_wp2
 have hE1 := R_own1 (flat_int .i64) hR1
 have hP1 := R_own1 flat_pt hR0
 obtain ⟨vp, hvp⟩ : ∃ vp : Value, vp = .slice Ap pts.length cp := ⟨_, rfl⟩
 obtain ⟨ve, hve⟩ : ∃ ve : Value, ve = .slice Ae es.length ce := ⟨_, rfl⟩
 have hpk : ∀ k, vp.ownBlock = some k → V0.heap.size ≤ k ∧ k < V1.heap.size ∧ ∃ cells, V1.heap[k]? = some (.cells cells 33 (0, 0)) := by
  intro k hk; rw [hvp] at hk
  obtain ⟨_, inner, ho, _⟩ := hR0
  exact ⟨own_base ho k hk, own_lt ho k hk, own_typed ho k hk⟩
 have hek : ∀ k, ve.ownBlock = some k → V0.heap.size ≤ k ∧ k < V1.heap.size ∧ ∃ cells, V1.heap[k]? = some (.cells cells 3 (0, 0)) := by
  intro k hk; rw [hve] at hk
  obtain ⟨_, inner, ho, _⟩ := hR1
  exact ⟨own_base ho k hk, own_lt ho k hk, own_typed ho k hk⟩
 have hne : ∀ k, vp.ownBlock = some k → ve.ownBlock = some k → False := by
  intro k h1 h2
  obtain ⟨_, _, cs1, e1⟩ := hpk k h1
  obtain ⟨_, _, cs2, e2⟩ := hek k h2
  rw [e1] at e2; injection e2 with e2; injection e2 with _ e2; cases e2
 have hB1 := (hB0.below hbV1).alloc (.cells #[.slice Ap pts.length cp, .slice Ae es.length ce] 25)
 refine CallsIn.mono (cuts_calls 0 _ _ _ _ _) ?_
 rintro e w' ⟨rfl, rfl⟩
 gi_wp2
 generalize hV : World.alloc (World.alloc (World.alloc V1 _) _) _ = V
 have hVs : V.heap.size = V1.heap.size + 1 + 1 + 1 := by rw [← hV]; simp
 have hbV : Below V1.heap.size V1 V := by rw [← hV]; exact (((Below.refl _ V1).alloc (Nat.le_refl _) _).alloc (by simp) _).alloc (by simp; omega) _
 have hB2 : Blks [(V1.heap.size + 1 + 1, .cells #[.int .i64 pts.length] 3 (0, 0)), (V1.heap.size + 1, .cells #[.slice Ae es.length ce] 23 (0, 0)), (V1.heap.size, .cells #[.slice Ap pts.length cp, .slice Ae es.length ce] 25 (0, 0)), (w.heap.size + 1, .cells #[.slice none 0 0, .slice none 0 0] 25 (0, 0)), (w.heap.size, .cells #[.slice A0 pts.length c0, .slice A1 es.length c1] 25 (0, 0))] V := by
  rw [← hV]; exact (hB1.alloc_at _ (by simp)).alloc_at _ (by simp)
 have hbw : Below w.heap.size w V := (hbV0.trans (hbV1.mono (by omega))).trans (hbV.mono (by have := hbV1.size; omega))
 have hVV := hbV1.size
 have hPV := R_chg hP1 (Chg.of_fresh (S := fun _ => False) hbV) (fun _ _ => id)
 have hEV := R_chg hE1 (Chg.of_fresh (S := fun _ => False) hbV) (fun _ _ => id)
 have hit := cuts_it V Ae ce es pts.length (by omega) (V1.heap.size + 1) (V1.heap.size + 1 + 1) (hB2.cell 1 rfl 0) (hB2.cell 0 rfl 0) (Kd.R_reads' hEV).2.2
 have HV := Lib.hid hV
 clear hV hB1 hB0 hP1 hE1 hR0 hR1 hcl
 refine range_outer hit (by rfl) (fun args w => by simp [go_sem])
  (fun k own V' => (∀ b, own b ↔ Own1 vp b) ∧ Kd.R k33 33 V' V0.heap.size (Own1 vp) vp (revL pts es k) ∧ Kd.R (Kd.int .i64) 3 V' V0.heap.size (Own1 ve) ve es ∧ Blks [(V1.heap.size, .cells #[vp, ve] 25 (0, 0)), (w.heap.size + 1, .cells #[.slice none 0 0, .slice none 0 0] 25 (0, 0))] V' ∧ Below w.heap.size w V' ∧ V.heap.size ≤ V'.heap.size)
  (fun c k own V' => False)
  (Own1 vp) ?_ ?_ ?_ ?_ ?_
  (fun k own a' V' => ∃ (c : Int × Int) (X : Nat), (cutsL es pts.length)[k]? = some c ∧ a' = ⟨#[.agg #[.slice A0 pts.length c0, .slice A1 es.length c1], .pointer (some ⟨w.heap.size, 0, none⟩), .pointer (some ⟨w.heap.size + 1, 0, none⟩), .pointer (some ⟨V1.heap.size, 0, none⟩), undef, .pointer (some ⟨X, 0, none⟩), undef, undef, undef, .agg #[.slice A0 pts.length c0, .slice A1 es.length c1], .agg #[.slice Ap pts.length cp, .slice Ae es.length ce], .pointer (some ⟨V1.heap.size, 1, none⟩), .slice Ae es.length ce, .pointer (some ⟨V1.heap.size, 0, none⟩), .slice Ap pts.length cp, .int .i64 pts.length, .func (.func 55) #[] #[.pointer (some ⟨V1.heap.size + 1, 0, none⟩), .pointer (some ⟨V1.heap.size + 1 + 1, 0, none⟩)], .int .i64 k, .agg #[.int .i64 c.1, .int .i64 c.2], undef, undef, undef, undef, undef, undef, undef, undef, undef, undef, undef, undef, undef, undef, undef, undef, undef, undef, undef, undef, undef, undef, undef, undef, undef, undef, undef, undef, undef, undef, undef, undef, undef, undef], []⟩ ∧ V.heap.size ≤ X ∧ Blks [(X, .cells #[.int .i64 c.1, .int .i64 c.2] 64 (0, 0))] V') ?_ ?_ ?_ ?_ ?_
 ·
  rintro k own Va Vb ⟨h1, h2, h3, h4, h5, h6⟩ hc
  refine ⟨h1, R_chg h2 hc (fun k hk hs => hs.2 ((h1 k).2 hk.symm)), R_chg h3 hc (fun k hk hs => by have := (hek k hk).2.1; omega), h4.chg hc ?_, h5.trans (hc.below (Nat.le_trans (by omega) h5.size) (fun i hi h => by omega)), Nat.le_trans h6 hc.size⟩
  intro b hb hs
  simp at hb
  omega
 ·
  rintro c k own V1 V2 h hc
  exact h
 ·
  rintro k W args ⟨c, _, rfl⟩
  rfl
 ·
  rintro b hb
  obtain ⟨q1, q2, _⟩ := hpk b hb.symm
  refine ⟨by omega, fun hr => ?_⟩
  rcases hr with ⟨h0, ad, hA, hr⟩ | hr | hr
  ·
   obtain ⟨g, cap, e1, _⟩ := Kd.R_form hEV (by omega)
   rw [e1] at hve
   subst hA
   have e2 : ad = ⟨g, 0, none⟩ := by injection e1 with e1; injection e1 with e1
   subst e2
   exact hne b hb.symm (by rw [hve]; simp [Value.ownBlock]; exact hr.symm)
  ·
   omega
  ·
   omega
 ·
  subst hvp; subst hve
  exact ⟨fun b => Iff.rfl, by simpa [revL] using hPV, hEV, (hB2.tail).tail.sub (by simp), hbw, Nat.le_refl _⟩
 ·
  rintro lc k own a' Va o o' hlc ⟨c, X, hk, ha, hX, hB⟩ ho hcells
  refine ⟨c, X, hk, ha, hX, hB.chg (Chg.putSelf _ lc o') ?_⟩
  intro b hb e
  simp at hb
  subst hb; subst e
  have := hB.blk 0 rfl
  rw [this] at ho
  cases ho
  cases hcells
 ·
  rintro lc n k own args Va hlc ⟨h1, h2, h3, h4, h5, h6⟩ how hlt hno hk ⟨c, hkc, rfl⟩ _
  gi_wp2
  refine ⟨own, GrowG.refl _ _ _, fun b hb => Nat.lt_of_lt_of_le (how b hb) (by simp), (Chg.refl _ _).alloc _, ⟨h1, R_chg h2 ((Chg.refl (fun _ => False) _).alloc _) (fun _ _ => id), R_chg h3 ((Chg.refl (fun _ => False) _).alloc _) (fun _ _ => id), (h4.alloc _).tail, h5.alloc h5.size _, by simp; omega⟩, c, Va.heap.size, hkc, rfl, h6, (Blks.nil _).alloc _⟩
 ·
  rintro lc n k own a' Va hlc ⟨h1, h2, h3, h4, h5, h6⟩ how ⟨rl, hrl⟩ hno hk ⟨c, X, hkc, rfl, hX, hBX⟩
  obtain ⟨m1, m2, m3⟩ := cutsF_mem es pts.length 0 k c hkc
  have hnext : revL pts es (k + 1) = revC (revL pts es k) c := by simp [revL, List.take_add_one, hkc]
  obtain ⟨s, hs⟩ : ∃ s : Nat, c.1 = s := ⟨c.1.toNat, by omega⟩
  obtain ⟨t, ht⟩ : ∃ t : Nat, c.2 = t := ⟨c.2.toNat, by omega⟩
  have hlen := revL_len pts es k
  have hcp := (Kd.R_reads' (by rw [hvp] at h2; exact h2)).2.1
  obtain ⟨g, cap, e1, hg1, hg2, _⟩ := Kd.R_form h2 (by omega)
  rw [hvp] at e1
  injection e1 with e1 e2 e3
  subst e1; subst e3
  simp only [revC, hs, ht, Int.toNat_natCast] at hnext
  rw [hs, ht] at hBX m2
  rw [ht] at m3
  rw [hs, ht]
  have hNX := Lib.hid hnext
  clear hnext hs ht m1 hkc e2
  generalize hl0 : revL pts es k = l0 at *
  have HL0 := Lib.hid hl0
  clear hl0
  have hst : s < t := by omega
  have htn : t ≤ pts.length := by omega
  have hus := Try.underlying22
  have hse : s ≤ t := by omega
  have hec : t ≤ cp := by omega
  have hsc : ¬ (t = s) := by omega
  have hsc2 : ¬ (t - s = 0) := by omega
  subst hvp
  have g0 := h4.cell 0 rfl 0
  have g1 := h4.cell 0 rfl 1
  have g2 := hBX.cell 0 rfl 0
  have g3 := hBX.cell 0 rfl 1
  simp at g0 g1 g2 g3
  have hgX : ¬ own X := fun h => by have := hpk X ((h1 X).1 h).symm; omega
  have HH := Lib.hid (And.intro h2 (And.intro h3 (And.intro h4 h5)))
  have HOWN := Lib.hid h1
  clear h1 h3 h4 h5 m2 m3
  gi_wp2
  gi_loopw [7, 8] (fun v7 v8 wr => ∃ m : Nat, m ≤ (t - s - 1) / 2 ∧ v7 = .int .i64 ((1 + m : Nat) : Int) ∧ v8 = .int .i64 ((t - s - 1 - m : Nat) : Int) ∧ Aside0 (Kd.R k33 33 wr V0.heap.size (Own1 (.slice (some ⟨g, 0, none⟩) pts.length cp)) (.slice (some ⟨g, 0, none⟩) pts.length cp) (revK l0 s t m) ∧ Chg (fun i => i = g) Va wr))
   (fun _ v8 _ => (intOf v8).toNat)
  case atStart => exact ⟨0, by omega, rfl, by congr 1; omega, ⟨h2, Chg.refl _ _⟩⟩
  case round =>
   obtain ⟨m, hm, rfl, rfl, ⟨HR, HC⟩⟩ := hrel
   have hlr := revK_len l0 s t m
   by_cases hlt : 1 + m < t - s - 1 - m
   ·
    have hd : decide (1 + (m : Int) < ((t - s - 1 - m : Nat) : Int)) = true := by simp; omega
    have HKS := Lib.hid (revK_succ l0 s t m)
    generalize hl : revK l0 s t m = l at *
    have HLL := Lib.hid hl
    clear hl
    have HHR := Lib.hid HR
    have HHC := Lib.hid HC
    clear HR HC
    gi_wp2
    have HR := HHR.out
    have HC := HHC.out
    clear HHR HHC
    refine Go.Proofs.YtbmklpcheopgoaaReg.regIn_inv (by rfl) [0, 1, 2, 3, 4, 5, 6, 7, 8, 9, 10, 11, 12, 13, 14, 15] (by kernel_rfl) (by kernel_rfl)
     (fun lst a W' => ∃ (b0 b1 b2 b3 b4 b5 b6 b7 b8 b9 b10 b11 b12 b13 b14 b15 : Bool), lst = #[b0, b1, b2, b3, b4, b5, b6, b7, b8, b9, b10, b11, b12, b13, b14, b15] ∧ a = ⟨#[.agg #[.slice A0 pts.length c0, .slice A1 es.length c1], .pointer (some ⟨w.heap.size, 0, none⟩), .pointer (some ⟨w.heap.size + 1, 0, none⟩), .pointer (some ⟨V1.heap.size, 0, none⟩), undef, .pointer (some ⟨X, 0, none⟩), .slice (some ⟨g, s * 3, none⟩) (t - s) (t - s), .int .i64 (((1 + m : Nat) : Int)), .int .i64 (((t - s - 1 - m : Nat) : Int)), .agg #[.slice A0 pts.length c0, .slice A1 es.length c1], .agg #[.slice (some ⟨g, 0, none⟩) pts.length cp, .slice Ae es.length ce], .pointer (some ⟨V1.heap.size, 1, none⟩), .slice Ae es.length ce, .pointer (some ⟨V1.heap.size, 0, none⟩), .slice (some ⟨g, 0, none⟩) pts.length cp, .int .i64 pts.length, .func (.func 55) #[] #[.pointer (some ⟨V1.heap.size + 1, 0, none⟩), .pointer (some ⟨V1.heap.size + 1 + 1, 0, none⟩)], .int .i64 k, .agg #[.int .i64 s, .int .i64 t], .pointer (some ⟨V1.heap.size, 0, none⟩), .slice (some ⟨g, 0, none⟩) pts.length cp, .pointer (some ⟨X, 0, none⟩), .int .i64 s, .pointer (some ⟨X, 1, none⟩), .int .i64 t, .pointer (some ⟨X, 1, none⟩), .int .i64 t, .slice (some ⟨g, s * 3, none⟩) (t - s) (t - s), .slice (some ⟨g, s * 3, none⟩) (t - s) (t - s), .int .i64 (((t - s : Nat) : Int)), .int .i64 (((t - s : Nat) : Int) - 1), .int .i64 (((1 + m : Nat) : Int)), .int .i64 (((t - s - 1 - m : Nat) : Int)), .bool true, u34, u35, u36, u37, (cond b0 (.slice (some ⟨g, s * 3, none⟩) (t - s) (t - s)) u38), (cond b1 (.int .i64 (((1 + m : Nat) : Int))) u39), (cond b2 (.slice (some ⟨g, s * 3, none⟩) (t - s) (t - s)) u40), (cond b3 (.int .i64 (((t - s - 1 - m : Nat) : Int))) u41), (cond b4 (.slice (some ⟨g, s * 3, none⟩) (t - s) (t - s)) u42), (cond b5 (.int .i64 (((t - s - 1 - m : Nat) : Int))) u43), (cond b6 (.pointer (some ⟨g, (s + (t - s - 1 - m)) * 3, none⟩)) u44), (cond b7 (.agg #[.int .i64 (rd_T33 l ((s + (t - s - 1 - m)) : Nat)).f0, .int .i64 (rd_T33 l ((s + (t - s - 1 - m)) : Nat)).f1, .bool (rd_T33 l ((s + (t - s - 1 - m)) : Nat)).f2]) u45), (cond b8 (.slice (some ⟨g, s * 3, none⟩) (t - s) (t - s)) u46), (cond b9 (.int .i64 (((1 + m : Nat) : Int))) u47), (cond b10 (.pointer (some ⟨g, (s + (1 + m)) * 3, none⟩)) u48), (cond b11 (.agg #[.int .i64 (rd_T33 l ((s + (1 + m)) : Nat)).f0, .int .i64 (rd_T33 l ((s + (1 + m)) : Nat)).f1, .bool (rd_T33 l ((s + (1 + m)) : Nat)).f2]) u49), (cond b12 (.pointer (some ⟨g, (s + (1 + m)) * 3, none⟩)) u50), (cond b14 (.pointer (some ⟨g, (s + (t - s - 1 - m)) * 3, none⟩)) u51), undef], []⟩ ∧ (b13 = true → b7 = true) ∧ (b13 = true → b11 = true) ∧ (b15 = true → b13 = true) ∧ (Kd.R k33 33 W' V0.heap.size (Own1 (.slice (some ⟨g, 0, none⟩) pts.length cp)) (.slice (some ⟨g, 0, none⟩) pts.length cp) (cond b15 ((l.set (s + (1 + m)) (rd_T33 l ((s + (t - s - 1 - m)) : Nat))).set (s + (t - s - 1 - m)) (rd_T33 l ((s + (1 + m)) : Nat))) (cond b13 (l.set (s + (1 + m)) (rd_T33 l ((s + (t - s - 1 - m)) : Nat))) l))) ∧ (Chg (fun i => i = g) Va W')) ?_ ?_ ?_ ?_
    ·
     rintro lst a W' ⟨b0, b1, b2, b3, b4, b5, b6, b7, b8, b9, b10, b11, b12, b13, b14, b15, rfl, _⟩
     rfl
    ·
     exact ⟨false, false, false, false, false, false, false, false, false, false, false, false, false, false, false, false, rfl, rfl, (fun h => Bool.noConfusion h), (fun h => Bool.noConfusion h), (fun h => Bool.noConfusion h), (R_chg HR ((Chg.refl (fun _ => False) _).drew) (fun _ _ => id)), HC.drew⟩
    ·
     rintro lst a W' i o ⟨b0, b1, b2, b3, b4, b5, b6, b7, b8, b9, b10, b11, b12, b13, b14, b15, rfl, rfl, k0, k1, k2, hHR, hHC⟩ ho hf hd K hK
     have hi : i < 16 := (Array.getElem?_eq_some_iff.1 ho).1
     have ho2 := ho
     rcases (show i = 0 ∨ i = 1 ∨ i = 2 ∨ i = 3 ∨ i = 4 ∨ i = 5 ∨ i = 6 ∨ i = 7 ∨ i = 8 ∨ i = 9 ∨ i = 10 ∨ i = 11 ∨ i = 12 ∨ i = 13 ∨ i = 14 ∨ i = 15 by omega) with rfl | rfl | rfl | rfl | rfl | rfl | rfl | rfl | rfl | rfl | rfl | rfl | rfl | rfl | rfl | rfl
     ·
      simp only [List.getElem?_toArray, List.getElem?_cons_succ, List.getElem?_cons_zero, Option.some.injEq] at ho
      subst ho
      replace hf : b0 = false := hf
      subst hf
      refine Go.Proofs.YtbmklpcheopgoaaReg.opIn_val ho2 rfl (fun _ => trivial) (fun c h => by cases h) (v := .slice (some ⟨g, s * 3, none⟩) (t - s) (t - s)) (w1 := W') ?_ (hK _ _ ⟨true, b1, b2, b3, b4, b5, b6, b7, b8, b9, b10, b11, b12, b13, b14, b15, rfl, rfl, (k0), (k1), (k2), hHR, hHC⟩)
      simp [go_sem, hu2]
     ·
      simp only [List.getElem?_toArray, List.getElem?_cons_succ, List.getElem?_cons_zero, Option.some.injEq] at ho
      subst ho
      replace hf : b1 = false := hf
      subst hf
      refine Go.Proofs.YtbmklpcheopgoaaReg.opIn_val ho2 rfl (fun _ => trivial) (fun c h => by cases h) (v := .int .i64 (((1 + m : Nat) : Int))) (w1 := W') ?_ (hK _ _ ⟨b0, true, b2, b3, b4, b5, b6, b7, b8, b9, b10, b11, b12, b13, b14, b15, rfl, rfl, (k0), (k1), (k2), hHR, hHC⟩)
      simp [go_sem, hu2]
     ·
      simp only [List.getElem?_toArray, List.getElem?_cons_succ, List.getElem?_cons_zero, Option.some.injEq] at ho
      subst ho
      replace hf : b2 = false := hf
      subst hf
      refine Go.Proofs.YtbmklpcheopgoaaReg.opIn_val ho2 rfl (fun _ => trivial) (fun c h => by cases h) (v := .slice (some ⟨g, s * 3, none⟩) (t - s) (t - s)) (w1 := W') ?_ (hK _ _ ⟨b0, b1, true, b3, b4, b5, b6, b7, b8, b9, b10, b11, b12, b13, b14, b15, rfl, rfl, (k0), (k1), (k2), hHR, hHC⟩)
      simp [go_sem, hu2]
     ·
      simp only [List.getElem?_toArray, List.getElem?_cons_succ, List.getElem?_cons_zero, Option.some.injEq] at ho
      subst ho
      replace hf : b3 = false := hf
      subst hf
      refine Go.Proofs.YtbmklpcheopgoaaReg.opIn_val ho2 rfl (fun _ => trivial) (fun c h => by cases h) (v := .int .i64 (((t - s - 1 - m : Nat) : Int))) (w1 := W') ?_ (hK _ _ ⟨b0, b1, b2, true, b4, b5, b6, b7, b8, b9, b10, b11, b12, b13, b14, b15, rfl, rfl, (k0), (k1), (k2), hHR, hHC⟩)
      simp [go_sem, hu2]
     ·
      simp only [List.getElem?_toArray, List.getElem?_cons_succ, List.getElem?_cons_zero, Option.some.injEq] at ho
      subst ho
      replace hf : b4 = false := hf
      subst hf
      refine Go.Proofs.YtbmklpcheopgoaaReg.opIn_val ho2 rfl (fun _ => trivial) (fun c h => by cases h) (v := .slice (some ⟨g, s * 3, none⟩) (t - s) (t - s)) (w1 := W') ?_ (hK _ _ ⟨b0, b1, b2, b3, true, b5, b6, b7, b8, b9, b10, b11, b12, b13, b14, b15, rfl, rfl, (k0), (k1), (k2), hHR, hHC⟩)
      simp [go_sem, hu2]
     ·
      simp only [List.getElem?_toArray, List.getElem?_cons_succ, List.getElem?_cons_zero, Option.some.injEq] at ho
      subst ho
      replace hf : b5 = false := hf
      subst hf
      refine Go.Proofs.YtbmklpcheopgoaaReg.opIn_val ho2 rfl (fun _ => trivial) (fun c h => by cases h) (v := .int .i64 (((t - s - 1 - m : Nat) : Int))) (w1 := W') ?_ (hK _ _ ⟨b0, b1, b2, b3, b4, true, b6, b7, b8, b9, b10, b11, b12, b13, b14, b15, rfl, rfl, (k0), (k1), (k2), hHR, hHC⟩)
      simp [go_sem, hu2]
     ·
      simp only [List.getElem?_toArray, List.getElem?_cons_succ, List.getElem?_cons_zero, Option.some.injEq] at ho
      subst ho
      replace hf : b6 = false := hf
      have d4 : b4 = true := hd ⟨4, .data⟩ (by simp) rfl
      have d5 : b5 = true := hd ⟨5, .data⟩ (by simp) rfl
      subst d4
      subst d5
      subst hf
      refine Go.Proofs.YtbmklpcheopgoaaReg.opIn_val ho2 rfl (fun _ => trivial) (fun c h => by cases h) (v := .pointer (some ⟨g, (s + (t - s - 1 - m)) * 3, none⟩)) (w1 := W') ?_ (hK _ _ ⟨b0, b1, b2, b3, true, true, true, b7, b8, b9, b10, b11, b12, b13, b14, b15, rfl, rfl, (k0), (k1), (k2), hHR, hHC⟩)
      refine run_indexAddr_pt (i := (t - s - 1 - m)) rfl rfl rfl (by omega) (by omega)
     ·
      simp only [List.getElem?_toArray, List.getElem?_cons_succ, List.getElem?_cons_zero, Option.some.injEq] at ho
      subst ho
      replace hf : b7 = false := hf
      have d6 : b6 = true := hd ⟨6, .data⟩ (by simp) rfl
      subst d6
      have n13 : b13 = false := Bool.eq_false_iff.mpr (fun h => absurd (k0 h) (by rw [hf]; decide))
      have n15 : b15 = false := Bool.eq_false_iff.mpr (fun h => absurd (k2 h) (by rw [n13]; decide))
      subst n13
      subst n15
      subst hf
      obtain ⟨c_, hc1_, hc2_, hc3_, hc4_⟩ := Kd.R_elem hHR z33 (((s + (t - s - 1 - m)) : Nat) : Int) (by omega) (by omega)
      obtain rfl := k33_openM hc2_
      simp only [Int.toNat_natCast] at hc3_
      refine Go.Proofs.YtbmklpcheopgoaaReg.opIn_val ho2 rfl (fun _ => trivial) (fun c h => by cases h) (v := .agg #[.int .i64 (rd_T33 l ((s + (t - s - 1 - m)) : Nat)).f0, .int .i64 (rd_T33 l ((s + (t - s - 1 - m)) : Nat)).f1, .bool (rd_T33 l ((s + (t - s - 1 - m)) : Nat)).f2]) (w1 := W') ?_ (hK _ _ ⟨b0, b1, b2, b3, b4, b5, true, true, b8, b9, b10, b11, b12, false, b14, false, rfl, rfl, (fun _ => rfl), (fun h => Bool.noConfusion h), (fun h => Bool.noConfusion h), hHR, hHC⟩)
      exact run_load_pt rfl rfl (hc3_ 0 _ rfl) (hc3_ 1 _ rfl) (hc3_ 2 _ rfl)
     ·
      simp only [List.getElem?_toArray, List.getElem?_cons_succ, List.getElem?_cons_zero, Option.some.injEq] at ho
      subst ho
      replace hf : b8 = false := hf
      subst hf
      refine Go.Proofs.YtbmklpcheopgoaaReg.opIn_val ho2 rfl (fun _ => trivial) (fun c h => by cases h) (v := .slice (some ⟨g, s * 3, none⟩) (t - s) (t - s)) (w1 := W') ?_ (hK _ _ ⟨b0, b1, b2, b3, b4, b5, b6, b7, true, b9, b10, b11, b12, b13, b14, b15, rfl, rfl, (k0), (k1), (k2), hHR, hHC⟩)
      simp [go_sem, hu2]
     ·
      simp only [List.getElem?_toArray, List.getElem?_cons_succ, List.getElem?_cons_zero, Option.some.injEq] at ho
      subst ho
      replace hf : b9 = false := hf
      subst hf
      refine Go.Proofs.YtbmklpcheopgoaaReg.opIn_val ho2 rfl (fun _ => trivial) (fun c h => by cases h) (v := .int .i64 (((1 + m : Nat) : Int))) (w1 := W') ?_ (hK _ _ ⟨b0, b1, b2, b3, b4, b5, b6, b7, b8, true, b10, b11, b12, b13, b14, b15, rfl, rfl, (k0), (k1), (k2), hHR, hHC⟩)
      simp [go_sem, hu2]
     ·
      simp only [List.getElem?_toArray, List.getElem?_cons_succ, List.getElem?_cons_zero, Option.some.injEq] at ho
      subst ho
      replace hf : b10 = false := hf
      have d8 : b8 = true := hd ⟨8, .data⟩ (by simp) rfl
      have d9 : b9 = true := hd ⟨9, .data⟩ (by simp) rfl
      subst d8
      subst d9
      subst hf
      refine Go.Proofs.YtbmklpcheopgoaaReg.opIn_val ho2 rfl (fun _ => trivial) (fun c h => by cases h) (v := .pointer (some ⟨g, (s + (1 + m)) * 3, none⟩)) (w1 := W') ?_ (hK _ _ ⟨b0, b1, b2, b3, b4, b5, b6, b7, true, true, true, b11, b12, b13, b14, b15, rfl, rfl, (k0), (k1), (k2), hHR, hHC⟩)
      refine run_indexAddr_pt (i := (1 + m)) rfl rfl rfl (by omega) (by omega)
     ·
      simp only [List.getElem?_toArray, List.getElem?_cons_succ, List.getElem?_cons_zero, Option.some.injEq] at ho
      subst ho
      replace hf : b11 = false := hf
      have d10 : b10 = true := hd ⟨10, .data⟩ (by simp) rfl
      subst d10
      have n13 : b13 = false := Bool.eq_false_iff.mpr (fun h => absurd (k1 h) (by rw [hf]; decide))
      have n15 : b15 = false := Bool.eq_false_iff.mpr (fun h => absurd (k2 h) (by rw [n13]; decide))
      subst n13
      subst n15
      subst hf
      obtain ⟨c_, hc1_, hc2_, hc3_, hc4_⟩ := Kd.R_elem hHR z33 (((s + (1 + m)) : Nat) : Int) (by omega) (by omega)
      obtain rfl := k33_openM hc2_
      simp only [Int.toNat_natCast] at hc3_
      refine Go.Proofs.YtbmklpcheopgoaaReg.opIn_val ho2 rfl (fun _ => trivial) (fun c h => by cases h) (v := .agg #[.int .i64 (rd_T33 l ((s + (1 + m)) : Nat)).f0, .int .i64 (rd_T33 l ((s + (1 + m)) : Nat)).f1, .bool (rd_T33 l ((s + (1 + m)) : Nat)).f2]) (w1 := W') ?_ (hK _ _ ⟨b0, b1, b2, b3, b4, b5, b6, b7, b8, b9, true, true, b12, false, b14, false, rfl, rfl, (fun h => Bool.noConfusion h), (fun _ => rfl), (fun h => Bool.noConfusion h), hHR, hHC⟩)
      exact run_load_pt rfl rfl (hc3_ 0 _ rfl) (hc3_ 1 _ rfl) (hc3_ 2 _ rfl)
     ·
      simp only [List.getElem?_toArray, List.getElem?_cons_succ, List.getElem?_cons_zero, Option.some.injEq] at ho
      subst ho
      replace hf : b12 = false := hf
      have d0 : b0 = true := hd ⟨0, .data⟩ (by simp) rfl
      have d1 : b1 = true := hd ⟨1, .data⟩ (by simp) rfl
      have d4 : b4 = true := hd ⟨4, .phase⟩ (by simp) rfl
      have d5 : b5 = true := hd ⟨5, .phase⟩ (by simp) rfl
      have d6 : b6 = true := hd ⟨6, .phase⟩ (by simp) rfl
      have d7 : b7 = true := hd ⟨7, .phase⟩ (by simp) rfl
      have d11 : b11 = true := hd ⟨11, .phase⟩ (by simp) rfl
      subst d0
      subst d1
      subst d4
      subst d5
      subst d6
      subst d7
      subst d11
      subst hf
      refine Go.Proofs.YtbmklpcheopgoaaReg.opIn_val ho2 rfl (fun _ => trivial) (fun c h => by cases h) (v := .pointer (some ⟨g, (s + (1 + m)) * 3, none⟩)) (w1 := W') ?_ (hK _ _ ⟨true, true, b2, b3, true, true, true, true, b8, b9, b10, true, true, b13, b14, b15, rfl, rfl, (fun _ => rfl), (fun _ => rfl), (k2), hHR, hHC⟩)
      refine run_indexAddr_pt (i := (1 + m)) rfl rfl rfl (by omega) (by omega)
     ·
      simp only [List.getElem?_toArray, List.getElem?_cons_succ, List.getElem?_cons_zero, Option.some.injEq] at ho
      subst ho
      replace hf : b13 = false := hf
      have d0 : b0 = true := hd ⟨0, .phase⟩ (by simp) rfl
      have d1 : b1 = true := hd ⟨1, .phase⟩ (by simp) rfl
      have d4 : b4 = true := hd ⟨4, .phase⟩ (by simp) rfl
      have d5 : b5 = true := hd ⟨5, .phase⟩ (by simp) rfl
      have d6 : b6 = true := hd ⟨6, .phase⟩ (by simp) rfl
      have d7 : b7 = true := hd ⟨7, .data⟩ (by simp) rfl
      have d11 : b11 = true := hd ⟨11, .phase⟩ (by simp) rfl
      have d12 : b12 = true := hd ⟨12, .data⟩ (by simp) rfl
      subst d0
      subst d1
      subst d4
      subst d5
      subst d6
      subst d7
      subst d11
      subst d12
      have n15 : b15 = false := Bool.eq_false_iff.mpr (fun h => absurd (k2 h) (by rw [hf]; decide))
      subst n15
      subst hf
      obtain ⟨w1, hr1, hr2, hr3⟩ := row_store (P := Try.prog) flat_pt hHR (s + (1 + m)) (by omega) 33 (.agg #[.int .i64 (rd_T33 l ((s + (t - s - 1 - m)) : Nat)).f0, .int .i64 (rd_T33 l ((s + (t - s - 1 - m)) : Nat)).f1, .bool (rd_T33 l ((s + (t - s - 1 - m)) : Nat)).f2]) (x' := (rd_T33 l ((s + (t - s - 1 - m)) : Nat))) (seg := [.int .i64 (rd_T33 l ((s + (t - s - 1 - m)) : Nat)).f0, .int .i64 (rd_T33 l ((s + (t - s - 1 - m)) : Nat)).f1, .bool (rd_T33 l ((s + (t - s - 1 - m)) : Nat)).f2]) rfl rfl info_pt (by simp [Value.oneCell']) (fun ok => k33_mkM _ _ _ _)
      refine Go.Proofs.YtbmklpcheopgoaaReg.opIn_skip ho2 rfl (fun _ => trivial) (fun c h => by cases h) (w1 := w1) ?_ (hK _ _ ⟨true, true, b2, b3, true, true, true, true, b8, b9, b10, true, true, true, b14, false, rfl, rfl, (fun _ => rfl), (fun _ => rfl), (fun _ => rfl), hr2, hHC.trans hr3⟩)
      exact run_store_op rfl rfl rfl hr1
     ·
      simp only [List.getElem?_toArray, List.getElem?_cons_succ, List.getElem?_cons_zero, Option.some.injEq] at ho
      subst ho
      replace hf : b14 = false := hf
      have d0 : b0 = true := hd ⟨0, .phase⟩ (by simp) rfl
      have d1 : b1 = true := hd ⟨1, .phase⟩ (by simp) rfl
      have d2 : b2 = true := hd ⟨2, .data⟩ (by simp) rfl
      have d3 : b3 = true := hd ⟨3, .data⟩ (by simp) rfl
      have d4 : b4 = true := hd ⟨4, .phase⟩ (by simp) rfl
      have d5 : b5 = true := hd ⟨5, .phase⟩ (by simp) rfl
      have d6 : b6 = true := hd ⟨6, .phase⟩ (by simp) rfl
      have d7 : b7 = true := hd ⟨7, .phase⟩ (by simp) rfl
      have d8 : b8 = true := hd ⟨8, .phase⟩ (by simp) rfl
      have d9 : b9 = true := hd ⟨9, .phase⟩ (by simp) rfl
      have d10 : b10 = true := hd ⟨10, .phase⟩ (by simp) rfl
      have d11 : b11 = true := hd ⟨11, .phase⟩ (by simp) rfl
      have d12 : b12 = true := hd ⟨12, .phase⟩ (by simp) rfl
      have d13 : b13 = true := hd ⟨13, .phase⟩ (by simp) rfl
      subst d0
      subst d1
      subst d2
      subst d3
      subst d4
      subst d5
      subst d6
      subst d7
      subst d8
      subst d9
      subst d10
      subst d11
      subst d12
      subst d13
      subst hf
      refine Go.Proofs.YtbmklpcheopgoaaReg.opIn_val ho2 rfl (fun _ => trivial) (fun c h => by cases h) (v := .pointer (some ⟨g, (s + (t - s - 1 - m)) * 3, none⟩)) (w1 := W') ?_ (hK _ _ ⟨true, true, true, true, true, true, true, true, true, true, true, true, true, true, true, b15, rfl, rfl, (fun _ => rfl), (fun _ => rfl), (fun _ => rfl), hHR, hHC⟩)
      refine run_indexAddr_pt (i := (t - s - 1 - m)) rfl rfl rfl (by omega) (by omega)
     ·
      simp only [List.getElem?_toArray, List.getElem?_cons_succ, List.getElem?_cons_zero, Option.some.injEq] at ho
      subst ho
      replace hf : b15 = false := hf
      have d0 : b0 = true := hd ⟨0, .phase⟩ (by simp) rfl
      have d1 : b1 = true := hd ⟨1, .phase⟩ (by simp) rfl
      have d2 : b2 = true := hd ⟨2, .phase⟩ (by simp) rfl
      have d3 : b3 = true := hd ⟨3, .phase⟩ (by simp) rfl
      have d4 : b4 = true := hd ⟨4, .phase⟩ (by simp) rfl
      have d5 : b5 = true := hd ⟨5, .phase⟩ (by simp) rfl
      have d6 : b6 = true := hd ⟨6, .phase⟩ (by simp) rfl
      have d7 : b7 = true := hd ⟨7, .phase⟩ (by simp) rfl
      have d8 : b8 = true := hd ⟨8, .phase⟩ (by simp) rfl
      have d9 : b9 = true := hd ⟨9, .phase⟩ (by simp) rfl
      have d10 : b10 = true := hd ⟨10, .phase⟩ (by simp) rfl
      have d11 : b11 = true := hd ⟨11, .data⟩ (by simp) rfl
      have d12 : b12 = true := hd ⟨12, .phase⟩ (by simp) rfl
      have d13 : b13 = true := hd ⟨13, .chain⟩ (by simp) rfl
      have d14 : b14 = true := hd ⟨14, .data⟩ (by simp) rfl
      subst d0
      subst d1
      subst d2
      subst d3
      subst d4
      subst d5
      subst d6
      subst d7
      subst d8
      subst d9
      subst d10
      subst d11
      subst d12
      subst d13
      subst d14
      subst hf
      obtain ⟨w1, hr1, hr2, hr3⟩ := row_store (P := Try.prog) flat_pt hHR (s + (t - s - 1 - m)) (by omega) 33 (.agg #[.int .i64 (rd_T33 l ((s + (1 + m)) : Nat)).f0, .int .i64 (rd_T33 l ((s + (1 + m)) : Nat)).f1, .bool (rd_T33 l ((s + (1 + m)) : Nat)).f2]) (x' := (rd_T33 l ((s + (1 + m)) : Nat))) (seg := [.int .i64 (rd_T33 l ((s + (1 + m)) : Nat)).f0, .int .i64 (rd_T33 l ((s + (1 + m)) : Nat)).f1, .bool (rd_T33 l ((s + (1 + m)) : Nat)).f2]) rfl rfl info_pt (by simp [Value.oneCell']) (fun ok => k33_mkM _ _ _ _)
      refine Go.Proofs.YtbmklpcheopgoaaReg.opIn_skip ho2 rfl (fun _ => trivial) (fun c h => by cases h) (w1 := w1) ?_ (hK _ _ ⟨true, true, true, true, true, true, true, true, true, true, true, true, true, true, true, true, rfl, rfl, (fun _ => rfl), (fun _ => rfl), (fun _ => rfl), hr2, hHC.trans hr3⟩)
      exact run_store_op rfl rfl rfl hr1
    ·
     rintro lst a W' ⟨b0, b1, b2, b3, b4, b5, b6, b7, b8, b9, b10, b11, b12, b13, b14, b15, rfl, rfl, k0, k1, k2, hHR, hHC⟩ hall
     have a0 : b0 = true := hall 0 (by decide)
     have a1 : b1 = true := hall 1 (by decide)
     have a2 : b2 = true := hall 2 (by decide)
     have a3 : b3 = true := hall 3 (by decide)
     have a4 : b4 = true := hall 4 (by decide)
     have a5 : b5 = true := hall 5 (by decide)
     have a6 : b6 = true := hall 6 (by decide)
     have a7 : b7 = true := hall 7 (by decide)
     have a8 : b8 = true := hall 8 (by decide)
     have a9 : b9 = true := hall 9 (by decide)
     have a10 : b10 = true := hall 10 (by decide)
     have a11 : b11 = true := hall 11 (by decide)
     have a12 : b12 = true := hall 12 (by decide)
     have a13 : b13 = true := hall 13 (by decide)
     have a14 : b14 = true := hall 14 (by decide)
     have a15 : b15 = true := hall 15 (by decide)
     subst a0 a1 a2 a3 a4 a5 a6 a7 a8 a9 a10 a11 a12 a13 a14 a15
     clear k0 k1 k2
     clear hall
     have HR : Kd.R k33 33 W' V0.heap.size (Own1 (.slice (some ⟨g, 0, none⟩) pts.length cp)) (.slice (some ⟨g, 0, none⟩) pts.length cp) ((l.set (s + (1 + m)) (rd_T33 l ((s + (t - s - 1 - m)) : Nat))).set (s + (t - s - 1 - m)) (rd_T33 l ((s + (1 + m)) : Nat))) := hHR
     have HC : Chg (fun i => i = g) Va W' := hHC
     clear hHR hHC
     gi_wp2
     refine ⟨⟨m + 1, by omega, by congr 1 <;> omega, by congr 1 <;> omega, ⟨by rw [HKS.out]; exact HR, HC⟩⟩, by simp [intOf]; omega⟩
   ·
    have hd : decide (1 + (m : Int) < ((t - s - 1 - m : Nat) : Int)) = false := by simp; omega
    have HHR := Lib.hid HR
    have HHC := Lib.hid HC
    clear HR HC
    gi_wp2
    obtain ⟨r2, r3, r4, r5⟩ := HH.out
    have HC := HHC.out
    have HR := HHR.out
    have hme : m = (t - s - 1) / 2 := by omega
    refine ⟨own, Grow.refl _ _, fun b h => HC.lt (how b h), HC.mono (fun b _ hb => by subst hb; exact (HOWN.out b).2 (by simp [Own1, Value.ownBlock]; try omega)), HOWN.out, ?_, ?_, ?_, ?_, ?_⟩
    ·
     rw [hNX.out, ← hme]; exact HR
    ·
     exact R_chg r3 HC (fun k hk e => hne k (by subst e; simp [Value.ownBlock]; try omega) hk)
    ·
     exact r4.chg HC (fun b hb e => by
      have := hpk g (by simp [Value.ownBlock]; try omega)
      simp at hb
      omega)
    ·
     exact r5.trans (HC.below (B := w.heap.size) r5.size (fun i hi e => by subst e; have := hbV0.size; omega))
    ·
     have := HC.size; omega
 ·
  rintro D own Va hD how hnD ⟨h1, h2, h3, h4, h5, h6⟩ hdef
  subst hvp; subst hve
  have g0 := h4.cell 0 rfl 0
  have g1 := h4.cell 0 rfl 1
  have g2 := h4.cell 1 rfl 0
  have g3 := h4.cell 1 rfl 1
  have g4 := h4.free 1 rfl 0
  have g5 := h4.free 1 rfl 1
  simp at g0 g1 g2 g3
  have HH := Lib.hid (And.intro h2 (And.intro h3 (And.intro h4 h5)))
  clear h2 h3 h4 h5 h1
  gi_wp2
  obtain ⟨h2, h3, h4, h5⟩ := HH.out
  have hd1 : Chg (fun b => b = w.heap.size + 1) Va ((Va.setCell ⟨w.heap.size + 1, 0, none⟩ (.slice Ap pts.length cp)).setCell ⟨w.heap.size + 1, 1, none⟩ (.slice Ae es.length ce)) := ((Chg.refl (fun b => b = w.heap.size + 1) Va).setCell (p := ⟨w.heap.size + 1, 0, none⟩) (fun _ => rfl) _).setCell (p := ⟨w.heap.size + 1, 1, none⟩) (fun _ => rfl) _
  have hB9 := (h4.set 1 rfl 0 (.slice Ap pts.length cp)).set 1 rfl 1 (.slice Ae es.length ce)
  have hR9 := R_chg h2 hd1 (fun k hk e => by have := (hpk k hk).1; omega)
  have hE9 := R_chg h3 hd1 (fun k hk e => by have := (hek k hk).1; omega)
  have hW9 : Below w.heap.size w _ := h5.trans (hd1.below (B := w.heap.size) h5.size (fun i hi e => by omega))
  refine leaves_collected (hd1.heap hdef (fun e => by omega)) fun V2 hc => ?_
  have hB10 := hB9.chg hc (fun b hb e => by simp at hb; omega)
  have hR10 := Kd.R_lower (R_all (R_chg hR9 hc (fun k hk e => by have := (hpk k hk).2.1; omega))) (show w.heap.size ≤ V0.heap.size by omega)
  have hE10 := Kd.R_lower (R_all (R_chg hE9 hc (fun k hk e => by have := (hek k hk).2.1; omega))) (show w.heap.size ≤ V0.heap.size by omega)
  have hW10 := hW9.trans (hc.below (B := w.heap.size) hW9.size (fun i hi e => by omega))
  exact ⟨.agg #[.slice Ap pts.length cp, .slice Ae es.length ce], by simp [results, Try.f29, go_sem, hB10.cell 1 rfl 0, hB10.cell 1 rfl 1], _, _, rfl, hR10, hE10, hW10⟩
 ·
  rintro D c k own V1 _ _ _ _ h
  exact h.elim
def outline_Reversed.f (l0_0 : List S33) (l0_1 : List Int) : Option (List S33 × List Int) :=
 if l0_0.length ≤ 1000000 ∧ l0_1.length ≤ 1000000 then some (revL l0_0 l0_1 (cutsL l0_1 l0_0.length).length, l0_1) else none
theorem outline_Reversed.calls (A0_0 : Option Addr) (c0_0 : Nat) (l0_0 : List (S33)) (A0_1 : Option Addr) (c0_1 : Nat) (l0_1 : List Int) (r1 : List (S33)) (r2 : List Int) (w : World) (hr0_0 : Kd.C k33 w A0_0 l0_0.length l0_0) (hc0_0 : l0_0.length ≤ c0_0) (hr0_1 : Kd.C (Kd.int .i64) w A0_1 l0_1.length l0_1) (hc0_1 : l0_1.length ≤ c0_1) (h : outline_Reversed.f l0_0 l0_1 = some (r1, r2)) :
  Calls Try.prog 29 #[.agg #[.slice A0_0 l0_0.length c0_0, .slice A0_1 l0_1.length c0_1]] w fun e w' => ∃ v0_ v1_ : Value, e = .returned (.agg #[v0_, v1_]) ∧ Kd.R k33 33 w' w.heap.size (fun _ => True) v0_ r1 ∧ Kd.R (Kd.int .i64) 3 w' w.heap.size (fun _ => True) v1_ r2 ∧ Below w.heap.size w w' := by
 unfold outline_Reversed.f at h
 split at h
 ·
  rename_i hl
  simp only [Option.some.injEq, Prod.mk.injEq] at h
  obtain ⟨rfl, rfl⟩ := h
  exact reversed_calls A0_0 A0_1 c0_0 c0_1 l0_0 l0_1 w hr0_0 hc0_0 hr0_1 hc0_1 hl.1 hl.2
 ·
  cases h
end Go.Proofs.Ytbmklpcheopgoaa.H

namespace Go.Proofs.Ytbmklpcheopgoaa.H
open Go.RowKit Go.Proofs.YtbmklpcheopgoaaW.PrintWords Go.Proofs.YtbmklpcheopgoaaW.PrintLast Go.Proofs.YtbmklpcheopgoaaW.PrintMore
attribute [local go_sem] max2_int min2_int max_two min_two max_three min_three max_four min_four
set_option linter.unusedVariables false
set_option linter.unusedSimpArgs false
def outline_at.f (a0 : Int) (a1 : Int) (a2 : Int) (a3 : Int) : Option (Int) := some ((wrap64 ((wrap64 ((wrap64 ((wrap64 ((wrap64 ((wrap64 (8 - a0)) * (wrap64 (8 - a0)))) * a1)) + (wrap64 ((wrap64 ((wrap64 (2 * a0)) * (wrap64 (8 - a0)))) * a2)))) + (wrap64 ((wrap64 (a0 * a0)) * a3)))) + 32)) / 64)
set_option maxHeartbeats 8000000 in
set_option maxRecDepth 100000 in
theorem outline_at.calls (a0 : Int) (a1 : Int) (a2 : Int) (a3 : Int) (r : Int) (w : World) (h : outline_at.f a0 a1 a2 a3 = some r) :
  Calls Try.prog 56 #[.int .i64 a0, .int .i64 a1, .int .i64 a2, .int .i64 a3] w fun e w' => e = .returned (.int .i64 r) ∧ Drawn0 w w' := by
 have H : (some ((wrap64 ((wrap64 ((wrap64 ((wrap64 ((wrap64 ((wrap64 (8 - a0)) * (wrap64 (8 - a0)))) * a1)) + (wrap64 ((wrap64 ((wrap64 (2 * a0)) * (wrap64 (8 - a0)))) * a2)))) + (wrap64 ((wrap64 (a0 * a0)) * a3)))) + 32)) / 64)) = some r := h
 clear h
 obtain rfl := Option.some.inj H
 go_enter Try.func56, Try.ntmps56
 go_wp2
 go_ret
 exact ⟨by first | rfl | (simp; done) | (simp [*]; done), by repeat (first | exact Drawn0.refl _ | apply Drawn0.step)⟩
end Go.Proofs.Ytbmklpcheopgoaa.H

namespace Go.Proofs.YtbmklpcheopgoaaCallOps
open Go Go.RowKit Go.Proofs.YtbmklpcheopgoaaIt Go.Proofs.YtbmklpcheopgoaaW.PrintWords Go.Proofs.YtbmklpcheopgoaaW.PrintLast

theorem op_call {P : Program} {o : Oper} {a : Act} {w : World} {K : Act → World → Prop} {Q : Exit → Act → World → Prop} {f : FuncId} {fn : Func} {avs : Array Operand} {ts : Array TypeId} (hf : P.funcs[f]? = some fn) (hname : (fn.name == "runtime.NumGoroutine") = false) (hb : fn.body.isSome = true) (args : Array Value)
    (hop : o.op = .call { callee := .value (.func f), args := avs, argTypes := ts }) (hargs : avs.map a.eval = args)
    (h : Calls P f args w fun e w' => ∃ v, e = .returned v ∧ K (a.put o.dst v) w') : Oper.wp P o a w K Q := by
  have he := enters_ hf hname hb args w
  have hrun : (execOp a.eval o).run P w = .ok (.enter f args) w := by
    unfold execOp
    simp [hop, resolve, Deferred.ofValue, invoke, Act.eval, hargs, he]
  unfold Oper.wp
  rw [hrun, Oper.upon_enter]
  refine h.mono fun e w'' hh => ?_
  obtain ⟨v, rfl, hk⟩ := hh
  exact hk

theorem op_callIn {F : Fence} {n : Nat} {P : Program} {o : Oper} {a : Act} {w : World} {K : Act → World → Prop} {Q : Exit → Act → World → Prop} {f : FuncId} {fn : Func} {avs : Array Operand} {ts : Array TypeId} (hf : P.funcs[f]? = some fn) (hname : (fn.name == "runtime.NumGoroutine") = false) (hb : fn.body.isSome = true) (args : Array Value)
    (hop : o.op = .call { callee := .value (.func f), args := avs, argTypes := ts }) (hargs : avs.map a.eval = args) (hF : F.depth = none) (hfn : ∀ f, F.fn f)
    (h : CallsIn F (n - 1) P f args w fun e w' => ∃ v, e = .returned v ∧ K (a.put o.dst v) w') : Oper.wpIn F n P o a w K Q := by
  have he := enters_ hf hname hb args w
  have hrun : (execOp a.eval o).run P w = .ok (.enter f args) w := by
    unfold execOp
    simp [hop, resolve, Deferred.ofValue, invoke, Act.eval, hargs, he]
  unfold Oper.wpIn
  refine ⟨fun f _ => hfn f, ?_⟩
  rw [Oper.semAt_plain F _ _ (by rw [hop]; intro c hc'; cases hc'), hrun]
  refine ⟨fun hh => (by rw [hF] at hh; cases hh), CallsIn.mono h fun e w'' hh => ?_⟩
  obtain ⟨v, rfl, hk⟩ := hh
  exact hk
end Go.Proofs.YtbmklpcheopgoaaCallOps

namespace Go.Proofs.Ytbmklpcheopgoaa.H
open Go.RowKit Go.Proofs.YtbmklpcheopgoaaW.PrintWords Go.Proofs.YtbmklpcheopgoaaW.PrintLast Go.Proofs.YtbmklpcheopgoaaW.PrintMore
attribute [local go_sem] max2_int min2_int max_two min_two max_three min_three max_four min_four
set_option linter.unusedVariables false
set_option linter.unusedSimpArgs false
open Go.Proofs.YtbmklpcheopgoaaOps Go.Proofs.YtbmklpcheopgoaaIt Go.Proofs.YtbmklpcheopgoaaBlks Go.Proofs.YtbmklpcheopgoaaFlat Go.Proofs.YtbmklpcheopgoaaCallOps
attribute [local go_sem] World.cell?_alloc_some
theorem flat_pt2 : Flat k52 := fun _ _ _ _ _ _ _ _ h => by rw [k52_openM h]; exact k52_mkM _ _ _ _
theorem info_pt2 : (Try.prog.info? 52).map (fun i => (i.zero, i.size, i.bytes)) = some (some (.agg #[.int .i64 0, .int .i64 0]), Kd.sz k52, 16) := by kernel_rfl
def atV (n a c b : Int) : Int := (outline_at.f n a c b).getD 0
theorem atV_f (n a c b : Int) : outline_at.f n a c b = some (atV n a c b) := rfl
def curveAt (l : List S101) (i : Nat) (j : Nat) : S52 :=
 let a := rd_T101 l (i : Nat); let c := rd_T101 l ((i + 1) % l.length : Nat); let b := rd_T101 l ((i + 2) % l.length : Nat)
 ⟨atV j a.f0.f0 c.f0.f0 b.f0.f0, atV j a.f0.f1 c.f0.f1 b.f0.f1⟩
def curveK (l : List S101) (i m : Nat) : List S52 := (List.range m).map fun j => curveAt l i (1 + j)
def rowGo (l : List S101) : Nat → Nat → List S52 → List S52
 | 0, _, out => out
 | f + 1, i, out => if i < l.length then (if (rd_T101 l ((i + 1) % l.length : Nat)).f1 = true then rowGo l f (i + 1) (out ++ [(rd_T101 l ((i + 1) % l.length : Nat)).f0]) else rowGo l f (i + 2) (out ++ curveK l i 8)) else out
def rowAll (l : List S101) : List S52 := rowGo l l.length 0 [(rd_T101 l (0 : Nat)).f0]
def rowL (l : List S101) : List S52 := (rowAll l).take ((rowAll l).length - 1)
theorem rowGo_more (l : List S101) : ∀ (f i : Nat) (out : List S52), l.length ≤ i + f → rowGo l (f + 1) i out = rowGo l f i out := by
 intro f
 induction f with
 | zero => intro i out h; unfold rowGo; rw [if_neg (by omega)]
 | succ f ih =>
  intro i out h
  by_cases hi : i < l.length
  ·
   rw [show rowGo l (f + 1 + 1) i out = _ from by unfold rowGo; exact if_pos hi, show rowGo l (f + 1) i out = _ from by unfold rowGo; exact if_pos hi]
   rw [ih _ _ (by omega), ih _ _ (by omega)]
  ·
   rw [show rowGo l (f + 1 + 1) i out = _ from by unfold rowGo; exact if_neg hi, show rowGo l (f + 1) i out = _ from by unfold rowGo; exact if_neg hi]
theorem rowGo_on (l : List S101) (i : Nat) (out : List S52) (hi : i < l.length) (hc : (rd_T101 l ((i + 1) % l.length : Nat)).f1 = true) : rowGo l (l.length - i) i out = rowGo l (l.length - (i + 1)) (i + 1) (out ++ [(rd_T101 l ((i + 1) % l.length : Nat)).f0]) := by
 obtain ⟨m, hm⟩ : ∃ m, l.length - i = m + 1 := ⟨l.length - i - 1, by omega⟩
 rw [hm, show l.length - (i + 1) = m by omega]
 rw [show rowGo l (m + 1) i out = _ from by unfold rowGo; exact if_pos hi, if_pos hc]
theorem rowGo_off (l : List S101) (i : Nat) (out : List S52) (hi : i < l.length) (hc : (rd_T101 l ((i + 1) % l.length : Nat)).f1 = false) : rowGo l (l.length - i) i out = rowGo l (l.length - (i + 2)) (i + 2) (out ++ curveK l i 8) := by
 obtain ⟨m, hm⟩ : ∃ m, l.length - i = m + 1 := ⟨l.length - i - 1, by omega⟩
 rw [hm, show rowGo l (m + 1) i out = _ from by unfold rowGo; exact if_pos hi, if_neg (by rw [hc]; decide)]
 cases m with
 | zero => rw [show l.length - (i + 2) = 0 by omega]
 | succ m => rw [show l.length - (i + 2) = m by omega]; exact rowGo_more l m (i + 2) _ (by omega)
theorem curveK_succ (l : List S101) (i m : Nat) : curveK l i (m + 1) = curveK l i m ++ [curveAt l i (1 + m)] := by simp [curveK, List.range_succ]
theorem curveK_len (l : List S101) (i m : Nat) : (curveK l i m).length = m := by simp [curveK]
theorem row_apart {α : Type} {d : Kd α} {H : List (Nat × Obj)} {W : World} {base : Nat} {ok : Nat → Prop} {v : Value} {xs : List α} (hB : Blks H W) (hH : ∀ p ∈ H, ∃ cs, p.2 = .cells cs 101 (0, 0)) (hO : d.R 52 W base ok v xs) : ∀ b ∈ H.map Prod.fst, v.ownBlock = some b → False := by
 intro b hb e
 obtain ⟨p, hp, rfl⟩ := List.mem_map.1 hb
 obtain ⟨cs, hc⟩ := hH p hp
 have h1 := hB.at_ p hp
 obtain ⟨_, inner, ho, _⟩ := hO
 obtain ⟨cells, h2⟩ := own_typed ho _ e
 rw [h1, hc] at h2
 injection h2 with h2
 injection h2 with _ h2
 cases h2
structure RowReg5 where
 mk ::
 b0 : Bool
 b1 : Bool
 b2 : Bool
 b3 : Bool
 b4 : Bool
 b5 : Bool
 b6 : Bool
 b7 : Bool
 b8 : Bool
 b9 : Bool
 b10 : Bool
 b11 : Bool
 b12 : Bool
 b13 : Bool
 b14 : Bool
 b15 : Bool
 b16 : Bool
 b17 : Bool
 b18 : Bool
 b19 : Bool
 b20 : Bool
 b21 : Bool
 b22 : Bool
 b23 : Bool
 b24 : Bool
 b25 : Bool
 gA : Nat
 gC : Nat
 gB : Nat
structure RowReg11 where
 mk ::
 b0 : Bool
 b1 : Bool
 b2 : Bool
 b3 : Bool
 b4 : Bool
 b5 : Bool
 b6 : Bool
 b7 : Bool
 b8 : Bool
 b9 : Bool
 b10 : Bool
 b11 : Bool
 b12 : Bool
 b13 : Bool
 b14 : Bool
 b15 : Bool
 b16 : Bool
 b17 : Bool
 b18 : Bool
 b19 : Bool
 b20 : Bool
 b21 : Bool
 b22 : Bool
 b23 : Bool
 b24 : Bool
 b25 : Bool
 b26 : Bool
 gH : Nat
 V1 : Value
set_option maxRecDepth 100000 in
set_option maxHeartbeats 4000000 in
theorem row_calls (A0 : Option Addr) (c0 : Nat) (l : List S101) (w : World) (hr : Kd.C k101 w A0 l.length l) (hc0 : l.length ≤ c0) (hpos : 0 < l.length) (hlim : l.length ≤ 3000000) :
  Calls Try.prog 48 #[.slice A0 l.length c0] w fun e w' => ∃ v : Value, e = .returned v ∧ Kd.R k52 52 w' w.heap.size (fun _ => True) v (rowL l) ∧ Below w.heap.size w w' := by
 have hu := Try.underlying52
 have hu2 := Try.underlying101
 have hu3 := Try.underlying83
 obtain ⟨ad, rfl, x0, x1, x2⟩ := at_T101 hr 0 (by omega) (by omega)
 have e0 : ad.add 0 = ad := by unfold Addr.add; split <;> simp_all
 simp only [Int.toNat_zero, Nat.zero_mul, e0] at x0 x1 x2
 clear e0
 have HR := aM hr
 clear hr
 go_enter Try.func48, Try.ntmps48
 go_wp2
 have hS0 : Kd.R k52 52 (w.alloc (.cells #[.int .i64 (rd_T101 l 0).f0.f0, .int .i64 (rd_T101 l 0).f0.f1] 52)) w.heap.size (Own1 (.slice (some ⟨w.heap.size, 0, none⟩) 1 1)) (.slice (some ⟨w.heap.size, 0, none⟩) 1 1) [(rd_T101 l 0).f0] := by
  refine ⟨fun k hk => hk.symm, [.int .i64 (rd_T101 l 0).f0.f0, .int .i64 (rd_T101 l 0).f0.f1], ⟨by simp; rfl, .inr ⟨w.heap.size, 1, _, rfl, Nat.le_refl _, World.alloc_heap_new w _, Nat.le_refl _, by simp [maxLen], by rfl, by rfl⟩⟩, ?_⟩
  exact Reps.snoc (ps := []) (cs := []) (Reps.none _ _) (k52_mkM _ _ _ _) rfl
 go_loopw [3, 4] (fun v3 v4 wr => ∃ (i : Nat) (out : List S52), i ≤ l.length + 1 ∧ v4 = .int .i64 i ∧ 1 ≤ out.length ∧ out.length ≤ 1 + 8 * i ∧ Aside0 (rowGo l (l.length - i) i out = rowAll l ∧ Kd.R k52 52 wr w.heap.size (Own1 v3) v3 out ∧ Below w.heap.size w wr))
  (fun _ v4 _ => l.length + 2 - (intOf v4).toNat)
 case atStart => exact ⟨0, _, by omega, rfl, by simp, by simp, ⟨rfl, hS0, (Below.refl _ _).alloc (Nat.le_refl _) _⟩⟩
 case round =>
  obtain ⟨i, out, hi, rfl, hol1, hol, ⟨HG, HO, HB⟩⟩ := hrel
  by_cases hlt : i < l.length
  ·
   obtain ⟨Ao, co, hv3⟩ := Kd.R_slice HO
   subst hv3
   have hOlt : ∀ k, (Value.slice Ao out.length co).ownBlock = some k → k < wr.heap.size := fun k hk => by obtain ⟨_, inner, ho, _⟩ := HO; exact own_lt ho k hk
   obtain ⟨j1, hj1⟩ : ∃ j1, (i + 1) % l.length = j1 := ⟨_, rfl⟩
   obtain ⟨j2, hj2⟩ : ∃ j2, (i + 2) % l.length = j2 := ⟨_, rfl⟩
   have hlj1 : j1 < l.length := by rw [← hj1]; exact Nat.mod_lt _ hpos
   have hlj2 : j2 < l.length := by rw [← hj2]; exact Nat.mod_lt _ hpos
   have hli : i < l.length := hlt
   have hw1 : wrap64 ((i : Int) + 1) = (i : Int) + 1 := by unfold wrap64; omega
   have hw2 : wrap64 ((i : Int) + 2) = (i : Int) + 2 := by unfold wrap64; omega
   have hw1' : IntKind.i64.wrap ((i : Int) + 1) = (i : Int) + 1 := (Go.Proofs.YtbmklpcheopgoaaW.PrintLast.i64_w _).trans hw1
   have hw2' : IntKind.i64.wrap ((i : Int) + 2) = (i : Int) + 2 := (Go.Proofs.YtbmklpcheopgoaaW.PrintLast.i64_w _).trans hw2
   have hn0 : ¬ ((l.length : Int) = 0) := by omega
   have hne : ¬ l = [] := fun h => by rw [h] at hpos; simp at hpos
   have hm1' : ((i : Int) + 1) % (l.length : Int) = (j1 : Int) := by rw [← hj1]; simp
   have hm2' : ((i : Int) + 2) % (l.length : Int) = (j2 : Int) := by rw [← hj2]; simp
   have hm1 : Int.tmod ((i : Int) + 1) (l.length : Int) = (j1 : Int) := by rw [Int.tmod_eq_emod_of_nonneg (by omega)]; exact hm1'
   have hm2 : Int.tmod ((i : Int) + 2) (l.length : Int) = (j2 : Int) := by rw [Int.tmod_eq_emod_of_nonneg (by omega)]; exact hm2'
   obtain ⟨_, e1, a0, a1, a2⟩ := at_T101 HR.out ((i : Nat) : Int) (by omega) (by omega)
   cases e1
   obtain ⟨_, e1, c0_, c1_, c2_⟩ := at_T101 HR.out ((j1 : Nat) : Int) (by omega) (by omega)
   cases e1
   obtain ⟨_, e1, b0_, b1_, b2_⟩ := at_T101 HR.out ((j2 : Nat) : Int) (by omega) (by omega)
   cases e1
   simp only [Int.toNat_natCast] at a0 a1 a2 c0_ c1_ c2_ b0_ b1_ b2_
   have fa0 := (HB.cell (World.block_lt_of_cell? w _ a0)).trans a0
   have fa1 := (HB.cell (World.block_lt_of_cell? w _ a1)).trans a1
   have fa2 := (HB.cell (World.block_lt_of_cell? w _ a2)).trans a2
   have fc0 := (HB.cell (World.block_lt_of_cell? w _ c0_)).trans c0_
   have fc1 := (HB.cell (World.block_lt_of_cell? w _ c1_)).trans c1_
   have fc2 := (HB.cell (World.block_lt_of_cell? w _ c2_)).trans c2_
   have fb0 := (HB.cell (World.block_lt_of_cell? w _ b0_)).trans b0_
   have fb1 := (HB.cell (World.block_lt_of_cell? w _ b1_)).trans b1_
   have fb2 := (HB.cell (World.block_lt_of_cell? w _ b2_)).trans b2_
   have HB_ := Lib.hid HB
   clear HB
   clear c0_ c1_ c2_ b0_ b1_ b2_ x0 x1 x2 a0 a1 a2
   go_wp2_with fail
   refine Go.Proofs.YtbmklpcheopgoaaReg.reg_inv (by rfl) [0, 1, 2, 3, 4, 5, 6, 7, 8, 9, 10, 11, 12, 13, 14, 15, 16, 17, 18, 19, 20, 21, 22, 23, 24, 25] (by kernel_rfl) (by kernel_rfl)
    (fun lst a W' => ∃ d : RowReg5, lst = #[d.b0, d.b1, d.b2, d.b3, d.b4, d.b5, d.b6, d.b7, d.b8, d.b9, d.b10, d.b11, d.b12, d.b13, d.b14, d.b15, d.b16, d.b17, d.b18, d.b19, d.b20, d.b21, d.b22, d.b23, d.b24, d.b25] ∧ a = ⟨#[.slice (some ad) l.length c0, undef, .slice none 0 0, .slice Ao out.length co, .int .i64 i, (cond d.b20 (.pointer (some ⟨d.gA, 0, none⟩)) u5), (cond d.b21 (.pointer (some ⟨d.gC, 0, none⟩)) u6), (cond d.b22 (.pointer (some ⟨d.gB, 0, none⟩)) u7), u8, .slice (some ad) l.length c0, .pointer (some ad), .pointer (some ad), .agg #[.int .i64 (rd_T101 l 0).f0.f0, .int .i64 (rd_T101 l 0).f0.f1], .slice (some ⟨w.heap.size, 0, none⟩) 1 1, .int .i64 i, .slice (some ad) l.length c0, .int .i64 l.length, .bool true, u18, u19, (cond d.b0 (.slice (some ad) l.length c0) u20), (cond d.b1 (.int .i64 i) u21), (cond d.b2 (.pointer (some (ad.add (i * 3)))) u22), (cond d.b3 (.agg #[.int .i64 (rd_T101 l ((i : Nat) : Int)).f0.f0, .int .i64 (rd_T101 l ((i : Nat) : Int)).f0.f1, .bool (rd_T101 l ((i : Nat) : Int)).f1]) u23), (cond d.b4 (.slice (some ad) l.length c0) u24), (cond d.b5 (.int .i64 i) u25), (cond d.b6 (.int .i64 ((i : Int) + 1)) u26), (cond d.b7 (.slice (some ad) l.length c0) u27), (cond d.b8 (.int .i64 l.length) u28), (cond d.b9 (.int .i64 j1) u29), (cond d.b10 (.pointer (some (ad.add (j1 * 3)))) u30), (cond d.b11 (.agg #[.int .i64 (rd_T101 l ((j1 : Nat) : Int)).f0.f0, .int .i64 (rd_T101 l ((j1 : Nat) : Int)).f0.f1, .bool (rd_T101 l ((j1 : Nat) : Int)).f1]) u31), (cond d.b12 (.slice (some ad) l.length c0) u32), (cond d.b13 (.int .i64 i) u33), (cond d.b14 (.int .i64 ((i : Int) + 2)) u34), (cond d.b15 (.slice (some ad) l.length c0) u35), (cond d.b16 (.int .i64 l.length) u36), (cond d.b17 (.int .i64 j2) u37), (cond d.b18 (.pointer (some (ad.add (j2 * 3)))) u38), (cond d.b19 (.agg #[.int .i64 (rd_T101 l ((j2 : Nat) : Int)).f0.f0, .int .i64 (rd_T101 l ((j2 : Nat) : Int)).f0.f1, .bool (rd_T101 l ((j2 : Nat) : Int)).f1]) u39), u40, u41, u42, u43, u44, u45, u46, u47, u48, u49, u50, u51, u52, u53, u54, u55, u56, u57, u58, u59, u60, u61, u62, u63, u64, u65, u66, u67, u68, u69, u70, u71, u72, u73, u74, u75, u76, u77, u78, undef, undef, undef, undef, undef], []⟩ ∧ (d.b23 = true → d.b20 = true) ∧ (d.b23 = true → d.b21 = true) ∧ (d.b23 = true → d.b22 = true) ∧ (d.b24 = true → d.b20 = true) ∧ (d.b24 = true → d.b21 = true) ∧ (d.b24 = true → d.b22 = true) ∧ (d.b25 = true → d.b20 = true) ∧ (d.b25 = true → d.b21 = true) ∧ (d.b25 = true → d.b22 = true) ∧ (d.b20 = true → W'.heap[d.gA]? = some (.cells #[cond d.b23 (.int .i64 (rd_T101 l ((i : Nat) : Int)).f0.f0) (.int .i64 0), cond d.b23 (.int .i64 (rd_T101 l ((i : Nat) : Int)).f0.f1) (.int .i64 0), cond d.b23 (.bool (rd_T101 l ((i : Nat) : Int)).f1) (.bool false)] 101 (0, 0))) ∧ (d.b21 = true → W'.heap[d.gC]? = some (.cells #[cond d.b24 (.int .i64 (rd_T101 l ((j1 : Nat) : Int)).f0.f0) (.int .i64 0), cond d.b24 (.int .i64 (rd_T101 l ((j1 : Nat) : Int)).f0.f1) (.int .i64 0), cond d.b24 (.bool (rd_T101 l ((j1 : Nat) : Int)).f1) (.bool false)] 101 (0, 0))) ∧ (d.b22 = true → W'.heap[d.gB]? = some (.cells #[cond d.b25 (.int .i64 (rd_T101 l ((j2 : Nat) : Int)).f0.f0) (.int .i64 0), cond d.b25 (.int .i64 (rd_T101 l ((j2 : Nat) : Int)).f0.f1) (.int .i64 0), cond d.b25 (.bool (rd_T101 l ((j2 : Nat) : Int)).f1) (.bool false)] 101 (0, 0))) ∧ (d.b20 = true → d.b21 = true → d.gA ≠ d.gC) ∧ (d.b20 = true → d.b22 = true → d.gA ≠ d.gB) ∧ (d.b21 = true → d.b22 = true → d.gC ≠ d.gB) ∧ (d.b20 = true → wr.heap.size ≤ d.gA) ∧ (d.b21 = true → wr.heap.size ≤ d.gC) ∧ (d.b22 = true → wr.heap.size ≤ d.gB) ∧ (Kd.R k52 52 W' w.heap.size (Own1 (.slice Ao out.length co)) (.slice Ao out.length co) out) ∧ (Below wr.heap.size wr W')) ?_ ?_ ?_ ?_
   ·
    rintro lst a W' ⟨d, rfl, _⟩
    rfl
   ·
    exact ⟨⟨false, false, false, false, false, false, false, false, false, false, false, false, false, false, false, false, false, false, false, false, false, false, false, false, false, false, 0, 0, 0⟩, rfl, rfl, (fun h => Bool.noConfusion h), (fun h => Bool.noConfusion h), (fun h => Bool.noConfusion h), (fun h => Bool.noConfusion h), (fun h => Bool.noConfusion h), (fun h => Bool.noConfusion h), (fun h => Bool.noConfusion h), (fun h => Bool.noConfusion h), (fun h => Bool.noConfusion h), (fun h => Bool.noConfusion h), (fun h => Bool.noConfusion h), (fun h => Bool.noConfusion h), (fun h => Bool.noConfusion h), (fun h => Bool.noConfusion h), (fun h => Bool.noConfusion h), (fun h => Bool.noConfusion h), (fun h => Bool.noConfusion h), (fun h => Bool.noConfusion h), (R_chg HO ((Chg.refl (fun _ => False) _).drew) (fun _ _ => id)), (below_drew (Below.refl _ _))⟩
   ·
    rintro lst a W' i o ⟨⟨b0, b1, b2, b3, b4, b5, b6, b7, b8, b9, b10, b11, b12, b13, b14, b15, b16, b17, b18, b19, b20, b21, b22, b23, b24, b25, gA, gC, gB⟩, rfl, rfl, k0, k1, k2, k3, k4, k5, k6, k7, k8, hHA, hHC, hHD, hN1, hN2, hN3, hG1, hG2, hG3, hHO, hHB⟩ ho hf hd K hK
    dsimp only at k0 k1 k2 k3 k4 k5 k6 k7 k8 hHA hHC hHD hN1 hN2 hN3 hG1 hG2 hG3 hHO hHB
    have hi : i < 26 := (Array.getElem?_eq_some_iff.1 ho).1
    have ho2 := ho
    rcases (show i = 0 ∨ i = 1 ∨ i = 2 ∨ i = 3 ∨ i = 4 ∨ i = 5 ∨ i = 6 ∨ i = 7 ∨ i = 8 ∨ i = 9 ∨ i = 10 ∨ i = 11 ∨ i = 12 ∨ i = 13 ∨ i = 14 ∨ i = 15 ∨ i = 16 ∨ i = 17 ∨ i = 18 ∨ i = 19 ∨ i = 20 ∨ i = 21 ∨ i = 22 ∨ i = 23 ∨ i = 24 ∨ i = 25 by omega) with rfl | rfl | rfl | rfl | rfl | rfl | rfl | rfl | rfl | rfl | rfl | rfl | rfl | rfl | rfl | rfl | rfl | rfl | rfl | rfl | rfl | rfl | rfl | rfl | rfl | rfl
    ·
     simp only [List.getElem?_toArray, List.getElem?_cons_succ, List.getElem?_cons_zero, Option.some.injEq] at ho
     subst ho
     replace hf : b0 = false := hf
     subst hf
     refine Go.Proofs.YtbmklpcheopgoaaReg.op_val ho2 rfl (v := .slice (some ad) l.length c0) (w1 := W') ?_ (hK _ _ ⟨⟨true, b1, b2, b3, b4, b5, b6, b7, b8, b9, b10, b11, b12, b13, b14, b15, b16, b17, b18, b19, b20, b21, b22, b23, b24, b25, gA, gC, gB⟩, rfl, rfl, (k0), (k1), (k2), (k3), (k4), (k5), (k6), (k7), (k8), hHA, hHC, hHD, hN1, hN2, hN3, hG1, hG2, hG3, hHO, hHB⟩)
     simp [go_sem, hu3]
    ·
     simp only [List.getElem?_toArray, List.getElem?_cons_succ, List.getElem?_cons_zero, Option.some.injEq] at ho
     subst ho
     replace hf : b1 = false := hf
     subst hf
     refine Go.Proofs.YtbmklpcheopgoaaReg.op_val ho2 rfl (v := .int .i64 i) (w1 := W') ?_ (hK _ _ ⟨⟨b0, true, b2, b3, b4, b5, b6, b7, b8, b9, b10, b11, b12, b13, b14, b15, b16, b17, b18, b19, b20, b21, b22, b23, b24, b25, gA, gC, gB⟩, rfl, rfl, (k0), (k1), (k2), (k3), (k4), (k5), (k6), (k7), (k8), hHA, hHC, hHD, hN1, hN2, hN3, hG1, hG2, hG3, hHO, hHB⟩)
     simp [go_sem, hu3]
    ·
     simp only [List.getElem?_toArray, List.getElem?_cons_succ, List.getElem?_cons_zero, Option.some.injEq] at ho
     subst ho
     replace hf : b2 = false := hf
     have d0 : b0 = true := hd ⟨0, .data⟩ (by simp) rfl
     have d1 : b1 = true := hd ⟨1, .data⟩ (by simp) rfl
     subst d0
     subst d1
     subst hf
     refine Go.Proofs.YtbmklpcheopgoaaReg.op_val ho2 rfl (v := .pointer (some (ad.add (i * 3)))) (w1 := W') ?_ (hK _ _ ⟨⟨true, true, true, b3, b4, b5, b6, b7, b8, b9, b10, b11, b12, b13, b14, b15, b16, b17, b18, b19, b20, b21, b22, b23, b24, b25, gA, gC, gB⟩, rfl, rfl, (k0), (k1), (k2), (k3), (k4), (k5), (k6), (k7), (k8), hHA, hHC, hHD, hN1, hN2, hN3, hG1, hG2, hG3, hHO, hHB⟩)
     simp [go_sem, hu3, hli]
    ·
     simp only [List.getElem?_toArray, List.getElem?_cons_succ, List.getElem?_cons_zero, Option.some.injEq] at ho
     subst ho
     replace hf : b3 = false := hf
     have d2 : b2 = true := hd ⟨2, .data⟩ (by simp) rfl
     subst d2
     subst hf
     refine Go.Proofs.YtbmklpcheopgoaaReg.op_val ho2 rfl (v := .agg #[.int .i64 (rd_T101 l ((i : Nat) : Int)).f0.f0, .int .i64 (rd_T101 l ((i : Nat) : Int)).f0.f1, .bool (rd_T101 l ((i : Nat) : Int)).f1]) (w1 := W') ?_ (hK _ _ ⟨⟨b0, b1, true, true, b4, b5, b6, b7, b8, b9, b10, b11, b12, b13, b14, b15, b16, b17, b18, b19, b20, b21, b22, b23, b24, b25, gA, gC, gB⟩, rfl, rfl, (k0), (k1), (k2), (k3), (k4), (k5), (k6), (k7), (k8), hHA, hHC, hHD, hN1, hN2, hN3, hG1, hG2, hG3, hHO, hHB⟩)
     simp [go_sem, hu, hu2, (hHB.cell (World.block_lt_of_cell? wr _ fa0)).trans fa0, (hHB.cell (World.block_lt_of_cell? wr _ fa1)).trans fa1, (hHB.cell (World.block_lt_of_cell? wr _ fa2)).trans fa2]
    ·
     simp only [List.getElem?_toArray, List.getElem?_cons_succ, List.getElem?_cons_zero, Option.some.injEq] at ho
     subst ho
     replace hf : b4 = false := hf
     subst hf
     refine Go.Proofs.YtbmklpcheopgoaaReg.op_val ho2 rfl (v := .slice (some ad) l.length c0) (w1 := W') ?_ (hK _ _ ⟨⟨b0, b1, b2, b3, true, b5, b6, b7, b8, b9, b10, b11, b12, b13, b14, b15, b16, b17, b18, b19, b20, b21, b22, b23, b24, b25, gA, gC, gB⟩, rfl, rfl, (k0), (k1), (k2), (k3), (k4), (k5), (k6), (k7), (k8), hHA, hHC, hHD, hN1, hN2, hN3, hG1, hG2, hG3, hHO, hHB⟩)
     simp [go_sem, hu3]
    ·
     simp only [List.getElem?_toArray, List.getElem?_cons_succ, List.getElem?_cons_zero, Option.some.injEq] at ho
     subst ho
     replace hf : b5 = false := hf
     subst hf
     refine Go.Proofs.YtbmklpcheopgoaaReg.op_val ho2 rfl (v := .int .i64 i) (w1 := W') ?_ (hK _ _ ⟨⟨b0, b1, b2, b3, b4, true, b6, b7, b8, b9, b10, b11, b12, b13, b14, b15, b16, b17, b18, b19, b20, b21, b22, b23, b24, b25, gA, gC, gB⟩, rfl, rfl, (k0), (k1), (k2), (k3), (k4), (k5), (k6), (k7), (k8), hHA, hHC, hHD, hN1, hN2, hN3, hG1, hG2, hG3, hHO, hHB⟩)
     simp [go_sem, hu3]
    ·
     simp only [List.getElem?_toArray, List.getElem?_cons_succ, List.getElem?_cons_zero, Option.some.injEq] at ho
     subst ho
     replace hf : b6 = false := hf
     have d5 : b5 = true := hd ⟨5, .data⟩ (by simp) rfl
     subst d5
     subst hf
     refine Go.Proofs.YtbmklpcheopgoaaReg.op_val ho2 rfl (v := .int .i64 ((i : Int) + 1)) (w1 := W') ?_ (hK _ _ ⟨⟨b0, b1, b2, b3, b4, true, true, b7, b8, b9, b10, b11, b12, b13, b14, b15, b16, b17, b18, b19, b20, b21, b22, b23, b24, b25, gA, gC, gB⟩, rfl, rfl, (k0), (k1), (k2), (k3), (k4), (k5), (k6), (k7), (k8), hHA, hHC, hHD, hN1, hN2, hN3, hG1, hG2, hG3, hHO, hHB⟩)
     simp [go_sem, hw1, hw1']
    ·
     simp only [List.getElem?_toArray, List.getElem?_cons_succ, List.getElem?_cons_zero, Option.some.injEq] at ho
     subst ho
     replace hf : b7 = false := hf
     subst hf
     refine Go.Proofs.YtbmklpcheopgoaaReg.op_val ho2 rfl (v := .slice (some ad) l.length c0) (w1 := W') ?_ (hK _ _ ⟨⟨b0, b1, b2, b3, b4, b5, b6, true, b8, b9, b10, b11, b12, b13, b14, b15, b16, b17, b18, b19, b20, b21, b22, b23, b24, b25, gA, gC, gB⟩, rfl, rfl, (k0), (k1), (k2), (k3), (k4), (k5), (k6), (k7), (k8), hHA, hHC, hHD, hN1, hN2, hN3, hG1, hG2, hG3, hHO, hHB⟩)
     simp [go_sem, hu3]
    ·
     simp only [List.getElem?_toArray, List.getElem?_cons_succ, List.getElem?_cons_zero, Option.some.injEq] at ho
     subst ho
     replace hf : b8 = false := hf
     have d7 : b7 = true := hd ⟨7, .data⟩ (by simp) rfl
     subst d7
     subst hf
     refine Go.Proofs.YtbmklpcheopgoaaReg.op_val ho2 rfl (v := .int .i64 l.length) (w1 := W') ?_ (hK _ _ ⟨⟨b0, b1, b2, b3, b4, b5, b6, true, true, b9, b10, b11, b12, b13, b14, b15, b16, b17, b18, b19, b20, b21, b22, b23, b24, b25, gA, gC, gB⟩, rfl, rfl, (k0), (k1), (k2), (k3), (k4), (k5), (k6), (k7), (k8), hHA, hHC, hHD, hN1, hN2, hN3, hG1, hG2, hG3, hHO, hHB⟩)
     simp [go_sem, hu3]
    ·
     simp only [List.getElem?_toArray, List.getElem?_cons_succ, List.getElem?_cons_zero, Option.some.injEq] at ho
     subst ho
     replace hf : b9 = false := hf
     have d6 : b6 = true := hd ⟨6, .data⟩ (by simp) rfl
     have d8 : b8 = true := hd ⟨8, .data⟩ (by simp) rfl
     subst d6
     subst d8
     subst hf
     refine Go.Proofs.YtbmklpcheopgoaaReg.op_val ho2 rfl (v := .int .i64 j1) (w1 := W') ?_ (hK _ _ ⟨⟨b0, b1, b2, b3, b4, b5, true, b7, true, true, b10, b11, b12, b13, b14, b15, b16, b17, b18, b19, b20, b21, b22, b23, b24, b25, gA, gC, gB⟩, rfl, rfl, (k0), (k1), (k2), (k3), (k4), (k5), (k6), (k7), (k8), hHA, hHC, hHD, hN1, hN2, hN3, hG1, hG2, hG3, hHO, hHB⟩)
     simp [go_sem, hm1, hn0, hm1', hne]
    ·
     simp only [List.getElem?_toArray, List.getElem?_cons_succ, List.getElem?_cons_zero, Option.some.injEq] at ho
     subst ho
     replace hf : b10 = false := hf
     have d4 : b4 = true := hd ⟨4, .data⟩ (by simp) rfl
     have d9 : b9 = true := hd ⟨9, .data⟩ (by simp) rfl
     subst d4
     subst d9
     subst hf
     refine Go.Proofs.YtbmklpcheopgoaaReg.op_val ho2 rfl (v := .pointer (some (ad.add (j1 * 3)))) (w1 := W') ?_ (hK _ _ ⟨⟨b0, b1, b2, b3, true, b5, b6, b7, b8, true, true, b11, b12, b13, b14, b15, b16, b17, b18, b19, b20, b21, b22, b23, b24, b25, gA, gC, gB⟩, rfl, rfl, (k0), (k1), (k2), (k3), (k4), (k5), (k6), (k7), (k8), hHA, hHC, hHD, hN1, hN2, hN3, hG1, hG2, hG3, hHO, hHB⟩)
     simp [go_sem, hu3, hlj1]
    ·
     simp only [List.getElem?_toArray, List.getElem?_cons_succ, List.getElem?_cons_zero, Option.some.injEq] at ho
     subst ho
     replace hf : b11 = false := hf
     have d10 : b10 = true := hd ⟨10, .data⟩ (by simp) rfl
     subst d10
     subst hf
     refine Go.Proofs.YtbmklpcheopgoaaReg.op_val ho2 rfl (v := .agg #[.int .i64 (rd_T101 l ((j1 : Nat) : Int)).f0.f0, .int .i64 (rd_T101 l ((j1 : Nat) : Int)).f0.f1, .bool (rd_T101 l ((j1 : Nat) : Int)).f1]) (w1 := W') ?_ (hK _ _ ⟨⟨b0, b1, b2, b3, b4, b5, b6, b7, b8, b9, true, true, b12, b13, b14, b15, b16, b17, b18, b19, b20, b21, b22, b23, b24, b25, gA, gC, gB⟩, rfl, rfl, (k0), (k1), (k2), (k3), (k4), (k5), (k6), (k7), (k8), hHA, hHC, hHD, hN1, hN2, hN3, hG1, hG2, hG3, hHO, hHB⟩)
     simp [go_sem, hu, hu2, (hHB.cell (World.block_lt_of_cell? wr _ fc0)).trans fc0, (hHB.cell (World.block_lt_of_cell? wr _ fc1)).trans fc1, (hHB.cell (World.block_lt_of_cell? wr _ fc2)).trans fc2]
    ·
     simp only [List.getElem?_toArray, List.getElem?_cons_succ, List.getElem?_cons_zero, Option.some.injEq] at ho
     subst ho
     replace hf : b12 = false := hf
     subst hf
     refine Go.Proofs.YtbmklpcheopgoaaReg.op_val ho2 rfl (v := .slice (some ad) l.length c0) (w1 := W') ?_ (hK _ _ ⟨⟨b0, b1, b2, b3, b4, b5, b6, b7, b8, b9, b10, b11, true, b13, b14, b15, b16, b17, b18, b19, b20, b21, b22, b23, b24, b25, gA, gC, gB⟩, rfl, rfl, (k0), (k1), (k2), (k3), (k4), (k5), (k6), (k7), (k8), hHA, hHC, hHD, hN1, hN2, hN3, hG1, hG2, hG3, hHO, hHB⟩)
     simp [go_sem, hu3]
    ·
     simp only [List.getElem?_toArray, List.getElem?_cons_succ, List.getElem?_cons_zero, Option.some.injEq] at ho
     subst ho
     replace hf : b13 = false := hf
     subst hf
     refine Go.Proofs.YtbmklpcheopgoaaReg.op_val ho2 rfl (v := .int .i64 i) (w1 := W') ?_ (hK _ _ ⟨⟨b0, b1, b2, b3, b4, b5, b6, b7, b8, b9, b10, b11, b12, true, b14, b15, b16, b17, b18, b19, b20, b21, b22, b23, b24, b25, gA, gC, gB⟩, rfl, rfl, (k0), (k1), (k2), (k3), (k4), (k5), (k6), (k7), (k8), hHA, hHC, hHD, hN1, hN2, hN3, hG1, hG2, hG3, hHO, hHB⟩)
     simp [go_sem, hu3]
    ·
     simp only [List.getElem?_toArray, List.getElem?_cons_succ, List.getElem?_cons_zero, Option.some.injEq] at ho
     subst ho
     replace hf : b14 = false := hf
     have d13 : b13 = true := hd ⟨13, .data⟩ (by simp) rfl
     subst d13
     subst hf
     refine Go.Proofs.YtbmklpcheopgoaaReg.op_val ho2 rfl (v := .int .i64 ((i : Int) + 2)) (w1 := W') ?_ (hK _ _ ⟨⟨b0, b1, b2, b3, b4, b5, b6, b7, b8, b9, b10, b11, b12, true, true, b15, b16, b17, b18, b19, b20, b21, b22, b23, b24, b25, gA, gC, gB⟩, rfl, rfl, (k0), (k1), (k2), (k3), (k4), (k5), (k6), (k7), (k8), hHA, hHC, hHD, hN1, hN2, hN3, hG1, hG2, hG3, hHO, hHB⟩)
     simp [go_sem, hw2, hw2']
    ·
     simp only [List.getElem?_toArray, List.getElem?_cons_succ, List.getElem?_cons_zero, Option.some.injEq] at ho
     subst ho
     replace hf : b15 = false := hf
     subst hf
     refine Go.Proofs.YtbmklpcheopgoaaReg.op_val ho2 rfl (v := .slice (some ad) l.length c0) (w1 := W') ?_ (hK _ _ ⟨⟨b0, b1, b2, b3, b4, b5, b6, b7, b8, b9, b10, b11, b12, b13, b14, true, b16, b17, b18, b19, b20, b21, b22, b23, b24, b25, gA, gC, gB⟩, rfl, rfl, (k0), (k1), (k2), (k3), (k4), (k5), (k6), (k7), (k8), hHA, hHC, hHD, hN1, hN2, hN3, hG1, hG2, hG3, hHO, hHB⟩)
     simp [go_sem, hu3]
    ·
     simp only [List.getElem?_toArray, List.getElem?_cons_succ, List.getElem?_cons_zero, Option.some.injEq] at ho
     subst ho
     replace hf : b16 = false := hf
     have d15 : b15 = true := hd ⟨15, .data⟩ (by simp) rfl
     subst d15
     subst hf
     refine Go.Proofs.YtbmklpcheopgoaaReg.op_val ho2 rfl (v := .int .i64 l.length) (w1 := W') ?_ (hK _ _ ⟨⟨b0, b1, b2, b3, b4, b5, b6, b7, b8, b9, b10, b11, b12, b13, b14, true, true, b17, b18, b19, b20, b21, b22, b23, b24, b25, gA, gC, gB⟩, rfl, rfl, (k0), (k1), (k2), (k3), (k4), (k5), (k6), (k7), (k8), hHA, hHC, hHD, hN1, hN2, hN3, hG1, hG2, hG3, hHO, hHB⟩)
     simp [go_sem, hu3]
    ·
     simp only [List.getElem?_toArray, List.getElem?_cons_succ, List.getElem?_cons_zero, Option.some.injEq] at ho
     subst ho
     replace hf : b17 = false := hf
     have d14 : b14 = true := hd ⟨14, .data⟩ (by simp) rfl
     have d16 : b16 = true := hd ⟨16, .data⟩ (by simp) rfl
     subst d14
     subst d16
     subst hf
     refine Go.Proofs.YtbmklpcheopgoaaReg.op_val ho2 rfl (v := .int .i64 j2) (w1 := W') ?_ (hK _ _ ⟨⟨b0, b1, b2, b3, b4, b5, b6, b7, b8, b9, b10, b11, b12, b13, true, b15, true, true, b18, b19, b20, b21, b22, b23, b24, b25, gA, gC, gB⟩, rfl, rfl, (k0), (k1), (k2), (k3), (k4), (k5), (k6), (k7), (k8), hHA, hHC, hHD, hN1, hN2, hN3, hG1, hG2, hG3, hHO, hHB⟩)
     simp [go_sem, hm2, hn0, hm2', hne]
    ·
     simp only [List.getElem?_toArray, List.getElem?_cons_succ, List.getElem?_cons_zero, Option.some.injEq] at ho
     subst ho
     replace hf : b18 = false := hf
     have d12 : b12 = true := hd ⟨12, .data⟩ (by simp) rfl
     have d17 : b17 = true := hd ⟨17, .data⟩ (by simp) rfl
     subst d12
     subst d17
     subst hf
     refine Go.Proofs.YtbmklpcheopgoaaReg.op_val ho2 rfl (v := .pointer (some (ad.add (j2 * 3)))) (w1 := W') ?_ (hK _ _ ⟨⟨b0, b1, b2, b3, b4, b5, b6, b7, b8, b9, b10, b11, true, b13, b14, b15, b16, true, true, b19, b20, b21, b22, b23, b24, b25, gA, gC, gB⟩, rfl, rfl, (k0), (k1), (k2), (k3), (k4), (k5), (k6), (k7), (k8), hHA, hHC, hHD, hN1, hN2, hN3, hG1, hG2, hG3, hHO, hHB⟩)
     simp [go_sem, hu3, hlj2]
    ·
     simp only [List.getElem?_toArray, List.getElem?_cons_succ, List.getElem?_cons_zero, Option.some.injEq] at ho
     subst ho
     replace hf : b19 = false := hf
     have d18 : b18 = true := hd ⟨18, .data⟩ (by simp) rfl
     subst d18
     subst hf
     refine Go.Proofs.YtbmklpcheopgoaaReg.op_val ho2 rfl (v := .agg #[.int .i64 (rd_T101 l ((j2 : Nat) : Int)).f0.f0, .int .i64 (rd_T101 l ((j2 : Nat) : Int)).f0.f1, .bool (rd_T101 l ((j2 : Nat) : Int)).f1]) (w1 := W') ?_ (hK _ _ ⟨⟨b0, b1, b2, b3, b4, b5, b6, b7, b8, b9, b10, b11, b12, b13, b14, b15, b16, b17, true, true, b20, b21, b22, b23, b24, b25, gA, gC, gB⟩, rfl, rfl, (k0), (k1), (k2), (k3), (k4), (k5), (k6), (k7), (k8), hHA, hHC, hHD, hN1, hN2, hN3, hG1, hG2, hG3, hHO, hHB⟩)
     simp [go_sem, hu, hu2, (hHB.cell (World.block_lt_of_cell? wr _ fb0)).trans fb0, (hHB.cell (World.block_lt_of_cell? wr _ fb1)).trans fb1, (hHB.cell (World.block_lt_of_cell? wr _ fb2)).trans fb2]
    ·
     simp only [List.getElem?_toArray, List.getElem?_cons_succ, List.getElem?_cons_zero, Option.some.injEq] at ho
     subst ho
     replace hf : b20 = false := hf
     have n23 : b23 = false := Bool.eq_false_iff.mpr (fun h => absurd (k0 h) (by rw [hf]; decide))
     have n24 : b24 = false := Bool.eq_false_iff.mpr (fun h => absurd (k3 h) (by rw [hf]; decide))
     have n25 : b25 = false := Bool.eq_false_iff.mpr (fun h => absurd (k6 h) (by rw [hf]; decide))
     subst n23
     subst n24
     subst n25
     subst hf
     refine Go.Proofs.YtbmklpcheopgoaaReg.op_val ho2 rfl (v := .pointer (some ⟨(W'.heap.size), 0, none⟩)) (w1 := W'.alloc (.cells #[.int .i64 0, .int .i64 0, .bool false] 101)) ?_ (hK _ _ ⟨⟨b0, b1, b2, b3, b4, b5, b6, b7, b8, b9, b10, b11, b12, b13, b14, b15, b16, b17, b18, b19, true, b21, b22, false, false, false, W'.heap.size, gC, gB⟩, rfl, rfl, (fun _ => rfl), (fun h => Bool.noConfusion h), (fun h => Bool.noConfusion h), (fun _ => rfl), (fun h => Bool.noConfusion h), (fun h => Bool.noConfusion h), (fun _ => rfl), (fun h => Bool.noConfusion h), (fun h => Bool.noConfusion h), (fun _ => blk_new W' (.cells #[.int .i64 0, .int .i64 0, .bool false] 101)), (fun h => kA (hHC h) _), (fun h => kA (hHD h) _), (fun _ h e => absurd (blk_lt (hHC h)) (by dsimp only at e; omega)), (fun _ h e => absurd (blk_lt (hHD h)) (by dsimp only at e; omega)), hN3, (fun _ => hHB.size), hG2, hG3, (R_chg hHO ((Chg.refl (fun _ => False) _).alloc _) (fun _ _ => id)), (hHB.alloc hHB.size _)⟩)
     simp [go_sem, hu, hu2]
    ·
     simp only [List.getElem?_toArray, List.getElem?_cons_succ, List.getElem?_cons_zero, Option.some.injEq] at ho
     subst ho
     replace hf : b21 = false := hf
     have n23 : b23 = false := Bool.eq_false_iff.mpr (fun h => absurd (k1 h) (by rw [hf]; decide))
     have n24 : b24 = false := Bool.eq_false_iff.mpr (fun h => absurd (k4 h) (by rw [hf]; decide))
     have n25 : b25 = false := Bool.eq_false_iff.mpr (fun h => absurd (k7 h) (by rw [hf]; decide))
     subst n23
     subst n24
     subst n25
     subst hf
     refine Go.Proofs.YtbmklpcheopgoaaReg.op_val ho2 rfl (v := .pointer (some ⟨(W'.heap.size), 0, none⟩)) (w1 := W'.alloc (.cells #[.int .i64 0, .int .i64 0, .bool false] 101)) ?_ (hK _ _ ⟨⟨b0, b1, b2, b3, b4, b5, b6, b7, b8, b9, b10, b11, b12, b13, b14, b15, b16, b17, b18, b19, b20, true, b22, false, false, false, gA, W'.heap.size, gB⟩, rfl, rfl, (fun h => Bool.noConfusion h), (fun _ => rfl), (fun h => Bool.noConfusion h), (fun h => Bool.noConfusion h), (fun _ => rfl), (fun h => Bool.noConfusion h), (fun h => Bool.noConfusion h), (fun _ => rfl), (fun h => Bool.noConfusion h), (fun h => kA (hHA h) _), (fun _ => blk_new W' (.cells #[.int .i64 0, .int .i64 0, .bool false] 101)), (fun h => kA (hHD h) _), (fun h _ e => absurd (blk_lt (hHA h)) (by dsimp only at e; omega)), hN2, (fun _ h e => absurd (blk_lt (hHD h)) (by dsimp only at e; omega)), hG1, (fun _ => hHB.size), hG3, (R_chg hHO ((Chg.refl (fun _ => False) _).alloc _) (fun _ _ => id)), (hHB.alloc hHB.size _)⟩)
     simp [go_sem, hu, hu2]
    ·
     simp only [List.getElem?_toArray, List.getElem?_cons_succ, List.getElem?_cons_zero, Option.some.injEq] at ho
     subst ho
     replace hf : b22 = false := hf
     have n23 : b23 = false := Bool.eq_false_iff.mpr (fun h => absurd (k2 h) (by rw [hf]; decide))
     have n24 : b24 = false := Bool.eq_false_iff.mpr (fun h => absurd (k5 h) (by rw [hf]; decide))
     have n25 : b25 = false := Bool.eq_false_iff.mpr (fun h => absurd (k8 h) (by rw [hf]; decide))
     subst n23
     subst n24
     subst n25
     subst hf
     refine Go.Proofs.YtbmklpcheopgoaaReg.op_val ho2 rfl (v := .pointer (some ⟨(W'.heap.size), 0, none⟩)) (w1 := W'.alloc (.cells #[.int .i64 0, .int .i64 0, .bool false] 101)) ?_ (hK _ _ ⟨⟨b0, b1, b2, b3, b4, b5, b6, b7, b8, b9, b10, b11, b12, b13, b14, b15, b16, b17, b18, b19, b20, b21, true, false, false, false, gA, gC, W'.heap.size⟩, rfl, rfl, (fun h => Bool.noConfusion h), (fun h => Bool.noConfusion h), (fun _ => rfl), (fun h => Bool.noConfusion h), (fun h => Bool.noConfusion h), (fun _ => rfl), (fun h => Bool.noConfusion h), (fun h => Bool.noConfusion h), (fun _ => rfl), (fun h => kA (hHA h) _), (fun h => kA (hHC h) _), (fun _ => blk_new W' (.cells #[.int .i64 0, .int .i64 0, .bool false] 101)), hN1, (fun h _ e => absurd (blk_lt (hHA h)) (by dsimp only at e; omega)), (fun h _ e => absurd (blk_lt (hHC h)) (by dsimp only at e; omega)), hG1, hG2, (fun _ => hHB.size), (R_chg hHO ((Chg.refl (fun _ => False) _).alloc _) (fun _ _ => id)), (hHB.alloc hHB.size _)⟩)
     simp [go_sem, hu, hu2]
    ·
     simp only [List.getElem?_toArray, List.getElem?_cons_succ, List.getElem?_cons_zero, Option.some.injEq] at ho
     subst ho
     replace hf : b23 = false := hf
     have d0 : b0 = true := hd ⟨0, .phase⟩ (by simp) rfl
     have d1 : b1 = true := hd ⟨1, .phase⟩ (by simp) rfl
     have d2 : b2 = true := hd ⟨2, .phase⟩ (by simp) rfl
     have d3 : b3 = true := hd ⟨3, .data⟩ (by simp) rfl
     have d20 : b20 = true := hd ⟨20, .data⟩ (by simp) rfl
     have d21 : b21 = true := hd ⟨21, .phase⟩ (by simp) rfl
     have d22 : b22 = true := hd ⟨22, .phase⟩ (by simp) rfl
     subst d0
     subst d1
     subst d2
     subst d3
     subst d20
     subst d21
     subst d22
     subst hf
     refine Go.Proofs.YtbmklpcheopgoaaReg.op_skip ho2 rfl (w1 := (((W'.setCell ⟨gA, 0, none⟩ (.int .i64 (rd_T101 l ((i : Nat) : Int)).f0.f0)).setCell ⟨gA, 1, none⟩ (.int .i64 (rd_T101 l ((i : Nat) : Int)).f0.f1)).setCell ⟨gA, 2, none⟩ (.bool (rd_T101 l ((i : Nat) : Int)).f1))) ?_ (hK _ _ ⟨⟨true, true, true, true, b4, b5, b6, b7, b8, b9, b10, b11, b12, b13, b14, b15, b16, b17, b18, b19, true, true, true, true, b24, b25, gA, gC, gB⟩, rfl, rfl, (fun _ => rfl), (fun _ => rfl), (fun _ => rfl), (fun _ => rfl), (fun _ => rfl), (fun _ => rfl), (fun _ => rfl), (fun _ => rfl), (fun _ => rfl), (fun _ => (blk_put (blk_put (blk_put (hHA rfl) 0 (.int .i64 (rd_T101 l ((i : Nat) : Int)).f0.f0) rfl) 1 (.int .i64 (rd_T101 l ((i : Nat) : Int)).f0.f1) rfl) 2 (.bool (rd_T101 l ((i : Nat) : Int)).f1) rfl)), (fun _ => Chg.heap (Chg.setCell (p := ⟨gA, 2, none⟩) (Chg.setCell (p := ⟨gA, 1, none⟩) (Chg.setCell (p := ⟨gA, 0, none⟩) (Chg.refl (fun b => b = gA) W') (fun _ => rfl) (.int .i64 (rd_T101 l ((i : Nat) : Int)).f0.f0)) (fun _ => rfl) (.int .i64 (rd_T101 l ((i : Nat) : Int)).f0.f1)) (fun _ => rfl) (.bool (rd_T101 l ((i : Nat) : Int)).f1)) (hHC rfl) (fun e => hN1 rfl rfl e.symm)), (fun _ => Chg.heap (Chg.setCell (p := ⟨gA, 2, none⟩) (Chg.setCell (p := ⟨gA, 1, none⟩) (Chg.setCell (p := ⟨gA, 0, none⟩) (Chg.refl (fun b => b = gA) W') (fun _ => rfl) (.int .i64 (rd_T101 l ((i : Nat) : Int)).f0.f0)) (fun _ => rfl) (.int .i64 (rd_T101 l ((i : Nat) : Int)).f0.f1)) (fun _ => rfl) (.bool (rd_T101 l ((i : Nat) : Int)).f1)) (hHD rfl) (fun e => hN2 rfl rfl e.symm)), hN1, hN2, hN3, hG1, hG2, hG3, (R_chg hHO (Chg.setCell (p := ⟨gA, 2, none⟩) (Chg.setCell (p := ⟨gA, 1, none⟩) (Chg.setCell (p := ⟨gA, 0, none⟩) (Chg.refl (fun b => b = gA) W') (fun _ => rfl) (.int .i64 (rd_T101 l ((i : Nat) : Int)).f0.f0)) (fun _ => rfl) (.int .i64 (rd_T101 l ((i : Nat) : Int)).f0.f1)) (fun _ => rfl) (.bool (rd_T101 l ((i : Nat) : Int)).f1)) (fun k hk e => by subst e; have := hOlt k hk; have := hG1 rfl; omega)), (Below.setCell (Below.setCell (Below.setCell hHB (hG1 rfl) (.int .i64 (rd_T101 l ((i : Nat) : Int)).f0.f0)) (hG1 rfl) (.int .i64 (rd_T101 l ((i : Nat) : Int)).f0.f1)) (hG1 rfl) (.bool (rd_T101 l ((i : Nat) : Int)).f1))⟩)
     simp [go_sem, hu, hu2, blk_cell (hHA rfl) 0, blk_cell (hHA rfl) 1, blk_cell (hHA rfl) 2, blk_frozen (hHA rfl) 0, blk_frozen (hHA rfl) 1, blk_frozen (hHA rfl) 2]
    ·
     simp only [List.getElem?_toArray, List.getElem?_cons_succ, List.getElem?_cons_zero, Option.some.injEq] at ho
     subst ho
     replace hf : b24 = false := hf
     have d0 : b0 = true := hd ⟨0, .phase⟩ (by simp) rfl
     have d1 : b1 = true := hd ⟨1, .phase⟩ (by simp) rfl
     have d2 : b2 = true := hd ⟨2, .phase⟩ (by simp) rfl
     have d3 : b3 = true := hd ⟨3, .phase⟩ (by simp) rfl
     have d4 : b4 = true := hd ⟨4, .phase⟩ (by simp) rfl
     have d5 : b5 = true := hd ⟨5, .phase⟩ (by simp) rfl
     have d6 : b6 = true := hd ⟨6, .phase⟩ (by simp) rfl
     have d7 : b7 = true := hd ⟨7, .phase⟩ (by simp) rfl
     have d8 : b8 = true := hd ⟨8, .phase⟩ (by simp) rfl
     have d9 : b9 = true := hd ⟨9, .phase⟩ (by simp) rfl
     have d10 : b10 = true := hd ⟨10, .phase⟩ (by simp) rfl
     have d11 : b11 = true := hd ⟨11, .data⟩ (by simp) rfl
     have d20 : b20 = true := hd ⟨20, .phase⟩ (by simp) rfl
     have d21 : b21 = true := hd ⟨21, .data⟩ (by simp) rfl
     have d22 : b22 = true := hd ⟨22, .phase⟩ (by simp) rfl
     have d23 : b23 = true := hd ⟨23, .chain⟩ (by simp) rfl
     subst d0
     subst d1
     subst d2
     subst d3
     subst d4
     subst d5
     subst d6
     subst d7
     subst d8
     subst d9
     subst d10
     subst d11
     subst d20
     subst d21
     subst d22
     subst d23
     subst hf
     refine Go.Proofs.YtbmklpcheopgoaaReg.op_skip ho2 rfl (w1 := (((W'.setCell ⟨gC, 0, none⟩ (.int .i64 (rd_T101 l ((j1 : Nat) : Int)).f0.f0)).setCell ⟨gC, 1, none⟩ (.int .i64 (rd_T101 l ((j1 : Nat) : Int)).f0.f1)).setCell ⟨gC, 2, none⟩ (.bool (rd_T101 l ((j1 : Nat) : Int)).f1))) ?_ (hK _ _ ⟨⟨true, true, true, true, true, true, true, true, true, true, true, true, b12, b13, b14, b15, b16, b17, b18, b19, true, true, true, true, true, b25, gA, gC, gB⟩, rfl, rfl, (fun _ => rfl), (fun _ => rfl), (fun _ => rfl), (fun _ => rfl), (fun _ => rfl), (fun _ => rfl), (fun _ => rfl), (fun _ => rfl), (fun _ => rfl), (fun _ => Chg.heap (Chg.setCell (p := ⟨gC, 2, none⟩) (Chg.setCell (p := ⟨gC, 1, none⟩) (Chg.setCell (p := ⟨gC, 0, none⟩) (Chg.refl (fun b => b = gC) W') (fun _ => rfl) (.int .i64 (rd_T101 l ((j1 : Nat) : Int)).f0.f0)) (fun _ => rfl) (.int .i64 (rd_T101 l ((j1 : Nat) : Int)).f0.f1)) (fun _ => rfl) (.bool (rd_T101 l ((j1 : Nat) : Int)).f1)) (hHA rfl) (fun e => hN1 rfl rfl e)), (fun _ => (blk_put (blk_put (blk_put (hHC rfl) 0 (.int .i64 (rd_T101 l ((j1 : Nat) : Int)).f0.f0) rfl) 1 (.int .i64 (rd_T101 l ((j1 : Nat) : Int)).f0.f1) rfl) 2 (.bool (rd_T101 l ((j1 : Nat) : Int)).f1) rfl)), (fun _ => Chg.heap (Chg.setCell (p := ⟨gC, 2, none⟩) (Chg.setCell (p := ⟨gC, 1, none⟩) (Chg.setCell (p := ⟨gC, 0, none⟩) (Chg.refl (fun b => b = gC) W') (fun _ => rfl) (.int .i64 (rd_T101 l ((j1 : Nat) : Int)).f0.f0)) (fun _ => rfl) (.int .i64 (rd_T101 l ((j1 : Nat) : Int)).f0.f1)) (fun _ => rfl) (.bool (rd_T101 l ((j1 : Nat) : Int)).f1)) (hHD rfl) (fun e => hN3 rfl rfl e.symm)), hN1, hN2, hN3, hG1, hG2, hG3, (R_chg hHO (Chg.setCell (p := ⟨gC, 2, none⟩) (Chg.setCell (p := ⟨gC, 1, none⟩) (Chg.setCell (p := ⟨gC, 0, none⟩) (Chg.refl (fun b => b = gC) W') (fun _ => rfl) (.int .i64 (rd_T101 l ((j1 : Nat) : Int)).f0.f0)) (fun _ => rfl) (.int .i64 (rd_T101 l ((j1 : Nat) : Int)).f0.f1)) (fun _ => rfl) (.bool (rd_T101 l ((j1 : Nat) : Int)).f1)) (fun k hk e => by subst e; have := hOlt k hk; have := hG2 rfl; omega)), (Below.setCell (Below.setCell (Below.setCell hHB (hG2 rfl) (.int .i64 (rd_T101 l ((j1 : Nat) : Int)).f0.f0)) (hG2 rfl) (.int .i64 (rd_T101 l ((j1 : Nat) : Int)).f0.f1)) (hG2 rfl) (.bool (rd_T101 l ((j1 : Nat) : Int)).f1))⟩)
     simp [go_sem, hu, hu2, blk_cell (hHC rfl) 0, blk_cell (hHC rfl) 1, blk_cell (hHC rfl) 2, blk_frozen (hHC rfl) 0, blk_frozen (hHC rfl) 1, blk_frozen (hHC rfl) 2]
    ·
     simp only [List.getElem?_toArray, List.getElem?_cons_succ, List.getElem?_cons_zero, Option.some.injEq] at ho
     subst ho
     replace hf : b25 = false := hf
     have d0 : b0 = true := hd ⟨0, .phase⟩ (by simp) rfl
     have d1 : b1 = true := hd ⟨1, .phase⟩ (by simp) rfl
     have d2 : b2 = true := hd ⟨2, .phase⟩ (by simp) rfl
     have d3 : b3 = true := hd ⟨3, .phase⟩ (by simp) rfl
     have d4 : b4 = true := hd ⟨4, .phase⟩ (by simp) rfl
     have d5 : b5 = true := hd ⟨5, .phase⟩ (by simp) rfl
     have d6 : b6 = true := hd ⟨6, .phase⟩ (by simp) rfl
     have d7 : b7 = true := hd ⟨7, .phase⟩ (by simp) rfl
     have d8 : b8 = true := hd ⟨8, .phase⟩ (by simp) rfl
     have d9 : b9 = true := hd ⟨9, .phase⟩ (by simp) rfl
     have d10 : b10 = true := hd ⟨10, .phase⟩ (by simp) rfl
     have d11 : b11 = true := hd ⟨11, .phase⟩ (by simp) rfl
     have d12 : b12 = true := hd ⟨12, .phase⟩ (by simp) rfl
     have d13 : b13 = true := hd ⟨13, .phase⟩ (by simp) rfl
     have d14 : b14 = true := hd ⟨14, .phase⟩ (by simp) rfl
     have d15 : b15 = true := hd ⟨15, .phase⟩ (by simp) rfl
     have d16 : b16 = true := hd ⟨16, .phase⟩ (by simp) rfl
     have d17 : b17 = true := hd ⟨17, .phase⟩ (by simp) rfl
     have d18 : b18 = true := hd ⟨18, .phase⟩ (by simp) rfl
     have d19 : b19 = true := hd ⟨19, .data⟩ (by simp) rfl
     have d20 : b20 = true := hd ⟨20, .phase⟩ (by simp) rfl
     have d21 : b21 = true := hd ⟨21, .phase⟩ (by simp) rfl
     have d22 : b22 = true := hd ⟨22, .data⟩ (by simp) rfl
     have d23 : b23 = true := hd ⟨23, .phase⟩ (by simp) rfl
     have d24 : b24 = true := hd ⟨24, .chain⟩ (by simp) rfl
     subst d0
     subst d1
     subst d2
     subst d3
     subst d4
     subst d5
     subst d6
     subst d7
     subst d8
     subst d9
     subst d10
     subst d11
     subst d12
     subst d13
     subst d14
     subst d15
     subst d16
     subst d17
     subst d18
     subst d19
     subst d20
     subst d21
     subst d22
     subst d23
     subst d24
     subst hf
     refine Go.Proofs.YtbmklpcheopgoaaReg.op_skip ho2 rfl (w1 := (((W'.setCell ⟨gB, 0, none⟩ (.int .i64 (rd_T101 l ((j2 : Nat) : Int)).f0.f0)).setCell ⟨gB, 1, none⟩ (.int .i64 (rd_T101 l ((j2 : Nat) : Int)).f0.f1)).setCell ⟨gB, 2, none⟩ (.bool (rd_T101 l ((j2 : Nat) : Int)).f1))) ?_ (hK _ _ ⟨⟨true, true, true, true, true, true, true, true, true, true, true, true, true, true, true, true, true, true, true, true, true, true, true, true, true, true, gA, gC, gB⟩, rfl, rfl, (fun _ => rfl), (fun _ => rfl), (fun _ => rfl), (fun _ => rfl), (fun _ => rfl), (fun _ => rfl), (fun _ => rfl), (fun _ => rfl), (fun _ => rfl), (fun _ => Chg.heap (Chg.setCell (p := ⟨gB, 2, none⟩) (Chg.setCell (p := ⟨gB, 1, none⟩) (Chg.setCell (p := ⟨gB, 0, none⟩) (Chg.refl (fun b => b = gB) W') (fun _ => rfl) (.int .i64 (rd_T101 l ((j2 : Nat) : Int)).f0.f0)) (fun _ => rfl) (.int .i64 (rd_T101 l ((j2 : Nat) : Int)).f0.f1)) (fun _ => rfl) (.bool (rd_T101 l ((j2 : Nat) : Int)).f1)) (hHA rfl) (fun e => hN2 rfl rfl e)), (fun _ => Chg.heap (Chg.setCell (p := ⟨gB, 2, none⟩) (Chg.setCell (p := ⟨gB, 1, none⟩) (Chg.setCell (p := ⟨gB, 0, none⟩) (Chg.refl (fun b => b = gB) W') (fun _ => rfl) (.int .i64 (rd_T101 l ((j2 : Nat) : Int)).f0.f0)) (fun _ => rfl) (.int .i64 (rd_T101 l ((j2 : Nat) : Int)).f0.f1)) (fun _ => rfl) (.bool (rd_T101 l ((j2 : Nat) : Int)).f1)) (hHC rfl) (fun e => hN3 rfl rfl e)), (fun _ => (blk_put (blk_put (blk_put (hHD rfl) 0 (.int .i64 (rd_T101 l ((j2 : Nat) : Int)).f0.f0) rfl) 1 (.int .i64 (rd_T101 l ((j2 : Nat) : Int)).f0.f1) rfl) 2 (.bool (rd_T101 l ((j2 : Nat) : Int)).f1) rfl)), hN1, hN2, hN3, hG1, hG2, hG3, (R_chg hHO (Chg.setCell (p := ⟨gB, 2, none⟩) (Chg.setCell (p := ⟨gB, 1, none⟩) (Chg.setCell (p := ⟨gB, 0, none⟩) (Chg.refl (fun b => b = gB) W') (fun _ => rfl) (.int .i64 (rd_T101 l ((j2 : Nat) : Int)).f0.f0)) (fun _ => rfl) (.int .i64 (rd_T101 l ((j2 : Nat) : Int)).f0.f1)) (fun _ => rfl) (.bool (rd_T101 l ((j2 : Nat) : Int)).f1)) (fun k hk e => by subst e; have := hOlt k hk; have := hG3 rfl; omega)), (Below.setCell (Below.setCell (Below.setCell hHB (hG3 rfl) (.int .i64 (rd_T101 l ((j2 : Nat) : Int)).f0.f0)) (hG3 rfl) (.int .i64 (rd_T101 l ((j2 : Nat) : Int)).f0.f1)) (hG3 rfl) (.bool (rd_T101 l ((j2 : Nat) : Int)).f1))⟩)
     simp [go_sem, hu, hu2, blk_cell (hHD rfl) 0, blk_cell (hHD rfl) 1, blk_cell (hHD rfl) 2, blk_frozen (hHD rfl) 0, blk_frozen (hHD rfl) 1, blk_frozen (hHD rfl) 2]
   ·
    rintro lst a W' ⟨⟨b0, b1, b2, b3, b4, b5, b6, b7, b8, b9, b10, b11, b12, b13, b14, b15, b16, b17, b18, b19, b20, b21, b22, b23, b24, b25, gA, gC, gB⟩, rfl, rfl, k0, k1, k2, k3, k4, k5, k6, k7, k8, hHA, hHC, hHD, hN1, hN2, hN3, hG1, hG2, hG3, hHO, hHB⟩ hall
    dsimp only at k0 k1 k2 k3 k4 k5 k6 k7 k8 hHA hHC hHD hN1 hN2 hN3 hG1 hG2 hG3 hHO hHB
    have a0 : b0 = true := hall 0 (by decide)
    have a1 : b1 = true := hall 1 (by decide)
    have a2 : b2 = true := hall 2 (by decide)
    have a3 : b3 = true := hall 3 (by decide)
    have a4 : b4 = true := hall 4 (by decide)
    have a5 : b5 = true := hall 5 (by decide)
    have a6 : b6 = true := hall 6 (by decide)
    have a7 : b7 = true := hall 7 (by decide)
    have a8 : b8 = true := hall 8 (by decide)
    have a9 : b9 = true := hall 9 (by decide)
    have a10 : b10 = true := hall 10 (by decide)
    have a11 : b11 = true := hall 11 (by decide)
    have a12 : b12 = true := hall 12 (by decide)
    have a13 : b13 = true := hall 13 (by decide)
    have a14 : b14 = true := hall 14 (by decide)
    have a15 : b15 = true := hall 15 (by decide)
    have a16 : b16 = true := hall 16 (by decide)
    have a17 : b17 = true := hall 17 (by decide)
    have a18 : b18 = true := hall 18 (by decide)
    have a19 : b19 = true := hall 19 (by decide)
    have a20 : b20 = true := hall 20 (by decide)
    have a21 : b21 = true := hall 21 (by decide)
    have a22 : b22 = true := hall 22 (by decide)
    have a23 : b23 = true := hall 23 (by decide)
    have a24 : b24 = true := hall 24 (by decide)
    have a25 : b25 = true := hall 25 (by decide)
    subst a0 a1 a2 a3 a4 a5 a6 a7 a8 a9 a10 a11 a12 a13 a14 a15 a16 a17 a18 a19 a20 a21 a22 a23 a24 a25
    clear k0 k1 k2 k3 k4 k5 k6 k7 k8
    clear hall
    have HA : W'.heap[gA]? = some (.cells #[cond true (.int .i64 (rd_T101 l ((i : Nat) : Int)).f0.f0) (.int .i64 0), cond true (.int .i64 (rd_T101 l ((i : Nat) : Int)).f0.f1) (.int .i64 0), cond true (.bool (rd_T101 l ((i : Nat) : Int)).f1) (.bool false)] 101 (0, 0)) := hHA rfl
    have HC : W'.heap[gC]? = some (.cells #[cond true (.int .i64 (rd_T101 l ((j1 : Nat) : Int)).f0.f0) (.int .i64 0), cond true (.int .i64 (rd_T101 l ((j1 : Nat) : Int)).f0.f1) (.int .i64 0), cond true (.bool (rd_T101 l ((j1 : Nat) : Int)).f1) (.bool false)] 101 (0, 0)) := hHC rfl
    have HD : W'.heap[gB]? = some (.cells #[cond true (.int .i64 (rd_T101 l ((j2 : Nat) : Int)).f0.f0) (.int .i64 0), cond true (.int .i64 (rd_T101 l ((j2 : Nat) : Int)).f0.f1) (.int .i64 0), cond true (.bool (rd_T101 l ((j2 : Nat) : Int)).f1) (.bool false)] 101 (0, 0)) := hHD rfl
    have N1 : gA ≠ gC := hN1 rfl rfl
    have N2 : gA ≠ gB := hN2 rfl rfl
    have N3 : gC ≠ gB := hN3 rfl rfl
    have G1 : wr.heap.size ≤ gA := hG1 rfl
    have G2 : wr.heap.size ≤ gC := hG2 rfl
    have G3 : wr.heap.size ≤ gB := hG3 rfl
    have HO : Kd.R k52 52 W' w.heap.size (Own1 (.slice Ao out.length co)) (.slice Ao out.length co) out := hHO
    have HB : Below wr.heap.size wr W' := hHB
    clear hHA hHC hHD hN1 hN2 hN3 hG1 hG2 hG3 hHO hHB
    simp only [cond_true]
    have hBw : Below w.heap.size w W' := HB_.out.trans (HB.mono HB_.out.size)
    have g0 := blk_cell HC 0
    have g1 := blk_cell HC 1
    have g2 := blk_cell HC 2
    simp only [cond_true] at g0 g1 g2 HA HC HD
    simp at g0 g1 g2
    clear fa0 fa1 fa2 fc0 fc1 fc2 fb0 fb1 fb2
    have HOO := Lib.hid HO
    have hE := Lib.hid (And.intro hBw HG)
    have hOl2 : ∀ k, (Value.slice Ao out.length co).ownBlock = some k → k < wr.heap.size := hOlt
    clear HB hBw HG hOlt HO
    cases hon : (rd_T101 l ((j1 : Nat) : Int)).f1 with
    | true =>
     obtain ⟨v1, w1, hrun, hR1, hg1, hat⟩ := run_append1 (P := Try.prog) (ty := 42) k52 (W := W'.alloc (.cells #[.int .i64 (rd_T101 l ((j1 : Nat) : Int)).f0.f0, .int .i64 (rd_T101 l ((j1 : Nat) : Int)).f0.f1] 52)) w.heap.size Try.underlying42 info_pt2 rfl (by decide) (by decide) (.slice Ao out.length co) out (rd_T101 l ((j1 : Nat) : Int)).f0 [.int .i64 (rd_T101 l ((j1 : Nat) : Int)).f0.f0, .int .i64 (rd_T101 l ((j1 : Nat) : Int)).f0.f1] (fun _ => True) (fun _ => False) ⟨W'.heap.size, 0, none⟩ 1
      (fun j u hj => by rw [add_plain, ((Blks.nil W').alloc _).cell 0 rfl j]; simpa using hj) (k52_mkM _ _ _ _) (fun _ hk => hk.elim) (fun _ _ => trivial) (R_all (R_chg HOO.out ((Chg.refl (fun _ => False) _).alloc _) (fun _ _ => id))) (by have := hE.out.1.size; simp; omega) (by omega)
     have hR1 := R_own1 flat_pt2 hR1
     have hB1 := pw_below_grown (hE.out.1.alloc hE.out.1.size _) _ (hE.out.1.alloc hE.out.1.size _).size hg1 (fun k hk => Kd.R_base HOO.out k hk)
     have hJ := Lib.hid (And.intro hj1 hj2)
     have hRR := Lib.hid (And.intro hR1 hB1)
     clear hj1 hj2 hR1 hB1
     go_wp2_with (refine app_list rfl rfl rfl rfl hrun ?_)
     refine ⟨⟨i + 1, out ++ [(rd_T101 l ((j1 : Nat) : Int)).f0], by omega, by simp, by simp, by simp; omega, ⟨?_, hRR.out.1, hRR.out.2⟩⟩, by simp [intOf]; omega⟩
     rw [← hE.out.2, rowGo_on l i out hlt (by rw [hJ.out.1]; exact hon), hJ.out.1]
    | false =>
     have hB3 : Blks [(gA, .cells #[.int .i64 (rd_T101 l ((i : Nat) : Int)).f0.f0, .int .i64 (rd_T101 l ((i : Nat) : Int)).f0.f1, .bool (rd_T101 l ((i : Nat) : Int)).f1] 101 (0, 0)), (gC, .cells #[.int .i64 (rd_T101 l ((j1 : Nat) : Int)).f0.f0, .int .i64 (rd_T101 l ((j1 : Nat) : Int)).f0.f1, .bool (rd_T101 l ((j1 : Nat) : Int)).f1] 101 (0, 0)), (gB, .cells #[.int .i64 (rd_T101 l ((j2 : Nat) : Int)).f0.f0, .int .i64 (rd_T101 l ((j2 : Nat) : Int)).f0.f1, .bool (rd_T101 l ((j2 : Nat) : Int)).f1] 101 (0, 0))] W' := (((Blks.nil W').add HD (by simp)).add HC (by simpa using N3)).add HA (by simp; exact ⟨N1, N2⟩)
     have hJ := Lib.hid (And.intro hj1 hj2)
     clear hj1 hj2 HA HC HD g0 g1
     have hB3 := Lib.hid hB3
     have hons := Lib.hid hon
     go_wp2
     go_loopw [3, 8] (fun v3 v8 wr2 => ∃ m : Nat, m ≤ 8 ∧ v8 = .int .i64 ((1 + m : Nat) : Int) ∧ Aside0 (Kd.R k52 52 wr2 w.heap.size (Own1 v3) v3 (out ++ curveK l i m) ∧ Blks [(gA, .cells #[.int .i64 (rd_T101 l ((i : Nat) : Int)).f0.f0, .int .i64 (rd_T101 l ((i : Nat) : Int)).f0.f1, .bool (rd_T101 l ((i : Nat) : Int)).f1] 101 (0, 0)), (gC, .cells #[.int .i64 (rd_T101 l ((j1 : Nat) : Int)).f0.f0, .int .i64 (rd_T101 l ((j1 : Nat) : Int)).f0.f1, .bool (rd_T101 l ((j1 : Nat) : Int)).f1] 101 (0, 0)), (gB, .cells #[.int .i64 (rd_T101 l ((j2 : Nat) : Int)).f0.f0, .int .i64 (rd_T101 l ((j2 : Nat) : Int)).f0.f1, .bool (rd_T101 l ((j2 : Nat) : Int)).f1] 101 (0, 0))] wr2 ∧ Below w.heap.size w wr2))
      (fun _ v8 _ => 10 - (intOf v8).toNat)
     case atStart => exact ⟨0, by omega, rfl, ⟨by simpa [curveK] using HOO.out, hB3.out, hE.out.1⟩⟩
     case round =>
      obtain ⟨m, hm, rfl, ⟨HO, HB, HW⟩⟩ := hrel
      have hlen2 : (out ++ curveK l i m).length ≤ 9 + 8 * i := by rw [List.length_append, curveK_len]; omega
      by_cases hlt8 : m < 8
      ·
       have hd8 : decide (1 + (m : Int) ≤ 8) = true := by simp; omega
       have hcv : curveAt l i (1 + m) = ⟨atV ((1 + m : Nat) : Int) (rd_T101 l ((i : Nat) : Int)).f0.f0 (rd_T101 l ((j1 : Nat) : Int)).f0.f0 (rd_T101 l ((j2 : Nat) : Int)).f0.f0, atV ((1 + m : Nat) : Int) (rd_T101 l ((i : Nat) : Int)).f0.f1 (rd_T101 l ((j1 : Nat) : Int)).f0.f1 (rd_T101 l ((j2 : Nat) : Int)).f0.f1⟩ := by unfold curveAt; rw [hJ.out.1, hJ.out.2]
       have hks := curveK_succ l i m
       rw [hcv] at hks
       have HKS := Lib.hid hks
       clear hks hcv
       obtain ⟨o2, ho2⟩ : ∃ o2, out ++ curveK l i m = o2 := ⟨_, rfl⟩
       rw [ho2] at HO hlen2
       have HO2 := Lib.hid ho2
       clear ho2
       obtain ⟨Ao2, co2, hv3⟩ := Kd.R_slice HO
       subst hv3
       have hRow25 : ∀ {W2 : World}, Blks [(gA, .cells #[.int .i64 (rd_T101 l ((i : Nat) : Int)).f0.f0, .int .i64 (rd_T101 l ((i : Nat) : Int)).f0.f1, .bool (rd_T101 l ((i : Nat) : Int)).f1] 101 (0, 0)), (gC, .cells #[.int .i64 (rd_T101 l ((j1 : Nat) : Int)).f0.f0, .int .i64 (rd_T101 l ((j1 : Nat) : Int)).f0.f1, .bool (rd_T101 l ((j1 : Nat) : Int)).f1] 101 (0, 0)), (gB, .cells #[.int .i64 (rd_T101 l ((j2 : Nat) : Int)).f0.f0, .int .i64 (rd_T101 l ((j2 : Nat) : Int)).f0.f1, .bool (rd_T101 l ((j2 : Nat) : Int)).f1] 101 (0, 0))] W2 → Kd.R k52 52 W2 w.heap.size (Own1 (.slice Ao2 o2.length co2)) (.slice Ao2 o2.length co2) o2 → ∀ b, b ∈ ([gA, gC, gB] : List Nat) → (Value.slice Ao2 o2.length co2).ownBlock = some b → False := fun hb ho => row_apart hb (by simp) ho
       have HHO := Lib.hid HO
       have HHB := Lib.hid HB
       have HHW := Lib.hid HW
       clear HO HB HW
       go_wp2
       have HO := HHO.out
       have HB := HHB.out
       have HW := HHW.out
       clear HHO HHB HHW
       refine Go.Proofs.YtbmklpcheopgoaaReg.reg_inv (by rfl) [0, 1, 2, 3, 4, 5, 6, 7, 8, 9, 10, 11, 12, 13, 14, 15, 16, 17, 18, 19, 20, 21, 22, 23, 24, 25, 26] (by kernel_rfl) (by kernel_rfl)
        (fun lst a W' => ∃ d : RowReg11, lst = #[d.b0, d.b1, d.b2, d.b3, d.b4, d.b5, d.b6, d.b7, d.b8, d.b9, d.b10, d.b11, d.b12, d.b13, d.b14, d.b15, d.b16, d.b17, d.b18, d.b19, d.b20, d.b21, d.b22, d.b23, d.b24, d.b25, d.b26] ∧ a = ⟨#[.slice (some ad) l.length c0, undef, .slice none 0 0, (cond d.b26 d.V1 (.slice Ao2 o2.length co2)), .int .i64 i, .pointer (some ⟨gA, 0, none⟩), .pointer (some ⟨gC, 0, none⟩), .pointer (some ⟨gB, 0, none⟩), .int .i64 (((1 + m : Nat) : Int)), .slice (some ad) l.length c0, .pointer (some ad), .pointer (some ad), .agg #[.int .i64 (rd_T101 l 0).f0.f0, .int .i64 (rd_T101 l 0).f0.f1], .slice (some ⟨w.heap.size, 0, none⟩) 1 1, .int .i64 i, .slice (some ad) l.length c0, .int .i64 l.length, .bool true, u18, u19, .slice (some ad) l.length c0, .int .i64 i, .pointer (some (ad.add (i * 3))), .agg #[.int .i64 (rd_T101 l ((i : Nat) : Int)).f0.f0, .int .i64 (rd_T101 l ((i : Nat) : Int)).f0.f1, .bool (rd_T101 l ((i : Nat) : Int)).f1], .slice (some ad) l.length c0, .int .i64 i, .int .i64 ((i : Int) + 1), .slice (some ad) l.length c0, .int .i64 l.length, .int .i64 j1, .pointer (some (ad.add (j1 * 3))), .agg #[.int .i64 (rd_T101 l ((j1 : Nat) : Int)).f0.f0, .int .i64 (rd_T101 l ((j1 : Nat) : Int)).f0.f1, .bool false], .slice (some ad) l.length c0, .int .i64 i, .int .i64 ((i : Int) + 2), .slice (some ad) l.length c0, .int .i64 l.length, .int .i64 j2, .pointer (some (ad.add (j2 * 3))), .agg #[.int .i64 (rd_T101 l ((j2 : Nat) : Int)).f0.f0, .int .i64 (rd_T101 l ((j2 : Nat) : Int)).f0.f1, .bool (rd_T101 l ((j2 : Nat) : Int)).f1], .pointer (some ⟨gC, 2, none⟩), .bool false, u42, u43, u44, u45, u46, .int .i64 (((1 + m : Nat) : Int)), .bool true, u49, u50, (cond d.b0 (.slice Ao2 o2.length co2) u51), (cond d.b1 (.int .i64 (((1 + m : Nat) : Int))) u52), (cond d.b2 (.pointer (some ⟨gA, 0, none⟩)) u53), (cond d.b3 (.pointer (some ⟨gA, 0, none⟩)) u54), (cond d.b4 (.int .i64 ((rd_T101 l ((i : Nat) : Int)).f0.f0)) u55), (cond d.b5 (.pointer (some ⟨gC, 0, none⟩)) u56), (cond d.b6 (.pointer (some ⟨gC, 0, none⟩)) u57), (cond d.b7 (.int .i64 ((rd_T101 l ((j1 : Nat) : Int)).f0.f0)) u58), (cond d.b8 (.pointer (some ⟨gB, 0, none⟩)) u59), (cond d.b9 (.pointer (some ⟨gB, 0, none⟩)) u60), (cond d.b10 (.int .i64 ((rd_T101 l ((j2 : Nat) : Int)).f0.f0)) u61), (cond d.b11 (.int .i64 ((atV ((1 + m : Nat) : Int) (rd_T101 l ((i : Nat) : Int)).f0.f0 (rd_T101 l ((j1 : Nat) : Int)).f0.f0 (rd_T101 l ((j2 : Nat) : Int)).f0.f0))) u62), (cond d.b12 (.int .i64 (((1 + m : Nat) : Int))) u63), (cond d.b13 (.pointer (some ⟨gA, 0, none⟩)) u64), (cond d.b14 (.pointer (some ⟨gA, 1, none⟩)) u65), (cond d.b15 (.int .i64 ((rd_T101 l ((i : Nat) : Int)).f0.f1)) u66), (cond d.b16 (.pointer (some ⟨gC, 0, none⟩)) u67), (cond d.b17 (.pointer (some ⟨gC, 1, none⟩)) u68), (cond d.b18 (.int .i64 ((rd_T101 l ((j1 : Nat) : Int)).f0.f1)) u69), (cond d.b19 (.pointer (some ⟨gB, 0, none⟩)) u70), (cond d.b20 (.pointer (some ⟨gB, 1, none⟩)) u71), (cond d.b21 (.int .i64 ((rd_T101 l ((j2 : Nat) : Int)).f0.f1)) u72), (cond d.b22 (.int .i64 ((atV ((1 + m : Nat) : Int) (rd_T101 l ((i : Nat) : Int)).f0.f1 (rd_T101 l ((j1 : Nat) : Int)).f0.f1 (rd_T101 l ((j2 : Nat) : Int)).f0.f1))) u73), (cond d.b23 (.agg #[.int .i64 ((atV ((1 + m : Nat) : Int) (rd_T101 l ((i : Nat) : Int)).f0.f0 (rd_T101 l ((j1 : Nat) : Int)).f0.f0 (rd_T101 l ((j2 : Nat) : Int)).f0.f0)), .int .i64 ((atV ((1 + m : Nat) : Int) (rd_T101 l ((i : Nat) : Int)).f0.f1 (rd_T101 l ((j1 : Nat) : Int)).f0.f1 (rd_T101 l ((j2 : Nat) : Int)).f0.f1))]) u74), (cond d.b24 (.slice (some ⟨d.gH, 0, none⟩) 1 1) u75), (cond d.b25 d.V1 u76), u77, u78, undef, undef, undef, undef, undef], []⟩ ∧ (d.b25 = true → d.b24 = true) ∧ (d.b26 = true → d.b0 = true) ∧ (d.b26 = true → d.b25 = true) ∧ (Blks [(gA, .cells #[.int .i64 (rd_T101 l ((i : Nat) : Int)).f0.f0, .int .i64 (rd_T101 l ((i : Nat) : Int)).f0.f1, .bool (rd_T101 l ((i : Nat) : Int)).f1] 101 (0, 0)), (gC, .cells #[.int .i64 (rd_T101 l ((j1 : Nat) : Int)).f0.f0, .int .i64 (rd_T101 l ((j1 : Nat) : Int)).f0.f1, .bool (rd_T101 l ((j1 : Nat) : Int)).f1] 101 (0, 0)), (gB, .cells #[.int .i64 (rd_T101 l ((j2 : Nat) : Int)).f0.f0, .int .i64 (rd_T101 l ((j2 : Nat) : Int)).f0.f1, .bool (rd_T101 l ((j2 : Nat) : Int)).f1] 101 (0, 0))] W') ∧ (Kd.R k52 52 W' w.heap.size (Own1 (cond d.b25 d.V1 (.slice Ao2 o2.length co2))) (cond d.b25 d.V1 (.slice Ao2 o2.length co2)) (cond d.b25 (o2 ++ [⟨(atV ((1 + m : Nat) : Int) (rd_T101 l ((i : Nat) : Int)).f0.f0 (rd_T101 l ((j1 : Nat) : Int)).f0.f0 (rd_T101 l ((j2 : Nat) : Int)).f0.f0), (atV ((1 + m : Nat) : Int) (rd_T101 l ((i : Nat) : Int)).f0.f1 (rd_T101 l ((j1 : Nat) : Int)).f0.f1 (rd_T101 l ((j2 : Nat) : Int)).f0.f1)⟩]) o2)) ∧ (d.b24 = true → d.b25 = false → W'.heap[d.gH]? = some (.cells #[.int .i64 ((atV ((1 + m : Nat) : Int) (rd_T101 l ((i : Nat) : Int)).f0.f0 (rd_T101 l ((j1 : Nat) : Int)).f0.f0 (rd_T101 l ((j2 : Nat) : Int)).f0.f0)), .int .i64 ((atV ((1 + m : Nat) : Int) (rd_T101 l ((i : Nat) : Int)).f0.f1 (rd_T101 l ((j1 : Nat) : Int)).f0.f1 (rd_T101 l ((j2 : Nat) : Int)).f0.f1))] 52 (0, 0))) ∧ (Below w.heap.size w W')) ?_ ?_ ?_ ?_
       ·
        rintro lst a W' ⟨d, rfl, _⟩
        rfl
       ·
        exact ⟨⟨false, false, false, false, false, false, false, false, false, false, false, false, false, false, false, false, false, false, false, false, false, false, false, false, false, false, false, 0, undef⟩, rfl, rfl, (fun h => Bool.noConfusion h), (fun h => Bool.noConfusion h), (fun h => Bool.noConfusion h), HB.drew, (R_chg HO ((Chg.refl (fun _ => False) _).drew) (fun _ _ => id)), (fun h => Bool.noConfusion h), (below_drew HW)⟩
       ·
        rintro lst a W' i o ⟨⟨b0, b1, b2, b3, b4, b5, b6, b7, b8, b9, b10, b11, b12, b13, b14, b15, b16, b17, b18, b19, b20, b21, b22, b23, b24, b25, b26, gH, V1⟩, rfl, rfl, k0, k1, k2, hHB, hHO, hHX, hHW⟩ ho hf hd K hK
        dsimp only at k0 k1 k2 hHB hHO hHX hHW
        have hi : i < 27 := (Array.getElem?_eq_some_iff.1 ho).1
        have ho2 := ho
        rcases (show i = 0 ∨ i = 1 ∨ i = 2 ∨ i = 3 ∨ i = 4 ∨ i = 5 ∨ i = 6 ∨ i = 7 ∨ i = 8 ∨ i = 9 ∨ i = 10 ∨ i = 11 ∨ i = 12 ∨ i = 13 ∨ i = 14 ∨ i = 15 ∨ i = 16 ∨ i = 17 ∨ i = 18 ∨ i = 19 ∨ i = 20 ∨ i = 21 ∨ i = 22 ∨ i = 23 ∨ i = 24 ∨ i = 25 ∨ i = 26 by omega) with rfl | rfl | rfl | rfl | rfl | rfl | rfl | rfl | rfl | rfl | rfl | rfl | rfl | rfl | rfl | rfl | rfl | rfl | rfl | rfl | rfl | rfl | rfl | rfl | rfl | rfl | rfl
        ·
         simp only [List.getElem?_toArray, List.getElem?_cons_succ, List.getElem?_cons_zero, Option.some.injEq] at ho
         subst ho
         replace hf : b0 = false := hf
         have n26 : b26 = false := Bool.eq_false_iff.mpr (fun h => absurd (k1 h) (by rw [hf]; decide))
         subst n26
         subst hf
         refine Go.Proofs.YtbmklpcheopgoaaReg.op_val ho2 rfl (v := .slice Ao2 o2.length co2) (w1 := W') ?_ (hK _ _ ⟨⟨true, b1, b2, b3, b4, b5, b6, b7, b8, b9, b10, b11, b12, b13, b14, b15, b16, b17, b18, b19, b20, b21, b22, b23, b24, b25, false, gH, V1⟩, rfl, rfl, (k0), (fun _ => rfl), (fun h => Bool.noConfusion h), hHB, hHO, hHX, hHW⟩)
         simp [go_sem, hu, hu2]
        ·
         simp only [List.getElem?_toArray, List.getElem?_cons_succ, List.getElem?_cons_zero, Option.some.injEq] at ho
         subst ho
         replace hf : b1 = false := hf
         subst hf
         refine Go.Proofs.YtbmklpcheopgoaaReg.op_val ho2 rfl (v := .int .i64 (((1 + m : Nat) : Int))) (w1 := W') ?_ (hK _ _ ⟨⟨b0, true, b2, b3, b4, b5, b6, b7, b8, b9, b10, b11, b12, b13, b14, b15, b16, b17, b18, b19, b20, b21, b22, b23, b24, b25, b26, gH, V1⟩, rfl, rfl, (k0), (k1), (k2), hHB, hHO, hHX, hHW⟩)
         simp [go_sem, hu, hu2]
        ·
         simp only [List.getElem?_toArray, List.getElem?_cons_succ, List.getElem?_cons_zero, Option.some.injEq] at ho
         subst ho
         replace hf : b2 = false := hf
         subst hf
         refine Go.Proofs.YtbmklpcheopgoaaReg.op_val ho2 rfl (v := .pointer (some ⟨gA, 0, none⟩)) (w1 := W') ?_ (hK _ _ ⟨⟨b0, b1, true, b3, b4, b5, b6, b7, b8, b9, b10, b11, b12, b13, b14, b15, b16, b17, b18, b19, b20, b21, b22, b23, b24, b25, b26, gH, V1⟩, rfl, rfl, (k0), (k1), (k2), hHB, hHO, hHX, hHW⟩)
         simp [go_sem, hu, hu2]
        ·
         simp only [List.getElem?_toArray, List.getElem?_cons_succ, List.getElem?_cons_zero, Option.some.injEq] at ho
         subst ho
         replace hf : b3 = false := hf
         have d2 : b2 = true := hd ⟨2, .data⟩ (by simp) rfl
         subst d2
         subst hf
         refine Go.Proofs.YtbmklpcheopgoaaReg.op_val ho2 rfl (v := .pointer (some ⟨gA, 0, none⟩)) (w1 := W') ?_ (hK _ _ ⟨⟨b0, b1, true, true, b4, b5, b6, b7, b8, b9, b10, b11, b12, b13, b14, b15, b16, b17, b18, b19, b20, b21, b22, b23, b24, b25, b26, gH, V1⟩, rfl, rfl, (k0), (k1), (k2), hHB, hHO, hHX, hHW⟩)
         simp [go_sem, hu, hu2]
        ·
         simp only [List.getElem?_toArray, List.getElem?_cons_succ, List.getElem?_cons_zero, Option.some.injEq] at ho
         subst ho
         replace hf : b4 = false := hf
         have d3 : b3 = true := hd ⟨3, .data⟩ (by simp) rfl
         subst d3
         subst hf
         refine Go.Proofs.YtbmklpcheopgoaaReg.op_val ho2 rfl (v := .int .i64 ((rd_T101 l ((i : Nat) : Int)).f0.f0)) (w1 := W') ?_ (hK _ _ ⟨⟨b0, b1, b2, true, true, b5, b6, b7, b8, b9, b10, b11, b12, b13, b14, b15, b16, b17, b18, b19, b20, b21, b22, b23, b24, b25, b26, gH, V1⟩, rfl, rfl, (k0), (k1), (k2), hHB, hHO, hHX, hHW⟩)
         simp [go_sem, hu, hu2, (Blks.cell hHB 0 rfl 0)]
        ·
         simp only [List.getElem?_toArray, List.getElem?_cons_succ, List.getElem?_cons_zero, Option.some.injEq] at ho
         subst ho
         replace hf : b5 = false := hf
         subst hf
         refine Go.Proofs.YtbmklpcheopgoaaReg.op_val ho2 rfl (v := .pointer (some ⟨gC, 0, none⟩)) (w1 := W') ?_ (hK _ _ ⟨⟨b0, b1, b2, b3, b4, true, b6, b7, b8, b9, b10, b11, b12, b13, b14, b15, b16, b17, b18, b19, b20, b21, b22, b23, b24, b25, b26, gH, V1⟩, rfl, rfl, (k0), (k1), (k2), hHB, hHO, hHX, hHW⟩)
         simp [go_sem, hu, hu2]
        ·
         simp only [List.getElem?_toArray, List.getElem?_cons_succ, List.getElem?_cons_zero, Option.some.injEq] at ho
         subst ho
         replace hf : b6 = false := hf
         have d5 : b5 = true := hd ⟨5, .data⟩ (by simp) rfl
         subst d5
         subst hf
         refine Go.Proofs.YtbmklpcheopgoaaReg.op_val ho2 rfl (v := .pointer (some ⟨gC, 0, none⟩)) (w1 := W') ?_ (hK _ _ ⟨⟨b0, b1, b2, b3, b4, true, true, b7, b8, b9, b10, b11, b12, b13, b14, b15, b16, b17, b18, b19, b20, b21, b22, b23, b24, b25, b26, gH, V1⟩, rfl, rfl, (k0), (k1), (k2), hHB, hHO, hHX, hHW⟩)
         simp [go_sem, hu, hu2]
        ·
         simp only [List.getElem?_toArray, List.getElem?_cons_succ, List.getElem?_cons_zero, Option.some.injEq] at ho
         subst ho
         replace hf : b7 = false := hf
         have d6 : b6 = true := hd ⟨6, .data⟩ (by simp) rfl
         subst d6
         subst hf
         refine Go.Proofs.YtbmklpcheopgoaaReg.op_val ho2 rfl (v := .int .i64 ((rd_T101 l ((j1 : Nat) : Int)).f0.f0)) (w1 := W') ?_ (hK _ _ ⟨⟨b0, b1, b2, b3, b4, b5, true, true, b8, b9, b10, b11, b12, b13, b14, b15, b16, b17, b18, b19, b20, b21, b22, b23, b24, b25, b26, gH, V1⟩, rfl, rfl, (k0), (k1), (k2), hHB, hHO, hHX, hHW⟩)
         simp [go_sem, hu, hu2, (Blks.cell hHB 1 rfl 0)]
        ·
         simp only [List.getElem?_toArray, List.getElem?_cons_succ, List.getElem?_cons_zero, Option.some.injEq] at ho
         subst ho
         replace hf : b8 = false := hf
         subst hf
         refine Go.Proofs.YtbmklpcheopgoaaReg.op_val ho2 rfl (v := .pointer (some ⟨gB, 0, none⟩)) (w1 := W') ?_ (hK _ _ ⟨⟨b0, b1, b2, b3, b4, b5, b6, b7, true, b9, b10, b11, b12, b13, b14, b15, b16, b17, b18, b19, b20, b21, b22, b23, b24, b25, b26, gH, V1⟩, rfl, rfl, (k0), (k1), (k2), hHB, hHO, hHX, hHW⟩)
         simp [go_sem, hu, hu2]
        ·
         simp only [List.getElem?_toArray, List.getElem?_cons_succ, List.getElem?_cons_zero, Option.some.injEq] at ho
         subst ho
         replace hf : b9 = false := hf
         have d8 : b8 = true := hd ⟨8, .data⟩ (by simp) rfl
         subst d8
         subst hf
         refine Go.Proofs.YtbmklpcheopgoaaReg.op_val ho2 rfl (v := .pointer (some ⟨gB, 0, none⟩)) (w1 := W') ?_ (hK _ _ ⟨⟨b0, b1, b2, b3, b4, b5, b6, b7, true, true, b10, b11, b12, b13, b14, b15, b16, b17, b18, b19, b20, b21, b22, b23, b24, b25, b26, gH, V1⟩, rfl, rfl, (k0), (k1), (k2), hHB, hHO, hHX, hHW⟩)
         simp [go_sem, hu, hu2]
        ·
         simp only [List.getElem?_toArray, List.getElem?_cons_succ, List.getElem?_cons_zero, Option.some.injEq] at ho
         subst ho
         replace hf : b10 = false := hf
         have d9 : b9 = true := hd ⟨9, .data⟩ (by simp) rfl
         subst d9
         subst hf
         refine Go.Proofs.YtbmklpcheopgoaaReg.op_val ho2 rfl (v := .int .i64 ((rd_T101 l ((j2 : Nat) : Int)).f0.f0)) (w1 := W') ?_ (hK _ _ ⟨⟨b0, b1, b2, b3, b4, b5, b6, b7, b8, true, true, b11, b12, b13, b14, b15, b16, b17, b18, b19, b20, b21, b22, b23, b24, b25, b26, gH, V1⟩, rfl, rfl, (k0), (k1), (k2), hHB, hHO, hHX, hHW⟩)
         simp [go_sem, hu, hu2, (Blks.cell hHB 2 rfl 0)]
        ·
         simp only [List.getElem?_toArray, List.getElem?_cons_succ, List.getElem?_cons_zero, Option.some.injEq] at ho
         subst ho
         replace hf : b11 = false := hf
         have d1 : b1 = true := hd ⟨1, .data⟩ (by simp) rfl
         have d4 : b4 = true := hd ⟨4, .data⟩ (by simp) rfl
         have d7 : b7 = true := hd ⟨7, .data⟩ (by simp) rfl
         have d10 : b10 = true := hd ⟨10, .data⟩ (by simp) rfl
         subst d1
         subst d4
         subst d7
         subst d10
         subst hf
         refine Go.Proofs.YtbmklpcheopgoaaReg.op_wp ho2 rfl (op_call Try.func56 (by kernel_rfl) rfl #[.int .i64 (((1 + m : Nat) : Int)), .int .i64 ((rd_T101 l ((i : Nat) : Int)).f0.f0), .int .i64 ((rd_T101 l ((j1 : Nat) : Int)).f0.f0), .int .i64 ((rd_T101 l ((j2 : Nat) : Int)).f0.f0)] rfl (by simp only [List.map_toArray, List.map_cons, List.map_nil]; rfl) ?_)
         refine (outline_at.calls _ _ _ _ _ W' (atV_f _ _ _ _)).mono ?_
         rintro e1 W2 ⟨rfl, ⟨nd, rfl⟩⟩
         exact ⟨_, rfl, (hK _ _ ⟨⟨b0, true, b2, b3, true, b5, b6, true, b8, b9, true, true, b12, b13, b14, b15, b16, b17, b18, b19, b20, b21, b22, b23, b24, b25, b26, gH, V1⟩, rfl, rfl, (k0), (k1), (k2), (hHB.drewN nd), (R_chg hHO ((Chg.refl (fun _ => False) _).drewN nd) (fun _ _ => id)), (fun h1 h2 => kN (hHX h1 h2) nd), (bN hHW nd)⟩)⟩
        ·
         simp only [List.getElem?_toArray, List.getElem?_cons_succ, List.getElem?_cons_zero, Option.some.injEq] at ho
         subst ho
         replace hf : b12 = false := hf
         subst hf
         refine Go.Proofs.YtbmklpcheopgoaaReg.op_val ho2 rfl (v := .int .i64 (((1 + m : Nat) : Int))) (w1 := W') ?_ (hK _ _ ⟨⟨b0, b1, b2, b3, b4, b5, b6, b7, b8, b9, b10, b11, true, b13, b14, b15, b16, b17, b18, b19, b20, b21, b22, b23, b24, b25, b26, gH, V1⟩, rfl, rfl, (k0), (k1), (k2), hHB, hHO, hHX, hHW⟩)
         simp [go_sem, hu, hu2]
        ·
         simp only [List.getElem?_toArray, List.getElem?_cons_succ, List.getElem?_cons_zero, Option.some.injEq] at ho
         subst ho
         replace hf : b13 = false := hf
         subst hf
         refine Go.Proofs.YtbmklpcheopgoaaReg.op_val ho2 rfl (v := .pointer (some ⟨gA, 0, none⟩)) (w1 := W') ?_ (hK _ _ ⟨⟨b0, b1, b2, b3, b4, b5, b6, b7, b8, b9, b10, b11, b12, true, b14, b15, b16, b17, b18, b19, b20, b21, b22, b23, b24, b25, b26, gH, V1⟩, rfl, rfl, (k0), (k1), (k2), hHB, hHO, hHX, hHW⟩)
         simp [go_sem, hu, hu2]
        ·
         simp only [List.getElem?_toArray, List.getElem?_cons_succ, List.getElem?_cons_zero, Option.some.injEq] at ho
         subst ho
         replace hf : b14 = false := hf
         have d13 : b13 = true := hd ⟨13, .data⟩ (by simp) rfl
         subst d13
         subst hf
         refine Go.Proofs.YtbmklpcheopgoaaReg.op_val ho2 rfl (v := .pointer (some ⟨gA, 1, none⟩)) (w1 := W') ?_ (hK _ _ ⟨⟨b0, b1, b2, b3, b4, b5, b6, b7, b8, b9, b10, b11, b12, true, true, b15, b16, b17, b18, b19, b20, b21, b22, b23, b24, b25, b26, gH, V1⟩, rfl, rfl, (k0), (k1), (k2), hHB, hHO, hHX, hHW⟩)
         simp [go_sem, hu, hu2]
        ·
         simp only [List.getElem?_toArray, List.getElem?_cons_succ, List.getElem?_cons_zero, Option.some.injEq] at ho
         subst ho
         replace hf : b15 = false := hf
         have d14 : b14 = true := hd ⟨14, .data⟩ (by simp) rfl
         subst d14
         subst hf
         refine Go.Proofs.YtbmklpcheopgoaaReg.op_val ho2 rfl (v := .int .i64 ((rd_T101 l ((i : Nat) : Int)).f0.f1)) (w1 := W') ?_ (hK _ _ ⟨⟨b0, b1, b2, b3, b4, b5, b6, b7, b8, b9, b10, b11, b12, b13, true, true, b16, b17, b18, b19, b20, b21, b22, b23, b24, b25, b26, gH, V1⟩, rfl, rfl, (k0), (k1), (k2), hHB, hHO, hHX, hHW⟩)
         simp [go_sem, hu, hu2, (Blks.cell hHB 0 rfl 1)]
        ·
         simp only [List.getElem?_toArray, List.getElem?_cons_succ, List.getElem?_cons_zero, Option.some.injEq] at ho
         subst ho
         replace hf : b16 = false := hf
         subst hf
         refine Go.Proofs.YtbmklpcheopgoaaReg.op_val ho2 rfl (v := .pointer (some ⟨gC, 0, none⟩)) (w1 := W') ?_ (hK _ _ ⟨⟨b0, b1, b2, b3, b4, b5, b6, b7, b8, b9, b10, b11, b12, b13, b14, b15, true, b17, b18, b19, b20, b21, b22, b23, b24, b25, b26, gH, V1⟩, rfl, rfl, (k0), (k1), (k2), hHB, hHO, hHX, hHW⟩)
         simp [go_sem, hu, hu2]
        ·
         simp only [List.getElem?_toArray, List.getElem?_cons_succ, List.getElem?_cons_zero, Option.some.injEq] at ho
         subst ho
         replace hf : b17 = false := hf
         have d16 : b16 = true := hd ⟨16, .data⟩ (by simp) rfl
         subst d16
         subst hf
         refine Go.Proofs.YtbmklpcheopgoaaReg.op_val ho2 rfl (v := .pointer (some ⟨gC, 1, none⟩)) (w1 := W') ?_ (hK _ _ ⟨⟨b0, b1, b2, b3, b4, b5, b6, b7, b8, b9, b10, b11, b12, b13, b14, b15, true, true, b18, b19, b20, b21, b22, b23, b24, b25, b26, gH, V1⟩, rfl, rfl, (k0), (k1), (k2), hHB, hHO, hHX, hHW⟩)
         simp [go_sem, hu, hu2]
        ·
         simp only [List.getElem?_toArray, List.getElem?_cons_succ, List.getElem?_cons_zero, Option.some.injEq] at ho
         subst ho
         replace hf : b18 = false := hf
         have d17 : b17 = true := hd ⟨17, .data⟩ (by simp) rfl
         subst d17
         subst hf
         refine Go.Proofs.YtbmklpcheopgoaaReg.op_val ho2 rfl (v := .int .i64 ((rd_T101 l ((j1 : Nat) : Int)).f0.f1)) (w1 := W') ?_ (hK _ _ ⟨⟨b0, b1, b2, b3, b4, b5, b6, b7, b8, b9, b10, b11, b12, b13, b14, b15, b16, true, true, b19, b20, b21, b22, b23, b24, b25, b26, gH, V1⟩, rfl, rfl, (k0), (k1), (k2), hHB, hHO, hHX, hHW⟩)
         simp [go_sem, hu, hu2, (Blks.cell hHB 1 rfl 1)]
        ·
         simp only [List.getElem?_toArray, List.getElem?_cons_succ, List.getElem?_cons_zero, Option.some.injEq] at ho
         subst ho
         replace hf : b19 = false := hf
         subst hf
         refine Go.Proofs.YtbmklpcheopgoaaReg.op_val ho2 rfl (v := .pointer (some ⟨gB, 0, none⟩)) (w1 := W') ?_ (hK _ _ ⟨⟨b0, b1, b2, b3, b4, b5, b6, b7, b8, b9, b10, b11, b12, b13, b14, b15, b16, b17, b18, true, b20, b21, b22, b23, b24, b25, b26, gH, V1⟩, rfl, rfl, (k0), (k1), (k2), hHB, hHO, hHX, hHW⟩)
         simp [go_sem, hu, hu2]
        ·
         simp only [List.getElem?_toArray, List.getElem?_cons_succ, List.getElem?_cons_zero, Option.some.injEq] at ho
         subst ho
         replace hf : b20 = false := hf
         have d19 : b19 = true := hd ⟨19, .data⟩ (by simp) rfl
         subst d19
         subst hf
         refine Go.Proofs.YtbmklpcheopgoaaReg.op_val ho2 rfl (v := .pointer (some ⟨gB, 1, none⟩)) (w1 := W') ?_ (hK _ _ ⟨⟨b0, b1, b2, b3, b4, b5, b6, b7, b8, b9, b10, b11, b12, b13, b14, b15, b16, b17, b18, true, true, b21, b22, b23, b24, b25, b26, gH, V1⟩, rfl, rfl, (k0), (k1), (k2), hHB, hHO, hHX, hHW⟩)
         simp [go_sem, hu, hu2]
        ·
         simp only [List.getElem?_toArray, List.getElem?_cons_succ, List.getElem?_cons_zero, Option.some.injEq] at ho
         subst ho
         replace hf : b21 = false := hf
         have d20 : b20 = true := hd ⟨20, .data⟩ (by simp) rfl
         subst d20
         subst hf
         refine Go.Proofs.YtbmklpcheopgoaaReg.op_val ho2 rfl (v := .int .i64 ((rd_T101 l ((j2 : Nat) : Int)).f0.f1)) (w1 := W') ?_ (hK _ _ ⟨⟨b0, b1, b2, b3, b4, b5, b6, b7, b8, b9, b10, b11, b12, b13, b14, b15, b16, b17, b18, b19, true, true, b22, b23, b24, b25, b26, gH, V1⟩, rfl, rfl, (k0), (k1), (k2), hHB, hHO, hHX, hHW⟩)
         simp [go_sem, hu, hu2, (Blks.cell hHB 2 rfl 1)]
        ·
         simp only [List.getElem?_toArray, List.getElem?_cons_succ, List.getElem?_cons_zero, Option.some.injEq] at ho
         subst ho
         replace hf : b22 = false := hf
         have d11 : b11 = true := hd ⟨11, .chain⟩ (by simp) rfl
         have d12 : b12 = true := hd ⟨12, .data⟩ (by simp) rfl
         have d15 : b15 = true := hd ⟨15, .data⟩ (by simp) rfl
         have d18 : b18 = true := hd ⟨18, .data⟩ (by simp) rfl
         have d21 : b21 = true := hd ⟨21, .data⟩ (by simp) rfl
         subst d11
         subst d12
         subst d15
         subst d18
         subst d21
         subst hf
         refine Go.Proofs.YtbmklpcheopgoaaReg.op_wp ho2 rfl (op_call Try.func56 (by kernel_rfl) rfl #[.int .i64 (((1 + m : Nat) : Int)), .int .i64 ((rd_T101 l ((i : Nat) : Int)).f0.f1), .int .i64 ((rd_T101 l ((j1 : Nat) : Int)).f0.f1), .int .i64 ((rd_T101 l ((j2 : Nat) : Int)).f0.f1)] rfl (by simp only [List.map_toArray, List.map_cons, List.map_nil]; rfl) ?_)
         refine (outline_at.calls _ _ _ _ _ W' (atV_f _ _ _ _)).mono ?_
         rintro e1 W2 ⟨rfl, ⟨nd, rfl⟩⟩
         exact ⟨_, rfl, (hK _ _ ⟨⟨b0, b1, b2, b3, b4, b5, b6, b7, b8, b9, b10, true, true, b13, b14, true, b16, b17, true, b19, b20, true, true, b23, b24, b25, b26, gH, V1⟩, rfl, rfl, (k0), (k1), (k2), (hHB.drewN nd), (R_chg hHO ((Chg.refl (fun _ => False) _).drewN nd) (fun _ _ => id)), (fun h1 h2 => kN (hHX h1 h2) nd), (bN hHW nd)⟩)⟩
        ·
         simp only [List.getElem?_toArray, List.getElem?_cons_succ, List.getElem?_cons_zero, Option.some.injEq] at ho
         subst ho
         replace hf : b23 = false := hf
         have d11 : b11 = true := hd ⟨11, .data⟩ (by simp) rfl
         have d22 : b22 = true := hd ⟨22, .data⟩ (by simp) rfl
         subst d11
         subst d22
         subst hf
         refine Go.Proofs.YtbmklpcheopgoaaReg.op_val ho2 rfl (v := .agg #[.int .i64 ((atV ((1 + m : Nat) : Int) (rd_T101 l ((i : Nat) : Int)).f0.f0 (rd_T101 l ((j1 : Nat) : Int)).f0.f0 (rd_T101 l ((j2 : Nat) : Int)).f0.f0)), .int .i64 ((atV ((1 + m : Nat) : Int) (rd_T101 l ((i : Nat) : Int)).f0.f1 (rd_T101 l ((j1 : Nat) : Int)).f0.f1 (rd_T101 l ((j2 : Nat) : Int)).f0.f1))]) (w1 := W') ?_ (hK _ _ ⟨⟨b0, b1, b2, b3, b4, b5, b6, b7, b8, b9, b10, true, b12, b13, b14, b15, b16, b17, b18, b19, b20, b21, true, true, b24, b25, b26, gH, V1⟩, rfl, rfl, (k0), (k1), (k2), hHB, hHO, hHX, hHW⟩)
         simp [go_sem, hu, hu2]
        ·
         simp only [List.getElem?_toArray, List.getElem?_cons_succ, List.getElem?_cons_zero, Option.some.injEq] at ho
         subst ho
         replace hf : b24 = false := hf
         have d23 : b23 = true := hd ⟨23, .data⟩ (by simp) rfl
         subst d23
         have n25 : b25 = false := Bool.eq_false_iff.mpr (fun h => absurd (k0 h) (by rw [hf]; decide))
         have n26 : b26 = false := Bool.eq_false_iff.mpr (fun h => absurd (k2 h) (by rw [n25]; decide))
         subst n25
         subst n26
         subst hf
         refine Go.Proofs.YtbmklpcheopgoaaReg.op_val ho2 rfl (v := .slice (some ⟨(W'.heap.size), 0, none⟩) 1 1) (w1 := W'.alloc (.cells #[.int .i64 ((atV ((1 + m : Nat) : Int) (rd_T101 l ((i : Nat) : Int)).f0.f0 (rd_T101 l ((j1 : Nat) : Int)).f0.f0 (rd_T101 l ((j2 : Nat) : Int)).f0.f0)), .int .i64 ((atV ((1 + m : Nat) : Int) (rd_T101 l ((i : Nat) : Int)).f0.f1 (rd_T101 l ((j1 : Nat) : Int)).f0.f1 (rd_T101 l ((j2 : Nat) : Int)).f0.f1))] 52)) ?_ (hK _ _ ⟨⟨b0, b1, b2, b3, b4, b5, b6, b7, b8, b9, b10, b11, b12, b13, b14, b15, b16, b17, b18, b19, b20, b21, b22, true, true, false, false, W'.heap.size, V1⟩, rfl, rfl, (fun _ => rfl), (fun h => Bool.noConfusion h), (fun h => Bool.noConfusion h), (hHB.alloc _).tail, (R_chg hHO ((Chg.refl (fun _ => False) _).alloc _) (fun _ _ => id)), (fun _ _ => blk_new W' (.cells #[.int .i64 ((atV ((1 + m : Nat) : Int) (rd_T101 l ((i : Nat) : Int)).f0.f0 (rd_T101 l ((j1 : Nat) : Int)).f0.f0 (rd_T101 l ((j2 : Nat) : Int)).f0.f0)), .int .i64 ((atV ((1 + m : Nat) : Int) (rd_T101 l ((i : Nat) : Int)).f0.f1 (rd_T101 l ((j1 : Nat) : Int)).f0.f1 (rd_T101 l ((j2 : Nat) : Int)).f0.f1))] 52)), (hHW.alloc hHW.size _)⟩)
         simp [go_sem, hu]
        ·
         simp only [List.getElem?_toArray, List.getElem?_cons_succ, List.getElem?_cons_zero, Option.some.injEq] at ho
         subst ho
         replace hf : b25 = false := hf
         have d0 : b0 = true := hd ⟨0, .data⟩ (by simp) rfl
         have d22 : b22 = true := hd ⟨22, .chain⟩ (by simp) rfl
         have d24 : b24 = true := hd ⟨24, .data⟩ (by simp) rfl
         subst d0
         subst d22
         subst d24
         have n26 : b26 = false := Bool.eq_false_iff.mpr (fun h => absurd (k2 h) (by rw [hf]; decide))
         subst n26
         subst hf
         obtain ⟨vn, wn, hrn, hRn, hgn, hatn⟩ := run_append1 (P := Try.prog) (ty := 42) k52 w.heap.size Try.underlying42 info_pt2 rfl (by decide) (by decide) (.slice Ao2 o2.length co2) o2 ⟨(atV ((1 + m : Nat) : Int) (rd_T101 l ((i : Nat) : Int)).f0.f0 (rd_T101 l ((j1 : Nat) : Int)).f0.f0 (rd_T101 l ((j2 : Nat) : Int)).f0.f0), (atV ((1 + m : Nat) : Int) (rd_T101 l ((i : Nat) : Int)).f0.f1 (rd_T101 l ((j1 : Nat) : Int)).f0.f1 (rd_T101 l ((j2 : Nat) : Int)).f0.f1)⟩ [.int .i64 ((atV ((1 + m : Nat) : Int) (rd_T101 l ((i : Nat) : Int)).f0.f0 (rd_T101 l ((j1 : Nat) : Int)).f0.f0 (rd_T101 l ((j2 : Nat) : Int)).f0.f0)), .int .i64 ((atV ((1 + m : Nat) : Int) (rd_T101 l ((i : Nat) : Int)).f0.f1 (rd_T101 l ((j1 : Nat) : Int)).f0.f1 (rd_T101 l ((j2 : Nat) : Int)).f0.f1))] (fun _ => True) (fun _ => False) ⟨gH, 0, none⟩ 1 (fun j u hj => by rw [add_plain, blk_cell (hHX rfl rfl) j]; simpa using hj) (k52_mkM _ _ _ _) (fun _ hk => hk.elim) (fun _ _ => trivial) (R_all hHO) hHW.size (by omega)
         refine Go.Proofs.YtbmklpcheopgoaaReg.op_val ho2 rfl (v := vn) (w1 := wn) ?_ (hK _ _ ⟨⟨true, b1, b2, b3, b4, b5, b6, b7, b8, b9, b10, b11, b12, b13, b14, b15, b16, b17, b18, b19, b20, b21, true, b23, true, true, false, gH, vn⟩, rfl, rfl, (fun _ => rfl), (fun _ => rfl), (fun _ => rfl), (hHB.chg (Chg.of_grownBy hgn) (fun b hb e => hRow25 hHB hHO b hb e)), (R_own1 flat_pt2 hRn), (fun _ h => Bool.noConfusion h), (pw_below_grown hHW _ hHW.size hgn (fun k hk => Kd.R_base hHO k hk))⟩)
         exact Go.Proofs.YtbmklpcheopgoaaIt.run_app rfl rfl rfl hrn
        ·
         simp only [List.getElem?_toArray, List.getElem?_cons_succ, List.getElem?_cons_zero, Option.some.injEq] at ho
         subst ho
         replace hf : b26 = false := hf
         have d0 : b0 = true := hd ⟨0, .phase⟩ (by simp) rfl
         have d1 : b1 = true := hd ⟨1, .phase⟩ (by simp) rfl
         have d2 : b2 = true := hd ⟨2, .phase⟩ (by simp) rfl
         have d3 : b3 = true := hd ⟨3, .phase⟩ (by simp) rfl
         have d4 : b4 = true := hd ⟨4, .phase⟩ (by simp) rfl
         have d5 : b5 = true := hd ⟨5, .phase⟩ (by simp) rfl
         have d6 : b6 = true := hd ⟨6, .phase⟩ (by simp) rfl
         have d7 : b7 = true := hd ⟨7, .phase⟩ (by simp) rfl
         have d8 : b8 = true := hd ⟨8, .phase⟩ (by simp) rfl
         have d9 : b9 = true := hd ⟨9, .phase⟩ (by simp) rfl
         have d10 : b10 = true := hd ⟨10, .phase⟩ (by simp) rfl
         have d11 : b11 = true := hd ⟨11, .phase⟩ (by simp) rfl
         have d12 : b12 = true := hd ⟨12, .phase⟩ (by simp) rfl
         have d13 : b13 = true := hd ⟨13, .phase⟩ (by simp) rfl
         have d14 : b14 = true := hd ⟨14, .phase⟩ (by simp) rfl
         have d15 : b15 = true := hd ⟨15, .phase⟩ (by simp) rfl
         have d16 : b16 = true := hd ⟨16, .phase⟩ (by simp) rfl
         have d17 : b17 = true := hd ⟨17, .phase⟩ (by simp) rfl
         have d18 : b18 = true := hd ⟨18, .phase⟩ (by simp) rfl
         have d19 : b19 = true := hd ⟨19, .phase⟩ (by simp) rfl
         have d20 : b20 = true := hd ⟨20, .phase⟩ (by simp) rfl
         have d21 : b21 = true := hd ⟨21, .phase⟩ (by simp) rfl
         have d22 : b22 = true := hd ⟨22, .phase⟩ (by simp) rfl
         have d23 : b23 = true := hd ⟨23, .phase⟩ (by simp) rfl
         have d24 : b24 = true := hd ⟨24, .phase⟩ (by simp) rfl
         have d25 : b25 = true := hd ⟨25, .data⟩ (by simp) rfl
         subst d0
         subst d1
         subst d2
         subst d3
         subst d4
         subst d5
         subst d6
         subst d7
         subst d8
         subst d9
         subst d10
         subst d11
         subst d12
         subst d13
         subst d14
         subst d15
         subst d16
         subst d17
         subst d18
         subst d19
         subst d20
         subst d21
         subst d22
         subst d23
         subst d24
         subst d25
         subst hf
         refine Go.Proofs.YtbmklpcheopgoaaReg.op_val ho2 rfl (v := V1) (w1 := W') ?_ (hK _ _ ⟨⟨true, true, true, true, true, true, true, true, true, true, true, true, true, true, true, true, true, true, true, true, true, true, true, true, true, true, true, gH, V1⟩, rfl, rfl, (fun _ => rfl), (fun _ => rfl), (fun _ => rfl), hHB, hHO, hHX, hHW⟩)
         simp [go_sem, hu, hu2]
       ·
        rintro lst a W' ⟨⟨b0, b1, b2, b3, b4, b5, b6, b7, b8, b9, b10, b11, b12, b13, b14, b15, b16, b17, b18, b19, b20, b21, b22, b23, b24, b25, b26, gH, V1⟩, rfl, rfl, k0, k1, k2, hHB, hHO, hHX, hHW⟩ hall
        dsimp only at k0 k1 k2 hHB hHO hHX hHW
        have a0 : b0 = true := hall 0 (by decide)
        have a1 : b1 = true := hall 1 (by decide)
        have a2 : b2 = true := hall 2 (by decide)
        have a3 : b3 = true := hall 3 (by decide)
        have a4 : b4 = true := hall 4 (by decide)
        have a5 : b5 = true := hall 5 (by decide)
        have a6 : b6 = true := hall 6 (by decide)
        have a7 : b7 = true := hall 7 (by decide)
        have a8 : b8 = true := hall 8 (by decide)
        have a9 : b9 = true := hall 9 (by decide)
        have a10 : b10 = true := hall 10 (by decide)
        have a11 : b11 = true := hall 11 (by decide)
        have a12 : b12 = true := hall 12 (by decide)
        have a13 : b13 = true := hall 13 (by decide)
        have a14 : b14 = true := hall 14 (by decide)
        have a15 : b15 = true := hall 15 (by decide)
        have a16 : b16 = true := hall 16 (by decide)
        have a17 : b17 = true := hall 17 (by decide)
        have a18 : b18 = true := hall 18 (by decide)
        have a19 : b19 = true := hall 19 (by decide)
        have a20 : b20 = true := hall 20 (by decide)
        have a21 : b21 = true := hall 21 (by decide)
        have a22 : b22 = true := hall 22 (by decide)
        have a23 : b23 = true := hall 23 (by decide)
        have a24 : b24 = true := hall 24 (by decide)
        have a25 : b25 = true := hall 25 (by decide)
        have a26 : b26 = true := hall 26 (by decide)
        subst a0 a1 a2 a3 a4 a5 a6 a7 a8 a9 a10 a11 a12 a13 a14 a15 a16 a17 a18 a19 a20 a21 a22 a23 a24 a25 a26
        clear k0 k1 k2
        clear hall
        have HB : Blks [(gA, .cells #[.int .i64 (rd_T101 l ((i : Nat) : Int)).f0.f0, .int .i64 (rd_T101 l ((i : Nat) : Int)).f0.f1, .bool (rd_T101 l ((i : Nat) : Int)).f1] 101 (0, 0)), (gC, .cells #[.int .i64 (rd_T101 l ((j1 : Nat) : Int)).f0.f0, .int .i64 (rd_T101 l ((j1 : Nat) : Int)).f0.f1, .bool (rd_T101 l ((j1 : Nat) : Int)).f1] 101 (0, 0)), (gB, .cells #[.int .i64 (rd_T101 l ((j2 : Nat) : Int)).f0.f0, .int .i64 (rd_T101 l ((j2 : Nat) : Int)).f0.f1, .bool (rd_T101 l ((j2 : Nat) : Int)).f1] 101 (0, 0))] W' := hHB
        have HO : Kd.R k52 52 W' w.heap.size (Own1 V1) V1 (o2 ++ [⟨(atV ((1 + m : Nat) : Int) (rd_T101 l ((i : Nat) : Int)).f0.f0 (rd_T101 l ((j1 : Nat) : Int)).f0.f0 (rd_T101 l ((j2 : Nat) : Int)).f0.f0), (atV ((1 + m : Nat) : Int) (rd_T101 l ((i : Nat) : Int)).f0.f1 (rd_T101 l ((j1 : Nat) : Int)).f0.f1 (rd_T101 l ((j2 : Nat) : Int)).f0.f1)⟩]) := hHO
        have HW : Below w.heap.size w W' := hHW
        clear hHB hHO hHX hHW
        have HH := Lib.hid (And.intro HO (And.intro HB HW))
        clear HO HB HW
        go_wp2
        refine ⟨⟨m + 1, by omega, by congr 1 <;> omega, ⟨?_, HH.out.2.1, HH.out.2.2⟩⟩, by simp [intOf]; omega⟩
        rw [HKS.out, ← List.append_assoc, HO2.out]
        exact HH.out.1
      ·
       obtain rfl : m = 8 := by omega
       have HH := Lib.hid (And.intro HO (And.intro HB HW))
       clear HO HB HW
       go_wp2
       refine ⟨⟨i + 2, out ++ curveK l i 8, by omega, by congr 1 <;> omega, by simp; omega, by rw [List.length_append, curveK_len]; omega, ⟨?_, HH.out.1, HH.out.2.2⟩⟩, by simp [intOf]; omega⟩
       rw [← hE.out.2, rowGo_off l i out hlt (by rw [hJ.out.1]; exact hons.out)]
  ·
   obtain ⟨Ao, co, hv3⟩ := Kd.R_slice HO
   subst hv3
   have hcap := (Kd.R_reads' HO).2.1
   have hc2 : out.length - 1 ≤ co := by omega
   go_wp2
   go_ret
   rw [show l.length - i = 0 by omega] at HG
   have HG : out = rowAll l := HG
   subst HG
   exact ⟨_, rfl, Kd.R_mono (Kd.R_take HO (m := (rowAll l).length - 1) (by omega)) (fun _ _ => trivial), HB⟩
end Go.Proofs.Ytbmklpcheopgoaa.H
