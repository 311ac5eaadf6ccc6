/- What the Go functions of this seat compute, as Lean functions, each with the proof that the call answers so; made by a program of this session. -/
import Derived.Test.YtbmklpcheopgoaaHx0
namespace Go.Proofs.Ytbmklpcheopgoaa.H
open Go.RowKit Go.Proofs.YtbmklpcheopgoaaW.PrintWords Go.Proofs.YtbmklpcheopgoaaW.PrintLast Go.Proofs.YtbmklpcheopgoaaW.PrintMore
attribute [local go_sem] max2_int min2_int max_two min_two max_three min_three max_four min_four   -- for this text's walks alone
set_option linter.unusedVariables false
set_option linter.unusedSimpArgs false

/-! ### outline_Right: function 22 -/
mutual
def outline_Right.j0 : Nat → Bool → List (S33) → List Int → Option (Bool)
  | 0, _, _, _ => none
  | k + 1, x17, x103000, x103001 => if x17 = true then (some false) else (outline_Right.l0 k x103000 (x103000.length : Int) 0 x103000 x103001)
def outline_Right.l0 : Nat → List (S33) → Int → Int → List (S33) → List Int → Option (Bool)
  | 0, _, _, _, _, _ => none
  | k + 1, x19, x20, x21, x103000, x103001 => if x21 < x20 then (if 0 ≤ x21 then (if x21 < (x19.length : Int) then (if (mx ((rd_T33 x19 x21).f0) ((rd_T33 x19 x21).f1)) > 16384 then (some false) else (if (mn ((rd_T33 x19 x21).f0) ((rd_T33 x19 x21).f1)) < (-16384) then (some false) else (outline_Right.l0 k x19 x20 (wrap64 (x21 + 1)) x103000 x103001))) else (none)) else (none)) else (outline_Right.l1 k (-1) x103001 (x103001.length : Int) 0 x103000 x103001)
def outline_Right.l1 : Nat → Int → List Int → Int → Int → List (S33) → List Int → Option (Bool)
  | 0, _, _, _, _, _, _ => none
  | k + 1, x5, x41, x42, x43, x103000, x103001 => if x43 < x42 then (if 0 ≤ x43 then (if x43 < (x41.length : Int) then (if (rd x41 x43) < (wrap64 (x5 + 2)) then (some false) else (if (rd x41 x43) ≥ (x103000.length : Int) then (some false) else (outline_Right.l1 k (rd x41 x43) x41 x42 (wrap64 (x43 + 1)) x103000 x103001))) else (none)) else (none)) else (some (x5 == (wrap64 ((x103000.length : Int) - 1))))
end
def outline_Right.f (k : Nat) (l0_0 : List (S33)) (l0_1 : List Int) : Option (Bool) := if (l0_0.length : Int) > 200 then (outline_Right.j0 k true l0_0 l0_1) else (outline_Right.j0 k (decide ((l0_1.length : Int) > 40)) l0_0 l0_1)
theorem outline_Right.mono_l : ∀ k, (∀ y0 y1 y2, LeO (outline_Right.j0 k y0 y1 y2) (outline_Right.j0 (k + 1) y0 y1 y2)) ∧ (∀ y0 y1 y2 y3 y4, LeO (outline_Right.l0 k y0 y1 y2 y3 y4) (outline_Right.l0 (k + 1) y0 y1 y2 y3 y4)) ∧ (∀ y0 y1 y2 y3 y4 y5, LeO (outline_Right.l1 k y0 y1 y2 y3 y4 y5) (outline_Right.l1 (k + 1) y0 y1 y2 y3 y4 y5))
  | 0 => ⟨fun _ _ _ r h => by simp [outline_Right.j0] at h, fun _ _ _ _ _ r h => by simp [outline_Right.l0] at h, fun _ _ _ _ _ _ r h => by simp [outline_Right.l1] at h⟩
  | k + 1 => by
    obtain ⟨ih0, ih1, ih2⟩ := outline_Right.mono_l k
    refine ⟨?_, ?_, ?_⟩
    · intro y0 y1 y2
      unfold outline_Right.j0
      repeat' first
      | (with_reducible exact ih0 _ _ _)
      | (with_reducible exact ih1 _ _ _ _ _)
      | (with_reducible exact ih2 _ _ _ _ _ _)
      | (with_reducible exact LeO.refl _)
      | (with_reducible exact LeO.none _)
      | (with_reducible refine LeO.ite ?_ ?_)
      | (with_reducible refine LeO.bind ?_ (fun _ => ?_))
      | exact ih0 _ _ _
      | exact ih1 _ _ _ _ _
      | exact ih2 _ _ _ _ _ _
      | exact LeO.none _
      | refine LeO.ite ?_ ?_
      | refine LeO.bind ?_ (fun _ => ?_)
    · intro y0 y1 y2 y3 y4
      unfold outline_Right.l0
      repeat' first
      | (with_reducible exact ih0 _ _ _)
      | (with_reducible exact ih1 _ _ _ _ _)
      | (with_reducible exact ih2 _ _ _ _ _ _)
      | (with_reducible exact LeO.refl _)
      | (with_reducible exact LeO.none _)
      | (with_reducible refine LeO.ite ?_ ?_)
      | (with_reducible refine LeO.bind ?_ (fun _ => ?_))
      | exact ih0 _ _ _
      | exact ih1 _ _ _ _ _
      | exact ih2 _ _ _ _ _ _
      | exact LeO.none _
      | refine LeO.ite ?_ ?_
      | refine LeO.bind ?_ (fun _ => ?_)
    · intro y0 y1 y2 y3 y4 y5
      unfold outline_Right.l1
      repeat' first
      | (with_reducible exact ih0 _ _ _)
      | (with_reducible exact ih1 _ _ _ _ _)
      | (with_reducible exact ih2 _ _ _ _ _ _)
      | (with_reducible exact LeO.refl _)
      | (with_reducible exact LeO.none _)
      | (with_reducible refine LeO.ite ?_ ?_)
      | (with_reducible refine LeO.bind ?_ (fun _ => ?_))
      | exact ih0 _ _ _
      | exact ih1 _ _ _ _ _
      | exact ih2 _ _ _ _ _ _
      | exact LeO.none _
      | refine LeO.ite ?_ ?_
      | refine LeO.bind ?_ (fun _ => ?_)
theorem outline_Right.mono : ∀ a0 a1 k, LeO (outline_Right.f k a0 a1) (outline_Right.f (k + 1) a0 a1) := by
  intro a0 a1 k
  obtain ⟨ih0, ih1, ih2⟩ := outline_Right.mono_l k
  unfold outline_Right.f
  repeat' first
      | (with_reducible exact ih0 _ _ _)
      | (with_reducible exact ih1 _ _ _ _ _)
      | (with_reducible exact ih2 _ _ _ _ _ _)
      | (with_reducible exact LeO.refl _)
      | (with_reducible exact LeO.none _)
      | (with_reducible refine LeO.ite ?_ ?_)
      | (with_reducible refine LeO.bind ?_ (fun _ => ?_))
      | exact ih0 _ _ _
      | exact ih1 _ _ _ _ _
      | exact ih2 _ _ _ _ _ _
      | exact LeO.none _
      | refine LeO.ite ?_ ?_
      | refine LeO.bind ?_ (fun _ => ?_)
set_option maxHeartbeats 8000000 in
set_option maxRecDepth 100000 in
theorem outline_Right.calls (k : Nat) (A0_0 : Option Addr) (c0_0 : Nat) (l0_0 : List (S33)) (A0_1 : Option Addr) (c0_1 : Nat) (l0_1 : List Int) (r : Bool) (w : World) (hr0_0 : Kd.C k33 w A0_0 l0_0.length l0_0) (hc0_0 : l0_0.length ≤ c0_0) (hr0_1 : Kd.C (Kd.int .i64) w A0_1 l0_1.length l0_1) (hc0_1 : l0_1.length ≤ c0_1) (h : outline_Right.f k l0_0 l0_1 = some r) :
    Calls Try.prog 22 #[.agg #[.slice A0_0 l0_0.length c0_0, .slice A0_1 l0_1.length c0_1]] w fun e w' => e = .returned (.bool r) ∧ Below w.heap.size w w' := by
  have hu25 := Try.underlying25
  have hu33 := Try.underlying33
  have HR0_0 := Aside0.mk hr0_0
  have HC0_0 := Aside0.mk hc0_0
  clear hr0_0 hc0_0
  have HR0_1 := Aside0.mk hr0_1
  have HC0_1 := Aside0.mk hc0_1
  clear hr0_1 hc0_1
  have HB := Aside0.mk (Below.refl w.heap.size w)
  have H : (if (l0_0.length : Int) > 200 then (outline_Right.j0 k true l0_0 l0_1) else (outline_Right.j0 k (decide ((l0_1.length : Int) > 40)) l0_0 l0_1)) = some r := h
  clear h
  have HC2 := Aside0.mk H
  clear H
  go_enter Try.func22, Try.ntmps22
  go_upto_region 1 with (first | ((with_reducible refine gate_dst (N := 1) rfl ?_); (try (refine gate_guard (by rfl) ?_; dsimp only)); refine box_event ?hg (N := 1) ?hd (cs := #[.slice A0_0 l0_0.length c0_0, .slice A0_1 l0_1.length c0_1]) (t := 25) ?hr ?_; (case hd => rfl); (case hg => rfl); (case hr => first | (go_simp; done) | (go_simp; rfl)); intro gb102 hg w3 hbox hb; have n0_ := Aside0.mk (below_step (by repeat (first | (with_reducible first | exact HB.out | apply below_alloc | apply pw_below_drewN | apply below_drew1) | exact HB.out)) hb); have n1_ := Aside0.mk (hbox); have n2_ := Aside0.mk ((by rw [hg]; exact (below_size (by repeat (first | (with_reducible first | exact HB.out | apply below_alloc | apply pw_below_drewN | apply below_drew1) | exact HB.out))) : w.heap.size ≤ gb102)); have n3_ := Aside0.mk ((by rw [hg]; exact (below_size (by repeat (first | (with_reducible first | exact HB.out | apply below_alloc | apply pw_below_drewN | apply below_drew1) | exact HB.out))) : w.heap.size ≤ gb102)); clear HB; have HB := n0_; have BK102 := n1_; have GW102 := n2_; have GE102 := n3_; clear n0_ n1_ n2_ n3_; clear hb hbox hg))
  (try simp only [Act.put, List.setIfInBounds_toArray, List.set_cons_zero, List.set_cons_succ])
  go_cut [17] (fun v17 wc => ∃ (kq : Nat) (x17_1 : Bool), v17 = .bool x17_1 ∧ Aside0 (outline_Right.j0 kq x17_1 l0_0 l0_1 = some r) ∧ Aside0 (kq ≤ k) ∧ Aside0 (wc.heap[gb102]? = some (.cells #[(.slice A0_0 l0_0.length c0_0), (.slice A0_1 l0_1.length c0_1)] 25 (0, 0))) ∧ Aside0 (Below w.heap.size w wc))
  case first =>
    have H := HC2.out
    clear HC2
    by_cases c4 : (l0_0.length : Int) > 200
    · rw [if_pos c4] at H
      have c4b0 : decide (200 < (l0_0.length : Int)) = true := decide_eq_true c4
      have c4b1 : decide (200 < l0_0.length) = true := decide_eq_true (by omega)
      clear c4
      (first | rw [c4b0] | (simp only [i64_w, i32_w]; rw [c4b0]) | skip)
      have H' := Aside0.mk H
      clear H
      have hcz5_0 : w3.cell? ⟨gb102, 0, none⟩ = some (.slice A0_0 l0_0.length c0_0) := (blk_cell BK102.out 0).trans rfl
      have hcz5_1 : w3.cell? ⟨gb102, 1, none⟩ = some (.slice A0_1 l0_1.length c0_1) := (blk_cell BK102.out 1).trans rfl
      have hfz5_0 := blk_frozen BK102.out 0
      have hfz5_1 := blk_frozen BK102.out 1
      go_wp2
      go_meet
      case rel => exact ⟨_, (true), (by first | rfl | (simp; done) | (simp [*]; done)), H', ⟨by first | omega | exact Nat.le_refl _⟩, ⟨by (with_reducible repeat (first | refine blk_drewN ?_ _ | refine blk_drew ?_ | refine blk_alloc ?_ _)); exact BK102.out⟩, ⟨by repeat (first | (with_reducible first | exact HB.out | apply below_alloc | apply pw_below_drewN | apply below_drew1 | refine below_set ?_ GE102.out) | exact HB.out)⟩⟩
    · rw [if_neg c4] at H
      have c4b0 : decide (200 < (l0_0.length : Int)) = false := decide_eq_false c4
      have c4b1 : decide (200 < l0_0.length) = false := decide_eq_false (by omega)
      clear c4
      (first | rw [c4b0] | (simp only [i64_w, i32_w]; rw [c4b0]) | skip)
      have H' := Aside0.mk H
      clear H
      have hcz6_0 : w3.cell? ⟨gb102, 0, none⟩ = some (.slice A0_0 l0_0.length c0_0) := (blk_cell BK102.out 0).trans rfl
      have hcz6_1 : w3.cell? ⟨gb102, 1, none⟩ = some (.slice A0_1 l0_1.length c0_1) := (blk_cell BK102.out 1).trans rfl
      have hfz6_0 := blk_frozen BK102.out 0
      have hfz6_1 := blk_frozen BK102.out 1
      go_wp2
      go_meet
      case rel => exact ⟨_, (decide ((l0_1.length : Int) > 40)), (by first | rfl | (simp; done) | (simp [*]; done)), H', ⟨by first | omega | exact Nat.le_refl _⟩, ⟨by (with_reducible repeat (first | refine blk_drewN ?_ _ | refine blk_drew ?_ | refine blk_alloc ?_ _)); exact BK102.out⟩, ⟨by repeat (first | (with_reducible first | exact HB.out | apply below_alloc | apply pw_below_drewN | apply below_drew1 | refine below_set ?_ GE102.out) | exact HB.out)⟩⟩
  case rest =>
    clear HC2
    try clear c2
    try clear p2
    try clear c4
    try clear c4b0
    try clear c4b1
    try clear hcz5_0
    try clear hcz5_1
    try clear hcz6_0
    try clear hcz6_1
    try clear hfz5_0
    try clear hfz5_1
    try clear hfz6_0
    try clear hfz6_1
    obtain ⟨kq, x17_1, rfl, HA, HJ1, BK102, HB⟩ := hcut
    cases kq with
    | zero => exact absurd HA.out (by simp [outline_Right.j0])
    | succ kj1 =>
      have H := HA.out
      clear HA
      simp only [outline_Right.j0] at H
      by_cases c7 : x17_1 = true
      · subst c7
        have H1 : (some false) = some r := by rw [if_pos rfl] at H; exact H
        clear H
        have H := H1
        clear H1
        obtain rfl := Option.some.inj H
        go_wp2
        go_ret
        exact ⟨by first | rfl | (simp [errW_none, errW_some] <;> rfl) | (simp [*, errW_none, errW_some] <;> rfl), by repeat (first | (with_reducible first | exact HB.out | apply below_alloc | apply pw_below_drewN | apply below_drew1 | refine below_set ?_ GE102.out) | exact HB.out)⟩
      · replace c7 := Bool.eq_false_iff.mpr c7
        subst c7
        have H1 : (outline_Right.l0 kj1 l0_0 (l0_0.length : Int) 0 l0_0 l0_1) = some r := by rw [if_neg (show ¬ (false = true) by decide)] at H; exact H
        clear H
        have H := H1
        clear H1
        have H' := Aside0.mk H
        clear H
        have hcz8_0 : wc.cell? ⟨gb102, 0, none⟩ = some (.slice A0_0 l0_0.length c0_0) := (blk_cell BK102.out 0).trans rfl
        have hcz8_1 : wc.cell? ⟨gb102, 1, none⟩ = some (.slice A0_1 l0_1.length c0_1) := (blk_cell BK102.out 1).trans rfl
        have hfz8_0 := blk_frozen BK102.out 0
        have hfz8_1 := blk_frozen BK102.out 1
        go_wp2
        go_loopg [21] kj1 (fun kq v21 w' => ∃ (x21_2 : Int), v21 = .int .i64 x21_2 ∧ Aside0 (outline_Right.l0 kq l0_0 (l0_0.length : Int) x21_2 l0_0 l0_1 = some r) ∧ Aside0 (kq ≤ kj1) ∧ Aside0 (w'.heap[gb102]? = some (.cells #[(.slice A0_0 l0_0.length c0_0), (.slice A0_1 l0_1.length c0_1)] 25 (0, 0))) ∧ Aside0 (Below w.heap.size w w'))
        case atStart => exact ⟨(0), (by first | rfl | (simp; done) | (simp [*]; done)), H', ⟨Nat.le_refl _⟩, ⟨by (with_reducible repeat (first | refine blk_drewN ?_ _ | refine blk_drew ?_ | refine blk_alloc ?_ _)); exact BK102.out⟩, ⟨by repeat (first | (with_reducible first | exact HB.out | apply below_alloc | apply pw_below_drewN | apply below_drew1 | refine below_set ?_ GE102.out) | exact HB.out)⟩⟩
        case round =>
          clear H'
          try clear c2
          try clear p2
          try clear c4
          try clear c4b0
          try clear c4b1
          try clear c7
          try clear hcz5_0
          try clear hcz5_1
          try clear hcz6_0
          try clear hcz6_1
          try clear hcz8_0
          try clear hcz8_1
          try clear hfz5_0
          try clear hfz5_1
          try clear hfz6_0
          try clear hfz6_1
          try clear hfz8_0
          try clear hfz8_1
          try clear p2
          obtain ⟨x21_2, rfl, HA, HK2, BK102, HB⟩ := hrel
          cases gk with
          | zero => exact absurd HA.out (by simp [outline_Right.l0])
          | succ k2 =>
            have H := HA.out
            clear HA
            simp only [outline_Right.l0] at H
            by_cases c9 : x21_2 < (l0_0.length : Int)
            · rw [if_pos c9] at H
              have c9b0 : decide (x21_2 < (l0_0.length : Int)) = true := decide_eq_true c9
              clear c9
              by_cases c10 : 0 ≤ x21_2
              · rw [if_pos c10] at H
                have c10b0 : decide (0 ≤ x21_2) = true := decide_eq_true c10
                clear c10
                by_cases c11 : x21_2 < (l0_0.length : Int)
                · rw [if_pos c11] at H
                  have c11b0 : decide (x21_2 < (l0_0.length : Int)) = true := decide_eq_true c11
                  clear c11
                  obtain ⟨ji12, hji12⟩ : ∃ j_ : Int, (mx ((rd_T33 l0_0 x21_2).f0) ((rd_T33 l0_0 x21_2).f1)) = j_ := ⟨_, rfl⟩
                  replace H : (if (ji12) > 16384 then (some false) else (if (mn ((rd_T33 l0_0 x21_2).f0) ((rd_T33 l0_0 x21_2).f1)) < (-16384) then (some false) else (outline_Right.l0 k2 l0_0 (l0_0.length : Int) (wrap64 (x21_2 + 1)) l0_0 l0_1))) = some r := by first | (rw [hji12] at H; exact H) | (simp only [hji12] at H ⊢; exact H)
                  have hji12_ : (if ((rd_T33 l0_0 x21_2).f0) < ((rd_T33 l0_0 x21_2).f1) then ((rd_T33 l0_0 x21_2).f1) else ((rd_T33 l0_0 x21_2).f0)) = ji12 := hji12
                  by_cases c13 : (ji12) > 16384
                  · rw [if_pos c13] at H
                    have c13b0 : decide (16384 < (ji12)) = true := decide_eq_true c13
                    clear c13
                    obtain rfl := Option.some.inj H
                    have p103 : 0 ≤ (x21_2 : Int) := of_decide_eq_true (by first | (with_reducible assumption) | assumption)
                    have q103 : x21_2 < (l0_0.length : Int) := of_decide_eq_true (by first | (with_reducible assumption) | assumption)
                    obtain ⟨ad103, e103, hx103_0, hx103_1, hx103_2⟩ := at_T33 HR0_0.out x21_2 p103 q103
                    cases e103
                    replace hx103_0 := (HB.out.cell (World.block_lt_of_cell? w _ hx103_0)).trans hx103_0
                    replace hx103_1 := (HB.out.cell (World.block_lt_of_cell? w _ hx103_1)).trans hx103_1
                    replace hx103_2 := (HB.out.cell (World.block_lt_of_cell? w _ hx103_2)).trans hx103_2
                    replace p103 := eq_true p103
                    replace q103 := eq_true q103
                    go_wp2_with (first | ((with_reducible refine gate_dst (N := 4) rfl ?_); (try (refine gate_guard (by rfl) ?_; dsimp only)); refine box_event ?hg (N := 4) ?hd (cs := #[.int .i64 0, .int .i64 0, .bool false]) (t := 33) ?hr ?_; (case hd => rfl); (case hg => rfl); (case hr => first | (go_simp; done) | (go_simp; rfl)); intro gb104 hg w14 hbox hb; have n0_ := Aside0.mk (blk_below (g := gb102) (o := .cells #[.slice (some ad103) l0_0.length c0_0, .slice A0_1 l0_1.length c0_1] 25 (0, 0)) (by (with_reducible repeat (first | refine blk_drewN ?_ _ | refine blk_drew ?_ | refine blk_alloc ?_ _)); exact BK102.out) hb); have n1_ := Aside0.mk (below_step (by repeat (first | (with_reducible first | exact HB.out | apply below_alloc | apply pw_below_drewN | apply below_drew1 | refine below_set ?_ GE102.out) | exact HB.out)) hb); have n2_ := Aside0.mk (hbox); have n3_ := Aside0.mk ((by rw [hg]; exact (below_size (by repeat (first | (with_reducible first | exact HB.out | apply below_alloc | apply pw_below_drewN | apply below_drew1 | refine below_set ?_ GE102.out) | exact HB.out))) : w.heap.size ≤ gb104)); have n4_ := Aside0.mk ((by rw [hg]; exact (below_size (by repeat (first | (with_reducible first | exact HB.out | apply below_alloc | apply pw_below_drewN | apply below_drew1 | refine below_set ?_ GE102.out) | exact HB.out))) : w.heap.size ≤ gb104)); have n5_ := Aside0.mk ((by rw [hg]; exact Nat.ne_of_lt (blk_lt (g := gb102) (o := .cells #[.slice (some ad103) l0_0.length c0_0, .slice A0_1 l0_1.length c0_1] 25 (0, 0)) (by (with_reducible repeat (first | refine blk_drewN ?_ _ | refine blk_drew ?_ | refine blk_alloc ?_ _)); exact BK102.out)) : gb102 ≠ gb104)); have n6_ := Aside0.mk ((by rw [hg]; exact Nat.ne_of_gt (blk_lt (g := gb102) (o := .cells #[.slice (some ad103) l0_0.length c0_0, .slice A0_1 l0_1.length c0_1] 25 (0, 0)) (by (with_reducible repeat (first | refine blk_drewN ?_ _ | refine blk_drew ?_ | refine blk_alloc ?_ _)); exact BK102.out)) : gb104 ≠ gb102)); clear BK102; clear HB; have BK102 := n0_; have HB := n1_; have BK104 := n2_; have GW104 := n3_; have GE104 := n4_; have NB102_104 := n5_; have NB104_102 := n6_; clear n0_ n1_ n2_ n3_ n4_ n5_ n6_; clear hb hbox hg; have hnb15 := NB104_102.out; have hnc15 := NB102_104.out; have hcz16_0 : w14.cell? ⟨gb104, 0, none⟩ = some (.int .i64 0) := (blk_cell BK104.out 0).trans rfl; have hcz16_1 : w14.cell? ⟨gb104, 1, none⟩ = some (.int .i64 0) := (blk_cell BK104.out 1).trans rfl; have hcz16_2 : w14.cell? ⟨gb104, 2, none⟩ = some (.bool false) := (blk_cell BK104.out 2).trans rfl; have hfz16_0 := blk_frozen BK104.out 0; have hfz16_1 := blk_frozen BK104.out 1; have hfz16_2 := blk_frozen BK104.out 2))
                    go_ret
                    exact ⟨by first | rfl | (simp [errW_none, errW_some] <;> rfl) | (simp only [← hji12]; first | rfl | (simp [errW_none, errW_some] <;> rfl)) | (simp [*, errW_none, errW_some] <;> rfl), by repeat (first | (with_reducible first | exact HB.out | apply below_alloc | apply pw_below_drewN | apply below_drew1 | refine below_set ?_ GE102.out | refine below_set ?_ GE104.out) | exact HB.out)⟩
                  · rw [if_neg c13] at H
                    have c13b0 : decide (16384 < (ji12)) = false := decide_eq_false c13
                    clear c13
                    obtain ⟨ji17, hji17⟩ : ∃ j_ : Int, (mn ((rd_T33 l0_0 x21_2).f0) ((rd_T33 l0_0 x21_2).f1)) = j_ := ⟨_, rfl⟩
                    replace H : (if (ji17) < (-16384) then (some false) else (outline_Right.l0 k2 l0_0 (l0_0.length : Int) (wrap64 (x21_2 + 1)) l0_0 l0_1)) = some r := by first | (rw [hji17] at H; exact H) | (simp only [hji17] at H ⊢; exact H)
                    have hji17_ : (if ((rd_T33 l0_0 x21_2).f1) < ((rd_T33 l0_0 x21_2).f0) then ((rd_T33 l0_0 x21_2).f1) else ((rd_T33 l0_0 x21_2).f0)) = ji17 := hji17
                    by_cases c18 : (ji17) < (-16384)
                    · rw [if_pos c18] at H
                      have c18b0 : decide ((ji17) < (-16384)) = true := decide_eq_true c18
                      clear c18
                      obtain rfl := Option.some.inj H
                      have p103 : 0 ≤ (x21_2 : Int) := of_decide_eq_true (by first | (with_reducible assumption) | assumption)
                      have q103 : x21_2 < (l0_0.length : Int) := of_decide_eq_true (by first | (with_reducible assumption) | assumption)
                      obtain ⟨ad103, e103, hx103_0, hx103_1, hx103_2⟩ := at_T33 HR0_0.out x21_2 p103 q103
                      cases e103
                      replace hx103_0 := (HB.out.cell (World.block_lt_of_cell? w _ hx103_0)).trans hx103_0
                      replace hx103_1 := (HB.out.cell (World.block_lt_of_cell? w _ hx103_1)).trans hx103_1
                      replace hx103_2 := (HB.out.cell (World.block_lt_of_cell? w _ hx103_2)).trans hx103_2
                      replace p103 := eq_true p103
                      replace q103 := eq_true q103
                      go_wp2_with (first | ((with_reducible refine gate_dst (N := 4) rfl ?_); (try (refine gate_guard (by rfl) ?_; dsimp only)); refine box_event ?hg (N := 4) ?hd (cs := #[.int .i64 0, .int .i64 0, .bool false]) (t := 33) ?hr ?_; (case hd => rfl); (case hg => rfl); (case hr => first | (go_simp; done) | (go_simp; rfl)); intro gb104 hg w19 hbox hb; have n0_ := Aside0.mk (blk_below (g := gb102) (o := .cells #[.slice (some ad103) l0_0.length c0_0, .slice A0_1 l0_1.length c0_1] 25 (0, 0)) (by (with_reducible repeat (first | refine blk_drewN ?_ _ | refine blk_drew ?_ | refine blk_alloc ?_ _)); exact BK102.out) hb); have n1_ := Aside0.mk (below_step (by repeat (first | (with_reducible first | exact HB.out | apply below_alloc | apply pw_below_drewN | apply below_drew1 | refine below_set ?_ GE102.out) | exact HB.out)) hb); have n2_ := Aside0.mk (hbox); have n3_ := Aside0.mk ((by rw [hg]; exact (below_size (by repeat (first | (with_reducible first | exact HB.out | apply below_alloc | apply pw_below_drewN | apply below_drew1 | refine below_set ?_ GE102.out) | exact HB.out))) : w.heap.size ≤ gb104)); have n4_ := Aside0.mk ((by rw [hg]; exact (below_size (by repeat (first | (with_reducible first | exact HB.out | apply below_alloc | apply pw_below_drewN | apply below_drew1 | refine below_set ?_ GE102.out) | exact HB.out))) : w.heap.size ≤ gb104)); have n5_ := Aside0.mk ((by rw [hg]; exact Nat.ne_of_lt (blk_lt (g := gb102) (o := .cells #[.slice (some ad103) l0_0.length c0_0, .slice A0_1 l0_1.length c0_1] 25 (0, 0)) (by (with_reducible repeat (first | refine blk_drewN ?_ _ | refine blk_drew ?_ | refine blk_alloc ?_ _)); exact BK102.out)) : gb102 ≠ gb104)); have n6_ := Aside0.mk ((by rw [hg]; exact Nat.ne_of_gt (blk_lt (g := gb102) (o := .cells #[.slice (some ad103) l0_0.length c0_0, .slice A0_1 l0_1.length c0_1] 25 (0, 0)) (by (with_reducible repeat (first | refine blk_drewN ?_ _ | refine blk_drew ?_ | refine blk_alloc ?_ _)); exact BK102.out)) : gb104 ≠ gb102)); clear BK102; clear HB; have BK102 := n0_; have HB := n1_; have BK104 := n2_; have GW104 := n3_; have GE104 := n4_; have NB102_104 := n5_; have NB104_102 := n6_; clear n0_ n1_ n2_ n3_ n4_ n5_ n6_; clear hb hbox hg; have hnb20 := NB104_102.out; have hnc20 := NB102_104.out; have hcz21_0 : w19.cell? ⟨gb104, 0, none⟩ = some (.int .i64 0) := (blk_cell BK104.out 0).trans rfl; have hcz21_1 : w19.cell? ⟨gb104, 1, none⟩ = some (.int .i64 0) := (blk_cell BK104.out 1).trans rfl; have hcz21_2 : w19.cell? ⟨gb104, 2, none⟩ = some (.bool false) := (blk_cell BK104.out 2).trans rfl; have hfz21_0 := blk_frozen BK104.out 0; have hfz21_1 := blk_frozen BK104.out 1; have hfz21_2 := blk_frozen BK104.out 2))
                      go_ret
                      exact ⟨by first | rfl | (simp [errW_none, errW_some] <;> rfl) | (simp only [← hji12, ← hji17]; first | rfl | (simp [errW_none, errW_some] <;> rfl)) | (simp [*, errW_none, errW_some] <;> rfl), by repeat (first | (with_reducible first | exact HB.out | apply below_alloc | apply pw_below_drewN | apply below_drew1 | refine below_set ?_ GE102.out | refine below_set ?_ GE104.out) | exact HB.out)⟩
                    · rw [if_neg c18] at H
                      have c18b0 : decide ((ji17) < (-16384)) = false := decide_eq_false c18
                      clear c18
                      have H' := Aside0.mk H
                      clear H
                      have p103 : 0 ≤ (x21_2 : Int) := of_decide_eq_true (by first | (with_reducible assumption) | assumption)
                      have q103 : x21_2 < (l0_0.length : Int) := of_decide_eq_true (by first | (with_reducible assumption) | assumption)
                      obtain ⟨ad103, e103, hx103_0, hx103_1, hx103_2⟩ := at_T33 HR0_0.out x21_2 p103 q103
                      cases e103
                      replace hx103_0 := (HB.out.cell (World.block_lt_of_cell? w _ hx103_0)).trans hx103_0
                      replace hx103_1 := (HB.out.cell (World.block_lt_of_cell? w _ hx103_1)).trans hx103_1
                      replace hx103_2 := (HB.out.cell (World.block_lt_of_cell? w _ hx103_2)).trans hx103_2
                      replace p103 := eq_true p103
                      replace q103 := eq_true q103
                      go_wp2_with (first | ((with_reducible refine gate_dst (N := 4) rfl ?_); (try (refine gate_guard (by rfl) ?_; dsimp only)); refine box_event ?hg (N := 4) ?hd (cs := #[.int .i64 0, .int .i64 0, .bool false]) (t := 33) ?hr ?_; (case hd => rfl); (case hg => rfl); (case hr => first | (go_simp; done) | (go_simp; rfl)); intro gb104 hg w22 hbox hb; have n0_ := Aside0.mk (blk_below (g := gb102) (o := .cells #[.slice (some ad103) l0_0.length c0_0, .slice A0_1 l0_1.length c0_1] 25 (0, 0)) (by (with_reducible repeat (first | refine blk_drewN ?_ _ | refine blk_drew ?_ | refine blk_alloc ?_ _)); exact BK102.out) hb); have n1_ := Aside0.mk (below_step (by repeat (first | (with_reducible first | exact HB.out | apply below_alloc | apply pw_below_drewN | apply below_drew1 | refine below_set ?_ GE102.out) | exact HB.out)) hb); have n2_ := Aside0.mk (hbox); have n3_ := Aside0.mk ((by rw [hg]; exact (below_size (by repeat (first | (with_reducible first | exact HB.out | apply below_alloc | apply pw_below_drewN | apply below_drew1 | refine below_set ?_ GE102.out) | exact HB.out))) : w.heap.size ≤ gb104)); have n4_ := Aside0.mk ((by rw [hg]; exact (below_size (by repeat (first | (with_reducible first | exact HB.out | apply below_alloc | apply pw_below_drewN | apply below_drew1 | refine below_set ?_ GE102.out) | exact HB.out))) : w.heap.size ≤ gb104)); have n5_ := Aside0.mk ((by rw [hg]; exact Nat.ne_of_lt (blk_lt (g := gb102) (o := .cells #[.slice (some ad103) l0_0.length c0_0, .slice A0_1 l0_1.length c0_1] 25 (0, 0)) (by (with_reducible repeat (first | refine blk_drewN ?_ _ | refine blk_drew ?_ | refine blk_alloc ?_ _)); exact BK102.out)) : gb102 ≠ gb104)); have n6_ := Aside0.mk ((by rw [hg]; exact Nat.ne_of_gt (blk_lt (g := gb102) (o := .cells #[.slice (some ad103) l0_0.length c0_0, .slice A0_1 l0_1.length c0_1] 25 (0, 0)) (by (with_reducible repeat (first | refine blk_drewN ?_ _ | refine blk_drew ?_ | refine blk_alloc ?_ _)); exact BK102.out)) : gb104 ≠ gb102)); clear BK102; clear HB; have BK102 := n0_; have HB := n1_; have BK104 := n2_; have GW104 := n3_; have GE104 := n4_; have NB102_104 := n5_; have NB104_102 := n6_; clear n0_ n1_ n2_ n3_ n4_ n5_ n6_; clear hb hbox hg; have hnb23 := NB104_102.out; have hnc23 := NB102_104.out; have hcz24_0 : w22.cell? ⟨gb104, 0, none⟩ = some (.int .i64 0) := (blk_cell BK104.out 0).trans rfl; have hcz24_1 : w22.cell? ⟨gb104, 1, none⟩ = some (.int .i64 0) := (blk_cell BK104.out 1).trans rfl; have hcz24_2 : w22.cell? ⟨gb104, 2, none⟩ = some (.bool false) := (blk_cell BK104.out 2).trans rfl; have hfz24_0 := blk_frozen BK104.out 0; have hfz24_1 := blk_frozen BK104.out 1; have hfz24_2 := blk_frozen BK104.out 2))
                      go_roundg k2
                      case measure => have := HJ1.out; have := HK2.out; omega
                      case rel => exact ⟨(wrap64 (x21_2 + 1)), (by first | rfl | (simp; done) | (simp [*]; done)), H', ⟨by have := HJ1.out; have := HK2.out; omega⟩, ⟨by (with_reducible repeat (first | refine blk_drewN ?_ _ | refine blk_drew ?_ | refine blk_alloc ?_ _)); refine blk_far ?_ NB102_104.out _; (with_reducible repeat (first | refine blk_drewN ?_ _ | refine blk_drew ?_ | refine blk_alloc ?_ _)); refine blk_far ?_ NB102_104.out _; (with_reducible repeat (first | refine blk_drewN ?_ _ | refine blk_drew ?_ | refine blk_alloc ?_ _)); refine blk_far ?_ NB102_104.out _; (with_reducible repeat (first | refine blk_drewN ?_ _ | refine blk_drew ?_ | refine blk_alloc ?_ _)); exact BK102.out⟩, ⟨by repeat (first | (with_reducible first | exact HB.out | apply below_alloc | apply pw_below_drewN | apply below_drew1 | refine below_set ?_ GE102.out | refine below_set ?_ GE104.out) | exact HB.out)⟩⟩
                · rw [if_neg c11] at H
                  exact absurd H (by simp)
              · rw [if_neg c10] at H
                exact absurd H (by simp)
            · rw [if_neg c9] at H
              have c9b0 : decide (x21_2 < (l0_0.length : Int)) = false := decide_eq_false c9
              clear c9
              have H' := Aside0.mk H
              clear H
              have hcz25_0 : wr.cell? ⟨gb102, 0, none⟩ = some (.slice A0_0 l0_0.length c0_0) := (blk_cell BK102.out 0).trans rfl
              have hcz25_1 : wr.cell? ⟨gb102, 1, none⟩ = some (.slice A0_1 l0_1.length c0_1) := (blk_cell BK102.out 1).trans rfl
              have hfz25_0 := blk_frozen BK102.out 0
              have hfz25_1 := blk_frozen BK102.out 1
              go_wp2
              go_loopg [5, 43] k2 (fun kq v5 v43 w' => ∃ (x5_3 : Int) (x43_3 : Int), v5 = .int .i64 x5_3 ∧ v43 = .int .i64 x43_3 ∧ Aside0 (outline_Right.l1 kq x5_3 l0_1 (l0_1.length : Int) x43_3 l0_0 l0_1 = some r) ∧ Aside0 (kq ≤ k2) ∧ Aside0 (w'.heap[gb102]? = some (.cells #[(.slice A0_0 l0_0.length c0_0), (.slice A0_1 l0_1.length c0_1)] 25 (0, 0))) ∧ Aside0 (Below w.heap.size w w'))
              case atStart => exact ⟨((-1)), (0), (by first | rfl | (simp; done) | (simp [*]; done)), (by first | rfl | (simp; done) | (simp [*]; done)), H', ⟨Nat.le_refl _⟩, ⟨by (with_reducible repeat (first | refine blk_drewN ?_ _ | refine blk_drew ?_ | refine blk_alloc ?_ _)); exact BK102.out⟩, ⟨by repeat (first | (with_reducible first | exact HB.out | apply below_alloc | apply pw_below_drewN | apply below_drew1 | refine below_set ?_ GE102.out) | exact HB.out)⟩⟩
              case round =>
                clear H'
                try clear c1
                try clear p1
                try clear q1
                try clear hx1
                try clear c2
                try clear p2
                try clear c4
                try clear c4b0
                try clear c4b1
                try clear p6
                try clear c7
                try clear c9
                try clear c9b0
                try clear c10
                try clear c10b0
                try clear p10
                try clear q10
                try clear hx10
                try clear c11
                try clear c11b0
                try clear c13
                try clear c13b0
                try clear c15
                try clear c18
                try clear c18b0
                try clear c20
                try clear c22
                try clear c23
                try clear hcz16_0
                try clear hcz16_1
                try clear hcz16_2
                try clear hcz21_0
                try clear hcz21_1
                try clear hcz21_2
                try clear hcz24_0
                try clear hcz24_1
                try clear hcz24_2
                try clear hcz25_0
                try clear hcz25_1
                try clear hcz5_0
                try clear hcz5_1
                try clear hcz6_0
                try clear hcz6_1
                try clear hcz8_0
                try clear hcz8_1
                try clear hfz16_0
                try clear hfz16_1
                try clear hfz16_2
                try clear hfz21_0
                try clear hfz21_1
                try clear hfz21_2
                try clear hfz24_0
                try clear hfz24_1
                try clear hfz24_2
                try clear hfz25_0
                try clear hfz25_1
                try clear hfz5_0
                try clear hfz5_1
                try clear hfz6_0
                try clear hfz6_1
                try clear hfz8_0
                try clear hfz8_1
                try clear hx103_0
                try clear hx103_1
                try clear hx103_2
                try clear p103
                try clear p2
                try clear q103
                obtain ⟨x5_3, x43_3, rfl, rfl, HA, HK3, BK102, HB⟩ := hrel
                cases gk with
                | zero => exact absurd HA.out (by simp [outline_Right.l1])
                | succ k3 =>
                  have H := HA.out
                  clear HA
                  simp only [outline_Right.l1] at H
                  by_cases c26 : x43_3 < (l0_1.length : Int)
                  · rw [if_pos c26] at H
                    have c26b0 : decide (x43_3 < (l0_1.length : Int)) = true := decide_eq_true c26
                    clear c26
                    by_cases c27 : 0 ≤ x43_3
                    · rw [if_pos c27] at H
                      have c27b0 : decide (0 ≤ x43_3) = true := decide_eq_true c27
                      clear c27
                      by_cases c28 : x43_3 < (l0_1.length : Int)
                      · rw [if_pos c28] at H
                        have c28b0 : decide (x43_3 < (l0_1.length : Int)) = true := decide_eq_true c28
                        clear c28
                        by_cases c29 : (rd l0_1 x43_3) < (wrap64 (x5_3 + 2))
                        · rw [if_pos c29] at H
                          have c29b0 : decide ((rd l0_1 x43_3) < (wrap64 (x5_3 + 2))) = true := decide_eq_true c29
                          clear c29
                          obtain rfl := Option.some.inj H
                          have p105 : 0 ≤ (x43_3 : Int) := of_decide_eq_true (by first | (with_reducible assumption) | assumption)
                          have q105 : x43_3 < (l0_1.length : Int) := of_decide_eq_true (by first | (with_reducible assumption) | assumption)
                          obtain ⟨ad105, e105, hx105_0⟩ := Kd.at_int HR0_1.out x43_3 p105 q105
                          cases e105
                          replace hx105_0 := (HB.out.cell (World.block_lt_of_cell? w _ hx105_0)).trans hx105_0
                          replace p105 := eq_true p105
                          replace q105 := eq_true q105
                          go_wp2
                          go_ret
                          exact ⟨by first | rfl | (simp [errW_none, errW_some] <;> rfl) | (simp [*, errW_none, errW_some] <;> rfl), by repeat (first | (with_reducible first | exact HB.out | apply below_alloc | apply pw_below_drewN | apply below_drew1 | refine below_set ?_ GE102.out) | exact HB.out)⟩
                        · rw [if_neg c29] at H
                          have c29b0 : decide ((rd l0_1 x43_3) < (wrap64 (x5_3 + 2))) = false := decide_eq_false c29
                          clear c29
                          by_cases c30 : (rd l0_1 x43_3) ≥ (l0_0.length : Int)
                          · rw [if_pos c30] at H
                            have c30b0 : decide ((l0_0.length : Int) ≤ (rd l0_1 x43_3)) = true := decide_eq_true c30
                            clear c30
                            obtain rfl := Option.some.inj H
                            have p105 : 0 ≤ (x43_3 : Int) := of_decide_eq_true (by first | (with_reducible assumption) | assumption)
                            have q105 : x43_3 < (l0_1.length : Int) := of_decide_eq_true (by first | (with_reducible assumption) | assumption)
                            obtain ⟨ad105, e105, hx105_0⟩ := Kd.at_int HR0_1.out x43_3 p105 q105
                            cases e105
                            replace hx105_0 := (HB.out.cell (World.block_lt_of_cell? w _ hx105_0)).trans hx105_0
                            replace p105 := eq_true p105
                            replace q105 := eq_true q105
                            have hcz31_0 : wr.cell? ⟨gb102, 0, none⟩ = some (.slice A0_0 l0_0.length c0_0) := (blk_cell BK102.out 0).trans rfl
                            have hcz31_1 : wr.cell? ⟨gb102, 1, none⟩ = some (.slice (some ad105) l0_1.length c0_1) := (blk_cell BK102.out 1).trans rfl
                            have hfz31_0 := blk_frozen BK102.out 0
                            have hfz31_1 := blk_frozen BK102.out 1
                            go_wp2
                            go_ret
                            exact ⟨by first | rfl | (simp [errW_none, errW_some] <;> rfl) | (simp [*, errW_none, errW_some] <;> rfl), by repeat (first | (with_reducible first | exact HB.out | apply below_alloc | apply pw_below_drewN | apply below_drew1 | refine below_set ?_ GE102.out) | exact HB.out)⟩
                          · rw [if_neg c30] at H
                            have c30b0 : decide ((l0_0.length : Int) ≤ (rd l0_1 x43_3)) = false := decide_eq_false c30
                            clear c30
                            have H' := Aside0.mk H
                            clear H
                            have p105 : 0 ≤ (x43_3 : Int) := of_decide_eq_true (by first | (with_reducible assumption) | assumption)
                            have q105 : x43_3 < (l0_1.length : Int) := of_decide_eq_true (by first | (with_reducible assumption) | assumption)
                            obtain ⟨ad105, e105, hx105_0⟩ := Kd.at_int HR0_1.out x43_3 p105 q105
                            cases e105
                            replace hx105_0 := (HB.out.cell (World.block_lt_of_cell? w _ hx105_0)).trans hx105_0
                            replace p105 := eq_true p105
                            replace q105 := eq_true q105
                            have hcz32_0 : wr.cell? ⟨gb102, 0, none⟩ = some (.slice A0_0 l0_0.length c0_0) := (blk_cell BK102.out 0).trans rfl
                            have hcz32_1 : wr.cell? ⟨gb102, 1, none⟩ = some (.slice (some ad105) l0_1.length c0_1) := (blk_cell BK102.out 1).trans rfl
                            have hfz32_0 := blk_frozen BK102.out 0
                            have hfz32_1 := blk_frozen BK102.out 1
                            go_wp2
                            go_roundg k3
                            case measure => have := HJ1.out; have := HK2.out; have := HK3.out; omega
                            case rel => exact ⟨(rd l0_1 x43_3), (wrap64 (x43_3 + 1)), (by first | rfl | (simp; done) | (simp [*]; done)), (by first | rfl | (simp; done) | (simp [*]; done)), H', ⟨by have := HJ1.out; have := HK2.out; have := HK3.out; omega⟩, ⟨by (with_reducible repeat (first | refine blk_drewN ?_ _ | refine blk_drew ?_ | refine blk_alloc ?_ _)); exact BK102.out⟩, ⟨by repeat (first | (with_reducible first | exact HB.out | apply below_alloc | apply pw_below_drewN | apply below_drew1 | refine below_set ?_ GE102.out) | exact HB.out)⟩⟩
                      · rw [if_neg c28] at H
                        exact absurd H (by simp)
                    · rw [if_neg c27] at H
                      exact absurd H (by simp)
                  · rw [if_neg c26] at H
                    have c26b0 : decide (x43_3 < (l0_1.length : Int)) = false := decide_eq_false c26
                    clear c26
                    obtain rfl := Option.some.inj H
                    have hcz33_0 : wr.cell? ⟨gb102, 0, none⟩ = some (.slice A0_0 l0_0.length c0_0) := (blk_cell BK102.out 0).trans rfl
                    have hcz33_1 : wr.cell? ⟨gb102, 1, none⟩ = some (.slice A0_1 l0_1.length c0_1) := (blk_cell BK102.out 1).trans rfl
                    have hfz33_0 := blk_frozen BK102.out 0
                    have hfz33_1 := blk_frozen BK102.out 1
                    go_wp2
                    go_ret
                    exact ⟨by first | rfl | (simp [errW_none, errW_some] <;> rfl) | (simp [*, errW_none, errW_some] <;> rfl), by repeat (first | (with_reducible first | exact HB.out | apply below_alloc | apply pw_below_drewN | apply below_drew1 | refine below_set ?_ GE102.out) | exact HB.out)⟩

-- NOT PRINTED: function 41 (outline_Contours)

end Go.Proofs.Ytbmklpcheopgoaa.H
